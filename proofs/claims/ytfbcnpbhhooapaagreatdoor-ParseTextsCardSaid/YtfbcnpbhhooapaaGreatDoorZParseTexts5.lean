/- Parts of a proof, one behind another: Wl1, Wl2, Wl3, Wl4, Wl5, Wt1, Wt2, Wp5, Wl6, Wl7, Wl8, Wl9, Wl10, WlD, Wl11, Wl12, Wl13, Wl14, WlL, Wp6, Sc7, Lt7, Wp7, Wt5, Wq6, Wq7, Wy1, Sc12, Lt12, Sc13, Lt13, Wu1, Wu2, Wu3, Wu4, Wp8, Wx1, Wx2, Wx3, Wx4, Wx5, Wx6, Wy2, WlS, Wx7, Wt6, Wu5, Wx8, Wx9, Wx10, Wx11, Wx13, Wy3, Wy4. -/
import Derived.Test.YtfbcnpbhhooapaaGreatDoorZParseTexts4
import Derived.Lib.ItoaLen
import Derived.Test.YtfbcnpbhhooapaaGreatDoorProg
import Derived.KernelRfl
set_option linter.unusedSimpArgs false
set_option linter.unusedVariables false
set_option linter.unusedSectionVars false
set_option maxHeartbeats 4000000
namespace Go.Proofs.YtfbcnpbhhooapaaGreatDoor.M
open Go Classical
def zz (c:UInt8):Int :=
 if c.toNat=32∨c.toNat=10 then 1 else if c.toNat=95∨(97≤c.toNat∧c.toNat≤122) then 2
 else if 48≤c.toNat∧c.toNat≤57 then 3 else if c.toNat=34 then 4 else if c.toNat=35 then 5 else 0
theorem zaz (c:UInt8):zfN c (zz c):=by
 apply zsc
 unfold zz
 repeat' first
  | refine⟨fun h=>?_,fun h=>?_⟩
  | ((repeat' split) <;> omega)
theorem ztg (s:List Int) (v:Int) (hs:s.length < 1000000):∀ (k i:Nat),i+k=s.length→∃ r:Int,zaH s v i r∧(0≤r↔v ∈ s.drop i)
 | 0,i,h=>⟨-1,by
   apply zaJ
   exact⟨fun h=>by omega,fun _=>rfl⟩,by rw[List.drop_eq_nil_of_le (by omega)];simp⟩
 | k+1,i,h=>by
  have hi:i < s.length:=by omega
  have hg:s[((i:Nat):Int).toNat]?=some s[i]:=by rw[Int.toNat_natCast];exact List.getElem?_eq_getElem hi
  have hd:s.drop i=s[i]::s.drop (i+1):=List.drop_eq_getElem_cons hi
  by_cases c:v=s[i]
  ·refine⟨i,?_,?_⟩
   ·apply zaJ
    exact⟨fun _=>⟨by omega,s[i],hg,fun _=>rfl,fun h=>absurd c h⟩,fun h=>by omega⟩
   rw[hd,←c];simp
  obtain⟨r,h1,h2⟩:=ztg s v hs k (i+1) (by omega)
  refine⟨r,?_,?_⟩
  ·apply zaJ
   exact⟨fun _=>⟨by omega,s[i],hg,fun h=>absurd h c,fun _=>⟨⟨by omega,by omega⟩,h1⟩⟩,fun h=>by omega⟩
  rw[hd,h2,List.mem_cons];simp[c]
theorem zoJ (s:List Int) (v:Int) (hs:s.length < 1000000):zbh s v (decide (v ∈ s)):=by
 apply zes
 obtain⟨r,h1,h2⟩:=ztg s v hs s.length 0 (by omega)
 refine⟨r,zfj s v r h1,?_⟩
 rw[List.drop_zero] at h2
 exact decide_eq_decide.2 h2
theorem zsB (s:List (List UInt8)) (v:List UInt8) (hs:s.length < 1000000):∀ (k i:Nat),i+k=s.length→∃ r:Int,zT s v i r∧(0≤r↔v ∈ s.drop i)
 | 0,i,h=>⟨-1,by
   apply zI
   exact⟨fun h=>by omega,fun _=>rfl⟩,by rw[List.drop_eq_nil_of_le (by omega)];simp⟩
 | k+1,i,h=>by
  have hi:i < s.length:=by omega
  have hg:s[((i:Nat):Int).toNat]?=some s[i]:=by rw[Int.toNat_natCast];exact List.getElem?_eq_getElem hi
  have hd:s.drop i=s[i]::s.drop (i+1):=List.drop_eq_getElem_cons hi
  by_cases c:v=s[i]
  ·refine⟨i,?_,?_⟩
   ·apply zI
    exact⟨fun _=>⟨by omega,s[i],hg,fun _=>rfl,fun h=>absurd c h⟩,fun h=>by omega⟩
   rw[hd,←c];simp
  obtain⟨r,h1,h2⟩:=zsB s v hs k (i+1) (by omega)
  refine⟨r,?_,?_⟩
  ·apply zI
   exact⟨fun _=>⟨by omega,s[i],hg,fun h=>absurd h c,fun _=>⟨⟨by omega,by omega⟩,h1⟩⟩,fun h=>by omega⟩
  rw[hd,h2,List.mem_cons];simp[c]
theorem zjw (s:List (List UInt8)) (v:List UInt8) (hs:s.length < 1000000):zao s v (decide (v ∈ s)):=by
 apply zdc
 obtain⟨r,h1,h2⟩:=zsB s v hs s.length 0 (by omega)
 refine⟨r,zbv s v r h1,?_⟩
 rw[List.drop_zero] at h2
 exact decide_eq_decide.2 h2
def inC (cl:List Int) (c:UInt8):Bool:=decide (zz c ∈ cl)
def zK (cl:List Int) (s:List UInt8):Nat:=(s.takeWhile (inC cl)).length
theorem zcR (cl:List Int):∀ s:List UInt8,zK cl s≤s.length
 | []=>Nat.le_refl _
 | c::s=>by
  unfold zK
  rw[List.takeWhile_cons]
  split
  ·have:=zcR cl s;unfold zK at this;simp only[List.length_cons];omega
  simp
theorem zoU (s:List UInt8) (cl:List Int) (hc:cl.length < 1000000) (hs:s.length≤1000000):∀ (k i:Nat),i+k=s.length→∀ r:Int,r=(i:Int)+zK cl (s.drop i)→zf4 s cl i r:=by
 intro k
 induction k with
 | zero =>
  intro i hi r hr
  apply zgT
  rw[List.drop_eq_nil_of_le (by omega)] at hr
  exact⟨fun h=>by omega,fun _=>by rw[hr];simp[zK];omega⟩
 | succ k ih =>
  intro i hi r hr
  have hlt:i < s.length:=by omega
  have hg:s[((i:Nat):Int).toNat]?=some s[i]:=by rw[Int.toNat_natCast];exact List.getElem?_eq_getElem hlt
  have hd:s.drop i=s[i]::s.drop (i+1):=List.drop_eq_getElem_cons hlt
  rw[hd,zK,List.takeWhile_cons] at hr
  apply zgT
  refine⟨fun _=>⟨by omega,s[i],hg,_,zaz _,_,zoJ cl _ hc,fun h=>?_,fun h=>?_⟩,fun h=>by omega⟩
  ·refine⟨⟨by omega,by omega⟩,ih (i+1) (by omega) r ?_⟩
   have h':inC cl s[i]=true:=h
   rw[hr,if_pos h',zK]
   simp only[List.length_cons]
   omega
  have h':¬ inC cl s[i]=true:=h
  rw[hr,if_neg h']
  simp
theorem zrj (s:List UInt8) (cl:List Int) (hc:cl.length < 1000000) (hs:s.length≤1000000):ziP s cl (zK cl s):=by
 apply zsj
 exact zoU s cl hc hs s.length 0 (by omega) _ (by simp)
theorem zg8 (c:UInt8):ziN c (decide (zz c=2)):=by
 apply zrI
 have hc:zz c=2↔(c.toNat=95∨(97≤c.toNat∧c.toNat≤122)):=by
  unfold zz
  repeat' split
  all_goals (first | omega | (constructor <;> intro h <;> first | omega | exact absurd h (by decide)))
 refine⟨fun h1=>⟨fun h2=>?_,fun h2=>?_⟩,fun h1=>?_⟩
 ·exact (decide_eq_true (hc.2 (by omega))).symm
 ·exact decide_eq_decide.2 (by rw[hc];omega)
 exact decide_eq_decide.2 (by rw[hc];omega)
theorem zdP (c:UInt8):zdi c (decide (zz c=3)):=by
 apply zrU
 have hc:zz c=3↔(48≤c.toNat∧c.toNat≤57):=by
  unfold zz
  repeat' split
  all_goals (first | omega | (constructor <;> intro h <;> first | omega | exact absurd h (by decide)))
 refine⟨fun h1=>?_,fun h1=>?_⟩
 ·exact decide_eq_decide.2 (by rw[hc];omega)
 exact (decide_eq_false (by rw[hc];omega)).symm
theorem zgl (c:UInt8):inC [2,3] c=true↔zz c=2∨zz c=3:=by
 unfold inC
 simp
theorem zli (s:List UInt8) (hs:s.length≤1000000):∀ (k i:Nat),i+k=s.length→∀ r:Int,r=(i:Int)+zK [2,3] (s.drop i)→zeh s i r:=by
 intro k
 induction k with
 | zero =>
  intro i hi r hr
  apply zhN
  rw[List.drop_eq_nil_of_le (by omega)] at hr
  exact⟨fun h=>by omega,fun _=>by rw[hr];simp[zK]⟩
 | succ k ih =>
  intro i hi r hr
  have hlt:i < s.length:=by omega
  have hg:s[((i:Nat):Int).toNat]?=some s[i]:=by rw[Int.toNat_natCast];exact List.getElem?_eq_getElem hlt
  have hd:s.drop i=s[i]::s.drop (i+1):=List.drop_eq_getElem_cons hlt
  rw[hd,zK,List.takeWhile_cons] at hr
  have next:(zz s[i]=2∨zz s[i]=3)→zeh s ((i+1:Nat):Int) r:=fun h=>ih (i+1) (by omega) r (by
   rw[hr,if_pos ((zgl _).2 h),zK]
   simp only[List.length_cons]
   omega)
  apply zhN
  refine⟨fun _=>⟨by omega,s[i],hg,_,zg8 _,fun h=>⟨⟨by omega,by omega⟩,next (.inl (of_decide_eq_true h))⟩,fun h1=>⟨_,zdP _,fun h=>⟨⟨by omega,by omega⟩,next (.inr (of_decide_eq_true h))⟩,fun h2=>?_⟩⟩,fun h=>by omega⟩
  rw[hr,if_neg]
  ·simp
  rw[zgl]
  simp only[decide_eq_true_eq] at h1 h2
  omega
def zk (s:List UInt8):Nat:=match s with
 | []=>0
 | c::_=>if zz c=2 then zK [2,3] s else 0
theorem ze0 (s:List UInt8) (hs:s.length≤1000000) (i:Nat):zfg s i ((i:Int)+zk (s.drop i)):=by
 apply zuj
 refine⟨fun h=>?_,fun h=>?_⟩
 ·rw[List.drop_eq_nil_of_le (by omega)]
  simp[zk]
 have hlt:i < s.length:=by omega
 have hg:s[((i:Nat):Int).toNat]?=some s[i]:=by rw[Int.toNat_natCast];exact List.getElem?_eq_getElem hlt
 have hd:s.drop i=s[i]::s.drop (i+1):=List.drop_eq_getElem_cons hlt
 refine⟨by omega,s[i],hg,_,zg8 _,fun h=>?_,fun h=>?_⟩
 ·refine zli s hs (s.length - i) i (by omega) _ ?_
  rw[hd,zk,if_pos (of_decide_eq_true h)]
 rw[hd,zk,if_neg (fun e=>h (decide_eq_true e))]
 simp
def zab (s:List UInt8):Bool:=decide (s≠[]∧s.length≤24∧zk s=s.length)
theorem zcd (s:List UInt8) (hs:s.length≤1000000):zcz s (zab s):=by
 apply zr6
 refine⟨fun h=>?_,fun h=>⟨fun h2=>?_,fun h2=>?_⟩⟩
 ·simp[zab,h]
 ·cases s with
  | nil=>exact absurd rfl h
  | cons c t =>
   refine⟨c,rfl,_,zaz c,fun h3=>⟨_,zrj _ _ (by decide) hs,?_⟩,fun h3=>?_⟩
   ·refine decide_eq_decide.2 ?_
    rw[zk,if_pos h3]
    constructor
    ·intro e;exact⟨by simp,by omega,by omega⟩
    intro e;have:=e.2.2;omega
   refine (decide_eq_false ?_).symm
   rw[zk,if_neg h3]
   intro e
   have:=e.2.2
   simp at this
 refine (decide_eq_false fun e=>?_).symm
 have:=e.2.1
 omega
theorem zkU (b:UInt8):∀ s:List UInt8,Lib.index s [b]=if b ∈ s then ((s.takeWhile (· != b)).length:Int) else -1
 | []=>by simp[Lib.index]
 | c::l=>by
  unfold Lib.index
  rw[zkU b l]
  by_cases h:b=c
  ·subst h
   simp[List.takeWhile_cons]
  have h':¬ c=b:=fun e=>h e.symm
  by_cases hm:b ∈ l
  ·simp[List.takeWhile_cons,h,h',hm]
  simp[h,hm]
theorem zb2 (p:UInt8→Bool):∀ s:List UInt8,s.take (s.takeWhile p).length=s.takeWhile p
 | []=>rfl
 | c::s=>by
  rw[List.takeWhile_cons]
  split
  ·simp[zb2 p s]
  rfl
theorem za3 (p:UInt8→Bool):∀ s:List UInt8,s.drop (s.takeWhile p).length=s.dropWhile p
 | []=>rfl
 | c::s=>by
  rw[List.takeWhile_cons,List.dropWhile_cons]
  split
  ·simp[za3 p s]
  rfl
theorem zuX (b:UInt8) (s:List UInt8):Lib.cut s [b]=if b ∈ s then (s.takeWhile (· != b),(s.dropWhile (· != b)).drop 1,true) else (s,[],false):=by
 unfold Lib.cut
 rw[zkU]
 by_cases h:b ∈ s
 ·simp only[h,if_true]
  rw[if_pos (by omega)]
  simp only[Int.toNat_natCast,List.length_cons,List.length_nil,Nat.zero_add]
  rw[zb2,←za3,List.drop_drop]
 simp[h]
theorem zkp (s p:List UInt8) (hs:s.length≤1000000):zbx s p (Lib.cut s p).1 (Lib.cut s p).2.1 (Lib.cut s p).2.2:=fun S=>zcm zlj S (if_pos (by omega))
theorem zbR (s p:List UInt8):zcC s p (Lib.hasPrefix s p):=fun S=>zcm zhm S rfl
theorem zjq (s p:List UInt8) (hs:s.length≤1000000):zcT s p (Lib.contains s p):=fun S=>zcm zhX S (if_pos (by omega))
theorem zis (s:List UInt8) (hs:s.length≤1000000):zmF s (zab s):=by
 apply zu5
 refine⟨fun h=>?_,fun h=>⟨fun h2=>⟨_,ze0 s hs 0,?_⟩,fun h2=>?_⟩⟩
 ·simp[zab,h]
 ·refine decide_eq_decide.2 ?_
  rw[List.drop_zero]
  constructor
  ·intro e;exact⟨h,by omega,by omega⟩
  intro e;have:=e.2.2;omega
 refine (decide_eq_false fun e=>?_).symm
 have:=e.2.1
 omega
def zU (s:List UInt8):Bool:=(Lib.cut s [46]).2.2 && zab (Lib.cut s [46]).1 && zab (Lib.cut s [46]).2.1
def zG (s:List UInt8):List UInt8 × Bool:=((Lib.cut s [125]).1,(Lib.cut s [125]).2.2 && zU (Lib.cut s [125]).1)
theorem zjR (s p:List UInt8):(Lib.cut s p).1.length≤s.length:=by
 unfold Lib.cut
 split
 ·simp;omega
 simp
theorem znm (s p:List UInt8):(Lib.cut s p).2.1.length≤s.length:=by
 unfold Lib.cut
 split
 ·simp
 simp
theorem zjz (s:List UInt8) (h2:2≤s.length) (hs:s.length≤1000000):ziF s (zG (s.drop 2)).1 (zG (s.drop 2)).2:=by
 apply zs2
 have e:(s.drop 2).take (s.length - 2)=s.drop 2:=List.take_of_length_le (by simp)
 rw[e]
 have l0:(s.drop 2).length≤1000000:=by simp;omega
 generalize s.drop 2=t at l0
 have l1:=zjR t [125]
 have l2:=zjR (Lib.cut t [125]).1 [46]
 have l3:=znm (Lib.cut t [125]).1 [46]
 refine⟨h2,_,_,_,zkp t [125] l0,_,_,_,zkp _ [46] (by omega),fun h3=>⟨fun h6=>⟨_,zcd _ (by omega),fun h7=>⟨_,zcd _ (by omega),rfl,?_⟩,fun h7=>⟨rfl,?_⟩⟩,fun h6=>⟨rfl,?_⟩⟩,fun h3=>⟨rfl,?_⟩⟩
 ·simp[zG,zU,h3,h6,h7]
 ·simp[zG,zU,h7]
 ·simp[zG,zU,h6]
 simp[zG,h3]
theorem zc8 (p:UInt8→Bool):∀ (u:List UInt8) (c:UInt8) (v:List UInt8),(∀ x ∈ u,p x=true)→p c=false→(u++c::v).takeWhile p=u
 | [],c,v,_,hc=>by simp[List.takeWhile_cons,hc]
 | x::u,c,v,h,hc=>by
  rw[List.cons_append,List.takeWhile_cons,if_pos (h x (by simp)),zc8 p u c v (fun y hy=>h y (by simp[hy])) hc]
theorem ze3 (b:UInt8) (u v:List UInt8) (h:b ∉ u):Lib.cut (u++b::v) [b]=(u,v,true):=by
 have h1:(u++b::v).takeWhile (· != b)=u:=zc8 _ u b v (fun x hx=>by simp;intro e;exact h (e ▸ hx)) (by simp)
 rw[zuX,if_pos (by simp),←za3,h1]
 simp
theorem zj2 (b:UInt8) (s:List UInt8) (h:b ∉ s):Lib.cut s [b]=(s,[],false):=by rw[zuX,if_neg h]
theorem zcn (b:UInt8):∀ s:List UInt8,b ∈ s→∃ u v,s=u++b::v∧b ∉ u
 | [],h=>by cases h
 | c::s,h=>by
  by_cases e:b=c
  ·exact⟨[],s,by rw[e];rfl,by simp⟩
  obtain⟨u,v,h1,h2⟩:=zcn b s (by rcases List.mem_cons.1 h with h | h;exact absurd h e;exact h)
  exact⟨c::u,v,by rw[h1];rfl,by simp[e,h2]⟩
theorem zlq (s:List UInt8):zk s≤s.length:=by
 unfold zk
 split
 ·exact Nat.zero_le _
 split
 ·exact zcR _ _
 exact Nat.zero_le _
theorem zwV (cl:List Int):∀ (s:List UInt8) (x:UInt8),x ∈ s.take (zK cl s)→inC cl x=true:=fun s x h=>by
 unfold zK at h
 rw[zb2] at h
 exact List.all_eq_true.1 List.all_takeWhile x h
theorem zjo (s:List UInt8) (x:UInt8) (h:x ∈ s.take (zk s)):inC [2,3] x=true:=by
 unfold zk at h
 split at h
 ·simp at h
 split at h
 ·exact zwV _ _ x h
 simp at h
theorem zo6 {s:List UInt8} (h:zab s=true) (x:UInt8) (hx:x ∈ s):inC [2,3] x=true:=by
 obtain⟨_,_,h3⟩:=of_decide_eq_true h
 refine zjo s x ?_
 rw[h3,List.take_length]
 exact hx
theorem zbM {u:List UInt8} (h:zab u=true) (c:UInt8) (v:List UInt8) (hc:inC [2,3] c=false):zk (u++c::v)=u.length:=by
 obtain⟨h1,_,h3⟩:=of_decide_eq_true h
 cases u with
 | nil=>exact absurd rfl h1
 | cons a u =>
  have ha:zz a=2:=by
   rw[zk] at h3
   split at h3
   ·assumption
   simp at h3
  rw[List.cons_append,zk,if_pos ha,zK,←List.cons_append,zc8 _ (a::u) c v (fun x hx=>zo6 h x hx) hc]
theorem zhd:inC [2,3] 46=false:=by
 rw[←Bool.not_eq_true,zgl]
 decide
theorem ztu (s:List UInt8) (hs:s.length≤1000000):zqg s (zU s):=by
 apply ztR
 have hle:=zlq s
 refine⟨_,ze0 s hs 0,?_⟩
 rw[List.drop_zero]
 by_cases hm:(46:UInt8) ∈ s
 ·obtain⟨u,v,rfl,hu⟩:=zcn 46 s hm
  have hd:zU (u++46::v)=(zab u && zab v):=by unfold zU;rw[ze3 46 u v hu];simp
  rw[hd]
  by_cases hn:zab u=true
  ·have he:=zbM hn 46 v zhd
   obtain⟨h1,_,_⟩:=of_decide_eq_true hn
   have hpos:0 < u.length:=List.length_pos_iff.2 h1
   rw[he]
   simp only[List.length_append,List.length_cons] at hs
   refine⟨fun _=>⟨fun _=>⟨by omega,46,by simp,fun _=>⟨by omega,by rw[List.length_append,List.length_cons];omega,zab u,?_,fun _=>⟨⟨by omega,by omega⟩,by omega,by rw[List.length_append,List.length_cons];omega,zab v,?_,by simp[hn]⟩,fun h=>absurd hn h⟩,fun h=>absurd (by decide) h⟩,fun h=>absurd (by simp;omega) h⟩,fun h=>absurd (by omega) h⟩
   ·have e:(u++46::v).take ((0:Nat)+(u.length:Nat):Int).toNat=u:=by
     rw[show (((0:Nat):Int)+((u.length:Nat):Int)).toNat=u.length by omega];simp
    rw[e]
    exact zis u (by omega)
   have e1:(((0:Nat):Int)+((u.length:Nat):Int)+1).toNat=u.length+1:=by omega
   rw[e1]
   have e2:(u++46::v).drop (u.length+1)=v:=by rw[List.drop_append];simp
   rw[e2,List.take_of_length_le (by rw[List.length_append,List.length_cons];omega)]
   exact zis v (by omega)
  have hnf:zab u=false:=by simpa using hn
  rw[hnf,Bool.false_and]
  refine⟨fun h1=>⟨fun h2=>?_,fun _=>rfl⟩,fun _=>rfl⟩
  have hlt:zk (u++46::v) < (u++46::v).length:=by omega
  have et:(((0:Nat):Int)+((zk (u++46::v):Nat):Int)).toNat=zk (u++46::v):=by omega
  rw[et]
  refine⟨by omega,_,List.getElem?_eq_getElem hlt,fun h3=>?_,fun _=>rfl⟩
  have h46:(u++46::v)[zk (u++46::v)]=46:=by
   apply UInt8.toNat_inj.1
   exact Int.ofNat.inj h3
  have he:zk (u++46::v)=u.length:=by
   rcases Nat.lt_trichotomy (zk (u++46::v)) u.length with h | h | h
   ·exfalso
    rw[List.getElem_append_left h] at h46
    exact hu (h46 ▸ List.getElem_mem h)
   ·exact h
   exfalso
   have:(46:UInt8) ∈ (u++46::v).take (zk (u++46::v)):=by
    rw[List.take_append]
    refine List.mem_append.2 (.inr ?_)
    obtain⟨k,hk⟩:∃ k,zk (u++46::v) - u.length=k+1:=⟨zk (u++46::v) - u.length - 1,by omega⟩
    rw[hk]
    simp
   have:=zjo _ _ this
   rw[zhd] at this
   cases this
  have e:(u++46::v).take (zk (u++46::v))=u:=by rw[he];simp
  rw[e]
  have hs2:u.length≤1000000:=by simp at hs;omega
  exact⟨by omega,by omega,zab u,zis u hs2,fun h=>absurd h hn,fun _=>rfl⟩
 have hd:zU s=false:=by unfold zU;rw[zj2 46 s hm];rfl
 rw[hd]
 refine⟨fun h1=>⟨fun h2=>?_,fun _=>rfl⟩,fun _=>rfl⟩
 have hlt:zk s < s.length:=by omega
 have et:(((0:Nat):Int)+((zk s:Nat):Int)).toNat=zk s:=by omega
 rw[et]
 refine⟨by omega,_,List.getElem?_eq_getElem hlt,fun h3=>?_,fun _=>rfl⟩
 exfalso
 have h46:s[zk s]=46:=by
  apply UInt8.toNat_inj.1
  exact Int.ofNat.inj h3
 exact hm (h46 ▸ List.getElem_mem hlt)
end Go.Proofs.YtfbcnpbhhooapaaGreatDoor.M
namespace Go.Proofs.YtfbcnpbhhooapaaGreatDoor.M
open Go Classical
def kdS (k:Int):Int :=
 if k < 1 then -2 else if 23 < k then -2 else if k≤4 then 0 else if k=5 then -1 else if k=6 then -1 else if k=8 then 1 else if k=9 then 1 else if k=10 then 3 else 2
theorem zzt (k:Int):zvt k (kdS k):=by
 apply zua
 unfold kdS
 repeat' first | (refine⟨fun h=>?_,fun h=>?_⟩) | (simp[*];done) | (split <;> rename_i h <;> first | rfl | omega)
def zcp (s:List UInt8):Bool:=decide (s=[116,114,117,101]) || decide (s=[102,97,108,115,101])
theorem zpe (s:List UInt8):zkz s (zcp s):=by
 apply zsA
 refine⟨fun h=>by simp[zcp,h],fun h=>by simp[zcp,h]⟩
theorem zkJ (s:List UInt8) (hs:s.length≤1000000):zkK s (zU s):=by
 apply zrE
 have h1:(Lib.cut s [46]).1.length≤s.length:=zjR _ _
 have h2:(Lib.cut s [46]).2.1.length≤s.length:=znm _ _
 refine⟨_,_,_,zkp s [46] hs,fun h=>⟨_,zcd _ (by omega),fun h'=>⟨_,zcd _ (by omega),by simp[zU,h,h']⟩,fun h'=>by simp[zU,h,h']⟩,fun h=>by simp[zU,h]⟩
def zcN (c:UInt8):Bool:=decide (¬ c.toNat < 32) || decide (c.toNat=10)
def zbO (s:List UInt8):Bool:=s.all zcN
theorem zlN (s:List UInt8) (hs:s.length≤1000000):zky s (zbO s):=by
 have loop:∀ (m i:Nat),i+m=s.length→zeF s i ((s.drop i).all zcN):=by
  intro m
  induction m with
  | zero =>
   intro i hi
   apply zg0
   exact⟨fun h=>by omega,fun _=>by rw[List.drop_of_length_le (by omega)];rfl⟩
  | succ m ih =>
   intro i hi
   have hlt:i < s.length:=by omega
   have hg:s[((i:Nat):Int).toNat]?=some s[i]:=by rw[Int.toNat_natCast];exact List.getElem?_eq_getElem hlt
   have hd:s.drop i=s[i]::s.drop (i+1):=List.drop_eq_getElem_cons hlt
   have ih:=ih (i+1) (by omega)
   apply zg0
   refine⟨fun _=>⟨by omega,_,hg,fun h=>⟨fun h'=>⟨⟨by omega,by omega⟩,?_⟩,fun h'=>?_⟩,fun h=>⟨⟨by omega,by omega⟩,?_⟩⟩,fun h=>by omega⟩
   ·rw[hd,List.all_cons,show zcN s[i]=true by simp[zcN];omega,Bool.true_and]
    exact ih
   ·rw[hd,List.all_cons,show zcN s[i]=false by simp[zcN];omega,Bool.false_and]
   rw[hd,List.all_cons,show zcN s[i]=true by simp[zcN];omega,Bool.true_and]
   exact ih
 exact zsR _ _ (loop s.length 0 (by omega))
def zY:Bool→List Part→Bool
 | _,[]=>true
 | b,p::l=>if p.Ref=true then zU p.Text && zY false l else !(decide (p.Text=[])) && !b && zbO p.Text && zY true l
def plP (l:List Part):Prop:=l.length≤1000000∧∀ p ∈ l,p.Text.length≤1000000
theorem zuT (l:List Part) (hl:plP l):znp l (zY false l):=by
 obtain⟨hl,ht⟩:=hl
 have loop:∀ (m i:Nat),i+m=l.length→zdS l i (zY (decide (∃ p,0 < i∧l[i - 1]?=some p∧p.Ref=false)) (l.drop i)):=by
  intro m
  induction m with
  | zero =>
   intro i hi
   apply zgQ
   exact⟨fun h=>by omega,fun _=>by rw[List.drop_of_length_le (by omega)];rfl⟩
  | succ m ih =>
   intro i hi
   have hlt:i < l.length:=by omega
   have hg:l[((i:Nat):Int).toNat]?=some l[i]:=by rw[Int.toNat_natCast];exact List.getElem?_eq_getElem hlt
   have hd:l.drop i=l[i]::l.drop (i+1):=List.drop_eq_getElem_cons hlt
   have htx:=ht _ (List.getElem_mem hlt)
   have ih:=ih (i+1) (by omega)
   have hnext:decide (∃ p,0 < i+1∧l[i+1 - 1]?=some p∧p.Ref=false)=!l[i].Ref:=by
    rw[show i+1 - 1=i by omega,List.getElem?_eq_getElem hlt]
    cases h:l[i].Ref <;> simp[h]
   rw[hnext] at ih
   rw[hd]
   generalize hb:decide (∃ p,0 < i∧l[i - 1]?=some p∧p.Ref=false)=b
   apply zgQ
   refine⟨fun _=>⟨by omega,_,hg,fun hr=>⟨_,zkJ _ htx,fun h=>⟨⟨by omega,by omega⟩,?_⟩,fun h=>?_⟩,fun hr=>⟨fun h=>?_,fun h=>⟨fun h0=>?_,fun h0=>?_⟩⟩⟩,fun h=>by omega⟩
   ·rw[zY,if_pos hr,h,Bool.true_and]
    rw[hr] at ih
    exact ih
   ·rw[zY,if_pos hr,show zU l[i].Text=false by simpa using h,Bool.false_and]
   ·rw[zY,if_neg hr,decide_eq_true h]
    rfl
   ·have hlt':i - 1 < l.length:=by omega
    have hg':l[((i:Int) - 1).toNat]?=some l[i - 1]:=by rw[show ((i:Int) - 1).toNat=i - 1 by omega];exact List.getElem?_eq_getElem hlt'
    refine⟨⟨by omega,by omega⟩,by omega,_,hg',fun hp=>?_,fun hp=>?_⟩
    ·have hb':b=false:=by
      rw[←hb,List.getElem?_eq_getElem hlt']
      simp[hp]
     refine⟨_,zlN _ htx,fun h5=>⟨⟨by omega,by omega⟩,?_⟩,fun h5=>?_⟩
     ·rw[zY,if_neg hr,decide_eq_false h,hb',h5]
      rw[show l[i].Ref=false by simpa using hr] at ih
      exact ih
     rw[zY,if_neg hr,decide_eq_false h,hb',show zbO l[i].Text=false by simpa using h5]
     rfl
    have hb':b=true:=by
     rw[←hb,List.getElem?_eq_getElem hlt']
     simp[hp]
     omega
    rw[zY,if_neg hr,decide_eq_false h,hb']
    rfl
   have hb':b=false:=by
    rw[←hb]
    simp
    omega
   refine⟨_,zlN _ htx,fun h5=>⟨⟨by omega,by omega⟩,?_⟩,fun h5=>?_⟩
   ·rw[zY,if_neg hr,decide_eq_false h,hb',h5]
    rw[show l[i].Ref=false by simpa using hr] at ih
    exact ih
   rw[zY,if_neg hr,decide_eq_false h,hb',show zbO l[i].Text=false by simpa using h5]
   rfl
 have:=loop l.length 0 (by omega)
 have e:decide (∃ p,0 < 0∧l[0 - 1]?=some p∧p.Ref=false)=false:=by simp
 rw[e] at this
 exact ztc _ _ this
def plS (n:Node):Bool :=
 if n.Kind=1 then decide (0≤n.Num) && decide (n.Text=[]) && decide (n.Parts=[])
 else if n.Kind=3 then (decide (n.Num=0) || decide (n.Num=1)) && decide (n.Text=[]) && decide (n.Parts=[])
 else if n.Kind=4 then zU n.Text && decide (n.Num=0) && !(zcp (Lib.cut n.Text [46]).1) && decide (n.Parts=[])
 else if n.Kind=5 then zab n.Text && decide (n.Num=0) && !(zcp n.Text) && decide (n.Parts=[])
 else if n.Kind=2 then decide (n.Num=0) && decide (n.Text=[]) && zY false n.Parts
 else decide (n.Num=0) && decide (n.Text=[]) && decide (n.Parts=[])
structure NB (n:Node):Prop where
 text:n.Text.length≤1000000
 parts:plP n.Parts
 kids:n.Kids.length≤1000000
theorem ziL {α:Type} (l:List α):decide ((l.length:Int)=0)=decide (l=[]):=decide_eq_decide.2 (by rw[←List.length_eq_zero_iff];omega)
theorem zvd (n:Node) (h:NB n):zvw n (plS n):=by
 apply zto
 unfold plS
 rw[ziL]
 refine⟨fun k=>?_,fun k=>⟨fun k3=>?_,fun k3=>⟨fun k4=>?_,fun k4=>⟨fun k5=>?_,fun k5=>⟨fun k2=>?_,fun k2=>?_⟩⟩⟩⟩⟩
 ·rw[if_pos k]
  exact⟨fun a=>⟨fun b=>by simp[a,b],fun b=>by simp[a,b]⟩,fun a=>by simp[a]⟩
 ·rw[if_neg k,if_pos k3]
  exact⟨fun a=>⟨fun b=>by simp[a,b],fun b=>by simp[a,b]⟩,fun a=>⟨fun a'=>⟨fun b=>by simp[a',b],fun b=>by simp[a',b]⟩,fun a'=>by simp[a,a']⟩⟩
 ·rw[if_neg k,if_neg k3,if_pos k4]
  refine⟨_,_,_,zkp _ [46] h.text,_,zkJ _ h.text,fun a=>⟨_,zpe _,fun b=>⟨fun c=>by simp[a,b,c],fun c=>by simp[a,b,c]⟩,fun b=>by simp[b]⟩,fun a=>⟨fun _=>by simp[a],fun _=>by simp[a]⟩⟩
 ·rw[if_neg k,if_neg k3,if_neg k4,if_pos k5]
  refine⟨_,zcd _ h.text,fun a=>⟨_,zpe _,fun b=>⟨fun c=>by simp[a,b,c],fun c=>by simp[a,b,c]⟩,fun b=>by simp[b]⟩,fun a=>⟨fun _=>by simp[a],fun _=>by simp[a]⟩⟩
 ·rw[if_neg k,if_neg k3,if_neg k4,if_neg k5,if_pos k2]
  refine⟨_,zuT _ h.parts,fun a=>⟨fun b=>by simp[a,b],fun b=>by simp[b]⟩,fun a=>by simp[a]⟩
 rw[if_neg k,if_neg k3,if_neg k4,if_neg k5,if_neg k2]
 refine⟨fun a=>⟨fun b=>by simp[a,b],fun b=>by simp[b]⟩,fun a=>by simp[a]⟩
def zov (l:List Node) (rs:List Int) (e:Nat):Int:=match l[e]? with
 | none=>-1
 | some n=>if (kdS n.Kind≠(n.Kids.length:Nat)∧kdS n.Kind≠-1)∨plS n=false then -1 else Bk.run (fun k=>(rs[k.toNat]?).getD 0) e n.Kids.reverse
def zbt (l:List Node):Nat→List Int
 | 0=>[]
 | n+1=>zbt l n++[zov l (zbt l n) n]
theorem zeT (l:List Node):∀ n,(zbt l n).length=n
 | 0=>rfl
 | n+1=>by rw[zbt,List.length_append,zeT l n];rfl
def zbS (l:List Node) (e:Nat):Int:=zov l (zbt l e) e
theorem zeI (l:List Node):∀ {n j:Nat},j < n→(zbt l n)[j]?=some (zbS l j)
 | 0,j,h=>absurd h (Nat.not_lt_zero _)
 | n+1,j,h=>by
  rw[zbt]
  by_cases hj:j < n
  ·rw[List.getElem?_append_left (by rw[zeT];exact hj)]
   exact zeI l hj
  obtain rfl:j=n:=by omega
  rw[List.getElem?_append_right (by rw[zeT];omega),zeT,Nat.sub_self]
  rfl
theorem znE (o:Int→Int):∀ (ks:List Int) (f:Int),(∀ k,0≤k→k < f→o k≤k)→-1≤f→Bk.run o f ks≤f
 | [],f,_,_=>Int.le_refl _
 | k::ks,f,h,hf=>by
  rw[Bk.run]
  split
  ·exact hf
  split
  ·exact hf
  rename_i h1 h2
  have h3:=h k (by omega) (by omega)
  have:=znE o ks (o k) (fun q a b=>h q a (by omega)) (by omega)
  omega
theorem zft (l:List Node):∀ (e:Nat),zbS l e≤e:=by
 intro e
 induction e using Nat.strongRecOn with
 | _ e ih =>
  unfold zbS zov
  split
  ·omega
  split
  ·omega
  refine znE _ _ _ (fun k k0 k1=>?_) (by omega)
  rw[zeI l (show k.toNat < e by omega)]
  have:=ih k.toNat (by omega)
  simp only[Option.getD_some]
  omega
theorem zp8 (ks:List Int):zfR (ks.map eI)=some ks:=by
 induction ks with
 | nil=>rfl
 | cons k ks ih =>
  rw[List.map_cons]
  show zfR ([PV.int .i64 k]::_)=_
  rw[zfR,ih]
  rfl
theorem zl3 {o:Nat→List PV→Option PV} {lv:PV} {k:List Int→Qn} (l:List Node) (n:Nat) (h:∀ j,j < n→o 47 [lv,.int .i64 (j:Nat)]=some (.int .i64 (zbS l j))):∀ (m i:Nat),i+m=n→(zgR lv k m (zbt l i)).ev o=(k (zbt l n)).ev o
 | 0,i,hi=>by
  obtain rfl:i=n:=by omega
  rfl
 | m+1,i,hi=>by
  rw[zgR,Qn.ev,zeT,h i (by omega)]
  simp only
  rw[if_pos (zft l i)]
  exact zl3 l n h m (i+1) (by omega)
theorem zxu (l:List Node) (hl:l.length≤1000000) (hn:∀ n ∈ l,NB n):∀ e,e < l.length→zvq l (e:Nat) (zbS l e):=by
 intro e
 induction e using Nat.strongRecOn with
 | _ e ih =>
  intro he S
  have hb:=hn _ (List.getElem_mem he)
  have hg:l[e]?=some l[e]:=List.getElem?_eq_getElem he
  refine ztY zxW S ?_
  have hrow:(l.map eNode)[((e:Nat):Int).toNat]?=some [PV.int .i64 l[e].Kind,.int .i64 l[e].Num,.str l[e].Text,.list 2 (l[e].Parts.map ePart) false,.list 1 (l[e].Kids.map eI) false]:=by
   rw[Int.toNat_natCast,List.getElem?_map,hg]
   rfl
  simp only[zh2]
  rw[if_pos ⟨by omega,by rw[Int.toNat_natCast,List.length_map];exact he,by rw[List.length_map];omega⟩,hrow]
  simp only[zp8]
  rw[if_pos (show l[e].Kids.length≤1000000000 by have:=hb.kids;omega)]
  have hk:zaR (call SP) 73 [.int .i64 l[e].Kind]=some (.int .i64 (kdS l[e].Kind)):=zfO (zzt _ [])
  have hp:zaR (call SP) 74 [.agg [PV.int .i64 l[e].Kind,.int .i64 l[e].Num,.str l[e].Text,.list 2 (l[e].Parts.map ePart) false,.list 1 (l[e].Kids.map eI) false]]=some (.bool (plS l[e])):=zfO (zvd _ hb [])
  have hv:zbS l e=if (kdS l[e].Kind≠(l[e].Kids.length:Nat)∧kdS l[e].Kind≠-1)∨plS l[e]=false then -1 else Bk.run (fun k=>((zbt l e)[k.toNat]?).getD 0) e l[e].Kids.reverse:=by
   unfold zbS zov
   rw[hg]
  simp only[znM,Qn.ev,hk]
  by_cases hkk:kdS l[e].Kind≠(l[e].Kids.length:Nat)∧kdS l[e].Kind≠-1
  ·rw[if_pos hkk,hv,if_pos (.inl hkk)]
   rfl
  rw[if_neg hkk]
  simp only[Qn.ev,hp]
  cases hpl:plS l[e] with
  | false =>
   have hv':zbS l e=-1:=by rw[hv,if_pos (.inr hpl)]
   rw[hv']
   rfl
  | true =>
   have hv':zbS l e=Bk.run (fun k=>((zbt l e)[k.toNat]?).getD 0) e l[e].Kids.reverse:=by
    rw[hv,if_neg]
    rintro (h | h)
    ·exact hkk h
    rw[hpl] at h;cases h
   rw[hv']
   simp only[Bool.true_eq_false,if_false,Int.toNat_natCast]
   exact zl3 (o:=zaR (call SP)) (lv:=.list 5 (l.map eNode) false) (k:=fun rs=>.ret (.int .i64 (Bk.run (fun k=>(rs[k.toNat]?).getD 0) e l[e].Kids.reverse))) l e (fun j hj=>zfO (ih j hj (by omega) [])) e 0 (by omega)
def zbX (l:List Node):Bool:=decide (0 < l.length) && decide (zbS l (l.length - 1)=0)
theorem zng (l:List Node) (hl:l.length≤1000000) (hn:∀ n ∈ l,NB n):zeA l (zbX l):=by
 apply ztZ
 refine⟨fun h=>⟨⟨by omega,by omega⟩,zbS l (l.length - 1),?_,?_⟩,fun h=>?_⟩
 ·have:=zxu l hl hn (l.length - 1) (by omega)
  rw[show ((l.length - 1:Nat):Int)=(l.length:Int) - 1 by omega] at this
  exact this
 ·rw[zbX,decide_eq_true (show 0 < l.length by omega),Bool.true_and]
 rw[zbX,decide_eq_false (show ¬ 0 < l.length by omega),Bool.false_and]
def zo (n:Node):Bool:=(decide (kdS n.Kind=(n.Kids.length:Nat)) || decide (kdS n.Kind=-1)) && plS n
def stk:Nat→List Int→List Node→Bool
 | _,st,[]=>decide (st.length=1)
 | i,st,n::l=>if zo n=true∧st.take n.Kids.length=n.Kids.reverse then stk (i+1) ((i:Int)::st.drop n.Kids.length) l else false
theorem zjk (l:List Node) {e:Nat} {n:Node} (h:l[e]?=some n):zbS l e=if zo n=true then Bk.run (fun k=>((zbt l e)[k.toNat]?).getD 0) e n.Kids.reverse else -1:=by
 unfold zbS zov
 rw[h]
 simp only
 by_cases hk:zo n=true
 ·rw[if_pos hk,if_neg]
  simp only[zo,Bool.and_eq_true,Bool.or_eq_true,decide_eq_true_eq] at hk
  rintro (h | h)
  ·rcases hk.1 with h' | h'
   ·exact h.1 h'
   exact h.2 h'
  rw[h] at hk;exact absurd hk.2 (by decide)
 rw[if_neg hk,if_pos]
 simp only[zo,Bool.and_eq_true,Bool.or_eq_true,decide_eq_true_eq] at hk
 by_cases hp:plS n=true
 ·exact .inl ⟨fun h=>hk ⟨.inl h,hp⟩,fun h=>hk ⟨.inr h,hp⟩⟩
 exact .inr (by simpa using hp)
def Ch (l:List Node):Nat→List Int→Prop
 | i,[]=>i=0
 | i,s::st=>0 < i∧s=(i:Int) - 1∧∃ b:Nat,zbS l (i - 1)=b∧Ch l b st
theorem zic (l:List Node) (e:Nat):∀ (st:List Int) (i k:Nat),i≤e→Ch l i st→k≤st.length→∃ b:Nat,Bk.run (fun k=>((zbt l e)[k.toNat]?).getD 0) i (st.take k)=b∧Ch l b (st.drop k)
 | st,i,0,_,h,_=>⟨i,rfl,h⟩
 | [],i,k+1,_,_,hk=>absurd hk (by simp)
 | s::st,i,k+1,hi,⟨h0,hs,b,hb,hc⟩,hk=>by
  have hle:=zft l (i - 1)
  obtain⟨b',h1,h2⟩:=zic l e st b k (by omega) hc (by simpa using hk)
  refine⟨b',?_,h2⟩
  rw[List.take_succ_cons,Bk.run]
  have e1:s.toNat=i - 1:=by omega
  have e2:((zbt l e)[s.toNat]?).getD 0=b:=by rw[e1,zeI l (show i - 1 < e by omega),Option.getD_some,hb]
  simp only[e2]
  rw[if_neg (by omega),if_neg (by omega)]
  exact h1
theorem znv (l:List Node):∀ (m i:Nat) (st:List Int),i+m=l.length→Ch l i st→stk i st (l.drop i)=true→zbX l=true
 | 0,i,st,hi,hc,h=>by
  rw[List.drop_of_length_le (by omega),stk,decide_eq_true_eq] at h
  match st,h,hc with
  | [s],_,⟨h0,hs,b,hb,hc⟩ =>
   have hb0:b=0:=hc
   rw[zbX,decide_eq_true (show 0 < l.length by omega),Bool.true_and,decide_eq_true_eq,show l.length - 1=i - 1 by omega,hb,hb0]
   rfl
 | m+1,i,st,hi,hc,h=>by
  have hlt:i < l.length:=by omega
  rw[List.drop_eq_getElem_cons hlt,stk] at h
  split at h
  ·rename_i hn
   obtain⟨h1,h2⟩:=hn
   have hk:l[i].Kids.length≤st.length:=by
    have:=congrArg List.length h2
    rw[List.length_take,List.length_reverse] at this
    omega
   obtain⟨b,hb,hc'⟩:=zic l i st i l[i].Kids.length (Nat.le_refl _) hc hk
   rw[h2] at hb
   refine znv l m (i+1) ((i:Int)::st.drop l[i].Kids.length) (by omega) ⟨by omega,by omega,b,?_,hc'⟩ h
   rw[show i+1 - 1=i by omega,zjk l (List.getElem?_eq_getElem hlt),if_pos h1]
   exact hb
  cases h
theorem proc (l:List Node):∀ (e:Nat),e < l.length→∀ (b:Nat),zbS l e=b→∀ st,stk b st (l.drop b)=stk (e+1) ((e:Int)::st) (l.drop (e+1)):=by
 intro e
 induction e using Nat.strongRecOn with
 | _ e ih =>
  intro he b hb st
  rw[zjk l (List.getElem?_eq_getElem he)] at hb
  split at hb
  ·rename_i hn
   have rp:∀ (ks:List Int) (f:Nat),f≤e→Bk.run (fun k=>((zbt l e)[k.toNat]?).getD 0) f ks=b→stk b st (l.drop b)=stk f (ks++st) (l.drop f):=by
    intro ks
    induction ks with
    | nil =>
     intro f hf h
     have hf':f=b:=by simp only[Bk.run] at h;omega
     rw[hf']
     rfl
    | cons k ks ihk =>
     intro f hf h
     rw[Bk.run] at h
     split at h
     ·omega
     rename_i h1
     split at h
     ·omega
     rename_i h2
     have hk:k.toNat < e:=by omega
     have ek:((zbt l e)[k.toNat]?).getD 0=zbS l k.toNat:=by rw[zeI l hk,Option.getD_some]
     simp only[ek] at h h2
     have hle:=zft l k.toNat
     obtain⟨b1,hb1⟩:∃ b1:Nat,zbS l k.toNat=b1:=⟨(zbS l k.toNat).toNat,by omega⟩
     rw[hb1] at h
     rw[ihk b1 (by omega) h,ih k.toNat hk (by omega) b1 hb1 (ks++st)]
     have e1:k.toNat+1=f:=by omega
     have e2:((k.toNat:Nat):Int)=k:=by omega
     rw[e1,e2]
     rfl
   have hr:=rp l[e].Kids.reverse e (Nat.le_refl _) hb
   rw[hr,List.drop_eq_getElem_cons he,stk,if_pos]
   ·have:(l[e].Kids.reverse++st).drop l[e].Kids.length=st:=by
     have:=List.drop_left (l₁:=l[e].Kids.reverse) (l₂:=st)
     rwa [List.length_reverse] at this
    rw[this]
   refine⟨hn,?_⟩
   have:=List.take_left (l₁:=l[e].Kids.reverse) (l₂:=st)
   rwa [List.length_reverse] at this
  omega
theorem zhz (l:List Node):zbX l=stk 0 [] l:=by
 cases h:stk 0 [] l with
 | true=>exact znv l l.length 0 [] (by omega) rfl h
 | false =>
  rw[←Bool.not_eq_true]
  intro ht
  simp only[zbX,Bool.and_eq_true,decide_eq_true_eq] at ht
  have:=proc l (l.length - 1) (by omega) 0 ht.2 []
  rw[List.drop_zero,h,show l.length - 1+1=l.length by omega,List.drop_length,stk] at this
  simp at this
end Go.Proofs.YtfbcnpbhhooapaaGreatDoor.M
namespace Go.Proofs.YtfbcnpbhhooapaaGreatDoor.M
open Go Classical
theorem zAZ {L ts:List Token} (hT:TL L) (hs:ts <:+ L) (hw:W ts) {lab:List UInt8→Bool} (hl:∀ s,s.length≤1000000→zds s (lab s)) {N:Nat} (hN:20*L.length+10≤N):OkP L ts 1 (fun b g z=>zgj b g z false) (zix lab N ts):=by
 cases ts with
 | nil=>exact hw.elim
 | cons t ts =>
  simp only[zix]
  by_cases hk:t.Kind=3
  ·rw[if_pos hk]
   cases hi:zae t.Text zaa 0 with
   | none=>exact zgI hs false (.inr (.inl hi))
   | some i =>
    simp only
    by_cases h4:i=4
    ·subst h4
     rw[if_pos rfl]
     have hk0:t.Kind≠0:=by rw[hk];decide
     have hs1:=zp hs
     have hw1:=hw.tail hk0
     have hlc:(t::ts).length=ts.length+1:=rfl
     have hll:=zbz hs
     have hLl:=hT.len
     have hI:I64 ((pt L (t::ts)).pos+1):=by simp only[pt,I64];omega
     have e1:∀ out,PBlocks.mk (PExprs.mk (PTokens.mk (pt L (t::ts)).l ((pt L (t::ts)).pos+1)) (pb L (t::ts) out).exprs.out (pb L (t::ts) out).exprs.deep)=pb L ts out:=fun out=>by rw[zdO hs];rfl
     have hix:zr zaa t.Text ((4:Nat):Int):=by have:=zg2 zaa t.Text (by decide);rw[hi] at this;exact this
     have n0:¬ (1+((4:Nat):Int))=0:=by decide
     have hI1:I64 (1+((4:Nat):Int)):=⟨by decide,by decide⟩
     have h2:=zvs hT hs1 hw1 hl
     cases hc:zdK lab ts with
     | no=>rw[hc] at h2;exact h2.elim
     | er e =>
      rw[hc] at h2
      intro out g z
      obtain⟨a,x',g',z',q⟩:=h2 out g z
      exact⟨⟨0,[],[],[]⟩,x',g',z',zbN _ _ _ _ _ _ _ _ _ ⟨t,_,zl hs,_,zcB,_,hix,hI1,fun _=>⟨fun hf=>absurd hf n0,fun _=>⟨fun _=>⟨fun hf=>(by cases hf),fun _=>⟨hI,some e,a,x',g',z',(e1 out).symm ▸ q,rfl,rfl,rfl,rfl⟩⟩,fun hf=>absurd rfl hf⟩⟩,fun hf=>absurd hk hf⟩⟩
     | ok l ts1 out1 =>
      rw[hc] at h2
      obtain⟨s1,w1,l1,q1⟩:=h2
      simp only[PR.bind,zah]
      by_cases he:isS [123] ts1=true
      ·rw[if_pos he]
       have hlen:=zR he
       have h3:=zrB hT hl hN ((4:Nat):Int) l [] 1 1 N [] ts1.tail (zJ s1) (w1.shift he) (by omega) (by simp;omega)
       cases hb:zbW lab N N [] ts1.tail with
       | no=>rw[hb] at h3;exact h3.elim
       | er e =>
        rw[hb] at h3
        intro out g z
        obtain⟨out1,g1,z1,q1⟩:=q1 out g z
        obtain⟨a,x',g',z',q⟩:=h3 out1 g1 z1
        exact⟨_,x',g',z',zbN _ _ _ _ _ _ _ _ _ ⟨t,_,zl hs,_,zcB,_,hix,hI1,fun _=>⟨fun hf=>absurd hf n0,fun _=>⟨fun _=>⟨fun hf=>(by cases hf),fun _=>⟨hI,none,l,_,_,_,(e1 out).symm ▸ q1,none,_,zbd s1 hT.len he,q⟩⟩,fun hf=>absurd rfl hf⟩⟩,fun hf=>absurd hk hf⟩⟩
       | ok bs ts2 out2 =>
        rw[hb] at h3
        obtain⟨s2,w2,l2,q2⟩:=h3
        refine⟨s2,w2,by omega,fun out g z=>?_⟩
        obtain⟨out1,g1,z1,q1⟩:=q1 out g z
        obtain⟨out',g',z',q2⟩:=q2 out1 g1 z1
        exact⟨out',g',z',zbN _ _ _ _ _ _ _ _ _ ⟨t,_,zl hs,_,zcB,_,hix,hI1,fun _=>⟨fun hf=>absurd hf n0,fun _=>⟨fun _=>⟨fun hf=>(by cases hf),fun _=>⟨hI,none,l,_,_,_,(e1 out).symm ▸ q1,none,_,zbd s1 hT.len he,q2⟩⟩,fun hf=>absurd rfl hf⟩⟩,fun hf=>absurd hk hf⟩⟩
      rw[if_neg he]
      intro out g z
      obtain⟨out1,g1,z1,q1⟩:=q1 out g z
      exact⟨⟨0,[],[],[]⟩,_,_,_,zbN _ _ _ _ _ _ _ _ _ ⟨t,_,zl hs,_,zcB,_,hix,hI1,fun _=>⟨fun hf=>absurd hf n0,fun _=>⟨fun _=>⟨fun hf=>(by cases hf),fun _=>⟨hI,none,l,_,_,_,(e1 out).symm ▸ q1,some 5,_,zeq s1 w1.ne (by simpa using he),rfl,rfl,rfl,rfl⟩⟩,fun hf=>absurd rfl hf⟩⟩,fun hf=>absurd hk hf⟩⟩
    rw[if_neg h4]
    exact zk0 hT hs hw hl hN false hk hi h4 (by have:=zdU _ _ _ _ hi;simp[zaa] at this;omega)
  rw[if_neg hk]
  exact zgI hs false (.inl hk)
theorem zsp {L:List Token} (hT:TL L) {lab:List UInt8→Bool} (hl:∀ s,s.length≤1000000→zds s (lab s)) {N:Nat} (hN:20*L.length+10≤N):∀ (n:Nat) (acc:List Block) (ts:List Token),ts <:+ L→W ts→ts.length < n→acc.length+ts.length≤1000000 →
  match zbL lab N n acc ts with
  | .ok l _ _=>∀ out g z,∃ b' bg bz,zfM (pb L ts out) g z acc 0 false none b' bg bz l 0 false
  | .er e=>∀ out g z,∃ b' bg bz l,zfM (pb L ts out) g z acc 0 false (some e) b' bg bz l 0 false
  | .no=>False
 | 0,_,_,_,_,h,_=>absurd h (Nat.not_lt_zero _)
 | n+1,acc,[],hs,hw,hn,hal=>hw.elim
 | n+1,acc,t::ts,hs,hw,hn,hal=>by
  have hlc:(t::ts).length=ts.length+1:=rfl
  simp only[zbL]
  by_cases hk:t.Kind=0
  ·rw[if_pos hk]
   exact fun out g z=>⟨_,_,_,zdp _ _ _ _ _ _ _ _ _ _ _ _ _ ⟨t,_,zl hs,fun _=>⟨rfl,rfl,rfl,rfl,rfl,rfl,rfl⟩,fun hf=>absurd hk hf⟩⟩
  rw[if_neg hk]
  have h1:=zAZ hT hs hw hl hN
  have hbig:bigRow (acc.length+1) 72:=by simp only[bigRow];omega
  cases hc:zix lab N (t::ts) with
  | no=>rw[hc] at h1;exact h1.elim
  | er e =>
   rw[hc] at h1
   intro out g z
   obtain⟨a,x',g',z',q⟩:=h1 out g z
   exact⟨x',g',z',acc,zdp _ _ _ _ _ _ _ _ _ _ _ _ _ ⟨t,_,zl hs,fun hf=>absurd hf hk,fun _=>⟨some e,a,x',g',z',q,rfl,rfl,rfl,rfl,rfl,rfl,rfl⟩⟩⟩
  | ok a ts1 out1 =>
   rw[hc] at h1
   obtain⟨s1,w1,l1,q1⟩:=h1
   simp only[PR.bind]
   have h2:=zsp hT hl hN n (acc++[a]) ts1 s1 w1 (by omega) (by simp;omega)
   cases hb:zbL lab N n (acc++[a]) ts1 with
   | no=>rw[hb] at h2;exact h2.elim
   | er e =>
    rw[hb] at h2
    intro out g z
    obtain⟨out1,g1,z1,q1⟩:=q1 out g z
    obtain⟨b',bg,bz,l,q⟩:=h2 out1 g1 z1
    exact⟨b',bg,bz,l,zdp _ _ _ _ _ _ _ _ _ _ _ _ _ ⟨t,_,zl hs,fun hf=>absurd hf hk,fun _=>⟨none,a,_,_,_,q1,hbig,by omega,rfl,⟨0,[],[],[]⟩,by simp,by rw[zmf];exact q⟩⟩⟩
   | ok l ts2 out2 =>
    rw[hb] at h2
    intro out g z
    obtain⟨out1,g1,z1,q1⟩:=q1 out g z
    obtain⟨b',bg,bz,q⟩:=h2 out1 g1 z1
    exact⟨b',bg,bz,zdp _ _ _ _ _ _ _ _ _ _ _ _ _ ⟨t,_,zl hs,fun hf=>absurd hf hk,fun _=>⟨none,a,_,_,_,q1,hbig,by omega,rfl,⟨0,[],[],[]⟩,by simp,by rw[zmf];exact q⟩⟩⟩
theorem zh0 (L:List Token):pb0 L=pb L L []:=by simp[pb0,pb,pe,pt]
def ziW (lab:List UInt8→Bool) (L:List Token):PR (List Block):=zbL lab (20*L.length+10) (L.length+1) [] L
def exprT (L:List Token):PR (List Node):=(zbp (20*L.length+10) L).bind fun nodes ts _=>match ts with | []=>.no | t::_=>if t.Kind=0 then .ok nodes ts [] else .er 5
theorem znY {s:List UInt8} {L:List Token} (hx:zbI s L 0) (hT:TL L) (hw:W L) {lab:List UInt8→Bool} (hl:∀ s,s.length≤1000000→zds s (lab s)) :
  match ziW lab L with
  | .ok l _ _=>zc9 s l 0
  | .er e=>e≠0→zc9 s [] e
  | .no=>False:=by
 have h:=zsp hT hl (Nat.le_refl _) (L.length+1) [] L (List.suffix_refl L) hw (by omega) (by have:=hT.len;simp;omega)
 unfold ziW
 cases hc:zbL lab (20*L.length+10) (L.length+1) [] L with
 | no=>rw[hc] at h;exact h.elim
 | er e =>
  rw[hc] at h
  intro he
  obtain⟨b',bg,bz,l,q⟩:=h [] 0 false
  have:=zku hx (o:=some e) (by rw[zh0];exact zn3 _ _ _ _ _ _ _ _ _ _ _ _ _ q)
  rw[Option.getD_some,if_neg he] at this
  exact this
 | ok l ts out =>
  rw[hc] at h
  obtain⟨b',bg,bz,q⟩:=h [] 0 false
  exact zku hx (o:=none) (by rw[zh0];exact zn3 _ _ _ _ _ _ _ _ _ _ _ _ _ q)
theorem zwo {s:List UInt8} {L:List Token} (hx:zbI s L 0) (hT:TL L) (hw:W L) :
  match exprT L with
  | .ok l _ _=>zeD s l 0
  | .er e=>e≠0→zeD s [] e
  | .no=>False:=by
 have h:=zll hT (List.suffix_refl L) hw (Nat.le_refl _)
 unfold exprT
 cases hc:zbp (20*L.length+10) L with
 | no=>rw[hc] at h;exact h.elim
 | er e =>
  rw[hc] at h
  intro he
  obtain⟨a,x',g',z',q⟩:=h [] 0 false
  exact zks hx he (by rw[zh0];exact zjM _ _ _ _ _ _ _ _ _ ⟨some e,a,x',g',z',q,rfl,rfl,rfl,rfl,rfl⟩)
 | ok nodes ts out =>
  rw[hc] at h
  obtain⟨s1,w1,l1,q⟩:=h
  obtain⟨g',z',q⟩:=q [] 0 false
  simp only[PR.bind]
  cases ts with
  | nil=>exact w1.elim
  | cons t ts =>
   simp only
   by_cases hk:t.Kind=0
   ·rw[if_pos hk]
    exact zs0 hx (by rw[zh0];exact zjM _ _ _ _ _ _ _ _ _ ⟨none,nodes,_,g',z',q,t,_,zl s1,fun _=>⟨rfl,rfl,rfl,rfl,rfl⟩,fun hf=>absurd hk hf⟩)
   rw[if_neg hk]
   intro he
   exact zks hx he (by rw[zh0];exact zjM _ _ _ _ _ _ _ _ _ ⟨none,nodes,_,g',z',q,t,_,zl s1,fun hf=>absurd hf hk,fun _=>⟨_,_,zbJ _ _,rfl,rfl,rfl,rfl,rfl⟩⟩)
theorem zki:inC [2,3] 125=false:=by
 rw[←Bool.not_eq_true,zgl]
 decide
theorem zik {s:List UInt8} (h:zU s=true):∃ x y,s=x++46::y∧zab x=true∧zab y=true:=by
 unfold zU at h
 by_cases hm:(46:UInt8) ∈ s
 ·obtain⟨u,v,rfl,hu⟩:=zcn 46 s hm
  rw[ze3 46 u v hu] at h
  simp only[Bool.and_eq_true] at h
  exact⟨u,v,rfl,h.1.2,h.2⟩
 rw[zj2 46 s hm] at h
 cases h
theorem zca {t:List UInt8} (h:(zG t).2=true):∃ x y v,t=x++46::(y++125::v)∧zab x=true∧zab y=true∧(zG t).1=x++46::y:=by
 unfold zG at h ⊢
 by_cases hm:(125:UInt8) ∈ t
 ·obtain⟨u,v,rfl,hu⟩:=zcn 125 t hm
  rw[ze3 125 u v hu] at h ⊢
  obtain⟨x,y,rfl,hx,hy⟩:=zik (by simpa using h)
  exact⟨x,y,v,by simp,hx,hy,rfl⟩
 rw[zj2 125 t hm] at h
 cases h
theorem zfT (b:UInt8) (x w:List UInt8):(x++b::w).drop (x.length+1)=w:=by rw[List.drop_append];simp
theorem zoi {s:List UInt8} (h:zab s=true):0 < s.length:=List.length_pos_iff.2 (of_decide_eq_true h).1
def zc0 (t:List UInt8):Int:=if (zG t).2=true then ((zG t).1.length:Int)+3 else 0
theorem zgH (s:List UInt8) (hs:s.length≤1000000) (i:Nat) (hi:i+2≤s.length):znH s i (zc0 (s.drop (i+2))):=by
 apply zsQ
 have hN:zfg s ((i:Int)+2) (((i+2:Nat):Int)+zk (s.drop (i+2))):=ze0 s hs (i+2)
 have hgen:∀ a:Nat,i+2+a < s.length→s[i+2+a]?=(s.drop (i+2))[a]?:=fun a _=>by rw[List.getElem?_drop]
 have hlen:(s.drop (i+2)).length=s.length - (i+2):=List.length_drop
 have hdd:∀ a:Nat,s.drop (i+2+a)=(s.drop (i+2)).drop a:=fun a=>by rw[List.drop_drop]
 generalize ht:s.drop (i+2)=t at *
 have hle:=zlq t
 refine⟨⟨by omega,by omega⟩,_,hN,⟨by omega,by omega⟩,fun h1=>?_,fun h1=>⟨fun h2=>?_,fun h2=>?_⟩⟩
 ·-- no name ahead
  have h0:zk t=0:=by omega
  rw[zc0,if_neg]
  intro h
  obtain⟨x,y,v,rfl,hx,hy,_⟩:=zca h
  rw[zbM hx 46 _ zhd] at h0
  have:=zoi hx
  omega
 ·rw[zc0,if_neg]
  intro h
  obtain⟨x,y,v,rfl,hx,hy,_⟩:=zca h
  rw[zbM hx 46 _ zhd] at h2
  simp only[List.length_append,List.length_cons] at hlen
  omega
 have e1:(((i+2:Nat):Int)+((zk t:Nat):Int)).toNat=i+2+zk t:=by omega
 have hlt:i+2+zk t < s.length:=by omega
 have hlt':zk t < t.length:=by omega
 rw[e1,hgen _ hlt]
 refine⟨by omega,_,List.getElem?_eq_getElem hlt',fun h3=>?_,fun h3=>?_⟩
 ·have hN2:zfg s (((i+2:Nat):Int)+((zk t:Nat):Int)+1) (((i+2+(zk t+1):Nat):Int)+zk (t.drop (zk t+1))):=by
   have:=ze0 s hs (i+2+(zk t+1))
   rw[hdd] at this
   exact this
  have hle2:=zlq (t.drop (zk t+1))
  have hl2:(t.drop (zk t+1)).length=t.length - (zk t+1):=List.length_drop
  have h46:t[zk t]=46:=by
   apply UInt8.toNat_inj.1
   exact Int.ofNat.inj h3
  have hsplit:t=t.take (zk t)++46::t.drop (zk t+1):=by
   rw[←h46,←List.drop_eq_getElem_cons hlt',List.take_append_drop]
  refine⟨⟨by omega,by omega⟩,_,hN2,⟨by omega,by omega⟩,fun h4=>?_,fun h4=>⟨fun h5=>?_,fun h5=>?_⟩⟩
  ·have h0:zk (t.drop (zk t+1))=0:=by omega
   rw[zc0,if_neg]
   intro h
   obtain⟨x,y,v,rfl,hx,hy,_⟩:=zca h
   rw[zbM hx 46 _ zhd,zfT,zbM hy 125 _ zki] at h0
   have:=zoi hy
   omega
  ·rw[zc0,if_neg]
   intro h
   obtain⟨x,y,v,rfl,hx,hy,_⟩:=zca h
   rw[zbM hx 46 _ zhd,zfT,zbM hy 125 _ zki] at h5
   simp only[List.length_append,List.length_cons] at hlen
   omega
  have e2:(((i+2+(zk t+1):Nat):Int)+((zk (t.drop (zk t+1)):Nat):Int)).toNat=i+2+(zk t+1+zk (t.drop (zk t+1))):=by omega
  have hlt2:zk t+1+zk (t.drop (zk t+1)) < t.length:=by omega
  rw[e2,hgen _ (by omega)]
  obtain⟨b4,hb4⟩:∃ b,t[zk t+1+zk (t.drop (zk t+1))]?=some b:=⟨_,List.getElem?_eq_getElem hlt2⟩
  refine⟨by omega,b4,hb4,fun h6=>?_,fun h6=>?_⟩
  ·have h125:b4=125:=by
    apply UInt8.toNat_inj.1
    exact Int.ofNat.inj h6
   subst h125
   have e3:((i:Int)+2).toNat=i+2:=by omega
   rw[e3,ht]
   have e4:i+2+(zk t+1+zk (t.drop (zk t+1))) - (i+2)=zk t+1+zk (t.drop (zk t+1)):=by omega
   rw[e4]
   have hsp2:t.drop (zk t+1)=(t.drop (zk t+1)).take (zk (t.drop (zk t+1)))++125::(t.drop (zk t+1)).drop (zk (t.drop (zk t+1))+1):=by
    have hlt3:zk (t.drop (zk t+1)) < (t.drop (zk t+1)).length:=by omega
    have:(t.drop (zk t+1))[zk (t.drop (zk t+1))]=125:=by
     have h7:=List.getElem?_eq_getElem hlt3
     rw[List.getElem?_drop,hb4] at h7
     exact (Option.some.inj h7).symm
    rw[←this,←List.drop_eq_getElem_cons hlt3,List.take_append_drop]
   generalize hx:t.take (zk t)=x at *
   have hxl:x.length=zk t:=by rw[←hx];simp;omega
   have hxi:∀ c ∈ x,inC [2,3] c=true:=fun c hc=>zjo t c (by rw[hx];exact hc)
   generalize hd:t.drop (zk t+1)=d at *
   generalize hy:d.take (zk d)=y at *
   have hyl:y.length=zk d:=by rw[←hy];simp;omega
   have hyi:∀ c ∈ y,inC [2,3] c=true:=fun c hc=>zjo d c (by rw[hy];exact hc)
   generalize d.drop (zk d+1)=v at *
   have htt:t=(x++46::y)++125::v:=by rw[hsplit,hsp2];simp
   have hno:(125:UInt8) ∉ x++46::y:=by
    intro h
    rcases List.mem_append.1 h with h | h
    ·have:=hxi _ h;rw[zki] at this;cases this
    rcases List.mem_cons.1 h with h | h
    ·exact absurd h (by decide)
    have:=hyi _ h;rw[zki] at this;cases this
   have hcut:Lib.cut t [125]=(x++46::y,v,true):=by rw[htt];exact ze3 125 _ _ hno
   have htake:t.take (zk t+1+zk d)=x++46::y:=by
    rw[←hxl,←hyl,htt]
    rw[List.take_append_of_le_length (by simp;omega),List.take_of_length_le (by simp;omega)]
   rw[htake]
   have hr:zG t=(x++46::y,zU (x++46::y)):=by unfold zG;rw[hcut];simp
   refine⟨⟨by omega,by omega⟩,by omega,by omega,by omega,by omega,zU (x++46::y),ztu _ (by simp;omega),fun h7=>?_,fun h7=>?_⟩
   ·refine⟨⟨by omega,by omega⟩,⟨by omega,by omega⟩,?_⟩
    rw[zc0,hr,if_pos h7]
    simp only[List.length_append,List.length_cons]
    omega
   rw[zc0,hr,if_neg h7]
  rw[zc0,if_neg]
  intro h
  obtain⟨x,y,v,rfl,hx,hy,_⟩:=zca h
  apply h6
  have e3:zk (x++46::(y++125::v))=x.length:=zbM hx 46 _ zhd
  rw[e3,zfT,zbM hy 125 _ zki] at hb4
  have e5:(x++46::(y++125::v))[x.length+1+y.length]?=some 125:=by
   rw[←List.getElem?_drop,zfT]
   simp
  rw[e5] at hb4
  rw[←Option.some.inj hb4]
  rfl
 rw[zc0,if_neg]
 intro h
 obtain⟨x,y,v,rfl,hx,hy,_⟩:=zca h
 apply h3
 simp[zbM hx 46 _ zhd]
def zib:List Int:=[123,125,91,93,40,41,61,44,46,43,45,42,47,37,60,62,33,63,58]
def zfB:List (List UInt8):=[[61,61],[33,61],[60,61],[62,61],[38,38],[124,124]]
def zdZ (a:UInt8):List UInt8:=if ((a.toNat:Nat):Int) ∈ zib then [a] else []
def zhF (a b:UInt8):List UInt8:=if [a,b] ∈ zfB then [a,b] else zdZ a
def TB {β:Type} (x:List UInt8) (c:β) (r:List UInt8) (B:Prop):List β→Prop
 | []=>B
 | k::ks=>(c=k→x=r)∧(¬ c=k→TB x c r B ks)
theorem tb {β:Type} {x:List UInt8} {c:β} {r:List UInt8} {B:Prop}:∀ {ks:List β},(c ∈ ks→x=r)→(c ∉ ks→B)→TB x c r B ks
 | [],_,h=>h (by simp)
 | k::ks,h1,h2=>⟨fun e=>h1 (by simp[e]),fun e=>tb (fun h=>h1 (by simp[h])) (fun h=>h2 (by simp[e,h]))⟩
def zal:List UInt8→List UInt8
 | []=>[]
 | [a]=>zdZ a
 | a::b::_=>zhF a b
theorem zsf (s:List UInt8) (hs:s.length≤1000000) (i:Nat) (hi:i < s.length):zof s i (zal (s.drop i)):=by
 apply zsq
 have hg:s[((i:Nat):Int).toNat]?=some s[i]:=by rw[Int.toNat_natCast];exact List.getElem?_eq_getElem hi
 have hd:s.drop i=s[i]::s.drop (i+1):=List.drop_eq_getElem_cons hi
 have e1:(((i:Nat):Int)+1).toNat - ((i:Nat):Int).toNat=1:=by omega
 have e2:(((i:Nat):Int)+2).toNat - ((i:Nat):Int).toNat=2:=by omega
 have o1:I64 (((i:Nat):Int)+1):=⟨by omega,by omega⟩
 have o2:I64 (((i:Nat):Int)+2):=⟨by omega,by omega⟩
 have o3:(0:Int)≤((i:Nat):Int):=by omega
 have o4:(0:Int)≤((i:Nat):Int)+1:=by omega
 have o5:(0:Int)≤((i:Nat):Int)+2:=by omega
 have o6:((i:Nat):Int).toNat≤(((i:Nat):Int)+1).toNat:=by omega
 have o7:((i:Nat):Int).toNat≤(((i:Nat):Int)+2).toNat:=by omega
 have o8:(((i:Nat):Int)+1).toNat≤s.length:=by omega
 refine⟨o1,fun h=>?_,fun h=>?_⟩
 ·have o9:(((i:Nat):Int)+2).toNat≤s.length:=by omega
  have hd2:s.drop (i+1)=s[i+1]::s.drop (i+2):=List.drop_eq_getElem_cons (by omega)
  rw[e1,e2,Int.toNat_natCast,hd,hd2]
  simp only[List.take_succ_cons,List.take_zero]
  generalize s[i+1]=b
  rw[Int.toNat_natCast] at hg
  generalize s[i]=a at *
  rw[Int.toNat_natCast] at o6 o7
  simp only[o1,o2,o3,o4,o5,o6,o7,o8,o9,hg,true_and,Option.some.injEq,exists_eq_left',zal,zhF,zdZ]
  refine tb (ks:=zfB) (fun h=>by rw[if_pos h]) (fun h=>?_)
  rw[if_neg h]
  exact tb (ks:=zib) (B:=[]=_) (fun h=>by rw[if_pos h]) (fun h=>by rw[if_neg h])
 have hd2:s.drop (i+1)=[]:=List.drop_eq_nil_of_le (by omega)
 rw[e1,Int.toNat_natCast,hd,hd2]
 simp only[List.take_succ_cons,List.take_zero]
 rw[Int.toNat_natCast] at hg
 generalize s[i]=a at *
 rw[Int.toNat_natCast] at o6
 simp only[o1,o3,o4,o6,o8,hg,true_and,Option.some.injEq,exists_eq_left',zal,zdZ]
 exact tb (ks:=zib) (B:=[]=_) (fun h=>by rw[if_pos h]) (fun h=>by rw[if_neg h])
def TI (t:LText):Prop:=t.left.length≤6000∧0≤t.pos∧t.pos+(t.left.length:Nat)≤6000
def zD (t:LText) (n:Nat):LText:=⟨t.left.drop n,t.pos+n⟩
theorem TI.take {t:LText} (h:TI t) {n:Nat} (hn:n≤t.left.length):TI (zD t n):=by
 obtain⟨h1,h2,h3⟩:=h
 refine⟨?_,?_,?_⟩ <;> simp only[zD,List.length_drop] <;> omega
theorem zcK {t:LText} (h:TI t) {n:Nat} (hn:n≤t.left.length):zbq t n (t.left.take n) (zD t n):=by
 apply zrb
 obtain⟨h1,h2,h3⟩:=h
 rw[Int.toNat_natCast]
 refine⟨by omega,hn,by omega,hn,⟨by omega,by omega⟩,rfl,?_⟩
 rw[List.take_of_length_le (by simp)]
 rfl
theorem zkY {t:LText} (h:TI t) (cl:List Int) (hc:cl.length < 1000000):zeX t cl (t.left.takeWhile (inC cl)) (zD t (zK cl t.left)):=by
 apply zrz
 have h1:=h.1
 refine⟨_,zrj t.left cl hc (by omega),_,_,zcK h (zcR cl t.left),?_,rfl⟩
 exact zb2 _ _
theorem zyT (t:LTokens) (g:Nat) (z:Bool) (h:TI t.text):zkH t g z (Token.mk 3 (t.text.left.takeWhile (inC [2,3])) 0 [] 0) (zab (t.text.left.takeWhile (inC [2,3]))) (LTokens.mk (zD t.text (zK [2,3] t.text.left)) t.out) g z:=by
 apply zsZ
 have h1:=h.1
 have h2:=zcR [2,3] t.text.left
 exact⟨_,_,zkY h [2,3] (by decide),_,zcd _ (by unfold zK at h2;omega),rfl,rfl,rfl,rfl,rfl⟩
theorem zhq (a:UInt8):Lib.contains [123,125,91,93,40,41,61,44,46,43,45,42,47,37,60,62,33,63,58] [a]=decide (((a.toNat:Nat):Int) ∈ zib):=by
 unfold Lib.contains
 rw[zkU]
 refine decide_eq_decide.2 ?_
 have e:a ∈ ([123,125,91,93,40,41,61,44,46,43,45,42,47,37,60,62,33,63,58]:List UInt8)↔((a.toNat:Nat):Int) ∈ zib:=by
  simp only[zib,List.mem_cons,List.not_mem_nil,or_false,←UInt8.toNat_inj,UInt8.reduceToNat]
  omega
 rw[←e]
 split
 ·rename_i h;simp only[h,iff_true];omega
 rename_i h;simp only[h,iff_false];omega
theorem zzP (t:LTokens) (g:Nat) (z:Bool) (h:TI t.text) (hne:t.text.left≠[]):zkt t g z (if zal t.text.left=[] then Token.mk 0 [] 0 [] 0 else Token.mk 4 (zal t.text.left) 0 [] 0) (decide (zal t.text.left≠[])) (if zal t.text.left=[] then t else LTokens.mk (zD t.text (zal t.text.left).length) t.out) g z:=by
 apply zsn
 obtain⟨⟨left,pos⟩,out⟩:=t
 have h1:=h.1
 simp only at h1 hne ⊢
 match left,hne,h1,h with
 | [a],hne,h1,h =>
  have hn:¬ [a] ∈ zfB:=by unfold zfB;simp
  have e0:(if (([a].length:Nat):Int) < 2 then (([a].length:Nat):Int) else 2).toNat=1:=by simp
  rw[e0]
  simp only[List.take_succ_cons,List.take_zero,List.length_cons,List.length_nil]
  refine⟨by simp,by omega,_,zjw zfB [a] (by decide),fun hq=>absurd (of_decide_eq_true hq) hn,fun _=>⟨by omega,_,zjq _ [a] (by simp),fun hq=>?_,fun hq=>?_⟩⟩
  ·rw[zhq] at hq
   have hq:=of_decide_eq_true hq
   have hs:zal [a]=[a]:=by simp[zal,zdZ,hq]
   rw[hs]
   exact⟨_,_,zcK h (n:=1) (by simp),by simp⟩
  rw[zhq] at hq
  have hq:¬ ((a.toNat:Nat):Int) ∈ zib:=fun e=>hq (decide_eq_true e)
  have hs:zal [a]=[]:=by simp[zal,zdZ,hq]
  rw[hs]
  simp
 | a::b::u,hne,h1,h =>
  have e0:(if (((a::b::u).length:Nat):Int) < 2 then (((a::b::u).length:Nat):Int) else 2)=2:=by
   rw[if_neg];simp only[List.length_cons];omega
  have e00:(2:Int).toNat=2:=rfl
  rw[e0,e00]
  simp only[List.take_succ_cons,List.take_zero,List.length_cons,List.length_nil]
  refine⟨by simp,by omega,_,zjw zfB [a,b] (by decide),fun hq=>?_,fun hn=>⟨by omega,_,zjq _ [a] (by simp),fun hq=>?_,fun hq=>?_⟩⟩
  ·have hq:=of_decide_eq_true hq
   have hs:zal (a::b::u)=[a,b]:=by simp[zal,zhF,hq]
   rw[hs]
   exact⟨_,_,zcK h (n:=2) (by simp),by simp⟩
  ·have hn:¬ [a,b] ∈ zfB:=fun e=>hn (decide_eq_true e)
   rw[zhq] at hq
   have hq:=of_decide_eq_true hq
   have hs:zal (a::b::u)=[a]:=by simp[zal,zhF,zdZ,hn,hq]
   rw[hs]
   exact⟨_,_,zcK h (n:=1) (by simp),by simp⟩
  have hn:¬ [a,b] ∈ zfB:=fun e=>hn (decide_eq_true e)
  rw[zhq] at hq
  have hq:¬ ((a.toNat:Nat):Int) ∈ zib:=fun e=>hq (decide_eq_true e)
  have hs:zal (a::b::u)=[]:=by simp[zal,zhF,zdZ,hn,hq]
  rw[hs]
  simp
def zek (x:UInt8):Option UInt8:=if x=34∨x=92∨x=36 then some x else if x=110 then some 10 else none
theorem zoS (s:List UInt8) (c:UInt8):zee s c (Lib.indexByte s c):=fun S=>zcm zg9 S (by simp[zig])
theorem zml (y x:UInt8) (u:List UInt8):zny (y::x::u) ((zek x).getD 0) (zek x).isSome:=by
 apply zlG
 refine⟨fun h=>absurd h (by simp;omega),fun _=>⟨x,rfl,_,zoS _ x,?_⟩⟩
 unfold zek
 by_cases h1:x=34
 ·subst h1
  exact⟨fun h=>absurd h (by decide),fun _=>⟨by decide,34,rfl,rfl,rfl⟩⟩
 by_cases h2:x=92
 ·subst h2
  exact⟨fun h=>absurd h (by decide),fun _=>⟨by decide,92,rfl,rfl,rfl⟩⟩
 by_cases h3:x=36
 ·subst h3
  exact⟨fun h=>absurd h (by decide),fun _=>⟨by decide,36,rfl,rfl,rfl⟩⟩
 by_cases h4:x=110
 ·subst h4
  exact⟨fun h=>absurd h (by decide),fun _=>⟨by decide,10,rfl,rfl,rfl⟩⟩
 have e:Lib.indexByte [34,92,36,110] x=-1:=by
  have:=Lib.indexByte_ge [34,92,36,110] x
  simp[Lib.indexByte,Ne.symm h1,Ne.symm h2,Ne.symm h3,Ne.symm h4]
 rw[e]
 simp[h1,h2,h3,h4]
def zag (l:List Part) (b:List UInt8):List Part:=l++(if b=[] then [] else [Part.mk false b])
def okP (l:List Part):Prop:=l=[]∨∃ l0 q,l=l0++[Part.mk true q]
theorem zjJ {α:Type} (l:List α) (x y:α):(l++[x]).set l.length y=l++[y]:=by simp
theorem zpi (l:List Part) (b:List UInt8) (c:UInt8) (g:Nat) (hl:okP l) (h1:l.length≤10000) (h2:b.length≤10000):zk2 (zag l b) g false c (zag l (b++[c])) g false:=by
 apply zsO
 have hb:b++[c]≠[]:=by simp
 by_cases e:b=[]
 ·subst e
  have e1:zag l []=l:=by simp[zag]
  have e2:zag l ([]++[c])=l++[Part.mk false [c]]:=by simp[zag]
  have e3:(((l.length:Nat):Int)+1 - 1).toNat=l.length:=by omega
  have big:bigRow (l.length+1) 24:=⟨by omega,by omega,by decide⟩
  rw[e1,e2,e3]
  refine⟨fun h=>⟨big,⟨by omega,by omega⟩,⟨by omega,by omega⟩,by omega,by omega,Part.mk false [],by simp,by simp[zaO],by omega,by omega,rfl,?_,rfl,rfl⟩,fun h=>?_⟩
  ·rw[zjJ];rfl
  rcases hl with rfl | ⟨l0,q,rfl⟩
  ·exact absurd rfl h
  have e4:((((l0++[Part.mk true q]).length:Nat):Int) - 1).toNat=l0.length:=by simp
  have hlen:(l0++[Part.mk true q]).length=l0.length+1:=by simp
  rw[e4]
  refine⟨⟨by omega,by omega⟩,by omega,by omega,Part.mk true q,by simp,fun _=>⟨big,⟨by omega,by omega⟩,⟨by omega,by omega⟩,by omega,by omega,Part.mk false [],by simp,by simp[zaO],by omega,by omega,rfl,?_,rfl,rfl⟩,fun h=>absurd rfl h⟩
  rw[zjJ];rfl
 have e1:zag l b=l++[Part.mk false b]:=by simp[zag,e]
 have e2:zag l (b++[c])=l++[Part.mk false (b++[c])]:=by simp[zag]
 have hlen:(l++[Part.mk false b]).length=l.length+1:=by simp
 have e3:((((l++[Part.mk false b]).length:Nat):Int) - 1).toNat=l.length:=by omega
 rw[e1,e2]
 refine⟨fun h=>by omega,fun h=>?_⟩
 rw[e3]
 refine⟨⟨by omega,by omega⟩,by omega,by omega,Part.mk false b,by simp,fun h=>by simp at h,fun _=>⟨⟨by omega,by omega⟩,by omega,by omega,by simp only[zaO];omega,by omega,by omega,rfl,?_,rfl,rfl⟩⟩
 rw[zjJ]
inductive Qx:List UInt8→List Part→List UInt8→Option (List Part × Nat)→Prop
 | nil (l b):Qx [] l b none
 | shut (t l b):Qx (34::t) l b (some (zag l b,1))
 | low (c t l b) (h1:c≠34) (h2:c.toNat < 32):Qx (c::t) l b none
 | esc (x y t l b r) (h1:zek x=some y) (h:Qx t l (b++[y]) r):Qx (92::x::t) l b (r.map fun q=>(q.1,q.2+2))
 | esc0 (l b):Qx [92] l b none
 | escbad (x t l b) (h1:zek x=none):Qx (92::x::t) l b none
 | ref (t l b r) (h1:(zG t).2=true) (h:Qx (t.drop ((zG t).1.length+1)) (zag l b++[Part.mk true (zG t).1]) [] r):Qx (36::123::t) l b (r.map fun q=>(q.1,q.2+(3+(zG t).1.length)))
 | refbad (t l b) (h1:(zG t).2=false):Qx (36::123::t) l b none
 | plain (c t l b r) (h1:c≠34) (h2:¬ c.toNat < 32) (h3:c≠92) (h4:c=36→t.head?≠some 123) (h:Qx t l (b++[c]) r):Qx (c::t) l b (r.map fun q=>(q.1,q.2+1))
theorem zfC {t:List UInt8} (h:(zG t).2=true):(zG t).1.length+1≤t.length:=by
 obtain⟨x,y,v,e,_,_,e2⟩:=zca h
 rw[e2,e]
 simp
 omega
theorem ze7 (c:UInt8):zz c=4↔c=34:=by
 have e:c=34↔c.toNat=34:=by rw[←UInt8.toNat_inj];rfl
 rw[e]
 unfold zz
 repeat' split
 all_goals (first | omega | (constructor <;> intro h <;> first | omega | exact absurd h (by decide)))
theorem zdd (t:LText) (a b:Nat):zD (zD t a) b=zD t (a+b):=by
 unfold zD
 simp only[LText.mk.injEq,List.drop_drop]
 exact⟨trivial,by omega⟩
theorem zb8 {t:LText} {c:UInt8} {u:List UInt8} (h:t.left=c::u):¬ t.left=[]∧t.left[0]?=some c:=by rw[h];simp
def QOut (gp:Nat) (lt:LTokens) (g:Nat) (z:Bool) (l:List Part) (b:List UInt8):Option (List Part × Nat)→Prop
 | none=>∃ t':LTokens,t'.out=lt.out∧zbK 0 [] 0 0 [] 0 (zag l b) gp false lt g z (Token.mk 0 [] 0 [] 0) false t' g z
 | some (ps,n)=>n≤lt.text.left.length∧zbK 0 [] 0 0 [] 0 (zag l b) gp false lt g z (Token.mk 2 [] 0 ps 0) true (LTokens.mk (zD lt.text n) lt.out) g z
theorem zf2 (l:List Part) (b:List UInt8):(zag l b).length≤l.length+1:=by
 unfold zag
 split <;> simp
theorem zti (l:List Part) (q:List UInt8):zag (l++[Part.mk true q]) []=l++[Part.mk true q]:=by simp[zag]
theorem QOut.next {gp:Nat} {lt:LTokens} {g:Nat} {z:Bool} {l:List Part} {b:List UInt8} {l2:List Part} {b2:List UInt8} {m:Nat} (hm:m≤lt.text.left.length)
  (step:∀ ra rb t' , zbK 0 [] 0 0 [] 0 (zag l2 b2) gp false (LTokens.mk (zD lt.text m) lt.out) g z ra rb t' g z→zbK 0 [] 0 0 [] 0 (zag l b) gp false lt g z ra rb t' g z) {r:Option (List Part × Nat)}
  (h:QOut gp (LTokens.mk (zD lt.text m) lt.out) g z l2 b2 r):QOut gp lt g z l b (r.map fun q=>(q.1,q.2+m)):=by
 cases r with
 | none=>obtain⟨t',ho,h⟩:=h;exact⟨t',ho,step _ _ _ h⟩
 | some q =>
  obtain⟨ps,n⟩:=q
  obtain⟨h1,h2⟩:=h
  simp only[zD,List.length_drop] at h1
  refine⟨by omega,?_⟩
  have:=step _ _ _ h2
  simp only[zdd] at this
  rw[Nat.add_comm] at this
  exact this
theorem zmp {t:List UInt8} {l:List Part} {b:List UInt8} {r:Option (List Part × Nat)} (h:Qx t l b r):∀ (gp:Nat) (lt:LTokens) (g:Nat) (z:Bool),lt.text.left=t→TI lt.text→okP l→l.length+t.length≤7000→b.length+t.length≤7000→QOut gp lt g z l b r:=by
 induction h with
 | nil l b =>
  intro gp lt g z e hT hl h1 h2
  refine⟨lt,rfl,?_⟩
  apply zaw
  exact⟨fun _=>⟨rfl,rfl,rfl,rfl,rfl⟩,fun h=>absurd e h⟩
 | shut t l b =>
  intro gp lt g z e hT hl h1 h2
  obtain⟨e1,e2⟩:=zb8 e
  have hlen:1≤lt.text.left.length:=by rw[e];simp
  refine⟨hlen,?_⟩
  apply zaw
  exact⟨fun h=>absurd h e1,fun _=>⟨34,e2,_,zaz 34,fun _=>⟨_,_,zcK hT hlen,rfl,rfl,rfl,rfl,rfl⟩,fun h=>absurd ((ze7 34).2 rfl) h⟩⟩
 | low c t l b c1 c2 =>
  intro gp lt g z e hT hl h1 h2
  obtain⟨e1,e2⟩:=zb8 e
  refine⟨lt,rfl,?_⟩
  apply zaw
  exact⟨fun h=>absurd h e1,fun _=>⟨c,e2,_,zaz c,fun h=>absurd ((ze7 c).1 h) c1,fun _=>⟨fun _=>⟨rfl,rfl,rfl,rfl,rfl⟩,fun h=>absurd (by omega) h⟩⟩⟩
 | esc x y t l b r hx _ ih =>
  intro gp lt g z e hT hl h1 h2
  obtain⟨e1,e2⟩:=zb8 e
  simp only[List.length_cons] at h1 h2
  have hlen:2≤lt.text.left.length:=by rw[e];simp
  refine QOut.next (m:=2) hlen (fun ra rb t' hA=>?_) (ih gp _ g z (by simp only[zD,e];rfl) (hT.take hlen) hl (by omega) (by simp;omega))
  apply zaw
  refine⟨fun h=>absurd h e1,fun _=>⟨92,e2,_,zaz 92,fun h=>absurd ((ze7 92).1 h) (by decide),fun _=>⟨fun h=>absurd h (by decide),fun _=>⟨fun _=>?_,fun h=>absurd (by decide) h⟩⟩⟩⟩
  rw[e]
  refine⟨_,_,zml 92 x t,fun _=>⟨_,_,_,?_,_,_,zcK hT hlen,hA⟩,fun h=>absurd (by rw[hx];rfl) h⟩
  rw[hx]
  exact zpi l b y gp hl (by omega) (by omega)
 | esc0 l b =>
  intro gp lt g z e hT hl h1 h2
  obtain⟨e1,e2⟩:=zb8 e
  refine⟨lt,rfl,?_⟩
  apply zaw
  refine⟨fun h=>absurd h e1,fun _=>⟨92,e2,_,zaz 92,fun h=>absurd ((ze7 92).1 h) (by decide),fun _=>⟨fun h=>absurd h (by decide),fun _=>⟨fun _=>?_,fun h=>absurd (by decide) h⟩⟩⟩⟩
  rw[e]
  refine⟨0,false,?_,fun h=>(by cases h),fun _=>⟨rfl,rfl,rfl,rfl,rfl⟩⟩
  apply zlG
  exact⟨fun _=>⟨rfl,rfl⟩,fun h=>absurd (by decide) h⟩
 | escbad x t l b hx =>
  intro gp lt g z e hT hl h1 h2
  obtain⟨e1,e2⟩:=zb8 e
  refine⟨lt,rfl,?_⟩
  apply zaw
  refine⟨fun h=>absurd h e1,fun _=>⟨92,e2,_,zaz 92,fun h=>absurd ((ze7 92).1 h) (by decide),fun _=>⟨fun h=>absurd h (by decide),fun _=>⟨fun _=>?_,fun h=>absurd (by decide) h⟩⟩⟩⟩
  rw[e]
  exact⟨_,_,zml 92 x t,fun h=>(by rw[hx] at h;cases h),fun _=>⟨rfl,rfl,rfl,rfl,rfl⟩⟩
 | ref t l b r hr _ ih =>
  intro gp lt g z e hT hl h1 h2
  obtain⟨e1,e2⟩:=zb8 e
  simp only[List.length_cons] at h1 h2
  have hrl:=zfC hr
  have hj:=zf2 l b
  have hlen:3+(zG t).1.length≤lt.text.left.length:=by rw[e];simp only[List.length_cons];omega
  have hT1:=hT.1
  refine QOut.next (m:=3+(zG t).1.length) hlen (fun ra rb t' hA=>?_) (ih gp _ g z ?_ (hT.take hlen) (.inr ⟨_,_,rfl⟩) ?_ ?_)
  ·apply zaw
   have hR:ziF lt.text.left (zG t).1 (zG t).2:=by
    have:=zjz lt.text.left (by omega) (by omega)
    rw[e] at this ⊢
    exact this
   have hTake:zbq lt.text (3+(((zG t).1.length:Nat):Int)) (lt.text.left.take (3+(zG t).1.length)) (zD lt.text (3+(zG t).1.length)):=by
    have:=zcK hT hlen
    rw[Int.natCast_add] at this
    exact this
   rw[zti] at hA
   exact⟨fun h=>absurd h e1,fun _=>⟨36,e2,_,zaz 36,fun h=>absurd ((ze7 36).1 h) (by decide),fun _=>⟨fun h=>absurd h (by decide),fun _=>⟨fun h=>absurd h (by decide),fun _=>⟨_,zbR _ _,fun _=>⟨_,_,hR,fun _=>⟨⟨by omega,by omega,by decide⟩,⟨by omega,by omega⟩,_,_,hTake,hA⟩,fun h=>absurd hr h⟩,fun h=>absurd (by rw[e];simp[Lib.hasPrefix]) h⟩⟩⟩⟩⟩
  ·simp only[zD,e]
   rw[show 3+(zG t).1.length=((zG t).1.length+1)+1+1 by omega]
   rfl
  ·simp;omega
  simp;omega
 | refbad t l b hr =>
  intro gp lt g z e hT hl h1 h2
  obtain⟨e1,e2⟩:=zb8 e
  have hT1:=hT.1
  refine⟨lt,rfl,?_⟩
  apply zaw
  have hR:ziF lt.text.left (zG t).1 (zG t).2:=by
   have:=zjz lt.text.left (by rw[e];simp) (by omega)
   rw[e] at this ⊢
   exact this
  exact⟨fun h=>absurd h e1,fun _=>⟨36,e2,_,zaz 36,fun h=>absurd ((ze7 36).1 h) (by decide),fun _=>⟨fun h=>absurd h (by decide),fun _=>⟨fun h=>absurd h (by decide),fun _=>⟨_,zbR _ _,fun _=>⟨_,_,hR,fun h=>(by rw[hr] at h;cases h),fun _=>⟨rfl,rfl,rfl,rfl,rfl⟩⟩,fun h=>absurd (by rw[e];simp[Lib.hasPrefix]) h⟩⟩⟩⟩⟩
 | plain c t l b r c1 c2 c3 c4 _ ih =>
  intro gp lt g z e hT hl h1 h2
  obtain⟨e1,e2⟩:=zb8 e
  simp only[List.length_cons] at h1 h2
  have hlen:1≤lt.text.left.length:=by rw[e];simp
  have hp:¬ Lib.hasPrefix lt.text.left [36,123]=true:=by
   rw[e]
   unfold Lib.hasPrefix
   intro h
   cases t with
   | nil=>simp at h
   | cons x t =>
    simp at h
    exact c4 h.1.symm (by rw[←h.2];rfl)
  have hc3:¬ ((c.toNat:Nat):Int)=92:=fun h=>c3 (by apply UInt8.toNat_inj.1;exact Int.ofNat.inj h)
  refine QOut.next (m:=1) hlen (fun ra rb t' hA=>?_) (ih gp _ g z (by simp only[zD,e];rfl) (hT.take hlen) hl (by omega) (by simp;omega))
  apply zaw
  exact⟨fun h=>absurd h e1,fun _=>⟨c,e2,_,zaz c,fun h=>absurd ((ze7 c).1 h) c1,fun _=>⟨fun h=>absurd h (by omega),fun _=>⟨fun h=>absurd h hc3,fun _=>⟨_,zbR _ _,fun h=>absurd h hp,fun _=>⟨_,_,_,zpi l b c gp hl (by omega) (by omega),_,_,zcK hT hlen,hA⟩⟩⟩⟩⟩⟩
theorem zz3 (a:Nat) (b:Nat):((a:Nat):Int).tdiv (b:Int)=((a / b:Nat):Int):=by
 rw[Int.tdiv_eq_ediv_of_nonneg (by omega)];simp
theorem zrD (n:Int) (h:I64 n):zem n (Lib.itoa n):=fun S=>zcm zkG S (if_pos h)
def Dg (l:List UInt8):Prop:=∀ c ∈ l,48≤c.toNat∧c.toNat≤57
theorem zt2 (c:UInt8):inC [3] c=true↔48≤c.toNat∧c.toNat≤57:=by
 unfold inC zz
 simp only[List.mem_singleton,decide_eq_true_eq]
 repeat' split
 all_goals (first | omega | (constructor <;> intro h <;> first | omega | exact absurd h (by decide)))
theorem zpa (t:List UInt8):Dg (t.takeWhile (inC [3])):=fun c hc=>(zt2 c).1 (List.all_eq_true.1 List.all_takeWhile c hc)
def zat (acc:Nat) (l:List UInt8):Nat:=l.foldl (fun a c=>a*10+(c.toNat - 48)) acc
theorem zbE (acc:Nat) (c:UInt8) (r:List UInt8):zat acc (c::r)=zat (acc*10+(c.toNat - 48)) r:=by
 unfold zat
 rw[List.foldl_cons]
theorem zen (acc:Nat):zat acc []=acc:=by
 unfold zat
 rw[List.foldl_nil]
theorem zlf:∀ (l:List UInt8) (acc:Nat),acc≤zat acc l
 | [],acc=>by rw[zen];exact Nat.le_refl _
 | c::r,acc=>by
  rw[zbE]
  have:=zlf r (acc*10+(c.toNat - 48))
  omega
theorem zsV (l:List UInt8):∀ (acc:Nat),Dg l→acc < 18446744073709551616→Lib.parseUint10 acc l=if zat acc l < 18446744073709551616 then .ok (zat acc l) else .range:=by
 induction l with
 | nil=>intro acc _ h;rw[zen,if_pos h,Lib.parseUint10]
 | cons c r ih =>
  intro acc hd h
  have hc:=hd c (by simp)
  have hge:=zlf r (acc*10+(c.toNat - 48))
  rw[zbE]
  unfold Lib.parseUint10
  rw[if_pos hc]
  by_cases h1:1844674407370955162≤acc
  ·rw[if_pos h1,if_neg (by omega)]
  rw[if_neg h1]
  by_cases h2:18446744073709551616≤acc*10+(c.toNat - 48)
  ·rw[if_pos h2,if_neg (by omega)]
  rw[if_neg h2]
  exact ih _ (fun x hx=>hd x (by simp[hx])) (by omega)
theorem zuq {l:List UInt8} (hd:Dg l) (hne:l≠[]):Lib.atoiAll l=if zat 0 l < 9223372036854775808 then .ok (zat 0 l:Int) else .range:=by
 cases l with
 | nil=>exact absurd rfl hne
 | cons c r =>
  have hc:=hd c (by simp)
  rw[Lib.atoiAll_plain c r (by omega) (by omega),Lib.parseMag,if_neg (by simp),zsV _ 0 hd (by omega)]
  by_cases h:zat 0 (c::r) < 18446744073709551616
  ·rw[if_pos h]
   by_cases h2:zat 0 (c::r) < 9223372036854775808
   ·simp only[Lib.signless,if_pos h2,if_neg (show ¬ 9223372036854775808≤zat 0 (c::r) by omega)]
   simp only[Lib.signless,if_neg h2,if_pos (show 9223372036854775808≤zat 0 (c::r) by omega)]
  rw[if_neg h,if_neg (show ¬ zat 0 (c::r) < 9223372036854775808 by omega)]
  rfl
theorem ztK {a d:Nat} (ha:0 < a) (hd:d < 10):Lib.decDigits (a*10+d)=Lib.decDigits a++[UInt8.ofNat (48+d)]:=by
 rw[Lib.decDigits,dif_neg (by omega),show (a*10+d) / 10=a by omega,show (a*10+d) % 10=d by omega]
theorem zpj:∀ (l:List UInt8) (acc:Nat),0 < acc→Dg l→Lib.decDigits (zat acc l)=Lib.decDigits acc++l
 | [],acc,_,_=>by rw[zen,List.append_nil]
 | c::r,acc,h,hd=>by
  have hc:=hd c (by simp)
  rw[zbE,zpj r _ (by omega) (fun x hx=>hd x (by simp[hx])),ztK h (by omega)]
  have:UInt8.ofNat (48+(c.toNat - 48))=c:=by
   rw[show 48+(c.toNat - 48)=c.toNat by omega];simp
  rw[this]
  simp
theorem zmi {c:UInt8} {r:List UInt8} (hd:Dg (c::r)) (h:c.toNat≠48):Lib.decDigits (zat 0 (c::r))=c::r:=by
 have hc:=hd c (by simp)
 rw[zbE,zpj r _ (by omega) (fun x hx=>hd x (by simp[hx])),Nat.zero_mul,Nat.zero_add,Lib.decDigits_one (by omega)]
 have:UInt8.ofNat (48+(c.toNat - 48))=c:=by
  rw[show 48+(c.toNat - 48)=c.toNat by omega];simp
 rw[this]
 rfl
theorem zpF:∀ (r:List UInt8),Dg r→r≠[]→(Lib.decDigits (zat 0 r)).length≤r.length
 | [],_,h=>absurd rfl h
 | c::r,hd,_=>by
  by_cases h:c.toNat=48
  ·rw[zbE,h]
   cases r with
   | nil=>simp[zen,Lib.decDigits_one (show 0 < 10 by omega)]
   | cons b r =>
    have:=zpF (b::r) (fun x hx=>hd x (by simp at hx ⊢;exact .inr hx)) (by simp)
    simp only[Nat.zero_mul,Nat.sub_self,Nat.add_zero,List.length_cons] at this ⊢
    omega
  rw[zmi hd h]
  exact Nat.le_refl _
def zff (d:List UInt8):Prop:=zat 0 d < 9223372036854775808∧(d.head?=some 48→d.length=1)
instance (d:List UInt8):Decidable (zff d):=by unfold zff;infer_instance
theorem zul {d:List UInt8} (hd:Dg d) (hne:d≠[]):Lib.itoa ((zat 0 d:Nat):Int)=d↔(d.head?=some 48→d.length=1):=by
 have e:Lib.itoa ((zat 0 d:Nat):Int)=Lib.decDigits (zat 0 d):=by
  unfold Lib.itoa
  rw[if_neg (by omega)]
  rfl
 rw[e]
 cases d with
 | nil=>exact absurd rfl hne
 | cons c r =>
  by_cases h:c.toNat=48
  ·have hc:c=48:=UInt8.toNat_inj.1 h
   subst hc
   simp only[List.head?_cons,List.length_cons,forall_const]
   cases r with
   | nil =>
    have h0:zat 0 [48]=0:=by rw[zbE,zen];rfl
    rw[h0,Lib.decDigits_one (show 0 < 10 by omega)]
    simp
   | cons b r =>
    have:=zpF (b::r) (fun x hx=>hd x (by simp at hx ⊢;exact .inr hx)) (by simp)
    constructor
    ·intro h2
     have h3:zat 0 (48::b::r)=zat 0 (b::r):=by rw[zbE];rfl
     rw[←h3,h2] at this
     simp at this
     omega
    intro h2
    simp at h2
  rw[zmi hd h]
  simp only[List.head?_cons,Option.some.injEq,true_iff]
  intro e
  exact absurd (by rw[e];rfl) h
def zfb (t:List UInt8):Option (Token × Nat):=if zff (t.takeWhile (inC [3])) then some (Token.mk 1 [] (zat 0 (t.takeWhile (inC [3])):Nat) [] 0,(t.takeWhile (inC [3])).length) else none
theorem zy2 {l:List UInt8} (hd:Dg l) (hne:l≠[]) (hl:l.length≤1000000):∃ v:Int,zei l v (decide (¬ zat 0 l < 9223372036854775808))∧(zat 0 l < 9223372036854775808→v=(zat 0 l:Nat)):=by
 have ha:=zuq hd hne
 by_cases h:zat 0 l < 9223372036854775808
 ·rw[if_pos h] at ha
  exact⟨_,fun S=>zcm zgg S (by simp only[zi8,ha];rw[if_pos (by omega)];simp[h]),fun _=>rfl⟩
 rw[if_neg h] at ha
 exact⟨Lib.atoiSat l,fun S=>zcm zgg S (by simp only[zi8,ha];rw[if_pos (by omega)];simp[h]),fun e=>absurd e h⟩
theorem ztX (t:LTokens) (g:Nat) (z:Bool) (h:TI t.text) (hne:t.text.left.takeWhile (inC [3])≠[]):match zfb t.text.left with
  | none=>∃ (x:Token) (t':LTokens),t'.out=t.out∧zh1 t g z x false t' g z
  | some (x,n)=>zh1 t g z x true (LTokens.mk (zD t.text n) t.out) g z:=by
 have h1:=h.1
 have hd:=zpa t.text.left
 have hw:=zkY h [3] (by decide)
 have hl:=zcR [3] t.text.left
 unfold zK at hw hl
 unfold zfb
 generalize t.text.left.takeWhile (inC [3])=d at *
 obtain⟨v,ha,hv⟩:=zy2 hd hne (by omega)
 by_cases hb:zat 0 d < 9223372036854775808
 ·obtain rfl:=hv hb
  have hi:=zul hd hne
  by_cases h0:d.head?=some 48→d.length=1
  ·rw[if_pos ⟨hb,h0⟩]
   apply ziq
   refine⟨_,_,hw,_,_,ha,fun e=>?_,fun _=>⟨_,zrD _ ⟨by omega,by omega⟩,rfl,?_,rfl,rfl,rfl⟩⟩
   ·simp[hb] at e
   exact decide_eq_true (hi.2 h0)
  rw[if_neg (fun e=>h0 e.2)]
  refine⟨_,LTokens.mk (zD t.text d.length) t.out,rfl,ziq _ _ _ _ _ _ _ _ ⟨_,_,hw,_,_,ha,fun e=>?_,fun _=>⟨_,zrD _ ⟨by omega,by omega⟩,rfl,?_,rfl,rfl,rfl⟩⟩⟩
  ·simp[hb] at e
  exact decide_eq_false (fun e=>h0 (hi.1 e))
 rw[if_neg (fun e=>hb e.1)]
 exact⟨_,LTokens.mk (zD t.text d.length) t.out,rfl,ziq _ _ _ _ _ _ _ _ ⟨_,_,hw,_,_,ha,fun _=>⟨rfl,rfl,rfl,rfl,rfl⟩,fun e=>absurd (decide_eq_true hb) e⟩⟩
def zcO (first:Bool) (n:Nat):List UInt8→Option Nat
 | []=>some n
 | c::r=>if ¬ n*10+(c.toNat - 48) < 9223372036854775808 then none else if first=false∧n=0 then none else zcO false (n*10+(c.toNat - 48)) r
theorem zqT (l:List UInt8):∀ (n:Nat),0 < n→n < 9223372036854775808→zcO false n l=if zat n l < 9223372036854775808 then some (zat n l) else none:=by
 induction l with
 | nil=>intro n _ h;rw[zen,if_pos h,zcO]
 | cons c r ih =>
  intro n h0 h
  have hge:=zlf r (n*10+(c.toNat - 48))
  rw[zbE]
  unfold zcO
  by_cases h1:n*10+(c.toNat - 48) < 9223372036854775808
  ·rw[if_neg (fun e=>e h1),if_neg (by omega)]
   exact ih _ (by omega) h1
  rw[if_pos h1,if_neg (by omega)]
theorem zm2 {d:List UInt8} (hd:Dg d) (hne:d≠[]):zcO true 0 d=if zff d then some (zat 0 d) else none:=by
 cases d with
 | nil=>exact absurd rfl hne
 | cons c r =>
  have hc:=hd c (by simp)
  unfold zcO
  rw[if_neg (by omega),if_neg (by simp)]
  by_cases h:c.toNat=48
  ·have hc:c=48:=UInt8.toNat_inj.1 h
   subst hc
   cases r with
   | nil=>rw[if_pos (show zff [48] from ⟨by decide,fun _=>rfl⟩)];rfl
   | cons b r =>
    have hb:=hd b (by simp)
    have hno:¬ zff (48::b::r):=fun e=>by have:=e.2 rfl;simp at this
    rw[if_neg hno]
    unfold zcO
    have e0:0*10+((48:UInt8).toNat - 48)=0:=rfl
    rw[e0,if_neg (by omega),if_pos ⟨rfl,rfl⟩]
  rw[zqT r _ (by omega) (by omega),←zbE]
  have e:(List.head? (c::r)=some 48→(c::r).length=1):=fun e=>absurd (by rw[Option.some.inj e];rfl) h
  by_cases h2:zat 0 (c::r) < 9223372036854775808
  ·rw[if_pos h2,if_pos (show zff (c::r) from ⟨h2,e⟩)]
  rw[if_neg h2,if_neg (show ¬ zff (c::r) from fun e=>h2 e.1)]
theorem zmu (s:List UInt8) (hs:s.length≤1000000) (i:Nat):∀ (m k n:Nat),k+m=s.length→i≤k→n < 9223372036854775808→match zcO (decide (i=k)) n ((s.drop k).takeWhile (inC [3])) with
  | none=>zb9 s i n k 0 [] 0 0 [] 0 (Token.mk 0 [] 0 [] 0) 0
  | some v=>zb9 s i n k 0 [] 0 0 [] 0 (Token.mk 1 [] (v:Nat) [] i) ((k+((s.drop k).takeWhile (inC [3])).length:Nat) - (i:Nat):Int):=by
 intro m
 induction m with
 | zero =>
  intro k n hk hi hn
  rw[List.drop_eq_nil_of_le (by omega)]
  simp only[List.takeWhile_nil,zcO,List.length_nil,Nat.add_zero]
  apply zb1
  exact⟨fun h=>by omega,fun _=>⟨⟨by omega,by omega⟩,rfl,rfl⟩⟩
 | succ m ih =>
  intro k n hk hi hn
  have hlt:k < s.length:=by omega
  have hg:s[((k:Nat):Int).toNat]?=some s[k]:=by rw[Int.toNat_natCast];exact List.getElem?_eq_getElem hlt
  have hd:s.drop k=s[k]::s.drop (k+1):=List.drop_eq_getElem_cons hlt
  rw[hd,List.takeWhile_cons]
  generalize s[k]=c at hg
  by_cases hc:inC [3] c=true
  ·rw[if_pos hc]
   have hc2:=(zt2 c).1 hc
   have hdig:zdi c true:=by
    have:=zdP c
    rwa [decide_eq_true (by unfold inC at hc;simpa using hc)] at this
   have e10:(9223372036854775807 - (((c.toNat:Nat):Int) - 48)).tdiv 10=(((9223372036854775807 - (c.toNat - 48)) / 10:Nat):Int):=by
    rw[show 9223372036854775807 - (((c.toNat:Nat):Int) - 48)=((9223372036854775807 - (c.toNat - 48):Nat):Int) by omega]
    exact zz3 _ 10
   have eacc:10*((n:Nat):Int)+(((c.toNat:Nat):Int) - 48)=((n*10+(c.toNat - 48):Nat):Int):=by omega
   have ek:((k:Nat):Int)+1=((k+1:Nat):Int):=rfl
   unfold zcO
   by_cases h1:n*10+(c.toNat - 48) < 9223372036854775808
   ·rw[if_neg (fun e=>e h1)]
    by_cases h2:decide (i=k)=false∧n=0
    ·rw[if_pos h2]
     have hik:¬ i=k:=of_decide_eq_false h2.1
     apply zb1
     refine⟨fun _=>⟨by omega,c,hg,true,hdig,fun _=>?_,fun h=>absurd rfl h⟩,fun h=>by omega⟩
     rw[e10]
     exact⟨⟨by omega,by omega⟩,⟨by omega,by omega⟩,⟨by omega,by omega⟩,⟨by omega,by omega⟩,fun h=>by omega,fun _=>⟨fun _=>⟨fun _=>⟨rfl,rfl⟩,fun h=>absurd (by omega) h⟩,fun h=>by omega⟩⟩
    rw[if_neg h2]
    have key:=ih (k+1) (n*10+(c.toNat - 48)) (by omega) (by omega) h1
    rw[decide_eq_false (show ¬ i=k+1 by omega)] at key
    have step:∀ ra rb,zb9 s i ((n*10+(c.toNat - 48):Nat):Int) ((k+1:Nat):Int) 0 [] 0 0 [] 0 ra rb→zb9 s i n k 0 [] 0 0 [] 0 ra rb:=by
     intro ra rb hA
     apply zb1
     refine⟨fun _=>⟨by omega,c,hg,true,hdig,fun _=>?_,fun h=>absurd rfl h⟩,fun h=>by omega⟩
     rw[e10,eacc,ek]
     refine⟨⟨by omega,by omega⟩,⟨by omega,by omega⟩,⟨by omega,by omega⟩,⟨by omega,by omega⟩,fun h=>by omega,fun _=>⟨fun h3=>⟨fun h4=>?_,fun _=>⟨⟨by omega,by omega⟩,⟨by omega,by omega⟩,⟨by omega,by omega⟩,hA⟩⟩,fun h=>⟨⟨by omega,by omega⟩,⟨by omega,by omega⟩,⟨by omega,by omega⟩,hA⟩⟩⟩
     exact absurd ⟨decide_eq_false (by omega),by omega⟩ h2
    split at key
    ·exact step _ _ key
    refine step _ _ ?_
    rw[List.length_cons,show k+(((s.drop (k+1)).takeWhile (inC [3])).length+1)=k+1+((s.drop (k+1)).takeWhile (inC [3])).length by omega]
    exact key
   rw[if_pos h1]
   apply zb1
   refine⟨fun _=>⟨by omega,c,hg,true,hdig,fun _=>?_,fun h=>absurd rfl h⟩,fun h=>by omega⟩
   rw[e10]
   exact⟨⟨by omega,by omega⟩,⟨by omega,by omega⟩,⟨by omega,by omega⟩,⟨by omega,by omega⟩,fun _=>⟨rfl,rfl⟩,fun h=>absurd (by omega) h⟩
  rw[if_neg hc]
  have hdig:zdi c false:=by
   have:=zdP c
   rwa [decide_eq_false (by unfold inC at hc;simpa using hc)] at this
  simp only[zcO,List.length_nil,Nat.add_zero]
  apply zb1
  exact⟨fun _=>⟨by omega,c,hg,false,hdig,fun h=>(by cases h),fun _=>⟨⟨by omega,by omega⟩,rfl,rfl⟩⟩,fun h=>by omega⟩
def atT (x:Token) (i:Int):Token:=⟨x.Kind,x.Text,x.Num,x.Parts,i⟩
theorem zoB (s:List UInt8) (hs:s.length≤1000000) (i:Nat) (hi:i≤s.length) (hne:(s.drop i).takeWhile (inC [3])≠[]):match zfb (s.drop i) with
  | none=>∃ x,zkT s i x 0
  | some (x,n)=>zkT s i (atT x i) n:=by
 have key:=zmu s hs i (s.length - i) i 0 (by omega) (Nat.le_refl _) (by omega)
 rw[decide_eq_true rfl,zm2 (zpa _) hne] at key
 unfold zfb
 by_cases h:zff ((s.drop i).takeWhile (inC [3]))
 ·rw[if_pos h] at key ⊢
  apply zmj
  have e:((i+((s.drop i).takeWhile (inC [3])).length:Nat) - (i:Nat):Int)=(((s.drop i).takeWhile (inC [3])).length:Nat):=by omega
  simp only at key
  rw[e] at key
  exact key
 rw[if_neg h] at key ⊢
 exact⟨_,zmj _ _ _ _ key⟩
theorem zuV (t:LTokens) (g:Nat) (z:Bool) (h:TI t.text) {u:List UInt8} (e:t.text.left=34::u) {r:Option (List Part × Nat)} (hq:Qx u [] [] r):match r with
  | none=>∃ t':LTokens,t'.out=t.out∧zio t g z (Token.mk 0 [] 0 [] 0) false t' g z
  | some (ps,n)=>n+1≤t.text.left.length∧zio t g z (Token.mk 2 [] 0 ps 0) true (LTokens.mk (zD t.text (n+1)) t.out) g z:=by
 have hlen:1≤t.text.left.length:=by rw[e];simp
 have h1:=h.1
 have hu:u.length≤6000:=by rw[e] at h1;simp at h1;omega
 have hl:(zD t.text 1).left=u:=by simp only[zD,e];rfl
 have key:=zmp hq 0 (LTokens.mk (zD t.text 1) t.out) g z hl (h.take hlen) (.inl rfl) (by simp;omega) (by simp;omega)
 cases r with
 | none =>
  obtain⟨t',ho,hA⟩:=key
  exact⟨t',ho,zlL _ _ _ _ _ _ _ _ ⟨_,_,zcK h hlen,hA⟩⟩
 | some q =>
  obtain⟨ps,n⟩:=q
  obtain⟨hn,hA⟩:=key
  simp only[zdd] at hA
  simp only at hn
  rw[hl] at hn
  refine⟨by rw[e];simp;omega,zlL _ _ _ _ _ _ _ _ ⟨_,_,zcK h hlen,?_⟩⟩
  rw[Nat.add_comm n 1]
  exact hA
def TOut (s:List UInt8) (i k:Nat) (l:List Part) (b:List UInt8):Option (List Part × Nat)→Prop
 | none=>zO s i k 0 [] 0 0 [] 0 l b (Token.mk 0 [] 0 [] 0) 0
 | some (ps,n)=>zO s i k 0 [] 0 0 [] 0 l b (Token.mk 2 [] 0 ps i) ((k:Int)+n - i)
theorem TOut.next {s:List UInt8} {i k:Nat} {l l2:List Part} {b b2:List UInt8} {m:Nat} (step:∀ ra rb,zO s i ((k+m:Nat):Int) 0 [] 0 0 [] 0 l2 b2 ra rb→zO s i k 0 [] 0 0 [] 0 l b ra rb) {r:Option (List Part × Nat)} (h:TOut s i (k+m) l2 b2 r):TOut s i k l b (r.map fun q=>(q.1,q.2+m)):=by
 cases r with
 | none=>exact step _ _ h
 | some q =>
  obtain⟨ps,n⟩:=q
  have:=step _ _ h
  simp only[TOut,Option.map_some]
  rw[show (k:Int)+((n+m:Nat):Int) - (i:Int)=((k+m:Nat):Int)+(n:Int) - (i:Int) by omega]
  exact this
theorem zp0 {a b:UInt8} (h:a≠b):a.toNat≠b.toNat:=fun e=>h (UInt8.toNat_inj.1 e)
theorem zrO {x y:UInt8} (h:zek x=some y):(x=34∧y=34)∨(x=92∧y=92)∨(x=36∧y=36)∨(x=110∧y=10):=by
 unfold zek at h
 split at h
 ·rename_i c
  obtain rfl:=Option.some.inj h
  rcases c with rfl | rfl | rfl <;> simp
 split at h
 ·rename_i c
  obtain rfl:=Option.some.inj h
  subst c
  simp
 cases h
theorem zup {x:UInt8} (h:zek x=none):x.toNat≠34∧x.toNat≠92∧x.toNat≠36∧x.toNat≠110:=by
 unfold zek at h
 split at h
 ·cases h
 rename_i c1
 split at h
 ·cases h
 rename_i c2
 refine⟨fun e=>c1 (.inl (UInt8.toNat_inj.1 e)),fun e=>c1 (.inr (.inl (UInt8.toNat_inj.1 e))),fun e=>c1 (.inr (.inr (UInt8.toNat_inj.1 e))),fun e=>c2 (UInt8.toNat_inj.1 e)⟩
theorem zlb {t:List UInt8} {l:List Part} {b:List UInt8} {r:Option (List Part × Nat)} (h:Qx t l b r):∀ (s:List UInt8) (i k:Nat),s.drop k=t→i≤k→k≤s.length→s.length≤100000→l.length+t.length≤200000→b.length+t.length≤200000→TOut s i k l b r:=by
 induction h with
 | nil l b =>
  intro s i k e hi hk hs h1 h2
  have hlen:(s.drop k).length=0:=by rw[e];rfl
  rw[List.length_drop] at hlen
  show zO _ _ _ _ _ _ _ _ _ _ _ _ _
  apply zau
  exact⟨fun h=>by omega,fun _=>⟨rfl,rfl⟩⟩
 | shut t l b =>
  intro s i k e hi hk hs h1 h2
  have hlen:(s.drop k).length=t.length+1:=by rw[e];rfl
  rw[List.length_drop] at hlen
  have hg:s[((k:Nat):Int).toNat]?=some 34:=by rw[Int.toNat_natCast,←List.head?_drop,e];rfl
  simp only[List.length_cons] at h1 h2
  show zO _ _ _ _ _ _ _ _ _ _ _ _ _
  apply zau
  refine⟨fun _=>⟨by omega,34,hg,fun _=>⟨fun hb=>⟨⟨by omega,by omega,by decide⟩,⟨by omega,by omega⟩,⟨by omega,by omega⟩,?_,by omega⟩,fun hb=>⟨⟨by omega,by omega⟩,⟨by omega,by omega⟩,?_,by omega⟩⟩,fun h=>absurd rfl h⟩,fun h=>by omega⟩
  ·have:b≠[]:=by intro e;subst e;simp at hb
   simp[zag,this]
  have:b=[]:=List.length_eq_zero_iff.1 (by omega)
  simp[zag,this]
 | low c t l b c1 c2 =>
  intro s i k e hi hk hs h1 h2
  have hlen:(s.drop k).length=t.length+1:=by rw[e];rfl
  rw[List.length_drop] at hlen
  have hg:s[((k:Nat):Int).toNat]?=some c:=by rw[Int.toNat_natCast,←List.head?_drop,e];rfl
  have n1:=zp0 c1
  show zO _ _ _ _ _ _ _ _ _ _ _ _ _
  apply zau
  exact⟨fun _=>⟨by omega,c,hg,fun h=>absurd (by exact Int.ofNat.inj h) n1,fun _=>⟨fun _=>⟨rfl,rfl⟩,fun h=>by omega⟩⟩,fun h=>by omega⟩
 | esc x y t l b r hx _ ih =>
  intro s i k e hi hk hs h1 h2
  have hlen:(s.drop k).length=t.length+2:=by rw[e];rfl
  rw[List.length_drop] at hlen
  have hg:s[((k:Nat):Int).toNat]?=some 92:=by rw[Int.toNat_natCast,←List.head?_drop,e];rfl
  have hd:s.drop (k+1)=x::t:=by rw[←List.drop_drop,e];rfl
  have hd2:s.drop (k+2)=t:=by rw[←List.drop_drop,e];rfl
  have hg2:s[((k:Nat)+1:Int).toNat]?=some x:=by rw[show ((k:Nat)+1:Int).toNat=k+1 by omega,←List.head?_drop,hd];rfl
  simp only[List.length_cons] at h1 h2
  refine TOut.next (m:=2) (fun ra rb hA=>?_) (ih s i (k+2) hd2 (by omega) (by omega) hs (by omega) (by simp;omega))
  have ek:((k:Nat):Int)+1+1=((k+2:Nat):Int):=by omega
  apply zau
  refine⟨fun _=>⟨by omega,92,hg,fun h=>absurd h (by decide),fun _=>⟨fun h=>absurd h (by decide),fun _=>⟨fun _=>⟨⟨by omega,by omega⟩,fun h=>by omega,fun _=>⟨by omega,x,hg2,?_⟩⟩,fun h=>absurd rfl h⟩⟩⟩,fun h=>by omega⟩
  rw[ek]
  have big:bigRow (b.length+1) 1:=⟨by omega,by omega,by decide⟩
  have o1:I64 (((k+2:Nat):Int)):=⟨by omega,by omega⟩
  rcases zrO hx with⟨rfl,rfl⟩ | ⟨rfl,rfl⟩ | ⟨rfl,rfl⟩ | ⟨rfl,rfl⟩
  ·exact⟨fun _=>⟨big,o1,hA⟩,fun h=>absurd rfl h⟩
  ·exact⟨fun h=>absurd h (by decide),fun _=>⟨fun _=>⟨big,o1,hA⟩,fun h=>absurd rfl h⟩⟩
  ·exact⟨fun h=>absurd h (by decide),fun _=>⟨fun h=>absurd h (by decide),fun _=>⟨fun _=>⟨big,o1,hA⟩,fun h=>absurd rfl h⟩⟩⟩
  exact⟨fun h=>absurd h (by decide),fun _=>⟨fun h=>absurd h (by decide),fun _=>⟨fun h=>absurd h (by decide),fun _=>⟨fun _=>⟨big,o1,hA⟩,fun h=>absurd rfl h⟩⟩⟩⟩
 | esc0 l b =>
  intro s i k e hi hk hs h1 h2
  have hlen:(s.drop k).length=1:=by rw[e];rfl
  rw[List.length_drop] at hlen
  have hg:s[((k:Nat):Int).toNat]?=some 92:=by rw[Int.toNat_natCast,←List.head?_drop,e];rfl
  show zO _ _ _ _ _ _ _ _ _ _ _ _ _
  apply zau
  exact⟨fun _=>⟨by omega,92,hg,fun h=>absurd h (by decide),fun _=>⟨fun h=>absurd h (by decide),fun _=>⟨fun _=>⟨⟨by omega,by omega⟩,fun _=>⟨rfl,rfl⟩,fun h=>by omega⟩,fun h=>absurd rfl h⟩⟩⟩,fun h=>by omega⟩
 | escbad x t l b hx =>
  intro s i k e hi hk hs h1 h2
  have hlen:(s.drop k).length=t.length+2:=by rw[e];rfl
  rw[List.length_drop] at hlen
  have hg:s[((k:Nat):Int).toNat]?=some 92:=by rw[Int.toNat_natCast,←List.head?_drop,e];rfl
  have hd:s.drop (k+1)=x::t:=by rw[←List.drop_drop,e];rfl
  have hg2:s[((k:Nat)+1:Int).toNat]?=some x:=by rw[show ((k:Nat)+1:Int).toNat=k+1 by omega,←List.head?_drop,hd];rfl
  obtain⟨n1,n2,n3,n4⟩:=zup hx
  show zO _ _ _ _ _ _ _ _ _ _ _ _ _
  apply zau
  exact⟨fun _=>⟨by omega,92,hg,fun h=>absurd h (by decide),fun _=>⟨fun h=>absurd h (by decide),fun _=>⟨fun _=>⟨⟨by omega,by omega⟩,fun h=>by omega,fun _=>⟨by omega,x,hg2,fun h=>by omega,fun _=>⟨fun h=>by omega,fun _=>⟨fun h=>by omega,fun _=>⟨fun h=>by omega,fun _=>⟨rfl,rfl⟩⟩⟩⟩⟩⟩,fun h=>absurd rfl h⟩⟩⟩,fun h=>by omega⟩
 | ref t l b r hr _ ih =>
  intro s i k e hi hk hs h1 h2
  have hlen:(s.drop k).length=t.length+2:=by rw[e];rfl
  rw[List.length_drop] at hlen
  have hg:s[((k:Nat):Int).toNat]?=some 36:=by rw[Int.toNat_natCast,←List.head?_drop,e];rfl
  have hd:s.drop (k+1)=123::t:=by rw[←List.drop_drop,e];rfl
  have hd2:s.drop (k+2)=t:=by rw[←List.drop_drop,e];rfl
  have hg2:s[((k:Nat)+1:Int).toNat]?=some 123:=by rw[show ((k:Nat)+1:Int).toNat=k+1 by omega,←List.head?_drop,hd];rfl
  simp only[List.length_cons] at h1 h2
  have hrl:=zfC hr
  have hR:=zgH s (by omega) k (by omega)
  rw[hd2,zc0,if_pos hr] at hR
  have hj:=zf2 l b
  have hdn:s.drop (k+(3+(zG t).1.length))=t.drop ((zG t).1.length+1):=by
   rw[←hd2,List.drop_drop];congr 1;omega
  have hin:(zG t).1=t.take (zG t).1.length:=by
   obtain⟨x,y,v,e1,_,_,e2⟩:=zca hr
   rw[e2]
   conv=>rhs;rw[e1]
   rw[show x++46::(y++125::v)=(x++46::y)++125::v by simp,List.take_left]
  refine TOut.next (m:=3+(zG t).1.length) (fun ra rb hA=>?_) (ih s i (k+(3+(zG t).1.length)) hdn (by omega) (by omega) hs (by simp;omega) (by simp;omega))
  have zuh:bigRow (l.length+1) 24:=⟨by omega,by omega,by decide⟩
  have big2:bigRow (l.length+2) 24:=⟨by omega,by omega,by decide⟩
  have e1:((k:Nat):Int)+(((zG t).1.length:Nat)+3:Int) - 1+1=((k+(3+(zG t).1.length):Nat):Int):=by omega
  have etake:(s.drop ((k:Nat)+2:Int).toNat).take ((((k:Nat):Int)+(((zG t).1.length:Nat)+3:Int) - 1).toNat - ((k:Nat)+2:Int).toNat)=(zG t).1:=by
   rw[show ((k:Nat)+2:Int).toNat=k+2 by omega,hd2,show (((k:Nat):Int)+(((zG t).1.length:Nat)+3:Int) - 1).toNat - (k+2)=(zG t).1.length by omega]
   exact hin.symm
  apply zau
  refine⟨fun _=>⟨by omega,36,hg,fun h=>absurd h (by decide),fun _=>⟨fun h=>absurd h (by decide),fun _=>⟨fun h=>absurd h (by decide),fun _=>⟨fun _=>⟨⟨by omega,by omega⟩,fun _=>⟨⟨by omega,by omega⟩,by omega,123,hg2,fun _=>⟨_,hR,fun h=>by omega,fun _=>⟨fun hb=>?_,fun hb=>?_⟩⟩,fun h=>absurd rfl h⟩,fun h=>by omega⟩,fun h=>absurd rfl h⟩⟩⟩⟩,fun h=>by omega⟩
  ·have:b≠[]:=by intro e;subst e;simp at hb
   have ej:zag l b++[Part.mk true (zG t).1]=l++[Part.mk false b,Part.mk true (zG t).1]:=by simp[zag,this]
   rw[ej] at hA
   rw[etake,e1]
   exact⟨zuh,⟨by omega,by omega⟩,⟨by omega,by omega⟩,⟨by omega,by omega⟩,by omega,by omega,by omega,by omega,big2,⟨by omega,by omega⟩,⟨by omega,by omega⟩,⟨by omega,by omega⟩,hA⟩
  have:b=[]:=List.length_eq_zero_iff.1 (by omega)
  subst this
  have ej:zag l []++[Part.mk true (zG t).1]=l++[Part.mk true (zG t).1]:=by simp[zag]
  rw[ej] at hA
  rw[etake,e1]
  exact⟨⟨by omega,by omega⟩,⟨by omega,by omega⟩,⟨by omega,by omega⟩,by omega,by omega,by omega,by omega,zuh,⟨by omega,by omega⟩,⟨by omega,by omega⟩,⟨by omega,by omega⟩,hA⟩
 | refbad t l b hr =>
  intro s i k e hi hk hs h1 h2
  have hlen:(s.drop k).length=t.length+2:=by rw[e];rfl
  rw[List.length_drop] at hlen
  have hg:s[((k:Nat):Int).toNat]?=some 36:=by rw[Int.toNat_natCast,←List.head?_drop,e];rfl
  have hd:s.drop (k+1)=123::t:=by rw[←List.drop_drop,e];rfl
  have hd2:s.drop (k+2)=t:=by rw[←List.drop_drop,e];rfl
  have hg2:s[((k:Nat)+1:Int).toNat]?=some 123:=by rw[show ((k:Nat)+1:Int).toNat=k+1 by omega,←List.head?_drop,hd];rfl
  have hR:=zgH s (by omega) k (by omega)
  rw[hd2,zc0,if_neg (by rw[hr];simp)] at hR
  show zO _ _ _ _ _ _ _ _ _ _ _ _ _
  apply zau
  exact⟨fun _=>⟨by omega,36,hg,fun h=>absurd h (by decide),fun _=>⟨fun h=>absurd h (by decide),fun _=>⟨fun h=>absurd h (by decide),fun _=>⟨fun _=>⟨⟨by omega,by omega⟩,fun _=>⟨⟨by omega,by omega⟩,by omega,123,hg2,fun _=>⟨_,hR,fun _=>⟨rfl,rfl⟩,fun h=>absurd rfl h⟩,fun h=>absurd rfl h⟩,fun h=>by omega⟩,fun h=>absurd rfl h⟩⟩⟩⟩,fun h=>by omega⟩
 | plain c t l b r c1 c2 c3 c4 _ ih =>
  intro s i k e hi hk hs h1 h2
  have hlen:(s.drop k).length=t.length+1:=by rw[e];rfl
  rw[List.length_drop] at hlen
  have hg:s[((k:Nat):Int).toNat]?=some c:=by rw[Int.toNat_natCast,←List.head?_drop,e];rfl
  have hd:s.drop (k+1)=t:=by rw[←List.drop_drop,e];rfl
  simp only[List.length_cons] at h1 h2
  have n1:c.toNat≠34:=zp0 c1
  have n3:c.toNat≠92:=zp0 c3
  have big:bigRow (b.length+1) 1:=⟨by omega,by omega,by decide⟩
  refine TOut.next (m:=1) (fun ra rb hA=>?_) (ih s i (k+1) hd (by omega) (by omega) hs (by omega) (by simp;omega))
  have ek:((k:Nat):Int)+1=((k+1:Nat):Int):=rfl
  apply zau
  refine⟨fun _=>⟨by omega,c,hg,fun h=>by omega,fun _=>⟨fun h=>by omega,fun _=>⟨fun h=>by omega,fun _=>⟨fun h36=>⟨⟨by omega,by omega⟩,fun hlt=>?_,fun _=>⟨big,⟨by omega,by omega⟩,hA⟩⟩,fun _=>⟨big,⟨by omega,by omega⟩,hA⟩⟩⟩⟩⟩,fun h=>by omega⟩
  have hc:c=36:=UInt8.toNat_inj.1 (Int.ofNat.inj h36)
  have hh:=c4 hc
  cases t with
  | nil=>simp at hlen;omega
  | cons x t =>
   have hg2:s[((k:Nat)+1:Int).toNat]?=some x:=by rw[show ((k:Nat)+1:Int).toNat=k+1 by omega,←List.head?_drop,hd];rfl
   refine⟨⟨by omega,by omega⟩,by omega,x,hg2,fun h=>?_,fun _=>⟨big,⟨by omega,by omega⟩,hA⟩⟩
   exfalso
   apply hh
   have:x=123:=UInt8.toNat_inj.1 (Int.ofNat.inj h)
   rw[this]
   rfl
theorem zrn (s:List UInt8) (hs:s.length≤100000) (i:Nat) {u:List UInt8} (e:s.drop i=34::u) {r:Option (List Part × Nat)} (hq:Qx u [] [] r):match r with
  | none=>zkN s i (Token.mk 0 [] 0 [] 0) 0
  | some (ps,n)=>zkN s i (Token.mk 2 [] 0 ps i) ((n+1:Nat):Int):=by
 have hlen:(s.drop i).length=u.length+1:=by rw[e];rfl
 rw[List.length_drop] at hlen
 have hd:s.drop (i+1)=u:=by rw[←List.drop_drop,e];rfl
 have key:=zlb hq s i (i+1) hd (by omega) (by omega) hs (by simp;omega) (by simp;omega)
 cases r with
 | none=>exact zl4 _ _ _ _ ⟨⟨by omega,by omega⟩,key⟩
 | some q =>
  obtain⟨ps,n⟩:=q
  refine zl4 _ _ _ _ ⟨⟨by omega,by omega⟩,?_⟩
  simp only[TOut] at key
  rw[show ((i+1:Nat):Int)+(n:Int) - (i:Int)=((n+1:Nat):Int) by omega] at key
  exact key
theorem zk5 (c:UInt8):zz c=5↔c=35:=by
 have e:c=35↔c.toNat=35:=by rw[←UInt8.toNat_inj];rfl
 rw[e]
 unfold zz
 repeat' split
 all_goals (first | omega | (constructor <;> intro h <;> first | omega | exact absurd h (by decide)))
theorem zu6 (c:UInt8):zz c=1↔c.toNat=32∨c.toNat=10:=by
 unfold zz
 repeat' split
 all_goals (first | omega | (constructor <;> intro h <;> first | omega | exact absurd h (by decide)))
inductive Tok:List UInt8→Option (Token × Nat)→Prop
 | name (c:UInt8) (u:List UInt8) (h:zz c=2):Tok (c::u) (if ((c::u).takeWhile (inC [2,3])).length≤24 then some (Token.mk 3 ((c::u).takeWhile (inC [2,3])) 0 [] 0,zK [2,3] (c::u)) else none)
 | num (c:UInt8) (u:List UInt8) (h:zz c=3):Tok (c::u) (zfb (c::u))
 | text (u:List UInt8) (r:Option (List Part × Nat)) (h:Qx u [] [] r):Tok (34::u) (r.map fun q=>(Token.mk 2 [] 0 q.1 0,q.2+1))
 | sign (c:UInt8) (u:List UInt8) (h2:zz c≠2) (h3:zz c≠3) (h4:zz c≠4):Tok (c::u) (if zal (c::u)=[] then none else some (Token.mk 4 (zal (c::u)) 0 [] 0,(zal (c::u)).length))
theorem zyt {t:List UInt8} {l:List Part} {b:List UInt8} {r:Option (List Part × Nat)} (h:Qx t l b r):∀ q,r=some q→0 < q.2∧q.2≤t.length:=by
 induction h with
 | nil | low | esc0 | escbad | refbad=>intro q hq;cases hq
 | shut t l b=>intro q hq;obtain rfl:=Option.some.inj hq;simp
 | esc x y t l b r hx _ ih =>
  intro q hq
  obtain⟨q0,h0,rfl⟩:=Option.map_eq_some_iff.1 hq
  have:=ih q0 h0
  simp only[List.length_cons]
  omega
 | ref t l b r hr _ ih =>
  intro q hq
  obtain⟨q0,h0,rfl⟩:=Option.map_eq_some_iff.1 hq
  have:=ih q0 h0
  have h1:=zfC hr
  simp only[List.length_cons,List.length_drop] at this ⊢
  omega
 | plain c t l b r c1 c2 c3 c4 _ ih =>
  intro q hq
  obtain⟨q0,h0,rfl⟩:=Option.map_eq_some_iff.1 hq
  have:=ih q0 h0
  simp only[List.length_cons]
  omega
theorem zoc {cl:List Int} {c:UInt8} (u:List UInt8) (h:inC cl c=true):0 < zK cl (c::u):=by
 unfold zK
 rw[List.takeWhile_cons,if_pos h]
 simp
theorem zma (c:UInt8) (u:List UInt8):(zal (c::u)).length≤(c::u).length:=by
 cases u with
 | nil=>simp only[zal,zdZ];split <;> simp
 | cons b u=>simp only[zal,zhF,zdZ];repeat' split <;> simp
theorem zgO {t:List UInt8} {r:Option (Token × Nat)} (h:Tok t r):∀ q,r=some q→0 < q.2∧q.2≤t.length:=by
 cases h with
 | name c u h =>
  intro q hq
  split at hq
  ·obtain rfl:=Option.some.inj hq
   exact⟨zoc u ((zgl c).2 (.inl h)),zcR _ _⟩
  cases hq
 | num c u h =>
  intro q hq
  unfold zfb at hq
  split at hq
  ·obtain rfl:=Option.some.inj hq
   exact⟨zoc (cl:=[3]) u (by unfold inC;simp[h]),zcR [3] _⟩
  cases hq
 | text u r h =>
  intro q hq
  obtain⟨q0,h0,rfl⟩:=Option.map_eq_some_iff.1 hq
  have:=zyt h q0 h0
  simp only[List.length_cons]
  omega
 | sign c u h2 h3 h4 =>
  intro q hq
  split at hq
  ·cases hq
  rename_i hne
  obtain rfl:=Option.some.inj hq
  exact⟨List.length_pos_iff.2 hne,zma c u⟩
theorem zgE (p:UInt8→Bool):∀ l:List UInt8,(l.takeWhile p).takeWhile p=l.takeWhile p
 | []=>rfl
 | c::l=>by
  rw[List.takeWhile_cons]
  split
  ·rename_i h
   rw[List.takeWhile_cons,if_pos h,zgE p l]
  rfl
theorem zrL {c:UInt8} (u:List UInt8) (h:zz c=2):zab ((c::u).takeWhile (inC [2,3]))=decide (((c::u).takeWhile (inC [2,3])).length≤24):=by
 have hc:inC [2,3] c=true:=(zgl c).2 (.inl h)
 have hi:=zgE (inC [2,3]) (c::u)
 rw[List.takeWhile_cons,if_pos hc] at hi ⊢
 unfold zab
 refine decide_eq_decide.2 ⟨fun e=>e.2.1,fun e=>⟨by simp,e,?_⟩⟩
 rw[zk,if_pos h,zK,hi]
theorem zsY {c:UInt8} (u:List UInt8) (h:zz c=3):(c::u).takeWhile (inC [3])≠[]:=by
 rw[List.takeWhile_cons,if_pos (by unfold inC;simp[h])]
 simp
def zvh (t:LTokens) (g:Nat) (z:Bool):Option (Token × Nat)→Prop
 | none=>∃ t',zmD t g z false t' g z
 | some (x,n)=>zmD t g z true (LTokens.mk (zD t.text n) (t.out++[atT x t.text.pos])) g z
def TokP (s:List UInt8) (i:Nat):Option (Token × Nat)→Prop
 | none=>∃ x,zmH s i x 0
 | some (x,n)=>zmH s i (atT x i) n
theorem zsx (t:LTokens) (g:Nat) (z:Bool) (h:TI t.text) (ho:t.out.length≤6000) {r:Option (Token × Nat)} {l:List UInt8} (hl:t.text.left=l) (hk:Tok l r):zvh t g z r:=by
 have big:bigRow (t.out.length+1) 64:=⟨by omega,by omega,by decide⟩
 cases hk with
 | name c u hc =>
  have hn:=zyT t g z h
  rw[hl,zrL u hc] at hn
  have hd:t.text.left[0]?=some c:=by rw[hl];rfl
  by_cases hlen:((c::u).takeWhile (inC [2,3])).length≤24
  rotate_left
  ·rw[if_neg hlen]
   rw[decide_eq_false hlen] at hn
   exact⟨_,zcW _ _ _ _ _ _ _ ⟨c,hd,_,zaz c,fun _=>⟨_,_,_,_,_,hn,big,rfl,rfl,rfl,rfl⟩,fun e=>absurd hc e⟩⟩
  rw[if_pos hlen]
  rw[decide_eq_true hlen] at hn
  exact zcW _ _ _ _ _ _ _ ⟨c,hd,_,zaz c,fun _=>⟨_,_,_,_,_,hn,big,rfl,rfl,rfl,rfl⟩,fun e=>absurd hc e⟩
 | num c u hc =>
  have hd:t.text.left[0]?=some c:=by rw[hl];rfl
  have hn:=ztX t g z h (by rw[hl];exact zsY u hc)
  rw[hl] at hn
  have h2:zz c≠2:=by omega
  revert hn
  generalize zfb (c::u)=q
  intro hn
  rcases q with _ | ⟨x,n⟩
  ·obtain⟨x,t',ho',hn⟩:=hn
   exact⟨_,zcW _ _ _ _ _ _ _ ⟨c,hd,_,zaz c,fun e=>absurd e h2,fun _=>⟨fun _=>⟨_,_,_,_,_,hn,by rw[ho'];exact big,rfl,rfl,rfl,rfl⟩,fun e=>absurd hc e⟩⟩⟩
  exact zcW _ _ _ _ _ _ _ ⟨c,hd,_,zaz c,fun e=>absurd e h2,fun _=>⟨fun _=>⟨_,_,_,_,_,hn,big,rfl,rfl,rfl,rfl⟩,fun e=>absurd hc e⟩⟩
 | text u q hq =>
  have hd:t.text.left[0]?=some 34:=by rw[hl];rfl
  have hn:=zuV t g z h hl hq
  have h4:zz 34=4:=(ze7 34).2 rfl
  cases q with
  | none =>
   obtain⟨t',ho',hn⟩:=hn
   exact⟨_,zcW _ _ _ _ _ _ _ ⟨34,hd,_,zaz 34,fun e=>by omega,fun _=>⟨fun e=>by omega,fun _=>⟨fun _=>⟨_,_,_,_,_,hn,by rw[ho'];exact big,rfl,rfl,rfl,rfl⟩,fun e=>absurd h4 e⟩⟩⟩⟩
  | some p =>
   obtain⟨ps,n⟩:=p
   exact zcW _ _ _ _ _ _ _ ⟨34,hd,_,zaz 34,fun e=>by omega,fun _=>⟨fun e=>by omega,fun _=>⟨fun _=>⟨_,_,_,_,_,hn.2,big,rfl,rfl,rfl,rfl⟩,fun e=>absurd h4 e⟩⟩⟩
 | sign c u h2 h3 h4 =>
  have hd:t.text.left[0]?=some c:=by rw[hl];rfl
  have hn:=zzP t g z h (by rw[hl];simp)
  rw[hl] at hn
  by_cases he:zal (c::u)=[]
  ·rw[if_pos he]
   rw[if_pos he,if_pos he,decide_eq_false (fun e=>e he)] at hn
   exact⟨_,zcW _ _ _ _ _ _ _ ⟨c,hd,_,zaz c,fun e=>absurd e h2,fun _=>⟨fun e=>absurd e h3,fun _=>⟨fun e=>absurd e h4,fun _=>⟨_,_,_,_,_,hn,big,rfl,rfl,rfl,rfl⟩⟩⟩⟩⟩
  rw[if_neg he]
  rw[if_neg he,if_neg he,decide_eq_true he] at hn
  exact zcW _ _ _ _ _ _ _ ⟨c,hd,_,zaz c,fun e=>absurd e h2,fun _=>⟨fun e=>absurd e h3,fun _=>⟨fun e=>absurd e h4,fun _=>⟨_,_,_,_,_,hn,big,rfl,rfl,rfl,rfl⟩⟩⟩⟩
theorem zkr (s:List UInt8) (hs:s.length≤100000) (i:Nat) {l:List UInt8} (hl:s.drop i=l) {r:Option (Token × Nat)} (hk:Tok l r):TokP s i r:=by
 have hlen:(s.drop i).length=l.length:=by rw[hl]
 rw[List.length_drop] at hlen
 cases hk with
 | name c u hc =>
  simp only[List.length_cons] at hlen
  have hg:s[((i:Nat):Int).toNat]?=some c:=by rw[Int.toNat_natCast,←List.head?_drop,hl];rfl
  have hd:=zdP c
  rw[decide_eq_false (by omega)] at hd
  have hb:=zg8 c
  rw[decide_eq_true hc] at hb
  have n34:¬ ((c.toNat:Nat):Int)=34:=fun e=>by
   have:c=34:=UInt8.toNat_inj.1 (Int.ofNat.inj e)
   have:=(ze7 c).2 this
   omega
  have hn:=ze0 s (by omega) i
  have he:zk (s.drop i)=((c::u).takeWhile (inC [2,3])).length:=by rw[hl,zk,if_pos hc];rfl
  have hsp:((c::u).takeWhile (inC [2,3])).length≤(c::u).length:=zcR [2,3] (c::u)
  simp only[List.length_cons] at hsp
  rw[he] at hn
  have et:(s.drop ((i:Nat):Int).toNat).take ((((i:Nat):Int)+((((c::u).takeWhile (inC [2,3])).length:Nat):Int)).toNat - ((i:Nat):Int).toNat)=(c::u).takeWhile (inC [2,3]):=by
   rw[Int.toNat_natCast,hl,show (((i:Nat):Int)+((((c::u).takeWhile (inC [2,3])).length:Nat):Int)).toNat - i=((c::u).takeWhile (inC [2,3])).length by omega]
   exact zb2 _ _
  by_cases h24:((c::u).takeWhile (inC [2,3])).length≤24
  rotate_left
  ·rw[if_neg h24]
   exact⟨_,zcX _ _ _ _ ⟨by omega,c,hg,_,hd,fun e=>(by cases e),fun _=>⟨fun e=>absurd e n34,fun _=>⟨_,hb,fun _=>⟨_,hn,⟨by omega,by omega⟩,fun _=>⟨rfl,rfl⟩,fun e=>absurd (by omega) e⟩,fun e=>absurd rfl e⟩⟩⟩⟩
  rw[if_pos h24]
  refine zcX _ _ _ _ ⟨by omega,c,hg,_,hd,fun e=>(by cases e),fun _=>⟨fun e=>absurd e n34,fun _=>⟨_,hb,fun _=>⟨_,hn,⟨by omega,by omega⟩,fun e=>by omega,fun _=>⟨by omega,by omega,by omega,by omega,⟨by omega,by omega⟩,?_,by unfold zK;omega⟩⟩,fun e=>absurd rfl e⟩⟩⟩
  rw[et]
  rfl
 | num c u hc =>
  simp only[List.length_cons] at hlen
  have hg:s[((i:Nat):Int).toNat]?=some c:=by rw[Int.toNat_natCast,←List.head?_drop,hl];rfl
  have hd:=zdP c
  rw[decide_eq_true hc] at hd
  have hn:=zoB s (by omega) i (by omega) (by rw[hl];exact zsY u hc)
  rw[hl] at hn
  revert hn
  generalize zfb (c::u)=q
  intro hn
  rcases q with _ | ⟨x,n⟩
  ·obtain⟨x,hn⟩:=hn
   exact⟨_,zcX _ _ _ _ ⟨by omega,c,hg,_,hd,fun _=>⟨_,_,hn,rfl,rfl⟩,fun e=>absurd rfl e⟩⟩
  exact zcX _ _ _ _ ⟨by omega,c,hg,_,hd,fun _=>⟨_,_,hn,rfl,rfl⟩,fun e=>absurd rfl e⟩
 | text u q hq =>
  have hg:s[((i:Nat):Int).toNat]?=some 34:=by rw[Int.toNat_natCast,←List.head?_drop,hl];rfl
  have hd:=zdP 34
  rw[decide_eq_false (by decide)] at hd
  have hn:=zrn s hs i hl hq
  cases q with
  | none=>exact⟨_,zcX _ _ _ _ ⟨by omega,34,hg,_,hd,fun e=>(by cases e),fun _=>⟨fun _=>⟨_,_,hn,rfl,rfl⟩,fun e=>absurd rfl e⟩⟩⟩
  | some p =>
   obtain⟨ps,n⟩:=p
   exact zcX _ _ _ _ ⟨by omega,34,hg,_,hd,fun e=>(by cases e),fun _=>⟨fun _=>⟨_,_,hn,rfl,rfl⟩,fun e=>absurd rfl e⟩⟩
 | sign c u h2 h3 h4 =>
  simp only[List.length_cons] at hlen
  have hg:s[((i:Nat):Int).toNat]?=some c:=by rw[Int.toNat_natCast,←List.head?_drop,hl];rfl
  have hd:=zdP c
  rw[decide_eq_false h3] at hd
  have hb:=zg8 c
  rw[decide_eq_false h2] at hb
  have n34:¬ ((c.toNat:Nat):Int)=34:=fun e=>h4 ((ze7 c).2 (UInt8.toNat_inj.1 (Int.ofNat.inj e)))
  have hn:=zsf s (by omega) i (by omega)
  rw[hl] at hn
  by_cases he:zal (c::u)=[]
  ·rw[if_pos he]
   rw[he] at hn
   exact⟨_,zcX _ _ _ _ ⟨by omega,c,hg,_,hd,fun e=>(by cases e),fun _=>⟨fun e=>absurd e n34,fun _=>⟨_,hb,fun e=>(by cases e),fun _=>⟨_,hn,rfl,rfl⟩⟩⟩⟩⟩
  rw[if_neg he]
  exact zcX _ _ _ _ ⟨by omega,c,hg,_,hd,fun e=>(by cases e),fun _=>⟨fun e=>absurd e n34,fun _=>⟨_,hb,fun e=>(by cases e),fun _=>⟨_,hn,rfl,rfl⟩⟩⟩⟩
inductive Lx:List UInt8→Int→Option (List Token)→Prop
 | nil (p:Int):Lx [] p (some [Token.mk 0 [] 0 [] p])
 | gap (c:UInt8) (t:List UInt8) (p:Int) (r:Option (List Token)) (hc:zz c=1) (h:Lx t (p+1) r):Lx (c::t) p r
 | remark (t:List UInt8) (p:Int) (r:Option (List Token)) (h:Lx (t.dropWhile (· != 10)) (p+((t.takeWhile (· != 10)).length+1:Nat)) r):Lx (35::t) p r
 | bad (c:UInt8) (t:List UInt8) (p:Int) (h1:zz c≠1) (h2:zz c≠5) (h:Tok (c::t) none):Lx (c::t) p none
 | tok (c:UInt8) (t:List UInt8) (p:Int) (x:Token) (n:Nat) (r:Option (List Token)) (h1:zz c≠1) (h2:zz c≠5) (h:Tok (c::t) (some (x,n))) (h':Lx ((c::t).drop n) (p+n) r):Lx (c::t) p (r.map (atT x p::·))
def zoj:List UInt8→Prop
 | []=>True
 | c::_=>zz c≠1∧zz c≠5
theorem zmz (t:LText):zD t 0=t:=by
 unfold zD
 simp
theorem zhQ (p:UInt8→Bool):∀ l:List UInt8,(∀ x ∈ l,p x=true)→l.takeWhile p=l
 | [],_=>rfl
 | c::l,h=>by rw[List.takeWhile_cons,if_pos (h c (by simp)),zhQ p l (fun x hx=>h x (by simp[hx]))]
theorem zuR (s:List UInt8):(Lib.cut s [10]).1=s.takeWhile (· != 10):=by
 rw[zuX]
 split
 ·rfl
 rename_i h
 exact (zhQ _ _ fun x hx=>by
  simp only[bne_iff_ne,ne_eq]
  intro e
  exact h (e ▸ hx)).symm
theorem zeS (t:List UInt8):(35::t:List UInt8).drop ((t.takeWhile (· != 10)).length+1)=t.dropWhile (· != 10):=by
 rw[List.drop_succ_cons]
 exact za3 _ _
theorem zj1 (t:List UInt8):(t.takeWhile (· != 10)).length≤t.length:=by
 have:=congrArg List.length (List.takeWhile_append_dropWhile (p:=(· != (10:UInt8))) (l:=t))
 rw[List.length_append] at this
 omega
theorem zAu {c:UInt8} (t:List UInt8) (h:zz c=1):zK [1] (c::t)=zK [1] t+1:=by
 unfold zK
 rw[List.takeWhile_cons,if_pos (by unfold inC;simp[h])]
 rfl
theorem zqp {c:UInt8} (t:List UInt8) (h:zz c≠1):zK [1] (c::t)=0:=by
 unfold zK
 rw[List.takeWhile_cons,if_neg (by unfold inC;simp[h])]
 rfl
theorem zoy {l:List UInt8} {p:Int} {r:Option (List Token)} (h:Lx l p r):∀ (t:LTokens) (g:Nat) (z:Bool),t.text.left=l→t.text.pos=p→TI t.text →
  ∃ n,n≤l.length∧zhh (LTokens.mk (zD t.text (zK [1] l)) t.out) g z (LTokens.mk (zD t.text n) t.out) g z∧Lx (l.drop n) (p+n) r∧zoj (l.drop n):=by
 induction h with
 | nil p =>
  intro t g z e ep hT
  refine⟨0,Nat.le_refl _,?_,by simpa using Lx.nil p,trivial⟩
  apply zdz
  refine⟨_,zbR _ _,fun h=>?_,fun _=>⟨rfl,rfl,rfl⟩⟩
  rw[show zK [1] []=0 from rfl,zmz,e] at h
  exact absurd h (by decide)
 | gap c t' p r hc _ ih =>
  intro t g z e ep hT
  have h1:1≤t.text.left.length:=by rw[e];simp
  obtain⟨n,hn,hA,hL,hs⟩:=ih (LTokens.mk (zD t.text 1) t.out) g z (by simp only[zD,e];rfl) (by simp only[zD,ep];rfl) (hT.take h1)
  simp only[zdd] at hA
  refine⟨n+1,by simp;omega,?_,?_,by rw[List.drop_succ_cons];exact hs⟩
  ·rw[zAu t' hc,Nat.add_comm (zK [1] t') 1,Nat.add_comm n 1]
   exact hA
  rw[List.drop_succ_cons,show p+((n+1:Nat):Int)=p+1+(n:Int) by omega]
  exact hL
 | remark t' p r _ ih =>
  intro t g z e ep hT
  have hll:=zj1 t'
  have h1:(t'.takeWhile (· != 10)).length+1≤t.text.left.length:=by rw[e];simp;omega
  have hT1:=hT.1
  obtain⟨n,hn,hA,hL,hs⟩:=ih (LTokens.mk (zD t.text ((t'.takeWhile (· != 10)).length+1)) t.out) g z (by simp only[zD,e];exact zeS t') (by simp only[zD,ep]) (hT.take h1)
  simp only[zdd] at hA
  have hdl:(t'.dropWhile (· != 10)).length=t'.length - (t'.takeWhile (· != 10)).length:=by rw[←za3,List.length_drop]
  have hsp:zK [1] (35::t')=0:=zqp t' (by decide)
  refine⟨(t'.takeWhile (· != 10)).length+1+n,by simp;omega,?_,?_,?_⟩
  ·rw[hsp,zmz]
   apply zdz
   have hcut:(Lib.cut t.text.left [10]).1=35::t'.takeWhile (· != 10):=by
    rw[zuR,e,List.takeWhile_cons,if_pos (by decide)]
   have hR:=zkp t.text.left [10] (by omega)
   have hTk:=zcK hT (n:=(35::t'.takeWhile (· != 10)).length) (by simpa using h1)
   have hT2:TI (zD t.text (35::t'.takeWhile (· != 10)).length):=hT.take (by simpa using h1)
   have hW:=zkY hT2 [1] (by decide)
   rw[hcut] at hR
   refine⟨_,zbR _ _,fun _=>⟨_,_,_,hR,_,_,hTk,_,_,hW,?_⟩,fun h=>absurd (by rw[e];rfl) h⟩
   have hle:(zD t.text (35::t'.takeWhile (· != 10)).length).left=t'.dropWhile (· != 10):=by
    simp only[zD,e,List.length_cons];exact zeS t'
   rw[hle,zdd]
   exact hA
  ·rw[←List.drop_drop,zeS,show p+(((t'.takeWhile (· != 10)).length+1+n:Nat):Int)=p+(((t'.takeWhile (· != 10)).length+1:Nat):Int)+(n:Int) by omega]
   exact hL
  rw[←List.drop_drop,zeS]
  exact hs
 | bad c t' p c1 c2 hk =>
  intro t g z e ep hT
  refine⟨0,Nat.zero_le _,?_,by simpa using Lx.bad c t' p c1 c2 hk,⟨c1,c2⟩⟩
  rw[zqp t' c1]
  apply zdz
  refine⟨_,zbR _ _,fun h=>?_,fun _=>⟨rfl,rfl,rfl⟩⟩
  rw[zmz,e] at h
  exfalso
  apply c2
  rw[zk5]
  symm
  simpa [Lib.hasPrefix] using h
 | tok c t' p x n r c1 c2 hk h' _ =>
  intro t g z e ep hT
  refine⟨0,Nat.zero_le _,?_,by simpa using Lx.tok c t' p x n r c1 c2 hk h',⟨c1,c2⟩⟩
  rw[zqp t' c1]
  apply zdz
  refine⟨_,zbR _ _,fun h=>?_,fun _=>⟨rfl,rfl,rfl⟩⟩
  rw[zmz,e] at h
  exfalso
  apply c2
  rw[zk5]
  symm
  simpa [Lib.hasPrefix] using h
theorem zrA {l:List UInt8} {p:Int} {r:Option (List Token)} (h:Lx l p r) (t:LTokens) (g:Nat) (z:Bool) (e:t.text.left=l) (ep:t.text.pos=p) (hT:TI t.text) :
  ∃ n,n≤l.length∧zmK t g z (LTokens.mk (zD t.text n) t.out) g z∧Lx (l.drop n) (p+n) r∧zoj (l.drop n):=by
 obtain⟨n,hn,hA,hL,hs⟩:=zoy h t g z e ep hT
 refine⟨n,hn,zuN _ _ _ _ _ _ ⟨_,_,zkY hT [1] (by decide),?_⟩,hL,hs⟩
 rw[e]
 exact hA
def zfD:Option (List Token)→List Token
 | none=>[]
 | some l=>l
def zqB:Option (List Token)→Int
 | none=>5
 | some _=>0
def znc (out:List Token):Option (List Token)→List Token
 | none=>[]
 | some l=>out++l
theorem zqr:∀ (m:Nat) (l:List UInt8) (p:Int) (r:Option (List Token)),Lx l p r→zoj l→l.length≤m→∀ (out:List Token) (g:Nat) (z:Bool),TI ⟨l,p⟩→(out.length:Int)≤p→zhB l p out g z (znc out r) (zqB r):=by
 intro m
 induction m with
 | zero =>
  intro l p r h hs hm out g z hT ho
  have:l=[]:=List.length_eq_zero_iff.1 (by omega)
  subst this
  cases h
  have h3:=hT.2.2
  simp only[List.length_nil] at h3
  apply zdB
  exact⟨fun _=>⟨⟨by omega,by omega,by decide⟩,rfl,rfl⟩,fun h=>absurd rfl h⟩
 | succ m ih =>
  intro l p r h hs hm out g z hT ho
  have h3:=hT.2.2
  cases h with
  | nil =>
   simp only[List.length_nil] at h3
   apply zdB
   exact⟨fun _=>⟨⟨by omega,by omega,by decide⟩,rfl,rfl⟩,fun h=>absurd rfl h⟩
  | gap c t _ _ hc h=>exact absurd hc hs.1
  | remark t _ _ h=>exact absurd ((zk5 35).2 rfl) hs.2
  | bad c t _ c1 c2 hk =>
   have hl0:=hT.1
   simp only at hl0 h3
   obtain⟨t',hn⟩:=zsx (LTokens.mk ⟨c::t,p⟩ out) g z hT (by simp only;omega) rfl hk
   apply zdB
   exact⟨fun h=>by simp at h,fun _=>⟨_,_,_,_,hn,fun h=>(by cases h),fun _=>⟨rfl,rfl⟩⟩⟩
  | tok c t _ x n r' c1 c2 hk h' =>
   have hl0:=hT.1
   simp only at hl0 h3
   have hn:=zsx (LTokens.mk ⟨c::t,p⟩ out) g z hT (by simp only;omega) rfl hk
   obtain⟨n0,n1⟩:=zgO hk _ rfl
   simp only at n0 n1
   simp only[zvh] at hn
   have hT2:TI (zD ⟨c::t,p⟩ n):=hT.take n1
   obtain⟨k,hk1,hS,hL,hst⟩:=zrA h' (LTokens.mk (zD ⟨c::t,p⟩ n) (out++[atT x p])) g z rfl rfl hT2
   have hT3:TI (zD (zD ⟨c::t,p⟩ n) k):=hT2.take hk1
   have hlen:((c::t).drop n).length=(c::t).length - n:=List.length_drop
   have hlen2:(((c::t).drop n).drop k).length=(c::t).length - n - k:=by rw[List.length_drop,hlen]
   have key:=ih _ _ _ hL hst (by omega) (out++[atT x p]) g z hT3 (by simp;omega)
   apply zdB
   refine⟨fun h=>by simp at h,fun _=>⟨_,_,_,_,hn,fun _=>⟨_,_,_,hS,?_⟩,fun h=>absurd rfl h⟩⟩
   cases r' with
   | none=>exact key
   | some l' =>
    have e:znc (out++[atT x p]) (some l')=znc out ((some l').map (atT x p::·)):=by simp[znc]
    rw[e] at key
    exact key
theorem zvn {s:List UInt8} (hs:s.length≤6000) {r:Option (List Token)} (h:Lx s 0 r):zbI s (zfD r) (zqB r):=by
 have hT:TI ⟨s,0⟩:=⟨hs,Int.le_refl _,by simp only;omega⟩
 obtain⟨k,hk1,hS,hL,hst⟩:=zrA h (LTokens.mk ⟨s,0⟩ []) 0 false rfl rfl hT
 have hT2:TI (zD ⟨s,0⟩ k):=hT.take hk1
 have key:=zqr _ _ _ _ hL hst (Nat.le_refl _) [] 0 false hT2 (by simp)
 have e:znc [] r=zfD r:=by cases r <;> rfl
 rw[e] at key
 apply znk
 exact⟨fun h=>by omega,fun _=>⟨_,_,_,hS,key⟩⟩
theorem zoE {s:List UInt8} (hs:6000 < s.length):zbI s [] 4:=by
 apply znk
 exact⟨fun _=>⟨rfl,rfl⟩,fun h=>by omega⟩
def zm0 (out:List Token):Option (List Token)→Tokens
 | none=>Tokens.mk [] 5
 | some l=>Tokens.mk (out++l) 0
theorem zoR (s:List UInt8) (hs:s.length≤6000) (out:List Token) (r:Tokens):∀ (m k:Nat),k+m=s.length→zce s ((k+((s.drop k).takeWhile (· != 10)).length:Nat):Int) 0 [] 0 out r→zhk s 0 [] 0 out k r:=by
 intro m
 induction m with
 | zero =>
  intro k hk h
  rw[List.drop_eq_nil_of_le (by omega)] at h
  apply zhR
  exact⟨fun h=>by omega,fun _=>h⟩
 | succ m ih =>
  intro k hk h
  have hlt:k < s.length:=by omega
  have hg:s[((k:Nat):Int).toNat]?=some s[k]:=by rw[Int.toNat_natCast];exact List.getElem?_eq_getElem hlt
  have hd:s.drop k=s[k]::s.drop (k+1):=List.drop_eq_getElem_cons hlt
  rw[hd,List.takeWhile_cons] at h
  apply zhR
  refine⟨fun _=>⟨by omega,s[k],hg,fun h10=>?_,fun h10=>⟨⟨by omega,by omega⟩,?_⟩⟩,fun h=>by omega⟩
  ·have:s[k]=10:=UInt8.toNat_inj.1 (Int.ofNat.inj h10)
   rw[if_neg (by rw[this];decide)] at h
   exact h
  have:¬ s[k]=10:=fun e=>h10 (by rw[e];rfl)
  rw[if_pos (by simpa using this)] at h
  refine ih (k+1) (by omega) ?_
  rw[List.length_cons,show k+(((s.drop (k+1)).takeWhile (· != 10)).length+1)=k+1+((s.drop (k+1)).takeWhile (· != 10)).length by omega] at h
  exact h
theorem zmq {l:List UInt8} {p:Int} {r:Option (List Token)} (h:Lx l p r):∀ (s:List UInt8) (i:Nat) (out:List Token),s.drop i=l→p=i→i≤s.length→s.length≤6000→out.length≤i→zce s i 0 [] 0 out (zm0 out r):=by
 induction h with
 | nil p =>
  intro s i out e ep hi hs ho
  have hlen:(s.drop i).length=0:=by rw[e];rfl
  rw[List.length_drop] at hlen
  apply zcr
  refine⟨fun h=>by omega,fun _=>⟨⟨by omega,by omega,by decide⟩,?_⟩⟩
  rw[ep,show s.length=i by omega]
  rfl
 | gap c t p r hc _ ih =>
  intro s i out e ep hi hs ho
  have hlen:(s.drop i).length=t.length+1:=by rw[e];rfl
  rw[List.length_drop] at hlen
  have hg:s[((i:Nat):Int).toNat]?=some c:=by rw[Int.toNat_natCast,←List.head?_drop,e];rfl
  have hd:s.drop (i+1)=t:=by rw[←List.drop_drop,e];rfl
  have key:=ih s (i+1) out hd (by omega) (by omega) hs (by omega)
  apply zcr
  refine⟨fun _=>⟨by omega,c,hg,fun _=>⟨⟨by omega,by omega⟩,key⟩,fun h32=>⟨fun _=>⟨⟨by omega,by omega⟩,key⟩,fun h10=>?_⟩⟩,fun h=>by omega⟩
  rcases (zu6 c).1 hc with h | h <;> omega
 | remark t p r _ ih =>
  intro s i out e ep hi hs ho
  have hlen:(s.drop i).length=t.length+1:=by rw[e];rfl
  rw[List.length_drop] at hlen
  have hg:s[((i:Nat):Int).toNat]?=some 35:=by rw[Int.toNat_natCast,←List.head?_drop,e];rfl
  have hll:=zj1 t
  have hd:s.drop (i+((t.takeWhile (· != 10)).length+1))=t.dropWhile (· != 10):=by rw[←List.drop_drop,e];exact zeS t
  have key:=ih s (i+((t.takeWhile (· != 10)).length+1)) out hd (by omega) (by omega) hs (by omega)
  apply zcr
  refine⟨fun _=>⟨by omega,35,hg,fun h=>absurd h (by decide),fun _=>⟨fun h=>absurd h (by decide),fun _=>⟨fun _=>?_,fun h=>absurd rfl h⟩⟩⟩,fun h=>by omega⟩
  refine zoR s hs out _ (s.length - i) i (by omega) ?_
  rw[e,List.takeWhile_cons,if_pos (by decide),List.length_cons]
  exact key
 | bad c t p c1 c2 hk =>
  intro s i out e ep hi hs ho
  have hlen:(s.drop i).length=t.length+1:=by rw[e];rfl
  rw[List.length_drop] at hlen
  have hg:s[((i:Nat):Int).toNat]?=some c:=by rw[Int.toNat_natCast,←List.head?_drop,e];rfl
  obtain⟨x,hx⟩:=zkr s (by omega) i e hk
  have hc1:=fun h=>c1 ((zu6 c).2 h)
  apply zcr
  exact⟨fun _=>⟨by omega,c,hg,fun h=>absurd (.inl (by omega)) hc1,fun _=>⟨fun h=>absurd (.inr (by omega)) hc1,fun _=>⟨fun h=>absurd ((zk5 c).2 (UInt8.toNat_inj.1 (Int.ofNat.inj h))) c2,fun _=>⟨_,_,hx,fun _=>rfl,fun h=>absurd rfl h⟩⟩⟩⟩,fun h=>by omega⟩
 | tok c t p x n r c1 c2 hk _ ih =>
  intro s i out e ep hi hs ho
  have hlen:(s.drop i).length=t.length+1:=by rw[e];rfl
  rw[List.length_drop] at hlen
  have hg:s[((i:Nat):Int).toNat]?=some c:=by rw[Int.toNat_natCast,←List.head?_drop,e];rfl
  have hx:=zkr s (by omega) i e hk
  simp only[TokP] at hx
  obtain⟨n0,n1⟩:=zgO hk _ rfl
  simp only[List.length_cons] at n0 n1
  have hc1:=fun h=>c1 ((zu6 c).2 h)
  have key:=ih s (i+n) (out++[atT x i]) (by rw[←List.drop_drop,e]) (by omega) (by omega) hs (by simp;omega)
  have e2:zm0 (out++[atT x i]) r=zm0 out (r.map (atT x p::·)):=by
   rw[ep]
   cases r <;> simp[zm0]
  rw[e2] at key
  apply zcr
  exact⟨fun _=>⟨by omega,c,hg,fun h=>absurd (.inl (by omega)) hc1,fun _=>⟨fun h=>absurd (.inr (by omega)) hc1,fun _=>⟨fun h=>absurd ((zk5 c).2 (UInt8.toNat_inj.1 (Int.ofNat.inj h))) c2,fun _=>⟨_,_,hx,fun h=>by omega,fun _=>⟨⟨by omega,by omega,by decide⟩,⟨by omega,by omega⟩,key⟩⟩⟩⟩⟩,fun h=>by omega⟩
theorem zuW {s:List UInt8} (hs:s.length≤6000) {r:Option (List Token)} (h:Lx s 0 r):zf3 s (Tokens.mk (zfD r) (zqB r)):=by
 have key:=zmq h s 0 [] rfl rfl (Nat.zero_le _) hs (Nat.le_refl _)
 have e:zm0 [] r=Tokens.mk (zfD r) (zqB r):=by cases r <;> rfl
 rw[e] at key
 apply zmW
 exact⟨fun h=>by omega,fun _=>key⟩
theorem zlt {s:List UInt8} (hs:6000 < s.length):zf3 s (Tokens.mk [] 4):=by
 apply zmW
 exact⟨fun _=>rfl,fun h=>by omega⟩
def zlx:Nat→List UInt8→List Part→List UInt8→Option (List Part × Nat)
 | 0,_,_,_=>none
 | _+1,[],_,_=>none
 | n+1,c::t,l,b =>
  if c=34 then some (zag l b,1)
  else if c.toNat < 32 then none
  else if c=92 then
   match t with
   | []=>none
   | x::t=>match zek x with | none=>none | some y=>(zlx n t l (b++[y])).map fun q=>(q.1,q.2+2)
  else if c=36∧t.head?=some 123 then
   if (zG t.tail).2=true then (zlx n (t.tail.drop ((zG t.tail).1.length+1)) (zag l b++[Part.mk true (zG t.tail).1]) []).map fun q=>(q.1,q.2+(3+(zG t.tail).1.length)) else none
  else (zlx n t l (b++[c])).map fun q=>(q.1,q.2+1)
theorem zjb:∀ (n:Nat) (t:List UInt8) (l:List Part) (b:List UInt8),t.length < n→Qx t l b (zlx n t l b)
 | 0,t,l,b,h=>by omega
 | n+1,[],l,b,h=>.nil l b
 | n+1,c::t,l,b,h=>by
  simp only[List.length_cons] at h
  unfold zlx
  split
  ·rename_i c1;subst c1;exact .shut t l b
  rename_i c1
  split
  ·rename_i c2;exact .low c t l b c1 c2
  rename_i c2
  split
  ·rename_i c3
   subst c3
   cases t with
   | nil=>exact .esc0 l b
   | cons x t =>
    dsimp only
    cases hx:zek x with
    | none=>exact .escbad x t l b hx
    | some y=>exact .esc x y t l b _ hx (zjb n t l (b++[y]) (by simp only[List.length_cons] at h;omega))
  rename_i c3
  split
  ·rename_i c4
   obtain⟨rfl,h5⟩:=c4
   cases t with
   | nil=>cases h5
   | cons x t =>
    obtain rfl:x=123:=Option.some.inj h5
    simp only[List.length_cons] at h
    split
    ·rename_i hx;exact .ref t l b _ hx (zjb n _ _ _ (by simp;omega))
    rename_i hx;exact .refbad t l b (by simpa using hx)
  rename_i c4
  exact .plain c t l b _ c1 c2 c3 (fun e e2=>c4 ⟨e,e2⟩) (zjb n t l (b++[c]) (by omega))
def zuE:List UInt8→Option (Token × Nat)
 | []=>none
 | c::u =>
  if zz c=2 then (if ((c::u).takeWhile (inC [2,3])).length≤24 then some (Token.mk 3 ((c::u).takeWhile (inC [2,3])) 0 [] 0,zK [2,3] (c::u)) else none)
  else if zz c=3 then zfb (c::u)
  else if zz c=4 then (zlx (u.length+1) u [] []).map fun q=>(Token.mk 2 [] 0 q.1 0,q.2+1)
  else if zal (c::u)=[] then none else some (Token.mk 4 (zal (c::u)) 0 [] 0,(zal (c::u)).length)
theorem zxM (c:UInt8) (u:List UInt8):Tok (c::u) (zuE (c::u)):=by
 simp only[zuE]
 split
 ·rename_i h;exact .name c u h
 rename_i h2
 split
 ·rename_i h;exact .num c u h
 rename_i h3
 split
 ·rename_i h4
  obtain rfl:=(ze7 c).1 h4
  exact .text u _ (zjb _ u [] [] (by omega))
 rename_i h4;exact .sign c u h2 h3 h4
def zls:Nat→List UInt8→Int→Option (List Token)
 | 0,_,_=>none
 | _+1,[],p=>some [Token.mk 0 [] 0 [] p]
 | n+1,c::t,p =>
  if zz c=1 then zls n t (p+1)
  else if zz c=5 then zls n (t.dropWhile (· != 10)) (p+((t.takeWhile (· != 10)).length+1:Nat))
  else match zuE (c::t) with
   | none=>none
   | some (x,k)=>(zls n ((c::t).drop k) (p+k)).map (atT x p::·)
theorem zjh:∀ (n:Nat) (t:List UInt8) (p:Int),t.length < n→Lx t p (zls n t p)
 | 0,t,p,h=>by omega
 | n+1,[],p,h=>.nil p
 | n+1,c::t,p,h=>by
  simp only[List.length_cons] at h
  have ht:=zxM c t
  unfold zls
  split
  ·rename_i c1;exact .gap c t p _ c1 (zjh n t _ (by omega))
  rename_i c1
  split
  ·rename_i c2
   obtain rfl:=(zk5 c).1 c2
   have:=zj1 t
   have hdl:(t.dropWhile (· != 10)).length=t.length - (t.takeWhile (· != 10)).length:=by rw[←za3,List.length_drop]
   exact .remark t p _ (zjh n _ _ (by omega))
  rename_i c2
  split
  ·rename_i hk
   rw[hk] at ht
   exact .bad c t p c1 c2 ht
  rename_i x k hk
  rw[hk] at ht
  have:=zgO ht _ rfl
  exact .tok c t p x k _ c1 c2 ht (zjh n _ _ (by simp only[List.length_drop,List.length_cons] at this ⊢;omega))
def zk9 (s:List UInt8):Option (List Token):=zls (s.length+1) s 0
theorem zeu (s:List UInt8):Lx s 0 (zk9 s):=zjh _ s 0 (Nat.lt_succ_self _)
theorem rep1 (a b:UInt8):∀ (n:Nat) (s:List UInt8),s.length≤n→Lib.replaceK [a] [b] (s.count a) s=s.map (fun c=>if c=a then b else c)
 | 0,s,h=>by
  have:s=[]:=List.length_eq_zero_iff.1 (by omega)
  subst this
  rfl
 | n+1,s,h=>by
  by_cases hm:a ∈ s
  ·obtain⟨u,v,rfl,hu⟩:=zcn a s hm
   have h1:(u++a::v).takeWhile (· != a)=u:=zc8 _ u a v (fun x hx=>by simp;intro e;exact hu (e ▸ hx)) (by simp)
   have hi:Lib.index (u++a::v) [a]=(u.length:Nat):=by rw[zkU,if_pos hm,h1]
   have hc:(u++a::v).count a=v.count a+1:=by
    rw[List.count_append,List.count_cons_self,List.count_eq_zero_of_not_mem hu]
    omega
   simp only[List.length_append,List.length_cons] at h
   rw[hc,Lib.replaceK_hit _ _ _ _ _ hi,List.take_left]
   have hd:(u++a::v).drop (u.length+[a].length)=v:=zfT a u v
   rw[hd,rep1 a b n v (by omega)]
   have hmu:u.map (fun c=>if c=a then b else c)=u:=by
    conv=>rhs;rw[←List.map_id u]
    refine List.map_congr_left fun x hx=>?_
    rw[if_neg (show ¬ x=a from fun e=>hu (e ▸ hx))]
    rfl
   simp[hmu]
  rw[List.count_eq_zero_of_not_mem hm]
  show s=_
  conv=>lhs;rw[←List.map_id s]
  refine List.map_congr_left fun x hx=>?_
  rw[if_neg (show ¬ x=a from fun e=>hm (e ▸ hx))]
  rfl
def zcV (c:UInt8):UInt8:=if c=45 then 95 else c
theorem znC (s:List UInt8) (hs:s.length≤1000000):zd1 s [45] [95] (s.map zcV):=by
 intro S
 refine zcm zgL S ?_
 have hc:Lib.countB ⟨s.toArray⟩ ⟨([45]:List UInt8).toArray⟩=s.count 45:=Lib.count_one 45 s
 have hle:s.count 45≤s.length:=List.count_le_length
 have hr:Lib.replaceAll s [45] [95]=s.map zcV:=by
  unfold Lib.replaceAll Lib.replace Lib.replaceNum
  rw[if_neg (by decide),if_pos (.inl (by decide)),Lib.count_one,rep1 45 95 s.length s (Nat.le_refl _)]
  rfl
 simp only[zfx,hc,hr]
 rw[if_pos]
 simp only[List.length_cons,List.length_nil]
 omega
def zd2 (c:UInt8):Bool:=decide ((97≤c.toNat∧c.toNat≤122)∨(48≤c.toNat∧c.toNat≤57)∨c.toNat=45∨c.toNat=95)
def zE:List UInt8→Bool
 | []=>false
 | c::u=>decide (97≤c.toNat∧c.toNat≤122) && u.all zd2 && decide (u.length+1≤24)
theorem cls3 (c:UInt8):zz c=3↔48≤c.toNat∧c.toNat≤57:=by
 have:=zt2 c
 unfold inC at this
 simpa using this
theorem ztV (c:UInt8):zz c=2↔c.toNat=95∨(97≤c.toNat∧c.toNat≤122):=by
 unfold zz
 repeat' split
 all_goals (first | omega | (constructor <;> intro h <;> first | omega | exact absurd h (by decide)))
theorem zpp (c:UInt8):inC [2,3] (zcV c)=zd2 c:=by
 have h:inC [2,3] (zcV c)=true↔zd2 c=true:=by
  rw[zgl,ztV,cls3]
  unfold zcV zd2
  rw[decide_eq_true_eq]
  by_cases h:c=45
  ·rw[if_pos h,h];decide
  have h':c.toNat≠45:=fun e=>h (UInt8.toNat_inj.1 e)
  rw[if_neg h]
  omega
 cases h1:inC [2,3] (zcV c) <;> cases h2:zd2 c <;> simp_all
theorem zou (cl:List Int):∀ l:List UInt8,zK cl l=l.length↔∀ c ∈ l,inC cl c=true
 | []=>by simp[zK]
 | c::l=>by
  have ih:=zou cl l
  unfold zK at ih ⊢
  rw[List.takeWhile_cons]
  by_cases h:inC cl c=true
  ·rw[if_pos h]
   simp[h,ih]
  rw[if_neg h]
  simp[h]
theorem zva (c:UInt8) (u:List UInt8):zab ((c::u).map zcV)=decide (zz (zcV c)=2∧u.length+1≤24∧u.all zd2=true):=by
 unfold zab
 refine decide_eq_decide.2 ?_
 simp only[List.map_cons,ne_eq,reduceCtorEq,not_false_eq_true,true_and,List.length_cons,List.length_map]
 rw[zk]
 by_cases h:zz (zcV c)=2
 ·rw[if_pos h]
  have e:zK [2,3] (zcV c::u.map zcV)=u.length+1↔∀ x ∈ zcV c::u.map zcV,inC [2,3] x=true:=by
   have:=zou [2,3] (zcV c::u.map zcV)
   simpa using this
  rw[e]
  simp only[h,true_and,List.mem_cons,List.mem_map,List.all_eq_true]
  constructor
  ·intro ⟨h1,h2⟩
   refine⟨h1,fun x hx=>?_⟩
   rw[←zpp]
   exact h2 _ (.inr ⟨x,hx,rfl⟩)
  intro ⟨h1,h2⟩
  refine⟨h1,fun x hx=>?_⟩
  rcases hx with rfl | ⟨y,hy,rfl⟩
  ·rw[zgl];exact .inl h
  rw[zpp];exact h2 y hy
 rw[if_neg h]
 simp[h]
theorem zha (s:List UInt8) (hs:s.length≤1000000):zds s (zE s):=by
 apply zux
 refine⟨_,znC s hs,_,zcd _ (by simpa using hs),?_⟩
 cases s with
 | nil=>exact⟨fun h=>absurd h (by decide),fun _=>rfl⟩
 | cons c u =>
  rw[zva]
  refine⟨fun h=>⟨c,rfl,fun h45=>?_,fun h45=>?_⟩,fun h=>?_⟩
  ·simp only[zE]
   rw[decide_eq_false (by omega)]
   rfl
  ·obtain⟨h1,h2,h3⟩:=of_decide_eq_true h
   have hc:¬ c=45:=fun e=>h45 (by rw[e];rfl)
   unfold zcV at h1
   rw[if_neg hc,ztV] at h1
   simp only[zE]
   rw[h3,decide_eq_true h2,Bool.and_true,Bool.and_true]
   rw[←decide_not]
   exact decide_eq_decide.2 (by omega)
  simp only[zE]
  symm
  rw[←Bool.not_eq_true]
  intro h2
  apply h
  simp only[Bool.and_eq_true,decide_eq_true_eq] at h2
  refine decide_eq_true ⟨?_,h2.2,h2.1.2⟩
  rw[ztV]
  unfold zcV
  rw[if_neg (fun e=>by have:=h2.1.1;rw[e] at this;revert this;decide)]
  exact .inr h2.1.1
theorem zlB {l:List Part} {b:List UInt8} {p:Part} (h:p ∈ zag l b):p ∈ l∨p.Text=b:=by
 unfold zag at h
 rcases List.mem_append.1 h with h | h
 ·exact .inl h
 split at h
 ·cases h
 simp at h
 subst h
 exact .inr rfl
theorem ztL {t:List UInt8} {l:List Part} {b:List UInt8} {r:Option (List Part × Nat)} (h:Qx t l b r):∀ q,r=some q→∀ p ∈ q.1,p ∈ l∨p.Text.length≤b.length+t.length:=by
 induction h with
 | nil | low | esc0 | escbad | refbad=>intro q hq;cases hq
 | shut t l b =>
  intro q hq p hp
  obtain rfl:=Option.some.inj hq
  rcases zlB hp with h | h
  ·exact .inl h
  right;rw[h];omega
 | esc x y t l b r hx _ ih =>
  intro q hq p hp
  obtain⟨q0,h0,rfl⟩:=Option.map_eq_some_iff.1 hq
  rcases ih q0 h0 p hp with h | h
  ·exact .inl h
  right;simp at h ⊢;omega
 | ref t l b r hr _ ih =>
  intro q hq p hp
  obtain⟨q0,h0,rfl⟩:=Option.map_eq_some_iff.1 hq
  have h1:=zfC hr
  rcases ih q0 h0 p hp with h | h
  ·rcases List.mem_append.1 h with h | h
   ·rcases zlB h with h | h
    ·exact .inl h
    right;rw[h];omega
   simp at h
   subst h
   right
   simp
   omega
  right;simp at h ⊢;omega
 | plain c t l b r c1 c2 c3 c4 _ ih =>
  intro q hq p hp
  obtain⟨q0,h0,rfl⟩:=Option.map_eq_some_iff.1 hq
  rcases ih q0 h0 p hp with h | h
  ·exact .inl h
  right;simp at h ⊢;omega
theorem zsN (p:UInt8→Bool) (l:List UInt8):(l.takeWhile p).length≤l.length:=(List.takeWhile_sublist p).length_le
theorem ztl {t:List UInt8} {r:Option (Token × Nat)} (h:Tok t r):∀ x n,r=some (x,n)→x.Kind≠0∧x.Text.length≤t.length∧∀ p ∈ x.Parts,p.Text.length≤t.length:=by
 cases h with
 | name c u h =>
  intro x n hx
  split at hx
  ·cases hx
   exact⟨by simp,zsN _ _,by simp⟩
  cases hx
 | num c u h =>
  intro x n hx
  unfold zfb at hx
  split at hx
  ·cases hx
   exact⟨by simp,by simp,by simp⟩
  cases hx
 | text u r h =>
  intro x n hx
  obtain⟨q,hq,e⟩:=Option.map_eq_some_iff.1 hx
  cases e
  refine⟨by simp,by simp,fun p hp=>?_⟩
  rcases ztL h q hq p hp with h | h
  ·cases h
  simp at h ⊢;omega
 | sign c u h2 h3 h4 =>
  intro x n hx
  split at hx
  ·cases hx
  cases hx
  exact⟨by simp,zma c u,by simp⟩
theorem zpw {l:List UInt8} {p:Int} {r:Option (List Token)} (h:Lx l p r):∀ L,r=some L→W L∧L.length≤l.length+1∧∀ t ∈ L,t.Text.length≤l.length∧∀ q ∈ t.Parts,q.Text.length≤l.length:=by
 induction h with
 | nil p =>
  intro L hL
  cases hL
  exact⟨rfl,by simp,fun t ht=>by simp at ht;subst ht;simp⟩
 | gap c t p r hc _ ih =>
  intro L hL
  obtain⟨h1,h2,h3⟩:=ih L hL
  refine⟨h1,by simp;omega,fun x hx=>?_⟩
  obtain⟨h4,h5⟩:=h3 x hx
  exact⟨by simp;omega,fun q hq=>by have:=h5 q hq;simp;omega⟩
 | remark t p r _ ih =>
  intro L hL
  obtain⟨h1,h2,h3⟩:=ih L hL
  have hd:(t.dropWhile (· != 10)).length≤t.length:=(List.dropWhile_sublist _).length_le
  refine⟨h1,by simp;omega,fun x hx=>?_⟩
  obtain⟨h4,h5⟩:=h3 x hx
  exact⟨by simp;omega,fun q hq=>by have:=h5 q hq;simp;omega⟩
 | bad=>intro L hL;cases hL
 | tok c t p x n r h1 h2 hk _ ih =>
  intro L hL
  obtain⟨L0,h0,rfl⟩:=Option.map_eq_some_iff.1 hL
  obtain⟨g1,g2,g3⟩:=ztl hk x n rfl
  obtain⟨l1,l2⟩:=zgO hk (x,n) rfl
  obtain⟨i1,i2,i3⟩:=ih L0 h0
  simp only[List.length_drop] at i2 i3
  simp only at l1 l2
  refine⟨?_,by simp only[List.length_cons] at *;omega,fun y hy=>?_⟩
  ·cases L0 with
   | nil=>exact i1.elim
   | cons a L0=>exact⟨g1,i1⟩
  rcases List.mem_cons.1 hy with rfl | hy
  ·exact⟨g2,g3⟩
  obtain⟨h4,h5⟩:=i3 y hy
  exact⟨by omega,fun q hq=>by have:=h5 q hq;omega⟩
theorem zvu {s:List UInt8} {L:List Token} (hs:s.length≤6000) (h:zk9 s=some L):TL L∧W L:=by
 obtain⟨h1,h2,h3⟩:=zpw (zeu s) L h
 exact⟨⟨by omega,fun t ht=>by have:=(h3 t ht).1;omega,fun t ht p hp=>by have:=(h3 t ht).2 p hp;omega⟩,h1⟩
def zot (s:List UInt8):PR (List Block):=match zk9 s with | none=>.er 5 | some L=>ziW zE L
theorem zve (s:List UInt8) (hs:s.length≤6000):match zot s with
  | .ok l _ _=>zc9 s l 0
  | .er e=>e≠0→zc9 s [] e
  | .no=>False:=by
 have hx:=zvn hs (zeu s)
 unfold zot
 cases hl:zk9 s with
 | none=>rw[hl] at hx;exact fun he=>zhe hx he
 | some L =>
  rw[hl] at hx
  obtain⟨h1,h2⟩:=zvu hs hl
  exact znY hx h1 h2 zha
theorem zpZ {s:List UInt8} (hs:s.length≤6000) {l:List Block} {ts:List Token} {out:List Node} (h:zot s=.ok l ts out):zc9 s l 0:=by
 have:=zve s hs
 rw[h] at this
 exact this
end Go.Proofs.YtfbcnpbhhooapaaGreatDoor.M
namespace Go.Proofs.YtfbcnpbhhooapaaGreatDoor.M
open Go
def sc_Q18:zh:=⟨1,4,.seq (.reg [vO 2 (.mov (cI 0))]) (.seq (.reg [mO 3 0,mO 2 3]) .ret),[(.t 2)]⟩
theorem zzT:type_of% (sc_Q18.eq_1):=sc_Q18.eq_1
theorem comp_Q18:comp Tryz.prog Tryz.f18=some sc_Q18:=by kernel_rfl
def c_Q15_1:SC:=.seq (.reg [mO 7 2,kO 8 18 [(.t 7)],bC 9 .eql 8 0,mO 10 9,gO 11 10 true (.mov (.t 1)),gO 12 10 true (.len false (.t 11)),gO 13 10 true (.bin .eql (.t 12) (cI 1)),vO 14 (.pick (.t 10) (.t 13) (.c (.bool false))),mO 15 14,gO 16 15 true (.mov (.t 1)),gO 17 15 true (.iaddr 4 (.t 16) (cI 0)),gO 18 15 true (.faddr 0 (.t 17)),gO 19 15 true (.load none (.t 18)),gO 20 15 true (.bin .eql (.t 19) (cI 3)),vO 21 (.pick (.t 15) (.t 20) (.c (.bool false))),mO 22 21,gO 23 22 true (.mov (.t 1)),gO 24 22 true (.iaddr 4 (.t 23) (cI 0)),gO 25 22 true (.faddr 1 (.t 24)),gO 26 22 true (.load none (.t 25)),gO 27 22 true (.bin .eql (.t 26) (.c (.str [97]))),vO 28 (.pick (.t 22) (.t 27) (.c (.bool false))),mO 29 28,gO 30 29 true (.mov (.t 1)),gO 31 29 true (.iaddr 4 (.t 30) (cI 0)),gO 32 29 true (.faddr 2 (.t 31)),gO 33 29 true (.load none (.t 32)),gO 34 29 true (.len false (.t 33)),gO 35 29 true (.bin .eql (.t 34) (cI 1)),vO 36 (.pick (.t 29) (.t 35) (.c (.bool false))),mO 0 36]) .ret
def c_Q15_2:SC:=.seq (.reg [kO 4 17 [(.c (.str [110,111,100,101,32,34,97,34,32,123,32,99,112,117,32,61,32,49,32,125]))],mO 3 4,vO 5 (.extract 0 (.t 3)),vO 6 (.extract 1 (.t 3)),mO 1 5,mO 2 6]) c_Q15_1
def sc_Q15:zh:=⟨0,37,.seq (.reg [vO 0 (.mov (.c (.bool false)))]) c_Q15_2,[(.t 0)]⟩
theorem zAf:type_of% (aI (ue c_Q15_1.eq_1)<|aI (ue c_Q15_2.eq_1)<|sc_Q15.eq_1):=aI (ue c_Q15_1.eq_1)<|aI (ue c_Q15_2.eq_1)<|sc_Q15.eq_1
theorem comp_Q15:comp Tryz.prog Tryz.f15=some sc_Q15:=by kernel_rfl
end Go.Proofs.YtfbcnpbhhooapaaGreatDoor.M
namespace Go.Proofs.YtfbcnpbhhooapaaGreatDoor.M
open Go Classical
theorem zys:SP 18=some (.code sc_Q18):=ze rfl Tryz.func18 comp_Q18
theorem zuS (e_:Int) (r:Int) (T :
  e_=r):zfk e_ r:=by
 intro S
 rw[zd zys _ _ rfl]
 have F:=zzT
 exact rn F T
theorem zyV:SP 15=some (.code sc_Q15):=ze rfl Tryz.func15 comp_Q15
theorem ztr  (r:Bool) (T :
  ∃ (r1:List Block) (r2:Int),(zc9 [110,111,100,101,32,34,97,34,32,123,32,99,112,117,32,61,32,49,32,125] r1 r2) ∧
 ∃ (r3:Int),(zfk r2 r3) ∧
 ((r3=0) →
  (((r1.length:Int)=1) →
   ∃ (v4:Block),(r1[0]?=some v4) ∧
   ((v4.Kind=3) →
    ((v4.Label=[97]) →
     (decide ((v4.Attrs.length:Int)=1))=r) ∧
    (¬ (v4.Label=[97]) →
     false=r)) ∧
   (¬ (v4.Kind=3) →
    false=r)) ∧
  (¬ ((r1.length:Int)=1) →
   false=r)) ∧
 (¬ (r3=0) →
  false=r)):zhy  r:=by
 intro S
 rw[zd zyV _ _ rfl]
 have F:=zAf
 exact rn F T
theorem zm3 (e:Int):zfk e e:=zuS _ _ rfl
theorem zud:zhy true:=by
 have h:=zpZ (s:=[110,111,100,101,32,34,97,34,32,123,32,99,112,117,32,61,32,49,32,125]) (l:=[⟨3,[97],[⟨[99,112,117],[⟨1,1,[],[],[]⟩]⟩],[]⟩]) (ts:=[⟨0,[],0,[],20⟩]) (out:=[]) (by decide) (by kernel_rfl)
 exact ztr _ ⟨_,_,h,_,zm3 _,fun _=>⟨fun _=>⟨_,rfl,fun _=>⟨fun _=>rfl,fun hf=>absurd rfl hf⟩,fun hf=>absurd rfl hf⟩,fun hf=>absurd rfl hf⟩,fun hf=>absurd rfl hf⟩
end Go.Proofs.YtfbcnpbhhooapaaGreatDoor.M
namespace Go.Proofs.YtfbcnpbhhooapaaGreatDoor.M
open Go Classical
theorem zkB (s:List UInt8) (hs:s.length≤1000000):∀ (m i:Nat),i+m=s.length→0 < i→za5 s i ((s.drop i).all zd2 && decide (s.length≤24)):=by
 intro m
 induction m with
 | zero =>
  intro i hi hp
  rw[List.drop_eq_nil_of_le (by omega)]
  apply zc5
  refine⟨fun h=>by omega,fun _=>⟨fun _=>?_,fun h=>by omega⟩⟩
  simp only[List.all_nil,Bool.true_and]
  exact decide_eq_decide.2 (by omega)
 | succ m ih =>
  intro i hi hp
  have hlt:i < s.length:=by omega
  have hg:s[((i:Nat):Int).toNat]?=some s[i]:=by rw[Int.toNat_natCast];exact List.getElem?_eq_getElem hlt
  have hd:s.drop i=s[i]::s.drop (i+1):=List.drop_eq_getElem_cons hlt
  have key:=ih (i+1) (by omega) (by omega)
  rw[hd,List.all_cons]
  generalize s[i]=c at hg
  have next:zd2 c=true→za5 s ((i:Nat)+1:Int) ((zd2 c && (s.drop (i+1)).all zd2) && decide (s.length≤24)):=fun h=>by
   rw[h,Bool.true_and];exact key
  have stop:¬ zd2 c=true→false=((zd2 c && (s.drop (i+1)).all zd2) && decide (s.length≤24)):=fun h=>by simp[h]
  have o1:I64 ((i:Nat)+1:Int):=⟨by omega,by omega⟩
  have D:=zdP c
  have hdc:zz c=3↔48≤c.toNat∧c.toNat≤57:=cls3 c
  apply zc5
  refine⟨fun _=>⟨by omega,c,hg,fun h1=>⟨fun h2=>⟨o1,next (decide_eq_true (by omega))⟩,fun h2=>⟨fun _=>⟨_,D,fun h3=>⟨o1,next (decide_eq_true (by have:=of_decide_eq_true h3;omega))⟩,fun h3=>⟨fun h4=>⟨o1,next (decide_eq_true (by omega))⟩,fun h4=>⟨fun h5=>⟨o1,next (decide_eq_true (by omega))⟩,fun h5=>stop fun h6=>?_⟩⟩⟩,fun h=>absurd (by omega) h⟩⟩,fun h1=>⟨fun _=>⟨_,D,fun h3=>⟨o1,next (decide_eq_true (by have:=of_decide_eq_true h3;omega))⟩,fun h3=>⟨fun h4=>⟨o1,next (decide_eq_true (by omega))⟩,fun h4=>⟨fun h5=>⟨o1,next (decide_eq_true (by omega))⟩,fun h5=>stop fun h6=>?_⟩⟩⟩,fun h=>absurd (by omega) h⟩⟩,fun h=>by omega⟩
  ·have h6:=of_decide_eq_true h6
   have h3:¬ zz c=3:=fun e=>h3 (decide_eq_true e)
   omega
  have h6:=of_decide_eq_true h6
  have h3:¬ zz c=3:=fun e=>h3 (decide_eq_true e)
  omega
theorem zqz (s:List UInt8) (hs:s.length≤1000000):zkX s (zE s):=by
 apply zrk
 cases s with
 | nil =>
  apply zc5
  exact⟨fun h=>absurd h (by decide),fun _=>⟨fun h=>absurd h (by decide),fun _=>rfl⟩⟩
 | cons c u =>
  have key:=zkB (c::u) hs u.length 1 (by simp;omega) (by omega)
  apply zc5
  refine⟨fun _=>⟨by omega,c,rfl,fun h1=>⟨fun h2=>⟨⟨by omega,by omega⟩,?_⟩,fun h2=>⟨fun h=>by omega,fun _=>?_⟩⟩,fun h1=>⟨fun h=>by omega,fun _=>?_⟩⟩,fun h=>by simp only[List.length_cons] at h;omega⟩
  ·have e:zE (c::u)=(((c::u).drop 1).all zd2 && decide ((c::u).length≤24)):=by
    simp only[zE,List.drop_succ_cons,List.drop_zero,List.length_cons]
    rw[decide_eq_true (by omega),Bool.true_and]
   rw[e]
   exact key
  ·simp only[zE]
   rw[decide_eq_false (by omega)]
   rfl
  simp only[zE]
  rw[decide_eq_false (by omega)]
  rfl
def RdB (L ts:List Token) (out:List Node) {α:Type} (F:reader→Nat→Bool→α→reader→Nat→Bool→Prop):PR α→Prop
  | .ok a ts' _=>ts' <:+ L∧W ts'∧ts'.length≤ts.length∧∀ g z,∃ out' g' z',out'.length+ts'.length≤out.length+ts.length∧F (rd L ts 0 out) g z a (rd L ts' 0 out') g' z'
  | .er e=>∀ g z,∃ a r' g' z',F (rd L ts 0 out) g z a r' g' z'∧Bd L 0 (out.length+ts.length) e r'
  | .no=>True
theorem zeP {r:reader} (h:r.e≠0) (l:List Attr) (g:Nat) (z:Bool):zbQ l r g z l r g z:=zdw _ _ _ _ _ _ _ _ ⟨fun h'=>absurd h' h,fun _=>⟨_,_,_,zbn h _ _ _,rfl,rfl,rfl,rfl⟩⟩
theorem ztQ {r:reader} (h:r.e≠0) (g:Nat) (z:Bool):zd4 r g z [] r g z:=zhE _ _ _ _ _ _ _ ⟨_,_,_,zbn h _ _ _,zeP h [] g z⟩
theorem zfh {r:reader} (h:r.e≠0) (w:Bool) (l:List Block) (g:Nat) (z:Bool):zax w l r g z l r g z:=zan _ _ _ _ _ _ _ _ _ ⟨fun h'=>absurd h' h,fun _=>⟨rfl,rfl,rfl,rfl⟩⟩
theorem zpm {r:reader} (h:r.e≠0) (l:List Attr) (hl:l.length≤1000000) (t:Token) (g:Nat) (z:Bool) {res r' g' z'} (T:zbo l t (l.length:Nat) r g z res r' g' z'):∀ (m i:Nat),i+m=l.length→zbo l t i r g z res r' g' z'
  | 0,i,hi=>by
    obtain rfl:i=l.length:=by omega
    exact T
  | m+1,i,hi=>by
    have hlt:i < l.length:=by omega
    have hg:l[((i:Nat):Int).toNat]?=some l[i]:=by rw[Int.toNat_natCast];exact List.getElem?_eq_getElem hlt
    have:=zpm h l hl t g z T m (i+1) (by omega)
    rw[show ((i+1:Nat):Int)=(i:Int)+1 by omega] at this
    exact zbA _ _ _ _ _ _ _ _ _ _ ⟨fun _=>⟨by omega,by omega,_,hg,fun _=>⟨_,_,_,zpn h _ _ _,⟨by omega,by omega⟩,this⟩,fun _=>⟨⟨by omega,by omega⟩,this⟩⟩,fun h=>by omega⟩
section
variable {L:List Token}
theorem zmV {ts:List Token} {out:List Node} (l:List Attr) (hl:l.length≤1000000) (t:Token) (g:Nat) (z:Bool) {res r' g' z'} (T:zbo l t (l.length:Nat) (rd L ts 0 out) g z res r' g' z'):∀ (m i:Nat),i+m=l.length→(l.drop i).any (fun a=>decide (a.Name=t.Text))=false→zbo l t i (rd L ts 0 out) g z res r' g' z'
  | 0,i,hi,_=>by
    obtain rfl:i=l.length:=by omega
    exact T
  | m+1,i,hi,ha=>by
    have hlt:i < l.length:=by omega
    have hg:l[((i:Nat):Int).toNat]?=some l[i]:=by rw[Int.toNat_natCast];exact List.getElem?_eq_getElem hlt
    rw[List.drop_eq_getElem_cons hlt,List.any_cons,Bool.or_eq_false_iff] at ha
    have:=zmV l hl t g z T m (i+1) (by omega) ha.2
    rw[show ((i+1:Nat):Int)=(i:Int)+1 by omega] at this
    exact zbA _ _ _ _ _ _ _ _ _ _ ⟨fun _=>⟨by omega,by omega,_,hg,fun he=>absurd he (of_decide_eq_false ha.1),fun _=>⟨⟨by omega,by omega⟩,this⟩⟩,fun h=>by omega⟩
theorem zm1 {ts:List Token} {out:List Node} (l:List Attr) (hl:l.length≤1000000) (t:Token) (g:Nat) (z:Bool) {res r' g' z'} (T:zbo l t (l.length:Nat) ⟨L,((L.length - ts.length:Nat):Int),((0:Nat):Int),3,out⟩ g z res r' g' z'):∀ (m i:Nat),i+m=l.length→(l.drop i).any (fun a=>decide (a.Name=t.Text))=true→zbo l t i (rd L ts 0 out) g z res r' g' z'
  | 0,i,hi,ha=>by
    rw[List.drop_of_length_le (by omega)] at ha
    cases ha
  | m+1,i,hi,ha=>by
    have hlt:i < l.length:=by omega
    have hg:l[((i:Nat):Int).toNat]?=some l[i]:=by rw[Int.toNat_natCast];exact List.getElem?_eq_getElem hlt
    rw[List.drop_eq_getElem_cons hlt,List.any_cons,Bool.or_eq_true] at ha
    have e1:((i+1:Nat):Int)=(i:Int)+1:=by omega
    by_cases he:l[i].Name=t.Text
    ·have:=zpm (r:=⟨L,((L.length - ts.length:Nat):Int),((0:Nat):Int),3,out⟩) (show (3:Int)≠0 by decide) l hl t g z T m (i+1) (by omega)
     rw[e1] at this
     exact zbA _ _ _ _ _ _ _ _ _ _ ⟨fun _=>⟨by omega,by omega,_,hg,fun _=>⟨_,_,_,za0 0 out g z 3,⟨by omega,by omega⟩,this⟩,fun hf=>absurd he hf⟩,fun h=>by omega⟩
    have:=zm1 l hl t g z T m (i+1) (by omega) (by
      rcases ha with ha | ha
      ·exact absurd (of_decide_eq_true ha) he
      exact ha)
    rw[e1] at this
    exact zbA _ _ _ _ _ _ _ _ _ _ ⟨fun _=>⟨by omega,by omega,_,hg,fun hf=>absurd hf he,fun _=>⟨⟨by omega,by omega⟩,this⟩⟩,fun h=>by omega⟩
variable (hL:L.length≤1000000) (hT:∀ t ∈ L,t.Text.length≤1000000)
include hL hT
theorem zor (N:Nat):∀ (n:Nat) (acc:List Attr) (ts:List Token) (out:List Node),ts <:+ L→W ts→acc.length+ts.length≤1000000→out.length+ts.length≤1500000→RdB L ts out (fun r g z a r' g' z'=>zbQ acc r g z a r' g' z') (zaM N n acc ts)
  | 0,_,_,_,_,_,_,_=>by rw[zaM];exact True.intro
  | n+1,acc,[],_,_,hw,_,_=>hw.elim
  | n+1,acc,t::ts,out,hs,hw,ha,hk=>by
    have s1:=zp hs
    have hle:=hs.length_le
    simp only[List.length_cons] at ha hk hle
    have qi:=fun g z=>zcL hs (by simp) 0 out g z [125]
    have i0:0≤(rd L (t::ts) 0 out).i:=by simp[rd]
    have hg:=zeG hs rfl 0 out
    have hbig:bigRow (acc.length+1) 40:=by simp only[bigRow];omega
    rw[zaM]
    by_cases h125:isS [125] (t::ts)=true
    ·rw[if_pos h125]
     rw[h125] at qi
     have w1:=hw.shift h125
     have hw1:=fun g z=>zcA hL hs h125 0 out g z
     exact⟨s1,w1,by simp,fun g z=>⟨out,g,z,by simp only[List.length_cons];omega,zdw _ _ _ _ _ _ _ _ ⟨fun _=>⟨true,_,g,z,qi g z,fun _=>⟨_,g,z,hw1 g z,rfl,rfl,rfl,rfl⟩,fun h=>absurd rfl h⟩,fun h=>absurd rfl h⟩⟩⟩
    rw[if_neg h125]
    have h125:isS [125] (t::ts)=false:=by simpa using h125
    rw[h125] at qi
    by_cases k3:t.Kind=3
    rotate_left
    ·rw[if_neg k3]
     intro g z
     exact⟨acc,_,g,z,zdw _ _ _ _ _ _ _ _ ⟨fun _=>⟨false,_,g,z,qi g z,fun h=>(by cases h),fun _=>⟨i0,t,hg,fun h=>absurd h k3,fun _=>⟨_,g,z,za0 0 out g z 5,_,g,z,zbn (show (5:Int)≠0 by decide) _ _ _,rfl,rfl,rfl,rfl⟩⟩⟩,fun h=>absurd rfl h⟩,zad hs 0 out (by decide)⟩
    rw[if_pos k3]
    have w1:=hw.tail (by rw[k3];decide)
    have go:∀ {g z res r' g' z'},zbo acc t ((0:Nat):Int) (rd L (t::ts) 0 out) g z res r' g' z'→zbQ acc (rd L (t::ts) 0 out) g z res r' g' z':=fun {g z res r' g' z'} h=>zdw _ _ _ _ _ _ _ _ ⟨fun _=>⟨false,_,g,z,qi g z,fun h=>(by cases h),fun _=>⟨i0,t,hg,fun _=>h,fun h=>absurd k3 h⟩⟩,fun h=>absurd rfl h⟩
    by_cases hd:acc.any (fun a=>decide (a.Name=t.Text))=true
    ·rw[if_pos hd]
     intro g z
     have he:(3:Int)≠0:=by decide
     have b0:=zad hs 0 out he
     have b1:Bd L 0 (out.length+(t::ts).length) 3 ⟨L,((L.length - (t::ts).length:Nat):Int)+1,((0:Nat):Int),3,[]⟩:=⟨rfl,he,rfl,by simp only;omega,by simp only[List.length_cons];omega,b0.d0,b0.d1,by simp only[List.length_cons,List.length_nil];omega⟩
     refine⟨_,_,g+1,true,go (zm1 acc (by omega) t g z (zbA _ _ _ _ _ _ _ _ _ _ ⟨fun h=>by omega,fun _=>⟨?_,_,g,z,zbn he _ _ _,fun h=>absurd h he,fun _=>⟨hbig,zeP he _ _ _⟩⟩⟩) acc.length 0 (by omega) (by rw[List.drop_zero];exact hd)),b1⟩
     exact⟨by simp only;omega,by simp only;omega⟩
    rw[if_neg hd]
    have hd:acc.any (fun a=>decide (a.Name=t.Text))=false:=by simpa using hd
    have i64:=zcJ hL hs 0 out
    have nx:=zb3 hs rfl 0 out
    have go2:∀ {g z res r' g' z'},(∃ (y33:reader) (g34:Nat) (z35:Bool),(zaY (rd L ts 0 out) g z [61] y33 g34 z35)∧((y33.e=0)→∃ (r36:Int) (y37:reader) (g38:Nat) (z39:Bool),(zcH (reader.mk y33.l y33.i y33.deep y33.e []) (g34+1) false r36 y37 g38 z39)∧(bigRow (acc.length+1) 40)∧zbQ (acc++[(Attr.mk t.Text y37.out)]) y37 g38 true res r' g' z')∧(¬ (y33.e=0)→(bigRow (acc.length+1) 40)∧zbQ (acc++[(Attr.mk t.Text [])]) (reader.mk y33.l y33.i y33.deep y33.e []) (g34+1) true res r' g' z'))→zbQ acc (rd L (t::ts) 0 out) g z res r' g' z':=fun {g z res r' g' z'} h=>go (zmV acc (by omega) t g z (zbA _ _ _ _ _ _ _ _ _ _ ⟨fun h=>by omega,fun _=>⟨i64,by rw[nx];exact h⟩⟩) acc.length 0 (by omega) (by rw[List.drop_zero];exact hd))
    clear go
    rw[zah]
    by_cases h61:isS [61] ts=true
    rotate_left
    ·rw[if_neg h61]
     have h61:isS [61] ts=false:=by simpa using h61
     intro g z
     have he:(5:Int)≠0:=by decide
     have b0:=zad s1 0 out he
     refine⟨_,_,g+1,true,go2 ⟨_,g,z,zej s1 w1.ne h61 0 out g z,fun h=>absurd h he,fun _=>⟨hbig,zeP he _ _ _⟩⟩,⟨rfl,he,rfl,b0.i0,b0.i1,b0.d0,b0.d1,?_⟩⟩
     have:=s1.length_le
     simp only[List.length_cons,List.length_nil]
     omega
    rw[if_pos h61]
    obtain⟨u,r,rfl,hu⟩:=zaC h61
    have w2:=w1.tail (by rw[hu.1];decide)
    have s2:=zp s1
    have hwt:=fun g z=>zcA hL s1 h61 0 out g z
    simp only[List.tail_cons] at hwt ⊢
    simp only[List.length_cons] at ha hk hle
    have h1:=(rfA hL hT N).1.ex 0 r [] ⟨s2,w2,by omega,by simp;omega⟩
    unfold zbp
    cases hc:zu N 0 r [] with
    | no=>exact True.intro
    | er e =>
      rw[hc] at h1
      intro g z
      obtain⟨a,y,g1,z1,q,bd⟩:=h1 (g+1) false
      exact⟨_,y,g1,true,go2 ⟨_,g,z,hwt g z,fun _=>⟨a,y,g1,z1,q,hbig,zeP bd.e0' _ _ _⟩,fun h=>absurd rfl h⟩,bd.mono (by simp only[List.length_cons,List.length_nil];omega)⟩
    | ok a ts1 out1 =>
      rw[hc] at h1
      obtain⟨s3,w3,l3,k3',q3⟩:=h1
      simp only[List.length_nil] at k3'
      simp only[PR.bind]
      have h2:=zor N n (acc++[⟨t.Text,out1⟩]) ts1 out1 s3 w3 (by simp only[List.length_append,List.length_cons,List.length_nil];omega) (by omega)
      cases hc2:zaM N n (acc++[⟨t.Text,out1⟩]) ts1 with
      | no=>exact True.intro
      | er e =>
        rw[hc2] at h2
        intro g z
        obtain⟨g1,z1,q⟩:=q3 (g+1) false
        obtain⟨as',y,g2,z2,q2,bd⟩:=h2 g1 true
        exact⟨as',y,g2,z2,go2 ⟨_,g,z,hwt g z,fun _=>⟨a,_,g1,z1,q,hbig,q2⟩,fun h=>absurd rfl h⟩,bd.mono (by simp only[List.length_cons];omega)⟩
      | ok as' ts2 o2 =>
        rw[hc2] at h2
        obtain⟨s4,w4,l4,q4⟩:=h2
        refine⟨s4,w4,by simp only[List.length_cons];omega,fun g z=>?_⟩
        obtain⟨g1,z1,q⟩:=q3 (g+1) false
        obtain⟨out2,g2,z2,k5,q2⟩:=q4 g1 true
        exact⟨out2,g2,z2,by simp only[List.length_cons];omega,go2 ⟨_,g,z,hwt g z,fun _=>⟨a,_,g1,z1,q,hbig,q2⟩,fun h=>absurd rfl h⟩⟩
theorem ziZ (N:Nat) (ts:List Token) (out:List Node) (hs:ts <:+ L) (hw:W ts) (hk:out.length+ts.length≤1500000):RdB L ts out (fun r g z a r' g' z'=>zd4 r g z a r' g' z') (zdm N ts):=by
  have hle:=hs.length_le
  rw[zdm,zah]
  by_cases h:isS [123] ts=true
  ·rw[if_pos h]
   have hwt:=fun g z=>zcA hL hs h 0 out g z
   obtain⟨u,r,rfl,hu⟩:=zaC h
   have w1:=hw.tail (by rw[hu.1];decide)
   have s1:=zp hs
   simp only[List.tail_cons] at hwt ⊢
   simp only[List.length_cons] at hk hle
   have h1:=zor hL hT N N [] r out s1 w1 (by simp;omega) (by omega)
   cases hc:zaM N N [] r with
   | no=>exact True.intro
   | er e =>
     rw[hc] at h1
     intro g z
     obtain⟨a,y,g1,z1,q,bd⟩:=h1 g z
     exact⟨a,y,g1,z1,zhE _ _ _ _ _ _ _ ⟨_,g,z,hwt g z,q⟩,bd.mono (by simp only[List.length_cons];omega)⟩
   | ok a ts1 o1 =>
     rw[hc] at h1
     obtain⟨s2,w2,l2,q2⟩:=h1
     refine⟨s2,w2,by simp only[List.length_cons];omega,fun g z=>?_⟩
     obtain⟨out1,g1,z1,k1,q⟩:=q2 g z
     exact⟨out1,g1,z1,by simp only[List.length_cons];omega,zhE _ _ _ _ _ _ _ ⟨_,g,z,hwt g z,q⟩⟩
  rw[if_neg h]
  have h:isS [123] ts=false:=by simpa using h
  intro g z
  exact⟨[],_,g,z,zhE _ _ _ _ _ _ _ ⟨_,g,z,zej hs hw.ne h 0 out g z,zeP (show (5:Int)≠0 by decide) [] g z⟩,zad hs 0 out (by decide)⟩
theorem znh (hP:∀ t ∈ L,∀ p ∈ t.Parts,p.Text.length≤1000000) (ts:List Token) (out:List Node) (hs:ts <:+ L) (hw:W ts):RdB L ts out (fun r g z a r' g' z'=>zez r g z a r' g' z') (zdK zE ts):=by
  cases ts with
  | nil=>exact hw.elim
  | cons t ts =>
    have hg:=zeG hs rfl 0 out
    have i0:0≤(rd L (t::ts) 0 out).i:=by simp[rd]
    have i64:=zcJ hL hs 0 out
    have nx:=zb3 hs rfl 0 out
    have hp:=hP t (hs.subset (by simp))
    rw[zdK]
    have bad:∀ {F:Prop},(∀ g z,zez (rd L (t::ts) 0 out) g z [] ⟨L,((L.length - (t::ts).length:Nat):Int),((0:Nat):Int),5,out⟩ g z)→RdB L (t::ts) out (fun r g z a r' g' z'=>zez r g z a r' g' z') (.er 5):=fun h g z=>⟨[],_,g,z,h g z,zad hs 0 out (by decide)⟩
    by_cases k2:t.Kind=2
    rotate_left
    ·rw[if_neg k2]
     exact bad (F:=True) fun g z=>znT _ _ _ _ _ _ _ ⟨fun _=>⟨i0,t,hg,fun h=>absurd h k2,fun _=>⟨_,g,z,za0 0 out g z 5,rfl,rfl,rfl,rfl⟩⟩,fun h=>absurd rfl h⟩
    rw[if_pos k2]
    have w1:=hw.tail (by rw[k2];decide)
    have go:∀ {g z a r' g' z'},((((t.Parts.length:Int)=1)→∃ (v2:Part),(t.Parts[0]?=some v2)∧((v2.Ref=true)→∃ (y3:reader) (g4:Nat) (z5:Bool),(zaF (rd L (t::ts) 0 out) g z 5 y3 g4 z5)∧[]=a∧y3=r'∧g4=g'∧z5=z')∧(¬ (v2.Ref=true)→∃ (r6:Bool),(zkX v2.Text r6)∧((r6=true)→(I64 ((rd L (t::ts) 0 out).i+1))∧v2.Text=a∧rd L ts 0 out=r'∧g=g'∧z=z')∧(¬ (r6=true)→∃ (y7:reader) (g8:Nat) (z9:Bool),(zaF (rd L (t::ts) 0 out) g z 5 y7 g8 z9)∧[]=a∧y7=r'∧g8=g'∧z9=z')))∧(¬ ((t.Parts.length:Int)=1)→∃ (y10:reader) (g11:Nat) (z12:Bool),(zaF (rd L (t::ts) 0 out) g z 5 y10 g11 z12)∧[]=a∧y10=r'∧g11=g'∧z12=z'))→zez (rd L (t::ts) 0 out) g z a r' g' z':=fun {g z a r' g' z'} h=>znT _ _ _ _ _ _ _ ⟨fun _=>⟨i0,t,hg,fun _=>by rw[nx];exact h,fun h=>absurd k2 h⟩,fun h=>absurd rfl h⟩
    match hps:t.Parts,hp with
    | [],_=>exact bad (F:=True) fun g z=>go ⟨fun h=>(by rw[hps] at h;cases h),fun _=>⟨_,g,z,za0 0 out g z 5,rfl,rfl,rfl,rfl⟩⟩
    | p::q::l,_=>exact bad (F:=True) fun g z=>go ⟨fun h=>(by rw[hps] at h;simp only[List.length_cons] at h;omega),fun _=>⟨_,g,z,za0 0 out g z 5,rfl,rfl,rfl,rfl⟩⟩
    | [p],hp =>
      have h1:(t.Parts.length:Int)=1:=by rw[hps];rfl
      have h0:t.Parts[0]?=some p:=by rw[hps];rfl
      simp only
      by_cases hr:p.Ref=true
      ·rw[if_pos hr]
       exact bad (F:=True) fun g z=>go ⟨fun _=>⟨p,h0,fun _=>⟨_,g,z,za0 0 out g z 5,rfl,rfl,rfl,rfl⟩,fun h=>absurd hr h⟩,fun h=>absurd h1 h⟩
      rw[if_neg hr]
      have hl:=zqz p.Text (hp p (by simp))
      by_cases hb:zE p.Text=true
      ·rw[if_pos hb]
       rw[hb] at hl
       exact⟨zp hs,w1,by simp,fun g z=>⟨out,g,z,by simp only[List.length_cons];omega,go ⟨fun _=>⟨p,h0,fun h=>absurd h hr,fun _=>⟨true,hl,fun _=>⟨i64,rfl,rfl,rfl,rfl⟩,fun h=>absurd rfl h⟩⟩,fun h=>absurd h1 h⟩⟩⟩
      rw[if_neg hb]
      have hb:zE p.Text=false:=by simpa using hb
      rw[hb] at hl
      exact bad (F:=True) fun g z=>go ⟨fun _=>⟨p,h0,fun h=>absurd h hr,fun _=>⟨false,hl,fun h=>(by cases h),fun _=>⟨_,g,z,za0 0 out g z 5,rfl,rfl,rfl,rfl⟩⟩⟩,fun h=>absurd h1 h⟩
end
theorem zrQ (s:List UInt8):zi5 s (match zae s zaa 0 with | some i=>(i:Int)+1 | none=>0):=by
 apply ztq
 simp only[zaa,zae]
 refine⟨fun h=>by rw[if_pos h];rfl,fun h1=>⟨fun h=>by rw[if_neg h1,if_pos h];rfl,fun h2=>⟨fun h=>by rw[if_neg h1,if_neg h2,if_pos h];rfl,fun h3=>⟨fun h=>by rw[if_neg h1,if_neg h2,if_neg h3,if_pos h];rfl,fun h4=>⟨fun h=>by rw[if_neg h1,if_neg h2,if_neg h3,if_neg h4,if_pos h];rfl,fun h5=>by rw[if_neg h1,if_neg h2,if_neg h3,if_neg h4,if_neg h5]⟩⟩⟩⟩⟩
theorem zpv {s:List UInt8} (h:zae s zaa 0=none):zi5 s 0:=by have:=zrQ s;rwa [h] at this
theorem zje {s:List UInt8} {i:Nat} (h:zae s zaa 0=some i):zi5 s ((i:Int)+1):=by have:=zrQ s;rwa [h] at this
section
variable {L:List Token} (hL:L.length≤1000000) (hT:∀ t ∈ L,t.Text.length≤1000000) (hP:∀ t ∈ L,∀ p ∈ t.Parts,p.Text.length≤1000000)
include hL hT hP
theorem zmR (N i:Nat) (hi:i < 4) (ts:List Token) (out:List Node) (hs:ts <:+ L) (hw:W ts) (hk:out.length+ts.length≤1500000):RdB L ts out (fun r g z b r' g' z'=>(i=1→∃ as':List Attr,b=⟨2,[],as',[]⟩∧zd4 r g z as' r' g' z')∧(i≠1→∃ (l:List UInt8) (y:reader) (g1:Nat) (z1:Bool) (as':List Attr),b=⟨(i:Int)+1,l,as',[]⟩∧zez r g z l y g1 z1∧zd4 y g1 z1 as' r' g' z')) (zdg zE N i ts):=by
 unfold zdg
 by_cases h1:i=1
 ·rw[if_pos h1]
  have hb:=ziZ hL hT N ts out hs hw hk
  cases hc:zdm N ts with
  | no=>exact True.intro
  | er e =>
   rw[hc] at hb
   intro g z
   obtain⟨a,y,g1,z1,q,bd⟩:=hb g z
   exact⟨⟨2,[],a,[]⟩,y,g1,z1,⟨fun _=>⟨a,rfl,q⟩,fun h=>absurd h1 h⟩,bd⟩
  | ok a ts1 o1 =>
   rw[hc] at hb
   obtain⟨s2,w2,l2,q2⟩:=hb
   refine⟨s2,w2,l2,fun g z=>?_⟩
   obtain⟨out1,g1,z1,k1,q⟩:=q2 g z
   exact⟨out1,g1,z1,k1,fun _=>⟨a,rfl,q⟩,fun h=>absurd h1 h⟩
 rw[if_neg h1]
 have hl:=znh hL hT hP ts out hs hw
 cases hc:zdK zE ts with
 | no=>exact True.intro
 | er e =>
  rw[hc] at hl
  intro g z
  obtain⟨a,y,g1,z1,q,bd⟩:=hl g z
  exact⟨⟨(i:Int)+1,a,[],[]⟩,y,g1,z1,⟨fun h=>absurd h h1,fun _=>⟨a,y,g1,z1,[],rfl,q,ztQ bd.e0' g1 z1⟩⟩,bd⟩
 | ok a ts1 o1 =>
  rw[hc] at hl
  obtain⟨s2,w2,l2,q2⟩:=hl
  simp only[PR.bind]
  cases hc2:zdm N ts1 with
  | no=>exact True.intro
  | er e =>
   intro g z
   obtain⟨out1,g1,z1,k1,q⟩:=q2 g z
   have hb:=ziZ hL hT N ts1 out1 s2 w2 (by omega)
   rw[hc2] at hb
   obtain⟨as',y,g3,z3,q3,bd⟩:=hb g1 z1
   exact⟨⟨(i:Int)+1,a,as',[]⟩,y,g3,z3,⟨fun h=>absurd h h1,fun _=>⟨a,_,g1,z1,as',rfl,q,q3⟩⟩,bd.mono (by omega)⟩
  | ok as' ts2 o2 =>
   have hb0:=ziZ hL hT N ts1 [] s2 w2 (by simp;omega)
   rw[hc2] at hb0
   refine⟨hb0.1,hb0.2.1,by have:=hb0.2.2.1;omega,fun g z=>?_⟩
   obtain⟨out1,g1,z1,k1,q⟩:=q2 g z
   have hb:=ziZ hL hT N ts1 out1 s2 w2 (by omega)
   rw[hc2] at hb
   obtain⟨out2,g3,z3,k3,q3⟩:=hb.2.2.2 g1 z1
   have e1:(1:Int)+(i:Int)=(i:Int)+1:=by omega
   exact⟨out2,g3,z3,by omega,fun h=>absurd h h1,fun _=>⟨a,_,g1,z1,as',by rw[e1],q,q3⟩⟩
theorem zfp (N:Nat):∀ (n:Nat) (acc:List Block) (ts:List Token) (out:List Node),ts <:+ L→W ts→acc.length+ts.length≤1000000→out.length+ts.length≤1500000→match zbW zE N n acc ts with
  | .ok bs ts' _=>∃ t,isS [125] (t::ts')=true∧(t::ts') <:+ L∧W (t::ts')∧ts'.length < ts.length∧∀ g z,∃ out' g' z',out'.length+(t::ts').length≤out.length+ts.length∧zax true acc (rd L ts 0 out) g z bs (rd L (t::ts') 0 out') g' z'
  | .er e=>∀ g z,∃ bs r' g' z',zax true acc (rd L ts 0 out) g z bs r' g' z'∧Bd L 0 (out.length+ts.length) e r'
  | .no=>True
 | 0,_,_,_,_,_,_,_=>by rw[zbW];exact True.intro
 | n+1,acc,[],_,_,hw,_,_=>hw.elim
 | n+1,acc,t::ts,out,hs,hw,ha,hk=>by
  have s1:=zp hs
  simp only[List.length_cons] at ha hk
  have qi:=fun g z=>zcL hs (by simp) 0 out g z [125]
  have i0:0≤(rd L (t::ts) 0 out).i:=by simp[rd]
  have hg:=zeG hs rfl 0 out
  have i64:=zcJ hL hs 0 out
  have nx:=zb3 hs rfl 0 out
  have hbig:bigRow (acc.length+1) 72:=by simp only[bigRow];omega
  have e5:(5:Int)≠0:=by decide
  rw[zbW]
  by_cases h125:isS [125] (t::ts)=true
  ·rw[if_pos h125]
   rw[h125] at qi
   exact⟨t,h125,hs,hw,by simp,fun g z=>⟨out,g,z,by simp,zan _ _ _ _ _ _ _ _ _ ⟨fun _=>⟨fun _=>⟨true,_,g,z,qi g z,fun _=>⟨rfl,rfl,rfl,rfl⟩,fun h=>absurd rfl h⟩,fun h=>absurd rfl h⟩,fun h=>absurd rfl h⟩⟩⟩
  rw[if_neg h125]
  have h125:isS [125] (t::ts)=false:=by simpa using h125
  rw[h125] at qi
  rw[blkIn]
  by_cases k3:t.Kind=3
  rotate_left
  ·rw[if_neg k3]
   intro g z
   exact⟨acc,_,g,z,zan _ _ _ _ _ _ _ _ _ ⟨fun _=>⟨fun _=>⟨false,_,g,z,qi g z,fun h=>(by cases h),fun _=>⟨i0,t,hg,fun h=>absurd h k3,fun _=>⟨_,g,z,za0 0 out g z 5,rfl,rfl,rfl,rfl⟩⟩⟩,fun h=>absurd rfl h⟩,fun h=>absurd rfl h⟩,zad hs 0 out e5⟩
  rw[if_pos k3]
  have w1:=hw.tail (by rw[k3];decide)
  cases hi:zae t.Text zaa 0 with
  | none =>
   intro g z
   exact⟨acc,_,g,z,zan _ _ _ _ _ _ _ _ _ ⟨fun _=>⟨fun _=>⟨false,_,g,z,qi g z,fun h=>(by cases h),fun _=>⟨i0,t,hg,fun _=>⟨0,zpv hi,fun _=>⟨_,g,z,za0 0 out g z 5,rfl,rfl,rfl,rfl⟩,fun h=>absurd rfl h⟩,fun h=>absurd k3 h⟩⟩,fun h=>absurd rfl h⟩,fun h=>absurd rfl h⟩,zad hs 0 out e5⟩
  | some i =>
   have hlt:=zdU _ _ _ _ hi
   simp only[zaa,List.length_cons,List.length_nil] at hlt
   simp only
   by_cases h4:i=4
   ·subst h4
    rw[if_pos rfl]
    intro g z
    exact⟨acc,_,g,z,zan _ _ _ _ _ _ _ _ _ ⟨fun _=>⟨fun _=>⟨false,_,g,z,qi g z,fun h=>(by cases h),fun _=>⟨i0,t,hg,fun _=>⟨_,zje hi,fun h=>absurd h (by decide),fun _=>⟨fun _=>⟨_,g,z,za0 0 out g z 5,rfl,rfl,rfl,rfl⟩,fun h=>absurd (by decide) h⟩⟩,fun h=>absurd k3 h⟩⟩,fun h=>absurd rfl h⟩,fun h=>absurd rfl h⟩,zad hs 0 out e5⟩
   rw[if_neg h4]
   have hp:=zmR hL hT hP N i (by omega) ts out s1 w1 (by omega)
   have go:∀ {g z b y g1 z1 bs r' g' z'},((i=1→∃ as':List Attr,b=Block.mk 2 [] as' []∧zd4 (rd L ts 0 out) g z as' y g1 z1)∧(i≠1→∃ (l:List UInt8) (y1:reader) (g2:Nat) (z2:Bool) (as':List Attr),b=Block.mk ((i:Int)+1) l as' []∧zez (rd L ts 0 out) g z l y1 g2 z2∧zd4 y1 g2 z2 as' y g1 z1))→zax true (acc++[b]) y g1 z1 bs r' g' z'→zax true acc (rd L (t::ts) 0 out) g z bs r' g' z':=by
    intro g z b y g1 z1 bs r' g' z' h hA
    refine zan _ _ _ _ _ _ _ _ _ ⟨fun _=>⟨fun _=>⟨false,_,g,z,qi g z,fun h=>(by cases h),fun _=>⟨i0,t,hg,fun _=>⟨_,zje hi,fun h=>by omega,fun _=>⟨fun h=>by omega,fun _=>⟨i64,fun h2=>?_,fun h2=>?_⟩⟩⟩,fun h=>absurd k3 h⟩⟩,fun h=>absurd rfl h⟩,fun h=>absurd rfl h⟩
    ·have hi1:i=1:=by omega
     obtain⟨as',rfl,q⟩:=h.1 hi1
     rw[nx]
     exact⟨as',y,g1,z1,q,hbig,by rw[h2];exact hA⟩
    obtain⟨l,y1,g2,z2,as',rfl,q,q'⟩:=h.2 (by omega)
    rw[nx]
    exact⟨l,y1,g2,z2,q,as',y,g1,z1,q',hbig,hA⟩
   cases hc:zdg zE N i ts with
   | no=>exact True.intro
   | er e =>
    rw[hc] at hp
    intro g z
    obtain⟨b,y,g1,z1,q,bd⟩:=hp g z
    exact⟨_,y,g1,z1,go q (zfh bd.e0' _ _ _ _),bd.mono (by simp only[List.length_cons];omega)⟩
   | ok b ts1 o1 =>
    rw[hc] at hp
    obtain⟨s2,w2,l2,q2⟩:=hp
    simp only[PR.bind]
    have h0:=zfp N n (acc++[b]) ts1 [] s2 w2 (by simp only[List.length_append,List.length_cons,List.length_nil];omega) (by simp;omega)
    cases hc2:zbW zE N n (acc++[b]) ts1 with
    | no=>exact True.intro
    | er e =>
     intro g z
     obtain⟨out1,g1,z1,k1,q⟩:=q2 g z
     have h2:=zfp N n (acc++[b]) ts1 out1 s2 w2 (by simp only[List.length_append,List.length_cons,List.length_nil];omega) (by omega)
     rw[hc2] at h2
     obtain⟨bs,y,g3,z3,q3,bd⟩:=h2 g1 z1
     exact⟨bs,y,g3,z3,go q q3,bd.mono (by simp only[List.length_cons];omega)⟩
    | ok bs ts2 o2 =>
     rw[hc2] at h0
     obtain⟨u,a1,a2,a3,a4,_⟩:=h0
     refine⟨u,a1,a2,a3,by simp only[List.length_cons];omega,fun g z=>?_⟩
     obtain⟨out1,g1,z1,k1,q⟩:=q2 g z
     have h2:=zfp N n (acc++[b]) ts1 out1 s2 w2 (by simp only[List.length_append,List.length_cons,List.length_nil];omega) (by omega)
     rw[hc2] at h2
     obtain⟨u',b1,b2,b3,b4,b5⟩:=h2
     obtain⟨out2,g3,z3,k3',q3⟩:=b5 g1 z1
     have hu:u'=u:=by
      obtain⟨p1,e1⟩:=a2
      obtain⟨p2,e2⟩:=b2
      have hl:=congrArg List.length e1
      have hl2:=congrArg List.length e2
      simp only[List.length_append,List.length_cons] at hl hl2
      have:=List.append_inj (e2.trans e1.symm) (by omega)
      exact (List.cons.inj this.2).1
     subst hu
     exact⟨out2,g3,z3,by simp only[List.length_cons] at k3' ⊢;omega,go q q3⟩
theorem zi7 (N:Nat):∀ (n:Nat) (acc:List Block) (ts:List Token) (out:List Node),ts <:+ L→W ts→acc.length+ts.length≤1000000→out.length+ts.length≤1500000→RdB L ts out (fun r g z a r' g' z'=>zax false acc r g z a r' g' z') (zbL zE N n acc ts)
 | 0,_,_,_,_,_,_,_=>by rw[zbL];exact True.intro
 | n+1,acc,[],_,_,hw,_,_=>hw.elim
 | n+1,acc,t::ts,out,hs,hw,ha,hk=>by
  have s1:=zp hs
  simp only[List.length_cons] at ha hk
  have i0:0≤(rd L (t::ts) 0 out).i:=by simp[rd]
  have hg:=zeG hs rfl 0 out
  have i64:=zcJ hL hs 0 out
  have nx:=zb3 hs rfl 0 out
  have hbig:bigRow (acc.length+1) 72:=by simp only[bigRow];omega
  have e5:(5:Int)≠0:=by decide
  have nf:¬ (false=true):=by decide
  rw[zbL]
  by_cases k0:t.Kind=0
  ·rw[if_pos k0]
   exact⟨hs,hw,Nat.le_refl _,fun g z=>⟨out,g,z,Nat.le_refl _,zan _ _ _ _ _ _ _ _ _ ⟨fun _=>⟨fun h=>absurd h nf,fun _=>⟨i0,t,hg,fun _=>⟨rfl,rfl,rfl,rfl⟩,fun h=>absurd k0 h⟩⟩,fun h=>absurd rfl h⟩⟩⟩
  rw[if_neg k0]
  rw[zix]
  by_cases k3:t.Kind=3
  rotate_left
  ·rw[if_neg k3]
   intro g z
   exact⟨acc,_,g,z,zan _ _ _ _ _ _ _ _ _ ⟨fun _=>⟨fun h=>absurd h nf,fun _=>⟨i0,t,hg,fun h=>absurd h k0,fun _=>⟨fun h=>absurd h k3,fun _=>⟨_,g,z,za0 0 out g z 5,rfl,rfl,rfl,rfl⟩⟩⟩⟩,fun h=>absurd rfl h⟩,zad hs 0 out e5⟩
  rw[if_pos k3]
  have w1:=hw.tail k0
  cases hi:zae t.Text zaa 0 with
  | none =>
   intro g z
   exact⟨acc,_,g,z,zan _ _ _ _ _ _ _ _ _ ⟨fun _=>⟨fun h=>absurd h nf,fun _=>⟨i0,t,hg,fun h=>absurd h k0,fun _=>⟨fun _=>⟨0,zpv hi,fun _=>⟨_,g,z,za0 0 out g z 5,rfl,rfl,rfl,rfl⟩,fun h=>absurd rfl h⟩,fun h=>absurd k3 h⟩⟩⟩,fun h=>absurd rfl h⟩,zad hs 0 out e5⟩
  | some i =>
   have hlt:=zdU _ _ _ _ hi
   simp only[zaa,List.length_cons,List.length_nil] at hlt
   simp only
   have rest:∀ {p:PR Block} {F:reader→Nat→Bool→Block→reader→Nat→Bool→Prop},RdB L ts out F p→(∀ {g z b y g1 z1 bs r' g' z'},F (rd L ts 0 out) g z b y g1 z1→zax false (acc++[b]) y g1 z1 bs r' g' z'→zax false acc (rd L (t::ts) 0 out) g z bs r' g' z')→RdB L (t::ts) out (fun r g z a r' g' z'=>zax false acc r g z a r' g' z') (p.bind fun b ts _=>zbL zE N n (acc++[b]) ts):=by
    intro p F hp go
    cases p with
    | no=>exact True.intro
    | er e =>
     intro g z
     obtain⟨b,y,g1,z1,q,bd⟩:=hp g z
     exact⟨_,y,g1,z1,go q (zfh bd.e0' _ _ _ _),bd.mono (by simp only[List.length_cons];omega)⟩
    | ok b ts1 o1 =>
     obtain⟨s2,w2,l2,q2⟩:=hp
     simp only[PR.bind]
     have h0:=zi7 N n (acc++[b]) ts1 [] s2 w2 (by simp only[List.length_append,List.length_cons,List.length_nil];omega) (by simp;omega)
     cases hc2:zbL zE N n (acc++[b]) ts1 with
     | no=>exact True.intro
     | er e =>
      intro g z
      obtain⟨out1,g1,z1,k1,q⟩:=q2 g z
      have h2:=zi7 N n (acc++[b]) ts1 out1 s2 w2 (by simp only[List.length_append,List.length_cons,List.length_nil];omega) (by omega)
      rw[hc2] at h2
      obtain⟨bs,y,g3,z3,q3,bd⟩:=h2 g1 z1
      exact⟨bs,y,g3,z3,go q q3,bd.mono (by simp only[List.length_cons];omega)⟩
     | ok bs ts2 o2 =>
      rw[hc2] at h0
      obtain⟨a1,a2,a3,_⟩:=h0
      refine⟨a1,a2,by simp only[List.length_cons];omega,fun g z=>?_⟩
      obtain⟨out1,g1,z1,k1,q⟩:=q2 g z
      have h2:=zi7 N n (acc++[b]) ts1 out1 s2 w2 (by simp only[List.length_append,List.length_cons,List.length_nil];omega) (by omega)
      rw[hc2] at h2
      obtain⟨out2,g3,z3,k3',q3⟩:=h2.2.2.2 g1 z1
      exact⟨out2,g3,z3,by simp only[List.length_cons];omega,go q q3⟩
   by_cases h4:i=4
   rotate_left
   ·rw[if_neg h4]
    refine rest (zmR hL hT hP N i (by omega) ts out s1 w1 (by omega)) ?_
    intro g z b y g1 z1 bs r' g' z' h hA
    refine zan _ _ _ _ _ _ _ _ _ ⟨fun _=>⟨fun h=>absurd h nf,fun _=>⟨i0,t,hg,fun h=>absurd h k0,fun _=>⟨fun _=>⟨_,zje hi,fun h=>by omega,fun _=>⟨i64,fun h2=>?_,fun h2=>?_⟩⟩,fun h=>absurd k3 h⟩⟩⟩,fun h=>absurd rfl h⟩
    ·have hi1:i=1:=by omega
     obtain⟨as',rfl,q⟩:=h.1 hi1
     rw[nx]
     exact⟨as',y,g1,z1,q,hbig,by rw[h2];exact hA⟩
    obtain⟨l,y1,g2,z2,as',rfl,q,q'⟩:=h.2 (by omega)
    rw[nx]
    exact⟨l,y1,g2,z2,q,fun h=>by omega,fun _=>⟨as',y,g1,z1,q',hbig,hA⟩⟩
   subst h4
   rw[if_pos rfl]
   have hdef:RdB L ts out (fun r g z b r' g' z'=>∃ (l:List UInt8) (y1:reader) (g1:Nat) (z1:Bool) (y2:reader) (g2:Nat) (z2:Bool) (bs:List Block) (y3:reader) (g3:Nat) (z3:Bool),b=Block.mk 5 l [] bs∧zez r g z l y1 g1 z1∧zaY y1 g1 z1 [123] y2 g2 z2∧zmM y2 g2 z2 true bs y3 g3 z3∧zaY y3 g3 z3 [125] r' g' z') ((zdK zE ts).bind fun l ts _=>zah [123] ts fun ts=>(zbW zE N N [] ts).bind fun bs ts _=>.ok ⟨5,l,[],bs⟩ ts []):=by
    have hl:=znh hL hT hP ts out s1 w1
    cases hc:zdK zE ts with
    | no=>exact True.intro
    | er e =>
     rw[hc] at hl
     intro g z
     obtain⟨a,y,g1,z1,q,bd⟩:=hl g z
     exact⟨_,y,g1,z1,⟨a,y,g1,z1,y,g1,z1,[],y,g1,z1,rfl,q,zbn bd.e0' _ _ _,zep _ _ _ _ _ _ _ _ (zfh bd.e0' _ _ _ _),zbn bd.e0' _ _ _⟩,bd⟩
    | ok a ts1 o1 =>
     rw[hc] at hl
     obtain⟨s2,w2,l2,q2⟩:=hl
     simp only[PR.bind,zah]
     by_cases hn:isS [123] ts1=true
     rotate_left
     ·rw[if_neg hn]
      have hn:isS [123] ts1=false:=by simpa using hn
      intro g z
      obtain⟨out1,g1,z1,k1,q⟩:=q2 g z
      have bd:=zad s2 0 out1 e5
      exact⟨_,_,g1,z1,⟨a,_,g1,z1,_,g1,z1,[],_,g1,z1,rfl,q,zej s2 w2.ne hn 0 out1 g1 z1,zep _ _ _ _ _ _ _ _ (zfh bd.e0' _ _ _ _),zbn bd.e0' _ _ _⟩,bd.mono (by omega)⟩
     rw[if_pos hn]
     have hwt:=fun out1 g z=>zcA hL s2 hn 0 out1 g z
     obtain⟨u,r,rfl,hu⟩:=zaC hn
     have w3:=w2.tail (by rw[hu.1];decide)
     have s3:=zp s2
     simp only[List.tail_cons] at hwt ⊢
     simp only[List.length_cons] at l2
     have hle:=s2.length_le
     simp only[List.length_cons] at hle
     have h0:=zfp hL hT hP N N [] r [] s3 w3 (by simp;omega) (by simp;omega)
     cases hc2:zbW zE N N [] r with
     | no=>exact True.intro
     | er e =>
      intro g z
      obtain⟨out1,g1,z1,k1,q⟩:=q2 g z
      simp only[List.length_cons] at k1
      have h2:=zfp hL hT hP N N [] r out1 s3 w3 (by simp;omega) (by omega)
      rw[hc2] at h2
      obtain⟨bs,y,g3,z3,q3,bd⟩:=h2 g1 z1
      exact⟨_,y,g3,z3,⟨a,_,g1,z1,_,g1,z1,bs,y,g3,z3,rfl,q,hwt out1 g1 z1,zep _ _ _ _ _ _ _ _ q3,zbn bd.e0' _ _ _⟩,bd.mono (by omega)⟩
     | ok bs ts2 o2 =>
      rw[hc2] at h0
      obtain⟨x,a1,a2,a3,a4,_⟩:=h0
      have w4:=a3.tail (zn9 a1)
      refine⟨zp a2,w4,by omega,fun g z=>?_⟩
      obtain⟨out1,g1,z1,k1,q⟩:=q2 g z
      simp only[List.length_cons] at k1
      have h2:=zfp hL hT hP N N [] r out1 s3 w3 (by simp;omega) (by omega)
      rw[hc2] at h2
      obtain⟨x',b1,b2,b3,b4,b5⟩:=h2
      obtain⟨out2,g3,z3,k3',q3⟩:=b5 g1 z1
      simp only[List.length_cons] at k3'
      exact⟨out2,g3,z3,by omega,a,_,g1,z1,_,g1,z1,bs,_,g3,z3,rfl,q,hwt out1 g1 z1,zep _ _ _ _ _ _ _ _ q3,zcA hL b2 b1 0 out2 g3 z3⟩
   refine rest hdef ?_
   intro g z b y g1 z1 bs r' g' z' h hA
   obtain⟨l,y1,g1',z1',y2,g2,z2,bs',y3,g3,z3,rfl,q1,q2,q3,q4⟩:=h
   exact zan _ _ _ _ _ _ _ _ _ ⟨fun _=>⟨fun h=>absurd h nf,fun _=>⟨i0,t,hg,fun h=>absurd h k0,fun _=>⟨fun _=>⟨_,zje hi,fun h=>absurd h (by decide),fun _=>⟨i64,fun h2=>absurd h2 (by decide),fun _=>⟨l,y1,g1',z1',by rw[nx];exact q1,fun _=>⟨y2,g2,z2,q2,bs',y3,g3,z3,q3,y,g1,z1,q4,hbig,hA⟩,fun h=>absurd (by decide) h⟩⟩⟩,fun h=>absurd k3 h⟩⟩⟩,fun h=>absurd rfl h⟩
end
inductive Lv where
 | ex | ch (r:Nat) | lp (r:Nat) (a:Int) | un | po | pl (a:Int) | ma (e:List UInt8) | ml (e:List UInt8) (l:List Int) | pr
def Sg (s:List UInt8) (t:Token):Prop:=t.Kind=4∧t.Text=s
inductive Dr:Lv→Nat→List Token→List Node→List Int→List Token→List Node→Prop
 | ex0 {d ts out a ts1 out1}:Dr (.ch 0) d ts out [a] ts1 out1→Dr .ex d ts out [a] ts1 out1
 | ex1 {d ts out a q ts1 out1 b c ts2 out2 x ts3 out3}:Dr (.ch 0) d ts out [a] (q::ts1) out1→Sg [63] q→d < 64→Dr .ex (d+1) ts1 out1 [b] (c::ts2) out2→Sg [58] c→Dr .ex (d+1) ts2 out2 [x] ts3 out3→Dr .ex d ts out [((out3.length:Nat):Int)] ts3 (out3++[nd 10 [] [a,b,x]])
 | ch5 {d ts out a ts1 out1}:Dr .un d ts out [a] ts1 out1→Dr (.ch 5) d ts out [a] ts1 out1
 | chr {r d ts out a ts1 out1 b ts2 out2}:r < 5→Dr (.ch (r+1)) d ts out [a] ts1 out1→Dr (.lp r a) d ts1 out1 [b] ts2 out2→Dr (.ch r) d ts out [b] ts2 out2
 | lp0 {r a d ts out}:Dr (.lp r a) d ts out [a] ts out
 | lp2 {a d t kind ts out b ts1 out1}:t.Kind=4→opS 2 t.Text=some kind→Dr (.ch 3) d ts out [b] ts1 out1→Dr (.lp 2 a) d (t::ts) out [((out1.length:Nat):Int)] ts1 (out1++[nd kind [] [a,b]])
 | lpr {r a d t kind ts out b ts1 out1 x ts2 out2}:t.Kind=4→opS r t.Text=some kind→r≠2→Dr (.ch (r+1)) d ts out [b] ts1 out1→Dr (.lp r ((out1.length:Nat):Int)) d ts1 (out1++[nd kind [] [a,b]]) [x] ts2 out2→Dr (.lp r a) d (t::ts) out [x] ts2 out2
 | un9 {d t ts out a ts1 out1}:Sg [45] t→d < 64→Dr .un (d+1) ts out [a] ts1 out1→Dr .un d (t::ts) out [((out1.length:Nat):Int)] ts1 (out1++[nd 9 [] [a]])
 | un8 {d t ts out a ts1 out1}:Sg [33] t→d < 64→Dr .un (d+1) ts out [a] ts1 out1→Dr .un d (t::ts) out [((out1.length:Nat):Int)] ts1 (out1++[nd 8 [] [a]])
 | un0 {d ts out a ts1 out1}:Dr .po d ts out [a] ts1 out1→Dr .un d ts out [a] ts1 out1
 | po {d ts out a ts1 out1 b ts2 out2}:Dr .pr d ts out [a] ts1 out1→Dr (.pl a) d ts1 out1 [b] ts2 out2→Dr .po d ts out [b] ts2 out2
 | pl0 {a d ts out}:Dr (.pl a) d ts out [a] ts out
 | pl1 {a d t ts out b u ts1 out1 x ts2 out2}:Sg [91] t→d < 64→Dr .ex (d+1) ts out [b] (u::ts1) out1→Sg [93] u→Dr (.pl ((out1.length:Nat):Int)) d ts1 (out1++[nd 7 [] [a,b]]) [x] ts2 out2→Dr (.pl a) d (t::ts) out [x] ts2 out2
 | ma0 {e d t ts out}:Sg e t→Dr (.ma e) d (t::ts) out [] ts out
 | ma1 {e d ts out a ts1 out1 l ts2 out2}:Dr .ex d ts out [a] ts1 out1→Dr (.ml e [a]) d ts1 out1 l ts2 out2→Dr (.ma e) d ts out l ts2 out2
 | ml0 {e l d t ts out}:Sg e t→Dr (.ml e l) d (t::ts) out l ts out
 | ml1 {e l d t ts out a ts1 out1 m ts2 out2}:Sg [44] t→Dr .ex d ts out [a] ts1 out1→Dr (.ml e (l++[a])) d ts1 out1 m ts2 out2→Dr (.ml e l) d (t::ts) out m ts2 out2
 | prT {d t ts out}:t.Kind=3→t.Text=[116,114,117,101]→Dr .pr d (t::ts) out [((out.length:Nat):Int)] ts (out++[⟨3,1,[],[],[]⟩])
 | prF {d t ts out}:t.Kind=3→t.Text=[102,97,108,115,101]→Dr .pr d (t::ts) out [((out.length:Nat):Int)] ts (out++[⟨3,0,[],[],[]⟩])
 | prR {d t u v ts out}:t.Kind=3→t.Text≠[116,114,117,101]→t.Text≠[102,97,108,115,101]→Sg [46] u→v.Kind=3→Dr .pr d (t::u::v::ts) out [((out.length:Nat):Int)] ts (out++[nd 4 ((t.Text++[46])++v.Text) []])
 | prC {d t u ts out l ts1 out1}:t.Kind=3→t.Text≠[116,114,117,101]→t.Text≠[102,97,108,115,101]→Sg [40] u→d < 64→Dr (.ma [41]) (d+1) ts out l ts1 out1→Dr .pr d (t::u::ts) out [((out1.length:Nat):Int)] ts1 (out1++[nd 5 t.Text l])
 | prN {d t ts out}:t.Kind=1→Dr .pr d (t::ts) out [((out.length:Nat):Int)] ts (out++[⟨1,t.Num,[],[],[]⟩])
 | prS {d t ts out}:t.Kind=2→Dr .pr d (t::ts) out [((out.length:Nat):Int)] ts (out++[⟨2,0,[],t.Parts,[]⟩])
 | prL {d t ts out l ts1 out1}:Sg [91] t→d < 64→Dr (.ma [93]) (d+1) ts out l ts1 out1→Dr .pr d (t::ts) out [((out1.length:Nat):Int)] ts1 (out1++[nd 6 [] l])
 | prP {d t ts out a u ts1 out1}:Sg [40] t→d < 64→Dr .ex (d+1) ts out [a] (u::ts1) out1→Sg [41] u→Dr .pr d (t::ts) out [a] ts1 out1
theorem zaf {α β:Type} {p:PR α} {f:α→List Token→List Node→PR β} {b:β} {ts':List Token} {o':List Node} (h:p.bind f=.ok b ts' o'):∃ a ts o,p=.ok a ts o∧f a ts o=.ok b ts' o':=by
 cases p with
 | ok a ts o=>exact⟨a,ts,o,rfl,h⟩
 | er e=>cases h
 | no=>cases h
theorem zgN {s:List UInt8} {ts:List Token} (h:isS s ts=true):∃ t r,ts=t::r∧Sg s t:=by
 cases ts with
 | nil=>cases h
 | cons t r =>
  simp only[isS,Bool.and_eq_true,decide_eq_true_eq] at h
  exact⟨t,r,rfl,h⟩
theorem zdC {α:Type} {s:List UInt8} {ts:List Token} {k:List Token→PR α} {b:α} {ts':List Token} {o':List Node} (h:zah s ts k=.ok b ts' o'):∃ t r,ts=t::r∧Sg s t∧k r=.ok b ts' o':=by
 unfold zah at h
 split at h
 ·rename_i hi
  obtain⟨t,r,rfl,hs⟩:=zgN hi
  exact⟨t,r,rfl,hs,h⟩
 cases h
theorem zdG {α:Type} {s:List UInt8} {d:Nat} {ts:List Token} {k:List Token→PR α} {b:α} {ts':List Token} {o':List Node} (h:zaq s d ts k=.ok b ts' o'):∃ t r,ts=t::r∧Sg s t∧d < 64∧k r=.ok b ts' o':=by
 unfold zaq at h
 split at h
 ·rename_i hi
  obtain⟨t,r,rfl,hs⟩:=zgN hi
  split at h
  ·cases h
  exact⟨t,r,rfl,hs,by omega,h⟩
 cases h
structure DrA (n:Nat):Prop where
 ex:∀ {d ts out a ts' out'},zu n d ts out=.ok a ts' out'→Dr .ex d ts out [a] ts' out'
 ch:∀ {r d ts out a ts' out'},r≤5→zA n r d ts out=.ok a ts' out'→Dr (.ch r) d ts out [a] ts' out'
 lp:∀ {r d x ts out a ts' out'},r < 5→zam n r d x ts out=.ok a ts' out'→Dr (.lp r x) d ts out [a] ts' out'
 un:∀ {d ts out a ts' out'},unS n d ts out=.ok a ts' out'→Dr .un d ts out [a] ts' out'
 po:∀ {d ts out a ts' out'},zaZ n d ts out=.ok a ts' out'→Dr .po d ts out [a] ts' out'
 pl:∀ {d x ts out a ts' out'},zaP n d x ts out=.ok a ts' out'→Dr (.pl x) d ts out [a] ts' out'
 ma:∀ {d e ts out l ts' out'},zay n d e ts out=.ok l ts' out'→Dr (.ma e) d ts out l ts' out'
 ml:∀ {d e x ts out l ts' out'},zaG n d e x ts out=.ok l ts' out'→Dr (.ml e x) d ts out l ts' out'
 pr:∀ {d ts out a ts' out'},zaA n d ts out=.ok a ts' out'→Dr .pr d ts out [a] ts' out'
theorem drA:∀ n,DrA n
 | 0=>⟨fun h=>by simp[zu] at h,fun _ h=>by simp[zA] at h,fun _ h=>by simp[zam] at h,fun h=>by simp[unS] at h,fun h=>by simp[zaZ] at h,fun h=>by simp[zaP] at h,fun h=>by simp[zay] at h,fun h=>by simp[zaG] at h,fun h=>by simp[zaA] at h⟩
 | n+1=>by
  have ih:=drA n
  constructor
  ·intro d ts out a ts' out' h
   rw[zu] at h
   obtain⟨x,ts1,out1,h1,h⟩:=zaf h
   have h1:=ih.ch (by omega) h1
   split at h
   ·obtain⟨t,r,rfl,ht,hd,h⟩:=zdG h
    obtain⟨b,ts2,out2,h2,h⟩:=zaf h
    obtain⟨u,r2,rfl,hu,h⟩:=zdC h
    obtain⟨c,ts3,out3,h3,h⟩:=zaf h
    cases h
    exact .ex1 h1 ht hd (ih.ex h2) hu (ih.ex h3)
   cases h
   exact .ex0 h1
  ·intro r d ts out a ts' out' hr h
   rw[zA] at h
   split at h
   ·subst_vars
    exact .ch5 (ih.un h)
   obtain⟨x,ts1,out1,h1,h⟩:=zaf h
   exact .chr (by omega) (ih.ch (by omega) h1) (ih.lp (by omega) h)
  ·intro r d x ts out a ts' out' hr h
   cases ts with
   | nil=>simp[zam] at h
   | cons t ts =>
    simp only[zam] at h
    by_cases h4:t.Kind=4
    ·rw[if_pos h4] at h
     cases ho:opS r t.Text with
     | none=>rw[ho] at h;cases h;exact .lp0
     | some kind =>
      rw[ho] at h
      obtain⟨b,ts1,out1,h1,h2⟩:=zaf h
      clear h
      have h1:=ih.ch (by omega) h1
      by_cases r2:r=2
      ·subst r2
       simp only[if_true] at h2
       cases h2
       exact .lp2 h4 ho h1
      simp only[if_neg r2] at h2
      exact .lpr h4 ho r2 h1 (ih.lp hr h2)
    rw[if_neg h4] at h
    cases h
    exact .lp0
  ·intro d ts out a ts' out' h
   rw[unS] at h
   split at h
   ·obtain⟨t,r,rfl,ht,hd,h⟩:=zdG h
    obtain⟨b,ts2,out2,h2,h⟩:=zaf h
    cases h
    exact .un9 ht hd (ih.un h2)
   split at h
   ·obtain⟨t,r,rfl,ht,hd,h⟩:=zdG h
    obtain⟨b,ts2,out2,h2,h⟩:=zaf h
    cases h
    exact .un8 ht hd (ih.un h2)
   exact .un0 (ih.po h)
  ·intro d ts out a ts' out' h
   rw[zaZ] at h
   obtain⟨x,ts1,out1,h1,h⟩:=zaf h
   exact .po (ih.pr h1) (ih.pl h)
  ·intro d x ts out a ts' out' h
   rw[zaP] at h
   split at h
   ·obtain⟨t,r,rfl,ht,hd,h⟩:=zdG h
    obtain⟨b,ts2,out2,h2,h⟩:=zaf h
    obtain⟨u,r2,rfl,hu,h⟩:=zdC h
    exact .pl1 ht hd (ih.ex h2) hu (ih.pl h)
   cases h
   exact .pl0
  ·intro d e ts out l ts' out' h
   rw[zay] at h
   split at h
   ·rename_i hi
    obtain⟨t,r,rfl,ht⟩:=zgN hi
    cases h
    exact .ma0 ht
   obtain⟨x,ts1,out1,h1,h⟩:=zaf h
   exact .ma1 (ih.ex h1) (ih.ml h)
  ·intro d e x ts out l ts' out' h
   rw[zaG] at h
   split at h
   ·rename_i hi
    obtain⟨t,r,rfl,ht⟩:=zgN hi
    obtain⟨y,ts1,out1,h1,h⟩:=zaf h
    exact .ml1 ht (ih.ex h1) (ih.ml h)
   obtain⟨t,r,rfl,ht,h⟩:=zdC h
   cases h
   exact .ml0 ht
  intro d ts out a ts' out' h
  cases ts with
  | nil=>simp[zaA] at h
  | cons t ts =>
   rw[zaA] at h
   split at h
   ·rename_i k3
    split at h
    ·rename_i hT
     cases h
     exact .prT k3 hT
    rename_i hT
    split at h
    ·rename_i hF
     cases h
     exact .prF k3 hF
    rename_i hF
    split at h
    ·rename_i hi
     obtain⟨u,r,rfl,hu⟩:=zgN hi
     simp only[List.tail_cons] at h
     cases r with
     | nil=>cases h
     | cons v r =>
      simp only at h
      split at h
      ·rename_i kv
       cases h
       exact .prR k3 hT hF hu kv
      cases h
    obtain⟨u,r,rfl,hu,hd,h⟩:=zdG h
    obtain⟨x,ts1,out1,h1,h⟩:=zaf h
    cases h
    exact .prC k3 hT hF hu hd (ih.ma h1)
   split at h
   ·rename_i k1
    cases h
    exact .prN k1
   split at h
   ·rename_i k2
    cases h
    exact .prS k2
   split at h
   ·obtain⟨u,r,e,hu,hd,h⟩:=zdG h
    cases e
    obtain⟨x,ts1,out1,h1,h⟩:=zaf h
    cases h
    exact .prL hu hd (ih.ma h1)
   obtain⟨u,r,e,hu,hd,h⟩:=zdG h
   cases e
   obtain⟨x,ts1,out1,h1,h⟩:=zaf h
   obtain⟨v,r2,rfl,hv,h⟩:=zdC h
   cases h
   exact .prP hu hd (ih.ex h1) hv
end Go.Proofs.YtfbcnpbhhooapaaGreatDoor.M
namespace Go.Proofs.YtfbcnpbhhooapaaGreatDoor.M
open Go
end Go.Proofs.YtfbcnpbhhooapaaGreatDoor.M
namespace Go.Proofs.YtfbcnpbhhooapaaGreatDoor.M
open Go Classical
end Go.Proofs.YtfbcnpbhhooapaaGreatDoor.M
namespace Go.Proofs.YtfbcnpbhhooapaaGreatDoor.M
open Go
end Go.Proofs.YtfbcnpbhhooapaaGreatDoor.M
namespace Go.Proofs.YtfbcnpbhhooapaaGreatDoor.M
open Go Classical
end Go.Proofs.YtfbcnpbhhooapaaGreatDoor.M
namespace Go.Proofs.YtfbcnpbhhooapaaGreatDoor.M
open Go Classical
theorem zuh {n:Nat} (h:n≤1000000000000):bigRow n 1:=⟨by omega,by omega,by decide⟩
def rkS (k:Int):Int:=if k=10 then 0 else if k=11 then 1 else if k=12 then 2 else if 13≤k∧k≤18 then 3 else if k=19∨k=20 then 4 else if 21≤k then 5 else if k=8∨k=9 then 6 else 7
def zqS:List (List UInt8):=[[124,124],[38,38],[61,61],[33,61],[60],[60,61],[62],[62,61],[43],[45],[42],[47],[37]]
def zhx (k:Int):List UInt8:=(zqS[(k - 11).toNat]?).getD []
theorem zxI (k:Int):(zhx k).length≤2:=by
 unfold zhx
 have h:∀ x ∈ zqS,x.length≤2:=by decide
 cases e:zqS[(k - 11).toNat]? with
 | none=>simp
 | some v=>exact h v (List.mem_of_getElem? e)
def qC (c:UInt8):List UInt8:=if c.toNat=34∨c.toNat=92∨c.toNat=36 then [92,c] else if c.toNat=10 then [92,110] else [c]
def qS (s:List UInt8):List UInt8:=s.flatMap qC
theorem zzn (c:UInt8):(qC c).length≤2:=by
 unfold qC
 split
 ·simp
 split <;> simp
theorem zrr:∀ s:List UInt8,(qS s).length≤2*s.length
 | []=>Nat.le_refl _
 | c::s=>by
  have:=zrr s
  have:=zzn c
  unfold qS at *
  rw[List.flatMap_cons,List.length_append,List.length_cons]
  omega
def ptS (p:Part):List UInt8:=if p.Ref=true then [36,123]++p.Text++[125] else qS p.Text
def qtS (l:List Part):List UInt8:=[34]++(l.flatMap ptS++[34])
def QB (l:List Part):Prop:=l.length≤60∧∀ p ∈ l,p.Text.length≤300
theorem zvS {p:Part} (h:p.Text.length≤300):(ptS p).length≤603:=by
 unfold ptS
 split
 ·simp only[List.length_append,List.length_cons,List.length_nil];omega
 have:=zrr p.Text;omega
theorem zo0:∀ {l:List Part},(∀ p ∈ l,p.Text.length≤300)→(l.flatMap ptS).length≤603*l.length
 | [],_=>Nat.le_refl _
 | p::l,h=>by
  have h1:=zo0 (l:=l) fun q hq=>h q (List.mem_cons_of_mem _ hq)
  have h2:=zvS (h p (List.mem_cons_self ..))
  rw[List.flatMap_cons,List.length_append,List.length_cons]
  omega
theorem zxp {l:List Part} (h:QB l):(qtS l).length≤36200:=by
 have h1:=zo0 h.2
 have h2:=h.1
 simp only[qtS,List.length_append,List.length_cons,List.length_nil]
 omega
def rkK (l:List Node) (k:Int):Int:=match l[k.toNat]? with
 | some n=>rkS n.Kind
 | none=>7
def wrS (l:List Node) (o:Int→List UInt8) (k least:Int):List UInt8:=if rkK l k < least then [40]++o k++[41] else o k
def comG (o:Int→List UInt8):List Int→List UInt8
 | []=>[]
 | k::r=>[44,32]++o k++comG o r
def comS (o:Int→List UInt8):List Int→List UInt8
 | []=>[]
 | k::r=>o k++comG o r
def kid (n:Node) (i:Nat):Int:=(n.Kids[i]?).getD 0
def ndS (l:List Node) (o:Int→List UInt8) (n:Node):List UInt8 :=
 if n.Kind=1 then Lib.itoa n.Num
 else if n.Kind=2 then qtS n.Parts
 else if n.Kind=3 then Lib.formatBool (decide (n.Num=1))
 else if n.Kind=4 then n.Text
 else if n.Kind=5 then n.Text++[40]++comS o n.Kids++[41]
 else if n.Kind=6 then [91]++comS o n.Kids++[93]
 else if n.Kind=7 then wrS l o (kid n 0) 7++[91]++o (kid n 1)++[93]
 else if n.Kind=8 then [33]++wrS l o (kid n 0) 6
 else if n.Kind=9 then [45]++wrS l o (kid n 0) 6
 else if n.Kind=10 then wrS l o (kid n 0) 1++[32,63,32]++o (kid n 1)++[32,58,32]++o (kid n 2)
 else wrS l o (kid n 0) (if rkS n.Kind=3 then rkS n.Kind+1 else rkS n.Kind)++[32]++zhx n.Kind++[32]++wrS l o (kid n 1) (rkS n.Kind+1)
def txv (l:List Node) (rs:List (List UInt8)) (e:Nat):List UInt8:=match l[e]? with
 | some n=>ndS l (fun k=>(rs[k.toNat]?).getD []) n
 | none=>[]
def txs (l:List Node):Nat→List (List UInt8)
 | 0=>[]
 | n+1=>txs l n++[txv l (txs l n) n]
theorem zjc (l:List Node):∀ n,(txs l n).length=n
 | 0=>rfl
 | n+1=>by rw[txs,List.length_append,zjc l n];rfl
def txS (l:List Node) (e:Nat):List UInt8:=txv l (txs l e) e
theorem zpG (l:List Node):∀ {n j:Nat},j < n→(txs l n)[j]?=some (txS l j)
 | 0,j,h=>absurd h (Nat.not_lt_zero _)
 | n+1,j,h=>by
  rw[txs]
  by_cases hj:j < n
  ·rw[List.getElem?_append_left (by rw[zjc];exact hj)]
   exact zpG l hj
  obtain rfl:j=n:=by omega
  rw[List.getElem?_append_right (by rw[zjc];omega),zjc,Nat.sub_self]
  rfl
structure NS (n:Node):Prop where
 num:I64 n.Num
 text:n.Text.length≤300
 parts:QB n.Parts
 kids:n.Kids.length≤100
theorem zkF {o o':Int→List UInt8}:∀ {ks:List Int},(∀ k ∈ ks,o k=o' k)→comG o ks=comG o' ks
 | [],_=>rfl
 | k::r,h=>by rw[comG,comG,h k (List.mem_cons_self ..),zkF fun q hq=>h q (List.mem_cons_of_mem _ hq)]
theorem zkg {o o':Int→List UInt8}:∀ {ks:List Int},(∀ k ∈ ks,o k=o' k)→comS o ks=comS o' ks
 | [],_=>rfl
 | k::r,h=>by rw[comS,comS,h k (List.mem_cons_self ..),zkF fun q hq=>h q (List.mem_cons_of_mem _ hq)]
theorem zdN {l:List Node} {o o':Int→List UInt8} {k:Int} (least:Int) (h:o k=o' k):wrS l o k least=wrS l o' k least:=by rw[wrS,wrS,h]
theorem zM {n:Node} {i:Nat} (h:i < n.Kids.length):kid n i ∈ n.Kids:=by
 rw[kid,List.getElem?_eq_getElem h]
 exact List.getElem_mem h
theorem zwc {n:Node} {i:Nat} (h:i < n.Kids.length):n.Kids[i]?=some (kid n i):=by
 rw[kid,List.getElem?_eq_getElem h]
 rfl
theorem zeK {n:Node} (h:zo n=true):1≤n.Kind∧n.Kind≤23∧(n.Kind≠5→n.Kind≠6→kdS n.Kind=n.Kids.length):=by
 simp only[zo,Bool.and_eq_true,Bool.or_eq_true,decide_eq_true_eq] at h
 have h1:=h.1
 unfold kdS at *
 repeat' first | omega | split at h1
theorem kd2 {n:Node} (h:zo n=true) (h10:10 < n.Kind):n.Kids.length=2:=by
 have h1:=zeK h
 have:=h1.2.2 (by omega) (by omega)
 rw[show kdS n.Kind=2 by unfold kdS;repeat' first | omega | split] at this
 omega
theorem kdk {n:Node} (h:zo n=true) (k:Int) (c:Nat) (hk:n.Kind=k) (hc:kdS k=c) (h5:k≠5) (h6:k≠6):n.Kids.length=c:=by
 have:=(zeK h).2.2 (by omega) (by omega)
 rw[hk,hc] at this
 omega
theorem zsT {l:List Node} {o o':Int→List UInt8} {n:Node} (hn:zo n=true) (h:∀ k ∈ n.Kids,o k=o' k):ndS l o n=ndS l o' n:=by
 rw[ndS,ndS]
 by_cases k1:n.Kind=1
 ·rw[if_pos k1,if_pos k1]
 rw[if_neg k1,if_neg k1]
 by_cases k2:n.Kind=2
 ·rw[if_pos k2,if_pos k2]
 rw[if_neg k2,if_neg k2]
 by_cases k3:n.Kind=3
 ·rw[if_pos k3,if_pos k3]
 rw[if_neg k3,if_neg k3]
 by_cases k4:n.Kind=4
 ·rw[if_pos k4,if_pos k4]
 rw[if_neg k4,if_neg k4]
 by_cases k5:n.Kind=5
 ·rw[if_pos k5,if_pos k5,zkg h]
 rw[if_neg k5,if_neg k5]
 by_cases k6:n.Kind=6
 ·rw[if_pos k6,if_pos k6,zkg h]
 rw[if_neg k6,if_neg k6]
 by_cases k7:n.Kind=7
 ·have hl:=kdk hn 7 2 k7 (by decide) (by decide) (by decide)
  rw[if_pos k7,if_pos k7,zdN 7 (h _ (zM (i:=0) (by omega))),h _ (zM (i:=1) (by omega))]
 rw[if_neg k7,if_neg k7]
 by_cases k8:n.Kind=8
 ·have hl:=kdk hn 8 1 k8 (by decide) (by decide) (by decide)
  rw[if_pos k8,if_pos k8,zdN 6 (h _ (zM (i:=0) (by omega)))]
 rw[if_neg k8,if_neg k8]
 by_cases k9:n.Kind=9
 ·have hl:=kdk hn 9 1 k9 (by decide) (by decide) (by decide)
  rw[if_pos k9,if_pos k9,zdN 6 (h _ (zM (i:=0) (by omega)))]
 rw[if_neg k9,if_neg k9]
 by_cases k10:n.Kind=10
 ·have hl:=kdk hn 10 3 k10 (by decide) (by decide) (by decide)
  rw[if_pos k10,if_pos k10,zdN 1 (h _ (zM (i:=0) (by omega))),h _ (zM (i:=1) (by omega)),h _ (zM (i:=2) (by omega))]
 rw[if_neg k10,if_neg k10]
 have h1:=zeK hn
 have hl:=kd2 hn (by omega)
 rw[zdN _ (h _ (zM (i:=0) (by omega))),zdN _ (h _ (zM (i:=1) (by omega)))]
theorem zzH {l:List Node} {e:Nat} (he:e < l.length) (hn:zo l[e]=true) (hk:∀ k ∈ l[e].Kids,0≤k∧k < (e:Int)):txS l e=ndS l (fun k=>txS l k.toNat) l[e]:=by
 unfold txS txv
 rw[List.getElem?_eq_getElem he]
 refine zsT hn fun k hk'=>?_
 have:=hk k hk'
 rw[zpG l (show k.toNat < e by omega)]
 rfl
def zbf (o:Int→List UInt8):List Int→Nat
 | []=>0
 | k::r=>(o k).length+zbf o r
theorem zjF (o:Int→List UInt8):∀ a b,zbf o (a++b)=zbf o a+zbf o b
 | [],b=>by simp[zbf]
 | k::a,b=>by rw[List.cons_append,zbf,zbf,zjF o a b];omega
theorem zh9 (o:Int→List UInt8):∀ a,zbf o a.reverse=zbf o a
 | []=>rfl
 | k::a=>by rw[List.reverse_cons,zjF,zh9 o a,zbf,zbf,zbf];omega
theorem znK (o:Int→List UInt8):∀ ks:List Int,(comG o ks).length=zbf o ks+2*ks.length
 | []=>rfl
 | k::r=>by
  have:=znK o r
  simp only[comG,zbf,List.length_append,List.length_cons,List.length_nil]
  omega
theorem zuk (o:Int→List UInt8):∀ ks:List Int,(comS o ks).length≤zbf o ks+2*ks.length
 | []=>Nat.le_refl _
 | k::r=>by
  have:=znK o r
  simp only[comS,zbf,List.length_append,List.length_cons,List.length_nil]
  omega
theorem zvT (l:List Node) (o:Int→List UInt8) (k least:Int):(wrS l o k least).length≤(o k).length+2:=by
 unfold wrS
 split
 ·simp only[List.length_append,List.length_cons,List.length_nil];omega
 omega
theorem ztE {n:Int} (h:I64 n):(Lib.itoa n).length≤30:=by
 have:=Lib.itoa_length_le n h.1 h.2
 omega
theorem zzD (b:Bool):(Lib.formatBool b).length≤5:=by cases b <;> decide
theorem zgS {n:Node}:∀ {c:Nat},n.Kids.length=c→n.Kids=(List.range c).map (kid n):=by
 intro c hc
 apply List.ext_getElem?
 intro i
 by_cases hi:i < c
 ·rw[zwc (by omega)]
  simp[hi]
 rw[List.getElem?_eq_none (by omega),List.getElem?_eq_none (by simp;omega)]
theorem zwn {l:List Node} {o:Int→List UInt8} {n:Node} (hn:zo n=true) (hs:NS n):(ndS l o n).length≤40000+zbf o n.Kids:=by
 have t1:=hs.text
 have t2:=zxp hs.parts
 have t3:=ztE hs.num
 have t4:=zzD (decide (n.Num=1))
 have t5:=zuk o n.Kids
 have t6:=hs.kids
 have w:=zvT l o
 have sg:=zxI n.Kind
 have h1:=zeK hn
 rw[ndS]
 by_cases k1:n.Kind=1
 ·rw[if_pos k1];omega
 rw[if_neg k1]
 by_cases k2:n.Kind=2
 ·rw[if_pos k2];omega
 rw[if_neg k2]
 by_cases k3:n.Kind=3
 ·rw[if_pos k3];omega
 rw[if_neg k3]
 by_cases k4:n.Kind=4
 ·rw[if_pos k4];omega
 rw[if_neg k4]
 by_cases k5:n.Kind=5
 ·rw[if_pos k5];simp only[List.length_append,List.length_cons,List.length_nil];omega
 rw[if_neg k5]
 by_cases k6:n.Kind=6
 ·rw[if_pos k6];simp only[List.length_append,List.length_cons,List.length_nil];omega
 rw[if_neg k6]
 by_cases k7:n.Kind=7
 ·have e:zbf o n.Kids=(o (kid n 0)).length+((o (kid n 1)).length+0):=by rw[zgS (kdk hn 7 2 k7 (by decide) (by decide) (by decide))];rfl
  have:=w (kid n 0) 7
  rw[if_pos k7];simp only[List.length_append,List.length_cons,List.length_nil];omega
 rw[if_neg k7]
 by_cases k8:n.Kind=8
 ·have e:zbf o n.Kids=(o (kid n 0)).length+0:=by rw[zgS (kdk hn 8 1 k8 (by decide) (by decide) (by decide))];rfl
  have:=w (kid n 0) 6
  rw[if_pos k8];simp only[List.length_append,List.length_cons,List.length_nil];omega
 rw[if_neg k8]
 by_cases k9:n.Kind=9
 ·have e:zbf o n.Kids=(o (kid n 0)).length+0:=by rw[zgS (kdk hn 9 1 k9 (by decide) (by decide) (by decide))];rfl
  have:=w (kid n 0) 6
  rw[if_pos k9];simp only[List.length_append,List.length_cons,List.length_nil];omega
 rw[if_neg k9]
 by_cases k10:n.Kind=10
 ·have e:zbf o n.Kids=(o (kid n 0)).length+((o (kid n 1)).length+((o (kid n 2)).length+0)):=by rw[zgS (kdk hn 10 3 k10 (by decide) (by decide) (by decide))];rfl
  have:=w (kid n 0) 1
  rw[if_pos k10];simp only[List.length_append,List.length_cons,List.length_nil];omega
 rw[if_neg k10]
 have e:zbf o n.Kids=(o (kid n 0)).length+((o (kid n 1)).length+0):=by rw[zgS (kd2 hn (by omega))];rfl
 generalize (if rkS n.Kind=3 then rkS n.Kind+1 else rkS n.Kind)=q
 have:=w (kid n 0) q
 have:=w (kid n 1) (rkS n.Kind+1)
 simp only[List.length_append,List.length_cons,List.length_nil];omega
theorem zkW (l:List Node):∀ (m i:Nat) (st:List Int),i+m=l.length→Ch l i st→stk i st (l.drop i)=true→∀ (e:Nat) (he:e < l.length),i≤e→zo l[e]=true∧∃ st,Ch l e st∧l[e].Kids.length≤st.length∧st.take l[e].Kids.length=l[e].Kids.reverse
 | 0,i,st,hi,hc,h,e,he,hie=>by omega
 | m+1,i,st,hi,hc,h,e,he,hie=>by
  have hlt:i < l.length:=by omega
  rw[List.drop_eq_getElem_cons hlt,stk] at h
  split at h
  ·rename_i hn
   obtain⟨h1,h2⟩:=hn
   have hk:l[i].Kids.length≤st.length:=by
    have:=congrArg List.length h2
    rw[List.length_take,List.length_reverse] at this
    omega
   by_cases hei:e=i
   ·subst hei
    exact⟨h1,st,hc,hk,h2⟩
   obtain⟨b,hb,hc'⟩:=zic l i st i l[i].Kids.length (Nat.le_refl _) hc hk
   rw[h2] at hb
   refine zkW l m (i+1) ((i:Int)::st.drop l[i].Kids.length) (by omega) ⟨by omega,by omega,b,?_,hc'⟩ h e he (by omega)
   rw[show i+1 - 1=i by omega,zjk l (List.getElem?_eq_getElem hlt),if_pos h1]
   exact hb
  cases h
theorem zlR (l:List Node) (e:Nat) (hf:∀ j < e,∃ b:Nat,zbS l j=b∧(txS l j).length+40000*b≤40000*(j+1)):∀ (st:List Int) (i k:Nat),i≤e→Ch l i st→k≤st.length→∃ b:Nat,b≤i∧Bk.run (fun k=>((zbt l e)[k.toNat]?).getD 0) i (st.take k)=b∧(∀ s ∈ st.take k,0≤s∧s < (i:Int))∧zbf (fun k=>txS l k.toNat) (st.take k)+40000*b≤40000*i
 | st,i,0,_,h,_=>⟨i,Nat.le_refl _,rfl,by simp,by simp[zbf]⟩
 | [],i,k+1,_,_,hk=>absurd hk (by simp)
 | s::st,i,k+1,hi,⟨h0,hs,b,hb,hc⟩,hk=>by
  have hle:=zft l (i - 1)
  obtain⟨b',h1,h2,h3,h4⟩:=zlR l e hf st b k (by omega) hc (by simpa using hk)
  obtain⟨b2,hb2,hl2⟩:=hf (i - 1) (by omega)
  have e1:s.toNat=i - 1:=by omega
  refine⟨b',by omega,?_,?_,?_⟩
  ·rw[List.take_succ_cons,Bk.run]
   have e2:((zbt l e)[s.toNat]?).getD 0=b:=by rw[e1,zeI l (show i - 1 < e by omega),Option.getD_some,hb]
   simp only[e2]
   rw[if_neg (by omega),if_neg (by omega)]
   exact h2
  ·intro q hq
   rw[List.take_succ_cons] at hq
   rcases List.mem_cons.1 hq with rfl | hq
   ·omega
   have:=h3 q hq;omega
  rw[List.take_succ_cons,zbf]
  simp only[e1]
  omega
theorem ztT {l:List Node} (ht:zbX l=true) (hn:∀ n ∈ l,NS n):∀ (e:Nat) (he:e < l.length),zo l[e]=true∧(∀ k ∈ l[e].Kids,0≤k∧k < (e:Int))∧∃ b:Nat,zbS l e=b∧(txS l e).length+40000*b≤40000*(e+1):=by
 have hst:=zkW l l.length 0 [] (by omega) rfl (by rw[List.drop_zero,←zhz];exact ht)
 intro e
 induction e using Nat.strongRecOn with
 | _ e ih =>
  intro he
  obtain⟨h1,st,h2,h3,h4⟩:=hst e he (Nat.zero_le _)
  obtain⟨b,b1,b2,b3,b4⟩:=zlR l e (fun j hj=>(ih j hj (by omega)).2.2) st e l[e].Kids.length (Nat.le_refl _) h2 h3
  rw[h4] at b2 b3 b4
  have hk:∀ k ∈ l[e].Kids,0≤k∧k < (e:Int):=fun k hk=>b3 k (List.mem_reverse.2 hk)
  refine⟨h1,hk,b,?_,?_⟩
  ·rw[zjk l (List.getElem?_eq_getElem he),if_pos h1]
   exact b2
  rw[zh9] at b4
  rw[zzH he h1 hk]
  have:=zwn (l:=l) (o:=fun k=>txS l k.toNat) h1 (hn _ (List.getElem_mem he))
  omega
structure TR (l:List Node):Prop where
 tree:zbX l=true
 ns:∀ n ∈ l,NS n
 len:l.length≤80
theorem TR.node {l:List Node} (h:TR l) (e:Nat) (he:e < l.length):zo l[e]=true∧(∀ k ∈ l[e].Kids,0≤k∧k < (e:Int))∧(txS l e).length≤3300000:=by
 obtain⟨h1,h2,b,h3,h4⟩:=ztT h.tree h.ns e he
 have:=h.len
 exact⟨h1,h2,by omega⟩
section
variable {l:List Node} {o:Int→List UInt8} {n:Node}
end
theorem zv1:Lib.formatBool true=[116,114,117,101]:=by decide
theorem zu1:Lib.formatBool false=[102,97,108,115,101]:=by decide
def σ (x:Token):Token:=⟨x.Kind,x.Text,x.Num,x.Parts,0⟩
def Quiet (r:Token):Prop:=r.Kind=0∨(r.Kind=4∧(r.Text=[125]∨r.Text=[41]))
inductive Exs (r:Token) (rest:List Token):List Token→List Token→Prop
 | nil (e:Token) (he:e.Kind=0):Exs r rest [e] (r::rest)
 | cons (x:Token) (ts ts':List Token) (hx:x.Kind≠0) (h:Exs r rest ts ts'):Exs r rest (x::ts) (x::ts')
def Fol {α:Type} (r:Token) (rest:List Token) (d d':Nat) (p q:PR α):Prop:=∀ a ts out,p=.ok a ts out→(∃ ts',q=.ok a ts' out∧Exs r rest ts ts')∨(d < d'∧q=.er 6)
section
variable {r:Token} {rest:List Token} {d d':Nat}
theorem Fol.ok {α:Type} {a:α} {ts ts':List Token} {out:List Node} (h:Exs r rest ts ts'):Fol r rest d d' (.ok a ts out) (.ok a ts' out):=by
 intro a1 ts1 out1 e
 cases e
 exact .inl ⟨ts',rfl,h⟩
theorem Fol.er {α:Type} {e:Int} {q:PR α}:Fol r rest d d' (.er e) q:=fun _ _ _ h=>by cases h
theorem Fol.no {α:Type} {q:PR α}:Fol r rest d d' .no q:=fun _ _ _ h=>by cases h
theorem Fol.bind {α β:Type} {p q:PR α} {f g:α→List Token→List Node→PR β} (hp:Fol r rest d d' p q) (h:∀ a ts out ts',Exs r rest ts ts'→Fol r rest d d' (f a ts out) (g a ts' out)):Fol r rest d d' (p.bind f) (q.bind g):=by
 cases p with
 | er e=>exact Fol.er
 | no=>exact Fol.no
 | ok a ts out =>
  rcases hp a ts out rfl with⟨ts',rfl,hx⟩ | ⟨h1,rfl⟩
  ·exact h a ts out ts' hx
  exact fun _ _ _ _=>.inr ⟨h1,rfl⟩
theorem Fol.up {α:Type} {p q:PR α} (h:Fol r rest (d+1) (d'+1) p q):Fol r rest d d' p q:=by
 intro a ts out e
 rcases h a ts out e with h | ⟨h1,h2⟩
 ·exact .inl h
 exact .inr ⟨by omega,h2⟩
theorem Exs.is1 {s:List UInt8} {ts ts':List Token} (h:Exs r rest ts ts') (hi:isS s ts=true):isS s ts'=true∧Exs r rest ts.tail ts'.tail:=by
 cases h with
 | nil e he=>simp[isS,he] at hi
 | cons x ts ts' hx h=>exact⟨hi,h⟩
theorem Fol.need {α:Type} {s:List UInt8} {ts ts':List Token} {k k':List Token→PR α} (h:Exs r rest ts ts') (hk:∀ ts ts',Exs r rest ts ts'→Fol r rest d d' (k ts) (k' ts')):Fol r rest d d' (zah s ts k) (zah s ts' k'):=by
 simp only[zah]
 by_cases hi:isS s ts=true
 ·obtain⟨h1,h2⟩:=h.is1 hi
  rw[if_pos hi,if_pos h1]
  exact hk _ _ h2
 rw[if_neg hi]
 exact Fol.er
theorem Fol.opn {α:Type} {s:List UInt8} {ts ts':List Token} {k k':List Token→PR α} (hd:d≤d') (h:Exs r rest ts ts') (hk:∀ ts ts',Exs r rest ts ts'→Fol r rest (d+1) (d'+1) (k ts) (k' ts')):Fol r rest d d' (zaq s d ts k) (zaq s d' ts' k'):=by
 simp only[zaq]
 by_cases hi:isS s ts=true
 ·obtain⟨h1,h2⟩:=h.is1 hi
  rw[if_pos hi,if_pos h1]
  by_cases h64:64≤d
  ·rw[if_pos h64];exact Fol.er
  rw[if_neg h64]
  by_cases h64':64≤d'
  ·rw[if_pos h64']
   exact fun _ _ _ _=>.inr ⟨by omega,rfl⟩
  rw[if_neg h64']
  exact (hk _ _ h2).up
 rw[if_neg hi]
 exact Fol.er
theorem Fol.ite {α:Type} {c:Prop} [Decidable c] {p p' q q':PR α} (h1:c→Fol r rest d d' p p') (h2:¬ c→Fol r rest d d' q q'):Fol r rest d d' (if c then p else q) (if c then p' else q'):=by
 split
 ·exact h1 ‹_›
 exact h2 ‹_›
theorem ztz {r:Token} (hq:Quiet r) (h4:r.Kind=4) (rank:Nat):opS rank r.Text=none:=by
 rcases hq with h | ⟨_,h⟩
 ·rw[h4] at h;exact absurd h (by decide)
 have:∀ s:List UInt8,s=[125]∨s=[41]→opS rank s=none:=by
  intro s hs
  unfold opS zH
  rcases hs with rfl | rfl <;> (split <;> simp[zae])
 exact this _ h
end
def NE {α:Type} (p:PR α):Prop:=∀ e,p=.er e→e=3∨e=5∨e=6
theorem NE.ok {α:Type} {a:α} {ts:List Token} {out:List Node}:NE (PR.ok a ts out):=fun _ h=>by cases h
theorem NE.no {α:Type}:NE (PR.no:PR α):=fun _ h=>by cases h
theorem NE.e3 {α:Type}:NE (PR.er 3:PR α):=fun _ h=>by cases h;exact .inl rfl
theorem NE.e5 {α:Type}:NE (PR.er 5:PR α):=fun _ h=>by cases h;exact .inr (.inl rfl)
theorem NE.e6 {α:Type}:NE (PR.er 6:PR α):=fun _ h=>by cases h;exact .inr (.inr rfl)
theorem NE.bind {α β:Type} {p:PR α} {f:α→List Token→List Node→PR β} (h:NE p) (hf:∀ a ts out,NE (f a ts out)):NE (p.bind f):=by
 cases p with
 | ok a ts out=>exact hf _ _ _
 | er e=>intro e' h';cases h';exact h _ rfl
 | no=>exact NE.no
theorem NE.ite {α:Type} {c:Prop} [Decidable c] {p q:PR α} (hp:NE p) (hq:NE q):NE (if c then p else q):=by split <;> assumption
theorem NE.need {α:Type} {s:List UInt8} {ts:List Token} {k:List Token→PR α} (h:∀ ts,NE (k ts)):NE (zah s ts k):=NE.ite (h _) NE.e5
theorem NE.opn {α:Type} {s:List UInt8} {d:Nat} {ts:List Token} {k:List Token→PR α} (h:∀ ts,NE (k ts)):NE (zaq s d ts k):=NE.ite (NE.ite NE.e6 (h _)) NE.e5
structure NeA (n:Nat):Prop where
 expr:∀ d ts out,NE (zu n d ts out)
 chain:∀ r d ts out,NE (zA n r d ts out)
 loop:∀ r d a ts out,NE (zam n r d a ts out)
 un:∀ d ts out,NE (unS n d ts out)
 post:∀ d ts out,NE (zaZ n d ts out)
 postl:∀ d a ts out,NE (zaP n d a ts out)
 many:∀ d e ts out,NE (zay n d e ts out)
 manyl:∀ d e l ts out,NE (zaG n d e l ts out)
 prim:∀ d ts out,NE (zaA n d ts out)
theorem neA:∀ n,NeA n
 | 0=>by refine⟨?_,?_,?_,?_,?_,?_,?_,?_,?_⟩ <;> intros <;> simp only[zu,zA,zam,unS,zaZ,zaP,zay,zaG,zaA] <;> exact NE.no
 | n+1=>by
  have ih:=neA n
  refine⟨fun d ts out=>?_,fun r d ts out=>?_,fun r d a ts out=>?_,fun d ts out=>?_,fun d ts out=>?_,fun d a ts out=>?_,fun d e ts out=>?_,fun d e l ts out=>?_,fun d ts out=>?_⟩
  ·simp only[zu]
   exact (ih.chain _ _ _ _).bind fun a ts out=>NE.ite (NE.opn fun ts=>(ih.expr _ _ _).bind fun b ts out=>NE.need fun ts=>(ih.expr _ _ _).bind fun c ts out=>NE.ok) NE.ok
  ·simp only[zA]
   exact NE.ite (ih.un _ _ _) ((ih.chain _ _ _ _).bind fun a ts out=>ih.loop _ _ _ _ _)
  ·cases ts with
   | nil=>simp only[zam];exact NE.no
   | cons t ts =>
    simp only[zam]
    refine NE.ite ?_ NE.ok
    split
    ·exact NE.ok
    exact (ih.chain _ _ _ _).bind fun b ts out=>NE.ite NE.ok (ih.loop _ _ _ _ _)
  ·simp only[unS]
   exact NE.ite (NE.opn fun ts=>(ih.un _ _ _).bind fun a ts out=>NE.ok) (NE.ite (NE.opn fun ts=>(ih.un _ _ _).bind fun a ts out=>NE.ok) (ih.post _ _ _))
  ·simp only[zaZ]
   exact (ih.prim _ _ _).bind fun a ts out=>ih.postl _ _ _ _
  ·simp only[zaP]
   exact NE.ite (NE.opn fun ts=>(ih.expr _ _ _).bind fun b ts out=>NE.need fun ts=>ih.postl _ _ _ _) NE.ok
  ·simp only[zay]
   exact NE.ite NE.ok ((ih.expr _ _ _).bind fun a ts out=>ih.manyl _ _ _ _ _)
  ·simp only[zaG]
   exact NE.ite ((ih.expr _ _ _).bind fun a ts out=>ih.manyl _ _ _ _ _) (NE.need fun ts=>NE.ok)
  cases ts with
  | nil=>simp only[zaA];exact NE.no
  | cons t ts =>
   simp only[zaA]
   refine NE.ite (NE.ite NE.ok (NE.ite NE.ok (NE.ite ?_ (NE.opn fun ts=>(ih.many _ _ _ _).bind fun l ts out=>NE.ok)))) (NE.ite NE.ok (NE.ite NE.ok (NE.ite (NE.opn fun ts=>(ih.many _ _ _ _).bind fun l ts out=>NE.ok) (NE.opn fun ts=>(ih.expr _ _ _).bind fun a ts out=>NE.need fun ts=>NE.ok))))
   split
   ·exact NE.no
   exact NE.ite NE.ok NE.e5
theorem NE.whole (N:Nat) (ts:List Token):NE (zbp N ts):=by
 have:=(neA N).expr 0 ts []
 simp only[zbp]
 cases h:zu N 0 ts [] with
 | ok a ts out=>exact NE.ok
 | er e=>intro e' h';cases h';exact this e h
 | no=>exact NE.no
theorem NE.exprT (L:List Token):NE (exprT L):=by
 refine (NE.whole _ _).bind fun a ts out=>?_
 split
 ·exact NE.no
 exact NE.ite NE.ok NE.e5
theorem NE.lab (lab:List UInt8→Bool) (ts:List Token):NE (zdK lab ts):=by
 cases ts with
 | nil=>exact NE.no
 | cons t ts =>
  simp only[zdK]
  refine NE.ite ?_ NE.e5
  split
  ·exact NE.ite NE.e5 (NE.ite NE.ok NE.e5)
  exact NE.e5
theorem NE.attrs (N:Nat):∀ (n:Nat) (acc:List Attr) (ts:List Token),NE (zaM N n acc ts)
 | 0,_,_=>NE.no
 | n+1,acc,[]=>NE.no
 | n+1,acc,t::ts=>NE.ite NE.ok (NE.ite (NE.ite NE.e3 (NE.need fun ts=>(NE.whole _ _).bind fun a ts out=>NE.attrs N n _ _)) NE.e5)
theorem NE.body (N:Nat) (ts:List Token):NE (zdm N ts):=NE.need fun ts=>NE.attrs N N [] ts
theorem NE.plain (lab:List UInt8→Bool) (N i:Nat) (ts:List Token):NE (zdg lab N i ts):=NE.ite ((NE.body _ _).bind fun a ts out=>NE.ok) ((NE.lab _ _).bind fun a ts out=>(NE.body _ _).bind fun a ts out=>NE.ok)
theorem NE.blkIn (lab:List UInt8→Bool) (N:Nat) (ts:List Token):NE (blkIn lab N ts):=by
 cases ts with
 | nil=>exact NE.no
 | cons t ts =>
  simp only[M.blkIn]
  refine NE.ite ?_ NE.e5
  split
  ·exact NE.e5
  exact NE.ite NE.e5 (NE.plain _ _ _ _)
theorem NE.blks (lab:List UInt8→Bool) (N:Nat):∀ (n:Nat) (acc:List Block) (ts:List Token),NE (zbW lab N n acc ts)
 | 0,_,_=>NE.no
 | n+1,acc,ts=>NE.ite NE.ok ((NE.blkIn _ _ _).bind fun a ts out=>NE.blks lab N n _ _)
theorem NE.blk (lab:List UInt8→Bool) (N:Nat) (ts:List Token):NE (zix lab N ts):=by
 cases ts with
 | nil=>exact NE.no
 | cons t ts =>
  simp only[zix]
  refine NE.ite ?_ NE.e5
  split
  ·exact NE.e5
  exact NE.ite ((NE.lab _ _).bind fun a ts out=>NE.need fun ts=>(NE.blks _ _ _ _ _).bind fun a ts out=>NE.ok) (NE.plain _ _ _ _)
theorem NE.conf (lab:List UInt8→Bool) (N:Nat):∀ (n:Nat) (acc:List Block) (ts:List Token),NE (zbL lab N n acc ts)
 | 0,_,_=>NE.no
 | n+1,acc,[]=>NE.no
 | n+1,acc,t::ts=>NE.ite NE.ok ((NE.blk _ _ _).bind fun a ts out=>NE.conf lab N n _ _)
def lpT:Token:=⟨4,[40],0,[],0⟩
def rpT:Token:=⟨4,[41],0,[],0⟩
theorem Quiet.isS {u:Token} (h:Quiet u) {s:List UInt8} (hs:s≠[125]∧s≠[41]) (rest:List Token):isS s (u::rest)=false:=by
 rw[←Bool.not_eq_true]
 simp only[M.isS,Bool.and_eq_true,decide_eq_true_eq]
 intro hf
 rcases h with h | ⟨_,h⟩
 ·rw[h] at hf;exact absurd hf.1 (by decide)
 rcases h with h | h <;> rw[h] at hf
 ·exact hs.1 hf.2.symm
 exact hs.2 hf.2.symm
theorem zpV {u:Token} (h:Quiet u) (n k d:Nat) (a:Int) (rest:List Token) (out:List Node):zam (n+1) k d a (u::rest) out=.ok a (u::rest) out:=by
 simp only[zam]
 by_cases h4:u.Kind=4
 ·rw[if_pos h4,ztz h h4]
 rw[if_neg h4]
def zbw {α:Type} (p:PR α) (a:α) (ts:List Token) (o:List Node):Prop:=p=.ok a ts o∨p=.er 6
theorem brk {u:Token} (hu:Quiet u) {N d:Nat} {T rest:List Token} {out o:List Node} {a:Int} (h:zbw (zu N (d+1) T out) a (rpT::u::rest) o):zbw (zu (N+10) d (lpT::T) out) a (u::rest) o:=by
 have hp:zbw (zaA (N+1) d (lpT::T) out) a (u::rest) o:=by
  have e:zaA (N+1) d (lpT::T) out=if 64≤d then .er 6 else (zu N (d+1) T out).bind fun a ts out=>zah [41] ts fun ts=>.ok a ts out:=by
   simp[zaA,lpT,M.isS,zaq]
  rw[e]
  by_cases hd:64≤d
  ·rw[if_pos hd];exact .inr rfl
  rw[if_neg hd]
  rcases h with h | h
  ·rw[h];exact .inl rfl
  rw[h];exact .inr rfl
 have hpo:zbw (zaZ (N+2) d (lpT::T) out) a (u::rest) o:=by
  simp only[zaZ]
  rcases hp with h | h
  ·rw[h]
   left
   simp only[PR.bind,zaP]
   rw[hu.isS (by decide)]
   rfl
  rw[h];exact .inr rfl
 have hun:zbw (unS (N+3) d (lpT::T) out) a (u::rest) o:=by
  have e:unS (N+3) d (lpT::T) out=zaZ (N+2) d (lpT::T) out:=by simp[unS,lpT,M.isS]
  rw[e]
  exact hpo
 have h5:zbw (zA (N+4) 5 d (lpT::T) out) a (u::rest) o:=by
  simp only[zA]
  exact hun
 have up:∀ m k,k≠5→zbw (zA (m+1) (k+1) d (lpT::T) out) a (u::rest) o→zbw (zA (m+2) k d (lpT::T) out) a (u::rest) o:=by
  intro m k hk h
  rw[zA,if_neg hk]
  rcases h with h | h
  ·rw[h]
   left
   simp only[PR.bind]
   exact zpV hu _ _ _ _ _ _
  rw[h];exact .inr rfl
 have h0:=up _ 0 (by decide) (up _ 1 (by decide) (up _ 2 (by decide) (up _ 3 (by decide) (up _ 4 (by decide) h5))))
 simp only[zu]
 rcases h0 with h | h
 ·rw[h]
  left
  simp only[PR.bind]
  rw[hu.isS (by decide)]
  rfl
 rw[h];exact .inr rfl
def tn (s:List UInt8):Token:=⟨3,s,0,[],0⟩
def tg (s:List UInt8):Token:=⟨4,s,0,[],0⟩
def zmS (z:Int):Token:=⟨1,[],z,[],0⟩
def znj (l:List Part):Token:=⟨2,[],0,l,0⟩
def wrK (l:List Node) (o:Int→List Token) (k least:Int):List Token:=if rkK l k < least then lpT::(o k++[rpT]) else o k
def tcG (o:Int→List Token):List Int→List Token
 | []=>[]
 | k::r=>tg [44]::(o k++tcG o r)
def tcS (o:Int→List Token):List Int→List Token
 | []=>[]
 | k::r=>o k++tcG o r
def zqH (s:List UInt8):List Token:=[tn (Lib.cut s [46]).1,tg [46],tn (Lib.cut s [46]).2.1]
def ndK (l:List Node) (o:Int→List Token) (n:Node):List Token :=
 if n.Kind=1 then [zmS n.Num]
 else if n.Kind=2 then [znj n.Parts]
 else if n.Kind=3 then [tn (Lib.formatBool (decide (n.Num=1)))]
 else if n.Kind=4 then zqH n.Text
 else if n.Kind=5 then tn n.Text::lpT::(tcS o n.Kids++[rpT])
 else if n.Kind=6 then tg [91]::(tcS o n.Kids++[tg [93]])
 else if n.Kind=7 then wrK l o (kid n 0) 7++tg [91]::(o (kid n 1)++[tg [93]])
 else if n.Kind=8 then tg [33]::wrK l o (kid n 0) 6
 else if n.Kind=9 then tg [45]::wrK l o (kid n 0) 6
 else if n.Kind=10 then wrK l o (kid n 0) 1++tg [63]::(o (kid n 1)++tg [58]::o (kid n 2))
 else wrK l o (kid n 0) (if rkS n.Kind=3 then rkS n.Kind+1 else rkS n.Kind)++tg (zhx n.Kind)::wrK l o (kid n 1) (rkS n.Kind+1)
def tkv (l:List Node) (rs:List (List Token)) (e:Nat):List Token:=match l[e]? with
 | some n=>ndK l (fun k=>(rs[k.toNat]?).getD []) n
 | none=>[]
def tks (l:List Node):Nat→List (List Token)
 | 0=>[]
 | n+1=>tks l n++[tkv l (tks l n) n]
theorem ziY (l:List Node):∀ n,(tks l n).length=n
 | 0=>rfl
 | n+1=>by rw[tks,List.length_append,ziY l n];rfl
def tkS (l:List Node) (e:Nat):List Token:=tkv l (tks l e) e
theorem zpq (l:List Node):∀ {n j:Nat},j < n→(tks l n)[j]?=some (tkS l j)
 | 0,j,h=>absurd h (Nat.not_lt_zero _)
 | n+1,j,h=>by
  rw[tks]
  by_cases hj:j < n
  ·rw[List.getElem?_append_left (by rw[ziY];exact hj)]
   exact zpq l hj
  obtain rfl:j=n:=by omega
  rw[List.getElem?_append_right (by rw[ziY];omega),ziY,Nat.sub_self]
  rfl
theorem zmh {o o':Int→List Token}:∀ {ks:List Int},(∀ k ∈ ks,o k=o' k)→tcG o ks=tcG o' ks
 | [],_=>rfl
 | k::r,h=>by rw[tcG,tcG,h k (List.mem_cons_self ..),zmh fun q hq=>h q (List.mem_cons_of_mem _ hq)]
theorem zeY {o o':Int→List Token}:∀ {ks:List Int},(∀ k ∈ ks,o k=o' k)→tcS o ks=tcS o' ks
 | [],_=>rfl
 | k::r,h=>by rw[tcS,tcS,h k (List.mem_cons_self ..),zmh fun q hq=>h q (List.mem_cons_of_mem _ hq)]
theorem zdT {l:List Node} {o o':Int→List Token} {k:Int} (least:Int) (h:o k=o' k):wrK l o k least=wrK l o' k least:=by rw[wrK,wrK,h]
theorem zr2 {l:List Node} {o o':Int→List Token} {n:Node} (hn:zo n=true) (h:∀ k ∈ n.Kids,o k=o' k):ndK l o n=ndK l o' n:=by
 rw[ndK,ndK]
 by_cases k1:n.Kind=1
 ·rw[if_pos k1,if_pos k1]
 rw[if_neg k1,if_neg k1]
 by_cases k2:n.Kind=2
 ·rw[if_pos k2,if_pos k2]
 rw[if_neg k2,if_neg k2]
 by_cases k3:n.Kind=3
 ·rw[if_pos k3,if_pos k3]
 rw[if_neg k3,if_neg k3]
 by_cases k4:n.Kind=4
 ·rw[if_pos k4,if_pos k4]
 rw[if_neg k4,if_neg k4]
 by_cases k5:n.Kind=5
 ·rw[if_pos k5,if_pos k5,zeY h]
 rw[if_neg k5,if_neg k5]
 by_cases k6:n.Kind=6
 ·rw[if_pos k6,if_pos k6,zeY h]
 rw[if_neg k6,if_neg k6]
 by_cases k7:n.Kind=7
 ·have hl:=kdk hn 7 2 k7 (by decide) (by decide) (by decide)
  rw[if_pos k7,if_pos k7,zdT 7 (h _ (zM (i:=0) (by omega))),h _ (zM (i:=1) (by omega))]
 rw[if_neg k7,if_neg k7]
 by_cases k8:n.Kind=8
 ·have hl:=kdk hn 8 1 k8 (by decide) (by decide) (by decide)
  rw[if_pos k8,if_pos k8,zdT 6 (h _ (zM (i:=0) (by omega)))]
 rw[if_neg k8,if_neg k8]
 by_cases k9:n.Kind=9
 ·have hl:=kdk hn 9 1 k9 (by decide) (by decide) (by decide)
  rw[if_pos k9,if_pos k9,zdT 6 (h _ (zM (i:=0) (by omega)))]
 rw[if_neg k9,if_neg k9]
 by_cases k10:n.Kind=10
 ·have hl:=kdk hn 10 3 k10 (by decide) (by decide) (by decide)
  rw[if_pos k10,if_pos k10,zdT 1 (h _ (zM (i:=0) (by omega))),h _ (zM (i:=1) (by omega)),h _ (zM (i:=2) (by omega))]
 rw[if_neg k10,if_neg k10]
 have h1:=zeK hn
 have hl:=kd2 hn (by omega)
 rw[zdT _ (h _ (zM (i:=0) (by omega))),zdT _ (h _ (zM (i:=1) (by omega)))]
theorem zmY {l:List Node} {e:Nat} (he:e < l.length) (hn:zo l[e]=true) (hk:∀ k ∈ l[e].Kids,0≤k∧k < (e:Int)):tkS l e=ndK l (fun k=>tkS l k.toNat) l[e]:=by
 unfold tkS tkv
 rw[List.getElem?_eq_getElem he]
 refine zr2 hn fun k hk'=>?_
 have:=hk k hk'
 rw[zpq l (show k.toNat < e by omega)]
 rfl
theorem zrT {α β:Type} {p:PR α} {f:α→List Token→List Node→PR β} {a:α} {ts:List Token} {o:List Node} {b:β} {ts':List Token} {o':List Node} (h:zbw p a ts o) (hf:zbw (f a ts o) b ts' o'):zbw (p.bind f) b ts' o':=by
 rcases h with h | h
 ·rw[h];exact hf
 rw[h];exact .inr rfl
def Stop (r:Nat) (u:Token):Prop:=(∀ k,r < k→k≤4→u.Kind=4→opS k u.Text=none)∧∀ rest,isS [91] (u::rest)=false
theorem zr7 {r:Nat} {u:Token} (h:u.Kind=4→opS r u.Text=none) (n d:Nat) (a:Int) (rest:List Token) (out:List Node):zam (n+1) r d a (u::rest) out=.ok a (u::rest) out:=by
 simp only[zam]
 by_cases h4:u.Kind=4
 ·rw[if_pos h4,h h4]
 rw[if_neg h4]
def eqOr {α:Type} (p q:PR α):Prop:=p=q∨p=.er 6
theorem zqN {d r m:Nat} (hr:r < 5) {T X:List Token} {out o:List Node} {a:Int} (h:zbw (zA m (r+1) d T out) a X o):eqOr (zA (m+1) r d T out) (zam m r d a X o):=by
 rw[zA,if_neg (by omega)]
 rcases h with h | h
 ·rw[h];exact .inl rfl
 rw[h];exact .inr rfl
theorem eqOr.trans {α:Type} {p q r:PR α} (h:eqOr p q) (h':eqOr q r):eqOr p r:=by
 rcases h with h | h
 ·rw[h];exact h'
 exact .inr h
theorem eqOr.ok {α:Type} {p q:PR α} {a:α} {ts:List Token} {o:List Node} (h:eqOr p q) (h':zbw q a ts o):zbw p a ts o:=by
 rcases h with h | h
 ·rw[h];exact h'
 exact .inr h
def begN (l:List Node) (k:Int):Nat:=(zbS l k.toNat).toNat
def OB (l:List Node) (k:Int):List Node:=l.take (begN l k)
def OA (l:List Node) (k:Int):List Node:=l.take (k.toNat+1)
def szN (l:List Node) (k:Int):Nat:=k.toNat+1 - begN l k
def FU (l:List Node) (k:Int):Nat:=20*szN l k+20
def tkI (l:List Node) (k:Int):List Token:=tkS l k.toNat
def zey (u:Token):Prop:=∀ rest,isS [91] (u::rest)=false
def NoIf (u:Token):Prop:=∀ rest,isS [63] (u::rest)=false
def NoOp (r:Nat) (u:Token):Prop:=∀ k,r≤k→k≤4→u.Kind=4→opS k u.Text=none
theorem NoOp.mono {r r':Nat} {u:Token} (h:NoOp r u) (hr:r≤r'):NoOp r' u:=fun k h1 h2 h3=>h k (by omega) h2 h3
structure PE (l:List Node) (k:Int):Prop where
 ex:∀ n d u rest,FU l k≤n→NoOp 0 u→zey u→NoIf u→zbw (zu n d (tkI l k++u::rest) (OB l k)) k (u::rest) (OA l k)
 cv:∀ r:Nat,r≤5→(r:Int) < rkK l k→∀ n d u rest,FU l k≤n+1+r→NoOp r u→zey u→zbw (zA n r d (tkI l k++u::rest) (OB l k)) k (u::rest) (OA l k)
 lp:∀ r:Nat,r < 5→r≠2→(r:Int) < rkK l k→∀ n d u rest,FU l k≤n+1+r→NoOp (r+1) u→zey u→∃ n',n≤n'+szN l k∧eqOr (zA n r d (tkI l k++u::rest) (OB l k)) (zam n' r d k (u::rest) (OA l k))
 un:6≤rkK l k→∀ n d u rest,FU l k≤n+7→zey u→zbw (unS n d (tkI l k++u::rest) (OB l k)) k (u::rest) (OA l k)
 po:7≤rkK l k→∀ n d X,FU l k≤n+8→X≠[]→∃ n',n≤n'+szN l k+1∧eqOr (zaZ n d (tkI l k++X) (OB l k)) (zaP n' d k X (OA l k))
 sz:0 < szN l k
section
variable {l:List Node} {k:Int} (p:PE l k)
include p
end
theorem zvC {l:List Node} {k:Int} {q:Nat} (hq:q≤5) (h:∀ n d u rest,FU l k≤n+1+q→NoOp q u→zey u→zbw (zA n q d (tkI l k++u::rest) (OB l k)) k (u::rest) (OA l k)):∀ (w r:Nat),r+w=q→∀ n d u rest,FU l k≤n+1+r→NoOp r u→zey u→zbw (zA n r d (tkI l k++u::rest) (OB l k)) k (u::rest) (OA l k)
 | 0,r,hr,n,d,u,rest,hn,ho,hu=>by
  obtain rfl:r=q:=by omega
  exact h n d u rest hn ho hu
 | w+1,r,hr,n,d,u,rest,hn,ho,hu=>by
  have hf:20≤FU l k:=by unfold FU;omega
  obtain⟨m,rfl⟩:∃ m,n=m+2:=⟨n - 2,by omega⟩
  have:=zvC hq h w (r+1) (by omega) (m+1) d u rest (by omega) (ho.mono (by omega)) hu
  rw[zA,if_neg (by omega)]
  rcases this with h | h
  ·rw[h]
   left
   simp only[PR.bind]
   exact zr7 (ho r (Nat.le_refl _) (by omega)) _ _ _ _ _
  rw[h];exact .inr rfl
theorem ziC {n:Node} (h:zo n=true):plS n=true:=by
 simp only[zo,Bool.and_eq_true] at h
 exact h.2
theorem zon {n m:Node} (h1:n.Kind=m.Kind) (h2:n.Num=m.Num) (h3:n.Text=m.Text) (h4:n.Parts=m.Parts) (h5:n.Kids=m.Kids):n=m:=by
 cases n;cases m;simp_all
theorem zz9 {n:Node} (h:zo n=true) (h4:n.Kind≤4):n.Kids=[]:=by
 have h1:=zeK h
 have:=h1.2.2 (by omega) (by omega)
 rw[show kdS n.Kind=0 by unfold kdS;repeat' first | omega | split] at this
 exact List.length_eq_zero_iff.1 (by omega)
theorem zAq {n:Node} (h:zo n=true) (k:n.Kind=4):zU n.Text=true∧zcp (Lib.cut n.Text [46]).1=false∧n=nd 4 n.Text []:=by
 have hp:=ziC h
 rw[plS,if_neg (by omega),if_neg (by omega),if_pos k] at hp
 simp only[Bool.and_eq_true,decide_eq_true_eq,Bool.not_eq_true'] at hp
 exact⟨hp.1.1.1,hp.1.2,zon k hp.1.1.2 rfl hp.2 (zz9 h (by omega))⟩
theorem zAj {n:Node} (h:zo n=true) (k:n.Kind=5):zab n.Text=true∧zcp n.Text=false∧n=nd 5 n.Text n.Kids:=by
 have hp:=ziC h
 rw[plS,if_neg (by omega),if_neg (by omega),if_neg (by omega),if_pos k] at hp
 simp only[Bool.and_eq_true,decide_eq_true_eq,Bool.not_eq_true'] at hp
 exact⟨hp.1.1.1,hp.1.2,zon k hp.1.1.2 rfl hp.2 rfl⟩
def HdOk (s:List (List UInt8)) (T:List Token):Prop:=∃ t r,T=t::r∧(t.Kind≠4∨t.Text ∈ s)
theorem HdOk.isS {s:List (List UInt8)} {T:List Token} (h:HdOk s T) {x:List UInt8} (hx:x ∉ s) (X:List Token):isS x (T++X)=false:=by
 obtain⟨t,r,rfl,h⟩:=h
 rw[←Bool.not_eq_true]
 simp only[List.cons_append,M.isS,Bool.and_eq_true,decide_eq_true_eq]
 rintro ⟨h4,ht⟩
 rcases h with h | h
 ·exact h h4
 exact hx (ht ▸ h)
theorem HdOk.app {s:List (List UInt8)} {T:List Token} (h:HdOk s T) (X:List Token):HdOk s (T++X):=by
 obtain⟨t,r,rfl,h⟩:=h
 exact⟨t,r++X,rfl,h⟩
theorem HdOk.mono {s s':List (List UInt8)} {T:List Token} (h:HdOk s T) (hs:∀ x ∈ s,x ∈ s'):HdOk s' T:=by
 obtain⟨t,r,e,h⟩:=h
 exact⟨t,r,e,h.imp id (hs _)⟩
theorem PE.of {l:List Node} {k:Int} {q:Nat} (hq:q≤5) (hmax:∀ r:Nat,r≤5→(r:Int) < rkK l k→r≤q) (sz:0 < szN l k)
  (cvq:∀ n d u rest,FU l k≤n+1+q→NoOp q u→zey u→zbw (zA n q d (tkI l k++u::rest) (OB l k)) k (u::rest) (OA l k))
  (lpq:q < 5→q≠2→∀ n d u rest,FU l k≤n+1+q→NoOp (q+1) u→zey u→∃ n',n≤n'+szN l k∧eqOr (zA n q d (tkI l k++u::rest) (OB l k)) (zam n' q d k (u::rest) (OA l k)))
  (un:6≤rkK l k→∀ n d u rest,FU l k≤n+7→zey u→zbw (unS n d (tkI l k++u::rest) (OB l k)) k (u::rest) (OA l k))
  (po:7≤rkK l k→∀ n d X,FU l k≤n+8→X≠[]→∃ n',n≤n'+szN l k+1∧eqOr (zaZ n d (tkI l k++X) (OB l k)) (zaP n' d k X (OA l k))):PE l k:=by
 have cl:∀ r,r≤q→∀ n d u rest,FU l k≤n+1+r→NoOp r u→zey u→zbw (zA n r d (tkI l k++u::rest) (OB l k)) k (u::rest) (OA l k):=fun r hr=>zvC hq cvq (q - r) r (by omega)
 have hf:20≤FU l k:=by unfold FU;omega
 refine⟨fun n d u rest hn ho hu hi=>?_,fun r hr hrk=>cl r (hmax r hr hrk),fun r hr h2 hrk n d u rest hn ho hu=>?_,un,po,sz⟩
 ·obtain⟨m,rfl⟩:∃ m,n=m+1:=⟨n - 1,by omega⟩
  rw[zu]
  refine zrT (cl 0 (by omega) m d u rest (by omega) ho hu) ?_
  rw[hi rest,if_neg (by decide)]
  exact .inl rfl
 have hrq:=hmax r (by omega) hrk
 by_cases e:r=q
 ·subst e
  exact lpq hr h2 n d u rest hn ho hu
 obtain⟨m,rfl⟩:∃ m,n=m+1:=⟨n - 1,by omega⟩
 exact⟨m,by omega,zqN hr (cl (r+1) (by omega) m d u rest (by omega) ho hu)⟩
section
variable {l:List Node} {o:Int→List Token} {n:Node}
theorem nk1 (h:n.Kind=1):ndK l o n=[zmS n.Num]:=by rw[ndK,if_pos h]
theorem nk2 (h:n.Kind=2):ndK l o n=[znj n.Parts]:=by rw[ndK,if_neg (by omega),if_pos h]
theorem nk3 (h:n.Kind=3):ndK l o n=[tn (Lib.formatBool (decide (n.Num=1)))]:=by rw[ndK,if_neg (by omega),if_neg (by omega),if_pos h]
theorem nk4 (h:n.Kind=4):ndK l o n=zqH n.Text:=by rw[ndK,if_neg (by omega),if_neg (by omega),if_neg (by omega),if_pos h]
theorem nk5 (h:n.Kind=5):ndK l o n=tn n.Text::lpT::(tcS o n.Kids++[rpT]):=by rw[ndK,if_neg (by omega),if_neg (by omega),if_neg (by omega),if_neg (by omega),if_pos h]
theorem nk6 (h:n.Kind=6):ndK l o n=tg [91]::(tcS o n.Kids++[tg [93]]):=by rw[ndK,if_neg (by omega),if_neg (by omega),if_neg (by omega),if_neg (by omega),if_neg (by omega),if_pos h]
theorem nk7 (h:n.Kind=7):ndK l o n=wrK l o (kid n 0) 7++tg [91]::(o (kid n 1)++[tg [93]]):=by rw[ndK,if_neg (by omega),if_neg (by omega),if_neg (by omega),if_neg (by omega),if_neg (by omega),if_neg (by omega),if_pos h]
theorem nk8 (h:n.Kind=8):ndK l o n=tg [33]::wrK l o (kid n 0) 6:=by rw[ndK,if_neg (by omega),if_neg (by omega),if_neg (by omega),if_neg (by omega),if_neg (by omega),if_neg (by omega),if_neg (by omega),if_pos h]
theorem nk9 (h:n.Kind=9):ndK l o n=tg [45]::wrK l o (kid n 0) 6:=by rw[ndK,if_neg (by omega),if_neg (by omega),if_neg (by omega),if_neg (by omega),if_neg (by omega),if_neg (by omega),if_neg (by omega),if_neg (by omega),if_pos h]
theorem zu4 (h:n.Kind=10):ndK l o n=wrK l o (kid n 0) 1++tg [63]::(o (kid n 1)++tg [58]::o (kid n 2)):=by rw[ndK,if_neg (by omega),if_neg (by omega),if_neg (by omega),if_neg (by omega),if_neg (by omega),if_neg (by omega),if_neg (by omega),if_neg (by omega),if_neg (by omega),if_pos h]
theorem ztD (h:10 < n.Kind):ndK l o n=wrK l o (kid n 0) (if rkS n.Kind=3 then rkS n.Kind+1 else rkS n.Kind)++tg (zhx n.Kind)::wrK l o (kid n 1) (rkS n.Kind+1):=by rw[ndK,if_neg (by omega),if_neg (by omega),if_neg (by omega),if_neg (by omega),if_neg (by omega),if_neg (by omega),if_neg (by omega),if_neg (by omega),if_neg (by omega),if_neg (by omega)]
end
def WF (l:List Node):Prop:=∀ (e:Nat) (n:Node),l[e]?=some n→zo n=true∧∀ k ∈ n.Kids,0≤k∧k < (e:Int)
theorem WF.nil:WF []:=fun e n h=>by simp at h
theorem WF.snoc {l:List Node} (h:WF l) {n:Node} (hn:zo n=true) (hk:∀ k ∈ n.Kids,0≤k∧k < (l.length:Int)):WF (l++[n]):=fun e m he=>by
 by_cases h1:e < l.length
 ·rw[List.getElem?_append_left h1] at he
  exact h e m he
 rw[List.getElem?_append_right (by omega)] at he
 by_cases h2:e=l.length
 ·subst h2
  simp only[Nat.sub_self,List.getElem?_cons_zero,Option.some.injEq] at he
  subst he
  exact⟨hn,hk⟩
 rw[List.getElem?_eq_none (by simp;omega)] at he
 cases he
theorem WF.tk {l:List Node} (h:WF l) {k:Int} (h0:0≤k) (h1:k < (l.length:Int)):∃ n,l[k.toNat]?=some n∧zo n=true∧(∀ q ∈ n.Kids,0≤q∧q < k)∧tkI l k=ndK l (tkI l) n∧rkK l k=rkS n.Kind:=by
 have hlt:k.toNat < l.length:=by omega
 obtain⟨a,b⟩:=h k.toNat _ (List.getElem?_eq_getElem hlt)
 refine⟨l[k.toNat],List.getElem?_eq_getElem hlt,a,fun q hq=>⟨(b q hq).1,by have:=(b q hq).2;omega⟩,?_,?_⟩
 ·have:=zmY hlt a b
  exact this
 unfold rkK
 rw[List.getElem?_eq_getElem hlt]
theorem zfv {l z:List Node} {k:Int} (h0:0≤k) (h1:k < (l.length:Int)):rkK (l++z) k=rkK l k:=by
 unfold rkK
 rw[List.getElem?_append_left (by omega)]
theorem zsG {l l':List Node} {o o':Int→List Token} {k least:Int} (h1:rkK l k=rkK l' k) (h2:o k=o' k):wrK l o k least=wrK l' o' k least:=by rw[wrK,wrK,h1,h2]
theorem zsv {l l':List Node} {o o':Int→List Token} {n:Node} (hn:zo n=true) (hr:∀ k ∈ n.Kids,rkK l k=rkK l' k) (ho:∀ k ∈ n.Kids,o k=o' k):ndK l o n=ndK l' o' n:=by
 have w:∀ (i:Nat) least,i < n.Kids.length→wrK l o (kid n i) least=wrK l' o' (kid n i) least:=fun i least hi=>zsG (hr _ (zM hi)) (ho _ (zM hi))
 have hkl:=zeK hn
 by_cases k1:n.Kind=1
 ·rw[nk1 k1,nk1 k1]
 by_cases k2:n.Kind=2
 ·rw[nk2 k2,nk2 k2]
 by_cases k3:n.Kind=3
 ·rw[nk3 k3,nk3 k3]
 by_cases k4:n.Kind=4
 ·rw[nk4 k4,nk4 k4]
 by_cases k5:n.Kind=5
 ·rw[nk5 k5,nk5 k5,zeY ho]
 by_cases k6:n.Kind=6
 ·rw[nk6 k6,nk6 k6,zeY ho]
 by_cases k7:n.Kind=7
 ·have hl:=kdk hn 7 2 k7 (by decide) (by decide) (by decide)
  rw[nk7 k7,nk7 k7,w 0 _ (by omega),ho _ (zM (i:=1) (by omega))]
 by_cases k8:n.Kind=8
 ·have hl:=kdk hn 8 1 k8 (by decide) (by decide) (by decide)
  rw[nk8 k8,nk8 k8,w 0 _ (by omega)]
 by_cases k9:n.Kind=9
 ·have hl:=kdk hn 9 1 k9 (by decide) (by decide) (by decide)
  rw[nk9 k9,nk9 k9,w 0 _ (by omega)]
 by_cases k10:n.Kind=10
 ·have hl:=kdk hn 10 3 k10 (by decide) (by decide) (by decide)
  rw[zu4 k10,zu4 k10,w 0 _ (by omega),ho _ (zM (i:=1) (by omega)),ho _ (zM (i:=2) (by omega))]
 have hl:=kd2 hn (by omega)
 rw[ztD (by omega),ztD (by omega),w 0 _ (by omega),w 1 _ (by omega)]
theorem zxH {l:List Node} (h:WF l) (z:List Node):∀ (e:Nat),e < l.length→tkI (l++z) (e:Int)=tkI l (e:Int):=by
 intro e
 induction e using Nat.strongRecOn with
 | _ e ih =>
  intro he
  obtain⟨a,b⟩:=h e _ (List.getElem?_eq_getElem he)
  have h1:tkI l (e:Int)=ndK l (tkI l) l[e]:=zmY he a b
  have hg:(l++z)[e]'(by rw[List.length_append];omega)=l[e]:=List.getElem_append_left he
  have h2:tkI (l++z) (e:Int)=ndK (l++z) (tkI (l++z)) l[e]:=by
   have:=zmY (l:=l++z) (e:=e) (by rw[List.length_append];omega) (by rw[hg];exact a) (by rw[hg];exact b)
   rw[hg] at this
   exact this
  rw[h1,h2]
  refine zsv a (fun k hk=>?_) (fun k hk=>?_)
  ·have:=b k hk
   exact zfv this.1 (by omega)
  have:=b k hk
  have:=ih k.toNat (by omega) (by omega)
  rwa [show ((k.toNat:Nat):Int)=k by omega] at this
theorem zjK {l:List Node} (h:WF l) (z:List Node) {k:Int} (h0:0≤k) (h1:k < (l.length:Int)):tkI (l++z) k=tkI l k:=by
 have:=zxH h z k.toNat (by omega)
 rwa [show ((k.toNat:Nat):Int)=k by omega] at this
theorem zwk {l:List Node} (h:WF l) (z:List Node) {k:Int} (h0:0≤k) (h1:k < (l.length:Int)) (least:Int):wrK (l++z) (tkI (l++z)) k least=wrK l (tkI l) k least:=zsG (zfv h0 h1) (zjK h z h0 h1)
theorem zwq {l:List Node} (h:WF l) (z:List Node) {ks:List Int} (hk:∀ k ∈ ks,0≤k∧k < (l.length:Int)):tcS (tkI (l++z)) ks=tcS (tkI l) ks:=zeY fun k hk'=>zjK h z (hk k hk').1 (hk k hk').2
theorem zzB {l:List Node} (h:WF l) {n:Node} (hn:zo n=true) (hk:∀ k ∈ n.Kids,0≤k∧k < (l.length:Int)):tkI (l++[n]) ((l.length:Nat):Int)=ndK l (tkI l) n∧rkK (l++[n]) ((l.length:Nat):Int)=rkS n.Kind:=by
 have hw:=h.snoc hn hk
 obtain⟨m,h1,h2,h3,h4,h5⟩:=hw.tk (k:=((l.length:Nat):Int)) (by omega) (by rw[List.length_append];simp;omega)
 rw[Int.toNat_natCast,List.getElem?_append_right (Nat.le_refl _),Nat.sub_self] at h1
 obtain rfl:n=m:=by simpa using h1
 refine⟨?_,h5⟩
 rw[h4]
 exact zsv hn (fun k hk'=>zfv (hk k hk').1 (hk k hk').2) (fun k hk'=>zjK h _ (hk k hk').1 (hk k hk').2)
def zaV (o:Int→Nat):List Int→Nat
 | []=>0
 | k::r=>max (o k) (zaV o r)
theorem zhp {o o':Int→Nat}:∀ {ks:List Int},(∀ k ∈ ks,o k=o' k)→zaV o ks=zaV o' ks
 | [],_=>rfl
 | k::r,h=>by rw[zaV,zaV,h k (List.mem_cons_self ..),zhp fun q hq=>h q (List.mem_cons_of_mem _ hq)]
theorem zol (o:Int→Nat):∀ (a b:List Int),zaV o (a++b)=max (zaV o a) (zaV o b)
 | [],b=>by simp[zaV]
 | k::a,b=>by rw[List.cons_append,zaV,zaV,zol o a b];omega
def wrE (l:List Node) (o:Int→Nat) (k least:Int):Nat:=if rkK l k < least then 1+o k else o k
def ndE (l:List Node) (o:Int→Nat) (n:Node):Nat :=
 if n.Kind≤4 then 0
 else if n.Kind≤6 then 1+zaV o n.Kids
 else if n.Kind=7 then max (wrE l o (kid n 0) 7) (1+o (kid n 1))
 else if n.Kind≤9 then 1+wrE l o (kid n 0) 6
 else if n.Kind=10 then max (wrE l o (kid n 0) 1) (1+max (o (kid n 1)) (o (kid n 2)))
 else max (wrE l o (kid n 0) (if rkS n.Kind=3 then rkS n.Kind+1 else rkS n.Kind)) (wrE l o (kid n 1) (rkS n.Kind+1))
section
variable {l:List Node} {o:Int→Nat} {n:Node}
theorem ne4 (h:n.Kind≤4):ndE l o n=0:=by rw[ndE,if_pos h]
theorem ne5 (h:n.Kind=5∨n.Kind=6):ndE l o n=1+zaV o n.Kids:=by rw[ndE,if_neg (by omega),if_pos (by omega)]
theorem ne7 (h:n.Kind=7):ndE l o n=max (wrE l o (kid n 0) 7) (1+o (kid n 1)):=by rw[ndE,if_neg (by omega),if_neg (by omega),if_pos h]
theorem ne8 (h:n.Kind=8∨n.Kind=9):ndE l o n=1+wrE l o (kid n 0) 6:=by rw[ndE,if_neg (by omega),if_neg (by omega),if_neg (by omega),if_pos (by omega)]
theorem zuc (h:n.Kind=10):ndE l o n=max (wrE l o (kid n 0) 1) (1+max (o (kid n 1)) (o (kid n 2))):=by rw[ndE,if_neg (by omega),if_neg (by omega),if_neg (by omega),if_neg (by omega),if_pos h]
theorem zus (h:10 < n.Kind):ndE l o n=max (wrE l o (kid n 0) (if rkS n.Kind=3 then rkS n.Kind+1 else rkS n.Kind)) (wrE l o (kid n 1) (rkS n.Kind+1)):=by rw[ndE,if_neg (by omega),if_neg (by omega),if_neg (by omega),if_neg (by omega),if_neg (by omega)]
end
def env (l:List Node) (rs:List Nat) (e:Nat):Nat:=match l[e]? with
 | some n=>ndE l (fun k=>(rs[k.toNat]?).getD 0) n
 | none=>0
def ens (l:List Node):Nat→List Nat
 | 0=>[]
 | n+1=>ens l n++[env l (ens l n) n]
theorem zji (l:List Node):∀ n,(ens l n).length=n
 | 0=>rfl
 | n+1=>by rw[ens,List.length_append,zji l n];rfl
def enI (l:List Node) (k:Int):Nat:=env l (ens l k.toNat) k.toNat
theorem zpH (l:List Node):∀ {n j:Nat},j < n→(ens l n)[j]?=some (enI l (j:Int))
 | 0,j,h=>absurd h (Nat.not_lt_zero _)
 | n+1,j,h=>by
  rw[ens]
  by_cases hj:j < n
  ·rw[List.getElem?_append_left (by rw[zji];exact hj)]
   exact zpH l hj
  obtain rfl:j=n:=by omega
  rw[List.getElem?_append_right (by rw[zji];omega),zji,Nat.sub_self]
  unfold enI
  rw[Int.toNat_natCast]
  rfl
theorem zrP {l l':List Node} {o o':Int→Nat} {k least:Int} (h1:rkK l k=rkK l' k) (h2:o k=o' k):wrE l o k least=wrE l' o' k least:=by rw[wrE,wrE,h1,h2]
theorem znQ {l l':List Node} {o o':Int→Nat} {n:Node} (hn:zo n=true) (hr:∀ k ∈ n.Kids,rkK l k=rkK l' k) (ho:∀ k ∈ n.Kids,o k=o' k):ndE l o n=ndE l' o' n:=by
 have w:∀ (i:Nat) least,i < n.Kids.length→wrE l o (kid n i) least=wrE l' o' (kid n i) least:=fun i least hi=>zrP (hr _ (zM hi)) (ho _ (zM hi))
 have hkl:=zeK hn
 by_cases k4:n.Kind≤4
 ·rw[ne4 k4,ne4 k4]
 by_cases k5:n.Kind=5∨n.Kind=6
 ·rw[ne5 k5,ne5 k5,zhp ho]
 by_cases k7:n.Kind=7
 ·have hl:=kdk hn 7 2 k7 (by decide) (by decide) (by decide)
  rw[ne7 k7,ne7 k7,w 0 _ (by omega),ho _ (zM (i:=1) (by omega))]
 by_cases k8:n.Kind=8
 ·have hl:=kdk hn 8 1 k8 (by decide) (by decide) (by decide)
  rw[ne8 (.inl k8),ne8 (.inl k8),w 0 _ (by omega)]
 by_cases k9:n.Kind=9
 ·have hl:=kdk hn 9 1 k9 (by decide) (by decide) (by decide)
  rw[ne8 (.inr k9),ne8 (.inr k9),w 0 _ (by omega)]
 by_cases k10:n.Kind=10
 ·have hl:=kdk hn 10 3 k10 (by decide) (by decide) (by decide)
  rw[zuc k10,zuc k10,w 0 _ (by omega),ho _ (zM (i:=1) (by omega)),ho _ (zM (i:=2) (by omega))]
 have hl:=kd2 hn (by omega)
 rw[zus (by omega),zus (by omega),w 0 _ (by omega),w 1 _ (by omega)]
theorem znw {l:List Node} {e:Nat} (he:e < l.length) (hn:zo l[e]=true) (hk:∀ k ∈ l[e].Kids,0≤k∧k < (e:Int)):enI l (e:Int)=ndE l (enI l) l[e]:=by
 unfold enI env
 rw[Int.toNat_natCast,List.getElem?_eq_getElem he]
 refine znQ hn (fun _ _=>rfl) fun k hk'=>?_
 have:=hk k hk'
 have h2:=zpH l (show k.toNat < e by omega)
 rw[h2,show ((k.toNat:Nat):Int)=k by omega]
 rfl
theorem zxx {l:List Node} (h:WF l) (z:List Node):∀ (e:Nat),e < l.length→enI (l++z) (e:Int)=enI l (e:Int):=by
 intro e
 induction e using Nat.strongRecOn with
 | _ e ih =>
  intro he
  obtain⟨a,b⟩:=h e _ (List.getElem?_eq_getElem he)
  have h1:=znw he a b
  have hg:(l++z)[e]'(by rw[List.length_append];omega)=l[e]:=List.getElem_append_left he
  have h2:enI (l++z) (e:Int)=ndE (l++z) (enI (l++z)) l[e]:=by
   have:=znw (l:=l++z) (e:=e) (by rw[List.length_append];omega) (by rw[hg];exact a) (by rw[hg];exact b)
   rw[hg] at this
   exact this
  rw[h1,h2]
  refine znQ a (fun k hk=>?_) (fun k hk=>?_)
  ·have:=b k hk
   exact zfv this.1 (by omega)
  have:=b k hk
  have:=ih k.toNat (by omega) (by omega)
  rwa [show ((k.toNat:Nat):Int)=k by omega] at this
theorem zka {l:List Node} (h:WF l) (z:List Node) {k:Int} (h0:0≤k) (h1:k < (l.length:Int)):enI (l++z) k=enI l k:=by
 have:=zxx h z k.toNat (by omega)
 rwa [show ((k.toNat:Nat):Int)=k by omega] at this
theorem zvU {l:List Node} (h:WF l) (z:List Node) {k:Int} (h0:0≤k) (h1:k < (l.length:Int)) (least:Int):wrE (l++z) (enI (l++z)) k least=wrE l (enI l) k least:=zrP (zfv h0 h1) (zka h z h0 h1)
theorem zsX {l:List Node} (h:WF l) (z:List Node) {ks:List Int} (hk:∀ k ∈ ks,0≤k∧k < (l.length:Int)):zaV (enI (l++z)) ks=zaV (enI l) ks:=zhp fun k hk'=>zka h z (hk k hk').1 (hk k hk').2
theorem zzE {l:List Node} (h:WF l) {n:Node} (hn:zo n=true) (hk:∀ k ∈ n.Kids,0≤k∧k < (l.length:Int)):enI (l++[n]) ((l.length:Nat):Int)=ndE l (enI l) n:=by
 have hlt:l.length < (l++[n]).length:=by rw[List.length_append];simp
 have hg:(l++[n])[l.length]=n:=by simp
 have:=znw (l:=l++[n]) hlt (by rw[hg];exact hn) (by rw[hg];exact hk)
 rw[hg] at this
 rw[this]
 exact znQ hn (fun k hk'=>zfv (hk k hk').1 (hk k hk').2) (fun k hk'=>zka h _ (hk k hk').1 (hk k hk').2)
end Go.Proofs.YtfbcnpbhhooapaaGreatDoor.M
namespace Go.Proofs.YtfbcnpbhhooapaaGreatDoor.M
open Go Classical
def Lxs (t:List UInt8) (L:List Token):Prop:=∀ p,∃ L0,Lx t p (some L0)∧L0.map σ=L
theorem zuQ {c:UInt8} {t:List UInt8} {x:Token} {n:Nat} (h1:zz c≠1) (h2:zz c≠5) (hk:Tok (c::t) (some (x,n))) {L:List Token} (h:Lxs ((c::t).drop n) L):Lxs (c::t) (σ x::L):=fun p=>by
 obtain⟨L0,h3,h4⟩:=h (p+n)
 refine⟨_,.tok c t p x n _ h1 h2 hk h3,?_⟩
 rw[List.map_cons,h4]
 rfl
theorem zm4 {c:UInt8} (h1:zz c≠1) (h2:zz c≠5) (h3:zz c≠2) (h4:zz c≠3) (h5:zz c≠4) (h6:∀ b,[c,b] ∉ zfB) (h7:zdZ c=[c]) {t:List UInt8} {L:List Token} (h:Lxs t L):Lxs (c::t) (tg [c]::L):=by
 have e:zal (c::t)=[c]:=by
  cases t with
  | nil=>exact h7
  | cons b t=>rw[zal,zhF,if_neg (h6 b),h7]
 have hk:=Tok.sign c t h3 h4 h5
 rw[e,if_neg (by simp)] at hk
 exact zuQ h1 h2 hk h
theorem zzl {t:List UInt8} {L:List Token} (h:Lxs t L):Lxs (40::t) (lpT::L):=zm4 (by decide) (by decide) (by decide) (by decide) (by decide) (by simp[zfB]) (by decide) h
theorem zze {t:List UInt8} {L:List Token} (h:Lxs t L):Lxs (41::t) (rpT::L):=zm4 (by decide) (by decide) (by decide) (by decide) (by decide) (by simp[zfB]) (by decide) h
end Go.Proofs.YtfbcnpbhhooapaaGreatDoor.M
namespace Go.Proofs.YtfbcnpbhhooapaaGreatDoor.M
open Go Classical
theorem zu8 {x y:List UInt8} (hx:zab x=true):Lib.cut (x++46::y) [46]=(x,y,true):=by
 have h46:(46:UInt8) ∉ x:=by
  intro h
  have:=zo6 hx _ h;rw[zhd] at this;cases this
 exact ze3 46 _ _ h46
structure AB (a:Attr):Prop where
 name:a.Name.length≤1000000
 expr:a.Expr.length≤1000000
 nodes:∀ n ∈ a.Expr,NB n
structure BB (b:Block):Prop where
 label:b.Label.length≤1000000
 attrs:b.Attrs.length≤1000000
 each:∀ a ∈ b.Attrs,AB a
 blocks:b.Blocks.length≤1000000
def zgx (seen:List Attr):List Attr→Bool
 | []=>true
 | a::l=>zab a.Name && zbX a.Expr && !(seen.any fun x=>decide (x.Name=a.Name)) && zgx (seen++[a]) l
theorem ztI (l:List Attr) (hl:l.length≤1000000) (ha:∀ a ∈ l,AB a):zjl l (zgx [] l):=by
 have loop:∀ (m i:Nat),i+m=l.length→zi1 l i (zgx (l.take i) (l.drop i)):=by
  intro m
  induction m with
  | zero =>
   intro i hi
   apply zh5
   exact⟨fun h=>by omega,fun _=>by rw[List.drop_of_length_le (by omega)];rfl⟩
  | succ m ih =>
   intro i hi
   have hlt:i < l.length:=by omega
   have hg:l[((i:Nat):Int).toNat]?=some l[i]:=by rw[Int.toNat_natCast];exact List.getElem?_eq_getElem hlt
   have hd:l.drop i=l[i]::l.drop (i+1):=List.drop_eq_getElem_cons hlt
   have hA:=ha _ (List.getElem_mem hlt)
   have ih:=ih (i+1) (by omega)
   rw[show l.take (i+1)=l.take i++[l[i]] by rw[List.take_add_one,List.getElem?_eq_getElem hlt];rfl] at ih
   apply zh5
   rw[hd,zgx]
   refine⟨fun _=>⟨by omega,_,hg,_,zcd _ hA.name,fun h1=>⟨_,zng _ hA.expr hA.nodes,fun h2=>⟨by omega,by omega,?_,fun x=>decide (x.Name=l[i].Name),fun x _=>zsF _ _ _ rfl,fun h3=>?_,fun h3=>⟨⟨by omega,by omega⟩,?_⟩⟩,fun h2=>?_⟩,fun h1=>?_⟩,fun h=>by omega⟩
   ·rw[Int.toNat_natCast,List.length_take];omega
   ·rw[Int.toNat_natCast] at h3
    rw[h1,h2,h3]
    rfl
   ·rw[Int.toNat_natCast] at h3
    rw[h1,h2,show (l.take i).any (fun x=>decide (x.Name=l[i].Name))=false by simpa using h3]
    exact ih
   ·rw[show zbX l[i].Expr=false by simpa using h2,Bool.and_false];rfl
   rw[show zab l[i].Name=false by simpa using h1];rfl
 have:=loop l.length 0 (by omega)
 exact zuy _ _ this
def za7 (b:Block):Bool:=decide (1≤b.Kind) && decide (b.Kind≤5) && (if b.Kind=2 then decide (b.Label=[]) else zE b.Label)
def zd7 (b:Block):Bool:=za7 b && (if b.Kind=5 then false else decide (b.Blocks=[]) && zgx [] b.Attrs)
def zeb (b:Block):Bool:=za7 b && (if b.Kind=5 then decide (b.Attrs=[]) && b.Blocks.all zd7 else decide (b.Blocks=[]) && zgx [] b.Attrs)
theorem zvF (b:Block) (hb:BB b) (within:Bool) (hin:within=false→∀ x ∈ b.Blocks,zkO x true (zd7 x)):zkO b within (if within=true then zd7 b else zeb b):=by
 have hA:=ztI b.Attrs hb.attrs hb.each
 have hbl:=hb.blocks
 have rest:b.Kind≠5→(if within=true then zd7 b else zeb b)=(za7 b && (decide (b.Blocks=[]) && zgx [] b.Attrs)):=fun h=>by
  unfold zd7 zeb
  rw[if_neg h,if_neg h]
  split <;> rfl
 have no:za7 b=false→(if within=true then zd7 b else zeb b)=false:=fun h=>by
  unfold zd7 zeb
  rw[h]
  split <;> rfl
 apply zun
 refine⟨_,zha _ hb.label,fun k=>⟨fun h=>?_,fun h=>⟨fun h'=>?_,fun h'=>⟨fun hl=>⟨fun h0=>⟨_,hA,?_⟩,fun h0=>?_⟩,fun hl=>?_⟩⟩⟩,fun k=>⟨fun h=>?_,fun h=>⟨fun h'=>?_,fun h'=>⟨fun hl=>⟨fun k5=>⟨fun hw=>?_,fun hw=>⟨fun h0=>⟨by omega,?_⟩,fun h0=>?_⟩⟩,fun k5=>⟨fun h0=>⟨_,hA,?_⟩,fun h0=>?_⟩⟩,fun hl=>?_⟩⟩⟩⟩
 ·omega
 ·omega
 ·have e:za7 b=true:=by simp[za7,k,hl]
  rw[rest (by omega),e,show b.Blocks=[] from List.length_eq_zero_iff.1 (by omega)]
  simp
 ·rw[rest (by omega),decide_eq_false (show ¬ b.Blocks=[] from fun e=>h0 (by rw[e];rfl))]
  simp
 ·rw[no (by simp[za7,k,hl])]
 ·rw[no (by simp[za7];intros;omega)]
 ·rw[no (by simp[za7];intros;omega)]
 ·subst hw
  rw[if_pos rfl,zd7,if_pos k5,Bool.and_false]
 ·have hw':within=false:=by simpa using hw
  subst hw'
  have e:za7 b=true:=by simp[za7,k5,hl]
  refine⟨fun x=>!zd7 x,fun x hx=>ztS _ _ ⟨_,hin rfl x hx,rfl⟩,?_⟩
  rw[if_neg (by decide),zeb,if_pos k5,e,show b.Attrs=[] from List.length_eq_zero_iff.1 (by omega)]
  rw[List.all_eq_not_any_not]
  simp
 ·have hw':within=false:=by simpa using hw
  subst hw'
  rw[if_neg (by decide),zeb,if_pos k5,decide_eq_false (show ¬ b.Attrs=[] from fun e=>h0 (by rw[e];rfl))]
  simp
 ·have e:za7 b=true:=by simp[za7,k,hl];omega
  rw[rest k5,e,show b.Blocks=[] from List.length_eq_zero_iff.1 (by omega)]
  simp
 ·rw[rest k5,decide_eq_false (show ¬ b.Blocks=[] from fun e=>h0 (by rw[e];rfl))]
  simp
 rw[no (by simp[za7,k];intros;simpa using hl)]
def FolN (t:List UInt8):Prop:=∀ c,t.head?=some c→inC [2,3] c=false
theorem FolN.cons {c:UInt8} (h:inC [2,3] c=false) (t:List UInt8):FolN (c::t):=fun x hx=>by
 rw[List.head?_cons] at hx
 rw[←Option.some.inj hx]
 exact h
theorem FolN.nil:FolN []:=fun c h=>by cases h
def H61 (x:List UInt8):Prop:=∃ c u,x=c::u∧c≠61
theorem H61.app {x:List UInt8} (h:H61 x) (t:List UInt8):H61 (x++t):=by
 obtain⟨c,u,rfl,h⟩:=h
 exact⟨c,u++t,rfl,h⟩
def TT (x:List UInt8) (K:List Token):Prop:=H61 x∧∀ t L,FolN t→Lxs t L→Lxs (x++t) (K++L)
theorem TT.wr {l:List Node} {k:Int} (least:Int) (h:TT (txS l k.toNat) (tkI l k)):TT (wrS l (fun k=>txS l k.toNat) k least) (wrK l (tkI l) k least):=by
 unfold wrS wrK
 by_cases hr:rkK l k < least
 ·rw[if_pos hr,if_pos hr]
  refine⟨⟨40,txS l k.toNat++[41],rfl,by decide⟩,fun t L ht hL=>?_⟩
  have:=zzl (h.2 (41::t) (rpT::L) (FolN.cons (by decide) t) (zze hL))
  simpa using this
 rw[if_neg hr,if_neg hr]
 exact h
def Stk (l:List Node) (st:List Int):Prop:=∀ rest,stk 0 [] (l++rest)=stk l.length st rest
theorem Stk.nil:Stk [] []:=fun _=>rfl
theorem Stk.snoc {l:List Node} {st:List Int} (h:Stk l st) {n:Node} (hn:zo n=true) (hk:st.take n.Kids.length=n.Kids.reverse):Stk (l++[n]) ((l.length:Int)::st.drop n.Kids.length):=fun rest=>by
 rw[List.append_assoc,h,List.singleton_append,stk,if_pos ⟨hn,hk⟩,List.length_append]
 rfl
theorem Stk.tree {l:List Node} {st:List Int} (h:Stk l st) (h1:st.length=1):zbX l=true:=by
 have:=h []
 rw[List.append_nil] at this
 rw[zhz,this,stk,decide_eq_true h1]
theorem zpT {k:Int} (h0:11≤k) (h1:k≤23):kdS k=2:=by
 unfold kdS
 repeat' split
 all_goals omega
def Mu (μ:Token→Nat):Prop:=∀ t u:Token,t.Kind=u.Kind→(t.Kind=1→t.Num=u.Num)→(t.Kind=2→t.Parts=u.Parts)→(t.Kind=3∨t.Kind=4→t.Text=u.Text)→μ t=μ u
def wt (μ:Token→Nat):List Token→Nat
 | []=>0
 | t::r=>μ t+wt μ r
theorem zcy (μ:Token→Nat):∀ a b,wt μ (a++b)=wt μ a+wt μ b
 | [],b=>by simp[wt]
 | t::a,b=>by rw[List.cons_append,wt,wt,zcy μ a b];omega
structure TkG (t:Token):Prop where
 name:t.Kind=3→zab t.Text=true
 num:t.Kind=1→0≤t.Num
 parts:t.Kind=2→zY false t.Parts=true
def zev:Lv→List Int
 | .lp _ a=>[a]
 | .pl a=>[a]
 | .ml _ l=>l
 | _=>[]
def LL (r:Nat):Int:=if r=2 then 4 else (r:Int)+1
def lst:Lv→Int
 | .ex=>0
 | .ch r=>(r:Int)+1
 | .lp r _=>(r:Int)+1
 | .un=>6
 | _=>7
def Wm (μ:Token→Nat) (l:List Node) (least k:Int):Nat:=wt μ (wrK l (tkI l) k least)
def We (l:List Node) (least k:Int):Nat:=wrE l (enI l) k least
def inW (μ:Token→Nat) (out:List Node):Lv→Nat
 | .lp r a=>Wm μ out (LL r) a
 | .pl a=>Wm μ out 7 a
 | .ml _ l=>wt μ (tcS (tkI out) l)
 | _=>0
def ouW (μ:Token→Nat) (out:List Node) (l:List Int):Lv→Nat
 | .ma e=>wt μ (tcS (tkI out) l)+μ (tg e)
 | .ml e _=>wt μ (tcS (tkI out) l)+μ (tg e)
 | lv=>Wm μ out (lst lv) (l.headD 0)
def inE (out:List Node):Lv→Nat
 | .lp r a=>We out (LL r) a
 | .pl a=>We out 7 a
 | .ml _ l=>zaV (enI out) l
 | _=>0
def ouE (out:List Node) (l:List Int):Lv→Nat
 | .ma _=>zaV (enI out) l
 | .ml _ _=>zaV (enI out) l
 | lv=>We out (lst lv) (l.headD 0)
def okI (out:List Node) (l:List Int):Prop:=∀ a ∈ l,0≤a∧a < (out.length:Int)
structure Iv (μ:Token→Nat) (lv:Lv) (d:Nat) (ts:List Token) (out:List Node) (l:List Int) (ts':List Token) (out':List Node):Prop where
 suf:ts' <:+ ts
 pre:out <+: out'
 wf:WF out'
 idx:okI out' l
 stk:∀ st,Stk out ((zev lv).reverse++st)→Stk out' (l.reverse++st)
 wt:M.wt μ ts'+ouW μ out' l lv≤M.wt μ ts+inW μ out lv
 dp:d≤64→d+inE out lv≤64→d+ouE out' l lv≤64
section
variable {μ:Token→Nat}
theorem zjd {l:List Node} {a b k:Int} (h:a≤b):Wm μ l a k≤Wm μ l b k:=by
 unfold Wm wrK
 by_cases h1:rkK l k < a
 ·rw[if_pos h1,if_pos (by omega)];exact Nat.le_refl _
 rw[if_neg h1]
 split
 ·rw[wt,zcy];omega
 exact Nat.le_refl _
theorem ziU {l:List Node} {a b k:Int} (h:a≤b):We l a k≤We l b k:=by
 unfold We wrE
 by_cases h1:rkK l k < a
 ·rw[if_pos h1,if_pos (by omega)];exact Nat.le_refl _
 rw[if_neg h1]
 split <;> omega
theorem rk0 (l:List Node) (k:Int):0≤rkK l k∧rkK l k≤7:=by
 unfold rkK
 split
 ·unfold rkS
  repeat' split
  all_goals omega
 omega
theorem Wm0 (l:List Node) (k:Int):Wm μ l 0 k=wt μ (tkI l k):=by
 unfold Wm wrK
 rw[if_neg (by have:=rk0 l k;omega)]
theorem We0 (l:List Node) (k:Int):We l 0 k=enI l k:=by
 unfold We wrE
 rw[if_neg (by have:=rk0 l k;omega)]
theorem zAA (l:List Node) (least k:Int):Wm μ l least k≤μ lpT+(wt μ (tkI l k)+μ rpT):=by
 unfold Wm wrK
 split
 ·rw[wt,zcy,wt,wt];omega
 omega
theorem zAx (l:List Node) (least k:Int):We l least k≤1+enI l k:=by
 unfold We wrE
 split <;> omega
theorem zia {l l':List Node} (h:WF l) (p:l <+: l') {k:Int} (h0:0≤k∧k < (l.length:Int)) (least:Int):Wm μ l' least k=Wm μ l least k:=by
 obtain⟨z,rfl⟩:=p
 unfold Wm
 rw[zwk h z h0.1 h0.2]
theorem zin {l l':List Node} (h:WF l) (p:l <+: l') {k:Int} (h0:0≤k∧k < (l.length:Int)) (least:Int):We l' least k=We l least k:=by
 obtain⟨z,rfl⟩:=p
 unfold We
 rw[zvU h z h0.1 h0.2]
theorem zxS {l l':List Node} (h:WF l) (p:l <+: l') {ks:List Int} (hk:∀ k ∈ ks,0≤k∧k < (l.length:Int)):tcS (tkI l') ks=tcS (tkI l) ks:=by
 obtain⟨z,rfl⟩:=p
 exact zwq h z hk
theorem zyU {l l':List Node} (h:WF l) (p:l <+: l') {ks:List Int} (hk:∀ k ∈ ks,0≤k∧k < (l.length:Int)):zaV (enI l') ks=zaV (enI l) ks:=by
 obtain⟨z,rfl⟩:=p
 exact zsX h z hk
theorem zbY (hμ:Mu μ) {s:List UInt8} {t:Token} (h:Sg s t):μ t=μ (tg s):=hμ _ _ h.1 (fun e=>by rw[h.1] at e;cases e) (fun e=>by rw[h.1] at e;cases e) (fun _=>h.2)
theorem zkq (hμ:Mu μ) {t:Token} (h:t.Kind=3):μ t=μ (tn t.Text):=hμ _ _ h (fun e=>by rw[h] at e;cases e) (fun e=>by rw[h] at e;cases e) (fun _=>rfl)
structure Nw (μ:Token→Nat) (out:List Node) (n:Node):Prop where
 wf:WF (out++[n])
 idx:okI (out++[n]) [((out.length:Nat):Int)]
 wm:∀ least,least≤rkS n.Kind→Wm μ (out++[n]) least ((out.length:Nat):Int)=wt μ (ndK out (tkI out) n)
 we:∀ least,least≤rkS n.Kind→We (out++[n]) least ((out.length:Nat):Int)=ndE out (enI out) n
theorem nw (μ:Token→Nat) {out:List Node} (hw:WF out) {n:Node} (hn:zo n=true) (hk:okI out n.Kids):Nw μ out n:=by
 obtain⟨h1,h2⟩:=zzB hw hn hk
 have h3:=zzE hw hn hk
 refine⟨hw.snoc hn hk,fun a ha=>?_,fun least hl=>?_,fun least hl=>?_⟩
 ·rw[List.mem_singleton.1 ha,List.length_append]
  simp
  omega
 ·rw[Wm,wrK,h2,if_neg (by omega),h1]
 rw[We,wrE,h2,if_neg (by omega),h3]
theorem okI.one {out:List Node} {a:Int} (h:okI out [a]):0≤a∧a < (out.length:Int):=h a (by simp)
theorem okI.pre {out out':List Node} {l:List Int} (h:okI out l) (p:out <+: out'):okI out' l:=fun a ha=>by
 have:=h a ha
 have:=p.length_le
 omega
theorem okI.two {out:List Node} {a b:Int} (h:okI out [a]) (h':okI out [b]):okI out [a,b]:=fun c hc=>by
 rcases List.mem_cons.1 hc with rfl | hc
 ·exact h.one
 exact h' c hc
theorem okI.snoc {out:List Node} {l:List Int} {b:Int} (h:okI out l) (h':okI out [b]):okI out (l++[b]):=fun c hc=>by
 rcases List.mem_append.1 hc with hc | hc
 ·exact h c hc
 exact h' c hc
theorem zrC {r:Nat} (hr:r < 5) {s:List UInt8} {kind:Int} (h:opS r s=some kind):11≤kind∧kind≤23∧rkS kind=(r:Int)+1∧zhx kind=s:=by
 have five:r=0∨r=1∨r=2∨r=3∨r=4:=by omega
 rcases five with rfl | rfl | rfl | rfl | rfl <;>
 simp only[opS,zH,zcs,zae] at h
 repeat' split at h
 all_goals first
  | (simp only[Option.map_some,Option.some.injEq] at h;subst h;subst_vars;exact⟨by decide,by decide,by decide,by decide⟩)
  | (cases h)
theorem zdL {k:Int} {ks:List Int} (h6:6≤k) (hd:kdS k=(ks.length:Nat)∨kdS k=-1):zo (nd k [] ks)=true:=by
 have hp:plS (nd k [] ks)=true:=by
  rw[plS,if_neg (by simp only[nd];omega),if_neg (by simp only[nd];omega),if_neg (by simp only[nd];omega),if_neg (by simp only[nd];omega),if_neg (by simp only[nd];omega)]
  simp[nd]
 simp only[zo,hp,Bool.and_true,Bool.or_eq_true,decide_eq_true_eq]
 exact hd
theorem zpl (o:Int→List Token):∀ (a b:List Int),tcG o (a++b)=tcG o a++tcG o b
 | [],b=>rfl
 | k::a,b=>by rw[List.cons_append,tcG,tcG,zpl o a b];simp
theorem zuL (o:Int→List Token) {l:List Int} (h:l≠[]) (a:Int):tcS o (l++[a])=tcS o l++tg [44]::o a:=by
 cases l with
 | nil=>exact absurd rfl h
 | cons k r=>rw[List.cons_append,tcS,tcS,zpl];simp[tcG]
theorem w5 (l:List Node) {k:Int} (hk:k=5) (t:List UInt8) (ks:List Int):wt μ (ndK l (tkI l) (nd k t ks))=μ (tn t)+(μ (tg [40])+(wt μ (tcS (tkI l) ks)+μ (tg [41]))):=by
 rw[nk5 hk];simp only[zcy,wt,nd];rfl
theorem w6 (l:List Node) (ks:List Int):wt μ (ndK l (tkI l) (nd 6 [] ks))=μ (tg [91])+(wt μ (tcS (tkI l) ks)+μ (tg [93])):=by
 rw[nk6 rfl];simp only[zcy,wt,nd];rfl
theorem w7 (l:List Node) (a b:Int):wt μ (ndK l (tkI l) (nd 7 [] [a,b]))=Wm μ l 7 a+(μ (tg [91])+(Wm μ l 0 b+μ (tg [93]))):=by
 rw[nk7 rfl,Wm0];simp only[zcy,wt];rfl
theorem w8 (l:List Node) (a:Int):wt μ (ndK l (tkI l) (nd 8 [] [a]))=μ (tg [33])+Wm μ l 6 a:=by
 rw[nk8 rfl];rfl
theorem w9 (l:List Node) (a:Int):wt μ (ndK l (tkI l) (nd 9 [] [a]))=μ (tg [45])+Wm μ l 6 a:=by
 rw[nk9 rfl];rfl
theorem w10 (l:List Node) (a b x:Int):wt μ (ndK l (tkI l) (nd 10 [] [a,b,x]))=Wm μ l 1 a+(μ (tg [63])+(Wm μ l 0 b+(μ (tg [58])+Wm μ l 0 x))):=by
 rw[zu4 rfl,Wm0,Wm0];simp only[zcy,wt];rfl
theorem w11 (l:List Node) {k:Int} (h:10 < k) (a b:Int):wt μ (ndK l (tkI l) (nd k [] [a,b]))=Wm μ l (if rkS k=3 then rkS k+1 else rkS k) a+(μ (tg (zhx k))+Wm μ l (rkS k+1) b):=by
 rw[ztD h];simp only[zcy,wt];rfl
theorem e56 (l:List Node) {k:Int} (hk:k=5∨k=6) (t:List UInt8) (ks:List Int):ndE l (enI l) (nd k t ks)=1+zaV (enI l) ks:=ne5 hk
theorem e7 (l:List Node) (a b:Int):ndE l (enI l) (nd 7 [] [a,b])=max (We l 7 a) (1+We l 0 b):=by rw[ne7 rfl,We0];rfl
theorem e89 (l:List Node) {k:Int} (hk:k=8∨k=9) (a:Int):ndE l (enI l) (nd k [] [a])=1+We l 6 a:=by rw[ne8 hk];rfl
theorem e10 (l:List Node) (a b x:Int):ndE l (enI l) (nd 10 [] [a,b,x])=max (We l 1 a) (1+max (We l 0 b) (We l 0 x)):=by rw[zuc rfl,We0,We0];rfl
theorem e11 (l:List Node) {k:Int} (h:10 < k) (a b:Int):ndE l (enI l) (nd k [] [a,b])=max (We l (if rkS k=3 then rkS k+1 else rkS k) a) (We l (rkS k+1) b):=by rw[zus h];rfl
end
def zuG:Lv→Prop
 | .ml _ l=>l≠[]
 | .ch r=>r≤5
 | .lp r _=>r < 5
 | _=>True
theorem zeW {ts ts':List Token} (h:ts' <:+ ts) (h':∀ t ∈ ts,TkG t):∀ t ∈ ts',TkG t:=fun t ht=>h' t (h.subset ht)
theorem zbV {t:Token} {ts:List Token} (h:∀ x ∈ t::ts,TkG x):∀ x ∈ ts,TkG x:=fun x hx=>h x (List.mem_cons_of_mem _ hx)
theorem okI.nil {out:List Node}:okI out []:=fun a ha=>by cases ha
theorem zdu {t:Token} {a b:List Token} (h:a <:+ b):a <:+ t::b:=h.trans (List.suffix_cons _ _)
theorem zmA {t:Token} {a b:List Token} (h:t::a <:+ b):a <:+ b:=(List.suffix_cons _ _).trans h
theorem zgh {a b:List Node} {n:Node} (h:a <+: b):a <+: b++[n]:=h.trans (List.prefix_append _ _)
theorem zgW {μ:Token→Nat} {d:Nat} {ts ts':List Token} {out:List Node} {n:Node} (hw:WF out) (hs:ts' <:+ ts) (hn:zo n=true) (h0:n.Kids=[]) (h4:n.Kind≤4) (hr:rkS n.Kind=7) (hwt:wt μ ts'+wt μ (ndK out (tkI out) n)≤wt μ ts):Iv μ .pr d ts out [((out.length:Nat):Int)] ts' (out++[n]):=by
 have w:=nw μ hw hn (by rw[h0];exact okI.nil)
 refine⟨hs,List.prefix_append _ _,w.wf,w.idx,fun st h=>?_,?_,fun h1 h2=>?_⟩
 ·exact Stk.snoc (by simpa [zev] using h) hn (by rw[h0];rfl) |> fun h=>by rw[h0] at h;exact h
 ·have e:=w.wm 7 (by omega)
  show wt μ ts'+Wm μ (out++[n]) 7 ((out.length:Nat):Int)≤wt μ ts+0
  omega
 have e:=w.we 7 (by omega)
 show d+We (out++[n]) 7 ((out.length:Nat):Int)≤64
 rw[e,ne4 h4]
 exact h1
theorem zAe {μ:Token→Nat} (hμ:Mu μ) {lv:Lv} {d:Nat} {ts:List Token} {out:List Node} {l:List Int} {ts':List Token} {out':List Node} (h:Dr lv d ts out l ts' out'):(∀ t ∈ ts,TkG t)→WF out→okI out (zev lv)→zuG lv→Iv μ lv d ts out l ts' out':=by
 induction h with
 | ex0 _ ih =>
  intro ht hw _ _
  have i:=ih ht hw okI.nil (Nat.zero_le _)
  refine⟨i.suf,i.pre,i.wf,i.idx,i.stk,Nat.le_trans (Nat.add_le_add_left (zjd (by simp[lst])) _) i.wt,fun h1 h2=>Nat.le_trans (Nat.add_le_add_left (ziU (by simp[lst])) _) (i.dp h1 h2)⟩
 | @ex1 d ts out a q ts1 out1 b c ts2 out2 x ts3 out3 _ hq hd _ hc _ ih1 ih2 ih3 =>
  intro ht hw _ _
  have i1:=ih1 ht hw okI.nil (Nat.zero_le _)
  have ht1:=zbV (zeW i1.suf ht)
  have i2:=ih2 ht1 i1.wf okI.nil trivial
  have ht2:=zbV (zeW i2.suf ht1)
  have i3:=ih3 ht2 i2.wf okI.nil trivial
  have p1:=i2.pre.trans i3.pre
  have ia:=i1.idx.pre p1
  have ib:=i2.idx.pre i3.pre
  have hn:zo (nd 10 [] [a,b,x])=true:=zdL (by decide) (.inl (show kdS 10=((3:Nat):Int) by decide))
  have w:=nw μ i3.wf hn (fun k hk=>by
   rcases List.mem_cons.1 hk with rfl | hk
   ·exact ia.one
   exact (ib.two i3.idx) k hk)
  have hr:(0:Int)≤rkS (nd 10 [] [a,b,x]).Kind:=show (0:Int)≤rkS 10 by decide
  refine⟨i3.suf.trans (zmA (i2.suf.trans (zmA i1.suf))),zgh (i1.pre.trans p1),w.wf,w.idx,fun st hs=>?_,?_,fun h1 h2=>?_⟩
  ·have s1:=i1.stk st hs
   have s2:=i2.stk (a::st) (by simpa [zev] using s1)
   have s3:=i3.stk (b::a::st) (by simpa [zev] using s2)
   exact Stk.snoc (by simpa [zev] using s3) hn (by simp[nd])
  ·have e:=w.wm 0 hr
   have v1:wt μ (q::ts1)+Wm μ out1 1 a≤wt μ ts+0:=i1.wt
   have v2:wt μ (c::ts2)+Wm μ out2 0 b≤wt μ ts1+0:=i2.wt
   have v3:wt μ ts3+Wm μ out3 0 x≤wt μ ts2+0:=i3.wt
   have m1:=zbY hμ hq
   have m2:=zbY hμ hc
   show wt μ ts3+Wm μ (out3++[nd 10 [] [a,b,x]]) 0 ((out3.length:Nat):Int)≤wt μ ts+0
   rw[e,w10,zia i1.wf p1 i1.idx.one,zia i2.wf i3.pre i2.idx.one]
   simp only[wt] at v1 v2
   omega
  have e:=w.we 0 hr
  have d1:d+We out1 1 a≤64:=i1.dp h1 h1
  have d2:d+1+We out2 0 b≤64:=i2.dp (by omega) (by simp only[inE];omega)
  have d3:d+1+We out3 0 x≤64:=i3.dp (by omega) (by simp only[inE];omega)
  show d+We (out3++[nd 10 [] [a,b,x]]) 0 ((out3.length:Nat):Int)≤64
  rw[e,e10,zin i1.wf p1 i1.idx.one,zin i2.wf i3.pre i2.idx.one]
  omega
 | ch5 _ ih =>
  intro ht hw _ _
  have i:=ih ht hw okI.nil trivial
  exact⟨i.suf,i.pre,i.wf,i.idx,i.stk,i.wt,i.dp⟩
 | @chr r d ts out a ts1 out1 b ts2 out2 hr _ _ ih1 ih2 =>
  intro ht hw _ _
  have i1:=ih1 ht hw okI.nil (show r+1≤5 by omega)
  have i2:=ih2 (zeW i1.suf ht) i1.wf i1.idx hr
  have hL:LL r≤((r+1:Nat):Int)+1:=by unfold LL;split <;> omega
  refine⟨i2.suf.trans i1.suf,i1.pre.trans i2.pre,i2.wf,i2.idx,fun st hs=>i2.stk st (i1.stk st hs),?_,fun h1 h2=>?_⟩
  ·have v1:wt μ ts1+Wm μ out1 (((r+1:Nat):Int)+1) a≤wt μ ts+0:=i1.wt
   have v2:wt μ ts2+Wm μ out2 ((r:Int)+1) b≤wt μ ts1+Wm μ out1 (LL r) a:=i2.wt
   have m:=zjd (μ:=μ) (l:=out1) (k:=a) hL
   show wt μ ts2+Wm μ out2 ((r:Int)+1) b≤wt μ ts+0
   omega
  have d1:d+We out1 (((r+1:Nat):Int)+1) a≤64:=i1.dp h1 h1
  have m:=ziU (l:=out1) (k:=a) hL
  exact i2.dp h1 (show d+We out1 (LL r) a≤64 by omega)
 | @lp0 r a d ts out =>
  intro ht hw hi _
  have hL:(r:Int)+1≤LL r:=by unfold LL;split <;> omega
  exact⟨List.suffix_refl _,List.prefix_refl _,hw,hi,fun st h=>h,Nat.add_le_add_left (zjd hL) _,fun _ h=>Nat.le_trans (Nat.add_le_add_left (ziU hL) _) h⟩
 | @lp2 a d t kind ts out b ts1 out1 hk ho _ ih =>
  intro ht hw hi _
  have i:=ih (zbV ht) hw okI.nil (show 3≤5 by decide)
  obtain⟨k0,k1,k2,k3⟩:=zrC (by decide) ho
  have k2:rkS kind=3:=k2
  have ia:=hi.pre i.pre
  have hn:zo (nd kind [] [a,b])=true:=zdL (by omega) (.inl (zpT k0 k1))
  have w:=nw μ i.wf hn (ia.two i.idx)
  refine⟨zdu i.suf,zgh i.pre,w.wf,w.idx,fun st hs=>?_,?_,fun h1 h2=>?_⟩
  ·have s1:=i.stk (a::st) (by simpa [zev] using hs)
   exact Stk.snoc (by simpa using s1) hn (by simp[nd])
  ·have e:=w.wm 3 (by show 3≤rkS kind;omega)
   have v:wt μ ts1+Wm μ out1 4 b≤wt μ ts+0:=i.wt
   have m:=zbY hμ (s:=t.Text) (t:=t) ⟨hk,rfl⟩
   show wt μ ts1+Wm μ (out1++[nd kind [] [a,b]]) 3 ((out1.length:Nat):Int)≤(μ t+wt μ ts)+Wm μ out 4 a
   rw[e,w11 _ (by omega),k2,if_pos rfl,k3,zia hw i.pre hi.one]
   show wt μ ts1+(Wm μ out 4 a+(μ (tg t.Text)+Wm μ out1 4 b))≤_
   omega
  have e:=w.we 3 (by show 3≤rkS kind;omega)
  have d1:d+We out1 4 b≤64:=i.dp h1 h1
  have h2:d+We out 4 a≤64:=h2
  show d+We (out1++[nd kind [] [a,b]]) 3 ((out1.length:Nat):Int)≤64
  rw[e,e11 _ (by omega),k2,if_pos rfl,zin hw i.pre hi.one]
  show d+max (We out 4 a) (We out1 4 b)≤64
  omega
 | @lpr r a d t kind ts out b ts1 out1 x ts2 out2 hk ho hr2 _ _ ih1 ih2 =>
  intro ht hw hi hr
  have hr:r < 5:=hr
  have i:=ih1 (zbV ht) hw okI.nil (show r+1≤5 by omega)
  obtain⟨k0,k1,k2,k3⟩:=zrC hr ho
  have ia:=hi.pre i.pre
  have hn:zo (nd kind [] [a,b])=true:=zdL (by omega) (.inl (zpT k0 k1))
  have w:=nw μ i.wf hn (ia.two i.idx)
  have j:=ih2 (zeW i.suf (zbV ht)) w.wf w.idx hr
  have hL:LL r=(r:Int)+1:=by unfold LL;rw[if_neg hr2]
  have hq:(if rkS kind=3 then rkS kind+1 else rkS kind)=(r:Int)+1:=by rw[if_neg (by omega),k2]
  refine⟨j.suf.trans (zdu i.suf),(zgh i.pre).trans j.pre,j.wf,j.idx,fun st hs=>j.stk st ?_,?_,fun h1 h2=>?_⟩
  ·have s1:=i.stk (a::st) (by simpa [zev] using hs)
   exact Stk.snoc (by simpa using s1) hn (by simp[nd])
  ·have e:=w.wm (LL r) (by show LL r≤rkS kind;omega)
   have v1:wt μ ts1+Wm μ out1 (((r+1:Nat):Int)+1) b≤wt μ ts+0:=i.wt
   have v2:wt μ ts2+Wm μ out2 ((r:Int)+1) x≤wt μ ts1+Wm μ (out1++[nd kind [] [a,b]]) (LL r) ((out1.length:Nat):Int):=j.wt
   have m:=zbY hμ (s:=t.Text) (t:=t) ⟨hk,rfl⟩
   rw[e,w11 _ (by omega),hq,k3,zia hw i.pre hi.one,k2,show (r:Int)+1+1=(((r+1:Nat):Int)+1) by omega] at v2
   show wt μ ts2+Wm μ out2 ((r:Int)+1) x≤(μ t+wt μ ts)+Wm μ out (LL r) a
   rw[hL]
   omega
  have e:=w.we (LL r) (by show LL r≤rkS kind;omega)
  have d1:d+We out1 (((r+1:Nat):Int)+1) b≤64:=i.dp h1 h1
  have h2:d+We out (LL r) a≤64:=h2
  refine j.dp h1 ?_
  show d+We (out1++[nd kind [] [a,b]]) (LL r) ((out1.length:Nat):Int)≤64
  rw[e,e11 _ (by omega),hq,zin hw i.pre hi.one,k2,show (r:Int)+1+1=(((r+1:Nat):Int)+1) by omega]
  rw[hL] at h2
  omega
 | @un9 d t ts out a ts1 out1 hs hd _ ih =>
  intro ht hw _ _
  have i:=ih (zbV ht) hw okI.nil trivial
  have hn:zo (nd 9 [] [a])=true:=zdL (by decide) (.inl (show kdS 9=((1:Nat):Int) by decide))
  have w:=nw μ i.wf hn i.idx
  refine⟨zdu i.suf,zgh i.pre,w.wf,w.idx,fun st h=>?_,?_,fun h1 h2=>?_⟩
  ·exact Stk.snoc (by simpa using i.stk st h) hn (by simp[nd])
  ·have e:=w.wm 6 (show (6:Int)≤rkS 9 by decide)
   have v:wt μ ts1+Wm μ out1 6 a≤wt μ ts+0:=i.wt
   have m:=zbY hμ hs
   show wt μ ts1+Wm μ (out1++[nd 9 [] [a]]) 6 ((out1.length:Nat):Int)≤(μ t+wt μ ts)+0
   rw[e,w9]
   omega
  have e:=w.we 6 (show (6:Int)≤rkS 9 by decide)
  have d1:d+1+We out1 6 a≤64:=i.dp (by omega) (by simp only[inE];omega)
  show d+We (out1++[nd 9 [] [a]]) 6 ((out1.length:Nat):Int)≤64
  rw[e,e89 _ (.inr rfl)]
  omega
 | @un8 d t ts out a ts1 out1 hs hd _ ih =>
  intro ht hw _ _
  have i:=ih (zbV ht) hw okI.nil trivial
  have hn:zo (nd 8 [] [a])=true:=zdL (by decide) (.inl (show kdS 8=((1:Nat):Int) by decide))
  have w:=nw μ i.wf hn i.idx
  refine⟨zdu i.suf,zgh i.pre,w.wf,w.idx,fun st h=>?_,?_,fun h1 h2=>?_⟩
  ·exact Stk.snoc (by simpa using i.stk st h) hn (by simp[nd])
  ·have e:=w.wm 6 (show (6:Int)≤rkS 8 by decide)
   have v:wt μ ts1+Wm μ out1 6 a≤wt μ ts+0:=i.wt
   have m:=zbY hμ hs
   show wt μ ts1+Wm μ (out1++[nd 8 [] [a]]) 6 ((out1.length:Nat):Int)≤(μ t+wt μ ts)+0
   rw[e,w8]
   omega
  have e:=w.we 6 (show (6:Int)≤rkS 8 by decide)
  have d1:d+1+We out1 6 a≤64:=i.dp (by omega) (by simp only[inE];omega)
  show d+We (out1++[nd 8 [] [a]]) 6 ((out1.length:Nat):Int)≤64
  rw[e,e89 _ (.inl rfl)]
  omega
 | un0 _ ih =>
  intro ht hw _ _
  have i:=ih ht hw okI.nil trivial
  exact⟨i.suf,i.pre,i.wf,i.idx,i.stk,Nat.le_trans (Nat.add_le_add_left (zjd (by decide)) _) i.wt,fun h1 h2=>Nat.le_trans (Nat.add_le_add_left (ziU (by decide)) _) (i.dp h1 h2)⟩
 | po _ _ ih1 ih2 =>
  intro ht hw _ _
  have i:=ih1 ht hw okI.nil trivial
  have j:=ih2 (zeW i.suf ht) i.wf i.idx trivial
  exact⟨j.suf.trans i.suf,i.pre.trans j.pre,j.wf,j.idx,fun st hs=>j.stk st (i.stk st hs),Nat.le_trans j.wt i.wt,fun h1 h2=>j.dp h1 (i.dp h1 h2)⟩
 | pl0 =>
  intro ht hw hi _
  exact⟨List.suffix_refl _,List.prefix_refl _,hw,hi,fun st h=>h,Nat.le_refl _,fun _ h=>h⟩
 | @pl1 a d t ts out b u ts1 out1 x ts2 out2 hs hd _ hu _ ih1 ih2 =>
  intro ht hw hi _
  have i:=ih1 (zbV ht) hw okI.nil trivial
  have ia:=hi.pre i.pre
  have hn:zo (nd 7 [] [a,b])=true:=zdL (by decide) (.inl (show kdS 7=((2:Nat):Int) by decide))
  have w:=nw μ i.wf hn (ia.two i.idx)
  have j:=ih2 (zbV (zeW i.suf (zbV ht))) w.wf w.idx trivial
  refine⟨j.suf.trans (zdu (zmA i.suf)),(zgh i.pre).trans j.pre,j.wf,j.idx,fun st h=>j.stk st ?_,?_,fun h1 h2=>?_⟩
  ·have s1:=i.stk (a::st) (by simpa [zev] using h)
   exact Stk.snoc (by simpa using s1) hn (by simp[nd])
  ·have e:=w.wm 7 (show (7:Int)≤rkS 7 by decide)
   have v1:μ u+wt μ ts1+Wm μ out1 0 b≤wt μ ts+0:=i.wt
   have v2:wt μ ts2+Wm μ out2 7 x≤wt μ ts1+Wm μ (out1++[nd 7 [] [a,b]]) 7 ((out1.length:Nat):Int):=j.wt
   have m:=zbY hμ hs
   have m':=zbY hμ hu
   rw[e,w7,zia hw i.pre hi.one] at v2
   show wt μ ts2+Wm μ out2 7 x≤(μ t+wt μ ts)+Wm μ out 7 a
   omega
  have e:=w.we 7 (show (7:Int)≤rkS 7 by decide)
  have d1:d+1+We out1 0 b≤64:=i.dp (by omega) (by simp only[inE];omega)
  have h2:d+We out 7 a≤64:=h2
  refine j.dp h1 ?_
  show d+We (out1++[nd 7 [] [a,b]]) 7 ((out1.length:Nat):Int)≤64
  rw[e,e7,zin hw i.pre hi.one]
  omega
 | @ma0 e d t ts out hs =>
  intro ht hw _ _
  refine⟨List.suffix_cons _ _,List.prefix_refl _,hw,okI.nil,fun st h=>h,?_,fun h1 _=>h1⟩
  have m:=zbY hμ hs
  show wt μ ts+(wt μ []+μ (tg e))≤(μ t+wt μ ts)+0
  simp only[wt]
  omega
 | @ma1 e d ts out a ts1 out1 l ts2 out2 _ _ ih1 ih2 =>
  intro ht hw _ _
  have i:=ih1 ht hw okI.nil trivial
  have j:=ih2 (zeW i.suf ht) i.wf i.idx (by simp[zuG])
  refine⟨j.suf.trans i.suf,i.pre.trans j.pre,j.wf,j.idx,fun st h=>j.stk st (i.stk st h),?_,fun h1 h2=>j.dp h1 ?_⟩
  ·have v1:wt μ ts1+Wm μ out1 0 a≤wt μ ts+0:=i.wt
   have v2:wt μ ts2+(wt μ (tcS (tkI out2) l)+μ (tg e))≤wt μ ts1+wt μ (tcS (tkI out1) [a]):=j.wt
   rw[Wm0] at v1
   rw[show tcS (tkI out1) [a]=tkI out1 a by simp[tcS,tcG]] at v2
   show wt μ ts2+(wt μ (tcS (tkI out2) l)+μ (tg e))≤wt μ ts+0
   omega
  have d1:d+We out1 0 a≤64:=i.dp h1 h1
  rw[We0] at d1
  show d+zaV (enI out1) [a]≤64
  simp only[zaV]
  omega
 | @ml0 e l d t ts out hs =>
  intro ht hw hi _
  refine⟨List.suffix_cons _ _,List.prefix_refl _,hw,hi,fun st h=>h,?_,fun _ h=>h⟩
  have m:=zbY hμ hs
  show wt μ ts+(wt μ (tcS (tkI out) l)+μ (tg e))≤(μ t+wt μ ts)+wt μ (tcS (tkI out) l)
  omega
 | @ml1 e l d t ts out a ts1 out1 m ts2 out2 hs _ _ ih1 ih2 =>
  intro ht hw hi hl
  have hl:l≠[]:=hl
  have hi:okI out l:=hi
  have i:=ih1 (zbV ht) hw okI.nil trivial
  have il:=hi.pre i.pre
  have j:=ih2 (zeW i.suf (zbV ht)) i.wf (il.snoc i.idx) (by simp[zuG])
  refine⟨j.suf.trans (zdu i.suf),i.pre.trans j.pre,j.wf,j.idx,fun st h=>j.stk st ?_,?_,fun h1 h2=>j.dp h1 ?_⟩
  ·have:=i.stk (l.reverse++st) (by simpa [zev] using h)
   simpa [zev] using this
  ·have v1:wt μ ts1+Wm μ out1 0 a≤wt μ ts+0:=i.wt
   have v2:wt μ ts2+(wt μ (tcS (tkI out2) m)+μ (tg e))≤wt μ ts1+wt μ (tcS (tkI out1) (l++[a])):=j.wt
   have ms:=zbY hμ hs
   rw[Wm0] at v1
   rw[zuL _ hl,zcy,wt,zxS hw i.pre hi] at v2
   show wt μ ts2+(wt μ (tcS (tkI out2) m)+μ (tg e))≤(μ t+wt μ ts)+wt μ (tcS (tkI out) l)
   omega
  have d1:d+We out1 0 a≤64:=i.dp h1 h1
  have h2:d+zaV (enI out) l≤64:=h2
  rw[We0] at d1
  show d+zaV (enI out1) (l++[a])≤64
  rw[zol,zyU hw i.pre hi]
  simp only[zaV]
  omega
 | @prT d t ts out k hT =>
  intro ht hw _ _
  refine zgW hw (List.suffix_cons _ _) (by kernel_rfl) rfl (show (3:Int)≤4 by decide) (show rkS 3=7 by decide) ?_
  have m:=zkq hμ k
  rw[nk3 rfl]
  show wt μ ts+(μ (tn (Lib.formatBool (decide ((1:Int)=1))))+0)≤μ t+wt μ ts
  rw[m,hT,decide_eq_true rfl,zv1]
  omega
 | @prF d t ts out k hF =>
  intro ht hw _ _
  refine zgW hw (List.suffix_cons _ _) (by kernel_rfl) rfl (show (3:Int)≤4 by decide) (show rkS 3=7 by decide) ?_
  have m:=zkq hμ k
  rw[nk3 rfl]
  show wt μ ts+(μ (tn (Lib.formatBool (decide ((0:Int)=1))))+0)≤μ t+wt μ ts
  rw[m,hF,decide_eq_false (by decide),zu1]
  omega
 | @prR d t u v ts out k hT hF hu kv =>
  intro ht hw _ _
  have n1:=(ht t (by simp)).name k
  have n2:=(ht v (by simp)).name kv
  have hc:Lib.cut ((t.Text++[46])++v.Text) [46]=(t.Text,v.Text,true):=by
   have:=zu8 (y:=v.Text) n1
   simpa using this
  refine zgW hw (zdu (zdu (List.suffix_cons _ _))) ?_ rfl (show (4:Int)≤4 by decide) (show rkS 4=7 by decide) ?_
  ·have htr:zcp t.Text=false:=by simp[zcp,hT,hF]
   have hp:plS (nd 4 ((t.Text++[46])++v.Text) [])=true:=by
    rw[plS,if_neg (by simp[nd]),if_neg (by simp[nd]),if_pos (show (nd 4 ((t.Text++[46])++v.Text) []).Kind=4 from rfl)]
    show (zU ((t.Text++[46])++v.Text) && decide ((0:Int)=0) && !(zcp (Lib.cut ((t.Text++[46])++v.Text) [46]).1) && decide (([]:List Part)=[]))=true
    rw[zU,hc]
    simp[n1,n2,htr]
   simp only[zo,hp,Bool.and_true,Bool.or_eq_true,decide_eq_true_eq]
   exact .inl rfl
  have m1:=zkq hμ k
  have m2:=zkq hμ kv
  have m3:=zbY hμ hu
  rw[nk4 rfl]
  show wt μ ts+wt μ (zqH ((t.Text++[46])++v.Text))≤μ t+(μ u+(μ v+wt μ ts))
  rw[zqH,hc]
  simp only[wt]
  omega
 | @prC d t u ts out l ts1 out1 k hT hF hu hd _ ih =>
  intro ht hw _ _
  have n1:=(ht t (by simp)).name k
  have i:=ih (zbV (zbV ht)) hw okI.nil trivial
  have htr:zcp t.Text=false:=by simp[zcp,hT,hF]
  have hp:plS (nd 5 t.Text l)=true:=by
   rw[plS,if_neg (by simp[nd]),if_neg (by simp[nd]),if_neg (by simp[nd]),if_pos (show (nd 5 t.Text l).Kind=5 from rfl)]
   simp[nd,n1,htr]
  have hn:zo (nd 5 t.Text l)=true:=by
   simp only[zo,hp,Bool.and_true,Bool.or_eq_true,decide_eq_true_eq]
   exact .inr rfl
  have w:=nw μ i.wf hn i.idx
  refine⟨zdu (zdu i.suf),zgh i.pre,w.wf,w.idx,fun st h=>?_,?_,fun h1 h2=>?_⟩
  ·have:=Stk.snoc (i.stk st (by simpa [zev] using h)) hn (by simp[nd])
   simpa [nd] using this
  ·have e:=w.wm 7 (show (7:Int)≤rkS 5 by decide)
   have v:wt μ ts1+(wt μ (tcS (tkI out1) l)+μ (tg [41]))≤wt μ ts+0:=i.wt
   have m1:=zkq hμ k
   have m3:=zbY hμ hu
   show wt μ ts1+Wm μ (out1++[nd 5 t.Text l]) 7 ((out1.length:Nat):Int)≤(μ t+(μ u+wt μ ts))+0
   rw[e,w5 _ rfl]
   omega
  have e:=w.we 7 (show (7:Int)≤rkS 5 by decide)
  have d1:d+1+zaV (enI out1) l≤64:=i.dp (by omega) (by simp only[inE];omega)
  show d+We (out1++[nd 5 t.Text l]) 7 ((out1.length:Nat):Int)≤64
  rw[e,e56 _ (.inl rfl)]
  omega
 | @prN d t ts out k =>
  intro ht hw _ _
  have z:=(ht t (by simp)).num k
  refine zgW hw (List.suffix_cons _ _) ?_ rfl (show (1:Int)≤4 by decide) (show rkS 1=7 by decide) ?_
  ·have hp:plS (Node.mk 1 t.Num [] [] [])=true:=by
    rw[plS,if_pos rfl]
    simp[z]
   simp only[zo,hp,Bool.and_true,Bool.or_eq_true,decide_eq_true_eq]
   exact .inl rfl
  have m:μ t=μ (zmS t.Num):=hμ _ _ k (fun _=>rfl) (fun e=>by rw[k] at e;cases e) (fun e=>by rw[k] at e;rcases e with e | e <;> cases e)
  rw[nk1 rfl]
  show wt μ ts+(μ (zmS t.Num)+0)≤μ t+wt μ ts
  omega
 | @prS d t ts out k =>
  intro ht hw _ _
  have z:=(ht t (by simp)).parts k
  refine zgW hw (List.suffix_cons _ _) ?_ rfl (show (2:Int)≤4 by decide) (show rkS 2=7 by decide) ?_
  ·have hp:plS (Node.mk 2 0 [] t.Parts [])=true:=by
    rw[plS,if_neg (by simp),if_neg (by simp),if_neg (by simp),if_neg (by simp),if_pos rfl]
    simp[z]
   simp only[zo,hp,Bool.and_true,Bool.or_eq_true,decide_eq_true_eq]
   exact .inl rfl
  have m:μ t=μ (znj t.Parts):=hμ _ _ k (fun e=>by rw[k] at e;cases e) (fun _=>rfl) (fun e=>by rw[k] at e;rcases e with e | e <;> cases e)
  rw[nk2 rfl]
  show wt μ ts+(μ (znj t.Parts)+0)≤μ t+wt μ ts
  omega
 | @prL d t ts out l ts1 out1 hs hd _ ih =>
  intro ht hw _ _
  have i:=ih (zbV ht) hw okI.nil trivial
  have hn:zo (nd 6 [] l)=true:=zdL (by decide) (.inr rfl)
  have w:=nw μ i.wf hn i.idx
  refine⟨zdu i.suf,zgh i.pre,w.wf,w.idx,fun st h=>?_,?_,fun h1 h2=>?_⟩
  ·have:=Stk.snoc (i.stk st (by simpa [zev] using h)) hn (by simp[nd])
   simpa [nd] using this
  ·have e:=w.wm 7 (show (7:Int)≤rkS 6 by decide)
   have v:wt μ ts1+(wt μ (tcS (tkI out1) l)+μ (tg [93]))≤wt μ ts+0:=i.wt
   have m3:=zbY hμ hs
   show wt μ ts1+Wm μ (out1++[nd 6 [] l]) 7 ((out1.length:Nat):Int)≤(μ t+wt μ ts)+0
   rw[e,w6]
   omega
  have e:=w.we 7 (show (7:Int)≤rkS 6 by decide)
  have d1:d+1+zaV (enI out1) l≤64:=i.dp (by omega) (by simp only[inE];omega)
  show d+We (out1++[nd 6 [] l]) 7 ((out1.length:Nat):Int)≤64
  rw[e,e56 _ (.inr rfl)]
  omega
 | @prP d t ts out a u ts1 out1 hs hd _ hu ih =>
  intro ht hw _ _
  have i:=ih (zbV ht) hw okI.nil trivial
  refine⟨zdu (zmA i.suf),i.pre,i.wf,i.idx,i.stk,?_,fun h1 h2=>?_⟩
  ·have v:μ u+wt μ ts1+Wm μ out1 0 a≤wt μ ts+0:=i.wt
   have m:=zbY hμ hs
   have m':=zbY hμ hu
   have le:=zAA (μ:=μ) out1 7 a
   rw[Wm0] at v
   show wt μ ts1+Wm μ out1 7 a≤(μ t+wt μ ts)+0
   have q1:μ lpT=μ (tg [40]):=rfl
   have q2:μ rpT=μ (tg [41]):=rfl
   omega
  have d1:d+1+We out1 0 a≤64:=i.dp (by omega) (by simp only[inE];omega)
  have le:=zAx out1 7 a
  rw[We0] at d1
  show d+We out1 7 a≤64
  omega
end Go.Proofs.YtfbcnpbhhooapaaGreatDoor.M

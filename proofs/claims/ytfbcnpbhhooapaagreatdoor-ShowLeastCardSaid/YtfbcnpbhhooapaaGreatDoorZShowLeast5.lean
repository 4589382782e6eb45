/- Parts of a proof, one behind another: Wx11, Wx13, Wy3, Wy4, Wy5, Wy6, Sc8, Lt8, Wy7, WuA, Wx14, Wx15, Sc14, Lt14, Wx16, Wx17, Wp10, Wx12, Wy8, Shelf, XE, SpecShowLeast. -/
import Derived.Test.YtfbcnpbhhooapaaGreatDoorZShowLeast4
import Derived.KernelRfl
import Derived.Test.YtfbcnpbhhooapaaGreatDoorProg
import Derived.Shelf.Strings.Builder1
import Derived.Shelf.Strings.Builder2
import Derived.Shelf.Small.Strs
import Derived.Shelf.Small.Wraps
import Derived.Shelf.Strings.BuilderF
import Derived.Shelf.Strings.BuilderK
import Derived.Shelf.Utf8.RuneCount
import Derived.Shelf.Strings.Builder2Cap
import Derived.Shelf.Strconv.Atoi
import Derived.Shelf.Strconv.Itoa0
import Derived.Shelf.Strconv.Itoa1
import Derived.Shelf.LaysM
import Derived.Shelf.Strconv.Itoa2
import Derived.Shelf.Strconv.Itoa3
import Derived.Shelf.Strconv.AtoiErrFast
import Derived.Shelf.Strconv.ParseIntEmpty
import Derived.Shelf.Strconv.AtoiFail
import Derived.Shelf.Strconv.Clone
import Derived.Shelf.Strconv.SyntaxError
import Derived.Shelf.LaysC
import Derived.Shelf.Strconv.ToError
import Derived.Shelf.Strconv.AtoiErr
import Derived.Shelf.Strconv.Lower
import Derived.Shelf.Strconv.ParseUint10
import Derived.Shelf.Strconv.ParseUint10Empty
import Derived.Shelf.Strconv.ParseUint10Any
import Derived.Shelf.Strconv.ParseInt10
import Derived.Shelf.Strconv.AtoiLong
import Derived.Shelf.Strconv.AtoiInnerAll
import Derived.Shelf.Strconv.RangeError
import Derived.Shelf.Strconv.ToErrorRange
import Derived.Shelf.Strconv.AtoiAll
import Derived.Shelf.Strconv.ErrVarAll
import Derived.Shelf.Strings.Search1
import Derived.Shelf.Strings.Search2
import Derived.Shelf.Strings.Search3
import Derived.Shelf.Strings.Cut
import Derived.Shelf.Strings.Count
import Derived.Shelf.Strings.Shaped
import Derived.Shelf.Strings.Prefix
import Derived.Shelf.Strings.Split
import Derived.Shelf.Strings.Replace
import Derived.Shelf.Bits.Mul64
import Derived.Shelf.Strings.Repeat
import Derived.Shelf.Unicode.DecodeSlow
set_option linter.unusedSimpArgs false
set_option linter.unusedVariables false
set_option linter.unusedSectionVars false
set_option maxHeartbeats 4000000
namespace Go.Proofs.YtfbcnpbhhooapaaGreatDoor.M
open Go Classical
def H61 (x:List UInt8):Prop:=∃ c u,x=c::u∧c≠61
theorem H61.app {x:List UInt8} (h:H61 x) (t:List UInt8):H61 (x++t):=by
 obtain⟨c,u,rfl,h⟩:=h
 exact⟨c,u++t,rfl,h⟩
theorem H61.head {x:List UInt8} (h:H61 x):x.head?≠some 61:=by
 obtain⟨c,u,rfl,h⟩:=h
 simpa using h
def TT (x:List UInt8) (K:List Token):Prop:=H61 x∧∀ t L,FolN t→Lxs t L→Lxs (x++t) (K++L)
theorem TT.wr {l:List Node} {k:Int} (least:Int) (h:TT (txS l k.toNat) (tkI l k)):TT (wrS l (fun k=>txS l k.toNat) k least) (wrK l (tkI l) k least):=by
 unfold wrS wrK
 by_cases hr:rkK l k < least
 ·rw[if_pos hr,if_pos hr]
  refine⟨⟨40,txS l k.toNat++[41],rfl,by decide⟩,fun t L ht hL=>?_⟩
  have:=zrf (h.2 (41::t) (rpT::L) (FolN.cons (by decide) t) (zsx hL))
  simpa using this
 rw[if_neg hr,if_neg hr]
 exact h
theorem zl7 {o:Int→List UInt8} {t:List UInt8} (ht:FolN t):∀ ks:List Int,FolN (comG o ks++t)
 | []=>ht
 | k::r=>FolN.cons (c:=44) (by decide) _
theorem zmq {l:List Node} {t:List UInt8} {L:List Token} (ht:FolN t) (hL:Lxs t L):∀ ks:List Int,(∀ k ∈ ks,TT (txS l k.toNat) (tkI l k))→Lxs (comG (fun k=>txS l k.toNat) ks++t) (tcG (tkI l) ks++L)
 | [],_=>hL
 | k::r,h=>by
  have h1:=zmq ht hL r fun q hq=>h q (List.mem_cons_of_mem _ hq)
  have h2:=(h k (List.mem_cons_self ..)).2 _ _ (zl7 ht r) h1
  have h3:=zb8 (c:=44) (by simp) (zdj (c:=32) (by decide) h2)
  rw[comG,tcG]
  simpa [List.append_assoc] using h3
theorem zmv {l:List Node} {t:List UInt8} {L:List Token} (ht:FolN t) (hL:Lxs t L) (ks:List Int) (h:∀ k ∈ ks,TT (txS l k.toNat) (tkI l k)):Lxs (comS (fun k=>txS l k.toNat) ks++t) (tcS (tkI l) ks++L):=by
 cases ks with
 | nil=>exact hL
 | cons k r =>
  have h1:=zmq ht hL r fun q hq=>h q (List.mem_cons_of_mem _ hq)
  have h2:=(h k (List.mem_cons_self ..)).2 _ _ (zl7 ht r) h1
  rw[comS,tcS]
  simpa [List.append_assoc] using h2
theorem zir {x:List UInt8} (h:zak x=true):H61 x:=by
 cases x with
 | nil=>exact absurd (ztX h) (by simp)
 | cons c u =>
  refine⟨c,u,rfl,fun e=>?_⟩
  have:=zcG h c (List.mem_cons_self ..)
  rw[e] at this
  exact absurd this (by decide)
theorem zsR {n:Node} (h:zi n=true) (k:n.Kind=1):0≤n.Num:=by
 have hp:=zbD h
 rw[plS,if_pos k] at hp
 simp only[Bool.and_eq_true,decide_eq_true_eq] at hp
 exact hp.1.1
theorem zwG {n:Node} (h:zi n=true) (k:n.Kind=2):zx false n.Parts=true:=by
 have hp:=zbD h
 rw[plS,if_neg (by omega),if_neg (by omega),if_neg (by omega),if_neg (by omega),if_pos k] at hp
 simp only[Bool.and_eq_true,decide_eq_true_eq] at hp
 exact hp.2
theorem zs6 {z:Int} (h0:0≤z):H61 (Lib.itoa z):=by
 obtain⟨n,rfl⟩:∃ n:Nat,z=n:=⟨z.toNat,by omega⟩
 have hd:=zhL n n (Nat.le_refl _)
 have hi:Lib.itoa (n:Int)=Lib.decDigits n:=by simp[Lib.itoa]
 have hne:Lib.decDigits n≠[]:=by
  rw[Lib.decDigits]
  split <;> simp
 rw[hi]
 generalize Lib.decDigits n=D at *
 cases D with
 | nil=>exact absurd rfl hne
 | cons c u =>
  refine⟨c,u,rfl,fun e=>?_⟩
  have:=(hd c (List.mem_cons_self ..)).2
  rw[e] at this
  exact absurd this (by decide)
theorem zxM {l:List Node} (h:TR l):∀ (e:Nat),e < l.length→TT (txS l e) (tkS l e):=by
 intro e
 induction e using Nat.strongRecOn with
 | _ e ih =>
  intro he
  obtain⟨hok,hk,hlen⟩:=h.node e he
  have hs:=h.ns _ (List.getElem_mem he)
  have ihk:∀ k ∈ l[e].Kids,TT (txS l k.toNat) (tkI l k):=fun k hk'=>by
   have h1:=hk k hk'
   exact ih k.toNat (by omega) (by omega)
  have htk:tkS l e=ndK l (tkI l) l[e]:=zdS he hok hk
  rw[zfu he hok hk,htk]
  generalize l[e]=n at *
  have hkl:=zaS hok
  have ikd:∀ i,i < n.Kids.length→TT (txS l (kid n i).toNat) (tkI l (kid n i)):=fun i hi=>ihk _ (zl hi)
  by_cases k1:n.Kind=1
  ·rw[nd1 k1,nk1 k1]
   have z0:=zsR hok k1
   exact⟨zs6 z0,fun t L ht hL=>ztD z0 hs.num.2 ht hL⟩
  by_cases k2:n.Kind=2
  ·rw[nd2 k2,nk2 k2]
   exact⟨⟨34,_,rfl,by decide⟩,fun t L ht hL=>ztK (zwG hok k2) hL⟩
  by_cases k3:n.Kind=3
  ·rw[nd3 k3,nk3 k3]
   have hn:zak (Lib.formatBool (decide (n.Num=1)))=true:=by
    by_cases hb:n.Num=1
    ·rw[decide_eq_true hb,zfn];decide
    rw[decide_eq_false hb,zen];decide
   exact⟨zir hn,fun t L ht hL=>zeZ hn ht hL⟩
  by_cases k4:n.Kind=4
  ·rw[nd4 k4,nk4 k4]
   obtain⟨h1,h2,hf⟩:=zqc hok k4
   obtain⟨x,y,hxy,hx,hy⟩:=zbX h1
   have hc:Lib.cut n.Text [46]=(x,y,true):=by rw[hxy];exact zfT hx
   rw[zgT,hc,hxy]
   refine⟨(zir hx).app _,fun t L ht hL=>?_⟩
   have:=zeZ hx (FolN.cons (c:=46) (by decide) _) (zb8 (c:=46) (by simp) (zeZ hy ht hL))
   simpa [List.append_assoc] using this
  by_cases k5:n.Kind=5
  ·rw[nd5 k5,nk5 k5]
   obtain⟨h1,h2,hf⟩:=zpJ hok k5
   refine⟨((zir h1).app _).app _ |>.app _,fun t L ht hL=>?_⟩
   have:=zeZ h1 (FolN.cons (c:=40) (by decide) _) (zrf (zmv (FolN.cons (c:=41) (by decide) t) (zsx hL) n.Kids ihk))
   simpa [List.append_assoc] using this
  by_cases k6:n.Kind=6
  ·rw[nd6 k6,nk6 k6]
   refine⟨⟨91,_,rfl,by decide⟩,fun t L ht hL=>?_⟩
   have:=zb8 (c:=91) (by simp) (zmv (FolN.cons (c:=93) (by decide) t) (zb8 (c:=93) (by simp) hL) n.Kids ihk)
   simpa [List.append_assoc] using this
  by_cases k7:n.Kind=7
  ·have hc:=kdk hok 7 2 k7 (by decide) (by decide) (by decide)
   rw[nd7 k7,nk7 k7]
   have w:=(ikd 0 (by omega)).wr 7
   refine⟨((w.1.app _).app _).app _,fun t L ht hL=>?_⟩
   have:=w.2 _ _ (FolN.cons (c:=91) (by decide) _) (zb8 (c:=91) (by simp) ((ikd 1 (by omega)).2 _ _ (FolN.cons (c:=93) (by decide) t) (zb8 (c:=93) (by simp) hL)))
   simpa [List.append_assoc] using this
  by_cases k8:n.Kind=8
  ·have hc:=kdk hok 8 1 k8 (by decide) (by decide) (by decide)
   rw[nd8 k8,nk8 k8]
   have w:=(ikd 0 (by omega)).wr 6
   refine⟨⟨33,_,rfl,by decide⟩,fun t L ht hL=>?_⟩
   exact zsW (w.1.app t).head (w.2 t L ht hL)
  by_cases k9:n.Kind=9
  ·have hc:=kdk hok 9 1 k9 (by decide) (by decide) (by decide)
   rw[nd9 k9,nk9 k9]
   have w:=(ikd 0 (by omega)).wr 6
   exact⟨⟨45,_,rfl,by decide⟩,fun t L ht hL=>zb8 (c:=45) (by simp) (w.2 t L ht hL)⟩
  by_cases k10:n.Kind=10
  ·have hc:=kdk hok 10 3 k10 (by decide) (by decide) (by decide)
   rw[zl2 k10,zin k10]
   have w:=(ikd 0 (by omega)).wr 1
   refine⟨((w.1.app _).app _ |>.app _).app _,fun t L ht hL=>?_⟩
   have h2:=(ikd 2 (by omega)).2 t L ht hL
   have h1:=(ikd 1 (by omega)).2 _ _ (FolN.cons (c:=32) (by decide) _) (zdj (c:=32) (by decide) (zb8 (c:=58) (by simp) (zdj (c:=32) (by decide) h2)))
   have:=w.2 _ _ (FolN.cons (c:=32) (by decide) _) (zdj (c:=32) (by decide) (zb8 (c:=63) (by simp) (zdj (c:=32) (by decide) h1)))
   simpa [List.append_assoc] using this
  have hc:=kd2 hok (by omega)
  rw[zjW (by omega),zg5 (by omega)]
  generalize (if rkS n.Kind=3 then rkS n.Kind+1 else rkS n.Kind)=q
  have w:=(ikd 0 (by omega)).wr q
  have w1:=(ikd 1 (by omega)).wr (rkS n.Kind+1)
  refine⟨((w.1.app _).app _ |>.app _).app _,fun t L ht hL=>?_⟩
  have:=w.2 _ _ (FolN.cons (c:=32) (by decide) _) (zxb (k:=n.Kind) (by omega) (by omega) (w1.2 t L ht hL))
  simpa [List.append_assoc] using this
theorem zsD {l:List Node} (h:TR l) (h6:(exS l).length≤6000):zaI (exS l) l 0∨zaI (exS l) [] 6:=by
 have h0:=zed h.tree
 have ht:=(zxM h (l.length - 1) (by omega)).2 [] [eT] FolN.nil zwe
 rw[List.append_nil] at ht
 have hx:exS l=txS l (l.length - 1):=by rw[exS,if_pos h.tree]
 rw[←hx] at ht
 rcases zpB h with⟨ts,o,hb⟩ | hb
 ·exact .inl (zqG h6 ht hb)
 exact .inr (zr9 h6 ht hb (by decide))
theorem zjE (C:Nat) (l:List Node) (e:Nat) (hf:∀ j < e,∃ b:Nat,zar l j=b∧(txS l j).length+C*b≤C*(j+1)):∀ (st:List Int) (i k:Nat),i≤e→Ch l i st→k≤st.length→∃ b:Nat,b≤i∧Bk.run (fun k=>((zaH l e)[k.toNat]?).getD 0) i (st.take k)=b∧(∀ s ∈ st.take k,0≤s∧s < (i:Int))∧zT (fun k=>txS l k.toNat) (st.take k)+C*b≤C*i
 | st,i,0,_,h,_=>⟨i,Nat.le_refl _,rfl,by simp,by simp[zT]⟩
 | [],i,k+1,_,_,hk=>absurd hk (by simp)
 | s::st,i,k+1,hi,⟨h0,hs,b,hb,hc⟩,hk=>by
  have hle:=zbw l (i - 1)
  obtain⟨b',h1,h2,h3,h4⟩:=zjE C l e hf st b k (by omega) hc (by simpa using hk)
  obtain⟨b2,hb2,hl2⟩:=hf (i - 1) (by omega)
  have e1:s.toNat=i - 1:=by omega
  have e2:b2=b:=by omega
  rw[e2,show i - 1+1=i by omega] at hl2
  refine⟨b',by omega,?_,?_,?_⟩
  ·rw[List.take_succ_cons,Bk.run]
   have e2:((zaH l e)[s.toNat]?).getD 0=b:=by rw[e1,zbT l (show i - 1 < e by omega),Option.getD_some,hb]
   simp only[e2]
   rw[if_neg (by omega),if_neg (by omega)]
   exact h2
  ·intro q hq
   rw[List.take_succ_cons] at hq
   rcases List.mem_cons.1 hq with rfl | hq
   ·omega
   have:=h3 q hq;omega
  rw[List.take_succ_cons,zT]
  simp only[e1]
  omega
theorem zsy (C:Nat) {l:List Node} (ht:zaU l=true) (hn:∀ n ∈ l,zi n=true→∀ o:Int→List UInt8,(ndS l o n).length≤C+zT o n.Kids):∀ (e:Nat) (he:e < l.length),zi l[e]=true∧(∀ k ∈ l[e].Kids,0≤k∧k < (e:Int))∧∃ b:Nat,zar l e=b∧(txS l e).length+C*b≤C*(e+1):=by
 have hst:=ziV l l.length 0 [] (by omega) rfl (by rw[List.drop_zero,←zf7];exact ht)
 intro e
 induction e using Nat.strongRecOn with
 | _ e ih =>
  intro he
  obtain⟨h1,st,h2,h3,h4⟩:=hst e he (Nat.zero_le _)
  obtain⟨b,b1,b2,b3,b4⟩:=zjE C l e (fun j hj=>(ih j hj (by omega)).2.2) st e l[e].Kids.length (Nat.le_refl _) h2 h3
  rw[h4] at b2 b3 b4
  have hk:∀ k ∈ l[e].Kids,0≤k∧k < (e:Int):=fun k hk=>b3 k (List.mem_reverse.2 hk)
  refine⟨h1,hk,b,?_,?_⟩
  ·rw[zel l (List.getElem?_eq_getElem he),if_pos h1]
   exact b2
  rw[zeE] at b4
  rw[zfu he h1 hk]
  have:=hn _ (List.getElem_mem he) h1 (fun k=>txS l k.toNat)
  rw[Nat.mul_add]
  omega
theorem zsN (C:Nat) {l:List Node} (ht:zaU l=true) (hn:∀ n ∈ l,zi n=true→∀ o:Int→List UInt8,(ndS l o n).length≤C+zT o n.Kids):(exS l).length≤C*l.length:=by
 have h0:=zed ht
 obtain⟨_,_,b,hb,h⟩:=zsy C ht hn (l.length - 1) (by omega)
 rw[exS,if_pos ht]
 rw[show l.length - 1+1=l.length by omega] at h
 omega
def Stk (l:List Node) (st:List Int):Prop:=∀ rest,stk 0 [] (l++rest)=stk l.length st rest
theorem Stk.nil:Stk [] []:=fun _=>rfl
theorem Stk.snoc {l:List Node} {st:List Int} (h:Stk l st) {n:Node} (hn:zi n=true) (hk:st.take n.Kids.length=n.Kids.reverse):Stk (l++[n]) ((l.length:Int)::st.drop n.Kids.length):=fun rest=>by
 rw[List.append_assoc,h,List.singleton_append,stk,if_pos ⟨hn,hk⟩,List.length_append]
 rfl
theorem Stk.tree {l:List Node} {st:List Int} (h:Stk l st) (h1:st.length=1):zaU l=true:=by
 have:=h []
 rw[List.append_nil] at this
 rw[zf7,this,stk,decide_eq_true h1]
theorem Stk.made {l:List Node} {st:List Int} (h:Stk l st.reverse) {k:Nat} (hk:k≤st.length) {n:Node} (hn:zi n=true) (hd:n.Kids=st.drop (st.length - k)):Stk (l++[n]) (st.take (st.length - k)++[(l.length:Int)]).reverse:=by
 have hl:n.Kids.length=k:=by rw[hd,List.length_drop];omega
 have:=h.snoc hn (by rw[hl,hd,List.reverse_drop,show st.length - (st.length - k)=k by omega])
 rw[List.reverse_append,List.reverse_singleton,List.singleton_append]
 rw[hl] at this
 rwa [List.reverse_take,show st.length - (st.length - k)=k by omega]
theorem zlQ {k:Int} (h0:11≤k) (h1:k≤23):kdS k=2:=by
 unfold kdS
 repeat' split
 all_goals omega
def Mu (μ:Token→Nat):Prop:=∀ t u:Token,t.Kind=u.Kind→(t.Kind=1→t.Num=u.Num)→(t.Kind=2→t.Parts=u.Parts)→(t.Kind=3∨t.Kind=4→t.Text=u.Text)→μ t=μ u
def wt (μ:Token→Nat):List Token→Nat
 | []=>0
 | t::r=>μ t+wt μ r
theorem zay (μ:Token→Nat):∀ a b,wt μ (a++b)=wt μ a+wt μ b
 | [],b=>by simp[wt]
 | t::a,b=>by rw[List.cons_append,wt,wt,zay μ a b];omega
structure TkG (t:Token):Prop where
 name:t.Kind=3→zak t.Text=true
 num:t.Kind=1→0≤t.Num
 parts:t.Kind=2→zx false t.Parts=true
def zdm:Lv→List Int
 | .lp _ a=>[a]
 | .pl a=>[a]
 | .ml _ l=>l
 | _=>[]
def LL (r:Nat):Int:=if r=2 then 4 else (r:Int)+1
def lst:Lv→Int
 | .ex=>0
 | .ch r=>(r:Int)+1
 | .lp r _=>(r:Int)+1
 | .un=>6
 | _=>7
def Wm (μ:Token→Nat) (l:List Node) (least k:Int):Nat:=wt μ (wrK l (tkI l) k least)
def We (l:List Node) (least k:Int):Nat:=wrE l (enI l) k least
def inW (μ:Token→Nat) (out:List Node):Lv→Nat
 | .lp r a=>Wm μ out (LL r) a
 | .pl a=>Wm μ out 7 a
 | .ml _ l=>wt μ (tcS (tkI out) l)
 | _=>0
def ouW (μ:Token→Nat) (out:List Node) (l:List Int):Lv→Nat
 | .ma e=>wt μ (tcS (tkI out) l)+μ (tg e)
 | .ml e _=>wt μ (tcS (tkI out) l)+μ (tg e)
 | lv=>Wm μ out (lst lv) (l.headD 0)
def inE (out:List Node):Lv→Nat
 | .lp r a=>We out (LL r) a
 | .pl a=>We out 7 a
 | .ml _ l=>zaF (enI out) l
 | _=>0
def ouE (out:List Node) (l:List Int):Lv→Nat
 | .ma _=>zaF (enI out) l
 | .ml _ _=>zaF (enI out) l
 | lv=>We out (lst lv) (l.headD 0)
def okI (out:List Node) (l:List Int):Prop:=∀ a ∈ l,0≤a∧a < (out.length:Int)
structure Iv (μ:Token→Nat) (lv:Lv) (d:Nat) (ts:List Token) (out:List Node) (l:List Int) (ts':List Token) (out':List Node):Prop where
 suf:ts' <:+ ts
 pre:out <+: out'
 wf:WF out'
 idx:okI out' l
 stk:∀ st,Stk out ((zdm lv).reverse++st)→Stk out' (l.reverse++st)
 wt:M.wt μ ts'+ouW μ out' l lv≤M.wt μ ts+inW μ out lv
 dp:d≤64→d+inE out lv≤64→d+ouE out' l lv≤64
section
variable {μ:Token→Nat}
theorem zhE {l:List Node} {a b k:Int} (h:a≤b):Wm μ l a k≤Wm μ l b k:=by
 unfold Wm wrK
 by_cases h1:rkK l k < a
 ·rw[if_pos h1,if_pos (by omega)];exact Nat.le_refl _
 rw[if_neg h1]
 split
 ·rw[wt,zay];omega
 exact Nat.le_refl _
theorem zhD {l:List Node} {a b k:Int} (h:a≤b):We l a k≤We l b k:=by
 unfold We wrE
 by_cases h1:rkK l k < a
 ·rw[if_pos h1,if_pos (by omega)];exact Nat.le_refl _
 rw[if_neg h1]
 split <;> omega
theorem rk0 (l:List Node) (k:Int):0≤rkK l k∧rkK l k≤7:=by
 unfold rkK
 split
 ·unfold rkS
  repeat' split
  all_goals omega
 omega
theorem Wm0 (l:List Node) (k:Int):Wm μ l 0 k=wt μ (tkI l k):=by
 unfold Wm wrK
 rw[if_neg (by have:=rk0 l k;omega)]
theorem We0 (l:List Node) (k:Int):We l 0 k=enI l k:=by
 unfold We wrE
 rw[if_neg (by have:=rk0 l k;omega)]
theorem zx7 (l:List Node) (least k:Int):Wm μ l least k≤μ lpT+(wt μ (tkI l k)+μ rpT):=by
 unfold Wm wrK
 split
 ·rw[wt,zay,wt,wt];omega
 omega
theorem zyB (l:List Node) (least k:Int):We l least k≤1+enI l k:=by
 unfold We wrE
 split <;> omega
theorem zgF {l l':List Node} (h:WF l) (p:l <+: l') {k:Int} (h0:0≤k∧k < (l.length:Int)) (least:Int):Wm μ l' least k=Wm μ l least k:=by
 obtain⟨z,rfl⟩:=p
 unfold Wm
 rw[zwj h z h0.1 h0.2]
theorem zgQ {l l':List Node} (h:WF l) (p:l <+: l') {k:Int} (h0:0≤k∧k < (l.length:Int)) (least:Int):We l' least k=We l least k:=by
 obtain⟨z,rfl⟩:=p
 unfold We
 rw[zvS h z h0.1 h0.2]
theorem zxF {l l':List Node} (h:WF l) (p:l <+: l') {ks:List Int} (hk:∀ k ∈ ks,0≤k∧k < (l.length:Int)):tcS (tkI l') ks=tcS (tkI l) ks:=by
 obtain⟨z,rfl⟩:=p
 exact zvg h z hk
theorem zxt {l l':List Node} (h:WF l) (p:l <+: l') {ks:List Int} (hk:∀ k ∈ ks,0≤k∧k < (l.length:Int)):zaF (enI l') ks=zaF (enI l) ks:=by
 obtain⟨z,rfl⟩:=p
 exact zqN h z hk
theorem zbr (hμ:Mu μ) {s:List UInt8} {t:Token} (h:Sg s t):μ t=μ (tg s):=hμ _ _ h.1 (fun e=>by rw[h.1] at e;cases e) (fun e=>by rw[h.1] at e;cases e) (fun _=>h.2)
theorem zjQ (hμ:Mu μ) {t:Token} (h:t.Kind=3):μ t=μ (tn t.Text):=hμ _ _ h (fun e=>by rw[h] at e;cases e) (fun e=>by rw[h] at e;cases e) (fun _=>rfl)
structure Nw (μ:Token→Nat) (out:List Node) (n:Node):Prop where
 wf:WF (out++[n])
 idx:okI (out++[n]) [((out.length:Nat):Int)]
 wm:∀ least,least≤rkS n.Kind→Wm μ (out++[n]) least ((out.length:Nat):Int)=wt μ (ndK out (tkI out) n)
 we:∀ least,least≤rkS n.Kind→We (out++[n]) least ((out.length:Nat):Int)=ndE out (enI out) n
theorem nw (μ:Token→Nat) {out:List Node} (hw:WF out) {n:Node} (hn:zi n=true) (hk:okI out n.Kids):Nw μ out n:=by
 obtain⟨h1,h2⟩:=zwD hw hn hk
 have h3:=zwE hw hn hk
 refine⟨hw.snoc hn hk,fun a ha=>?_,fun least hl=>?_,fun least hl=>?_⟩
 ·rw[List.mem_singleton.1 ha,List.length_append]
  simp
  omega
 ·rw[Wm,wrK,h2,if_neg (by omega),h1]
 rw[We,wrE,h2,if_neg (by omega),h3]
theorem okI.one {out:List Node} {a:Int} (h:okI out [a]):0≤a∧a < (out.length:Int):=h a (by simp)
theorem okI.pre {out out':List Node} {l:List Int} (h:okI out l) (p:out <+: out'):okI out' l:=fun a ha=>by
 have:=h a ha
 have:=p.length_le
 omega
theorem okI.two {out:List Node} {a b:Int} (h:okI out [a]) (h':okI out [b]):okI out [a,b]:=fun c hc=>by
 rcases List.mem_cons.1 hc with rfl | hc
 ·exact h.one
 exact h' c hc
theorem okI.snoc {out:List Node} {l:List Int} {b:Int} (h:okI out l) (h':okI out [b]):okI out (l++[b]):=fun c hc=>by
 rcases List.mem_append.1 hc with hc | hc
 ·exact h c hc
 exact h' c hc
theorem zqy {r:Nat} (hr:r < 5) {s:List UInt8} {kind:Int} (h:opS r s=some kind):11≤kind∧kind≤23∧rkS kind=(r:Int)+1∧zaq kind=s:=by
 have five:r=0∨r=1∨r=2∨r=3∨r=4:=by omega
 rcases five with rfl | rfl | rfl | rfl | rfl <;>
 simp only[opS,zjI,zmo,zby] at h
 repeat' split at h
 all_goals first
  | (simp only[Option.map_some,Option.some.injEq] at h;subst h;subst_vars;exact⟨by decide,by decide,by decide,by decide⟩)
  | (cases h)
theorem zcv {k:Int} {ks:List Int} (h6:6≤k) (hd:kdS k=(ks.length:Nat)∨kdS k=-1):zi (nd k [] ks)=true:=by
 have hp:plS (nd k [] ks)=true:=by
  rw[plS,if_neg (by simp only[nd];omega),if_neg (by simp only[nd];omega),if_neg (by simp only[nd];omega),if_neg (by simp only[nd];omega),if_neg (by simp only[nd];omega)]
  simp[nd]
 simp only[zi,hp,Bool.and_true,Bool.or_eq_true,decide_eq_true_eq]
 exact hd
theorem zoz (o:Int→List Token):∀ (a b:List Int),tcG o (a++b)=tcG o a++tcG o b
 | [],b=>rfl
 | k::a,b=>by rw[List.cons_append,tcG,tcG,zoz o a b];simp
theorem ztb (o:Int→List Token) {l:List Int} (h:l≠[]) (a:Int):tcS o (l++[a])=tcS o l++tg [44]::o a:=by
 cases l with
 | nil=>exact absurd rfl h
 | cons k r=>rw[List.cons_append,tcS,tcS,zoz];simp[tcG]
theorem w5 (l:List Node) {k:Int} (hk:k=5) (t:List UInt8) (ks:List Int):wt μ (ndK l (tkI l) (nd k t ks))=μ (tn t)+(μ (tg [40])+(wt μ (tcS (tkI l) ks)+μ (tg [41]))):=by
 rw[nk5 hk];simp only[zay,wt,nd];rfl
theorem w6 (l:List Node) (ks:List Int):wt μ (ndK l (tkI l) (nd 6 [] ks))=μ (tg [91])+(wt μ (tcS (tkI l) ks)+μ (tg [93])):=by
 rw[nk6 rfl];simp only[zay,wt,nd];rfl
theorem w7 (l:List Node) (a b:Int):wt μ (ndK l (tkI l) (nd 7 [] [a,b]))=Wm μ l 7 a+(μ (tg [91])+(Wm μ l 0 b+μ (tg [93]))):=by
 rw[nk7 rfl,Wm0];simp only[zay,wt];rfl
theorem w8 (l:List Node) (a:Int):wt μ (ndK l (tkI l) (nd 8 [] [a]))=μ (tg [33])+Wm μ l 6 a:=by
 rw[nk8 rfl];rfl
theorem w9 (l:List Node) (a:Int):wt μ (ndK l (tkI l) (nd 9 [] [a]))=μ (tg [45])+Wm μ l 6 a:=by
 rw[nk9 rfl];rfl
theorem w10 (l:List Node) (a b x:Int):wt μ (ndK l (tkI l) (nd 10 [] [a,b,x]))=Wm μ l 1 a+(μ (tg [63])+(Wm μ l 0 b+(μ (tg [58])+Wm μ l 0 x))):=by
 rw[zin rfl,Wm0,Wm0];simp only[zay,wt];rfl
theorem w11 (l:List Node) {k:Int} (h:10 < k) (a b:Int):wt μ (ndK l (tkI l) (nd k [] [a,b]))=Wm μ l (if rkS k=3 then rkS k+1 else rkS k) a+(μ (tg (zaq k))+Wm μ l (rkS k+1) b):=by
 rw[zg5 h];simp only[zay,wt];rfl
theorem e56 (l:List Node) {k:Int} (hk:k=5∨k=6) (t:List UInt8) (ks:List Int):ndE l (enI l) (nd k t ks)=1+zaF (enI l) ks:=ne5 hk
theorem e7 (l:List Node) (a b:Int):ndE l (enI l) (nd 7 [] [a,b])=max (We l 7 a) (1+We l 0 b):=by rw[ne7 rfl,We0];rfl
theorem e89 (l:List Node) {k:Int} (hk:k=8∨k=9) (a:Int):ndE l (enI l) (nd k [] [a])=1+We l 6 a:=by rw[ne8 hk];rfl
theorem e10 (l:List Node) (a b x:Int):ndE l (enI l) (nd 10 [] [a,b,x])=max (We l 1 a) (1+max (We l 0 b) (We l 0 x)):=by rw[zth rfl,We0,We0];rfl
theorem e11 (l:List Node) {k:Int} (h:10 < k) (a b:Int):ndE l (enI l) (nd k [] [a,b])=max (We l (if rkS k=3 then rkS k+1 else rkS k) a) (We l (rkS k+1) b):=by rw[ztj h];rfl
end
def ztg:Lv→Prop
 | .ml _ l=>l≠[]
 | .ch r=>r≤5
 | .lp r _=>r < 5
 | _=>True
theorem zdz {ts ts':List Token} (h:ts' <:+ ts) (h':∀ t ∈ ts,TkG t):∀ t ∈ ts',TkG t:=fun t ht=>h' t (h.subset ht)
theorem zbs {t:Token} {ts:List Token} (h:∀ x ∈ t::ts,TkG x):∀ x ∈ ts,TkG x:=fun x hx=>h x (List.mem_cons_of_mem _ hx)
theorem okI.nil {out:List Node}:okI out []:=fun a ha=>by cases ha
theorem zcq {t:Token} {a b:List Token} (h:a <:+ b):a <:+ t::b:=h.trans (List.suffix_cons _ _)
theorem zlS {t:Token} {a b:List Token} (h:t::a <:+ b):a <:+ b:=(List.suffix_cons _ _).trans h
theorem zeV {a b:List Node} {n:Node} (h:a <+: b):a <+: b++[n]:=h.trans (List.prefix_append _ _)
theorem zfz {μ:Token→Nat} {d:Nat} {ts ts':List Token} {out:List Node} {n:Node} (hw:WF out) (hs:ts' <:+ ts) (hn:zi n=true) (h0:n.Kids=[]) (h4:n.Kind≤4) (hr:rkS n.Kind=7) (hwt:wt μ ts'+wt μ (ndK out (tkI out) n)≤wt μ ts):Iv μ .pr d ts out [((out.length:Nat):Int)] ts' (out++[n]):=by
 have w:=nw μ hw hn (by rw[h0];exact okI.nil)
 refine⟨hs,List.prefix_append _ _,w.wf,w.idx,fun st h=>?_,?_,fun h1 h2=>?_⟩
 ·exact Stk.snoc (by simpa [zdm] using h) hn (by rw[h0];rfl) |> fun h=>by rw[h0] at h;exact h
 ·have e:=w.wm 7 (by omega)
  show wt μ ts'+Wm μ (out++[n]) 7 ((out.length:Nat):Int)≤wt μ ts+0
  omega
 have e:=w.we 7 (by omega)
 show d+We (out++[n]) 7 ((out.length:Nat):Int)≤64
 rw[e,ne4 h4]
 exact h1
theorem zyp {μ:Token→Nat} (hμ:Mu μ) {lv:Lv} {d:Nat} {ts:List Token} {out:List Node} {l:List Int} {ts':List Token} {out':List Node} (h:Dr lv d ts out l ts' out'):(∀ t ∈ ts,TkG t)→WF out→okI out (zdm lv)→ztg lv→Iv μ lv d ts out l ts' out':=by
 induction h with
 | ex0 _ ih =>
  intro ht hw _ _
  have i:=ih ht hw okI.nil (Nat.zero_le _)
  refine⟨i.suf,i.pre,i.wf,i.idx,i.stk,Nat.le_trans (Nat.add_le_add_left (zhE (by simp[lst])) _) i.wt,fun h1 h2=>Nat.le_trans (Nat.add_le_add_left (zhD (by simp[lst])) _) (i.dp h1 h2)⟩
 | @ex1 d ts out a q ts1 out1 b c ts2 out2 x ts3 out3 _ hq hd _ hc _ ih1 ih2 ih3 =>
  intro ht hw _ _
  have i1:=ih1 ht hw okI.nil (Nat.zero_le _)
  have ht1:=zbs (zdz i1.suf ht)
  have i2:=ih2 ht1 i1.wf okI.nil trivial
  have ht2:=zbs (zdz i2.suf ht1)
  have i3:=ih3 ht2 i2.wf okI.nil trivial
  have p1:=i2.pre.trans i3.pre
  have ia:=i1.idx.pre p1
  have ib:=i2.idx.pre i3.pre
  have hn:zi (nd 10 [] [a,b,x])=true:=zcv (by decide) (.inl (show kdS 10=((3:Nat):Int) by decide))
  have w:=nw μ i3.wf hn (fun k hk=>by
   rcases List.mem_cons.1 hk with rfl | hk
   ·exact ia.one
   exact (ib.two i3.idx) k hk)
  have hr:(0:Int)≤rkS (nd 10 [] [a,b,x]).Kind:=show (0:Int)≤rkS 10 by decide
  refine⟨i3.suf.trans (zlS (i2.suf.trans (zlS i1.suf))),zeV (i1.pre.trans p1),w.wf,w.idx,fun st hs=>?_,?_,fun h1 h2=>?_⟩
  ·have s1:=i1.stk st hs
   have s2:=i2.stk (a::st) (by simpa [zdm] using s1)
   have s3:=i3.stk (b::a::st) (by simpa [zdm] using s2)
   exact Stk.snoc (by simpa [zdm] using s3) hn (by simp[nd])
  ·have e:=w.wm 0 hr
   have v1:wt μ (q::ts1)+Wm μ out1 1 a≤wt μ ts+0:=i1.wt
   have v2:wt μ (c::ts2)+Wm μ out2 0 b≤wt μ ts1+0:=i2.wt
   have v3:wt μ ts3+Wm μ out3 0 x≤wt μ ts2+0:=i3.wt
   have m1:=zbr hμ hq
   have m2:=zbr hμ hc
   show wt μ ts3+Wm μ (out3++[nd 10 [] [a,b,x]]) 0 ((out3.length:Nat):Int)≤wt μ ts+0
   rw[e,w10,zgF i1.wf p1 i1.idx.one,zgF i2.wf i3.pre i2.idx.one]
   simp only[wt] at v1 v2
   omega
  have e:=w.we 0 hr
  have d1:d+We out1 1 a≤64:=i1.dp h1 h1
  have d2:d+1+We out2 0 b≤64:=i2.dp (by omega) (by simp only[inE];omega)
  have d3:d+1+We out3 0 x≤64:=i3.dp (by omega) (by simp only[inE];omega)
  show d+We (out3++[nd 10 [] [a,b,x]]) 0 ((out3.length:Nat):Int)≤64
  rw[e,e10,zgQ i1.wf p1 i1.idx.one,zgQ i2.wf i3.pre i2.idx.one]
  omega
 | ch5 _ ih =>
  intro ht hw _ _
  have i:=ih ht hw okI.nil trivial
  exact⟨i.suf,i.pre,i.wf,i.idx,i.stk,i.wt,i.dp⟩
 | @chr r d ts out a ts1 out1 b ts2 out2 hr _ _ ih1 ih2 =>
  intro ht hw _ _
  have i1:=ih1 ht hw okI.nil (show r+1≤5 by omega)
  have i2:=ih2 (zdz i1.suf ht) i1.wf i1.idx hr
  have hL:LL r≤((r+1:Nat):Int)+1:=by unfold LL;split <;> omega
  refine⟨i2.suf.trans i1.suf,i1.pre.trans i2.pre,i2.wf,i2.idx,fun st hs=>i2.stk st (i1.stk st hs),?_,fun h1 h2=>?_⟩
  ·have v1:wt μ ts1+Wm μ out1 (((r+1:Nat):Int)+1) a≤wt μ ts+0:=i1.wt
   have v2:wt μ ts2+Wm μ out2 ((r:Int)+1) b≤wt μ ts1+Wm μ out1 (LL r) a:=i2.wt
   have m:=zhE (μ:=μ) (l:=out1) (k:=a) hL
   show wt μ ts2+Wm μ out2 ((r:Int)+1) b≤wt μ ts+0
   omega
  have d1:d+We out1 (((r+1:Nat):Int)+1) a≤64:=i1.dp h1 h1
  have m:=zhD (l:=out1) (k:=a) hL
  exact i2.dp h1 (show d+We out1 (LL r) a≤64 by omega)
 | @lp0 r a d ts out =>
  intro ht hw hi _
  have hL:(r:Int)+1≤LL r:=by unfold LL;split <;> omega
  exact⟨List.suffix_refl _,List.prefix_refl _,hw,hi,fun st h=>h,Nat.add_le_add_left (zhE hL) _,fun _ h=>Nat.le_trans (Nat.add_le_add_left (zhD hL) _) h⟩
 | @lp2 a d t kind ts out b ts1 out1 hk ho _ ih =>
  intro ht hw hi _
  have i:=ih (zbs ht) hw okI.nil (show 3≤5 by decide)
  obtain⟨k0,k1,k2,k3⟩:=zqy (by decide) ho
  have k2:rkS kind=3:=k2
  have ia:=hi.pre i.pre
  have hn:zi (nd kind [] [a,b])=true:=zcv (by omega) (.inl (zlQ k0 k1))
  have w:=nw μ i.wf hn (ia.two i.idx)
  refine⟨zcq i.suf,zeV i.pre,w.wf,w.idx,fun st hs=>?_,?_,fun h1 h2=>?_⟩
  ·have s1:=i.stk (a::st) (by simpa [zdm] using hs)
   exact Stk.snoc (by simpa using s1) hn (by simp[nd])
  ·have e:=w.wm 3 (by show 3≤rkS kind;omega)
   have v:wt μ ts1+Wm μ out1 4 b≤wt μ ts+0:=i.wt
   have m:=zbr hμ (s:=t.Text) (t:=t) ⟨hk,rfl⟩
   show wt μ ts1+Wm μ (out1++[nd kind [] [a,b]]) 3 ((out1.length:Nat):Int)≤(μ t+wt μ ts)+Wm μ out 4 a
   rw[e,w11 _ (by omega),k2,if_pos rfl,k3,zgF hw i.pre hi.one]
   show wt μ ts1+(Wm μ out 4 a+(μ (tg t.Text)+Wm μ out1 4 b))≤_
   omega
  have e:=w.we 3 (by show 3≤rkS kind;omega)
  have d1:d+We out1 4 b≤64:=i.dp h1 h1
  have h2:d+We out 4 a≤64:=h2
  show d+We (out1++[nd kind [] [a,b]]) 3 ((out1.length:Nat):Int)≤64
  rw[e,e11 _ (by omega),k2,if_pos rfl,zgQ hw i.pre hi.one]
  show d+max (We out 4 a) (We out1 4 b)≤64
  omega
 | @lpr r a d t kind ts out b ts1 out1 x ts2 out2 hk ho hr2 _ _ ih1 ih2 =>
  intro ht hw hi hr
  have hr:r < 5:=hr
  have i:=ih1 (zbs ht) hw okI.nil (show r+1≤5 by omega)
  obtain⟨k0,k1,k2,k3⟩:=zqy hr ho
  have ia:=hi.pre i.pre
  have hn:zi (nd kind [] [a,b])=true:=zcv (by omega) (.inl (zlQ k0 k1))
  have w:=nw μ i.wf hn (ia.two i.idx)
  have j:=ih2 (zdz i.suf (zbs ht)) w.wf w.idx hr
  have hL:LL r=(r:Int)+1:=by unfold LL;rw[if_neg hr2]
  have hq:(if rkS kind=3 then rkS kind+1 else rkS kind)=(r:Int)+1:=by rw[if_neg (by omega),k2]
  refine⟨j.suf.trans (zcq i.suf),(zeV i.pre).trans j.pre,j.wf,j.idx,fun st hs=>j.stk st ?_,?_,fun h1 h2=>?_⟩
  ·have s1:=i.stk (a::st) (by simpa [zdm] using hs)
   exact Stk.snoc (by simpa using s1) hn (by simp[nd])
  ·have e:=w.wm (LL r) (by show LL r≤rkS kind;omega)
   have v1:wt μ ts1+Wm μ out1 (((r+1:Nat):Int)+1) b≤wt μ ts+0:=i.wt
   have v2:wt μ ts2+Wm μ out2 ((r:Int)+1) x≤wt μ ts1+Wm μ (out1++[nd kind [] [a,b]]) (LL r) ((out1.length:Nat):Int):=j.wt
   have m:=zbr hμ (s:=t.Text) (t:=t) ⟨hk,rfl⟩
   rw[e,w11 _ (by omega),hq,k3,zgF hw i.pre hi.one,k2,show (r:Int)+1+1=(((r+1:Nat):Int)+1) by omega] at v2
   show wt μ ts2+Wm μ out2 ((r:Int)+1) x≤(μ t+wt μ ts)+Wm μ out (LL r) a
   rw[hL]
   omega
  have e:=w.we (LL r) (by show LL r≤rkS kind;omega)
  have d1:d+We out1 (((r+1:Nat):Int)+1) b≤64:=i.dp h1 h1
  have h2:d+We out (LL r) a≤64:=h2
  refine j.dp h1 ?_
  show d+We (out1++[nd kind [] [a,b]]) (LL r) ((out1.length:Nat):Int)≤64
  rw[e,e11 _ (by omega),hq,zgQ hw i.pre hi.one,k2,show (r:Int)+1+1=(((r+1:Nat):Int)+1) by omega]
  rw[hL] at h2
  omega
 | @un9 d t ts out a ts1 out1 hs hd _ ih =>
  intro ht hw _ _
  have i:=ih (zbs ht) hw okI.nil trivial
  have hn:zi (nd 9 [] [a])=true:=zcv (by decide) (.inl (show kdS 9=((1:Nat):Int) by decide))
  have w:=nw μ i.wf hn i.idx
  refine⟨zcq i.suf,zeV i.pre,w.wf,w.idx,fun st h=>?_,?_,fun h1 h2=>?_⟩
  ·exact Stk.snoc (by simpa using i.stk st h) hn (by simp[nd])
  ·have e:=w.wm 6 (show (6:Int)≤rkS 9 by decide)
   have v:wt μ ts1+Wm μ out1 6 a≤wt μ ts+0:=i.wt
   have m:=zbr hμ hs
   show wt μ ts1+Wm μ (out1++[nd 9 [] [a]]) 6 ((out1.length:Nat):Int)≤(μ t+wt μ ts)+0
   rw[e,w9]
   omega
  have e:=w.we 6 (show (6:Int)≤rkS 9 by decide)
  have d1:d+1+We out1 6 a≤64:=i.dp (by omega) (by simp only[inE];omega)
  show d+We (out1++[nd 9 [] [a]]) 6 ((out1.length:Nat):Int)≤64
  rw[e,e89 _ (.inr rfl)]
  omega
 | @un8 d t ts out a ts1 out1 hs hd _ ih =>
  intro ht hw _ _
  have i:=ih (zbs ht) hw okI.nil trivial
  have hn:zi (nd 8 [] [a])=true:=zcv (by decide) (.inl (show kdS 8=((1:Nat):Int) by decide))
  have w:=nw μ i.wf hn i.idx
  refine⟨zcq i.suf,zeV i.pre,w.wf,w.idx,fun st h=>?_,?_,fun h1 h2=>?_⟩
  ·exact Stk.snoc (by simpa using i.stk st h) hn (by simp[nd])
  ·have e:=w.wm 6 (show (6:Int)≤rkS 8 by decide)
   have v:wt μ ts1+Wm μ out1 6 a≤wt μ ts+0:=i.wt
   have m:=zbr hμ hs
   show wt μ ts1+Wm μ (out1++[nd 8 [] [a]]) 6 ((out1.length:Nat):Int)≤(μ t+wt μ ts)+0
   rw[e,w8]
   omega
  have e:=w.we 6 (show (6:Int)≤rkS 8 by decide)
  have d1:d+1+We out1 6 a≤64:=i.dp (by omega) (by simp only[inE];omega)
  show d+We (out1++[nd 8 [] [a]]) 6 ((out1.length:Nat):Int)≤64
  rw[e,e89 _ (.inl rfl)]
  omega
 | un0 _ ih =>
  intro ht hw _ _
  have i:=ih ht hw okI.nil trivial
  exact⟨i.suf,i.pre,i.wf,i.idx,i.stk,Nat.le_trans (Nat.add_le_add_left (zhE (by decide)) _) i.wt,fun h1 h2=>Nat.le_trans (Nat.add_le_add_left (zhD (by decide)) _) (i.dp h1 h2)⟩
 | po _ _ ih1 ih2 =>
  intro ht hw _ _
  have i:=ih1 ht hw okI.nil trivial
  have j:=ih2 (zdz i.suf ht) i.wf i.idx trivial
  exact⟨j.suf.trans i.suf,i.pre.trans j.pre,j.wf,j.idx,fun st hs=>j.stk st (i.stk st hs),Nat.le_trans j.wt i.wt,fun h1 h2=>j.dp h1 (i.dp h1 h2)⟩
 | pl0 =>
  intro ht hw hi _
  exact⟨List.suffix_refl _,List.prefix_refl _,hw,hi,fun st h=>h,Nat.le_refl _,fun _ h=>h⟩
 | @pl1 a d t ts out b u ts1 out1 x ts2 out2 hs hd _ hu _ ih1 ih2 =>
  intro ht hw hi _
  have i:=ih1 (zbs ht) hw okI.nil trivial
  have ia:=hi.pre i.pre
  have hn:zi (nd 7 [] [a,b])=true:=zcv (by decide) (.inl (show kdS 7=((2:Nat):Int) by decide))
  have w:=nw μ i.wf hn (ia.two i.idx)
  have j:=ih2 (zbs (zdz i.suf (zbs ht))) w.wf w.idx trivial
  refine⟨j.suf.trans (zcq (zlS i.suf)),(zeV i.pre).trans j.pre,j.wf,j.idx,fun st h=>j.stk st ?_,?_,fun h1 h2=>?_⟩
  ·have s1:=i.stk (a::st) (by simpa [zdm] using h)
   exact Stk.snoc (by simpa using s1) hn (by simp[nd])
  ·have e:=w.wm 7 (show (7:Int)≤rkS 7 by decide)
   have v1:μ u+wt μ ts1+Wm μ out1 0 b≤wt μ ts+0:=i.wt
   have v2:wt μ ts2+Wm μ out2 7 x≤wt μ ts1+Wm μ (out1++[nd 7 [] [a,b]]) 7 ((out1.length:Nat):Int):=j.wt
   have m:=zbr hμ hs
   have m':=zbr hμ hu
   rw[e,w7,zgF hw i.pre hi.one] at v2
   show wt μ ts2+Wm μ out2 7 x≤(μ t+wt μ ts)+Wm μ out 7 a
   omega
  have e:=w.we 7 (show (7:Int)≤rkS 7 by decide)
  have d1:d+1+We out1 0 b≤64:=i.dp (by omega) (by simp only[inE];omega)
  have h2:d+We out 7 a≤64:=h2
  refine j.dp h1 ?_
  show d+We (out1++[nd 7 [] [a,b]]) 7 ((out1.length:Nat):Int)≤64
  rw[e,e7,zgQ hw i.pre hi.one]
  omega
 | @ma0 e d t ts out hs =>
  intro ht hw _ _
  refine⟨List.suffix_cons _ _,List.prefix_refl _,hw,okI.nil,fun st h=>h,?_,fun h1 _=>h1⟩
  have m:=zbr hμ hs
  show wt μ ts+(wt μ []+μ (tg e))≤(μ t+wt μ ts)+0
  simp only[wt]
  omega
 | @ma1 e d ts out a ts1 out1 l ts2 out2 _ _ ih1 ih2 =>
  intro ht hw _ _
  have i:=ih1 ht hw okI.nil trivial
  have j:=ih2 (zdz i.suf ht) i.wf i.idx (by simp[ztg])
  refine⟨j.suf.trans i.suf,i.pre.trans j.pre,j.wf,j.idx,fun st h=>j.stk st (i.stk st h),?_,fun h1 h2=>j.dp h1 ?_⟩
  ·have v1:wt μ ts1+Wm μ out1 0 a≤wt μ ts+0:=i.wt
   have v2:wt μ ts2+(wt μ (tcS (tkI out2) l)+μ (tg e))≤wt μ ts1+wt μ (tcS (tkI out1) [a]):=j.wt
   rw[Wm0] at v1
   rw[show tcS (tkI out1) [a]=tkI out1 a by simp[tcS,tcG]] at v2
   show wt μ ts2+(wt μ (tcS (tkI out2) l)+μ (tg e))≤wt μ ts+0
   omega
  have d1:d+We out1 0 a≤64:=i.dp h1 h1
  rw[We0] at d1
  show d+zaF (enI out1) [a]≤64
  simp only[zaF]
  omega
 | @ml0 e l d t ts out hs =>
  intro ht hw hi _
  refine⟨List.suffix_cons _ _,List.prefix_refl _,hw,hi,fun st h=>h,?_,fun _ h=>h⟩
  have m:=zbr hμ hs
  show wt μ ts+(wt μ (tcS (tkI out) l)+μ (tg e))≤(μ t+wt μ ts)+wt μ (tcS (tkI out) l)
  omega
 | @ml1 e l d t ts out a ts1 out1 m ts2 out2 hs _ _ ih1 ih2 =>
  intro ht hw hi hl
  have hl:l≠[]:=hl
  have hi:okI out l:=hi
  have i:=ih1 (zbs ht) hw okI.nil trivial
  have il:=hi.pre i.pre
  have j:=ih2 (zdz i.suf (zbs ht)) i.wf (il.snoc i.idx) (by simp[ztg])
  refine⟨j.suf.trans (zcq i.suf),i.pre.trans j.pre,j.wf,j.idx,fun st h=>j.stk st ?_,?_,fun h1 h2=>j.dp h1 ?_⟩
  ·have:=i.stk (l.reverse++st) (by simpa [zdm] using h)
   simpa [zdm] using this
  ·have v1:wt μ ts1+Wm μ out1 0 a≤wt μ ts+0:=i.wt
   have v2:wt μ ts2+(wt μ (tcS (tkI out2) m)+μ (tg e))≤wt μ ts1+wt μ (tcS (tkI out1) (l++[a])):=j.wt
   have ms:=zbr hμ hs
   rw[Wm0] at v1
   rw[ztb _ hl,zay,wt,zxF hw i.pre hi] at v2
   show wt μ ts2+(wt μ (tcS (tkI out2) m)+μ (tg e))≤(μ t+wt μ ts)+wt μ (tcS (tkI out) l)
   omega
  have d1:d+We out1 0 a≤64:=i.dp h1 h1
  have h2:d+zaF (enI out) l≤64:=h2
  rw[We0] at d1
  show d+zaF (enI out1) (l++[a])≤64
  rw[zl9,zxt hw i.pre hi]
  simp only[zaF]
  omega
 | @prT d t ts out k hT =>
  intro ht hw _ _
  refine zfz hw (List.suffix_cons _ _) (by kernel_rfl) rfl (show (3:Int)≤4 by decide) (show rkS 3=7 by decide) ?_
  have m:=zjQ hμ k
  rw[nk3 rfl]
  show wt μ ts+(μ (tn (Lib.formatBool (decide ((1:Int)=1))))+0)≤μ t+wt μ ts
  rw[m,hT,decide_eq_true rfl,zfn]
  omega
 | @prF d t ts out k hF =>
  intro ht hw _ _
  refine zfz hw (List.suffix_cons _ _) (by kernel_rfl) rfl (show (3:Int)≤4 by decide) (show rkS 3=7 by decide) ?_
  have m:=zjQ hμ k
  rw[nk3 rfl]
  show wt μ ts+(μ (tn (Lib.formatBool (decide ((0:Int)=1))))+0)≤μ t+wt μ ts
  rw[m,hF,decide_eq_false (by decide),zen]
  omega
 | @prR d t u v ts out k hT hF hu kv =>
  intro ht hw _ _
  have n1:=(ht t (by simp)).name k
  have n2:=(ht v (by simp)).name kv
  have hc:Lib.cut ((t.Text++[46])++v.Text) [46]=(t.Text,v.Text,true):=by
   have:=zfT (y:=v.Text) n1
   simpa using this
  refine zfz hw (zcq (zcq (List.suffix_cons _ _))) ?_ rfl (show (4:Int)≤4 by decide) (show rkS 4=7 by decide) ?_
  ·have htr:zaO t.Text=false:=by simp[zaO,hT,hF]
   have hp:plS (nd 4 ((t.Text++[46])++v.Text) [])=true:=by
    rw[plS,if_neg (by simp[nd]),if_neg (by simp[nd]),if_pos (show (nd 4 ((t.Text++[46])++v.Text) []).Kind=4 from rfl)]
    show (zai ((t.Text++[46])++v.Text) && decide ((0:Int)=0) && !(zaO (Lib.cut ((t.Text++[46])++v.Text) [46]).1) && decide (([]:List Part)=[]))=true
    rw[zai,hc]
    simp[n1,n2,htr]
   simp only[zi,hp,Bool.and_true,Bool.or_eq_true,decide_eq_true_eq]
   exact .inl rfl
  have m1:=zjQ hμ k
  have m2:=zjQ hμ kv
  have m3:=zbr hμ hu
  rw[nk4 rfl]
  show wt μ ts+wt μ (zgT ((t.Text++[46])++v.Text))≤μ t+(μ u+(μ v+wt μ ts))
  rw[zgT,hc]
  simp only[wt]
  omega
 | @prC d t u ts out l ts1 out1 k hT hF hu hd _ ih =>
  intro ht hw _ _
  have n1:=(ht t (by simp)).name k
  have i:=ih (zbs (zbs ht)) hw okI.nil trivial
  have htr:zaO t.Text=false:=by simp[zaO,hT,hF]
  have hp:plS (nd 5 t.Text l)=true:=by
   rw[plS,if_neg (by simp[nd]),if_neg (by simp[nd]),if_neg (by simp[nd]),if_pos (show (nd 5 t.Text l).Kind=5 from rfl)]
   simp[nd,n1,htr]
  have hn:zi (nd 5 t.Text l)=true:=by
   simp only[zi,hp,Bool.and_true,Bool.or_eq_true,decide_eq_true_eq]
   exact .inr rfl
  have w:=nw μ i.wf hn i.idx
  refine⟨zcq (zcq i.suf),zeV i.pre,w.wf,w.idx,fun st h=>?_,?_,fun h1 h2=>?_⟩
  ·have:=Stk.snoc (i.stk st (by simpa [zdm] using h)) hn (by simp[nd])
   simpa [nd] using this
  ·have e:=w.wm 7 (show (7:Int)≤rkS 5 by decide)
   have v:wt μ ts1+(wt μ (tcS (tkI out1) l)+μ (tg [41]))≤wt μ ts+0:=i.wt
   have m1:=zjQ hμ k
   have m3:=zbr hμ hu
   show wt μ ts1+Wm μ (out1++[nd 5 t.Text l]) 7 ((out1.length:Nat):Int)≤(μ t+(μ u+wt μ ts))+0
   rw[e,w5 _ rfl]
   omega
  have e:=w.we 7 (show (7:Int)≤rkS 5 by decide)
  have d1:d+1+zaF (enI out1) l≤64:=i.dp (by omega) (by simp only[inE];omega)
  show d+We (out1++[nd 5 t.Text l]) 7 ((out1.length:Nat):Int)≤64
  rw[e,e56 _ (.inl rfl)]
  omega
 | @prN d t ts out k =>
  intro ht hw _ _
  have z:=(ht t (by simp)).num k
  refine zfz hw (List.suffix_cons _ _) ?_ rfl (show (1:Int)≤4 by decide) (show rkS 1=7 by decide) ?_
  ·have hp:plS (Node.mk 1 t.Num [] [] [])=true:=by
    rw[plS,if_pos rfl]
    simp[z]
   simp only[zi,hp,Bool.and_true,Bool.or_eq_true,decide_eq_true_eq]
   exact .inl rfl
  have m:μ t=μ (ze9 t.Num):=hμ _ _ k (fun _=>rfl) (fun e=>by rw[k] at e;cases e) (fun e=>by rw[k] at e;rcases e with e | e <;> cases e)
  rw[nk1 rfl]
  show wt μ ts+(μ (ze9 t.Num)+0)≤μ t+wt μ ts
  omega
 | @prS d t ts out k =>
  intro ht hw _ _
  have z:=(ht t (by simp)).parts k
  refine zfz hw (List.suffix_cons _ _) ?_ rfl (show (2:Int)≤4 by decide) (show rkS 2=7 by decide) ?_
  ·have hp:plS (Node.mk 2 0 [] t.Parts [])=true:=by
    rw[plS,if_neg (by simp),if_neg (by simp),if_neg (by simp),if_neg (by simp),if_pos rfl]
    simp[z]
   simp only[zi,hp,Bool.and_true,Bool.or_eq_true,decide_eq_true_eq]
   exact .inl rfl
  have m:μ t=μ (zeI t.Parts):=hμ _ _ k (fun e=>by rw[k] at e;cases e) (fun _=>rfl) (fun e=>by rw[k] at e;rcases e with e | e <;> cases e)
  rw[nk2 rfl]
  show wt μ ts+(μ (zeI t.Parts)+0)≤μ t+wt μ ts
  omega
 | @prL d t ts out l ts1 out1 hs hd _ ih =>
  intro ht hw _ _
  have i:=ih (zbs ht) hw okI.nil trivial
  have hn:zi (nd 6 [] l)=true:=zcv (by decide) (.inr rfl)
  have w:=nw μ i.wf hn i.idx
  refine⟨zcq i.suf,zeV i.pre,w.wf,w.idx,fun st h=>?_,?_,fun h1 h2=>?_⟩
  ·have:=Stk.snoc (i.stk st (by simpa [zdm] using h)) hn (by simp[nd])
   simpa [nd] using this
  ·have e:=w.wm 7 (show (7:Int)≤rkS 6 by decide)
   have v:wt μ ts1+(wt μ (tcS (tkI out1) l)+μ (tg [93]))≤wt μ ts+0:=i.wt
   have m3:=zbr hμ hs
   show wt μ ts1+Wm μ (out1++[nd 6 [] l]) 7 ((out1.length:Nat):Int)≤(μ t+wt μ ts)+0
   rw[e,w6]
   omega
  have e:=w.we 7 (show (7:Int)≤rkS 6 by decide)
  have d1:d+1+zaF (enI out1) l≤64:=i.dp (by omega) (by simp only[inE];omega)
  show d+We (out1++[nd 6 [] l]) 7 ((out1.length:Nat):Int)≤64
  rw[e,e56 _ (.inr rfl)]
  omega
 | @prP d t ts out a u ts1 out1 hs hd _ hu ih =>
  intro ht hw _ _
  have i:=ih (zbs ht) hw okI.nil trivial
  refine⟨zcq (zlS i.suf),i.pre,i.wf,i.idx,i.stk,?_,fun h1 h2=>?_⟩
  ·have v:μ u+wt μ ts1+Wm μ out1 0 a≤wt μ ts+0:=i.wt
   have m:=zbr hμ hs
   have m':=zbr hμ hu
   have le:=zx7 (μ:=μ) out1 7 a
   rw[Wm0] at v
   show wt μ ts1+Wm μ out1 7 a≤(μ t+wt μ ts)+0
   have q1:μ lpT=μ (tg [40]):=rfl
   have q2:μ rpT=μ (tg [41]):=rfl
   omega
  have d1:d+1+We out1 0 a≤64:=i.dp (by omega) (by simp only[inE];omega)
  have le:=zyB out1 7 a
  rw[We0] at d1
  show d+We out1 7 a≤64
  omega
def zyL (lv:Lv) (out:List Node) (l:List Int) (out':List Node):Prop:=out.length≤out'.length∧match lv with
 | .ma _=>True
 | .ml _ _=>True
 | .lp _ a=>a+1=(out.length:Int)→l.headD 0+1=(out'.length:Int)
 | .pl a=>a+1=(out.length:Int)→l.headD 0+1=(out'.length:Int)
 | _=>l.headD 0+1=(out'.length:Int)
theorem zvi {lv:Lv} {d:Nat} {ts:List Token} {out:List Node} {l:List Int} {ts':List Token} {out':List Node} (h:Dr lv d ts out l ts' out'):zyL lv out l out':=by
 have app:∀ (o:List Node) (n:Node),(o++[n]).length=o.length+1:=fun o n=>by simp
 have nl:∀ (o:List Node) (n:Node),([((o.length:Nat):Int)]:List Int).headD 0+1=((o++[n]).length:Int):=fun o n=>by rw[app];simp
 induction h with
 | ex0 _ ih=>exact ih
 | ex1 _ _ _ _ _ _ ih1 ih2 ih3=>exact⟨by rw[app];have:=ih1.1;have:=ih2.1;have:=ih3.1;omega,nl _ _⟩
 | ch5 _ ih=>exact ih
 | chr _ _ _ ih1 ih2=>exact⟨Nat.le_trans ih1.1 ih2.1,ih2.2 ih1.2⟩
 | lp0=>exact⟨Nat.le_refl _,fun h=>h⟩
 | lp2 _ _ _ ih=>exact⟨by rw[app];have:=ih.1;omega,fun _=>nl _ _⟩
 | lpr _ _ _ _ _ ih1 ih2=>exact⟨by have:=ih1.1;have:=ih2.1;rw[app] at this;omega,fun _=>ih2.2 (nl _ _)⟩
 | un9 _ _ _ ih=>exact⟨by rw[app];have:=ih.1;omega,nl _ _⟩
 | un8 _ _ _ ih=>exact⟨by rw[app];have:=ih.1;omega,nl _ _⟩
 | un0 _ ih=>exact ih
 | po _ _ ih1 ih2=>exact⟨Nat.le_trans ih1.1 ih2.1,ih2.2 ih1.2⟩
 | pl0=>exact⟨Nat.le_refl _,fun h=>h⟩
 | pl1 _ _ _ _ _ ih1 ih2=>exact⟨by have:=ih1.1;have:=ih2.1;rw[app] at this;omega,fun _=>ih2.2 (nl _ _)⟩
 | ma0=>exact⟨Nat.le_refl _,trivial⟩
 | ma1 _ _ ih1 ih2=>exact⟨Nat.le_trans ih1.1 ih2.1,trivial⟩
 | ml0=>exact⟨Nat.le_refl _,trivial⟩
 | ml1 _ _ _ ih1 ih2=>exact⟨Nat.le_trans ih1.1 ih2.1,trivial⟩
 | prT=>exact⟨by rw[app];omega,nl _ _⟩
 | prF=>exact⟨by rw[app];omega,nl _ _⟩
 | prR=>exact⟨by rw[app];omega,nl _ _⟩
 | prC _ _ _ _ _ _ ih=>exact⟨by rw[app];have:=ih.1;omega,nl _ _⟩
 | prN=>exact⟨by rw[app];omega,nl _ _⟩
 | prS=>exact⟨by rw[app];omega,nl _ _⟩
 | prL _ _ _ ih=>exact⟨by rw[app];have:=ih.1;omega,nl _ _⟩
 | prP _ _ _ _ ih=>exact ih
theorem zoy {l:List Node} (h:zaU l=true):WF l:=fun e n he=>by
 have hlt:e < l.length:=by
  by_cases hl:e < l.length
  ·exact hl
  rw[List.getElem?_eq_none (by omega)] at he;cases he
 obtain⟨hok,st,hc,h3,h4⟩:=ziV l l.length 0 [] (by omega) rfl (by rw[List.drop_zero,←zf7];exact h) e hlt (Nat.zero_le _)
 rw[List.getElem?_eq_getElem hlt] at he
 obtain rfl:=Option.some.inj he
 refine⟨hok,fun k hk=>?_⟩
 have hm:k ∈ st.take l[e].Kids.length:=by rw[h4];exact List.mem_reverse.2 hk
 have:∀ (st:List Int) (i:Nat),Ch l i st→∀ s ∈ st,0≤s∧s < (i:Int):=by
  intro st
  induction st with
  | nil=>intro i _ s hs;cases hs
  | cons a st ih =>
   intro i ⟨h0,ha,b,hb,hc⟩ s hs
   have hle:=zbw l (i - 1)
   rcases List.mem_cons.1 hs with rfl | hs
   ·omega
   have:=ih b hc s hs
   omega
 exact this st e hc k (List.mem_of_mem_take hm)
theorem ztJ {μ:Token→Nat} (hμ:Mu μ) {N:Nat} {L:List Token} (ht:∀ t ∈ L,TkG t) {l:List Node} {ts:List Token} {o:List Node} (h:zbu N L=.ok l ts o):zaU l=true∧ts <:+ L∧wt μ ts+wt μ (tkS l (l.length - 1))≤wt μ L∧enI l ((l.length - 1:Nat):Int)≤64:=by
 unfold zbu at h
 cases hc:zu N 0 L [] with
 | no=>rw[hc] at h;cases h
 | er e=>rw[hc] at h;cases h
 | ok a ts1 out1 =>
  rw[hc] at h
  simp only[PR.ok.injEq] at h
  obtain⟨rfl,rfl,_⟩:=h
  have hd:=(drA N).ex hc
  have i:=zyp hμ hd ht WF.nil okI.nil trivial
  have la:a+1=(out1.length:Int):=(zvi hd).2
  have i0:=i.idx.one
  have ea:a=((out1.length - 1:Nat):Int):=by omega
  have hs:=i.stk [] Stk.nil
  have htr:=Stk.tree hs (by simp)
  have v:wt μ ts1+Wm μ out1 0 a≤wt μ L+0:=i.wt
  have d1:0+We out1 0 a≤64:=i.dp (by decide) (by simp[inE])
  rw[Wm0,ea] at v
  rw[We0,ea] at d1
  refine⟨htr,i.suf,?_,by omega⟩
  unfold tkI at v
  rw[Int.toNat_natCast] at v
  omega
structure CM (c:List UInt8→Nat) (μ:Token→Nat) (l:List Node):Prop where
 app:∀ a b,c (a++b)=c a+c b
 lp:c [40]≤μ (tg [40])
 rp:c [41]≤μ (tg [41])
 sep:c [44,32]≤μ (tg [44])
 lb:c [91]≤μ (tg [91])
 rb:c [93]≤μ (tg [93])
 bang:c [33]≤μ (tg [33])
 neg:c [45]≤μ (tg [45])
 qu:c [32,63,32]≤μ (tg [63])
 col:c [32,58,32]≤μ (tg [58])
 dot:c [46]≤μ (tg [46])
 op:∀ k:Int,11≤k→k≤23→c ([32]++zaq k++[32])≤μ (tg (zaq k))
 num:∀ z:Int,0≤z→c (Lib.itoa z)≤μ (ze9 z)
 name:∀ s,zak s=true→c s≤μ (tn s)
 prt:∀ n ∈ l,c (qtS n.Parts)≤μ (zeI n.Parts)
section
variable {c:List UInt8→Nat} {μ:Token→Nat} {l:List Node} (h:CM c μ l)
include h
theorem CM.wr {o:Int→List UInt8} {o':Int→List Token} {k:Int} (hk:c (o k)≤wt μ (o' k)) (least:Int):c (wrS l o k least)≤wt μ (wrK l o' k least):=by
 unfold wrS wrK
 have h1:=h.lp
 have h2:=h.rp
 split
 ·rw[h.app,h.app,wt,zay,wt,wt]
  have e1:μ lpT=μ (tg [40]):=rfl
  have e2:μ rpT=μ (tg [41]):=rfl
  omega
 exact hk
theorem CM.nil:c []=0:=by
 have:=h.app [] []
 simp only[List.append_nil] at this
 omega
theorem CM.comG {o:Int→List UInt8} {o':Int→List Token}:∀ {ks:List Int},(∀ k ∈ ks,c (o k)≤wt μ (o' k))→c (M.comG o ks)≤wt μ (tcG o' ks)
 | [],_=>by rw[M.comG,tcG,h.nil];exact Nat.zero_le _
 | k::r,hk=>by
  have h1:=CM.comG (ks:=r) fun q hq=>hk q (List.mem_cons_of_mem _ hq)
  have h2:=hk k (List.mem_cons_self ..)
  have h3:=h.sep
  rw[M.comG,tcG,h.app,h.app,wt,zay]
  omega
theorem CM.comS {o:Int→List UInt8} {o':Int→List Token} {ks:List Int} (hk:∀ k ∈ ks,c (o k)≤wt μ (o' k)):c (M.comS o ks)≤wt μ (tcS o' ks):=by
 cases ks with
 | nil=>rw[M.comS,tcS,h.nil];exact Nat.zero_le _
 | cons k r =>
  have h1:=h.comG (ks:=r) fun q hq=>hk q (List.mem_cons_of_mem _ hq)
  have h2:=hk k (List.mem_cons_self ..)
  rw[M.comS,tcS,h.app,zay]
  omega
theorem zyl (hw:WF l):∀ (e:Nat),e < l.length→c (txS l e)≤wt μ (tkS l e):=by
 intro e
 induction e using Nat.strongRecOn with
 | _ e ih =>
  intro he
  obtain⟨hok,hk⟩:=hw e _ (List.getElem?_eq_getElem he)
  have hp:=h.prt _ (List.getElem_mem he)
  have ihk:∀ k ∈ l[e].Kids,c (txS l k.toNat)≤wt μ (tkI l k):=fun k hk'=>by
   have h1:=hk k hk'
   exact ih k.toNat (by omega) (by omega)
  have htk:tkS l e=ndK l (tkI l) l[e]:=zdS he hok hk
  rw[zfu he hok hk,htk]
  generalize l[e]=n at *
  have hkl:=zaS hok
  have ikd:∀ i,i < n.Kids.length→c (txS l (kid n i).toNat)≤wt μ (tkI l (kid n i)):=fun i hi=>ihk _ (zl hi)
  have lp:=h.lp
  have rp:=h.rp
  have lb:=h.lb
  have rb:=h.rb
  have e1:μ lpT=μ (tg [40]):=rfl
  have e2:μ rpT=μ (tg [41]):=rfl
  by_cases k1:n.Kind=1
  ·rw[nd1 k1,nk1 k1]
   exact h.num _ (zsR hok k1)
  by_cases k2:n.Kind=2
  ·rw[nd2 k2,nk2 k2]
   exact hp
  by_cases k3:n.Kind=3
  ·rw[nd3 k3,nk3 k3]
   refine h.name _ ?_
   by_cases hb:n.Num=1
   ·rw[decide_eq_true hb,zfn];kernel_rfl
   rw[decide_eq_false hb,zen];kernel_rfl
  by_cases k4:n.Kind=4
  ·rw[nd4 k4,nk4 k4]
   obtain⟨h1,h2,hf⟩:=zqc hok k4
   obtain⟨x,y,hxy,hx,hy⟩:=zbX h1
   have hc:Lib.cut n.Text [46]=(x,y,true):=by rw[hxy];exact zfT hx
   rw[zgT,hc,hxy,show x++46::y=x++([46]++y) from rfl,h.app,h.app]
   have a1:=h.name _ hx
   have a2:=h.name _ hy
   have a3:=h.dot
   simp only[wt]
   omega
  by_cases k5:n.Kind=5
  ·rw[nd5 k5,nk5 k5]
   obtain⟨h1,h2,hf⟩:=zpJ hok k5
   have a1:=h.name _ h1
   have a2:=h.comS ihk
   rw[h.app,h.app,h.app]
   simp only[wt,zay]
   omega
  by_cases k6:n.Kind=6
  ·rw[nd6 k6,nk6 k6]
   have a2:=h.comS ihk
   rw[h.app,h.app]
   simp only[wt,zay]
   omega
  by_cases k7:n.Kind=7
  ·have hc:=kdk hok 7 2 k7 (by decide) (by decide) (by decide)
   rw[nd7 k7,nk7 k7]
   have a1:=h.wr (o:=fun k=>txS l k.toNat) (o':=tkI l) (ikd 0 (by omega)) 7
   have a2:=ikd 1 (by omega)
   rw[h.app,h.app,h.app]
   simp only[wt,zay] at a1 ⊢
   omega
  by_cases k8:n.Kind=8
  ·have hc:=kdk hok 8 1 k8 (by decide) (by decide) (by decide)
   rw[nd8 k8,nk8 k8]
   have a1:=h.wr (o:=fun k=>txS l k.toNat) (o':=tkI l) (ikd 0 (by omega)) 6
   have a2:=h.bang
   rw[h.app]
   simp only[wt,zay] at a1 ⊢
   omega
  by_cases k9:n.Kind=9
  ·have hc:=kdk hok 9 1 k9 (by decide) (by decide) (by decide)
   rw[nd9 k9,nk9 k9]
   have a1:=h.wr (o:=fun k=>txS l k.toNat) (o':=tkI l) (ikd 0 (by omega)) 6
   have a2:=h.neg
   rw[h.app]
   simp only[wt,zay] at a1 ⊢
   omega
  by_cases k10:n.Kind=10
  ·have hc:=kdk hok 10 3 k10 (by decide) (by decide) (by decide)
   rw[zl2 k10,zin k10]
   have a1:=h.wr (o:=fun k=>txS l k.toNat) (o':=tkI l) (ikd 0 (by omega)) 1
   have a2:=ikd 1 (by omega)
   have a3:=ikd 2 (by omega)
   have a4:=h.qu
   have a5:=h.col
   rw[h.app,h.app,h.app,h.app]
   simp only[wt,zay] at a1 ⊢
   omega
  have hc:=kd2 hok (by omega)
  rw[zjW (by omega),zg5 (by omega)]
  generalize (if rkS n.Kind=3 then rkS n.Kind+1 else rkS n.Kind)=q
  have a1:=h.wr (o:=fun k=>txS l k.toNat) (o':=tkI l) (ikd 0 (by omega)) q
  have a2:=h.wr (o:=fun k=>txS l k.toNat) (o':=tkI l) (ikd 1 (by omega)) (rkS n.Kind+1)
  have a3:=h.op n.Kind (by omega) (by omega)
  simp only[h.app] at a3 ⊢
  simp only[wt,zay] at a1 a2 ⊢
  omega
end
def zf9 (f:Bool):List Part→Bool
 | []=>f
 | [p]=>!p.Ref
 | _::q::l=>zf9 f (q::l)
theorem zeO (f:Bool) (p:Part):∀ l:List Part,zf9 f (p::l)=zf9 (!p.Ref) l
 | []=>rfl
 | [q]=>rfl
 | q::r::l=>by
  have h1:=zeO f q (r::l)
  have h2:=zeO (!p.Ref) q (r::l)
  rw[zf9,h1,h2]
theorem zfV {s:List UInt8} (h:zai s=true):∀ (l:List Part) (f:Bool),zx f l=true→zx f (l++[Part.mk true s])=true
 | [],f,_=>by simp[zx,h]
 | p::l,f,hl=>by
  rw[List.cons_append,zx]
  rw[zx] at hl
  by_cases hr:p.Ref=true
  ·rw[if_pos hr] at hl ⊢
   simp only[Bool.and_eq_true] at hl ⊢
   exact⟨hl.1,zfV h l _ hl.2⟩
  rw[if_neg hr] at hl ⊢
  simp only[Bool.and_eq_true] at hl ⊢
  exact⟨hl.1,zfV h l _ hl.2⟩
theorem zf8 {b:List UInt8} (hb:b≠[]) (hp:zaV b=true):∀ (l:List Part) (f:Bool),zx f l=true→zf9 f l=false→zx f (l++[Part.mk false b])=true
 | [],f,_,he=>by
  rw[zf9] at he
  simp[zx,hb,hp,he]
 | p::l,f,hl,he=>by
  rw[List.cons_append,zx]
  rw[zx] at hl
  rw[zeO] at he
  by_cases hr:p.Ref=true
  ·rw[if_pos hr] at hl ⊢
   simp only[Bool.and_eq_true] at hl ⊢
   exact⟨hl.1,zf8 hb hp l _ hl.2 (by rw[hr] at he;exact he)⟩
  rw[if_neg hr] at hl ⊢
  simp only[Bool.and_eq_true] at hl ⊢
  refine⟨hl.1,zf8 hb hp l _ hl.2 (by rw[show p.Ref=false by simpa using hr] at he;exact he)⟩
theorem znI {s:List UInt8}:∀ (l:List Part) (f:Bool),zf9 f (l++[Part.mk true s])=false
 | [],f=>rfl
 | p::l,f=>by rw[List.cons_append,zeO];exact znI l _
theorem znE {l:List Part} {b:List UInt8} (h1:zx false l=true) (h2:zf9 false l=false) (h3:zaV b=true):zx false (zG l b)=true:=by
 unfold zG
 by_cases hb:b=[]
 ·rw[if_pos hb,List.append_nil];exact h1
 rw[if_neg hb];exact zf8 hb h3 l false h1 h2
theorem zgK {b:List UInt8} {c:UInt8} (h:zaV b=true) (hc:zbL c=true):zaV (b++[c])=true:=by
 unfold zaV at *
 rw[List.all_append,h]
 simp[hc]
theorem zrn {x y:UInt8} (h:zes x=some y):zbL y=true:=by
 unfold zes at h
 split at h
 ·rename_i hx
  obtain rfl:=Option.some.inj h
  rcases hx with rfl | rfl | rfl <;> decide
 split at h
 ·obtain rfl:=Option.some.inj h;decide
 cases h
theorem zpP {t:List UInt8} (h:(zD t).2=true):zai (zD t).1=true:=by
 unfold zD at *
 simp only[Bool.and_eq_true] at h
 exact h.2
theorem zyf {t:List UInt8} {l:List Part} {b:List UInt8} {r:Option (List Part × Nat)} (h:Qx t l b r):zx false l=true→zf9 false l=false→zaV b=true→∀ q,r=some q→zx false q.1=true:=by
 induction h with
 | nil | low | esc0 | escbad | refbad=>intro _ _ _ q hq;cases hq
 | shut t l b=>intro h1 h2 h3 q hq;obtain rfl:=Option.some.inj hq;exact znE h1 h2 h3
 | esc x y t l b r hx _ ih =>
  intro h1 h2 h3 q hq
  obtain⟨q0,h0,rfl⟩:=Option.map_eq_some_iff.1 hq
  exact ih h1 h2 (zgK h3 (zrn hx)) q0 h0
 | ref t l b r hr _ ih =>
  intro h1 h2 h3 q hq
  obtain⟨q0,h0,rfl⟩:=Option.map_eq_some_iff.1 hq
  exact ih (zfV (zpP hr) _ _ (znE h1 h2 h3)) (znI _ _) rfl q0 h0
 | plain c t l b r hc1 hc2 _ _ _ ih =>
  intro h1 h2 h3 q hq
  obtain⟨q0,h0,rfl⟩:=Option.map_eq_some_iff.1 hq
  exact ih h1 h2 (zgK h3 (by unfold zbL;rw[decide_eq_true hc2];rfl)) q0 h0
theorem zuH (p:UInt8→Bool):∀ l:List UInt8,(l.takeWhile p).takeWhile p=l.takeWhile p
 | []=>rfl
 | c::l=>by
  rw[List.takeWhile_cons]
  split
  ·rename_i h
   rw[List.takeWhile_cons,if_pos h,zuH p l]
  rfl
theorem zvf {c:UInt8} {u:List UInt8} (h:zC c=2) (hl:((c::u).takeWhile (inC [2,3])).length≤24):zak ((c::u).takeWhile (inC [2,3]))=true:=by
 have hi:inC [2,3] c=true:=by unfold inC;rw[h];decide
 have hc:(c::u).takeWhile (inC [2,3])=c::u.takeWhile (inC [2,3]):=by rw[List.takeWhile_cons,if_pos hi]
 refine decide_eq_true ⟨by rw[hc];simp,hl,?_⟩
 rw[hc,zf6,if_pos h,zA,←hc,zuH]
theorem zw3 {l:List UInt8} {r:Option (Token × Nat)} (h:Tok l r):∀ x n,r=some (x,n)→TkG x:=by
 cases h with
 | name c u h =>
  intro x n hx
  split at hx
  ·rename_i hl
   cases hx
   exact⟨fun _=>zvf h hl,fun e=>absurd e (by simp),fun e=>absurd e (by simp)⟩
  cases hx
 | num c u h =>
  intro x n hx
  unfold zdU at hx
  split at hx
  ·cases hx
   exact⟨fun e=>absurd e (by simp),fun _=>by simp only;omega,fun e=>absurd e (by simp)⟩
  cases hx
 | text u r h =>
  intro x n hx
  obtain⟨q,hq,e⟩:=Option.map_eq_some_iff.1 hx
  cases e
  exact⟨fun e=>absurd e (by simp),fun e=>absurd e (by simp),fun _=>zyf h rfl rfl rfl q hq⟩
 | sign c u h2 h3 h4 =>
  intro x n hx
  split at hx
  ·cases hx
  cases hx
  exact⟨fun e=>absurd e (by simp),fun e=>absurd e (by simp),fun e=>absurd e (by simp)⟩
theorem zyb {t:List UInt8} {p:Int} {r:Option (List Token)} (h:Lx t p r):∀ L,r=some L→∀ x ∈ L,TkG x:=by
 induction h with
 | nil p =>
  intro L hL x hx
  cases hL
  obtain rfl:=List.mem_singleton.1 hx
  exact⟨fun e=>absurd e (by simp),fun e=>absurd e (by simp),fun e=>absurd e (by simp)⟩
 | gap c t p r hc _ ih=>exact ih
 | remark t p r _ ih=>exact ih
 | bad=>intro L hL;cases hL
 | tok c t p x n r h1 h2 hk _ ih =>
  intro L hL y hy
  obtain⟨L0,h0,rfl⟩:=Option.map_eq_some_iff.1 hL
  rcases List.mem_cons.1 hy with rfl | hy
  ·have:=zw3 hk x n rfl
   exact⟨this.1,this.2,this.3⟩
  exact ih L0 h0 y hy
theorem zx6 {c:List UInt8→Nat} {μ:Token→Nat} (hμ:Mu μ) (app:∀ a b,c (a++b)=c a+c b) (h0:∀ t:Token,t.Kind=0→μ t=0) (hk:∀ l x n,Tok l (some (x,n))→μ x≤c (l.take n)) {t:List UInt8} {p:Int} {r:Option (List Token)} (h:Lx t p r):∀ L,r=some L→wt μ L≤c t:=by
 induction h with
 | nil p =>
  intro L hL
  cases hL
  have:=h0 (Token.mk 0 [] 0 [] p) rfl
  simp only[wt]
  omega
 | gap a t p r hc _ ih =>
  intro L hL
  have:=ih L hL
  have e:c (a::t)=c [a]+c t:=app [a] t
  omega
 | remark t p r _ ih =>
  intro L hL
  have:=ih L hL
  have e:c (35::t)=c [35]+c t:=app [35] t
  have e2:c t=c (t.takeWhile (· != 10))+c (t.dropWhile (· != 10)):=by rw[←app,List.takeWhile_append_dropWhile]
  omega
 | bad=>intro L hL;cases hL
 | tok a t p x n r h1 h2 hx _ ih =>
  intro L hL
  obtain⟨L0,h0',rfl⟩:=Option.map_eq_some_iff.1 hL
  have i:=ih L0 h0'
  have k:=hk _ _ _ hx
  have e:c (a::t)=c ((a::t).take n)+c ((a::t).drop n):=by rw[←app,List.take_append_drop]
  have m:μ (atT x p)=μ x:=hμ _ _ rfl (fun _=>rfl) (fun _=>rfl) (fun _=>rfl)
  rw[wt,m]
  omega
theorem zrs (l:List UInt8):l.take (zp l).length=zp l:=by
 have h1:∀ (a:UInt8) (r:List UInt8),(a::r).take (zbg a).length=zbg a:=fun a r=>by
  unfold zbg
  split
  ·simp
  simp
 match l with
 | []=>rfl
 | [a]=>exact h1 a []
 | a::b::r =>
  rw[zp]
  unfold zb6
  split
  ·simp
  exact h1 a (b::r)
end Go.Proofs.YtfbcnpbhhooapaaGreatDoor.M
namespace Go.Proofs.YtfbcnpbhhooapaaGreatDoor.M
open Go
def c_Q44_1:SC:=.seq (.reg [vO 4 (.mov (.c (.bool true)))]) .ret
def b_Q44_1:SC:=.seq (.seq (.reg [mO 11 5,mO 12 0,vO 13 (.len false (.t 12)),vO 14 (.bin .lss (.t 11) (.t 13))]) (.cond (.t 14) .skip (.exit 0))) (.seq (.block 1 (.seq (.dreg [mO 17 0,mO 18 5,vO 19 (.iaddr 1 (.t 17) (.t 18)),vO 20 (.load none (.t 19)),mO 21 1,mO 22 5,vO 23 (.iaddr 1 (.t 21) (.t 22)),vO 24 (.load none (.t 23)),vO 25 (.bin .neq (.t 20) (.t 24))] [false,false,false,false,false,false,false,false,true]) (.cond (.t 25) (.seq (.reg [vO 4 (.mov (.c (.bool false)))]) .ret) .skip))) (.reg [mO 15 5,vO 16 (.bin .add (.t 15) (cI 1)),mO 5 16]))
def c_Q44_2:SC:=.seq (.seq (.reg [mO 6 0,vO 7 (.len false (.t 6)),mO 8 1,vO 9 (.len false (.t 8)),vO 10 (.bin .neq (.t 7) (.t 9))]) (.cond (.t 10) (.seq (.reg [vO 4 (.mov (.c (.bool false)))]) .ret) .skip)) (.seq (.seq (.reg [vO 5 (.mov (cI 0))]) (.block 0 (.loop b_Q44_1))) c_Q44_1)
def sc_Q44:zk:=⟨2,26,.seq (.reg [vO 4 (.mov (.c (.bool false)))]) c_Q44_2,[(.t 4)]⟩
noncomputable def zpd (SP:Prg) (x:EO):CO:=fin [(.t 4)] (thC SP (zK 0 (x)) c_Q44_1)
theorem zur:type_of% (aI (ue c_Q44_1.eq_1)<|aI (ue b_Q44_1.eq_1)<|aI (ue c_Q44_2.eq_1)<|sc_Q44.eq_1):=aI (ue c_Q44_1.eq_1)<|aI (ue b_Q44_1.eq_1)<|aI (ue c_Q44_2.eq_1)<|sc_Q44.eq_1
theorem comp_Q44:comp Tryz.prog Tryz.f44=some sc_Q44:=by kernel_rfl
def c_Q21_1:SC:=.seq (.reg [vO 4 (.mov (.c (.bool true)))]) .ret
def c_Q21_2:SC:=.reg [mO 17 5,vO 18 (.bin .add (.t 17) (cI 1)),mO 5 18]
def c_Q21_3:SC:=.cond (.t 61) (.seq (.reg [vO 4 (.mov (.c (.bool false)))]) .ret) .skip
def c_Q21_4:SC:=.seq (.reg [vO 27 (.faddr 0 (.t 6)),vO 28 (.load none (.t 27)),vO 29 (.faddr 0 (.t 7)),vO 30 (.load none (.t 29)),vO 31 (.bin .neq (.t 28) (.t 30)),mO 32 31,gO 33 32 false (.faddr 1 (.t 6)),gO 34 32 false (.load none (.t 33)),gO 35 32 false (.faddr 1 (.t 7)),gO 36 32 false (.load none (.t 35)),gO 37 32 false (.bin .neq (.t 34) (.t 36)),vO 38 (.pick (.t 32) (.c (.bool true)) (.t 37)),mO 39 38,gO 40 39 false (.faddr 2 (.t 6)),gO 41 39 false (.load none (.t 40)),gO 42 39 false (.faddr 2 (.t 7)),gO 43 39 false (.load none (.t 42)),gO 44 39 false (.bin .neq (.t 41) (.t 43)),vO 45 (.pick (.t 39) (.c (.bool true)) (.t 44)),mO 46 45,gO 47 46 false (.faddr 3 (.t 6)),gO 48 46 false (.load none (.t 47)),gO 49 46 false (.faddr 3 (.t 7)),gO 50 46 false (.load none (.t 49)),⟨some 51,some (46,false),.call (.c (.func 43 [])) [(.t 48),(.t 50)]⟩,gO 52 46 false (.un .not (.t 51)),vO 53 (.pick (.t 46) (.c (.bool true)) (.t 52)),mO 54 53,gO 55 54 false (.faddr 4 (.t 6)),gO 56 54 false (.load none (.t 55)),gO 57 54 false (.faddr 4 (.t 7)),gO 58 54 false (.load none (.t 57)),⟨some 59,some (54,false),.call (.c (.func 44 [])) [(.t 56),(.t 58)]⟩,gO 60 54 false (.un .not (.t 59)),vO 61 (.pick (.t 54) (.c (.bool true)) (.t 60))]) c_Q21_3
def c_Q21_5:SC:=.seq (.block 1 (.seq (.sreg [0,5,1] [mO 19 0,mO 20 5,⟨some 21,none,.w (.iaddr 5 (.t 19) (.t 20))⟩,⟨some 22,none,.w (.load (some 5) (.t 21))⟩,mO 23 1,mO 24 5,⟨some 25,none,.w (.iaddr 5 (.t 23) (.t 24))⟩,⟨some 26,none,.w (.load (some 5) (.t 25))⟩,⟨some 6,none,.alloc [(.int .i64 0),(.int .i64 0),(.str []),(.nils 2),(.nils 1)]⟩,⟨some 7,none,.alloc [(.int .i64 0),(.int .i64 0),(.str []),(.nils 2),(.nils 1)]⟩,⟨none,none,.store 5 (.t 6) (.t 22)⟩,⟨none,none,.store 5 (.t 7) (.t 26)⟩] [false,false,false,false,false,false,false,false,false,false,true,true]) c_Q21_4)) c_Q21_2
def b_Q21_1:SC:=.seq (.seq (.reg [mO 13 5,mO 14 0,vO 15 (.len false (.t 14)),vO 16 (.bin .lss (.t 13) (.t 15))]) (.cond (.t 16) .skip (.exit 0))) c_Q21_5
def c_Q21_6:SC:=.block 0 (.loop b_Q21_1)
def c_Q21_7:SC:=.seq (.seq (.reg [vO 5 (.mov (cI 0))]) c_Q21_6) c_Q21_1
def c_Q21_8:SC:=.seq (.seq (.reg [mO 8 0,vO 9 (.len false (.t 8)),mO 10 1,vO 11 (.len false (.t 10)),vO 12 (.bin .neq (.t 9) (.t 11))]) (.cond (.t 12) (.seq (.reg [vO 4 (.mov (.c (.bool false)))]) .ret) .skip)) c_Q21_7
def sc_Q21:zk:=⟨2,62,.seq (.reg [vO 4 (.mov (.c (.bool false)))]) c_Q21_8,[(.t 4)]⟩
noncomputable def zoM (SP:Prg) (x:EO):CO:=fin [(.t 4)] (thC SP (zK 0 (x)) c_Q21_1)
theorem zut:type_of% (aI (ue c_Q21_1.eq_1)<|aI (ue c_Q21_2.eq_1)<|aI (ue c_Q21_3.eq_1)<|aI (ue c_Q21_4.eq_1)<|aI (ue c_Q21_5.eq_1)<|aI (ue b_Q21_1.eq_1)<|aI (ue c_Q21_6.eq_1)<|aI (ue c_Q21_7.eq_1)<|aI (ue c_Q21_8.eq_1)<|sc_Q21.eq_1):=aI (ue c_Q21_1.eq_1)<|aI (ue c_Q21_2.eq_1)<|aI (ue c_Q21_3.eq_1)<|aI (ue c_Q21_4.eq_1)<|aI (ue c_Q21_5.eq_1)<|aI (ue b_Q21_1.eq_1)<|aI (ue c_Q21_6.eq_1)<|aI (ue c_Q21_7.eq_1)<|aI (ue c_Q21_8.eq_1)<|sc_Q21.eq_1
theorem comp_Q21:comp Tryz.prog Tryz.f21=some sc_Q21:=by kernel_rfl
end Go.Proofs.YtfbcnpbhhooapaaGreatDoor.M
namespace Go.Proofs.YtfbcnpbhhooapaaGreatDoor.M
open Go Classical
theorem zxU:SP 44=some (.code sc_Q44):=zb rfl Tryz.func44 comp_Q44
def zfZ (a:List Int) (b:List Int) (i1:Int) (r:Bool):Prop:=∀ (S:Sto) (e:Nat→PV) (f:Fr),e 0=.list 1 (a.map eI) false∧e 1=.list 1 (b.map eI) false∧e 5=.int .i64 i1→zpd SP (E SP (.loop b_Q44_1) ⟨e,f::S⟩)=.ok (.v (.bool r)) S
theorem zgi (a:List Int) (b:List Int) (i1:Int) (r:Bool) (T :
  ((i1 < (a.length:Int)) →
  (0≤i1) ∧
  ∃ (v2:Int),(a[i1.toNat]?=some v2) ∧
  (0≤i1) ∧
  ∃ (v3:Int),(b[i1.toNat]?=some v3) ∧
  ((v2=v3) →
   (I64 (i1+1)) ∧
   zfZ a b (i1+1) r) ∧
  (¬ (v2=v3) →
   false=r)) ∧
 (¬ (i1 < (a.length:Int)) →
  true=r)):zfZ a b i1 r:=by
 intro S e f h
 unfold zpd
 rw[zS]
 have F:=zur
 exact rn (aa h<|F) T
theorem ztt (a:List Int) (b:List Int) (r:Bool) (T :
  (((a.length:Int)=(b.length:Int)) →
  zfZ a b 0 r) ∧
 (¬ ((a.length:Int)=(b.length:Int)) →
  false=r)):zpr a b r:=by
 intro S
 rw[za zxU _ _ rfl]
 have F:=zur
 exact rn F T
theorem zxC:SP 21=some (.code sc_Q21):=zb rfl Tryz.func21 comp_Q21
def zfU (a:List Node) (b:List Node) (i1:Int) (r:Bool):Prop:=∀ (S:Sto) (e:Nat→PV) (f:Fr),e 0=.list 5 (a.map eNode) false∧e 1=.list 5 (b.map eNode) false∧e 5=.int .i64 i1→zoM SP (E SP (.loop b_Q21_1) ⟨e,f::S⟩)=.ok (.v (.bool r)) S
theorem zgh (a:List Node) (b:List Node) (i1:Int) (r:Bool) (T :
  ((i1 < (a.length:Int)) →
  (0≤i1) ∧
  ∃ (v2:Node),(a[i1.toNat]?=some v2) ∧
  (0≤i1) ∧
  ∃ (v3:Node),(b[i1.toNat]?=some v3) ∧
  ((v2.Kind=v3.Kind) →
   ((v2.Num=v3.Num) →
    ((v2.Text=v3.Text) →
     ∃ (r4:Bool),(zps v2.Parts v3.Parts r4) ∧
     ((r4=true) →
      ∃ (r5:Bool),(zpr v2.Kids v3.Kids r5) ∧
      ((r5=true) →
       (I64 (i1+1)) ∧
       zfU a b (i1+1) r) ∧
      (¬ (r5=true) →
       false=r)) ∧
     (¬ (r4=true) →
      false=r)) ∧
    (¬ (v2.Text=v3.Text) →
     false=r)) ∧
   (¬ (v2.Num=v3.Num) →
    false=r)) ∧
  (¬ (v2.Kind=v3.Kind) →
   false=r)) ∧
 (¬ (i1 < (a.length:Int)) →
  true=r)):zfU a b i1 r:=by
 intro S e f h
 unfold zoM
 rw[zS]
 have F:=zut
 exact rn (aa h<|F) T
theorem ztA (a:List Node) (b:List Node) (r:Bool) (T :
  (((a.length:Int)=(b.length:Int)) →
  zfU a b 0 r) ∧
 (¬ ((a.length:Int)=(b.length:Int)) →
  false=r)):zfO a b r:=by
 intro S
 rw[za zxC _ _ rfl]
 have F:=zut
 exact rn F T
end Go.Proofs.YtfbcnpbhhooapaaGreatDoor.M
namespace Go.Proofs.YtfbcnpbhhooapaaGreatDoor.M
open Go Classical
theorem zdQ {α:Type} [DecidableEq α] {a b:List α} {i:Nat} (ha:i < a.length) (hb:i < b.length):decide (a.drop i=b.drop i)=decide (a[i]=b[i]∧a.drop (i+1)=b.drop (i+1)):=by
 rw[List.drop_eq_getElem_cons ha,List.drop_eq_getElem_cons hb]
 simp only[List.cons.injEq]
theorem ziG {α:Type} [DecidableEq α] {a b:List α} {i:Nat} (h:a.length=b.length) (ha:i=a.length):decide (a.drop i=b.drop i)=true:=by
 rw[List.drop_of_length_le (by omega),List.drop_of_length_le (by omega)]
 simp
theorem zkq {α:Type} [DecidableEq α] {a b:List α} (h:¬ (a.length:Int)=(b.length:Int)):decide (a=b)=false:=decide_eq_false fun e=>h (by rw[e])
theorem part_eq {p q:Part}:(p.Ref=q.Ref∧p.Text=q.Text)↔p=q:=by
 cases p;cases q;simp
theorem znw (a b:List Part) (h:a.length≤1000000):zps a b (decide (a=b)):=by
 refine ztG _ _ _ ⟨fun hl=>?_,fun hl=>(zkq hl).symm⟩
 have loop:∀ (m i:Nat),i+m=a.length→zfJ a b i (decide (a.drop i=b.drop i)):=by
  intro m
  induction m with
  | zero =>
   intro i hi
   exact zgk _ _ _ _ ⟨fun h=>by omega,fun _=>(ziG (by omega) (by omega)).symm⟩
  | succ m ih =>
   intro i hi
   have hb:i < b.length:=by omega
   have ha:i < a.length:=by omega
   have ga:a[((i:Nat):Int).toNat]?=some a[i]:=by rw[Int.toNat_natCast];exact List.getElem?_eq_getElem ha
   have gb:b[((i:Nat):Int).toNat]?=some b[i]:=by rw[Int.toNat_natCast];exact List.getElem?_eq_getElem hb
   refine zgk _ _ _ _ ⟨fun _=>⟨by omega,_,ga,by omega,_,gb,fun he=>⟨⟨by omega,by omega⟩,?_⟩,fun he=>?_⟩,fun h=>by omega⟩
   ·rw[zdQ ha hb,decide_eq_decide.2 (and_iff_right (part_eq.1 he))]
    exact ih (i+1) (by omega)
   rw[zdQ ha hb]
   exact (decide_eq_false fun h=>he (part_eq.2 h.1)).symm
 have:=loop a.length 0 (by omega)
 simpa using this
theorem zvx (a b:List Int) (h:a.length≤1000000):zpr a b (decide (a=b)):=by
 refine ztt _ _ _ ⟨fun hl=>?_,fun hl=>(zkq hl).symm⟩
 have loop:∀ (m i:Nat),i+m=a.length→zfZ a b i (decide (a.drop i=b.drop i)):=by
  intro m
  induction m with
  | zero =>
   intro i hi
   exact zgi _ _ _ _ ⟨fun h=>by omega,fun _=>(ziG (by omega) (by omega)).symm⟩
  | succ m ih =>
   intro i hi
   have hb:i < b.length:=by omega
   have ha:i < a.length:=by omega
   have ga:a[((i:Nat):Int).toNat]?=some a[i]:=by rw[Int.toNat_natCast];exact List.getElem?_eq_getElem ha
   have gb:b[((i:Nat):Int).toNat]?=some b[i]:=by rw[Int.toNat_natCast];exact List.getElem?_eq_getElem hb
   refine zgi _ _ _ _ ⟨fun _=>⟨by omega,_,ga,by omega,_,gb,fun he=>⟨⟨by omega,by omega⟩,?_⟩,fun he=>?_⟩,fun h=>by omega⟩
   ·rw[zdQ ha hb,decide_eq_decide.2 (and_iff_right he)]
    exact ih (i+1) (by omega)
   rw[zdQ ha hb]
   exact (decide_eq_false fun h=>he h.1).symm
 have:=loop a.length 0 (by omega)
 simpa using this
theorem zmD (a b:List Node) (h:a.length≤1000000) (hp:∀ n ∈ a,n.Kids.length≤1000000∧n.Parts.length≤1000000):zfO a b (decide (a=b)):=by
 refine ztA _ _ _ ⟨fun hl=>?_,fun hl=>(zkq hl).symm⟩
 have loop:∀ (m i:Nat),i+m=a.length→zfU a b i (decide (a.drop i=b.drop i)):=by
  intro m
  induction m with
  | zero =>
   intro i hi
   exact zgh _ _ _ _ ⟨fun h=>by omega,fun _=>(ziG (by omega) (by omega)).symm⟩
  | succ m ih =>
   intro i hi
   have hb:i < b.length:=by omega
   have ha:i < a.length:=by omega
   have ga:a[((i:Nat):Int).toNat]?=some a[i]:=by rw[Int.toNat_natCast];exact List.getElem?_eq_getElem ha
   have gb:b[((i:Nat):Int).toNat]?=some b[i]:=by rw[Int.toNat_natCast];exact List.getElem?_eq_getElem hb
   obtain⟨h1,h2⟩:=hp _ (List.getElem_mem ha)
   have hs:=znw a[i].Parts b[i].Parts h2
   have hk:=zvx a[i].Kids b[i].Kids h1
   have next:=ih (i+1) (by omega)
   rw[zdQ ha hb]
   generalize a[i]=x at *
   generalize b[i]=y at *
   have no:¬ x=y→false=decide (x=y∧a.drop (i+1)=b.drop (i+1)):=fun hf=>(decide_eq_false fun h=>hf h.1).symm
   refine zgh _ _ _ _ ⟨fun _=>⟨by omega,_,ga,by omega,_,gb,fun e1=>⟨fun e2=>⟨fun e3=>⟨_,hs,fun e4=>⟨_,hk,fun e5=>⟨⟨by omega,by omega⟩,?_⟩,fun e5=>no fun e=>e5 (decide_eq_true (by rw[e]))⟩,fun e4=>no fun e=>e4 (decide_eq_true (by rw[e]))⟩,fun e3=>no fun e=>e3 (by rw[e])⟩,fun e2=>no fun e=>e2 (by rw[e])⟩,fun e1=>no fun e=>e1 (by rw[e])⟩,fun h=>by omega⟩
   have e:x=y:=by
    have e4:=of_decide_eq_true e4
    have e5:=of_decide_eq_true e5
    cases x;cases y;simp_all
   rw[decide_eq_decide.2 (and_iff_right e)]
   exact next
 have:=loop a.length 0 (by omega)
 simpa using this
def awT:List UInt8:=[40,32,49,43,32,50,41,32,42,51]
def awL:List Node:=[⟨1,1,[],[],[]⟩,⟨1,2,[],[],[]⟩,⟨19,0,[],[],[0,1]⟩,⟨1,3,[],[],[]⟩,⟨21,0,[],[],[2,3]⟩]
def prN:PR (List Node)→Option (List Node)
 | .ok l _ _=>some l
 | _=>none
theorem zs2:prN (zeu awT)=some awL:=by kernel_rfl
theorem zuP:exS awL=[40,49,32,43,32,50,41,32,42,32,51]:=by kernel_rfl
theorem ziF:zbl true:=by
 have h:=zks awT (by decide)
 have e:=zs2
 have hp:zaI awT awL 0:=by
  cases hq:zeu awT with
  | ok l ts o =>
   rw[hq] at h e
   obtain rfl:=Option.some.inj e
   exact h
  | er x=>rw[hq] at e;cases e
  | no=>rw[hq] at e;cases e
 have hs:zjf awL (exS awL):=zec awL (by decide) fun n hn=>by
  simp only[awL,List.mem_cons,List.not_mem_nil,or_false] at hn
  rcases hn with rfl | rfl | rfl | rfl | rfl <;> exact⟨⟨by decide,by decide⟩,by decide,⟨by decide,fun p hp=>by cases hp⟩,by decide⟩
 exact zsE _ ⟨_,_,hp,_,hs,decide_eq_true zuP⟩
theorem zvA {l:List Node} {o:Int→List UInt8} {n:Node} (hn:zi n=true):(ndS l o n).length≤(n.Text.length+(qtS n.Parts).length+(Lib.itoa n.Num).length+2*n.Kids.length+20)+zT o n.Kids:=by
 have t4:=zmQ (decide (n.Num=1))
 have t5:=ziE o n.Kids
 have w:=zjZ l o
 have sg:=zkl n.Kind
 have h1:=zaS hn
 by_cases k1:n.Kind=1
 ·rw[nd1 k1];omega
 by_cases k2:n.Kind=2
 ·rw[nd2 k2];omega
 by_cases k3:n.Kind=3
 ·rw[nd3 k3];omega
 by_cases k4:n.Kind=4
 ·rw[nd4 k4];omega
 by_cases k5:n.Kind=5
 ·rw[nd5 k5];simp only[List.length_append,List.length_cons,List.length_nil];omega
 by_cases k6:n.Kind=6
 ·rw[nd6 k6];simp only[List.length_append,List.length_cons,List.length_nil];omega
 by_cases k7:n.Kind=7
 ·have e:zT o n.Kids=(o (kid n 0)).length+((o (kid n 1)).length+0):=by rw[zO (kdk hn 7 2 k7 (by decide) (by decide) (by decide))];rfl
  have:=w (kid n 0) 7
  rw[nd7 k7];simp only[List.length_append,List.length_cons,List.length_nil];omega
 by_cases k8:n.Kind=8
 ·have e:zT o n.Kids=(o (kid n 0)).length+0:=by rw[zO (kdk hn 8 1 k8 (by decide) (by decide) (by decide))];rfl
  have:=w (kid n 0) 6
  rw[nd8 k8];simp only[List.length_append,List.length_cons,List.length_nil];omega
 by_cases k9:n.Kind=9
 ·have e:zT o n.Kids=(o (kid n 0)).length+0:=by rw[zO (kdk hn 9 1 k9 (by decide) (by decide) (by decide))];rfl
  have:=w (kid n 0) 6
  rw[nd9 k9];simp only[List.length_append,List.length_cons,List.length_nil];omega
 by_cases k10:n.Kind=10
 ·have e:zT o n.Kids=(o (kid n 0)).length+((o (kid n 1)).length+((o (kid n 2)).length+0)):=by rw[zO (kdk hn 10 3 k10 (by decide) (by decide) (by decide))];rfl
  have:=w (kid n 0) 1
  rw[zl2 k10];simp only[List.length_append,List.length_cons,List.length_nil];omega
 have e:zT o n.Kids=(o (kid n 0)).length+((o (kid n 1)).length+0):=by rw[zO (kd2 hn (by omega))];rfl
 rw[zjW (by omega)]
 generalize (if rkS n.Kind=3 then rkS n.Kind+1 else rkS n.Kind)=q
 have:=w (kid n 0) q
 have:=w (kid n 1) (rkS n.Kind+1)
 simp only[List.length_append,List.length_cons,List.length_nil];omega
def noB (s:List UInt8):Prop:=(40:UInt8) ∉ s∧(41:UInt8) ∉ s
def NP (n:Node):Prop:=noB n.Text∧∀ p ∈ n.Parts,noB p.Text
theorem zfh:noB []:=⟨by simp,by simp⟩
structure MN (n:Node):Prop where
 ok:zi n=true
 ns:NS n
 text:n.Text.length≤11
 parts:(qtS n.Parts).length≤15
 num:(Lib.itoa n.Num).length≤2
 kids:n.Kids.length≤3
 np:NP n
structure MI (l:List Node) (st:List Int):Prop where
 stk:Stk l st.reverse
 each:∀ n ∈ l,MN n
theorem MI.nil:MI [] []:=⟨Stk.nil,fun n hn=>by cases hn⟩
theorem MI.snoc {l:List Node} {st:List Int} (h:MI l st) {k:Nat} (hk:k≤st.length) {n:Node} (hn:MN n) (hd:n.Kids=st.drop (st.length - k)):MI (l++[n]) (st.take (st.length - k)++[(l.length:Int)]) :=
 ⟨h.stk.made hk hn.ok hd,fun m hm=>by
  rcases List.mem_append.1 hm with hm | hm
  ·exact h.each m hm
  rw[List.mem_singleton.1 hm];exact hn⟩
theorem MI.tree {l:List Node} {st:List Int} (h:MI l st) (h1:st.length=1) (h80:l.length≤80):TR l∧(exS l).length≤6000∧∀ n ∈ l,NP n:=by
 have ht:zaU l=true:=h.stk.tree (by rw[List.length_reverse];exact h1)
 refine⟨⟨ht,fun n hn=>(h.each n hn).ns,h80⟩,?_,fun n hn=>(h.each n hn).np⟩
 have:=zsN 60 ht fun n hn hok o=>by
  have m:=h.each n hn
  have h1:=zvA (l:=l) (o:=o) hok
  have:=m.text
  have:=m.parts
  have:=m.num
  have:=m.kids
  omega
 omega
theorem zf3 {n:Nat} (h:n < 100):(Lib.itoa (n:Int)).length≤2:=by
 have hi:Lib.itoa (n:Int)=Lib.decDigits n:=by simp[Lib.itoa]
 rw[hi,Lib.decDigits]
 split
 ·simp
 rw[Lib.decDigits_one (by omega)]
 simp
theorem znQ:I64 0:=⟨by omega,by omega⟩
theorem zb5 {k:Int} {ks:List Int} (h6:6≤k) (h23:k≤23) (hd:kdS k=(ks.length:Nat)∨k=6) (h3:ks.length≤3):MN (Node.mk k 0 [] [] ks):=by
 have hp:plS (Node.mk k 0 [] [] ks)=true:=by
  rw[plS,if_neg (by simp only;omega),if_neg (by simp only;omega),if_neg (by simp only;omega),if_neg (by simp only;omega),if_neg (by simp only;omega)]
  simp
 refine⟨?_,⟨znQ,by simp,⟨by simp,fun p hp=>by cases hp⟩,by simp only;omega⟩,by simp,by simp[qtS],zf3 (n:=0) (by decide),h3,zfh,fun p hp=>by cases hp⟩
 simp only[zi,hp,Bool.and_true,Bool.or_eq_true,decide_eq_true_eq]
 rcases hd with hd | rfl
 ·exact .inl hd
 exact .inr (by decide)
theorem ztV {z:Int} (h0:0≤z) (h1:z < 30):MN (Node.mk 1 z [] [] []):=by
 obtain⟨n,rfl⟩:∃ n:Nat,z=n:=⟨z.toNat,by omega⟩
 have hp:plS (Node.mk 1 (n:Int) [] [] [])=true:=by
  rw[plS,if_pos rfl]
  simp
 refine⟨?_,⟨⟨by simp only;omega,by simp only;omega⟩,by simp,⟨by simp,fun p hp=>by cases hp⟩,by simp⟩,by simp,by simp[qtS],zf3 (by omega),by simp,zfh,fun p hp=>by cases hp⟩
 simp only[zi,hp,Bool.and_true,Bool.or_eq_true,decide_eq_true_eq]
 exact .inl (by decide)
theorem zqJ {z:Int} (h:z=0∨z=1):MN (Node.mk 3 z [] [] []):=by
 rcases h with rfl | rfl
 ·refine⟨by kernel_rfl,⟨znQ,by simp,⟨by simp,fun p hp=>by cases hp⟩,by simp⟩,by simp,by simp[qtS],zf3 (n:=0) (by decide),by simp,zfh,fun p hp=>by cases hp⟩
 refine⟨by kernel_rfl,⟨⟨by simp only;omega,by simp only;omega⟩,by simp,⟨by simp,fun p hp=>by cases hp⟩,by simp⟩,by simp,by simp[qtS],zf3 (n:=1) (by decide),by simp,zfh,fun p hp=>by cases hp⟩
def za7:List (List UInt8):=[[118,97,114,46,120],[108,111,99,97,108,46,121],[99,111,117,110,116,46,105,110,100,101,120],[118,97,114,46,108]]
theorem ztY {s:List UInt8} (h:s ∈ za7):MN (Node.mk 4 0 s [] []):=by
 have hp:zi (Node.mk 4 0 s [] [])=true∧s.length≤11∧noB s:=by
  simp only[za7,List.mem_cons,List.not_mem_nil,or_false] at h
  rcases h with rfl | rfl | rfl | rfl <;> exact⟨by kernel_rfl,by simp,by constructor <;> decide⟩
 exact⟨hp.1,⟨znQ,by have:=hp.2.1;simp only;omega,⟨by simp,fun p hp=>by cases hp⟩,by simp⟩,hp.2.1,by simp[qtS],zf3 (n:=0) (by decide),by simp,hp.2.2,fun p hp=>by cases hp⟩
def zaP:List (List Part):=[[],[(Part.mk false [97,34,36,10])],[(Part.mk true [118,97,114,46,120])],[(Part.mk false [98]),(Part.mk true [108,111,99,97,108,46,121]),(Part.mk false [92])]]
theorem zt3 {ps:List Part} (h:ps ∈ zaP):MN (Node.mk 2 0 [] ps []):=by
 simp only[zaP,List.mem_cons,List.not_mem_nil,or_false] at h
 rcases h with rfl | rfl | rfl | rfl
 all_goals refine⟨by kernel_rfl,⟨znQ,by simp,⟨by decide,by decide⟩,by simp⟩,by simp,by decide,zf3 (n:=0) (by decide),by simp,zfh,fun p hp=>?_⟩
 all_goals simp only[List.mem_cons,List.not_mem_nil,or_false] at hp
 all_goals first
  | (subst hp;exact⟨by decide,by decide⟩)
  | (rcases hp with rfl | rfl | rfl <;> exact⟨by decide,by decide⟩)
def zaQ:List (List UInt8):=[[109,105,110],[109,97,120],[115,117,109],[108,101,110],[99,111,110,99,97,116],[114,97,110,103,101],[116,101,120,116],[104,97,115]]
theorem zro {s:List UInt8} (h:s ∈ zaQ) {ks:List Int} (h3:ks.length≤3):MN (Node.mk 5 0 s [] ks):=by
 have hp:zak s=true∧zaO s=false∧s.length≤6∧noB s:=by
  simp only[zaQ,List.mem_cons,List.not_mem_nil,or_false] at h
  rcases h with rfl | rfl | rfl | rfl | rfl | rfl | rfl | rfl <;> exact⟨by kernel_rfl,by kernel_rfl,by simp,by constructor <;> decide⟩
 obtain⟨h1,h2,h4,h5⟩:=hp
 have hpl:plS (Node.mk 5 0 s [] ks)=true:=by
  rw[plS,if_neg (by simp),if_neg (by simp),if_neg (by simp),if_pos rfl]
  simp[h1,h2]
 refine⟨?_,⟨znQ,by simp only;omega,⟨by simp,fun p hp=>by cases hp⟩,by simp only;omega⟩,by simp only;omega,by simp[qtS],zf3 (n:=0) (by decide),h3,h5,fun p hp=>by cases hp⟩
 simp only[zi,hpl,Bool.and_true,Bool.or_eq_true,decide_eq_true_eq]
 exact .inr (by decide)
end Go.Proofs.YtfbcnpbhhooapaaGreatDoor.M
namespace Go.Proofs.YtfbcnpbhhooapaaGreatDoor.M
open Go
def c_Q22_1:SC:=.seq (.reg [mO 202 3,mO 2 202]) .ret
def c_Q22_2:SC:=.reg [mO 189 4,mO 190 4,vO 191 (.len false (.t 190)),vO 192 (.bin .sub (.t 191) (cI 2)),mO 193 4,vO 194 (.len false (.t 193)),vO 195 (.bin .sub (.t 194) (cI 2)),vO 196 (.slc 1 (.t 189) none (some (.t 192)) (some (.t 195))),mO 197 3,vO 198 (.len false (.t 197)),vO 199 (.bin .sub (.t 198) (cI 1)),⟨some 200,none,.bslice 1 1 [(.int .i64 0)] [(0,(.t 199))]⟩,⟨some 201,none,.append 1 8 (.t 196) (.t 200)⟩,mO 4 201]
def c_Q22_3:SC:=.block 4 (.seq (.dreg [mO 172 3,mO 173 4,mO 174 4,vO 175 (.len false (.t 174)),vO 176 (.bin .sub (.t 175) (cI 2)),vO 177 (.iaddr 1 (.t 173) (.t 176)),vO 178 (.load none (.t 177)),mO 179 4,mO 180 4,vO 181 (.len false (.t 180)),vO 182 (.bin .sub (.t 181) (cI 1)),vO 183 (.iaddr 1 (.t 179) (.t 182)),vO 184 (.load none (.t 183)),⟨some 185,none,.bslice 1 2 [(.int .i64 0)] [(0,(.t 178)),(1,(.t 184))]⟩,vO 186 (.build [(.int .i64 0),(.int .i64 0),(.str []),(.nils 2),(.nils 1)] [(0,1,(cI 19)),(4,1,(.t 185))]),⟨some 187,none,.bslice 5 1 [(.int .i64 0),(.int .i64 0),(.str []),(.nils 2),(.nils 1)] [(0,(.t 186))]⟩,⟨some 188,none,.append 5 80 (.t 172) (.t 187)⟩,mO 3 188] [false,false,false,false,false,false,false,false,false,false,false,false,false,true,true,true,true,true]) c_Q22_2)
def b_Q22_1:SC:=.seq (.seq (.reg [mO 169 4,vO 170 (.len false (.t 169)),vO 171 (.bin .gtr (.t 170) (cI 1))]) (.cond (.t 171) .skip (.exit 3))) c_Q22_3
def c_Q22_4:SC:=.seq (.block 3 (.loop b_Q22_1)) c_Q22_1
def c_Q22_5:SC:=.reg [mO 18 5,vO 19 (.bin .add (.t 18) (cI 1)),mO 5 19]
def c_Q22_6:SC:=.seq (.reg [mO 151 4,mO 152 4,vO 153 (.len false (.t 152)),mO 154 8,vO 155 (.bin .sub (.t 153) (.t 154)),mO 156 4,vO 157 (.len false (.t 156)),mO 158 8,vO 159 (.bin .sub (.t 157) (.t 158)),vO 160 (.slc 1 (.t 151) none (some (.t 155)) (some (.t 159))),mO 161 3,vO 162 (.len false (.t 161)),⟨some 163,none,.bslice 1 1 [(.int .i64 0)] [(0,(.t 162))]⟩,⟨some 164,none,.append 1 8 (.t 160) (.t 163)⟩,mO 4 164]) (.reg [mO 165 3,vO 166 (.load (some 5) (.t 7)),⟨some 167,none,.bslice 5 1 [(.int .i64 0),(.int .i64 0),(.str []),(.nils 2),(.nils 1)] [(0,(.t 166))]⟩,⟨some 168,none,.append 5 80 (.t 165) (.t 167)⟩,mO 3 168])
def c_Q22_7:SC:=.seq (.reg [⟨some 142,none,.bslice 1 0 [(.int .i64 0)] []⟩,mO 143 4,mO 144 4,vO 145 (.len false (.t 144)),mO 146 8,vO 147 (.bin .sub (.t 145) (.t 146)),vO 148 (.slc 1 (.t 143) (some (.t 147)) none none),⟨some 149,none,.append 1 8 (.t 142) (.t 148)⟩,vO 150 (.faddr 4 (.t 7)),⟨none,none,.store 1 (.t 150) (.t 149)⟩]) c_Q22_6
def c_Q22_8:SC:=.cond (.t 123) (.reg [mO 127 6,vO 128 (.bin .quo (.t 127) (cI 11)),vO 129 (.bin .rem (.t 128) (cI 2)),vO 130 (.build [(.int .i64 0),(.int .i64 0),(.str []),(.nils 2),(.nils 1)] [(0,1,(cI 3)),(1,1,(.t 129))]),⟨none,none,.store 5 (.t 7) (.t 130)⟩]) (.seq (.reg [mO 132 6,vO 133 (.bin .rem (.t 132) (cI 11)),vO 134 (.bin .eql (.t 133) (cI 8)),mO 131 134]) (.cond (.t 131) (.reg [⟨some 135,none,.bslice 1 4 [(.str [])] [(0,(.c (.str [118,97,114,46,120]))),(1,(.c (.str [108,111,99,97,108,46,121]))),(2,(.c (.str [99,111,117,110,116,46,105,110,100,101,120]))),(3,(.c (.str [118,97,114,46,108])))]⟩,mO 136 6,vO 137 (.bin .quo (.t 136) (cI 11)),vO 138 (.bin .rem (.t 137) (cI 4)),vO 139 (.iaddr 1 (.t 135) (.t 138)),vO 140 (.load none (.t 139)),vO 141 (.build [(.int .i64 0),(.int .i64 0),(.str []),(.nils 2),(.nils 1)] [(0,1,(cI 4)),(2,1,(.t 140))]),⟨none,none,.store 5 (.t 7) (.t 141)⟩]) .skip))
def c_Q22_9:SC:=.cond (.t 104) (.reg [vO 108 (.build [(.bool false),(.str [])] [(1,1,(.c (.str [97,34,36,10])))]),⟨some 109,none,.bslice 2 1 [(.bool false),(.str [])] [(0,(.t 108))]⟩,vO 110 (.build [(.bool false),(.str [])] [(0,1,(.c (.bool true))),(1,1,(.c (.str [118,97,114,46,120])))]),⟨some 111,none,.bslice 2 1 [(.bool false),(.str [])] [(0,(.t 110))]⟩,vO 112 (.build [(.bool false),(.str [])] [(1,1,(.c (.str [98])))]),vO 113 (.build [(.bool false),(.str [])] [(0,1,(.c (.bool true))),(1,1,(.c (.str [108,111,99,97,108,46,121])))]),vO 114 (.build [(.bool false),(.str [])] [(1,1,(.c (.str [92])))]),⟨some 115,none,.bslice 2 3 [(.bool false),(.str [])] [(0,(.t 112)),(1,(.t 113)),(2,(.t 114))]⟩,⟨some 116,none,.bslice 1 4 [(.nils 2)] [(0,(.c (.nils 2))),(1,(.t 109)),(2,(.t 111)),(3,(.t 115))]⟩,mO 117 6,vO 118 (.bin .quo (.t 117) (cI 11)),vO 119 (.bin .rem (.t 118) (cI 4)),vO 120 (.iaddr 1 (.t 116) (.t 119)),vO 121 (.load none (.t 120)),vO 122 (.build [(.int .i64 0),(.int .i64 0),(.str []),(.nils 2),(.nils 1)] [(0,1,(cI 2)),(3,1,(.t 121))]),⟨none,none,.store 5 (.t 7) (.t 122)⟩]) (.seq (.reg [mO 124 6,vO 125 (.bin .rem (.t 124) (cI 11)),vO 126 (.bin .eql (.t 125) (cI 7)),mO 123 126]) c_Q22_8)
def c_Q22_10:SC:=.cond (.t 87) (.seq (.reg [⟨some 91,none,.bslice 1 8 [(.str [])] [(0,(.c (.str [109,105,110]))),(1,(.c (.str [109,97,120]))),(2,(.c (.str [115,117,109]))),(3,(.c (.str [108,101,110]))),(4,(.c (.str [99,111,110,99,97,116]))),(5,(.c (.str [114,97,110,103,101]))),(6,(.c (.str [116,101,120,116]))),(7,(.c (.str [104,97,115])))]⟩,mO 92 6,vO 93 (.bin .quo (.t 92) (cI 11)),vO 94 (.bin .rem (.t 93) (cI 8)),vO 95 (.iaddr 1 (.t 91) (.t 94)),vO 96 (.load none (.t 95)),vO 97 (.build [(.int .i64 0),(.int .i64 0),(.str []),(.nils 2),(.nils 1)] [(0,1,(cI 5)),(2,1,(.t 96))]),⟨none,none,.store 5 (.t 7) (.t 97)⟩]) (.reg [mO 98 4,vO 99 (.len false (.t 98)),mO 100 6,vO 101 (.bin .quo (.t 100) (cI 88)),vO 102 (.bin .add (cI 1) (.t 101)),vO 103 (.mm false (.t 99) (.t 102)),mO 8 103])) (.seq (.reg [mO 105 6,vO 106 (.bin .rem (.t 105) (cI 11)),vO 107 (.bin .eql (.t 106) (cI 6)),mO 104 107]) c_Q22_9)
def c_Q22_11:SC:=.cond (.t 76) (.seq (.reg [vO 80 (.build [(.int .i64 0),(.int .i64 0),(.str []),(.nils 2),(.nils 1)] [(0,1,(cI 6))]),⟨none,none,.store 5 (.t 7) (.t 80)⟩]) (.reg [mO 81 4,vO 82 (.len false (.t 81)),mO 83 6,vO 84 (.bin .quo (.t 83) (cI 11)),vO 85 (.bin .rem (.t 84) (cI 4)),vO 86 (.mm false (.t 82) (.t 85)),mO 8 86])) (.seq (.reg [mO 88 6,vO 89 (.bin .rem (.t 88) (cI 11)),vO 90 (.bin .eql (.t 89) (cI 5)),mO 87 90]) c_Q22_10)
def c_Q22_12:SC:=.cond (.t 66) (.seq (.reg [vO 75 (.build [(.int .i64 0),(.int .i64 0),(.str []),(.nils 2),(.nils 1)] [(0,1,(cI 7))]),⟨none,none,.store 5 (.t 7) (.t 75)⟩]) (.reg [vO 8 (.mov (cI 2))])) (.seq (.reg [mO 77 6,vO 78 (.bin .rem (.t 77) (cI 11)),vO 79 (.bin .eql (.t 78) (cI 4)),mO 76 79]) c_Q22_11)
def c_Q22_13:SC:=.cond (.t 56) (.seq (.reg [vO 65 (.build [(.int .i64 0),(.int .i64 0),(.str []),(.nils 2),(.nils 1)] [(0,1,(cI 10))]),⟨none,none,.store 5 (.t 7) (.t 65)⟩]) (.reg [vO 8 (.mov (cI 3))])) (.seq (.reg [mO 67 6,vO 68 (.bin .rem (.t 67) (cI 11)),vO 69 (.bin .eql (.t 68) (cI 3)),mO 70 69,gO 71 70 true (.mov (.t 4)),gO 72 70 true (.len false (.t 71)),gO 73 70 true (.bin .geq (.t 72) (cI 2)),vO 74 (.pick (.t 70) (.t 73) (.c (.bool false))),mO 66 74]) c_Q22_12)
def c_Q22_14:SC:=.cond (.t 42) (.seq (.reg [mO 51 6,vO 52 (.bin .quo (.t 51) (cI 11)),vO 53 (.bin .rem (.t 52) (cI 2)),vO 54 (.bin .add (cI 8) (.t 53)),vO 55 (.build [(.int .i64 0),(.int .i64 0),(.str []),(.nils 2),(.nils 1)] [(0,1,(.t 54))]),⟨none,none,.store 5 (.t 7) (.t 55)⟩]) (.reg [vO 8 (.mov (cI 1))])) (.seq (.reg [mO 57 6,vO 58 (.bin .rem (.t 57) (cI 11)),vO 59 (.bin .eql (.t 58) (cI 2)),mO 60 59,gO 61 60 true (.mov (.t 4)),gO 62 60 true (.len false (.t 61)),gO 63 60 true (.bin .geq (.t 62) (cI 3)),vO 64 (.pick (.t 60) (.t 63) (.c (.bool false))),mO 56 64]) c_Q22_13)
def c_Q22_15:SC:=.cond (.t 28) (.seq (.reg [mO 37 6,vO 38 (.bin .quo (.t 37) (cI 3)),vO 39 (.bin .rem (.t 38) (cI 13)),vO 40 (.bin .add (cI 11) (.t 39)),vO 41 (.build [(.int .i64 0),(.int .i64 0),(.str []),(.nils 2),(.nils 1)] [(0,1,(.t 40))]),⟨none,none,.store 5 (.t 7) (.t 41)⟩]) (.reg [vO 8 (.mov (cI 2))])) (.seq (.reg [mO 43 6,vO 44 (.bin .rem (.t 43) (cI 11)),vO 45 (.bin .eql (.t 44) (cI 1)),mO 46 45,gO 47 46 true (.mov (.t 4)),gO 48 46 true (.len false (.t 47)),gO 49 46 true (.bin .geq (.t 48) (cI 1)),vO 50 (.pick (.t 46) (.t 49) (.c (.bool false))),mO 42 50]) c_Q22_14)
def c_Q22_16:SC:=.seq (.block 2 (.seq (.reg [mO 29 6,vO 30 (.bin .rem (.t 29) (cI 3)),vO 31 (.bin .eql (.t 30) (cI 0)),mO 32 31,gO 33 32 true (.mov (.t 4)),gO 34 32 true (.len false (.t 33)),gO 35 32 true (.bin .geq (.t 34) (cI 2)),vO 36 (.pick (.t 32) (.t 35) (.c (.bool false))),mO 28 36]) c_Q22_15)) c_Q22_7
def c_Q22_17:SC:=.seq (.reg [vO 8 (.mov (cI 0))]) c_Q22_16
def c_Q22_18:SC:=.seq (.reg [mO 25 6,vO 26 (.bin .rem (.t 25) (cI 30)),vO 27 (.build [(.int .i64 0),(.int .i64 0),(.str []),(.nils 2),(.nils 1)] [(0,1,(cI 1)),(1,1,(.t 26))]),⟨some 7,none,.alloc [(.int .i64 0),(.int .i64 0),(.str []),(.nils 2),(.nils 1)]⟩,⟨none,none,.store 5 (.t 7) (.t 27)⟩]) c_Q22_17
def c_Q22_19:SC:=.seq (.block 1 (.seq (.reg [mO 20 0,mO 21 5,vO 22 (.iaddr 1 (.t 20) (.t 21)),vO 23 (.load none (.t 22)),vO 24 (.conv (.int .i64) (.t 23)),mO 6 24]) c_Q22_18)) c_Q22_5
def b_Q22_2:SC:=.seq (.seq (.reg [mO 9 5,mO 10 0,vO 11 (.len false (.t 10)),vO 12 (.bin .lss (.t 9) (.t 11)),mO 13 12,gO 14 13 true (.mov (.t 3)),gO 15 13 true (.len false (.t 14)),gO 16 13 true (.bin .lss (.t 15) (cI 40)),vO 17 (.pick (.t 13) (.t 16) (.c (.bool false)))]) (.cond (.t 17) .skip (.exit 0))) c_Q22_19
def c_Q22_20:SC:=.block 0 (.loop b_Q22_2)
def c_Q22_21:SC:=.seq (.seq (.reg [vO 5 (.mov (cI 0))]) c_Q22_20) c_Q22_4
def c_Q22_22:SC:=.seq (.reg [⟨some 4,none,.nilv 1⟩]) c_Q22_21
def c_Q22_23:SC:=.seq (.reg [⟨some 3,none,.nilv 5⟩]) c_Q22_22
def sc_Q22:zk:=⟨1,203,.seq (.reg [⟨some 2,none,.nilv 5⟩]) c_Q22_23,[(.t 2)]⟩
noncomputable def zef (SP:Prg) (x:EO):CO:=fin [(.t 2)] (thC SP (zK 3 (x)) c_Q22_1)
noncomputable def zhs (SP:Prg) (x:EO):CO:=fin [(.t 2)] (thC SP (zK 0 (x)) c_Q22_4)
theorem zhJ:type_of% (aI (ue c_Q22_1.eq_1)<|aI (ue c_Q22_2.eq_1)<|aI (ue c_Q22_3.eq_1)<|aI (ue b_Q22_1.eq_1)<|aI (ue c_Q22_4.eq_1)<|aI (ue c_Q22_5.eq_1)<|aI (ue c_Q22_6.eq_1)<|aI (ue c_Q22_7.eq_1)<|aI (ue c_Q22_8.eq_1)<|aI (ue c_Q22_9.eq_1)<|aI (ue c_Q22_10.eq_1)<|aI (ue c_Q22_11.eq_1)<|aI (ue c_Q22_12.eq_1)<|aI (ue c_Q22_13.eq_1)<|aI (ue c_Q22_14.eq_1)<|aI (ue c_Q22_15.eq_1)<|aI (ue c_Q22_16.eq_1)<|aI (ue c_Q22_17.eq_1)<|aI (ue c_Q22_18.eq_1)<|aI (ue c_Q22_19.eq_1)<|aI (ue b_Q22_2.eq_1)<|aI (ue c_Q22_20.eq_1)<|aI (ue c_Q22_21.eq_1)<|aI (ue c_Q22_22.eq_1)<|aI (ue c_Q22_23.eq_1)<|sc_Q22.eq_1):=aI (ue c_Q22_1.eq_1)<|aI (ue c_Q22_2.eq_1)<|aI (ue c_Q22_3.eq_1)<|aI (ue b_Q22_1.eq_1)<|aI (ue c_Q22_4.eq_1)<|aI (ue c_Q22_5.eq_1)<|aI (ue c_Q22_6.eq_1)<|aI (ue c_Q22_7.eq_1)<|aI (ue c_Q22_8.eq_1)<|aI (ue c_Q22_9.eq_1)<|aI (ue c_Q22_10.eq_1)<|aI (ue c_Q22_11.eq_1)<|aI (ue c_Q22_12.eq_1)<|aI (ue c_Q22_13.eq_1)<|aI (ue c_Q22_14.eq_1)<|aI (ue c_Q22_15.eq_1)<|aI (ue c_Q22_16.eq_1)<|aI (ue c_Q22_17.eq_1)<|aI (ue c_Q22_18.eq_1)<|aI (ue c_Q22_19.eq_1)<|aI (ue b_Q22_2.eq_1)<|aI (ue c_Q22_20.eq_1)<|aI (ue c_Q22_21.eq_1)<|aI (ue c_Q22_22.eq_1)<|aI (ue c_Q22_23.eq_1)<|sc_Q22.eq_1
theorem comp_Q22:comp Tryz.prog Tryz.f22=some sc_Q22:=by kernel_rfl
def c_Q7_1:SC:=.seq (.reg [kO 126 25 [],mO 4 126]) .ret
def c_Q7_2:SC:=.reg [mO 34 9,vO 35 (.bin .add (.t 34) (cI 1)),mO 9 35]
def c_Q7_3:SC:=.seq (.reg [mO 114 13,kO 115 18 [(.t 114)],vO 116 (.bin .neq (.t 115) (cI 0)),mO 117 116,gO 118 117 false (.mov (.t 6)),gO 119 117 false (.mov (.t 12)),⟨some 120,some (117,false),.call (.c (.func 21 [])) [(.t 118),(.t 119)]⟩,gO 121 117 false (.un .not (.t 120)),vO 122 (.pick (.t 117) (.c (.bool true)) (.t 121)),mO 123 122,⟨some 124,some (123,true),.call (.c (.func 25 [])) []⟩,vO 125 (.pick (.t 123) (.t 124) (.c (.bool false))),mO 4 125]) .ret
def c_Q7_4:SC:=.seq (.dreg [mO 97 5,mO 98 9,vO 99 (.sls (.t 97) none (some (.t 98))),mO 100 5,mO 101 9,vO 102 (.bin .add (.t 101) (cI 1)),mO 103 11,vO 104 (.sls (.t 100) (some (.t 102)) (some (.t 103))),vO 105 (.bin .add (.t 99) (.t 104)),mO 106 5,mO 107 11,vO 108 (.bin .add (.t 107) (cI 1)),vO 109 (.sls (.t 106) (some (.t 108)) none),vO 110 (.bin .add (.t 105) (.t 109)),kO 111 20 [(.t 110)],mO 96 111,vO 112 (.extract 0 (.t 96)),vO 113 (.extract 1 (.t 96)),mO 12 112,mO 13 113] [true,true,true,true,true,true,true,true,true,true,true,true,true,true,true,true,true,true,true,true]) c_Q7_3
def c_Q7_5:SC:=.seq (.seq (.reg [mO 92 11,mO 93 5,vO 94 (.len true (.t 93)),vO 95 (.bin .geq (.t 92) (.t 94))]) (.cond (.t 95) (.seq (.reg [vO 4 (.mov (.c (.bool false)))]) .ret) .skip)) c_Q7_4
def b_Q7_2:SC:=.seq (.seq (.reg [mO 72 11,mO 73 5,vO 74 (.len true (.t 73)),vO 75 (.bin .lss (.t 72) (.t 74))]) (.cond (.t 75) .skip (.exit 2))) (.block 3 (.seq (.seq (.reg [mO 76 5,mO 77 11,vO 78 (.istr (.t 76) (.t 77)),vO 79 (.bin .eql (.t 78) (.c (.int .u8 40)))]) (.cond (.t 79) (.reg [mO 80 10,vO 81 (.bin .add (.t 80) (cI 1)),mO 10 81]) .skip)) (.seq (.seq (.reg [mO 82 5,mO 83 11,vO 84 (.istr (.t 82) (.t 83)),vO 85 (.bin .eql (.t 84) (.c (.int .u8 41)))]) (.cond (.t 85) (.reg [mO 86 10,vO 87 (.bin .sub (.t 86) (cI 1)),mO 10 87]) .skip)) (.seq (.seq (.reg [mO 88 10,vO 89 (.bin .eql (.t 88) (cI 0))]) (.cond (.t 89) (.exit 2) .skip)) (.reg [mO 90 11,vO 91 (.bin .add (.t 90) (cI 1)),mO 11 91])))))
def c_Q7_6:SC:=.seq (.block 2 (.loop b_Q7_2)) c_Q7_5
def c_Q7_7:SC:=.seq (.reg [mO 71 9,vO 10 (.mov (cI 0)),mO 11 71]) c_Q7_6
def c_Q7_8:SC:=.seq (.seq (.reg [mO 65 8,vO 66 (.bin .sub (.t 65) (cI 1)),mO 67 1,vO 68 (.conv (.int .i64) (.t 67)),vO 69 (.bin .rem (.t 68) (cI 6)),vO 70 (.bin .neq (.t 66) (.t 69))]) (.cond (.t 70) (.exit 1) .skip)) c_Q7_7
def c_Q7_9:SC:=.seq (.reg [mO 63 8,vO 64 (.bin .add (.t 63) (cI 1)),mO 8 64]) c_Q7_8
def c_Q7_10:SC:=.seq (.seq (.reg [mO 41 5,mO 42 9,vO 43 (.istr (.t 41) (.t 42)),vO 44 (.bin .neq (.t 43) (.c (.int .u8 40))),mO 45 44,gO 46 45 false (.mov (.t 9)),gO 47 45 false (.bin .gtr (.t 46) (cI 0)),gO 48 45 false (.mov (.t 47)),gO 49 48 true (.mov (.t 5)),gO 50 48 true (.mov (.t 9)),gO 51 48 true (.bin .sub (.t 50) (cI 1)),gO 52 48 true (.istr (.t 49) (.t 51)),gO 53 48 true (.bin .geq (.t 52) (.c (.int .u8 97))),gO 54 45 false (.pick (.t 48) (.t 53) (.c (.bool false))),gO 55 45 false (.mov (.t 54)),gO 56 55 true (.mov (.t 5)),gO 57 55 true (.mov (.t 9)),gO 58 55 true (.bin .sub (.t 57) (cI 1)),gO 59 55 true (.istr (.t 56) (.t 58)),gO 60 55 true (.bin .leq (.t 59) (.c (.int .u8 122))),gO 61 45 false (.pick (.t 55) (.t 60) (.c (.bool false))),vO 62 (.pick (.t 45) (.c (.bool true)) (.t 61))]) (.cond (.t 62) (.exit 1) .skip)) c_Q7_9
def c_Q7_11:SC:=.seq (.block 1 (.seq (.seq (.reg [mO 36 5,mO 37 9,vO 38 (.istr (.t 36) (.t 37)),vO 39 (.bin .eql (.t 38) (.c (.int .u8 34)))]) (.cond (.t 39) (.seq (.reg [kO 40 25 [],mO 4 40]) .ret) .skip)) c_Q7_10)) c_Q7_2
def b_Q7_1:SC:=.seq (.seq (.reg [mO 30 9,mO 31 5,vO 32 (.len true (.t 31)),vO 33 (.bin .lss (.t 30) (.t 32))]) (.cond (.t 33) .skip (.exit 0))) c_Q7_11
def c_Q7_12:SC:=.block 0 (.loop b_Q7_1)
def c_Q7_13:SC:=.seq (.seq (.reg [vO 9 (.mov (cI 0))]) c_Q7_12) c_Q7_1
def c_Q7_14:SC:=.seq (.reg [vO 8 (.mov (cI 0))]) c_Q7_13
def c_Q7_15:SC:=.seq (.seq (.reg [mO 26 7,kO 27 18 [(.t 26)],vO 28 (.bin .neq (.t 27) (cI 0))]) (.cond (.t 28) (.seq (.reg [kO 29 25 [],mO 4 29]) .ret) .skip)) c_Q7_14
def c_Q7_16:SC:=.seq (.reg [mO 22 5,kO 23 20 [(.t 22)],mO 21 23,vO 24 (.extract 0 (.t 21)),vO 25 (.extract 1 (.t 21)),mO 6 24,mO 7 25]) c_Q7_15
def c_Q7_17:SC:=.seq (.reg [mO 18 0,kO 19 22 [(.t 18)],kO 20 23 [(.t 19)],mO 5 20]) c_Q7_16
def c_Q7_18:SC:=.seq (.seq (.reg [mO 14 0,vO 15 (.len false (.t 14)),vO 16 (.bin .gtr (.t 15) (cI 12))]) (.cond (.t 16) (.seq (.reg [kO 17 25 [],mO 4 17]) .ret) .skip)) c_Q7_17
def sc_Q7:zk:=⟨2,127,.seq (.reg [vO 4 (.mov (.c (.bool false)))]) c_Q7_18,[(.t 4)]⟩
noncomputable def zq5 (SP:Prg) (x:EO):CO:=fin [(.t 4)] (thC SP (zK 0 (thC SP (thC SP (zK 1 (thC SP (zK 2 (x)) c_Q7_5)) c_Q7_2) (.loop b_Q7_1))) c_Q7_1)
noncomputable def zqM (SP:Prg) (x:EO):CO:=fin [(.t 4)] (thC SP (zK 0 (x)) c_Q7_1)
theorem zsU:type_of% (aI (ue c_Q7_1.eq_1)<|aI (ue c_Q7_2.eq_1)<|aI (ue c_Q7_3.eq_1)<|aI (ue c_Q7_4.eq_1)<|aI (ue c_Q7_5.eq_1)<|aI (ue b_Q7_2.eq_1)<|aI (ue c_Q7_6.eq_1)<|aI (ue c_Q7_7.eq_1)<|aI (ue c_Q7_8.eq_1)<|aI (ue c_Q7_9.eq_1)<|aI (ue c_Q7_10.eq_1)<|aI (ue c_Q7_11.eq_1)<|aI (ue b_Q7_1.eq_1)<|aI (ue c_Q7_12.eq_1)<|aI (ue c_Q7_13.eq_1)<|aI (ue c_Q7_14.eq_1)<|aI (ue c_Q7_15.eq_1)<|aI (ue c_Q7_16.eq_1)<|aI (ue c_Q7_17.eq_1)<|aI (ue c_Q7_18.eq_1)<|sc_Q7.eq_1):=aI (ue c_Q7_1.eq_1)<|aI (ue c_Q7_2.eq_1)<|aI (ue c_Q7_3.eq_1)<|aI (ue c_Q7_4.eq_1)<|aI (ue c_Q7_5.eq_1)<|aI (ue b_Q7_2.eq_1)<|aI (ue c_Q7_6.eq_1)<|aI (ue c_Q7_7.eq_1)<|aI (ue c_Q7_8.eq_1)<|aI (ue c_Q7_9.eq_1)<|aI (ue c_Q7_10.eq_1)<|aI (ue c_Q7_11.eq_1)<|aI (ue b_Q7_1.eq_1)<|aI (ue c_Q7_12.eq_1)<|aI (ue c_Q7_13.eq_1)<|aI (ue c_Q7_14.eq_1)<|aI (ue c_Q7_15.eq_1)<|aI (ue c_Q7_16.eq_1)<|aI (ue c_Q7_17.eq_1)<|aI (ue c_Q7_18.eq_1)<|sc_Q7.eq_1
theorem comp_Q7:comp Tryz.prog Tryz.f7=some sc_Q7:=by kernel_rfl
end Go.Proofs.YtfbcnpbhhooapaaGreatDoor.M
namespace Go.Proofs.YtfbcnpbhhooapaaGreatDoor.M
open Go Classical
theorem zxI:SP 22=some (.code sc_Q22):=zb rfl Tryz.func22 comp_Q22
def zii (ns:List UInt8) (i1:Int) (l2:List Node) (l3:List Int) (r:List Node):Prop:=∀ (S:Sto) (e:Nat→PV) (f:Fr),e 0=.list 1 (ns.map eB) false∧e 3=.sl 0 (.slot 3) 0 l2.length l2.length 0 false∧e 4=.sl 0 (.slot 4) 0 l3.length l3.length 0 false∧e 5=.int .i64 i1∧f.arr (.slot 3)=some ⟨5,l2.map eNode,false,0⟩∧f.arr (.slot 4)=some ⟨1,l3.map eI,false,0⟩→zhs SP (E SP (.loop b_Q22_2) ⟨e,f::S⟩)=.ok (.arr 5 (r.map eNode) false) S
def zd (ns:List UInt8) (i5:Int) (l6:List Node) (l7:List Int) (r:List Node):Prop:=∀ (S:Sto) (e:Nat→PV) (f:Fr),e 0=.list 1 (ns.map eB) false∧e 3=.sl 0 (.slot 3) 0 l6.length l6.length 0 false∧e 4=.sl 0 (.slot 164) 0 l7.length l7.length 0 false∧e 5=.int .i64 i5∧f.arr (.slot 3)=some ⟨5,l6.map eNode,false,0⟩∧f.arr (.slot 164)=some ⟨1,l7.map eI,true,0⟩→zhs SP (E SP (.loop b_Q22_2) ⟨e,f::S⟩)=.ok (.arr 5 (r.map eNode) false) S
def ziJ (l14:List Node) (l15:List Int) (r:List Node):Prop:=∀ (S:Sto) (e:Nat→PV) (f:Fr),e 3=.sl 0 (.slot 3) 0 l14.length l14.length 0 false∧e 4=.sl 0 (.slot 4) 0 l15.length l15.length 0 false∧f.arr (.slot 3)=some ⟨5,l14.map eNode,false,0⟩∧f.arr (.slot 4)=some ⟨1,l15.map eI,false,0⟩→zef SP (E SP (.loop b_Q22_1) ⟨e,f::S⟩)=.ok (.arr 5 (r.map eNode) false) S
def zeW (l23:List Node) (l24:List Int) (r:List Node):Prop:=∀ (S:Sto) (e:Nat→PV) (f:Fr),e 3=.sl 0 (.slot 3) 0 l23.length l23.length 0 false∧e 4=.sl 0 (.slot 164) 0 l24.length l24.length 0 false∧f.arr (.slot 3)=some ⟨5,l23.map eNode,false,0⟩∧f.arr (.slot 164)=some ⟨1,l24.map eI,true,0⟩→zef SP (E SP (.loop b_Q22_1) ⟨e,f::S⟩)=.ok (.arr 5 (r.map eNode) false) S
def zdI (l27:List Node) (l28:List Int) (r:List Node):Prop:=∀ (S:Sto) (e:Nat→PV) (f:Fr),e 3=.sl 0 (.slot 3) 0 l27.length l27.length 0 false∧e 4=.sl 0 (.slot 201) 0 l28.length l28.length 0 false∧f.arr (.slot 3)=some ⟨5,l27.map eNode,false,0⟩∧f.arr (.slot 201)=some ⟨1,l28.map eI,true,0⟩→zef SP (E SP (.loop b_Q22_1) ⟨e,f::S⟩)=.ok (.arr 5 (r.map eNode) false) S
theorem zm (ns:List UInt8) (i1:Int) (l2:List Node) (l3:List Int) (r:List Node) (T :
  ((i1 < (ns.length:Int)) →
  (((l2.length:Int) < 40) →
   (0≤i1) ∧
   ∃ (v4:UInt8),(ns[i1.toNat]?=some v4) ∧
   (I64 ((v4.toNat:Int))) ∧
   ((((v4.toNat:Int).tmod 3)=0) →
    ((2≤(l3.length:Int)) →
     (I64 ((v4.toNat:Int).tdiv 3)) ∧
     (I64 (11+(((v4.toNat:Int).tdiv 3).tmod 13))) ∧
     (I64 ((l3.length:Int) - 2)) ∧
     (0≤((l3.length:Int) - 2))∧(((l3.length:Int) - 2).toNat≤l3.length) ∧
     (bigRow (((l3.drop (((l3.length:Int) - 2).toNat)).take (l3.length - (((l3.length:Int) - 2).toNat))).length) 8) ∧
     (I64 ((l3.length:Int) - 2)) ∧
     (I64 ((l3.length:Int) - 2)) ∧
     (0≤((l3.length:Int) - 2))∧(((l3.length:Int) - 2).toNat≤l3.length) ∧
     (bigRow (((l3.length:Int) - 2).toNat+1) 8) ∧
     (bigRow (l2.length+1) 80) ∧
     (I64 (i1+1)) ∧
     zd ns (i1+1) (l2++[(Node.mk (11+(((v4.toNat:Int).tdiv 3).tmod 13)) 0 [] [] ((l3.drop (((l3.length:Int) - 2).toNat)).take (l3.length - (((l3.length:Int) - 2).toNat))))]) ((l3.take (((l3.length:Int) - 2).toNat))++[(l2.length:Int)]) r) ∧
    (¬ (2≤(l3.length:Int)) →
     ((((v4.toNat:Int).tmod 11)=1) →
      ((1≤(l3.length:Int)) →
       (I64 ((v4.toNat:Int).tdiv 11)) ∧
       (I64 (8+(((v4.toNat:Int).tdiv 11).tmod 2))) ∧
       (I64 ((l3.length:Int) - 1)) ∧
       (0≤((l3.length:Int) - 1))∧(((l3.length:Int) - 1).toNat≤l3.length) ∧
       (bigRow (((l3.drop (((l3.length:Int) - 1).toNat)).take (l3.length - (((l3.length:Int) - 1).toNat))).length) 8) ∧
       (I64 ((l3.length:Int) - 1)) ∧
       (I64 ((l3.length:Int) - 1)) ∧
       (0≤((l3.length:Int) - 1))∧(((l3.length:Int) - 1).toNat≤l3.length) ∧
       (bigRow (((l3.length:Int) - 1).toNat+1) 8) ∧
       (bigRow (l2.length+1) 80) ∧
       (I64 (i1+1)) ∧
       zd ns (i1+1) (l2++[(Node.mk (8+(((v4.toNat:Int).tdiv 11).tmod 2)) 0 [] [] ((l3.drop (((l3.length:Int) - 1).toNat)).take (l3.length - (((l3.length:Int) - 1).toNat))))]) ((l3.take (((l3.length:Int) - 1).toNat))++[(l2.length:Int)]) r) ∧
      (¬ (1≤(l3.length:Int)) →
       (I64 ((l3.length:Int) - 0)) ∧
       (0≤((l3.length:Int) - 0))∧(((l3.length:Int) - 0).toNat≤l3.length) ∧
       (bigRow (((l3.drop (((l3.length:Int) - 0).toNat)).take (l3.length - (((l3.length:Int) - 0).toNat))).length) 8) ∧
       (I64 ((l3.length:Int) - 0)) ∧
       (I64 ((l3.length:Int) - 0)) ∧
       (0≤((l3.length:Int) - 0))∧(((l3.length:Int) - 0).toNat≤l3.length) ∧
       (bigRow (((l3.length:Int) - 0).toNat+1) 8) ∧
       (bigRow (l2.length+1) 80) ∧
       (I64 (i1+1)) ∧
       zd ns (i1+1) (l2++[(Node.mk 1 ((v4.toNat:Int).tmod 30) [] [] ((l3.drop (((l3.length:Int) - 0).toNat)).take (l3.length - (((l3.length:Int) - 0).toNat))))]) ((l3.take (((l3.length:Int) - 0).toNat))++[(l2.length:Int)]) r)) ∧
     (¬ (((v4.toNat:Int).tmod 11)=1) →
      ((((v4.toNat:Int).tmod 11)=2) →
       ((3≤(l3.length:Int)) →
        (I64 ((l3.length:Int) - 3)) ∧
        (0≤((l3.length:Int) - 3))∧(((l3.length:Int) - 3).toNat≤l3.length) ∧
        (bigRow (((l3.drop (((l3.length:Int) - 3).toNat)).take (l3.length - (((l3.length:Int) - 3).toNat))).length) 8) ∧
        (I64 ((l3.length:Int) - 3)) ∧
        (I64 ((l3.length:Int) - 3)) ∧
        (0≤((l3.length:Int) - 3))∧(((l3.length:Int) - 3).toNat≤l3.length) ∧
        (bigRow (((l3.length:Int) - 3).toNat+1) 8) ∧
        (bigRow (l2.length+1) 80) ∧
        (I64 (i1+1)) ∧
        zd ns (i1+1) (l2++[(Node.mk 10 0 [] [] ((l3.drop (((l3.length:Int) - 3).toNat)).take (l3.length - (((l3.length:Int) - 3).toNat))))]) ((l3.take (((l3.length:Int) - 3).toNat))++[(l2.length:Int)]) r) ∧
       (¬ (3≤(l3.length:Int)) →
        (I64 ((l3.length:Int) - 0)) ∧
        (0≤((l3.length:Int) - 0))∧(((l3.length:Int) - 0).toNat≤l3.length) ∧
        (bigRow (((l3.drop (((l3.length:Int) - 0).toNat)).take (l3.length - (((l3.length:Int) - 0).toNat))).length) 8) ∧
        (I64 ((l3.length:Int) - 0)) ∧
        (I64 ((l3.length:Int) - 0)) ∧
        (0≤((l3.length:Int) - 0))∧(((l3.length:Int) - 0).toNat≤l3.length) ∧
        (bigRow (((l3.length:Int) - 0).toNat+1) 8) ∧
        (bigRow (l2.length+1) 80) ∧
        (I64 (i1+1)) ∧
        zd ns (i1+1) (l2++[(Node.mk 1 ((v4.toNat:Int).tmod 30) [] [] ((l3.drop (((l3.length:Int) - 0).toNat)).take (l3.length - (((l3.length:Int) - 0).toNat))))]) ((l3.take (((l3.length:Int) - 0).toNat))++[(l2.length:Int)]) r)) ∧
      (¬ (((v4.toNat:Int).tmod 11)=2) →
       ((((v4.toNat:Int).tmod 11)=3) →
        (I64 ((l3.length:Int) - 0)) ∧
        (0≤((l3.length:Int) - 0))∧(((l3.length:Int) - 0).toNat≤l3.length) ∧
        (bigRow (((l3.drop (((l3.length:Int) - 0).toNat)).take (l3.length - (((l3.length:Int) - 0).toNat))).length) 8) ∧
        (I64 ((l3.length:Int) - 0)) ∧
        (I64 ((l3.length:Int) - 0)) ∧
        (0≤((l3.length:Int) - 0))∧(((l3.length:Int) - 0).toNat≤l3.length) ∧
        (bigRow (((l3.length:Int) - 0).toNat+1) 8) ∧
        (bigRow (l2.length+1) 80) ∧
        (I64 (i1+1)) ∧
        zd ns (i1+1) (l2++[(Node.mk 1 ((v4.toNat:Int).tmod 30) [] [] ((l3.drop (((l3.length:Int) - 0).toNat)).take (l3.length - (((l3.length:Int) - 0).toNat))))]) ((l3.take (((l3.length:Int) - 0).toNat))++[(l2.length:Int)]) r) ∧
       (¬ (((v4.toNat:Int).tmod 11)=3) →
        ((((v4.toNat:Int).tmod 11)=4) →
         (I64 ((v4.toNat:Int).tdiv 11)) ∧
         (I64 ((l3.length:Int) - (if (((v4.toNat:Int).tdiv 11).tmod 4) < (l3.length:Int) then (((v4.toNat:Int).tdiv 11).tmod 4) else (l3.length:Int)))) ∧
         (0≤((l3.length:Int) - (if (((v4.toNat:Int).tdiv 11).tmod 4) < (l3.length:Int) then (((v4.toNat:Int).tdiv 11).tmod 4) else (l3.length:Int))))∧(((l3.length:Int) - (if (((v4.toNat:Int).tdiv 11).tmod 4) < (l3.length:Int) then (((v4.toNat:Int).tdiv 11).tmod 4) else (l3.length:Int))).toNat≤l3.length) ∧
         (bigRow (((l3.drop (((l3.length:Int) - (if (((v4.toNat:Int).tdiv 11).tmod 4) < (l3.length:Int) then (((v4.toNat:Int).tdiv 11).tmod 4) else (l3.length:Int))).toNat)).take (l3.length - (((l3.length:Int) - (if (((v4.toNat:Int).tdiv 11).tmod 4) < (l3.length:Int) then (((v4.toNat:Int).tdiv 11).tmod 4) else (l3.length:Int))).toNat))).length) 8) ∧
         (I64 ((l3.length:Int) - (if (((v4.toNat:Int).tdiv 11).tmod 4) < (l3.length:Int) then (((v4.toNat:Int).tdiv 11).tmod 4) else (l3.length:Int)))) ∧
         (I64 ((l3.length:Int) - (if (((v4.toNat:Int).tdiv 11).tmod 4) < (l3.length:Int) then (((v4.toNat:Int).tdiv 11).tmod 4) else (l3.length:Int)))) ∧
         (0≤((l3.length:Int) - (if (((v4.toNat:Int).tdiv 11).tmod 4) < (l3.length:Int) then (((v4.toNat:Int).tdiv 11).tmod 4) else (l3.length:Int))))∧(((l3.length:Int) - (if (((v4.toNat:Int).tdiv 11).tmod 4) < (l3.length:Int) then (((v4.toNat:Int).tdiv 11).tmod 4) else (l3.length:Int))).toNat≤l3.length) ∧
         (bigRow (((l3.length:Int) - (if (((v4.toNat:Int).tdiv 11).tmod 4) < (l3.length:Int) then (((v4.toNat:Int).tdiv 11).tmod 4) else (l3.length:Int))).toNat+1) 8) ∧
         (bigRow (l2.length+1) 80) ∧
         (I64 (i1+1)) ∧
         zd ns (i1+1) (l2++[(Node.mk 6 0 [] [] ((l3.drop (((l3.length:Int) - (if (((v4.toNat:Int).tdiv 11).tmod 4) < (l3.length:Int) then (((v4.toNat:Int).tdiv 11).tmod 4) else (l3.length:Int))).toNat)).take (l3.length - (((l3.length:Int) - (if (((v4.toNat:Int).tdiv 11).tmod 4) < (l3.length:Int) then (((v4.toNat:Int).tdiv 11).tmod 4) else (l3.length:Int))).toNat))))]) ((l3.take (((l3.length:Int) - (if (((v4.toNat:Int).tdiv 11).tmod 4) < (l3.length:Int) then (((v4.toNat:Int).tdiv 11).tmod 4) else (l3.length:Int))).toNat))++[(l2.length:Int)]) r) ∧
        (¬ (((v4.toNat:Int).tmod 11)=4) →
         ((((v4.toNat:Int).tmod 11)=5) →
          (I64 ((v4.toNat:Int).tdiv 11)) ∧
          (0≤(((v4.toNat:Int).tdiv 11).tmod 8)) ∧
          ∃ (v8:List UInt8),(([[109,105,110],[109,97,120],[115,117,109],[108,101,110],[99,111,110,99,97,116],[114,97,110,103,101],[116,101,120,116],[104,97,115]]:List (List UInt8))[(((v4.toNat:Int).tdiv 11).tmod 8).toNat]?=some v8) ∧
          (I64 ((v4.toNat:Int).tdiv 88)) ∧
          (I64 (1+((v4.toNat:Int).tdiv 88))) ∧
          (I64 ((l3.length:Int) - (if (1+((v4.toNat:Int).tdiv 88)) < (l3.length:Int) then (1+((v4.toNat:Int).tdiv 88)) else (l3.length:Int)))) ∧
          (0≤((l3.length:Int) - (if (1+((v4.toNat:Int).tdiv 88)) < (l3.length:Int) then (1+((v4.toNat:Int).tdiv 88)) else (l3.length:Int))))∧(((l3.length:Int) - (if (1+((v4.toNat:Int).tdiv 88)) < (l3.length:Int) then (1+((v4.toNat:Int).tdiv 88)) else (l3.length:Int))).toNat≤l3.length) ∧
          (bigRow (((l3.drop (((l3.length:Int) - (if (1+((v4.toNat:Int).tdiv 88)) < (l3.length:Int) then (1+((v4.toNat:Int).tdiv 88)) else (l3.length:Int))).toNat)).take (l3.length - (((l3.length:Int) - (if (1+((v4.toNat:Int).tdiv 88)) < (l3.length:Int) then (1+((v4.toNat:Int).tdiv 88)) else (l3.length:Int))).toNat))).length) 8) ∧
          (I64 ((l3.length:Int) - (if (1+((v4.toNat:Int).tdiv 88)) < (l3.length:Int) then (1+((v4.toNat:Int).tdiv 88)) else (l3.length:Int)))) ∧
          (I64 ((l3.length:Int) - (if (1+((v4.toNat:Int).tdiv 88)) < (l3.length:Int) then (1+((v4.toNat:Int).tdiv 88)) else (l3.length:Int)))) ∧
          (0≤((l3.length:Int) - (if (1+((v4.toNat:Int).tdiv 88)) < (l3.length:Int) then (1+((v4.toNat:Int).tdiv 88)) else (l3.length:Int))))∧(((l3.length:Int) - (if (1+((v4.toNat:Int).tdiv 88)) < (l3.length:Int) then (1+((v4.toNat:Int).tdiv 88)) else (l3.length:Int))).toNat≤l3.length) ∧
          (bigRow (((l3.length:Int) - (if (1+((v4.toNat:Int).tdiv 88)) < (l3.length:Int) then (1+((v4.toNat:Int).tdiv 88)) else (l3.length:Int))).toNat+1) 8) ∧
          (bigRow (l2.length+1) 80) ∧
          (I64 (i1+1)) ∧
          zd ns (i1+1) (l2++[(Node.mk 5 0 v8 [] ((l3.drop (((l3.length:Int) - (if (1+((v4.toNat:Int).tdiv 88)) < (l3.length:Int) then (1+((v4.toNat:Int).tdiv 88)) else (l3.length:Int))).toNat)).take (l3.length - (((l3.length:Int) - (if (1+((v4.toNat:Int).tdiv 88)) < (l3.length:Int) then (1+((v4.toNat:Int).tdiv 88)) else (l3.length:Int))).toNat))))]) ((l3.take (((l3.length:Int) - (if (1+((v4.toNat:Int).tdiv 88)) < (l3.length:Int) then (1+((v4.toNat:Int).tdiv 88)) else (l3.length:Int))).toNat))++[(l2.length:Int)]) r) ∧
         (¬ (((v4.toNat:Int).tmod 11)=5) →
          ((((v4.toNat:Int).tmod 11)=6) →
           (I64 ((v4.toNat:Int).tdiv 11)) ∧
           (0≤(((v4.toNat:Int).tdiv 11).tmod 4)) ∧
           ∃ (v9:List Part),(([[],[(Part.mk false [97,34,36,10])],[(Part.mk true [118,97,114,46,120])],[(Part.mk false [98]),(Part.mk true [108,111,99,97,108,46,121]),(Part.mk false [92])]]:List (List Part))[(((v4.toNat:Int).tdiv 11).tmod 4).toNat]?=some v9) ∧
           (I64 ((l3.length:Int) - 0)) ∧
           (0≤((l3.length:Int) - 0))∧(((l3.length:Int) - 0).toNat≤l3.length) ∧
           (bigRow (((l3.drop (((l3.length:Int) - 0).toNat)).take (l3.length - (((l3.length:Int) - 0).toNat))).length) 8) ∧
           (I64 ((l3.length:Int) - 0)) ∧
           (I64 ((l3.length:Int) - 0)) ∧
           (0≤((l3.length:Int) - 0))∧(((l3.length:Int) - 0).toNat≤l3.length) ∧
           (bigRow (((l3.length:Int) - 0).toNat+1) 8) ∧
           (bigRow (l2.length+1) 80) ∧
           (I64 (i1+1)) ∧
           zd ns (i1+1) (l2++[(Node.mk 2 0 [] v9 ((l3.drop (((l3.length:Int) - 0).toNat)).take (l3.length - (((l3.length:Int) - 0).toNat))))]) ((l3.take (((l3.length:Int) - 0).toNat))++[(l2.length:Int)]) r) ∧
          (¬ (((v4.toNat:Int).tmod 11)=6) →
           ((((v4.toNat:Int).tmod 11)=7) →
            (I64 ((v4.toNat:Int).tdiv 11)) ∧
            (I64 ((l3.length:Int) - 0)) ∧
            (0≤((l3.length:Int) - 0))∧(((l3.length:Int) - 0).toNat≤l3.length) ∧
            (bigRow (((l3.drop (((l3.length:Int) - 0).toNat)).take (l3.length - (((l3.length:Int) - 0).toNat))).length) 8) ∧
            (I64 ((l3.length:Int) - 0)) ∧
            (I64 ((l3.length:Int) - 0)) ∧
            (0≤((l3.length:Int) - 0))∧(((l3.length:Int) - 0).toNat≤l3.length) ∧
            (bigRow (((l3.length:Int) - 0).toNat+1) 8) ∧
            (bigRow (l2.length+1) 80) ∧
            (I64 (i1+1)) ∧
            zd ns (i1+1) (l2++[(Node.mk 3 (((v4.toNat:Int).tdiv 11).tmod 2) [] [] ((l3.drop (((l3.length:Int) - 0).toNat)).take (l3.length - (((l3.length:Int) - 0).toNat))))]) ((l3.take (((l3.length:Int) - 0).toNat))++[(l2.length:Int)]) r) ∧
           (¬ (((v4.toNat:Int).tmod 11)=7) →
            ((((v4.toNat:Int).tmod 11)=8) →
             (I64 ((v4.toNat:Int).tdiv 11)) ∧
             (0≤(((v4.toNat:Int).tdiv 11).tmod 4)) ∧
             ∃ (v10:List UInt8),(([[118,97,114,46,120],[108,111,99,97,108,46,121],[99,111,117,110,116,46,105,110,100,101,120],[118,97,114,46,108]]:List (List UInt8))[(((v4.toNat:Int).tdiv 11).tmod 4).toNat]?=some v10) ∧
             (I64 ((l3.length:Int) - 0)) ∧
             (0≤((l3.length:Int) - 0))∧(((l3.length:Int) - 0).toNat≤l3.length) ∧
             (bigRow (((l3.drop (((l3.length:Int) - 0).toNat)).take (l3.length - (((l3.length:Int) - 0).toNat))).length) 8) ∧
             (I64 ((l3.length:Int) - 0)) ∧
             (I64 ((l3.length:Int) - 0)) ∧
             (0≤((l3.length:Int) - 0))∧(((l3.length:Int) - 0).toNat≤l3.length) ∧
             (bigRow (((l3.length:Int) - 0).toNat+1) 8) ∧
             (bigRow (l2.length+1) 80) ∧
             (I64 (i1+1)) ∧
             zd ns (i1+1) (l2++[(Node.mk 4 0 v10 [] ((l3.drop (((l3.length:Int) - 0).toNat)).take (l3.length - (((l3.length:Int) - 0).toNat))))]) ((l3.take (((l3.length:Int) - 0).toNat))++[(l2.length:Int)]) r) ∧
            (¬ (((v4.toNat:Int).tmod 11)=8) →
             (I64 ((l3.length:Int) - 0)) ∧
             (0≤((l3.length:Int) - 0))∧(((l3.length:Int) - 0).toNat≤l3.length) ∧
             (bigRow (((l3.drop (((l3.length:Int) - 0).toNat)).take (l3.length - (((l3.length:Int) - 0).toNat))).length) 8) ∧
             (I64 ((l3.length:Int) - 0)) ∧
             (I64 ((l3.length:Int) - 0)) ∧
             (0≤((l3.length:Int) - 0))∧(((l3.length:Int) - 0).toNat≤l3.length) ∧
             (bigRow (((l3.length:Int) - 0).toNat+1) 8) ∧
             (bigRow (l2.length+1) 80) ∧
             (I64 (i1+1)) ∧
             zd ns (i1+1) (l2++[(Node.mk 1 ((v4.toNat:Int).tmod 30) [] [] ((l3.drop (((l3.length:Int) - 0).toNat)).take (l3.length - (((l3.length:Int) - 0).toNat))))]) ((l3.take (((l3.length:Int) - 0).toNat))++[(l2.length:Int)]) r)))))))))) ∧
   (¬ (((v4.toNat:Int).tmod 3)=0) →
    ((((v4.toNat:Int).tmod 11)=1) →
     ((1≤(l3.length:Int)) →
      (I64 ((v4.toNat:Int).tdiv 11)) ∧
      (I64 (8+(((v4.toNat:Int).tdiv 11).tmod 2))) ∧
      (I64 ((l3.length:Int) - 1)) ∧
      (0≤((l3.length:Int) - 1))∧(((l3.length:Int) - 1).toNat≤l3.length) ∧
      (bigRow (((l3.drop (((l3.length:Int) - 1).toNat)).take (l3.length - (((l3.length:Int) - 1).toNat))).length) 8) ∧
      (I64 ((l3.length:Int) - 1)) ∧
      (I64 ((l3.length:Int) - 1)) ∧
      (0≤((l3.length:Int) - 1))∧(((l3.length:Int) - 1).toNat≤l3.length) ∧
      (bigRow (((l3.length:Int) - 1).toNat+1) 8) ∧
      (bigRow (l2.length+1) 80) ∧
      (I64 (i1+1)) ∧
      zd ns (i1+1) (l2++[(Node.mk (8+(((v4.toNat:Int).tdiv 11).tmod 2)) 0 [] [] ((l3.drop (((l3.length:Int) - 1).toNat)).take (l3.length - (((l3.length:Int) - 1).toNat))))]) ((l3.take (((l3.length:Int) - 1).toNat))++[(l2.length:Int)]) r) ∧
     (¬ (1≤(l3.length:Int)) →
      (I64 ((l3.length:Int) - 0)) ∧
      (0≤((l3.length:Int) - 0))∧(((l3.length:Int) - 0).toNat≤l3.length) ∧
      (bigRow (((l3.drop (((l3.length:Int) - 0).toNat)).take (l3.length - (((l3.length:Int) - 0).toNat))).length) 8) ∧
      (I64 ((l3.length:Int) - 0)) ∧
      (I64 ((l3.length:Int) - 0)) ∧
      (0≤((l3.length:Int) - 0))∧(((l3.length:Int) - 0).toNat≤l3.length) ∧
      (bigRow (((l3.length:Int) - 0).toNat+1) 8) ∧
      (bigRow (l2.length+1) 80) ∧
      (I64 (i1+1)) ∧
      zd ns (i1+1) (l2++[(Node.mk 1 ((v4.toNat:Int).tmod 30) [] [] ((l3.drop (((l3.length:Int) - 0).toNat)).take (l3.length - (((l3.length:Int) - 0).toNat))))]) ((l3.take (((l3.length:Int) - 0).toNat))++[(l2.length:Int)]) r)) ∧
    (¬ (((v4.toNat:Int).tmod 11)=1) →
     ((((v4.toNat:Int).tmod 11)=2) →
      ((3≤(l3.length:Int)) →
       (I64 ((l3.length:Int) - 3)) ∧
       (0≤((l3.length:Int) - 3))∧(((l3.length:Int) - 3).toNat≤l3.length) ∧
       (bigRow (((l3.drop (((l3.length:Int) - 3).toNat)).take (l3.length - (((l3.length:Int) - 3).toNat))).length) 8) ∧
       (I64 ((l3.length:Int) - 3)) ∧
       (I64 ((l3.length:Int) - 3)) ∧
       (0≤((l3.length:Int) - 3))∧(((l3.length:Int) - 3).toNat≤l3.length) ∧
       (bigRow (((l3.length:Int) - 3).toNat+1) 8) ∧
       (bigRow (l2.length+1) 80) ∧
       (I64 (i1+1)) ∧
       zd ns (i1+1) (l2++[(Node.mk 10 0 [] [] ((l3.drop (((l3.length:Int) - 3).toNat)).take (l3.length - (((l3.length:Int) - 3).toNat))))]) ((l3.take (((l3.length:Int) - 3).toNat))++[(l2.length:Int)]) r) ∧
      (¬ (3≤(l3.length:Int)) →
       (I64 ((l3.length:Int) - 0)) ∧
       (0≤((l3.length:Int) - 0))∧(((l3.length:Int) - 0).toNat≤l3.length) ∧
       (bigRow (((l3.drop (((l3.length:Int) - 0).toNat)).take (l3.length - (((l3.length:Int) - 0).toNat))).length) 8) ∧
       (I64 ((l3.length:Int) - 0)) ∧
       (I64 ((l3.length:Int) - 0)) ∧
       (0≤((l3.length:Int) - 0))∧(((l3.length:Int) - 0).toNat≤l3.length) ∧
       (bigRow (((l3.length:Int) - 0).toNat+1) 8) ∧
       (bigRow (l2.length+1) 80) ∧
       (I64 (i1+1)) ∧
       zd ns (i1+1) (l2++[(Node.mk 1 ((v4.toNat:Int).tmod 30) [] [] ((l3.drop (((l3.length:Int) - 0).toNat)).take (l3.length - (((l3.length:Int) - 0).toNat))))]) ((l3.take (((l3.length:Int) - 0).toNat))++[(l2.length:Int)]) r)) ∧
     (¬ (((v4.toNat:Int).tmod 11)=2) →
      ((((v4.toNat:Int).tmod 11)=3) →
       ((2≤(l3.length:Int)) →
        (I64 ((l3.length:Int) - 2)) ∧
        (0≤((l3.length:Int) - 2))∧(((l3.length:Int) - 2).toNat≤l3.length) ∧
        (bigRow (((l3.drop (((l3.length:Int) - 2).toNat)).take (l3.length - (((l3.length:Int) - 2).toNat))).length) 8) ∧
        (I64 ((l3.length:Int) - 2)) ∧
        (I64 ((l3.length:Int) - 2)) ∧
        (0≤((l3.length:Int) - 2))∧(((l3.length:Int) - 2).toNat≤l3.length) ∧
        (bigRow (((l3.length:Int) - 2).toNat+1) 8) ∧
        (bigRow (l2.length+1) 80) ∧
        (I64 (i1+1)) ∧
        zd ns (i1+1) (l2++[(Node.mk 7 0 [] [] ((l3.drop (((l3.length:Int) - 2).toNat)).take (l3.length - (((l3.length:Int) - 2).toNat))))]) ((l3.take (((l3.length:Int) - 2).toNat))++[(l2.length:Int)]) r) ∧
       (¬ (2≤(l3.length:Int)) →
        (I64 ((l3.length:Int) - 0)) ∧
        (0≤((l3.length:Int) - 0))∧(((l3.length:Int) - 0).toNat≤l3.length) ∧
        (bigRow (((l3.drop (((l3.length:Int) - 0).toNat)).take (l3.length - (((l3.length:Int) - 0).toNat))).length) 8) ∧
        (I64 ((l3.length:Int) - 0)) ∧
        (I64 ((l3.length:Int) - 0)) ∧
        (0≤((l3.length:Int) - 0))∧(((l3.length:Int) - 0).toNat≤l3.length) ∧
        (bigRow (((l3.length:Int) - 0).toNat+1) 8) ∧
        (bigRow (l2.length+1) 80) ∧
        (I64 (i1+1)) ∧
        zd ns (i1+1) (l2++[(Node.mk 1 ((v4.toNat:Int).tmod 30) [] [] ((l3.drop (((l3.length:Int) - 0).toNat)).take (l3.length - (((l3.length:Int) - 0).toNat))))]) ((l3.take (((l3.length:Int) - 0).toNat))++[(l2.length:Int)]) r)) ∧
      (¬ (((v4.toNat:Int).tmod 11)=3) →
       ((((v4.toNat:Int).tmod 11)=4) →
        (I64 ((v4.toNat:Int).tdiv 11)) ∧
        (I64 ((l3.length:Int) - (if (((v4.toNat:Int).tdiv 11).tmod 4) < (l3.length:Int) then (((v4.toNat:Int).tdiv 11).tmod 4) else (l3.length:Int)))) ∧
        (0≤((l3.length:Int) - (if (((v4.toNat:Int).tdiv 11).tmod 4) < (l3.length:Int) then (((v4.toNat:Int).tdiv 11).tmod 4) else (l3.length:Int))))∧(((l3.length:Int) - (if (((v4.toNat:Int).tdiv 11).tmod 4) < (l3.length:Int) then (((v4.toNat:Int).tdiv 11).tmod 4) else (l3.length:Int))).toNat≤l3.length) ∧
        (bigRow (((l3.drop (((l3.length:Int) - (if (((v4.toNat:Int).tdiv 11).tmod 4) < (l3.length:Int) then (((v4.toNat:Int).tdiv 11).tmod 4) else (l3.length:Int))).toNat)).take (l3.length - (((l3.length:Int) - (if (((v4.toNat:Int).tdiv 11).tmod 4) < (l3.length:Int) then (((v4.toNat:Int).tdiv 11).tmod 4) else (l3.length:Int))).toNat))).length) 8) ∧
        (I64 ((l3.length:Int) - (if (((v4.toNat:Int).tdiv 11).tmod 4) < (l3.length:Int) then (((v4.toNat:Int).tdiv 11).tmod 4) else (l3.length:Int)))) ∧
        (I64 ((l3.length:Int) - (if (((v4.toNat:Int).tdiv 11).tmod 4) < (l3.length:Int) then (((v4.toNat:Int).tdiv 11).tmod 4) else (l3.length:Int)))) ∧
        (0≤((l3.length:Int) - (if (((v4.toNat:Int).tdiv 11).tmod 4) < (l3.length:Int) then (((v4.toNat:Int).tdiv 11).tmod 4) else (l3.length:Int))))∧(((l3.length:Int) - (if (((v4.toNat:Int).tdiv 11).tmod 4) < (l3.length:Int) then (((v4.toNat:Int).tdiv 11).tmod 4) else (l3.length:Int))).toNat≤l3.length) ∧
        (bigRow (((l3.length:Int) - (if (((v4.toNat:Int).tdiv 11).tmod 4) < (l3.length:Int) then (((v4.toNat:Int).tdiv 11).tmod 4) else (l3.length:Int))).toNat+1) 8) ∧
        (bigRow (l2.length+1) 80) ∧
        (I64 (i1+1)) ∧
        zd ns (i1+1) (l2++[(Node.mk 6 0 [] [] ((l3.drop (((l3.length:Int) - (if (((v4.toNat:Int).tdiv 11).tmod 4) < (l3.length:Int) then (((v4.toNat:Int).tdiv 11).tmod 4) else (l3.length:Int))).toNat)).take (l3.length - (((l3.length:Int) - (if (((v4.toNat:Int).tdiv 11).tmod 4) < (l3.length:Int) then (((v4.toNat:Int).tdiv 11).tmod 4) else (l3.length:Int))).toNat))))]) ((l3.take (((l3.length:Int) - (if (((v4.toNat:Int).tdiv 11).tmod 4) < (l3.length:Int) then (((v4.toNat:Int).tdiv 11).tmod 4) else (l3.length:Int))).toNat))++[(l2.length:Int)]) r) ∧
       (¬ (((v4.toNat:Int).tmod 11)=4) →
        ((((v4.toNat:Int).tmod 11)=5) →
         (I64 ((v4.toNat:Int).tdiv 11)) ∧
         (0≤(((v4.toNat:Int).tdiv 11).tmod 8)) ∧
         ∃ (v11:List UInt8),(([[109,105,110],[109,97,120],[115,117,109],[108,101,110],[99,111,110,99,97,116],[114,97,110,103,101],[116,101,120,116],[104,97,115]]:List (List UInt8))[(((v4.toNat:Int).tdiv 11).tmod 8).toNat]?=some v11) ∧
         (I64 ((v4.toNat:Int).tdiv 88)) ∧
         (I64 (1+((v4.toNat:Int).tdiv 88))) ∧
         (I64 ((l3.length:Int) - (if (1+((v4.toNat:Int).tdiv 88)) < (l3.length:Int) then (1+((v4.toNat:Int).tdiv 88)) else (l3.length:Int)))) ∧
         (0≤((l3.length:Int) - (if (1+((v4.toNat:Int).tdiv 88)) < (l3.length:Int) then (1+((v4.toNat:Int).tdiv 88)) else (l3.length:Int))))∧(((l3.length:Int) - (if (1+((v4.toNat:Int).tdiv 88)) < (l3.length:Int) then (1+((v4.toNat:Int).tdiv 88)) else (l3.length:Int))).toNat≤l3.length) ∧
         (bigRow (((l3.drop (((l3.length:Int) - (if (1+((v4.toNat:Int).tdiv 88)) < (l3.length:Int) then (1+((v4.toNat:Int).tdiv 88)) else (l3.length:Int))).toNat)).take (l3.length - (((l3.length:Int) - (if (1+((v4.toNat:Int).tdiv 88)) < (l3.length:Int) then (1+((v4.toNat:Int).tdiv 88)) else (l3.length:Int))).toNat))).length) 8) ∧
         (I64 ((l3.length:Int) - (if (1+((v4.toNat:Int).tdiv 88)) < (l3.length:Int) then (1+((v4.toNat:Int).tdiv 88)) else (l3.length:Int)))) ∧
         (I64 ((l3.length:Int) - (if (1+((v4.toNat:Int).tdiv 88)) < (l3.length:Int) then (1+((v4.toNat:Int).tdiv 88)) else (l3.length:Int)))) ∧
         (0≤((l3.length:Int) - (if (1+((v4.toNat:Int).tdiv 88)) < (l3.length:Int) then (1+((v4.toNat:Int).tdiv 88)) else (l3.length:Int))))∧(((l3.length:Int) - (if (1+((v4.toNat:Int).tdiv 88)) < (l3.length:Int) then (1+((v4.toNat:Int).tdiv 88)) else (l3.length:Int))).toNat≤l3.length) ∧
         (bigRow (((l3.length:Int) - (if (1+((v4.toNat:Int).tdiv 88)) < (l3.length:Int) then (1+((v4.toNat:Int).tdiv 88)) else (l3.length:Int))).toNat+1) 8) ∧
         (bigRow (l2.length+1) 80) ∧
         (I64 (i1+1)) ∧
         zd ns (i1+1) (l2++[(Node.mk 5 0 v11 [] ((l3.drop (((l3.length:Int) - (if (1+((v4.toNat:Int).tdiv 88)) < (l3.length:Int) then (1+((v4.toNat:Int).tdiv 88)) else (l3.length:Int))).toNat)).take (l3.length - (((l3.length:Int) - (if (1+((v4.toNat:Int).tdiv 88)) < (l3.length:Int) then (1+((v4.toNat:Int).tdiv 88)) else (l3.length:Int))).toNat))))]) ((l3.take (((l3.length:Int) - (if (1+((v4.toNat:Int).tdiv 88)) < (l3.length:Int) then (1+((v4.toNat:Int).tdiv 88)) else (l3.length:Int))).toNat))++[(l2.length:Int)]) r) ∧
        (¬ (((v4.toNat:Int).tmod 11)=5) →
         ((((v4.toNat:Int).tmod 11)=6) →
          (I64 ((v4.toNat:Int).tdiv 11)) ∧
          (0≤(((v4.toNat:Int).tdiv 11).tmod 4)) ∧
          ∃ (v12:List Part),(([[],[(Part.mk false [97,34,36,10])],[(Part.mk true [118,97,114,46,120])],[(Part.mk false [98]),(Part.mk true [108,111,99,97,108,46,121]),(Part.mk false [92])]]:List (List Part))[(((v4.toNat:Int).tdiv 11).tmod 4).toNat]?=some v12) ∧
          (I64 ((l3.length:Int) - 0)) ∧
          (0≤((l3.length:Int) - 0))∧(((l3.length:Int) - 0).toNat≤l3.length) ∧
          (bigRow (((l3.drop (((l3.length:Int) - 0).toNat)).take (l3.length - (((l3.length:Int) - 0).toNat))).length) 8) ∧
          (I64 ((l3.length:Int) - 0)) ∧
          (I64 ((l3.length:Int) - 0)) ∧
          (0≤((l3.length:Int) - 0))∧(((l3.length:Int) - 0).toNat≤l3.length) ∧
          (bigRow (((l3.length:Int) - 0).toNat+1) 8) ∧
          (bigRow (l2.length+1) 80) ∧
          (I64 (i1+1)) ∧
          zd ns (i1+1) (l2++[(Node.mk 2 0 [] v12 ((l3.drop (((l3.length:Int) - 0).toNat)).take (l3.length - (((l3.length:Int) - 0).toNat))))]) ((l3.take (((l3.length:Int) - 0).toNat))++[(l2.length:Int)]) r) ∧
         (¬ (((v4.toNat:Int).tmod 11)=6) →
          ((((v4.toNat:Int).tmod 11)=7) →
           (I64 ((v4.toNat:Int).tdiv 11)) ∧
           (I64 ((l3.length:Int) - 0)) ∧
           (0≤((l3.length:Int) - 0))∧(((l3.length:Int) - 0).toNat≤l3.length) ∧
           (bigRow (((l3.drop (((l3.length:Int) - 0).toNat)).take (l3.length - (((l3.length:Int) - 0).toNat))).length) 8) ∧
           (I64 ((l3.length:Int) - 0)) ∧
           (I64 ((l3.length:Int) - 0)) ∧
           (0≤((l3.length:Int) - 0))∧(((l3.length:Int) - 0).toNat≤l3.length) ∧
           (bigRow (((l3.length:Int) - 0).toNat+1) 8) ∧
           (bigRow (l2.length+1) 80) ∧
           (I64 (i1+1)) ∧
           zd ns (i1+1) (l2++[(Node.mk 3 (((v4.toNat:Int).tdiv 11).tmod 2) [] [] ((l3.drop (((l3.length:Int) - 0).toNat)).take (l3.length - (((l3.length:Int) - 0).toNat))))]) ((l3.take (((l3.length:Int) - 0).toNat))++[(l2.length:Int)]) r) ∧
          (¬ (((v4.toNat:Int).tmod 11)=7) →
           ((((v4.toNat:Int).tmod 11)=8) →
            (I64 ((v4.toNat:Int).tdiv 11)) ∧
            (0≤(((v4.toNat:Int).tdiv 11).tmod 4)) ∧
            ∃ (v13:List UInt8),(([[118,97,114,46,120],[108,111,99,97,108,46,121],[99,111,117,110,116,46,105,110,100,101,120],[118,97,114,46,108]]:List (List UInt8))[(((v4.toNat:Int).tdiv 11).tmod 4).toNat]?=some v13) ∧
            (I64 ((l3.length:Int) - 0)) ∧
            (0≤((l3.length:Int) - 0))∧(((l3.length:Int) - 0).toNat≤l3.length) ∧
            (bigRow (((l3.drop (((l3.length:Int) - 0).toNat)).take (l3.length - (((l3.length:Int) - 0).toNat))).length) 8) ∧
            (I64 ((l3.length:Int) - 0)) ∧
            (I64 ((l3.length:Int) - 0)) ∧
            (0≤((l3.length:Int) - 0))∧(((l3.length:Int) - 0).toNat≤l3.length) ∧
            (bigRow (((l3.length:Int) - 0).toNat+1) 8) ∧
            (bigRow (l2.length+1) 80) ∧
            (I64 (i1+1)) ∧
            zd ns (i1+1) (l2++[(Node.mk 4 0 v13 [] ((l3.drop (((l3.length:Int) - 0).toNat)).take (l3.length - (((l3.length:Int) - 0).toNat))))]) ((l3.take (((l3.length:Int) - 0).toNat))++[(l2.length:Int)]) r) ∧
           (¬ (((v4.toNat:Int).tmod 11)=8) →
            (I64 ((l3.length:Int) - 0)) ∧
            (0≤((l3.length:Int) - 0))∧(((l3.length:Int) - 0).toNat≤l3.length) ∧
            (bigRow (((l3.drop (((l3.length:Int) - 0).toNat)).take (l3.length - (((l3.length:Int) - 0).toNat))).length) 8) ∧
            (I64 ((l3.length:Int) - 0)) ∧
            (I64 ((l3.length:Int) - 0)) ∧
            (0≤((l3.length:Int) - 0))∧(((l3.length:Int) - 0).toNat≤l3.length) ∧
            (bigRow (((l3.length:Int) - 0).toNat+1) 8) ∧
            (bigRow (l2.length+1) 80) ∧
            (I64 (i1+1)) ∧
            zd ns (i1+1) (l2++[(Node.mk 1 ((v4.toNat:Int).tmod 30) [] [] ((l3.drop (((l3.length:Int) - 0).toNat)).take (l3.length - (((l3.length:Int) - 0).toNat))))]) ((l3.take (((l3.length:Int) - 0).toNat))++[(l2.length:Int)]) r)))))))))) ∧
  (¬ ((l2.length:Int) < 40) →
   ziJ l2 l3 r)) ∧
 (¬ (i1 < (ns.length:Int)) →
  ziJ l2 l3 r)):zii ns i1 l2 l3 r:=by
 intro S e f h
 unfold zhs
 rw[zS]
 have F:=zhJ
 exact rn (aa h<|F) T
theorem zj (ns:List UInt8) (i5:Int) (l6:List Node) (l7:List Int) (r:List Node) (T :
  ((i5 < (ns.length:Int)) →
  (((l6.length:Int) < 40) →
   (0≤i5) ∧
   ∃ (v16:UInt8),(ns[i5.toNat]?=some v16) ∧
   (I64 ((v16.toNat:Int))) ∧
   ((((v16.toNat:Int).tmod 3)=0) →
    ((2≤(l7.length:Int)) →
     (I64 ((v16.toNat:Int).tdiv 3)) ∧
     (I64 (11+(((v16.toNat:Int).tdiv 3).tmod 13))) ∧
     (I64 ((l7.length:Int) - 2)) ∧
     (0≤((l7.length:Int) - 2))∧(((l7.length:Int) - 2).toNat≤l7.length) ∧
     (bigRow (((l7.drop (((l7.length:Int) - 2).toNat)).take (l7.length - (((l7.length:Int) - 2).toNat))).length) 8) ∧
     (I64 ((l7.length:Int) - 2)) ∧
     (I64 ((l7.length:Int) - 2)) ∧
     (0≤((l7.length:Int) - 2))∧(((l7.length:Int) - 2).toNat≤l7.length) ∧
     (bigRow (((l7.length:Int) - 2).toNat+1) 8) ∧
     (bigRow (l6.length+1) 80) ∧
     (I64 (i5+1)) ∧
     zd ns (i5+1) (l6++[(Node.mk (11+(((v16.toNat:Int).tdiv 3).tmod 13)) 0 [] [] ((l7.drop (((l7.length:Int) - 2).toNat)).take (l7.length - (((l7.length:Int) - 2).toNat))))]) ((l7.take (((l7.length:Int) - 2).toNat))++[(l6.length:Int)]) r) ∧
    (¬ (2≤(l7.length:Int)) →
     ((((v16.toNat:Int).tmod 11)=1) →
      ((1≤(l7.length:Int)) →
       (I64 ((v16.toNat:Int).tdiv 11)) ∧
       (I64 (8+(((v16.toNat:Int).tdiv 11).tmod 2))) ∧
       (I64 ((l7.length:Int) - 1)) ∧
       (0≤((l7.length:Int) - 1))∧(((l7.length:Int) - 1).toNat≤l7.length) ∧
       (bigRow (((l7.drop (((l7.length:Int) - 1).toNat)).take (l7.length - (((l7.length:Int) - 1).toNat))).length) 8) ∧
       (I64 ((l7.length:Int) - 1)) ∧
       (I64 ((l7.length:Int) - 1)) ∧
       (0≤((l7.length:Int) - 1))∧(((l7.length:Int) - 1).toNat≤l7.length) ∧
       (bigRow (((l7.length:Int) - 1).toNat+1) 8) ∧
       (bigRow (l6.length+1) 80) ∧
       (I64 (i5+1)) ∧
       zd ns (i5+1) (l6++[(Node.mk (8+(((v16.toNat:Int).tdiv 11).tmod 2)) 0 [] [] ((l7.drop (((l7.length:Int) - 1).toNat)).take (l7.length - (((l7.length:Int) - 1).toNat))))]) ((l7.take (((l7.length:Int) - 1).toNat))++[(l6.length:Int)]) r) ∧
      (¬ (1≤(l7.length:Int)) →
       (I64 ((l7.length:Int) - 0)) ∧
       (0≤((l7.length:Int) - 0))∧(((l7.length:Int) - 0).toNat≤l7.length) ∧
       (bigRow (((l7.drop (((l7.length:Int) - 0).toNat)).take (l7.length - (((l7.length:Int) - 0).toNat))).length) 8) ∧
       (I64 ((l7.length:Int) - 0)) ∧
       (I64 ((l7.length:Int) - 0)) ∧
       (0≤((l7.length:Int) - 0))∧(((l7.length:Int) - 0).toNat≤l7.length) ∧
       (bigRow (((l7.length:Int) - 0).toNat+1) 8) ∧
       (bigRow (l6.length+1) 80) ∧
       (I64 (i5+1)) ∧
       zd ns (i5+1) (l6++[(Node.mk 1 ((v16.toNat:Int).tmod 30) [] [] ((l7.drop (((l7.length:Int) - 0).toNat)).take (l7.length - (((l7.length:Int) - 0).toNat))))]) ((l7.take (((l7.length:Int) - 0).toNat))++[(l6.length:Int)]) r)) ∧
     (¬ (((v16.toNat:Int).tmod 11)=1) →
      ((((v16.toNat:Int).tmod 11)=2) →
       ((3≤(l7.length:Int)) →
        (I64 ((l7.length:Int) - 3)) ∧
        (0≤((l7.length:Int) - 3))∧(((l7.length:Int) - 3).toNat≤l7.length) ∧
        (bigRow (((l7.drop (((l7.length:Int) - 3).toNat)).take (l7.length - (((l7.length:Int) - 3).toNat))).length) 8) ∧
        (I64 ((l7.length:Int) - 3)) ∧
        (I64 ((l7.length:Int) - 3)) ∧
        (0≤((l7.length:Int) - 3))∧(((l7.length:Int) - 3).toNat≤l7.length) ∧
        (bigRow (((l7.length:Int) - 3).toNat+1) 8) ∧
        (bigRow (l6.length+1) 80) ∧
        (I64 (i5+1)) ∧
        zd ns (i5+1) (l6++[(Node.mk 10 0 [] [] ((l7.drop (((l7.length:Int) - 3).toNat)).take (l7.length - (((l7.length:Int) - 3).toNat))))]) ((l7.take (((l7.length:Int) - 3).toNat))++[(l6.length:Int)]) r) ∧
       (¬ (3≤(l7.length:Int)) →
        (I64 ((l7.length:Int) - 0)) ∧
        (0≤((l7.length:Int) - 0))∧(((l7.length:Int) - 0).toNat≤l7.length) ∧
        (bigRow (((l7.drop (((l7.length:Int) - 0).toNat)).take (l7.length - (((l7.length:Int) - 0).toNat))).length) 8) ∧
        (I64 ((l7.length:Int) - 0)) ∧
        (I64 ((l7.length:Int) - 0)) ∧
        (0≤((l7.length:Int) - 0))∧(((l7.length:Int) - 0).toNat≤l7.length) ∧
        (bigRow (((l7.length:Int) - 0).toNat+1) 8) ∧
        (bigRow (l6.length+1) 80) ∧
        (I64 (i5+1)) ∧
        zd ns (i5+1) (l6++[(Node.mk 1 ((v16.toNat:Int).tmod 30) [] [] ((l7.drop (((l7.length:Int) - 0).toNat)).take (l7.length - (((l7.length:Int) - 0).toNat))))]) ((l7.take (((l7.length:Int) - 0).toNat))++[(l6.length:Int)]) r)) ∧
      (¬ (((v16.toNat:Int).tmod 11)=2) →
       ((((v16.toNat:Int).tmod 11)=3) →
        (I64 ((l7.length:Int) - 0)) ∧
        (0≤((l7.length:Int) - 0))∧(((l7.length:Int) - 0).toNat≤l7.length) ∧
        (bigRow (((l7.drop (((l7.length:Int) - 0).toNat)).take (l7.length - (((l7.length:Int) - 0).toNat))).length) 8) ∧
        (I64 ((l7.length:Int) - 0)) ∧
        (I64 ((l7.length:Int) - 0)) ∧
        (0≤((l7.length:Int) - 0))∧(((l7.length:Int) - 0).toNat≤l7.length) ∧
        (bigRow (((l7.length:Int) - 0).toNat+1) 8) ∧
        (bigRow (l6.length+1) 80) ∧
        (I64 (i5+1)) ∧
        zd ns (i5+1) (l6++[(Node.mk 1 ((v16.toNat:Int).tmod 30) [] [] ((l7.drop (((l7.length:Int) - 0).toNat)).take (l7.length - (((l7.length:Int) - 0).toNat))))]) ((l7.take (((l7.length:Int) - 0).toNat))++[(l6.length:Int)]) r) ∧
       (¬ (((v16.toNat:Int).tmod 11)=3) →
        ((((v16.toNat:Int).tmod 11)=4) →
         (I64 ((v16.toNat:Int).tdiv 11)) ∧
         (I64 ((l7.length:Int) - (if (((v16.toNat:Int).tdiv 11).tmod 4) < (l7.length:Int) then (((v16.toNat:Int).tdiv 11).tmod 4) else (l7.length:Int)))) ∧
         (0≤((l7.length:Int) - (if (((v16.toNat:Int).tdiv 11).tmod 4) < (l7.length:Int) then (((v16.toNat:Int).tdiv 11).tmod 4) else (l7.length:Int))))∧(((l7.length:Int) - (if (((v16.toNat:Int).tdiv 11).tmod 4) < (l7.length:Int) then (((v16.toNat:Int).tdiv 11).tmod 4) else (l7.length:Int))).toNat≤l7.length) ∧
         (bigRow (((l7.drop (((l7.length:Int) - (if (((v16.toNat:Int).tdiv 11).tmod 4) < (l7.length:Int) then (((v16.toNat:Int).tdiv 11).tmod 4) else (l7.length:Int))).toNat)).take (l7.length - (((l7.length:Int) - (if (((v16.toNat:Int).tdiv 11).tmod 4) < (l7.length:Int) then (((v16.toNat:Int).tdiv 11).tmod 4) else (l7.length:Int))).toNat))).length) 8) ∧
         (I64 ((l7.length:Int) - (if (((v16.toNat:Int).tdiv 11).tmod 4) < (l7.length:Int) then (((v16.toNat:Int).tdiv 11).tmod 4) else (l7.length:Int)))) ∧
         (I64 ((l7.length:Int) - (if (((v16.toNat:Int).tdiv 11).tmod 4) < (l7.length:Int) then (((v16.toNat:Int).tdiv 11).tmod 4) else (l7.length:Int)))) ∧
         (0≤((l7.length:Int) - (if (((v16.toNat:Int).tdiv 11).tmod 4) < (l7.length:Int) then (((v16.toNat:Int).tdiv 11).tmod 4) else (l7.length:Int))))∧(((l7.length:Int) - (if (((v16.toNat:Int).tdiv 11).tmod 4) < (l7.length:Int) then (((v16.toNat:Int).tdiv 11).tmod 4) else (l7.length:Int))).toNat≤l7.length) ∧
         (bigRow (((l7.length:Int) - (if (((v16.toNat:Int).tdiv 11).tmod 4) < (l7.length:Int) then (((v16.toNat:Int).tdiv 11).tmod 4) else (l7.length:Int))).toNat+1) 8) ∧
         (bigRow (l6.length+1) 80) ∧
         (I64 (i5+1)) ∧
         zd ns (i5+1) (l6++[(Node.mk 6 0 [] [] ((l7.drop (((l7.length:Int) - (if (((v16.toNat:Int).tdiv 11).tmod 4) < (l7.length:Int) then (((v16.toNat:Int).tdiv 11).tmod 4) else (l7.length:Int))).toNat)).take (l7.length - (((l7.length:Int) - (if (((v16.toNat:Int).tdiv 11).tmod 4) < (l7.length:Int) then (((v16.toNat:Int).tdiv 11).tmod 4) else (l7.length:Int))).toNat))))]) ((l7.take (((l7.length:Int) - (if (((v16.toNat:Int).tdiv 11).tmod 4) < (l7.length:Int) then (((v16.toNat:Int).tdiv 11).tmod 4) else (l7.length:Int))).toNat))++[(l6.length:Int)]) r) ∧
        (¬ (((v16.toNat:Int).tmod 11)=4) →
         ((((v16.toNat:Int).tmod 11)=5) →
          (I64 ((v16.toNat:Int).tdiv 11)) ∧
          (0≤(((v16.toNat:Int).tdiv 11).tmod 8)) ∧
          ∃ (v17:List UInt8),(([[109,105,110],[109,97,120],[115,117,109],[108,101,110],[99,111,110,99,97,116],[114,97,110,103,101],[116,101,120,116],[104,97,115]]:List (List UInt8))[(((v16.toNat:Int).tdiv 11).tmod 8).toNat]?=some v17) ∧
          (I64 ((v16.toNat:Int).tdiv 88)) ∧
          (I64 (1+((v16.toNat:Int).tdiv 88))) ∧
          (I64 ((l7.length:Int) - (if (1+((v16.toNat:Int).tdiv 88)) < (l7.length:Int) then (1+((v16.toNat:Int).tdiv 88)) else (l7.length:Int)))) ∧
          (0≤((l7.length:Int) - (if (1+((v16.toNat:Int).tdiv 88)) < (l7.length:Int) then (1+((v16.toNat:Int).tdiv 88)) else (l7.length:Int))))∧(((l7.length:Int) - (if (1+((v16.toNat:Int).tdiv 88)) < (l7.length:Int) then (1+((v16.toNat:Int).tdiv 88)) else (l7.length:Int))).toNat≤l7.length) ∧
          (bigRow (((l7.drop (((l7.length:Int) - (if (1+((v16.toNat:Int).tdiv 88)) < (l7.length:Int) then (1+((v16.toNat:Int).tdiv 88)) else (l7.length:Int))).toNat)).take (l7.length - (((l7.length:Int) - (if (1+((v16.toNat:Int).tdiv 88)) < (l7.length:Int) then (1+((v16.toNat:Int).tdiv 88)) else (l7.length:Int))).toNat))).length) 8) ∧
          (I64 ((l7.length:Int) - (if (1+((v16.toNat:Int).tdiv 88)) < (l7.length:Int) then (1+((v16.toNat:Int).tdiv 88)) else (l7.length:Int)))) ∧
          (I64 ((l7.length:Int) - (if (1+((v16.toNat:Int).tdiv 88)) < (l7.length:Int) then (1+((v16.toNat:Int).tdiv 88)) else (l7.length:Int)))) ∧
          (0≤((l7.length:Int) - (if (1+((v16.toNat:Int).tdiv 88)) < (l7.length:Int) then (1+((v16.toNat:Int).tdiv 88)) else (l7.length:Int))))∧(((l7.length:Int) - (if (1+((v16.toNat:Int).tdiv 88)) < (l7.length:Int) then (1+((v16.toNat:Int).tdiv 88)) else (l7.length:Int))).toNat≤l7.length) ∧
          (bigRow (((l7.length:Int) - (if (1+((v16.toNat:Int).tdiv 88)) < (l7.length:Int) then (1+((v16.toNat:Int).tdiv 88)) else (l7.length:Int))).toNat+1) 8) ∧
          (bigRow (l6.length+1) 80) ∧
          (I64 (i5+1)) ∧
          zd ns (i5+1) (l6++[(Node.mk 5 0 v17 [] ((l7.drop (((l7.length:Int) - (if (1+((v16.toNat:Int).tdiv 88)) < (l7.length:Int) then (1+((v16.toNat:Int).tdiv 88)) else (l7.length:Int))).toNat)).take (l7.length - (((l7.length:Int) - (if (1+((v16.toNat:Int).tdiv 88)) < (l7.length:Int) then (1+((v16.toNat:Int).tdiv 88)) else (l7.length:Int))).toNat))))]) ((l7.take (((l7.length:Int) - (if (1+((v16.toNat:Int).tdiv 88)) < (l7.length:Int) then (1+((v16.toNat:Int).tdiv 88)) else (l7.length:Int))).toNat))++[(l6.length:Int)]) r) ∧
         (¬ (((v16.toNat:Int).tmod 11)=5) →
          ((((v16.toNat:Int).tmod 11)=6) →
           (I64 ((v16.toNat:Int).tdiv 11)) ∧
           (0≤(((v16.toNat:Int).tdiv 11).tmod 4)) ∧
           ∃ (v18:List Part),(([[],[(Part.mk false [97,34,36,10])],[(Part.mk true [118,97,114,46,120])],[(Part.mk false [98]),(Part.mk true [108,111,99,97,108,46,121]),(Part.mk false [92])]]:List (List Part))[(((v16.toNat:Int).tdiv 11).tmod 4).toNat]?=some v18) ∧
           (I64 ((l7.length:Int) - 0)) ∧
           (0≤((l7.length:Int) - 0))∧(((l7.length:Int) - 0).toNat≤l7.length) ∧
           (bigRow (((l7.drop (((l7.length:Int) - 0).toNat)).take (l7.length - (((l7.length:Int) - 0).toNat))).length) 8) ∧
           (I64 ((l7.length:Int) - 0)) ∧
           (I64 ((l7.length:Int) - 0)) ∧
           (0≤((l7.length:Int) - 0))∧(((l7.length:Int) - 0).toNat≤l7.length) ∧
           (bigRow (((l7.length:Int) - 0).toNat+1) 8) ∧
           (bigRow (l6.length+1) 80) ∧
           (I64 (i5+1)) ∧
           zd ns (i5+1) (l6++[(Node.mk 2 0 [] v18 ((l7.drop (((l7.length:Int) - 0).toNat)).take (l7.length - (((l7.length:Int) - 0).toNat))))]) ((l7.take (((l7.length:Int) - 0).toNat))++[(l6.length:Int)]) r) ∧
          (¬ (((v16.toNat:Int).tmod 11)=6) →
           ((((v16.toNat:Int).tmod 11)=7) →
            (I64 ((v16.toNat:Int).tdiv 11)) ∧
            (I64 ((l7.length:Int) - 0)) ∧
            (0≤((l7.length:Int) - 0))∧(((l7.length:Int) - 0).toNat≤l7.length) ∧
            (bigRow (((l7.drop (((l7.length:Int) - 0).toNat)).take (l7.length - (((l7.length:Int) - 0).toNat))).length) 8) ∧
            (I64 ((l7.length:Int) - 0)) ∧
            (I64 ((l7.length:Int) - 0)) ∧
            (0≤((l7.length:Int) - 0))∧(((l7.length:Int) - 0).toNat≤l7.length) ∧
            (bigRow (((l7.length:Int) - 0).toNat+1) 8) ∧
            (bigRow (l6.length+1) 80) ∧
            (I64 (i5+1)) ∧
            zd ns (i5+1) (l6++[(Node.mk 3 (((v16.toNat:Int).tdiv 11).tmod 2) [] [] ((l7.drop (((l7.length:Int) - 0).toNat)).take (l7.length - (((l7.length:Int) - 0).toNat))))]) ((l7.take (((l7.length:Int) - 0).toNat))++[(l6.length:Int)]) r) ∧
           (¬ (((v16.toNat:Int).tmod 11)=7) →
            ((((v16.toNat:Int).tmod 11)=8) →
             (I64 ((v16.toNat:Int).tdiv 11)) ∧
             (0≤(((v16.toNat:Int).tdiv 11).tmod 4)) ∧
             ∃ (v19:List UInt8),(([[118,97,114,46,120],[108,111,99,97,108,46,121],[99,111,117,110,116,46,105,110,100,101,120],[118,97,114,46,108]]:List (List UInt8))[(((v16.toNat:Int).tdiv 11).tmod 4).toNat]?=some v19) ∧
             (I64 ((l7.length:Int) - 0)) ∧
             (0≤((l7.length:Int) - 0))∧(((l7.length:Int) - 0).toNat≤l7.length) ∧
             (bigRow (((l7.drop (((l7.length:Int) - 0).toNat)).take (l7.length - (((l7.length:Int) - 0).toNat))).length) 8) ∧
             (I64 ((l7.length:Int) - 0)) ∧
             (I64 ((l7.length:Int) - 0)) ∧
             (0≤((l7.length:Int) - 0))∧(((l7.length:Int) - 0).toNat≤l7.length) ∧
             (bigRow (((l7.length:Int) - 0).toNat+1) 8) ∧
             (bigRow (l6.length+1) 80) ∧
             (I64 (i5+1)) ∧
             zd ns (i5+1) (l6++[(Node.mk 4 0 v19 [] ((l7.drop (((l7.length:Int) - 0).toNat)).take (l7.length - (((l7.length:Int) - 0).toNat))))]) ((l7.take (((l7.length:Int) - 0).toNat))++[(l6.length:Int)]) r) ∧
            (¬ (((v16.toNat:Int).tmod 11)=8) →
             (I64 ((l7.length:Int) - 0)) ∧
             (0≤((l7.length:Int) - 0))∧(((l7.length:Int) - 0).toNat≤l7.length) ∧
             (bigRow (((l7.drop (((l7.length:Int) - 0).toNat)).take (l7.length - (((l7.length:Int) - 0).toNat))).length) 8) ∧
             (I64 ((l7.length:Int) - 0)) ∧
             (I64 ((l7.length:Int) - 0)) ∧
             (0≤((l7.length:Int) - 0))∧(((l7.length:Int) - 0).toNat≤l7.length) ∧
             (bigRow (((l7.length:Int) - 0).toNat+1) 8) ∧
             (bigRow (l6.length+1) 80) ∧
             (I64 (i5+1)) ∧
             zd ns (i5+1) (l6++[(Node.mk 1 ((v16.toNat:Int).tmod 30) [] [] ((l7.drop (((l7.length:Int) - 0).toNat)).take (l7.length - (((l7.length:Int) - 0).toNat))))]) ((l7.take (((l7.length:Int) - 0).toNat))++[(l6.length:Int)]) r)))))))))) ∧
   (¬ (((v16.toNat:Int).tmod 3)=0) →
    ((((v16.toNat:Int).tmod 11)=1) →
     ((1≤(l7.length:Int)) →
      (I64 ((v16.toNat:Int).tdiv 11)) ∧
      (I64 (8+(((v16.toNat:Int).tdiv 11).tmod 2))) ∧
      (I64 ((l7.length:Int) - 1)) ∧
      (0≤((l7.length:Int) - 1))∧(((l7.length:Int) - 1).toNat≤l7.length) ∧
      (bigRow (((l7.drop (((l7.length:Int) - 1).toNat)).take (l7.length - (((l7.length:Int) - 1).toNat))).length) 8) ∧
      (I64 ((l7.length:Int) - 1)) ∧
      (I64 ((l7.length:Int) - 1)) ∧
      (0≤((l7.length:Int) - 1))∧(((l7.length:Int) - 1).toNat≤l7.length) ∧
      (bigRow (((l7.length:Int) - 1).toNat+1) 8) ∧
      (bigRow (l6.length+1) 80) ∧
      (I64 (i5+1)) ∧
      zd ns (i5+1) (l6++[(Node.mk (8+(((v16.toNat:Int).tdiv 11).tmod 2)) 0 [] [] ((l7.drop (((l7.length:Int) - 1).toNat)).take (l7.length - (((l7.length:Int) - 1).toNat))))]) ((l7.take (((l7.length:Int) - 1).toNat))++[(l6.length:Int)]) r) ∧
     (¬ (1≤(l7.length:Int)) →
      (I64 ((l7.length:Int) - 0)) ∧
      (0≤((l7.length:Int) - 0))∧(((l7.length:Int) - 0).toNat≤l7.length) ∧
      (bigRow (((l7.drop (((l7.length:Int) - 0).toNat)).take (l7.length - (((l7.length:Int) - 0).toNat))).length) 8) ∧
      (I64 ((l7.length:Int) - 0)) ∧
      (I64 ((l7.length:Int) - 0)) ∧
      (0≤((l7.length:Int) - 0))∧(((l7.length:Int) - 0).toNat≤l7.length) ∧
      (bigRow (((l7.length:Int) - 0).toNat+1) 8) ∧
      (bigRow (l6.length+1) 80) ∧
      (I64 (i5+1)) ∧
      zd ns (i5+1) (l6++[(Node.mk 1 ((v16.toNat:Int).tmod 30) [] [] ((l7.drop (((l7.length:Int) - 0).toNat)).take (l7.length - (((l7.length:Int) - 0).toNat))))]) ((l7.take (((l7.length:Int) - 0).toNat))++[(l6.length:Int)]) r)) ∧
    (¬ (((v16.toNat:Int).tmod 11)=1) →
     ((((v16.toNat:Int).tmod 11)=2) →
      ((3≤(l7.length:Int)) →
       (I64 ((l7.length:Int) - 3)) ∧
       (0≤((l7.length:Int) - 3))∧(((l7.length:Int) - 3).toNat≤l7.length) ∧
       (bigRow (((l7.drop (((l7.length:Int) - 3).toNat)).take (l7.length - (((l7.length:Int) - 3).toNat))).length) 8) ∧
       (I64 ((l7.length:Int) - 3)) ∧
       (I64 ((l7.length:Int) - 3)) ∧
       (0≤((l7.length:Int) - 3))∧(((l7.length:Int) - 3).toNat≤l7.length) ∧
       (bigRow (((l7.length:Int) - 3).toNat+1) 8) ∧
       (bigRow (l6.length+1) 80) ∧
       (I64 (i5+1)) ∧
       zd ns (i5+1) (l6++[(Node.mk 10 0 [] [] ((l7.drop (((l7.length:Int) - 3).toNat)).take (l7.length - (((l7.length:Int) - 3).toNat))))]) ((l7.take (((l7.length:Int) - 3).toNat))++[(l6.length:Int)]) r) ∧
      (¬ (3≤(l7.length:Int)) →
       (I64 ((l7.length:Int) - 0)) ∧
       (0≤((l7.length:Int) - 0))∧(((l7.length:Int) - 0).toNat≤l7.length) ∧
       (bigRow (((l7.drop (((l7.length:Int) - 0).toNat)).take (l7.length - (((l7.length:Int) - 0).toNat))).length) 8) ∧
       (I64 ((l7.length:Int) - 0)) ∧
       (I64 ((l7.length:Int) - 0)) ∧
       (0≤((l7.length:Int) - 0))∧(((l7.length:Int) - 0).toNat≤l7.length) ∧
       (bigRow (((l7.length:Int) - 0).toNat+1) 8) ∧
       (bigRow (l6.length+1) 80) ∧
       (I64 (i5+1)) ∧
       zd ns (i5+1) (l6++[(Node.mk 1 ((v16.toNat:Int).tmod 30) [] [] ((l7.drop (((l7.length:Int) - 0).toNat)).take (l7.length - (((l7.length:Int) - 0).toNat))))]) ((l7.take (((l7.length:Int) - 0).toNat))++[(l6.length:Int)]) r)) ∧
     (¬ (((v16.toNat:Int).tmod 11)=2) →
      ((((v16.toNat:Int).tmod 11)=3) →
       ((2≤(l7.length:Int)) →
        (I64 ((l7.length:Int) - 2)) ∧
        (0≤((l7.length:Int) - 2))∧(((l7.length:Int) - 2).toNat≤l7.length) ∧
        (bigRow (((l7.drop (((l7.length:Int) - 2).toNat)).take (l7.length - (((l7.length:Int) - 2).toNat))).length) 8) ∧
        (I64 ((l7.length:Int) - 2)) ∧
        (I64 ((l7.length:Int) - 2)) ∧
        (0≤((l7.length:Int) - 2))∧(((l7.length:Int) - 2).toNat≤l7.length) ∧
        (bigRow (((l7.length:Int) - 2).toNat+1) 8) ∧
        (bigRow (l6.length+1) 80) ∧
        (I64 (i5+1)) ∧
        zd ns (i5+1) (l6++[(Node.mk 7 0 [] [] ((l7.drop (((l7.length:Int) - 2).toNat)).take (l7.length - (((l7.length:Int) - 2).toNat))))]) ((l7.take (((l7.length:Int) - 2).toNat))++[(l6.length:Int)]) r) ∧
       (¬ (2≤(l7.length:Int)) →
        (I64 ((l7.length:Int) - 0)) ∧
        (0≤((l7.length:Int) - 0))∧(((l7.length:Int) - 0).toNat≤l7.length) ∧
        (bigRow (((l7.drop (((l7.length:Int) - 0).toNat)).take (l7.length - (((l7.length:Int) - 0).toNat))).length) 8) ∧
        (I64 ((l7.length:Int) - 0)) ∧
        (I64 ((l7.length:Int) - 0)) ∧
        (0≤((l7.length:Int) - 0))∧(((l7.length:Int) - 0).toNat≤l7.length) ∧
        (bigRow (((l7.length:Int) - 0).toNat+1) 8) ∧
        (bigRow (l6.length+1) 80) ∧
        (I64 (i5+1)) ∧
        zd ns (i5+1) (l6++[(Node.mk 1 ((v16.toNat:Int).tmod 30) [] [] ((l7.drop (((l7.length:Int) - 0).toNat)).take (l7.length - (((l7.length:Int) - 0).toNat))))]) ((l7.take (((l7.length:Int) - 0).toNat))++[(l6.length:Int)]) r)) ∧
      (¬ (((v16.toNat:Int).tmod 11)=3) →
       ((((v16.toNat:Int).tmod 11)=4) →
        (I64 ((v16.toNat:Int).tdiv 11)) ∧
        (I64 ((l7.length:Int) - (if (((v16.toNat:Int).tdiv 11).tmod 4) < (l7.length:Int) then (((v16.toNat:Int).tdiv 11).tmod 4) else (l7.length:Int)))) ∧
        (0≤((l7.length:Int) - (if (((v16.toNat:Int).tdiv 11).tmod 4) < (l7.length:Int) then (((v16.toNat:Int).tdiv 11).tmod 4) else (l7.length:Int))))∧(((l7.length:Int) - (if (((v16.toNat:Int).tdiv 11).tmod 4) < (l7.length:Int) then (((v16.toNat:Int).tdiv 11).tmod 4) else (l7.length:Int))).toNat≤l7.length) ∧
        (bigRow (((l7.drop (((l7.length:Int) - (if (((v16.toNat:Int).tdiv 11).tmod 4) < (l7.length:Int) then (((v16.toNat:Int).tdiv 11).tmod 4) else (l7.length:Int))).toNat)).take (l7.length - (((l7.length:Int) - (if (((v16.toNat:Int).tdiv 11).tmod 4) < (l7.length:Int) then (((v16.toNat:Int).tdiv 11).tmod 4) else (l7.length:Int))).toNat))).length) 8) ∧
        (I64 ((l7.length:Int) - (if (((v16.toNat:Int).tdiv 11).tmod 4) < (l7.length:Int) then (((v16.toNat:Int).tdiv 11).tmod 4) else (l7.length:Int)))) ∧
        (I64 ((l7.length:Int) - (if (((v16.toNat:Int).tdiv 11).tmod 4) < (l7.length:Int) then (((v16.toNat:Int).tdiv 11).tmod 4) else (l7.length:Int)))) ∧
        (0≤((l7.length:Int) - (if (((v16.toNat:Int).tdiv 11).tmod 4) < (l7.length:Int) then (((v16.toNat:Int).tdiv 11).tmod 4) else (l7.length:Int))))∧(((l7.length:Int) - (if (((v16.toNat:Int).tdiv 11).tmod 4) < (l7.length:Int) then (((v16.toNat:Int).tdiv 11).tmod 4) else (l7.length:Int))).toNat≤l7.length) ∧
        (bigRow (((l7.length:Int) - (if (((v16.toNat:Int).tdiv 11).tmod 4) < (l7.length:Int) then (((v16.toNat:Int).tdiv 11).tmod 4) else (l7.length:Int))).toNat+1) 8) ∧
        (bigRow (l6.length+1) 80) ∧
        (I64 (i5+1)) ∧
        zd ns (i5+1) (l6++[(Node.mk 6 0 [] [] ((l7.drop (((l7.length:Int) - (if (((v16.toNat:Int).tdiv 11).tmod 4) < (l7.length:Int) then (((v16.toNat:Int).tdiv 11).tmod 4) else (l7.length:Int))).toNat)).take (l7.length - (((l7.length:Int) - (if (((v16.toNat:Int).tdiv 11).tmod 4) < (l7.length:Int) then (((v16.toNat:Int).tdiv 11).tmod 4) else (l7.length:Int))).toNat))))]) ((l7.take (((l7.length:Int) - (if (((v16.toNat:Int).tdiv 11).tmod 4) < (l7.length:Int) then (((v16.toNat:Int).tdiv 11).tmod 4) else (l7.length:Int))).toNat))++[(l6.length:Int)]) r) ∧
       (¬ (((v16.toNat:Int).tmod 11)=4) →
        ((((v16.toNat:Int).tmod 11)=5) →
         (I64 ((v16.toNat:Int).tdiv 11)) ∧
         (0≤(((v16.toNat:Int).tdiv 11).tmod 8)) ∧
         ∃ (v20:List UInt8),(([[109,105,110],[109,97,120],[115,117,109],[108,101,110],[99,111,110,99,97,116],[114,97,110,103,101],[116,101,120,116],[104,97,115]]:List (List UInt8))[(((v16.toNat:Int).tdiv 11).tmod 8).toNat]?=some v20) ∧
         (I64 ((v16.toNat:Int).tdiv 88)) ∧
         (I64 (1+((v16.toNat:Int).tdiv 88))) ∧
         (I64 ((l7.length:Int) - (if (1+((v16.toNat:Int).tdiv 88)) < (l7.length:Int) then (1+((v16.toNat:Int).tdiv 88)) else (l7.length:Int)))) ∧
         (0≤((l7.length:Int) - (if (1+((v16.toNat:Int).tdiv 88)) < (l7.length:Int) then (1+((v16.toNat:Int).tdiv 88)) else (l7.length:Int))))∧(((l7.length:Int) - (if (1+((v16.toNat:Int).tdiv 88)) < (l7.length:Int) then (1+((v16.toNat:Int).tdiv 88)) else (l7.length:Int))).toNat≤l7.length) ∧
         (bigRow (((l7.drop (((l7.length:Int) - (if (1+((v16.toNat:Int).tdiv 88)) < (l7.length:Int) then (1+((v16.toNat:Int).tdiv 88)) else (l7.length:Int))).toNat)).take (l7.length - (((l7.length:Int) - (if (1+((v16.toNat:Int).tdiv 88)) < (l7.length:Int) then (1+((v16.toNat:Int).tdiv 88)) else (l7.length:Int))).toNat))).length) 8) ∧
         (I64 ((l7.length:Int) - (if (1+((v16.toNat:Int).tdiv 88)) < (l7.length:Int) then (1+((v16.toNat:Int).tdiv 88)) else (l7.length:Int)))) ∧
         (I64 ((l7.length:Int) - (if (1+((v16.toNat:Int).tdiv 88)) < (l7.length:Int) then (1+((v16.toNat:Int).tdiv 88)) else (l7.length:Int)))) ∧
         (0≤((l7.length:Int) - (if (1+((v16.toNat:Int).tdiv 88)) < (l7.length:Int) then (1+((v16.toNat:Int).tdiv 88)) else (l7.length:Int))))∧(((l7.length:Int) - (if (1+((v16.toNat:Int).tdiv 88)) < (l7.length:Int) then (1+((v16.toNat:Int).tdiv 88)) else (l7.length:Int))).toNat≤l7.length) ∧
         (bigRow (((l7.length:Int) - (if (1+((v16.toNat:Int).tdiv 88)) < (l7.length:Int) then (1+((v16.toNat:Int).tdiv 88)) else (l7.length:Int))).toNat+1) 8) ∧
         (bigRow (l6.length+1) 80) ∧
         (I64 (i5+1)) ∧
         zd ns (i5+1) (l6++[(Node.mk 5 0 v20 [] ((l7.drop (((l7.length:Int) - (if (1+((v16.toNat:Int).tdiv 88)) < (l7.length:Int) then (1+((v16.toNat:Int).tdiv 88)) else (l7.length:Int))).toNat)).take (l7.length - (((l7.length:Int) - (if (1+((v16.toNat:Int).tdiv 88)) < (l7.length:Int) then (1+((v16.toNat:Int).tdiv 88)) else (l7.length:Int))).toNat))))]) ((l7.take (((l7.length:Int) - (if (1+((v16.toNat:Int).tdiv 88)) < (l7.length:Int) then (1+((v16.toNat:Int).tdiv 88)) else (l7.length:Int))).toNat))++[(l6.length:Int)]) r) ∧
        (¬ (((v16.toNat:Int).tmod 11)=5) →
         ((((v16.toNat:Int).tmod 11)=6) →
          (I64 ((v16.toNat:Int).tdiv 11)) ∧
          (0≤(((v16.toNat:Int).tdiv 11).tmod 4)) ∧
          ∃ (v21:List Part),(([[],[(Part.mk false [97,34,36,10])],[(Part.mk true [118,97,114,46,120])],[(Part.mk false [98]),(Part.mk true [108,111,99,97,108,46,121]),(Part.mk false [92])]]:List (List Part))[(((v16.toNat:Int).tdiv 11).tmod 4).toNat]?=some v21) ∧
          (I64 ((l7.length:Int) - 0)) ∧
          (0≤((l7.length:Int) - 0))∧(((l7.length:Int) - 0).toNat≤l7.length) ∧
          (bigRow (((l7.drop (((l7.length:Int) - 0).toNat)).take (l7.length - (((l7.length:Int) - 0).toNat))).length) 8) ∧
          (I64 ((l7.length:Int) - 0)) ∧
          (I64 ((l7.length:Int) - 0)) ∧
          (0≤((l7.length:Int) - 0))∧(((l7.length:Int) - 0).toNat≤l7.length) ∧
          (bigRow (((l7.length:Int) - 0).toNat+1) 8) ∧
          (bigRow (l6.length+1) 80) ∧
          (I64 (i5+1)) ∧
          zd ns (i5+1) (l6++[(Node.mk 2 0 [] v21 ((l7.drop (((l7.length:Int) - 0).toNat)).take (l7.length - (((l7.length:Int) - 0).toNat))))]) ((l7.take (((l7.length:Int) - 0).toNat))++[(l6.length:Int)]) r) ∧
         (¬ (((v16.toNat:Int).tmod 11)=6) →
          ((((v16.toNat:Int).tmod 11)=7) →
           (I64 ((v16.toNat:Int).tdiv 11)) ∧
           (I64 ((l7.length:Int) - 0)) ∧
           (0≤((l7.length:Int) - 0))∧(((l7.length:Int) - 0).toNat≤l7.length) ∧
           (bigRow (((l7.drop (((l7.length:Int) - 0).toNat)).take (l7.length - (((l7.length:Int) - 0).toNat))).length) 8) ∧
           (I64 ((l7.length:Int) - 0)) ∧
           (I64 ((l7.length:Int) - 0)) ∧
           (0≤((l7.length:Int) - 0))∧(((l7.length:Int) - 0).toNat≤l7.length) ∧
           (bigRow (((l7.length:Int) - 0).toNat+1) 8) ∧
           (bigRow (l6.length+1) 80) ∧
           (I64 (i5+1)) ∧
           zd ns (i5+1) (l6++[(Node.mk 3 (((v16.toNat:Int).tdiv 11).tmod 2) [] [] ((l7.drop (((l7.length:Int) - 0).toNat)).take (l7.length - (((l7.length:Int) - 0).toNat))))]) ((l7.take (((l7.length:Int) - 0).toNat))++[(l6.length:Int)]) r) ∧
          (¬ (((v16.toNat:Int).tmod 11)=7) →
           ((((v16.toNat:Int).tmod 11)=8) →
            (I64 ((v16.toNat:Int).tdiv 11)) ∧
            (0≤(((v16.toNat:Int).tdiv 11).tmod 4)) ∧
            ∃ (v22:List UInt8),(([[118,97,114,46,120],[108,111,99,97,108,46,121],[99,111,117,110,116,46,105,110,100,101,120],[118,97,114,46,108]]:List (List UInt8))[(((v16.toNat:Int).tdiv 11).tmod 4).toNat]?=some v22) ∧
            (I64 ((l7.length:Int) - 0)) ∧
            (0≤((l7.length:Int) - 0))∧(((l7.length:Int) - 0).toNat≤l7.length) ∧
            (bigRow (((l7.drop (((l7.length:Int) - 0).toNat)).take (l7.length - (((l7.length:Int) - 0).toNat))).length) 8) ∧
            (I64 ((l7.length:Int) - 0)) ∧
            (I64 ((l7.length:Int) - 0)) ∧
            (0≤((l7.length:Int) - 0))∧(((l7.length:Int) - 0).toNat≤l7.length) ∧
            (bigRow (((l7.length:Int) - 0).toNat+1) 8) ∧
            (bigRow (l6.length+1) 80) ∧
            (I64 (i5+1)) ∧
            zd ns (i5+1) (l6++[(Node.mk 4 0 v22 [] ((l7.drop (((l7.length:Int) - 0).toNat)).take (l7.length - (((l7.length:Int) - 0).toNat))))]) ((l7.take (((l7.length:Int) - 0).toNat))++[(l6.length:Int)]) r) ∧
           (¬ (((v16.toNat:Int).tmod 11)=8) →
            (I64 ((l7.length:Int) - 0)) ∧
            (0≤((l7.length:Int) - 0))∧(((l7.length:Int) - 0).toNat≤l7.length) ∧
            (bigRow (((l7.drop (((l7.length:Int) - 0).toNat)).take (l7.length - (((l7.length:Int) - 0).toNat))).length) 8) ∧
            (I64 ((l7.length:Int) - 0)) ∧
            (I64 ((l7.length:Int) - 0)) ∧
            (0≤((l7.length:Int) - 0))∧(((l7.length:Int) - 0).toNat≤l7.length) ∧
            (bigRow (((l7.length:Int) - 0).toNat+1) 8) ∧
            (bigRow (l6.length+1) 80) ∧
            (I64 (i5+1)) ∧
            zd ns (i5+1) (l6++[(Node.mk 1 ((v16.toNat:Int).tmod 30) [] [] ((l7.drop (((l7.length:Int) - 0).toNat)).take (l7.length - (((l7.length:Int) - 0).toNat))))]) ((l7.take (((l7.length:Int) - 0).toNat))++[(l6.length:Int)]) r)))))))))) ∧
  (¬ ((l6.length:Int) < 40) →
   zeW l6 l7 r)) ∧
 (¬ (i5 < (ns.length:Int)) →
  zeW l6 l7 r)):zd ns i5 l6 l7 r:=by
 intro S e f h
 unfold zhs
 rw[zS]
 have F:=zhJ
 exact rn (aa h<|F) T
theorem zlw (l14:List Node) (l15:List Int) (r:List Node) (T :
  ((1 < (l15.length:Int)) →
  (I64 ((l15.length:Int) - 2)) ∧
  (0≤((l15.length:Int) - 2))∧(((l15.length:Int) - 2).toNat < l15.length) ∧
  ∃ (v25:Int),(l15[((l15.length:Int) - 2).toNat]?=some v25) ∧
  (I64 ((l15.length:Int) - 1)) ∧
  (0≤((l15.length:Int) - 1))∧(((l15.length:Int) - 1).toNat < l15.length) ∧
  ∃ (v26:Int),(l15[((l15.length:Int) - 1).toNat]?=some v26) ∧
  (bigRow (l14.length+1) 80) ∧
  (I64 ((l15.length:Int) - 2)) ∧
  (I64 ((l15.length:Int) - 2)) ∧
  (0≤((l15.length:Int) - 2))∧(((l15.length:Int) - 2).toNat≤l15.length) ∧
  (I64 (((l14.length+1:Nat):Int) - 1)) ∧
  (bigRow (((l15.length:Int) - 2).toNat+1) 8) ∧
  zdI (l14++[(Node.mk 19 0 [] [] [v25,v26])]) ((l15.take (((l15.length:Int) - 2).toNat))++[(((l14.length+1:Nat):Int) - 1)]) r) ∧
 (¬ (1 < (l15.length:Int)) →
  l14=r)):ziJ l14 l15 r:=by
 intro S e f h
 unfold zef
 rw[zS]
 have F:=zhJ
 exact rn (aa h<|F) T
theorem zfq (l23:List Node) (l24:List Int) (r:List Node) (T :
  ((1 < (l24.length:Int)) →
  (I64 ((l24.length:Int) - 2)) ∧
  (0≤((l24.length:Int) - 2))∧(((l24.length:Int) - 2).toNat < l24.length) ∧
  ∃ (v29:Int),(l24[((l24.length:Int) - 2).toNat]?=some v29) ∧
  (I64 ((l24.length:Int) - 1)) ∧
  (0≤((l24.length:Int) - 1))∧(((l24.length:Int) - 1).toNat < l24.length) ∧
  ∃ (v30:Int),(l24[((l24.length:Int) - 1).toNat]?=some v30) ∧
  (bigRow (l23.length+1) 80) ∧
  (I64 ((l24.length:Int) - 2)) ∧
  (I64 ((l24.length:Int) - 2)) ∧
  (0≤((l24.length:Int) - 2))∧(((l24.length:Int) - 2).toNat≤l24.length) ∧
  (I64 (((l23.length+1:Nat):Int) - 1)) ∧
  (bigRow (((l24.length:Int) - 2).toNat+1) 8) ∧
  zdI (l23++[(Node.mk 19 0 [] [] [v29,v30])]) ((l24.take (((l24.length:Int) - 2).toNat))++[(((l23.length+1:Nat):Int) - 1)]) r) ∧
 (¬ (1 < (l24.length:Int)) →
  l23=r)):zeW l23 l24 r:=by
 intro S e f h
 unfold zef
 rw[zS]
 have F:=zhJ
 exact rn (aa h<|F) T
theorem zfw (l27:List Node) (l28:List Int) (r:List Node) (T :
  ((1 < (l28.length:Int)) →
  (I64 ((l28.length:Int) - 2)) ∧
  (0≤((l28.length:Int) - 2))∧(((l28.length:Int) - 2).toNat < l28.length) ∧
  ∃ (v31:Int),(l28[((l28.length:Int) - 2).toNat]?=some v31) ∧
  (I64 ((l28.length:Int) - 1)) ∧
  (0≤((l28.length:Int) - 1))∧(((l28.length:Int) - 1).toNat < l28.length) ∧
  ∃ (v32:Int),(l28[((l28.length:Int) - 1).toNat]?=some v32) ∧
  (bigRow (l27.length+1) 80) ∧
  (I64 ((l28.length:Int) - 2)) ∧
  (I64 ((l28.length:Int) - 2)) ∧
  (0≤((l28.length:Int) - 2))∧(((l28.length:Int) - 2).toNat≤l28.length) ∧
  (I64 (((l27.length+1:Nat):Int) - 1)) ∧
  (bigRow (((l28.length:Int) - 2).toNat+1) 8) ∧
  zdI (l27++[(Node.mk 19 0 [] [] [v31,v32])]) ((l28.take (((l28.length:Int) - 2).toNat))++[(((l27.length+1:Nat):Int) - 1)]) r) ∧
 (¬ (1 < (l28.length:Int)) →
  l27=r)):zdI l27 l28 r:=by
 intro S e f h
 unfold zef
 rw[zS]
 have F:=zhJ
 exact rn (aa h<|F) T
theorem zsF (ns:List UInt8) (r:List Node) (T :
  zii ns 0 [] [] r):zpV ns r:=by
 intro S
 rw[za zxI _ _ rfl]
 have F:=zhJ
 exact rn F T
theorem zyv:SP 7=some (.code sc_Q7):=zb rfl Tryz.func7 comp_Q7
def zca (which:UInt8) (r3:List UInt8) (r4:List Node) (i7:Int) (i8:Int) (r:Bool):Prop:=∀ (S:Sto) (e:Nat→PV) (f:Fr),e 1=.int .u8 (which.toNat:Int)∧e 5=.str r3∧e 6=.list 5 (r4.map eNode) false∧e 8=.int .i64 i7∧e 9=.int .i64 i8→zqM SP (E SP (.loop b_Q7_1) ⟨e,f::S⟩)=.ok (.v (.bool r)) S
def zbM (r3:List UInt8) (r4:List Node) (i8:Int) (i13:Int) (i14:Int) (r:Bool):Prop:=∀ (S:Sto) (e:Nat→PV) (f:Fr),e 5=.str r3∧e 6=.list 5 (r4.map eNode) false∧e 9=.int .i64 i8∧e 10=.int .i64 i13∧e 11=.int .i64 i14→zq5 SP (E SP (.loop b_Q7_2) ⟨e,f::S⟩)=.ok (.v (.bool r)) S
theorem zeo (which:UInt8) (r3:List UInt8) (r4:List Node) (i7:Int) (i8:Int) (r:Bool) (T :
  ((i8 < (r3.length:Int)) →
  (0≤i8) ∧
  ∃ (b10:UInt8),(r3[i8.toNat]?=some b10) ∧
  (((b10.toNat:Int)=34) →
   ∃ (r11:Bool),(zbl r11) ∧
   r11=r) ∧
  (¬ ((b10.toNat:Int)=34) →
   (((b10.toNat:Int)=40) →
    ((0 < i8) →
     (I64 (i8 - 1)) ∧
     (0≤(i8 - 1)) ∧
     ∃ (b12:UInt8),(r3[(i8 - 1).toNat]?=some b12) ∧
     ((97≤(b12.toNat:Int)) →
      (I64 (i8 - 1)) ∧
      (((b12.toNat:Int)≤122) →
       (I64 (i8+1)) ∧
       zca which r3 r4 i7 (i8+1) r) ∧
      (¬ ((b12.toNat:Int)≤122) →
       (I64 (i7+1)) ∧
       (I64 ((i7+1) - 1)) ∧
       (I64 ((which.toNat:Int))) ∧
       ((((i7+1) - 1)=((which.toNat:Int).tmod 6)) →
        zbM r3 r4 i8 0 i8 r) ∧
       (¬ (((i7+1) - 1)=((which.toNat:Int).tmod 6)) →
        (I64 (i8+1)) ∧
        zca which r3 r4 (i7+1) (i8+1) r))) ∧
     (¬ (97≤(b12.toNat:Int)) →
      (I64 (i7+1)) ∧
      (I64 ((i7+1) - 1)) ∧
      (I64 ((which.toNat:Int))) ∧
      ((((i7+1) - 1)=((which.toNat:Int).tmod 6)) →
       zbM r3 r4 i8 0 i8 r) ∧
      (¬ (((i7+1) - 1)=((which.toNat:Int).tmod 6)) →
       (I64 (i8+1)) ∧
       zca which r3 r4 (i7+1) (i8+1) r))) ∧
    (¬ (0 < i8) →
     (I64 (i7+1)) ∧
     (I64 ((i7+1) - 1)) ∧
     (I64 ((which.toNat:Int))) ∧
     ((((i7+1) - 1)=((which.toNat:Int).tmod 6)) →
      zbM r3 r4 i8 0 i8 r) ∧
     (¬ (((i7+1) - 1)=((which.toNat:Int).tmod 6)) →
      (I64 (i8+1)) ∧
      zca which r3 r4 (i7+1) (i8+1) r))) ∧
   (¬ ((b10.toNat:Int)=40) →
    (I64 (i8+1)) ∧
    zca which r3 r4 i7 (i8+1) r))) ∧
 (¬ (i8 < (r3.length:Int)) →
  ∃ (r15:Bool),(zbl r15) ∧
  r15=r)):zca which r3 r4 i7 i8 r:=by
 intro S e f h
 unfold zqM
 rw[zS]
 have F:=zsU
 exact rn (aa h<|F) T
theorem zc1 (r3:List UInt8) (r4:List Node) (i8:Int) (i13:Int) (i14:Int) (r:Bool) (T :
  ((i14 < (r3.length:Int)) →
  (0≤i14) ∧
  ∃ (b16:UInt8),(r3[i14.toNat]?=some b16) ∧
  (((b16.toNat:Int)=40) →
   (I64 (i13+1)) ∧
   (((i13+1)=0) →
    (((r3.length:Int)≤i14) →
     false=r) ∧
    (¬ ((r3.length:Int)≤i14) →
     (0≤i8)∧(i8.toNat≤r3.length) ∧
     (I64 (i8+1)) ∧
     (0≤(i8+1))∧(0≤i14)∧((i8+1).toNat≤i14.toNat)∧(i14.toNat≤r3.length) ∧
     ((r3.take (i8.toNat)).length+(((r3.drop ((i8+1).toNat)).take (i14.toNat - ((i8+1).toNat))).length)≤zaf) ∧
     (I64 (i14+1)) ∧
     (0≤(i14+1))∧((i14+1).toNat≤r3.length) ∧
     ((r3.take (i8.toNat)).length+(((r3.drop ((i8+1).toNat)).take (i14.toNat - ((i8+1).toNat))).length)+(((r3.drop ((i14+1).toNat)).take (r3.length - ((i14+1).toNat))).length)≤zaf) ∧
     ∃ (r17:List Node) (r18:Int),(zaI (((r3.take (i8.toNat))++((r3.drop ((i8+1).toNat)).take (i14.toNat - ((i8+1).toNat))))++((r3.drop ((i14+1).toNat)).take (r3.length - ((i14+1).toNat)))) r17 r18) ∧
     ∃ (r19:Int),(zfL r18 r19) ∧
     ((r19=0) →
      ∃ (r20:Bool),(zfO r4 r17 r20) ∧
      ((r20=true) →
       false=r) ∧
      (¬ (r20=true) →
       ∃ (r21:Bool),(zbl r21) ∧
       r21=r)) ∧
     (¬ (r19=0) →
      ∃ (r22:Bool),(zbl r22) ∧
      r22=r))) ∧
   (¬ ((i13+1)=0) →
    (I64 (i14+1)) ∧
    zbM r3 r4 i8 (i13+1) (i14+1) r)) ∧
  (¬ ((b16.toNat:Int)=40) →
   (((b16.toNat:Int)=41) →
    (I64 (i13 - 1)) ∧
    (((i13 - 1)=0) →
     (((r3.length:Int)≤i14) →
      false=r) ∧
     (¬ ((r3.length:Int)≤i14) →
      (0≤i8)∧(i8.toNat≤r3.length) ∧
      (I64 (i8+1)) ∧
      (0≤(i8+1))∧(0≤i14)∧((i8+1).toNat≤i14.toNat)∧(i14.toNat≤r3.length) ∧
      ((r3.take (i8.toNat)).length+(((r3.drop ((i8+1).toNat)).take (i14.toNat - ((i8+1).toNat))).length)≤zaf) ∧
      (I64 (i14+1)) ∧
      (0≤(i14+1))∧((i14+1).toNat≤r3.length) ∧
      ((r3.take (i8.toNat)).length+(((r3.drop ((i8+1).toNat)).take (i14.toNat - ((i8+1).toNat))).length)+(((r3.drop ((i14+1).toNat)).take (r3.length - ((i14+1).toNat))).length)≤zaf) ∧
      ∃ (r23:List Node) (r24:Int),(zaI (((r3.take (i8.toNat))++((r3.drop ((i8+1).toNat)).take (i14.toNat - ((i8+1).toNat))))++((r3.drop ((i14+1).toNat)).take (r3.length - ((i14+1).toNat)))) r23 r24) ∧
      ∃ (r25:Int),(zfL r24 r25) ∧
      ((r25=0) →
       ∃ (r26:Bool),(zfO r4 r23 r26) ∧
       ((r26=true) →
        false=r) ∧
       (¬ (r26=true) →
        ∃ (r27:Bool),(zbl r27) ∧
        r27=r)) ∧
      (¬ (r25=0) →
       ∃ (r28:Bool),(zbl r28) ∧
       r28=r))) ∧
    (¬ ((i13 - 1)=0) →
     (I64 (i14+1)) ∧
     zbM r3 r4 i8 (i13 - 1) (i14+1) r)) ∧
   (¬ ((b16.toNat:Int)=41) →
    ((i13=0) →
     (((r3.length:Int)≤i14) →
      false=r) ∧
     (¬ ((r3.length:Int)≤i14) →
      (0≤i8)∧(i8.toNat≤r3.length) ∧
      (I64 (i8+1)) ∧
      (0≤(i8+1))∧(0≤i14)∧((i8+1).toNat≤i14.toNat)∧(i14.toNat≤r3.length) ∧
      ((r3.take (i8.toNat)).length+(((r3.drop ((i8+1).toNat)).take (i14.toNat - ((i8+1).toNat))).length)≤zaf) ∧
      (I64 (i14+1)) ∧
      (0≤(i14+1))∧((i14+1).toNat≤r3.length) ∧
      ((r3.take (i8.toNat)).length+(((r3.drop ((i8+1).toNat)).take (i14.toNat - ((i8+1).toNat))).length)+(((r3.drop ((i14+1).toNat)).take (r3.length - ((i14+1).toNat))).length)≤zaf) ∧
      ∃ (r29:List Node) (r30:Int),(zaI (((r3.take (i8.toNat))++((r3.drop ((i8+1).toNat)).take (i14.toNat - ((i8+1).toNat))))++((r3.drop ((i14+1).toNat)).take (r3.length - ((i14+1).toNat)))) r29 r30) ∧
      ∃ (r31:Int),(zfL r30 r31) ∧
      ((r31=0) →
       ∃ (r32:Bool),(zfO r4 r29 r32) ∧
       ((r32=true) →
        false=r) ∧
       (¬ (r32=true) →
        ∃ (r33:Bool),(zbl r33) ∧
        r33=r)) ∧
      (¬ (r31=0) →
       ∃ (r34:Bool),(zbl r34) ∧
       r34=r))) ∧
    (¬ (i13=0) →
     (I64 (i14+1)) ∧
     zbM r3 r4 i8 i13 (i14+1) r)))) ∧
 (¬ (i14 < (r3.length:Int)) →
  (((r3.length:Int)≤i14) →
   false=r) ∧
  (¬ ((r3.length:Int)≤i14) →
   (0≤i8)∧(i8.toNat≤r3.length) ∧
   (I64 (i8+1)) ∧
   (0≤(i8+1))∧(0≤i14)∧((i8+1).toNat≤i14.toNat)∧(i14.toNat≤r3.length) ∧
   ((r3.take (i8.toNat)).length+(((r3.drop ((i8+1).toNat)).take (i14.toNat - ((i8+1).toNat))).length)≤zaf) ∧
   (I64 (i14+1)) ∧
   (0≤(i14+1))∧((i14+1).toNat≤r3.length) ∧
   ((r3.take (i8.toNat)).length+(((r3.drop ((i8+1).toNat)).take (i14.toNat - ((i8+1).toNat))).length)+(((r3.drop ((i14+1).toNat)).take (r3.length - ((i14+1).toNat))).length)≤zaf) ∧
   ∃ (r35:List Node) (r36:Int),(zaI (((r3.take (i8.toNat))++((r3.drop ((i8+1).toNat)).take (i14.toNat - ((i8+1).toNat))))++((r3.drop ((i14+1).toNat)).take (r3.length - ((i14+1).toNat)))) r35 r36) ∧
   ∃ (r37:Int),(zfL r36 r37) ∧
   ((r37=0) →
    ∃ (r38:Bool),(zfO r4 r35 r38) ∧
    ((r38=true) →
     false=r) ∧
    (¬ (r38=true) →
     ∃ (r39:Bool),(zbl r39) ∧
     r39=r)) ∧
   (¬ (r37=0) →
    ∃ (r40:Bool),(zbl r40) ∧
    r40=r)))):zbM r3 r4 i8 i13 i14 r:=by
 intro S e f h
 unfold zq5
 rw[zS]
 have F:=zsU
 exact rn (aa h<|F) T
theorem zvn (ns:List UInt8) (which:UInt8) (r:Bool) (T :
  ((12 < (ns.length:Int)) →
  ∃ (r1:Bool),(zbl r1) ∧
  r1=r) ∧
 (¬ (12 < (ns.length:Int)) →
  ∃ (r2:List Node),(zpV ns r2) ∧
  ∃ (r3:List UInt8),(zjf r2 r3) ∧
  ∃ (r4:List Node) (r5:Int),(zaI r3 r4 r5) ∧
  ∃ (r6:Int),(zfL r5 r6) ∧
  ((r6=0) →
   zca which r3 r4 0 0 r) ∧
  (¬ (r6=0) →
   ∃ (r9:Bool),(zbl r9) ∧
   r9=r))):ztZ ns which r:=by
 intro S
 rw[za zyv _ _ rfl]
 have F:=zsU
 exact rn F T
end Go.Proofs.YtfbcnpbhhooapaaGreatDoor.M
namespace Go.Proofs.YtfbcnpbhhooapaaGreatDoor.M
open Go Classical
def zdC (r:List Node):Prop:=r=[]∨TR r∧(exS r).length≤6000∧∀ n ∈ r,NP n
structure MJ (l:List Node) (st:List Int):Prop where
 mi:MI l st
 le:st.length≤l.length
 e:l≠[]→st≠[]
theorem zrx {l:List Node} {st:List Int} (h:MJ l st) (hl:l.length≤80) (h1:¬ 1 < (st.length:Int)):zdC l:=by
 by_cases he:l=[]
 ·exact .inl he
 have h2:=h.e he
 have h3:st.length≠0:=fun e=>h2 (List.length_eq_zero_iff.1 e)
 exact .inr (h.mi.tree (by omega) hl)
theorem zoI {l:List Node} {st:List Int} (h:MJ l st) (h1:1 < (st.length:Int)):∃ a b:Int,st[((st.length:Int) - 2).toNat]?=some a∧st[((st.length:Int) - 1).toNat]?=some b∧MJ (l++[Node.mk 19 0 [] [] [a,b]]) (st.take ((st.length:Int) - 2).toNat++[((l.length+1:Nat):Int) - 1]):=by
 have e2:((st.length:Int) - 2).toNat=st.length - 2:=by omega
 have e1:((st.length:Int) - 1).toNat=st.length - 1:=by omega
 have hd:st.drop (st.length - 2)=[st[st.length - 2]'(by omega),st[st.length - 1]'(by omega)]:=by
  rw[List.drop_eq_getElem_cons (by omega),List.drop_eq_getElem_cons (by omega),List.drop_of_length_le (by omega)]
  simp only[show st.length - 2+1=st.length - 1 by omega]
 refine⟨st[st.length - 2]'(by omega),st[st.length - 1]'(by omega),by rw[e2];exact List.getElem?_eq_getElem _,by rw[e1];exact List.getElem?_eq_getElem _,?_⟩
 have hm:MN (Node.mk 19 0 [] [] [st[st.length - 2]'(by omega),st[st.length - 1]'(by omega)]):=zb5 (by decide) (by decide) (.inl (by simp[kdS])) (by simp)
 have:=h.mi.snoc (k:=2) (by omega) hm hd.symm
 rw[e2,show (((l.length+1:Nat):Int) - 1)=(l.length:Int) by omega]
 refine⟨this,?_,fun _=>by simp⟩
 have:=h.le
 simp only[List.length_append,List.length_take,List.length_cons,List.length_nil]
 omega
theorem znn {st:List Int} (h1:1 < (st.length:Int)) (x:Int):(st.take ((st.length:Int) - 2).toNat++[x]).length+1=st.length:=by
 simp only[List.length_append,List.length_take,List.length_cons,List.length_nil]
 omega
theorem zo8:∀ (m:Nat) (l:List Node) (st:List Int),st.length≤m→MJ l st→l.length+st.length≤80→∃ r,zdI l st r∧zdC r
 | m,l,st,hm,h,hl=>by
  by_cases h1:1 < (st.length:Int)
  ·match m,hm with
   | 0,hm=>omega
   | m+1,hm =>
    obtain⟨a,b,ha,hb,hj⟩:=zoI h h1
    have hx:=znn h1 (((l.length+1:Nat):Int) - 1)
    obtain⟨r,hr,hp⟩:=zo8 m _ _ (by omega) hj (by rw[List.length_append];simp only[List.length_cons,List.length_nil];omega)
    exact⟨r,zfw _ _ _ ⟨fun _=>⟨⟨by omega,by omega⟩,by omega,by omega,a,ha,⟨by omega,by omega⟩,by omega,by omega,b,hb,by simp only[bigRow];omega,⟨by omega,by omega⟩,⟨by omega,by omega⟩,by omega,by omega,⟨by omega,by omega⟩,by simp only[bigRow];omega,hr⟩,fun hf=>absurd h1 hf⟩,hp⟩
  exact⟨l,zfw _ _ _ ⟨fun hf=>absurd hf h1,fun _=>rfl⟩,zrx h (by omega) h1⟩
theorem zoX (l:List Node) (st:List Int) (h:MJ l st) (hl:l.length+st.length≤80):∃ r,zeW l st r∧zdC r:=by
 by_cases h1:1 < (st.length:Int)
 ·obtain⟨a,b,ha,hb,hj⟩:=zoI h h1
  have hx:=znn h1 (((l.length+1:Nat):Int) - 1)
  obtain⟨r,hr,hp⟩:=zo8 _ _ _ (Nat.le_refl _) hj (by rw[List.length_append];simp only[List.length_cons,List.length_nil];omega)
  exact⟨r,zfq _ _ _ ⟨fun _=>⟨⟨by omega,by omega⟩,by omega,by omega,a,ha,⟨by omega,by omega⟩,by omega,by omega,b,hb,by simp only[bigRow];omega,⟨by omega,by omega⟩,⟨by omega,by omega⟩,by omega,by omega,⟨by omega,by omega⟩,by simp only[bigRow];omega,hr⟩,fun hf=>absurd h1 hf⟩,hp⟩
 exact⟨l,zfq _ _ _ ⟨fun hf=>absurd hf h1,fun _=>rfl⟩,zrx h (by omega) h1⟩
theorem zog {l:List Node} {st:List Int} (h:MJ l st) {k:Int} (h0:0≤k) (hk:k≤(st.length:Int)) (f:List Int→Node) (hf:∀ ks:List Int,(ks.length:Int)=k→MN (f ks)∧(f ks).Kids=ks):MJ (l++[f ((st.drop ((st.length:Int) - k).toNat).take (st.length - ((st.length:Int) - k).toNat))]) (st.take ((st.length:Int) - k).toNat++[(l.length:Int)]):=by
 have e:((st.length:Int) - k).toNat=st.length - k.toNat:=by omega
 rw[e,List.take_of_length_le (l:=st.drop _) (by rw[List.length_drop];omega)]
 have hlen:(((st.drop (st.length - k.toNat)).length:Nat):Int)=k:=by rw[List.length_drop];omega
 obtain⟨h1,h2⟩:=hf _ hlen
 refine⟨h.mi.snoc (k:=k.toNat) (by omega) h1 h2,?_,fun _=>by simp⟩
 have:=h.le
 simp only[List.length_append,List.length_take,List.length_cons,List.length_nil]
 omega
theorem zh {l:List Node} {st:List Int} (hl:l.length < 40) (hs:st.length≤40) {k i:Int} (h0:0≤k) (hk:k≤(st.length:Int)) (hi:I64 (i+1)) {P:Prop} (h:P) :
  (I64 ((st.length:Int) - k))∧(0≤((st.length:Int) - k))∧(((st.length:Int) - k).toNat≤st.length)∧(bigRow (((st.drop (((st.length:Int) - k).toNat)).take (st.length - (((st.length:Int) - k).toNat))).length) 8)∧(I64 ((st.length:Int) - k))∧(I64 ((st.length:Int) - k))∧(0≤((st.length:Int) - k))∧(((st.length:Int) - k).toNat≤st.length)∧(bigRow (((st.length:Int) - k).toNat+1) 8)∧(bigRow (l.length+1) 80)∧(I64 (i+1))∧P:=by
 refine⟨⟨by omega,by omega⟩,by omega,by omega,?_,⟨by omega,by omega⟩,⟨by omega,by omega⟩,by omega,by omega,?_,?_,hi,h⟩
 ·simp only[bigRow,List.length_take,List.length_drop];omega
 ·simp only[bigRow];omega
 simp only[bigRow];omega
theorem zbd {α:Type} (T:List α) {i:Int} (h0:0≤i) (h1:i < (T.length:Int)):∃ v,T[i.toNat]?=some v∧v ∈ T:=by
 have h:i.toNat < T.length:=by omega
 exact⟨T[i.toNat],List.getElem?_eq_getElem h,List.getElem_mem h⟩
theorem ziU {ks:List Int} (h:(ks.length:Int)=0):ks=[]:=List.length_eq_zero_iff.1 (by omega)
section
variable {v:Int} (h0:0≤v) (h1:v≤255)
include h0 h1
theorem zum (hv:v.tdiv 3=v / 3):∀ ks:List Int,(ks.length:Int)=2→MN (Node.mk (11+((v.tdiv 3).tmod 13)) 0 [] [] ks)∧(Node.mk (11+((v.tdiv 3).tmod 13)) 0 [] [] ks).Kids=ks:=fun ks hk=>by
 have:(v.tdiv 3).tmod 13=(v / 3) % 13:=by rw[hv];exact Int.tmod_eq_emod_of_nonneg (by omega)
 rw[this]
 exact⟨zb5 (by omega) (by omega) (.inl (by rw[zlQ (by omega) (by omega)];omega)) (by omega),rfl⟩
theorem zlW (hv:v.tdiv 11=v / 11):∀ ks:List Int,(ks.length:Int)=1→MN (Node.mk (8+((v.tdiv 11).tmod 2)) 0 [] [] ks)∧(Node.mk (8+((v.tdiv 11).tmod 2)) 0 [] [] ks).Kids=ks:=fun ks hk=>by
 have:(v.tdiv 11).tmod 2=(v / 11) % 2:=by rw[hv];exact Int.tmod_eq_emod_of_nonneg (by omega)
 rw[this]
 have h2:8+v / 11 % 2=8∨8+v / 11 % 2=9:=by omega
 exact⟨zb5 (by omega) (by omega) (.inl (by rcases h2 with h | h <;> rw[h] <;> simp[kdS] <;> omega)) (by omega),rfl⟩
theorem zaW:∀ ks:List Int,(ks.length:Int)=0→MN (Node.mk 1 (v.tmod 30) [] [] ks)∧(Node.mk 1 (v.tmod 30) [] [] ks).Kids=ks:=fun ks hk=>by
 have:v.tmod 30=v % 30:=Int.tmod_eq_emod_of_nonneg (by omega)
 rw[this,ziU hk]
 exact⟨ztV (by omega) (by omega),rfl⟩
theorem zhw (hv:v.tdiv 11=v / 11):∀ ks:List Int,(ks.length:Int)=0→MN (Node.mk 3 ((v.tdiv 11).tmod 2) [] [] ks)∧(Node.mk 3 ((v.tdiv 11).tmod 2) [] [] ks).Kids=ks:=fun ks hk=>by
 have:(v.tdiv 11).tmod 2=(v / 11) % 2:=by rw[hv];exact Int.tmod_eq_emod_of_nonneg (by omega)
 rw[this,ziU hk]
 exact⟨zqJ (by omega),rfl⟩
end
theorem zdw {k n:Int} (h:k=7∧n=2∨k=10∧n=3∨k=6∧n≤3):∀ ks:List Int,(ks.length:Int)=n→MN (Node.mk k 0 [] [] ks)∧(Node.mk k 0 [] [] ks).Kids=ks:=fun ks hk=>by
 rcases h with⟨rfl,rfl⟩ | ⟨rfl,rfl⟩ | ⟨rfl,h⟩
 ·exact⟨zb5 (by decide) (by decide) (.inl (by simp only[kdS];simp;omega)) (by omega),rfl⟩
 ·exact⟨zb5 (by decide) (by decide) (.inl (by simp only[kdS];simp;omega)) (by omega),rfl⟩
 exact⟨zb5 (by decide) (by decide) (.inr rfl) (by omega),rfl⟩
theorem zhr {s:List UInt8} (h:s ∈ zaQ) {n:Int} (hn:n≤3):∀ ks:List Int,(ks.length:Int)=n→MN (Node.mk 5 0 s [] ks)∧(Node.mk 5 0 s [] ks).Kids=ks:=fun ks hk=>⟨zro h (by omega),rfl⟩
theorem zji {p:List Part} (h:p ∈ zaP):∀ ks:List Int,(ks.length:Int)=0→MN (Node.mk 2 0 [] p ks)∧(Node.mk 2 0 [] p ks).Kids=ks:=fun ks hk=>by
 rw[ziU hk];exact⟨zt3 h,rfl⟩
theorem zjJ {s:List UInt8} (h:s ∈ za7):∀ ks:List Int,(ks.length:Int)=0→MN (Node.mk 4 0 s [] ks)∧(Node.mk 4 0 s [] ks).Kids=ks:=fun ks hk=>by
 rw[ziU hk];exact⟨ztY h,rfl⟩
theorem zo5 (ns:List UInt8):∀ (m:Nat) (i:Int) (l:List Node) (st:List Int),i=(l.length:Int)→m+l.length=40→MJ l st→∃ r,zd ns i l st r∧zdC r
 | m,i,l,st,hil,hm,h=>by
  have hs:st.length≤40:=by have:=h.le;omega
  by_cases hi:i < (ns.length:Int)
  rotate_left
  ·obtain⟨r,hr,hp⟩:=zoX l st h (by omega)
   exact⟨r,zj _ _ _ _ _ ⟨fun hf=>absurd hf hi,fun _=>hr⟩,hp⟩
  match m,hm with
  | 0,hm =>
   obtain⟨r,hr,hp⟩:=zoX l st h (by omega)
   exact⟨r,zj _ _ _ _ _ ⟨fun _=>⟨fun hf=>by omega,fun _=>hr⟩,fun hf=>absurd hi hf⟩,hp⟩
  | m+1,hm =>
  have key:∀ {k:Int} (f:List Int→Node),0≤k→k≤(st.length:Int)→(∀ ks:List Int,(ks.length:Int)=k→MN (f ks)∧(f ks).Kids=ks)→∃ r,zd ns (i+1) (l++[f ((st.drop ((st.length:Int) - k).toNat).take (st.length - ((st.length:Int) - k).toNat))]) (st.take ((st.length:Int) - k).toNat++[(l.length:Int)]) r∧zdC r:=fun f h0 hk hf=>zo5 ns m (i+1) _ _ (by rw[List.length_append];simp only[List.length_cons,List.length_nil];omega) (by rw[List.length_append];simp only[List.length_cons,List.length_nil];omega) (zog h h0 hk f hf)
  obtain⟨v,hv⟩:∃ v,ns[i.toNat]?=some v:=⟨_,List.getElem?_eq_getElem (show i.toNat < ns.length by omega)⟩
  have x0:(0:Int)≤(v.toNat:Int):=by omega
  have x1:(v.toNat:Int)≤255:=by have:=v.toNat_lt;omega
  generalize hx:(v.toNat:Int)=x at x0 x1
  have d11:x.tdiv 11=x / 11:=Int.tdiv_eq_ediv_of_nonneg x0
  have d3:x.tdiv 3=x / 3:=Int.tdiv_eq_ediv_of_nonneg x0
  have d88:x.tdiv 88=x / 88:=Int.tdiv_eq_ediv_of_nonneg x0
  have m11:x.tmod 11=x % 11:=Int.tmod_eq_emod_of_nonneg x0
  have y4:(x.tdiv 11).tmod 4=(x / 11) % 4:=by rw[d11];exact Int.tmod_eq_emod_of_nonneg (by omega)
  have y8:(x.tdiv 11).tmod 8=(x / 11) % 8:=by rw[d11];exact Int.tmod_eq_emod_of_nonneg (by omega)
  have y2:(x.tdiv 11).tmod 2=(x / 11) % 2:=by rw[d11];exact Int.tmod_eq_emod_of_nonneg (by omega)
  have y13:(x.tdiv 3).tmod 13=(x / 3) % 13:=by rw[d3];exact Int.tmod_eq_emod_of_nonneg (by omega)
  have x64:I64 x:=⟨by omega,by omega⟩
  have q64:I64 (x.tdiv 11):=⟨by omega,by omega⟩
  have t64:I64 (x.tdiv 3):=⟨by omega,by omega⟩
  have e64:I64 (x.tdiv 88):=⟨by omega,by omega⟩
  have f64:I64 (1+x.tdiv 88):=⟨by omega,by omega⟩
  have u64:I64 (8+((x.tdiv 11).tmod 2)):=⟨by omega,by omega⟩
  have o64:I64 (11+((x.tdiv 3).tmod 13)):=⟨by omega,by omega⟩
  have i64:I64 (i+1):=⟨by omega,by omega⟩
  by_cases a:x.tmod 3=0
  ·by_cases b:2≤(st.length:Int)
   ·obtain⟨r,hr,hp⟩:=key (k:=2) (fun ks=>Node.mk (11+((x.tdiv 3).tmod 13)) 0 [] [] ks) (by decide) b (zum x0 x1 d3)
    refine⟨r,zj _ _ _ _ _ ⟨fun _=>⟨fun _=>⟨by omega,v,hv,by rw[hx];exact x64,?_⟩,fun hf=>absurd (by omega) hf⟩,fun hf=>absurd hi hf⟩,hp⟩
    simp only[hx,eq_true a,eq_true b,true_implies,not_true_eq_false,false_implies,and_true,true_and,not_false_eq_true,Int.reduceEq,forall_const,implies_true]
    exact⟨t64,o64,(zh (by omega) hs (by omega) (by omega) i64 hr)⟩
   have cs:x.tmod 11=1∨x.tmod 11=2∨x.tmod 11=3∨x.tmod 11=4∨x.tmod 11=5∨x.tmod 11=6∨x.tmod 11=7∨x.tmod 11=8∨(x.tmod 11≠1∧x.tmod 11≠2∧x.tmod 11≠3∧x.tmod 11≠4∧x.tmod 11≠5∧x.tmod 11≠6∧x.tmod 11≠7∧x.tmod 11≠8):=by omega
   rcases cs with c | c | c | c | c | c | c | c | c
   ·by_cases d:1≤(st.length:Int)
    ·obtain⟨r,hr,hp⟩:=key (k:=1) (fun ks=>Node.mk (8+((x.tdiv 11).tmod 2)) 0 [] [] ks) (by decide) d (zlW x0 x1 d11)
     refine⟨r,zj _ _ _ _ _ ⟨fun _=>⟨fun _=>⟨by omega,v,hv,by rw[hx];exact x64,?_⟩,fun hf=>absurd (by omega) hf⟩,fun hf=>absurd hi hf⟩,hp⟩
     simp only[hx,eq_true d,c,eq_true a,eq_false b,true_implies,not_true_eq_false,false_implies,and_true,true_and,not_false_eq_true,Int.reduceEq,forall_const,implies_true]
     exact⟨q64,u64,(zh (by omega) hs (by omega) (by omega) i64 hr)⟩
    obtain⟨r,hr,hp⟩:=key (k:=0) (fun ks=>Node.mk 1 (x.tmod 30) [] [] ks) (by decide) (by omega) (zaW x0 x1)
    refine⟨r,zj _ _ _ _ _ ⟨fun _=>⟨fun _=>⟨by omega,v,hv,by rw[hx];exact x64,?_⟩,fun hf=>absurd (by omega) hf⟩,fun hf=>absurd hi hf⟩,hp⟩
    simp only[hx,eq_false d,c,eq_true a,eq_false b,true_implies,not_true_eq_false,false_implies,and_true,true_and,not_false_eq_true,Int.reduceEq,forall_const,implies_true]
    exact (zh (by omega) hs (by omega) (by omega) i64 hr)
   ·by_cases d:3≤(st.length:Int)
    ·obtain⟨r,hr,hp⟩:=key (k:=3) (fun ks=>Node.mk 10 0 [] [] ks) (by decide) d (zdw (.inr (.inl ⟨rfl,rfl⟩)))
     refine⟨r,zj _ _ _ _ _ ⟨fun _=>⟨fun _=>⟨by omega,v,hv,by rw[hx];exact x64,?_⟩,fun hf=>absurd (by omega) hf⟩,fun hf=>absurd hi hf⟩,hp⟩
     simp only[hx,eq_true d,c,eq_true a,eq_false b,true_implies,not_true_eq_false,false_implies,and_true,true_and,not_false_eq_true,Int.reduceEq,forall_const,implies_true]
     exact (zh (by omega) hs (by omega) (by omega) i64 hr)
    obtain⟨r,hr,hp⟩:=key (k:=0) (fun ks=>Node.mk 1 (x.tmod 30) [] [] ks) (by decide) (by omega) (zaW x0 x1)
    refine⟨r,zj _ _ _ _ _ ⟨fun _=>⟨fun _=>⟨by omega,v,hv,by rw[hx];exact x64,?_⟩,fun hf=>absurd (by omega) hf⟩,fun hf=>absurd hi hf⟩,hp⟩
    simp only[hx,eq_false d,c,eq_true a,eq_false b,true_implies,not_true_eq_false,false_implies,and_true,true_and,not_false_eq_true,Int.reduceEq,forall_const,implies_true]
    exact (zh (by omega) hs (by omega) (by omega) i64 hr)
   ·obtain⟨r,hr,hp⟩:=key (k:=0) (fun ks=>Node.mk 1 (x.tmod 30) [] [] ks) (by decide) (by omega) (zaW x0 x1)
    refine⟨r,zj _ _ _ _ _ ⟨fun _=>⟨fun _=>⟨by omega,v,hv,by rw[hx];exact x64,?_⟩,fun hf=>absurd (by omega) hf⟩,fun hf=>absurd hi hf⟩,hp⟩
    simp only[hx,c,eq_true a,eq_false b,true_implies,not_true_eq_false,false_implies,and_true,true_and,not_false_eq_true,Int.reduceEq,forall_const,implies_true]
    exact (zh (by omega) hs (by omega) (by omega) i64 hr)
   ·obtain⟨r,hr,hp⟩:=key (k:=(if ((x.tdiv 11).tmod 4) < (st.length:Int) then ((x.tdiv 11).tmod 4) else (st.length:Int))) (fun ks=>Node.mk 6 0 [] [] ks) (by split <;> omega) (by split <;> omega) (zdw (.inr (.inr ⟨rfl,by split <;> omega⟩)))
    refine⟨r,zj _ _ _ _ _ ⟨fun _=>⟨fun _=>⟨by omega,v,hv,by rw[hx];exact x64,?_⟩,fun hf=>absurd (by omega) hf⟩,fun hf=>absurd hi hf⟩,hp⟩
    simp only[hx,c,eq_true a,eq_false b,true_implies,not_true_eq_false,false_implies,and_true,true_and,not_false_eq_true,Int.reduceEq,forall_const,implies_true]
    exact⟨q64,(zh (by omega) hs (by split <;> omega) (by split <;> omega) i64 hr)⟩
   ·obtain⟨s,hs1,hs2⟩:=zbd zaQ (i:=(x.tdiv 11).tmod 8) (by omega) (by simp only[zaQ,List.length_cons,List.length_nil];omega)
    obtain⟨r,hr,hp⟩:=key (k:=(if (1+(x.tdiv 88)) < (st.length:Int) then (1+(x.tdiv 88)) else (st.length:Int))) (fun ks=>Node.mk 5 0 s [] ks) (by split <;> omega) (by split <;> omega) (zhr hs2 (by split <;> omega))
    refine⟨r,zj _ _ _ _ _ ⟨fun _=>⟨fun _=>⟨by omega,v,hv,by rw[hx];exact x64,?_⟩,fun hf=>absurd (by omega) hf⟩,fun hf=>absurd hi hf⟩,hp⟩
    simp only[hx,c,eq_true a,eq_false b,true_implies,not_true_eq_false,false_implies,and_true,true_and,not_false_eq_true,Int.reduceEq,forall_const,implies_true]
    exact⟨q64,by omega,s,hs1,e64,f64,(zh (by omega) hs (by split <;> omega) (by split <;> omega) i64 hr)⟩
   ·obtain⟨s,hs1,hs2⟩:=zbd zaP (i:=(x.tdiv 11).tmod 4) (by omega) (by simp only[zaP,List.length_cons,List.length_nil];omega)
    obtain⟨r,hr,hp⟩:=key (k:=0) (fun ks=>Node.mk 2 0 [] s ks) (by decide) (by omega) (zji hs2)
    refine⟨r,zj _ _ _ _ _ ⟨fun _=>⟨fun _=>⟨by omega,v,hv,by rw[hx];exact x64,?_⟩,fun hf=>absurd (by omega) hf⟩,fun hf=>absurd hi hf⟩,hp⟩
    simp only[hx,c,eq_true a,eq_false b,true_implies,not_true_eq_false,false_implies,and_true,true_and,not_false_eq_true,Int.reduceEq,forall_const,implies_true]
    exact⟨q64,by omega,s,hs1,(zh (by omega) hs (by omega) (by omega) i64 hr)⟩
   ·obtain⟨r,hr,hp⟩:=key (k:=0) (fun ks=>Node.mk 3 ((x.tdiv 11).tmod 2) [] [] ks) (by decide) (by omega) (zhw x0 x1 d11)
    refine⟨r,zj _ _ _ _ _ ⟨fun _=>⟨fun _=>⟨by omega,v,hv,by rw[hx];exact x64,?_⟩,fun hf=>absurd (by omega) hf⟩,fun hf=>absurd hi hf⟩,hp⟩
    simp only[hx,c,eq_true a,eq_false b,true_implies,not_true_eq_false,false_implies,and_true,true_and,not_false_eq_true,Int.reduceEq,forall_const,implies_true]
    exact⟨q64,(zh (by omega) hs (by omega) (by omega) i64 hr)⟩
   ·obtain⟨s,hs1,hs2⟩:=zbd za7 (i:=(x.tdiv 11).tmod 4) (by omega) (by simp only[za7,List.length_cons,List.length_nil];omega)
    obtain⟨r,hr,hp⟩:=key (k:=0) (fun ks=>Node.mk 4 0 s [] ks) (by decide) (by omega) (zjJ hs2)
    refine⟨r,zj _ _ _ _ _ ⟨fun _=>⟨fun _=>⟨by omega,v,hv,by rw[hx];exact x64,?_⟩,fun hf=>absurd (by omega) hf⟩,fun hf=>absurd hi hf⟩,hp⟩
    simp only[hx,c,eq_true a,eq_false b,true_implies,not_true_eq_false,false_implies,and_true,true_and,not_false_eq_true,Int.reduceEq,forall_const,implies_true]
    exact⟨q64,by omega,s,hs1,(zh (by omega) hs (by omega) (by omega) i64 hr)⟩
   obtain⟨c1,c2,c3,c4,c5,c6,c7,c8⟩:=c
   obtain⟨r,hr,hp⟩:=key (k:=0) (fun ks=>Node.mk 1 (x.tmod 30) [] [] ks) (by decide) (by omega) (zaW x0 x1)
   refine⟨r,zj _ _ _ _ _ ⟨fun _=>⟨fun _=>⟨by omega,v,hv,by rw[hx];exact x64,?_⟩,fun hf=>absurd (by omega) hf⟩,fun hf=>absurd hi hf⟩,hp⟩
   simp only[hx,eq_false c1,eq_false c2,eq_false c3,eq_false c4,eq_false c5,eq_false c6,eq_false c7,eq_false c8,eq_true a,eq_false b,true_implies,not_true_eq_false,false_implies,and_true,true_and,not_false_eq_true,Int.reduceEq,forall_const,implies_true]
   exact (zh (by omega) hs (by omega) (by omega) i64 hr)
  have cs:x.tmod 11=1∨x.tmod 11=2∨x.tmod 11=3∨x.tmod 11=4∨x.tmod 11=5∨x.tmod 11=6∨x.tmod 11=7∨x.tmod 11=8∨(x.tmod 11≠1∧x.tmod 11≠2∧x.tmod 11≠3∧x.tmod 11≠4∧x.tmod 11≠5∧x.tmod 11≠6∧x.tmod 11≠7∧x.tmod 11≠8):=by omega
  rcases cs with c | c | c | c | c | c | c | c | c
  ·by_cases d:1≤(st.length:Int)
   ·obtain⟨r,hr,hp⟩:=key (k:=1) (fun ks=>Node.mk (8+((x.tdiv 11).tmod 2)) 0 [] [] ks) (by decide) d (zlW x0 x1 d11)
    refine⟨r,zj _ _ _ _ _ ⟨fun _=>⟨fun _=>⟨by omega,v,hv,by rw[hx];exact x64,?_⟩,fun hf=>absurd (by omega) hf⟩,fun hf=>absurd hi hf⟩,hp⟩
    simp only[hx,eq_true d,c,eq_false a,true_implies,not_true_eq_false,false_implies,and_true,true_and,not_false_eq_true,Int.reduceEq,forall_const,implies_true]
    exact⟨q64,u64,(zh (by omega) hs (by omega) (by omega) i64 hr)⟩
   obtain⟨r,hr,hp⟩:=key (k:=0) (fun ks=>Node.mk 1 (x.tmod 30) [] [] ks) (by decide) (by omega) (zaW x0 x1)
   refine⟨r,zj _ _ _ _ _ ⟨fun _=>⟨fun _=>⟨by omega,v,hv,by rw[hx];exact x64,?_⟩,fun hf=>absurd (by omega) hf⟩,fun hf=>absurd hi hf⟩,hp⟩
   simp only[hx,eq_false d,c,eq_false a,true_implies,not_true_eq_false,false_implies,and_true,true_and,not_false_eq_true,Int.reduceEq,forall_const,implies_true]
   exact (zh (by omega) hs (by omega) (by omega) i64 hr)
  ·by_cases d:3≤(st.length:Int)
   ·obtain⟨r,hr,hp⟩:=key (k:=3) (fun ks=>Node.mk 10 0 [] [] ks) (by decide) d (zdw (.inr (.inl ⟨rfl,rfl⟩)))
    refine⟨r,zj _ _ _ _ _ ⟨fun _=>⟨fun _=>⟨by omega,v,hv,by rw[hx];exact x64,?_⟩,fun hf=>absurd (by omega) hf⟩,fun hf=>absurd hi hf⟩,hp⟩
    simp only[hx,eq_true d,c,eq_false a,true_implies,not_true_eq_false,false_implies,and_true,true_and,not_false_eq_true,Int.reduceEq,forall_const,implies_true]
    exact (zh (by omega) hs (by omega) (by omega) i64 hr)
   obtain⟨r,hr,hp⟩:=key (k:=0) (fun ks=>Node.mk 1 (x.tmod 30) [] [] ks) (by decide) (by omega) (zaW x0 x1)
   refine⟨r,zj _ _ _ _ _ ⟨fun _=>⟨fun _=>⟨by omega,v,hv,by rw[hx];exact x64,?_⟩,fun hf=>absurd (by omega) hf⟩,fun hf=>absurd hi hf⟩,hp⟩
   simp only[hx,eq_false d,c,eq_false a,true_implies,not_true_eq_false,false_implies,and_true,true_and,not_false_eq_true,Int.reduceEq,forall_const,implies_true]
   exact (zh (by omega) hs (by omega) (by omega) i64 hr)
  ·by_cases d:2≤(st.length:Int)
   ·obtain⟨r,hr,hp⟩:=key (k:=2) (fun ks=>Node.mk 7 0 [] [] ks) (by decide) d (zdw (.inl ⟨rfl,rfl⟩))
    refine⟨r,zj _ _ _ _ _ ⟨fun _=>⟨fun _=>⟨by omega,v,hv,by rw[hx];exact x64,?_⟩,fun hf=>absurd (by omega) hf⟩,fun hf=>absurd hi hf⟩,hp⟩
    simp only[hx,eq_true d,c,eq_false a,true_implies,not_true_eq_false,false_implies,and_true,true_and,not_false_eq_true,Int.reduceEq,forall_const,implies_true]
    exact (zh (by omega) hs (by omega) (by omega) i64 hr)
   obtain⟨r,hr,hp⟩:=key (k:=0) (fun ks=>Node.mk 1 (x.tmod 30) [] [] ks) (by decide) (by omega) (zaW x0 x1)
   refine⟨r,zj _ _ _ _ _ ⟨fun _=>⟨fun _=>⟨by omega,v,hv,by rw[hx];exact x64,?_⟩,fun hf=>absurd (by omega) hf⟩,fun hf=>absurd hi hf⟩,hp⟩
   simp only[hx,eq_false d,c,eq_false a,true_implies,not_true_eq_false,false_implies,and_true,true_and,not_false_eq_true,Int.reduceEq,forall_const,implies_true]
   exact (zh (by omega) hs (by omega) (by omega) i64 hr)
  ·obtain⟨r,hr,hp⟩:=key (k:=(if ((x.tdiv 11).tmod 4) < (st.length:Int) then ((x.tdiv 11).tmod 4) else (st.length:Int))) (fun ks=>Node.mk 6 0 [] [] ks) (by split <;> omega) (by split <;> omega) (zdw (.inr (.inr ⟨rfl,by split <;> omega⟩)))
   refine⟨r,zj _ _ _ _ _ ⟨fun _=>⟨fun _=>⟨by omega,v,hv,by rw[hx];exact x64,?_⟩,fun hf=>absurd (by omega) hf⟩,fun hf=>absurd hi hf⟩,hp⟩
   simp only[hx,c,eq_false a,true_implies,not_true_eq_false,false_implies,and_true,true_and,not_false_eq_true,Int.reduceEq,forall_const,implies_true]
   exact⟨q64,(zh (by omega) hs (by split <;> omega) (by split <;> omega) i64 hr)⟩
  ·obtain⟨s,hs1,hs2⟩:=zbd zaQ (i:=(x.tdiv 11).tmod 8) (by omega) (by simp only[zaQ,List.length_cons,List.length_nil];omega)
   obtain⟨r,hr,hp⟩:=key (k:=(if (1+(x.tdiv 88)) < (st.length:Int) then (1+(x.tdiv 88)) else (st.length:Int))) (fun ks=>Node.mk 5 0 s [] ks) (by split <;> omega) (by split <;> omega) (zhr hs2 (by split <;> omega))
   refine⟨r,zj _ _ _ _ _ ⟨fun _=>⟨fun _=>⟨by omega,v,hv,by rw[hx];exact x64,?_⟩,fun hf=>absurd (by omega) hf⟩,fun hf=>absurd hi hf⟩,hp⟩
   simp only[hx,c,eq_false a,true_implies,not_true_eq_false,false_implies,and_true,true_and,not_false_eq_true,Int.reduceEq,forall_const,implies_true]
   exact⟨q64,by omega,s,hs1,e64,f64,(zh (by omega) hs (by split <;> omega) (by split <;> omega) i64 hr)⟩
  ·obtain⟨s,hs1,hs2⟩:=zbd zaP (i:=(x.tdiv 11).tmod 4) (by omega) (by simp only[zaP,List.length_cons,List.length_nil];omega)
   obtain⟨r,hr,hp⟩:=key (k:=0) (fun ks=>Node.mk 2 0 [] s ks) (by decide) (by omega) (zji hs2)
   refine⟨r,zj _ _ _ _ _ ⟨fun _=>⟨fun _=>⟨by omega,v,hv,by rw[hx];exact x64,?_⟩,fun hf=>absurd (by omega) hf⟩,fun hf=>absurd hi hf⟩,hp⟩
   simp only[hx,c,eq_false a,true_implies,not_true_eq_false,false_implies,and_true,true_and,not_false_eq_true,Int.reduceEq,forall_const,implies_true]
   exact⟨q64,by omega,s,hs1,(zh (by omega) hs (by omega) (by omega) i64 hr)⟩
  ·obtain⟨r,hr,hp⟩:=key (k:=0) (fun ks=>Node.mk 3 ((x.tdiv 11).tmod 2) [] [] ks) (by decide) (by omega) (zhw x0 x1 d11)
   refine⟨r,zj _ _ _ _ _ ⟨fun _=>⟨fun _=>⟨by omega,v,hv,by rw[hx];exact x64,?_⟩,fun hf=>absurd (by omega) hf⟩,fun hf=>absurd hi hf⟩,hp⟩
   simp only[hx,c,eq_false a,true_implies,not_true_eq_false,false_implies,and_true,true_and,not_false_eq_true,Int.reduceEq,forall_const,implies_true]
   exact⟨q64,(zh (by omega) hs (by omega) (by omega) i64 hr)⟩
  ·obtain⟨s,hs1,hs2⟩:=zbd za7 (i:=(x.tdiv 11).tmod 4) (by omega) (by simp only[za7,List.length_cons,List.length_nil];omega)
   obtain⟨r,hr,hp⟩:=key (k:=0) (fun ks=>Node.mk 4 0 s [] ks) (by decide) (by omega) (zjJ hs2)
   refine⟨r,zj _ _ _ _ _ ⟨fun _=>⟨fun _=>⟨by omega,v,hv,by rw[hx];exact x64,?_⟩,fun hf=>absurd (by omega) hf⟩,fun hf=>absurd hi hf⟩,hp⟩
   simp only[hx,c,eq_false a,true_implies,not_true_eq_false,false_implies,and_true,true_and,not_false_eq_true,Int.reduceEq,forall_const,implies_true]
   exact⟨q64,by omega,s,hs1,(zh (by omega) hs (by omega) (by omega) i64 hr)⟩
  obtain⟨c1,c2,c3,c4,c5,c6,c7,c8⟩:=c
  obtain⟨r,hr,hp⟩:=key (k:=0) (fun ks=>Node.mk 1 (x.tmod 30) [] [] ks) (by decide) (by omega) (zaW x0 x1)
  refine⟨r,zj _ _ _ _ _ ⟨fun _=>⟨fun _=>⟨by omega,v,hv,by rw[hx];exact x64,?_⟩,fun hf=>absurd (by omega) hf⟩,fun hf=>absurd hi hf⟩,hp⟩
  simp only[hx,eq_false c1,eq_false c2,eq_false c3,eq_false c4,eq_false c5,eq_false c6,eq_false c7,eq_false c8,eq_false a,true_implies,not_true_eq_false,false_implies,and_true,true_and,not_false_eq_true,Int.reduceEq,forall_const,implies_true]
  exact (zh (by omega) hs (by omega) (by omega) i64 hr)
theorem zxY (ns:List UInt8):∃ r,zpV ns r∧zdC r:=by
 have h:MJ [] []:=⟨MI.nil,Nat.le_refl _,fun h=>absurd rfl h⟩
 suffices hh:∃ r,zii ns 0 [] [] r∧zdC r by
  obtain⟨r,hr,hp⟩:=hh
  exact⟨r,zsF _ _ hr,hp⟩
 by_cases hi:(0:Int) < (ns.length:Int)
 rotate_left
 ·exact⟨[],zm _ _ _ _ _ ⟨fun hf=>absurd hf hi,fun _=>zlw _ _ _ ⟨fun hf=>absurd hf (by decide),fun _=>rfl⟩⟩,.inl rfl⟩
 revert h
 generalize hl:([]:List Node)=l
 generalize hst:([]:List Int)=st
 generalize hi0:(0:Int)=i at hi
 intro h
 have hl0:l.length=0:=by rw[←hl];rfl
 have hs0:st.length=0:=by rw[←hst];rfl
 clear hl hst
 have hs:st.length≤40:=by omega
 have key:∀ {k:Int} (f:List Int→Node),0≤k→k≤(st.length:Int)→(∀ ks:List Int,(ks.length:Int)=k→MN (f ks)∧(f ks).Kids=ks)→∃ r,zd ns (i+1) (l++[f ((st.drop ((st.length:Int) - k).toNat).take (st.length - ((st.length:Int) - k).toNat))]) (st.take ((st.length:Int) - k).toNat++[(l.length:Int)]) r∧zdC r:=fun f h0 hk hf=>zo5 ns 39 (i+1) _ _ (by rw[List.length_append];simp only[List.length_cons,List.length_nil];omega) (by rw[List.length_append];simp only[List.length_cons,List.length_nil];omega) (zog h h0 hk f hf)
 obtain⟨v,hv⟩:∃ v,ns[i.toNat]?=some v:=⟨_,List.getElem?_eq_getElem (show i.toNat < ns.length by omega)⟩
 have x0:(0:Int)≤(v.toNat:Int):=by omega
 have x1:(v.toNat:Int)≤255:=by have:=v.toNat_lt;omega
 generalize hx:(v.toNat:Int)=x at x0 x1
 have d11:x.tdiv 11=x / 11:=Int.tdiv_eq_ediv_of_nonneg x0
 have d3:x.tdiv 3=x / 3:=Int.tdiv_eq_ediv_of_nonneg x0
 have d88:x.tdiv 88=x / 88:=Int.tdiv_eq_ediv_of_nonneg x0
 have m11:x.tmod 11=x % 11:=Int.tmod_eq_emod_of_nonneg x0
 have y4:(x.tdiv 11).tmod 4=(x / 11) % 4:=by rw[d11];exact Int.tmod_eq_emod_of_nonneg (by omega)
 have y8:(x.tdiv 11).tmod 8=(x / 11) % 8:=by rw[d11];exact Int.tmod_eq_emod_of_nonneg (by omega)
 have y2:(x.tdiv 11).tmod 2=(x / 11) % 2:=by rw[d11];exact Int.tmod_eq_emod_of_nonneg (by omega)
 have y13:(x.tdiv 3).tmod 13=(x / 3) % 13:=by rw[d3];exact Int.tmod_eq_emod_of_nonneg (by omega)
 have x64:I64 x:=⟨by omega,by omega⟩
 have q64:I64 (x.tdiv 11):=⟨by omega,by omega⟩
 have t64:I64 (x.tdiv 3):=⟨by omega,by omega⟩
 have e64:I64 (x.tdiv 88):=⟨by omega,by omega⟩
 have f64:I64 (1+x.tdiv 88):=⟨by omega,by omega⟩
 have u64:I64 (8+((x.tdiv 11).tmod 2)):=⟨by omega,by omega⟩
 have o64:I64 (11+((x.tdiv 3).tmod 13)):=⟨by omega,by omega⟩
 have i64:I64 (i+1):=⟨by omega,by omega⟩
 by_cases a:x.tmod 3=0
 ·by_cases b:2≤(st.length:Int)
  ·obtain⟨r,hr,hp⟩:=key (k:=2) (fun ks=>Node.mk (11+((x.tdiv 3).tmod 13)) 0 [] [] ks) (by decide) b (zum x0 x1 d3)
   refine⟨r,zm _ _ _ _ _ ⟨fun _=>⟨fun _=>⟨by omega,v,hv,by rw[hx];exact x64,?_⟩,fun hf=>absurd (by omega) hf⟩,fun hf=>absurd hi hf⟩,hp⟩
   simp only[hx,eq_true a,eq_true b,true_implies,not_true_eq_false,false_implies,and_true,true_and,not_false_eq_true,Int.reduceEq,forall_const,implies_true]
   exact⟨t64,o64,(zh (by omega) hs (by omega) (by omega) i64 hr)⟩
  have cs:x.tmod 11=1∨x.tmod 11=2∨x.tmod 11=3∨x.tmod 11=4∨x.tmod 11=5∨x.tmod 11=6∨x.tmod 11=7∨x.tmod 11=8∨(x.tmod 11≠1∧x.tmod 11≠2∧x.tmod 11≠3∧x.tmod 11≠4∧x.tmod 11≠5∧x.tmod 11≠6∧x.tmod 11≠7∧x.tmod 11≠8):=by omega
  rcases cs with c | c | c | c | c | c | c | c | c
  ·by_cases d:1≤(st.length:Int)
   ·obtain⟨r,hr,hp⟩:=key (k:=1) (fun ks=>Node.mk (8+((x.tdiv 11).tmod 2)) 0 [] [] ks) (by decide) d (zlW x0 x1 d11)
    refine⟨r,zm _ _ _ _ _ ⟨fun _=>⟨fun _=>⟨by omega,v,hv,by rw[hx];exact x64,?_⟩,fun hf=>absurd (by omega) hf⟩,fun hf=>absurd hi hf⟩,hp⟩
    simp only[hx,eq_true d,c,eq_true a,eq_false b,true_implies,not_true_eq_false,false_implies,and_true,true_and,not_false_eq_true,Int.reduceEq,forall_const,implies_true]
    exact⟨q64,u64,(zh (by omega) hs (by omega) (by omega) i64 hr)⟩
   obtain⟨r,hr,hp⟩:=key (k:=0) (fun ks=>Node.mk 1 (x.tmod 30) [] [] ks) (by decide) (by omega) (zaW x0 x1)
   refine⟨r,zm _ _ _ _ _ ⟨fun _=>⟨fun _=>⟨by omega,v,hv,by rw[hx];exact x64,?_⟩,fun hf=>absurd (by omega) hf⟩,fun hf=>absurd hi hf⟩,hp⟩
   simp only[hx,eq_false d,c,eq_true a,eq_false b,true_implies,not_true_eq_false,false_implies,and_true,true_and,not_false_eq_true,Int.reduceEq,forall_const,implies_true]
   exact (zh (by omega) hs (by omega) (by omega) i64 hr)
  ·by_cases d:3≤(st.length:Int)
   ·obtain⟨r,hr,hp⟩:=key (k:=3) (fun ks=>Node.mk 10 0 [] [] ks) (by decide) d (zdw (.inr (.inl ⟨rfl,rfl⟩)))
    refine⟨r,zm _ _ _ _ _ ⟨fun _=>⟨fun _=>⟨by omega,v,hv,by rw[hx];exact x64,?_⟩,fun hf=>absurd (by omega) hf⟩,fun hf=>absurd hi hf⟩,hp⟩
    simp only[hx,eq_true d,c,eq_true a,eq_false b,true_implies,not_true_eq_false,false_implies,and_true,true_and,not_false_eq_true,Int.reduceEq,forall_const,implies_true]
    exact (zh (by omega) hs (by omega) (by omega) i64 hr)
   obtain⟨r,hr,hp⟩:=key (k:=0) (fun ks=>Node.mk 1 (x.tmod 30) [] [] ks) (by decide) (by omega) (zaW x0 x1)
   refine⟨r,zm _ _ _ _ _ ⟨fun _=>⟨fun _=>⟨by omega,v,hv,by rw[hx];exact x64,?_⟩,fun hf=>absurd (by omega) hf⟩,fun hf=>absurd hi hf⟩,hp⟩
   simp only[hx,eq_false d,c,eq_true a,eq_false b,true_implies,not_true_eq_false,false_implies,and_true,true_and,not_false_eq_true,Int.reduceEq,forall_const,implies_true]
   exact (zh (by omega) hs (by omega) (by omega) i64 hr)
  ·obtain⟨r,hr,hp⟩:=key (k:=0) (fun ks=>Node.mk 1 (x.tmod 30) [] [] ks) (by decide) (by omega) (zaW x0 x1)
   refine⟨r,zm _ _ _ _ _ ⟨fun _=>⟨fun _=>⟨by omega,v,hv,by rw[hx];exact x64,?_⟩,fun hf=>absurd (by omega) hf⟩,fun hf=>absurd hi hf⟩,hp⟩
   simp only[hx,c,eq_true a,eq_false b,true_implies,not_true_eq_false,false_implies,and_true,true_and,not_false_eq_true,Int.reduceEq,forall_const,implies_true]
   exact (zh (by omega) hs (by omega) (by omega) i64 hr)
  ·obtain⟨r,hr,hp⟩:=key (k:=(if ((x.tdiv 11).tmod 4) < (st.length:Int) then ((x.tdiv 11).tmod 4) else (st.length:Int))) (fun ks=>Node.mk 6 0 [] [] ks) (by split <;> omega) (by split <;> omega) (zdw (.inr (.inr ⟨rfl,by split <;> omega⟩)))
   refine⟨r,zm _ _ _ _ _ ⟨fun _=>⟨fun _=>⟨by omega,v,hv,by rw[hx];exact x64,?_⟩,fun hf=>absurd (by omega) hf⟩,fun hf=>absurd hi hf⟩,hp⟩
   simp only[hx,c,eq_true a,eq_false b,true_implies,not_true_eq_false,false_implies,and_true,true_and,not_false_eq_true,Int.reduceEq,forall_const,implies_true]
   exact⟨q64,(zh (by omega) hs (by split <;> omega) (by split <;> omega) i64 hr)⟩
  ·obtain⟨s,hs1,hs2⟩:=zbd zaQ (i:=(x.tdiv 11).tmod 8) (by omega) (by simp only[zaQ,List.length_cons,List.length_nil];omega)
   obtain⟨r,hr,hp⟩:=key (k:=(if (1+(x.tdiv 88)) < (st.length:Int) then (1+(x.tdiv 88)) else (st.length:Int))) (fun ks=>Node.mk 5 0 s [] ks) (by split <;> omega) (by split <;> omega) (zhr hs2 (by split <;> omega))
   refine⟨r,zm _ _ _ _ _ ⟨fun _=>⟨fun _=>⟨by omega,v,hv,by rw[hx];exact x64,?_⟩,fun hf=>absurd (by omega) hf⟩,fun hf=>absurd hi hf⟩,hp⟩
   simp only[hx,c,eq_true a,eq_false b,true_implies,not_true_eq_false,false_implies,and_true,true_and,not_false_eq_true,Int.reduceEq,forall_const,implies_true]
   exact⟨q64,by omega,s,hs1,e64,f64,(zh (by omega) hs (by split <;> omega) (by split <;> omega) i64 hr)⟩
  ·obtain⟨s,hs1,hs2⟩:=zbd zaP (i:=(x.tdiv 11).tmod 4) (by omega) (by simp only[zaP,List.length_cons,List.length_nil];omega)
   obtain⟨r,hr,hp⟩:=key (k:=0) (fun ks=>Node.mk 2 0 [] s ks) (by decide) (by omega) (zji hs2)
   refine⟨r,zm _ _ _ _ _ ⟨fun _=>⟨fun _=>⟨by omega,v,hv,by rw[hx];exact x64,?_⟩,fun hf=>absurd (by omega) hf⟩,fun hf=>absurd hi hf⟩,hp⟩
   simp only[hx,c,eq_true a,eq_false b,true_implies,not_true_eq_false,false_implies,and_true,true_and,not_false_eq_true,Int.reduceEq,forall_const,implies_true]
   exact⟨q64,by omega,s,hs1,(zh (by omega) hs (by omega) (by omega) i64 hr)⟩
  ·obtain⟨r,hr,hp⟩:=key (k:=0) (fun ks=>Node.mk 3 ((x.tdiv 11).tmod 2) [] [] ks) (by decide) (by omega) (zhw x0 x1 d11)
   refine⟨r,zm _ _ _ _ _ ⟨fun _=>⟨fun _=>⟨by omega,v,hv,by rw[hx];exact x64,?_⟩,fun hf=>absurd (by omega) hf⟩,fun hf=>absurd hi hf⟩,hp⟩
   simp only[hx,c,eq_true a,eq_false b,true_implies,not_true_eq_false,false_implies,and_true,true_and,not_false_eq_true,Int.reduceEq,forall_const,implies_true]
   exact⟨q64,(zh (by omega) hs (by omega) (by omega) i64 hr)⟩
  ·obtain⟨s,hs1,hs2⟩:=zbd za7 (i:=(x.tdiv 11).tmod 4) (by omega) (by simp only[za7,List.length_cons,List.length_nil];omega)
   obtain⟨r,hr,hp⟩:=key (k:=0) (fun ks=>Node.mk 4 0 s [] ks) (by decide) (by omega) (zjJ hs2)
   refine⟨r,zm _ _ _ _ _ ⟨fun _=>⟨fun _=>⟨by omega,v,hv,by rw[hx];exact x64,?_⟩,fun hf=>absurd (by omega) hf⟩,fun hf=>absurd hi hf⟩,hp⟩
   simp only[hx,c,eq_true a,eq_false b,true_implies,not_true_eq_false,false_implies,and_true,true_and,not_false_eq_true,Int.reduceEq,forall_const,implies_true]
   exact⟨q64,by omega,s,hs1,(zh (by omega) hs (by omega) (by omega) i64 hr)⟩
  obtain⟨c1,c2,c3,c4,c5,c6,c7,c8⟩:=c
  obtain⟨r,hr,hp⟩:=key (k:=0) (fun ks=>Node.mk 1 (x.tmod 30) [] [] ks) (by decide) (by omega) (zaW x0 x1)
  refine⟨r,zm _ _ _ _ _ ⟨fun _=>⟨fun _=>⟨by omega,v,hv,by rw[hx];exact x64,?_⟩,fun hf=>absurd (by omega) hf⟩,fun hf=>absurd hi hf⟩,hp⟩
  simp only[hx,eq_false c1,eq_false c2,eq_false c3,eq_false c4,eq_false c5,eq_false c6,eq_false c7,eq_false c8,eq_true a,eq_false b,true_implies,not_true_eq_false,false_implies,and_true,true_and,not_false_eq_true,Int.reduceEq,forall_const,implies_true]
  exact (zh (by omega) hs (by omega) (by omega) i64 hr)
 have cs:x.tmod 11=1∨x.tmod 11=2∨x.tmod 11=3∨x.tmod 11=4∨x.tmod 11=5∨x.tmod 11=6∨x.tmod 11=7∨x.tmod 11=8∨(x.tmod 11≠1∧x.tmod 11≠2∧x.tmod 11≠3∧x.tmod 11≠4∧x.tmod 11≠5∧x.tmod 11≠6∧x.tmod 11≠7∧x.tmod 11≠8):=by omega
 rcases cs with c | c | c | c | c | c | c | c | c
 ·by_cases d:1≤(st.length:Int)
  ·obtain⟨r,hr,hp⟩:=key (k:=1) (fun ks=>Node.mk (8+((x.tdiv 11).tmod 2)) 0 [] [] ks) (by decide) d (zlW x0 x1 d11)
   refine⟨r,zm _ _ _ _ _ ⟨fun _=>⟨fun _=>⟨by omega,v,hv,by rw[hx];exact x64,?_⟩,fun hf=>absurd (by omega) hf⟩,fun hf=>absurd hi hf⟩,hp⟩
   simp only[hx,eq_true d,c,eq_false a,true_implies,not_true_eq_false,false_implies,and_true,true_and,not_false_eq_true,Int.reduceEq,forall_const,implies_true]
   exact⟨q64,u64,(zh (by omega) hs (by omega) (by omega) i64 hr)⟩
  obtain⟨r,hr,hp⟩:=key (k:=0) (fun ks=>Node.mk 1 (x.tmod 30) [] [] ks) (by decide) (by omega) (zaW x0 x1)
  refine⟨r,zm _ _ _ _ _ ⟨fun _=>⟨fun _=>⟨by omega,v,hv,by rw[hx];exact x64,?_⟩,fun hf=>absurd (by omega) hf⟩,fun hf=>absurd hi hf⟩,hp⟩
  simp only[hx,eq_false d,c,eq_false a,true_implies,not_true_eq_false,false_implies,and_true,true_and,not_false_eq_true,Int.reduceEq,forall_const,implies_true]
  exact (zh (by omega) hs (by omega) (by omega) i64 hr)
 ·by_cases d:3≤(st.length:Int)
  ·obtain⟨r,hr,hp⟩:=key (k:=3) (fun ks=>Node.mk 10 0 [] [] ks) (by decide) d (zdw (.inr (.inl ⟨rfl,rfl⟩)))
   refine⟨r,zm _ _ _ _ _ ⟨fun _=>⟨fun _=>⟨by omega,v,hv,by rw[hx];exact x64,?_⟩,fun hf=>absurd (by omega) hf⟩,fun hf=>absurd hi hf⟩,hp⟩
   simp only[hx,eq_true d,c,eq_false a,true_implies,not_true_eq_false,false_implies,and_true,true_and,not_false_eq_true,Int.reduceEq,forall_const,implies_true]
   exact (zh (by omega) hs (by omega) (by omega) i64 hr)
  obtain⟨r,hr,hp⟩:=key (k:=0) (fun ks=>Node.mk 1 (x.tmod 30) [] [] ks) (by decide) (by omega) (zaW x0 x1)
  refine⟨r,zm _ _ _ _ _ ⟨fun _=>⟨fun _=>⟨by omega,v,hv,by rw[hx];exact x64,?_⟩,fun hf=>absurd (by omega) hf⟩,fun hf=>absurd hi hf⟩,hp⟩
  simp only[hx,eq_false d,c,eq_false a,true_implies,not_true_eq_false,false_implies,and_true,true_and,not_false_eq_true,Int.reduceEq,forall_const,implies_true]
  exact (zh (by omega) hs (by omega) (by omega) i64 hr)
 ·by_cases d:2≤(st.length:Int)
  ·obtain⟨r,hr,hp⟩:=key (k:=2) (fun ks=>Node.mk 7 0 [] [] ks) (by decide) d (zdw (.inl ⟨rfl,rfl⟩))
   refine⟨r,zm _ _ _ _ _ ⟨fun _=>⟨fun _=>⟨by omega,v,hv,by rw[hx];exact x64,?_⟩,fun hf=>absurd (by omega) hf⟩,fun hf=>absurd hi hf⟩,hp⟩
   simp only[hx,eq_true d,c,eq_false a,true_implies,not_true_eq_false,false_implies,and_true,true_and,not_false_eq_true,Int.reduceEq,forall_const,implies_true]
   exact (zh (by omega) hs (by omega) (by omega) i64 hr)
  obtain⟨r,hr,hp⟩:=key (k:=0) (fun ks=>Node.mk 1 (x.tmod 30) [] [] ks) (by decide) (by omega) (zaW x0 x1)
  refine⟨r,zm _ _ _ _ _ ⟨fun _=>⟨fun _=>⟨by omega,v,hv,by rw[hx];exact x64,?_⟩,fun hf=>absurd (by omega) hf⟩,fun hf=>absurd hi hf⟩,hp⟩
  simp only[hx,eq_false d,c,eq_false a,true_implies,not_true_eq_false,false_implies,and_true,true_and,not_false_eq_true,Int.reduceEq,forall_const,implies_true]
  exact (zh (by omega) hs (by omega) (by omega) i64 hr)
 ·obtain⟨r,hr,hp⟩:=key (k:=(if ((x.tdiv 11).tmod 4) < (st.length:Int) then ((x.tdiv 11).tmod 4) else (st.length:Int))) (fun ks=>Node.mk 6 0 [] [] ks) (by split <;> omega) (by split <;> omega) (zdw (.inr (.inr ⟨rfl,by split <;> omega⟩)))
  refine⟨r,zm _ _ _ _ _ ⟨fun _=>⟨fun _=>⟨by omega,v,hv,by rw[hx];exact x64,?_⟩,fun hf=>absurd (by omega) hf⟩,fun hf=>absurd hi hf⟩,hp⟩
  simp only[hx,c,eq_false a,true_implies,not_true_eq_false,false_implies,and_true,true_and,not_false_eq_true,Int.reduceEq,forall_const,implies_true]
  exact⟨q64,(zh (by omega) hs (by split <;> omega) (by split <;> omega) i64 hr)⟩
 ·obtain⟨s,hs1,hs2⟩:=zbd zaQ (i:=(x.tdiv 11).tmod 8) (by omega) (by simp only[zaQ,List.length_cons,List.length_nil];omega)
  obtain⟨r,hr,hp⟩:=key (k:=(if (1+(x.tdiv 88)) < (st.length:Int) then (1+(x.tdiv 88)) else (st.length:Int))) (fun ks=>Node.mk 5 0 s [] ks) (by split <;> omega) (by split <;> omega) (zhr hs2 (by split <;> omega))
  refine⟨r,zm _ _ _ _ _ ⟨fun _=>⟨fun _=>⟨by omega,v,hv,by rw[hx];exact x64,?_⟩,fun hf=>absurd (by omega) hf⟩,fun hf=>absurd hi hf⟩,hp⟩
  simp only[hx,c,eq_false a,true_implies,not_true_eq_false,false_implies,and_true,true_and,not_false_eq_true,Int.reduceEq,forall_const,implies_true]
  exact⟨q64,by omega,s,hs1,e64,f64,(zh (by omega) hs (by split <;> omega) (by split <;> omega) i64 hr)⟩
 ·obtain⟨s,hs1,hs2⟩:=zbd zaP (i:=(x.tdiv 11).tmod 4) (by omega) (by simp only[zaP,List.length_cons,List.length_nil];omega)
  obtain⟨r,hr,hp⟩:=key (k:=0) (fun ks=>Node.mk 2 0 [] s ks) (by decide) (by omega) (zji hs2)
  refine⟨r,zm _ _ _ _ _ ⟨fun _=>⟨fun _=>⟨by omega,v,hv,by rw[hx];exact x64,?_⟩,fun hf=>absurd (by omega) hf⟩,fun hf=>absurd hi hf⟩,hp⟩
  simp only[hx,c,eq_false a,true_implies,not_true_eq_false,false_implies,and_true,true_and,not_false_eq_true,Int.reduceEq,forall_const,implies_true]
  exact⟨q64,by omega,s,hs1,(zh (by omega) hs (by omega) (by omega) i64 hr)⟩
 ·obtain⟨r,hr,hp⟩:=key (k:=0) (fun ks=>Node.mk 3 ((x.tdiv 11).tmod 2) [] [] ks) (by decide) (by omega) (zhw x0 x1 d11)
  refine⟨r,zm _ _ _ _ _ ⟨fun _=>⟨fun _=>⟨by omega,v,hv,by rw[hx];exact x64,?_⟩,fun hf=>absurd (by omega) hf⟩,fun hf=>absurd hi hf⟩,hp⟩
  simp only[hx,c,eq_false a,true_implies,not_true_eq_false,false_implies,and_true,true_and,not_false_eq_true,Int.reduceEq,forall_const,implies_true]
  exact⟨q64,(zh (by omega) hs (by omega) (by omega) i64 hr)⟩
 ·obtain⟨s,hs1,hs2⟩:=zbd za7 (i:=(x.tdiv 11).tmod 4) (by omega) (by simp only[za7,List.length_cons,List.length_nil];omega)
  obtain⟨r,hr,hp⟩:=key (k:=0) (fun ks=>Node.mk 4 0 s [] ks) (by decide) (by omega) (zjJ hs2)
  refine⟨r,zm _ _ _ _ _ ⟨fun _=>⟨fun _=>⟨by omega,v,hv,by rw[hx];exact x64,?_⟩,fun hf=>absurd (by omega) hf⟩,fun hf=>absurd hi hf⟩,hp⟩
  simp only[hx,c,eq_false a,true_implies,not_true_eq_false,false_implies,and_true,true_and,not_false_eq_true,Int.reduceEq,forall_const,implies_true]
  exact⟨q64,by omega,s,hs1,(zh (by omega) hs (by omega) (by omega) i64 hr)⟩
 obtain⟨c1,c2,c3,c4,c5,c6,c7,c8⟩:=c
 obtain⟨r,hr,hp⟩:=key (k:=0) (fun ks=>Node.mk 1 (x.tmod 30) [] [] ks) (by decide) (by omega) (zaW x0 x1)
 refine⟨r,zm _ _ _ _ _ ⟨fun _=>⟨fun _=>⟨by omega,v,hv,by rw[hx];exact x64,?_⟩,fun hf=>absurd (by omega) hf⟩,fun hf=>absurd hi hf⟩,hp⟩
 simp only[hx,eq_false c1,eq_false c2,eq_false c3,eq_false c4,eq_false c5,eq_false c6,eq_false c7,eq_false c8,eq_false a,true_implies,not_true_eq_false,false_implies,and_true,true_and,not_false_eq_true,Int.reduceEq,forall_const,implies_true]
 exact (zh (by omega) hs (by omega) (by omega) i64 hr)
def Gt (K:Nat) (ts:List Token):Prop:=ts.length≤K∧∀ t ∈ ts,t.Parts.length≤K
def Gn (K:Nat) (out:List Node):Prop:=∀ n ∈ out,n.Kids.length≤K∧n.Parts.length≤K
theorem Gt.tail {K:Nat} {ts:List Token} (h:Gt K ts):Gt K ts.tail:=⟨by have:=h.1;simp;omega,fun t ht=>h.2 t (List.mem_of_mem_tail ht)⟩
theorem Gn.snoc {K:Nat} {out:List Node} (h:Gn K out) {n:Node} (h1:n.Kids.length≤K) (h2:n.Parts.length≤K):Gn K (out++[n]):=by
 intro m hm
 rcases List.mem_append.1 hm with hm | hm
 ·exact h m hm
 rw[List.mem_singleton] at hm
 subst hm
 exact⟨h1,h2⟩
structure Pq (K:Nat) (lt lm:Nat) (ts:List Token) (out:List Node):Prop where
 len:ts.length≤lt
 sum:ts.length+out.length≤lm
 toks:Gt K ts
 nodes:Gn K out
def Po {α:Type} (K:Nat) (lt lm:Nat) (S:α→Nat→Prop) (p:PR α):Prop:=∀ a ts out,p=.ok a ts out→Pq K lt lm ts out∧S a ts.length
section
variable {K lt lm lt' lm':Nat} {α β:Type}
theorem Po.er {S:α→Nat→Prop} {e:Int}:Po K lt lm S (.er e:PR α):=fun _ _ _ h=>by cases h
theorem Po.no {S:α→Nat→Prop}:Po K lt lm S (.no:PR α):=fun _ _ _ h=>by cases h
theorem Po.ok {S:α→Nat→Prop} {a:α} {ts:List Token} {out:List Node} (h:Pq K lt lm ts out) (hs:S a ts.length):Po K lt lm S (.ok a ts out):=fun _ _ _ e=>by cases e;exact⟨h,hs⟩
theorem Po.bind {S:α→Nat→Prop} {S':β→Nat→Prop} {p:PR α} {f:α→List Token→List Node→PR β} (hp:Po K lt lm S p) (hf:∀ a ts out,Pq K lt lm ts out→S a ts.length→Po K lt' lm' S' (f a ts out)):Po K lt' lm' S' (p.bind f):=by
 cases p with
 | ok a ts out=>obtain⟨h1,h2⟩:=hp a ts out rfl;exact hf a ts out h1 h2
 | er e=>exact Po.er
 | no=>exact Po.no
theorem Po.ite {S:α→Nat→Prop} {c:Prop} [Decidable c] {p q:PR α} (h1:c→Po K lt lm S p) (h2:¬ c→Po K lt lm S q):Po K lt lm S (if c then p else q):=by
 split
 ·exact h1 ‹_›
 exact h2 ‹_›
theorem Po.mono {S S':α→Nat→Prop} {p:PR α} (h:Po K lt lm S p) (h1:lt≤lt') (h2:lm≤lm') (hS:∀ a n,n≤lt→S a n→S' a n):Po K lt' lm' S' p:=fun a ts out e=>by
 obtain⟨q,s⟩:=h a ts out e
 exact⟨⟨Nat.le_trans q.len h1,Nat.le_trans q.sum h2,q.toks,q.nodes⟩,hS _ _ q.len s⟩
theorem Pq.shift {ts:List Token} {out:List Node} (h:Pq K lt lm ts out) {s:List UInt8} (hi:isS s ts=true):1≤lt∧1≤lm∧Pq K (lt - 1) (lm - 1) ts.tail out:=by
 cases ts with
 | nil=>cases hi
 | cons t ts =>
  have h1:=h.len
  have h2:=h.sum
  simp only[List.length_cons] at h1 h2
  exact⟨by omega,by omega,by simp only[List.tail_cons];omega,by simp only[List.tail_cons];omega,h.toks.tail,h.nodes⟩
theorem Po.need {S:α→Nat→Prop} {s:List UInt8} {ts:List Token} {out:List Node} {k:List Token→PR α} (h:Pq K lt lm ts out) (hk:∀ ts,1≤lt→1≤lm→Pq K (lt - 1) (lm - 1) ts out→Po K lt' lm' S (k ts)):Po K lt' lm' S (zac s ts k) :=
 Po.ite (fun hi=>by obtain⟨h1,h2,h3⟩:=h.shift hi;exact hk _ h1 h2 h3) fun _=>Po.er
theorem Po.opn {S:α→Nat→Prop} {s:List UInt8} {d:Nat} {ts:List Token} {out:List Node} {k:List Token→PR α} (h:Pq K lt lm ts out) (hk:∀ ts,1≤lt→1≤lm→Pq K (lt - 1) (lm - 1) ts out→Po K lt' lm' S (k ts)):Po K lt' lm' S (zL s d ts k) :=
 Po.ite (fun hi=>Po.ite (fun _=>Po.er) fun _=>by obtain⟨h1,h2,h3⟩:=h.shift hi;exact hk _ h1 h2 h3) fun _=>Po.er
theorem Pq.snoc {ts:List Token} {out:List Node} (h:Pq K lt lm ts out) {n:Node} (h1:n.Kids.length≤K) (h2:n.Parts.length≤K):Pq K lt (lm+1) ts (out++[n]):=⟨h.len,by have:=h.sum;simp;omega,h.toks,h.nodes.snoc h1 h2⟩
theorem Pq.mono {ts:List Token} {out:List Node} (h:Pq K lt lm ts out) (h1:lt≤lt') (h2:lm≤lm'):Pq K lt' lm' ts out:=⟨Nat.le_trans h.len h1,Nat.le_trans h.sum h2,h.toks,h.nodes⟩
end
theorem ztW:prN (zeu [])=none∧(∃ e,zeu []=.er e∧e≠0):=by
 have h:zeu []=.er 5:=by kernel_rfl
 rw[h]
 exact⟨rfl,5,rfl,by decide⟩
theorem zv2:exS []=[]:=by
 rw[exS,if_neg]
 simp[zaU]
def c40 (s:List UInt8):Nat:=s.count 40
def μ40 (t:Token):Nat:=if t.Kind=4∧t.Text=[40] then 1 else 0
theorem mu40:Mu μ40:=fun t u h1 h2 h3 h4=>by
 unfold μ40
 rw[h1]
 by_cases k:u.Kind=4
 ·rw[h4 (.inr (by rw[h1,k]))]
 rw[if_neg (fun h=>k h.1),if_neg (fun h=>k h.1)]
theorem zlZ {s:List UInt8} (h:(40:UInt8) ∉ s):c40 s=0:=List.count_eq_zero.2 h
theorem zqL {s:List UInt8} (h:zak s=true):(40:UInt8) ∉ s∧(41:UInt8) ∉ s:=by
 constructor
 ·intro hm;have:=zcG h _ hm;exact absurd this (by decide)
 intro hm;have:=zcG h _ hm;exact absurd this (by decide)
theorem zlq {z:Int} (h0:0≤z):(40:UInt8) ∉ Lib.itoa z∧(41:UInt8) ∉ Lib.itoa z:=by
 obtain⟨n,rfl⟩:∃ n:Nat,z=n:=⟨z.toNat,by omega⟩
 have hd:=zhL n n (Nat.le_refl _)
 have hi:Lib.itoa (n:Int)=Lib.decDigits n:=by simp[Lib.itoa]
 rw[hi]
 exact⟨fun h=>absurd (hd _ h).1 (by decide),fun h=>absurd (hd _ h).1 (by decide)⟩
theorem zyD {c x:UInt8} (h:x=40∨x=41) (hc:x≠c):x ∉ qC c:=by
 unfold qC
 split
 ·rcases h with rfl | rfl <;> simp[hc]
 split
 ·rcases h with rfl | rfl <;> simp
 simpa using hc
theorem zyx {s:List UInt8} {x:UInt8} (h:x=40∨x=41) (hs:x ∉ s):x ∉ qS s:=by
 intro hm
 unfold qS at hm
 obtain⟨c,hc,hm⟩:=List.mem_flatMap.1 hm
 exact zyD h (fun e=>hs (e ▸ hc)) hm
theorem zmU {l:List Part} {x:UInt8} (h:x=40∨x=41) (hl:∀ p ∈ l,x ∉ p.Text):x ∉ qtS l:=by
 intro hm
 unfold qtS at hm
 simp only[List.mem_append,List.mem_singleton,List.mem_flatMap] at hm
 rcases hm with rfl | ⟨p,hp,hm⟩ | rfl
 ·rcases h with h | h <;> cases h
 ·have:=hl p hp
  unfold ptS at hm
  split at hm
  ·simp only[List.mem_append,List.mem_cons,List.not_mem_nil,or_false] at hm
   rcases hm with (hm | hm) | hm
   ·rcases hm with rfl | rfl <;> rcases h with h | h <;> cases h
   ·exact this hm
   rcases h with rfl | rfl <;> cases hm
  exact zyx h this hm
 rcases h with h | h <;> cases h
theorem zup {k:Int} (h0:11≤k) (h1:k≤23):(40:UInt8) ∉ zaq k∧(41:UInt8) ∉ zaq k:=by
 have:k=11∨k=12∨k=13∨k=14∨k=15∨k=16∨k=17∨k=18∨k=19∨k=20∨k=21∨k=22∨k=23:=by omega
 rcases this with rfl | rfl | rfl | rfl | rfl | rfl | rfl | rfl | rfl | rfl | rfl | rfl | rfl <;> exact⟨by decide,by decide⟩
theorem cm40 {l:List Node} (h:∀ n ∈ l,NP n):CM c40 μ40 l where
 app:=fun a b=>List.count_append
 lp:=by decide
 rp:=by decide
 sep:=by decide
 lb:=by decide
 rb:=by decide
 bang:=by decide
 neg:=by decide
 qu:=by decide
 col:=by decide
 dot:=by decide
 op:=fun k h0 h1=>by rw[zlZ (by simp[(zup h0 h1).1])];exact Nat.zero_le _
 num:=fun z h0=>by rw[zlZ (zlq h0).1];exact Nat.zero_le _
 name:=fun s hs=>by rw[zlZ (zqL hs).1];exact Nat.zero_le _
 prt:=fun n hn=>by rw[zlZ (zmU (.inl rfl) fun p hp=>((h n hn).2 p hp).1)];exact Nat.zero_le _
theorem zyd:∀ l x n,Tok l (some (x,n))→μ40 x≤c40 (l.take n):=by
 intro l x n h
 generalize hr:some (x,n)=r at h
 have z:∀ y:Token,y.Kind≠4→μ40 y≤c40 (l.take n):=fun y hy=>by
  unfold μ40;rw[if_neg fun h=>hy h.1];exact Nat.zero_le _
 cases h with
 | name c u h =>
  split at hr
  ·cases hr;exact z _ (by simp)
  cases hr
 | num c u h =>
  unfold zdU at hr
  split at hr
  ·cases hr;exact z _ (by simp)
  cases hr
 | text u r h =>
  obtain⟨q,hq,e⟩:=Option.map_eq_some_iff.1 hr.symm
  cases e
  exact z _ (by simp)
 | sign c u h2 h3 h4 =>
  split at hr
  ·cases hr
  cases hr
  rw[zrs]
  unfold μ40
  split
  ·rename_i h
   rw[show zp (c::u)=[40] from h.2]
   decide
  exact Nat.zero_le _
def stD (d:Nat) (c:UInt8):Option Nat:=if c=40 then some (d+1) else if c=41 then (if d=0 then none else some (d - 1)) else some d
def dp:Nat→List UInt8→Option Nat
 | d,[]=>some d
 | d,c::r=>(stD d c).bind fun e=>dp e r
def Dy (x:List UInt8):Prop:=∀ d,dp d x=some d
theorem zi8:∀ (a b:List UInt8) (d:Nat),dp d (a++b)=(dp d a).bind fun e=>dp e b
 | [],b,d=>rfl
 | c::a,b,d=>by
  rw[List.cons_append,dp,dp]
  cases stD d c with
  | none=>rfl
  | some e=>exact zi8 a b e
theorem Dy.app {a b:List UInt8} (ha:Dy a) (hb:Dy b):Dy (a++b):=fun d=>by rw[zi8,ha d];exact hb d
theorem Dy.brk {a:List UInt8} (ha:Dy a):Dy ([40]++a++[41]):=fun d=>by
 rw[List.append_assoc,List.singleton_append,dp,show stD d 40=some (d+1) from rfl,Option.bind_some,zi8,ha (d+1)]
 simp[dp,stD]
theorem Dy.no:∀ {a:List UInt8},(40:UInt8) ∉ a∧(41:UInt8) ∉ a→Dy a
 | [],_,d=>rfl
 | c::a,⟨h1,h2⟩,d=>by
  simp only[List.mem_cons,not_or] at h1 h2
  rw[dp,stD,if_neg (fun e=>h1.1 e.symm),if_neg (fun e=>h2.1 e.symm),Option.bind_some]
  exact Dy.no ⟨h1.2,h2.2⟩ d
theorem Dy.wr {l:List Node} {o:Int→List UInt8} {k:Int} (h:Dy (o k)) (least:Int):Dy (wrS l o k least):=by
 unfold wrS
 split
 ·exact h.brk
 exact h
theorem Dy.comG {o:Int→List UInt8}:∀ {ks:List Int},(∀ k ∈ ks,Dy (o k))→Dy (M.comG o ks)
 | [],_=>fun d=>rfl
 | k::r,h=>((Dy.no (a:=[44,32]) ⟨by decide,by decide⟩).app (h k (List.mem_cons_self ..))).app (Dy.comG fun q hq=>h q (List.mem_cons_of_mem _ hq))
theorem Dy.comS {o:Int→List UInt8} {ks:List Int} (h:∀ k ∈ ks,Dy (o k)):Dy (M.comS o ks):=by
 cases ks with
 | nil=>exact fun d=>rfl
 | cons k r=>exact (h k (List.mem_cons_self ..)).app (Dy.comG fun q hq=>h q (List.mem_cons_of_mem _ hq))
theorem zyJ {l:List Node} (hw:WF l) (hn:∀ n ∈ l,NP n):∀ (e:Nat),e < l.length→Dy (txS l e):=by
 intro e
 induction e using Nat.strongRecOn with
 | _ e ih =>
  intro he
  obtain⟨hok,hk⟩:=hw e _ (List.getElem?_eq_getElem he)
  have hp:=hn _ (List.getElem_mem he)
  have ihk:∀ k ∈ l[e].Kids,Dy (txS l k.toNat):=fun k hk'=>by
   have h1:=hk k hk'
   exact ih k.toNat (by omega) (by omega)
  rw[zfu he hok hk]
  generalize l[e]=n at *
  have hkl:=zaS hok
  have ikd:∀ i,i < n.Kids.length→Dy (txS l (kid n i).toNat):=fun i hi=>ihk _ (zl hi)
  have nb:∀ {a:List UInt8},((40:UInt8) ∉ a∧(41:UInt8) ∉ a)→Dy a:=fun h=>Dy.no h
  by_cases k1:n.Kind=1
  ·rw[nd1 k1];exact nb (zlq (zsR hok k1))
  by_cases k2:n.Kind=2
  ·rw[nd2 k2];exact nb ⟨zmU (.inl rfl) fun p h=>(hp.2 p h).1,zmU (.inr rfl) fun p h=>(hp.2 p h).2⟩
  by_cases k3:n.Kind=3
  ·rw[nd3 k3]
   by_cases hb:n.Num=1
   ·rw[decide_eq_true hb,zfn];exact nb ⟨by decide,by decide⟩
   rw[decide_eq_false hb,zen];exact nb ⟨by decide,by decide⟩
  by_cases k4:n.Kind=4
  ·rw[nd4 k4];exact nb hp.1
  by_cases k5:n.Kind=5
  ·rw[nd5 k5]
   have:=(nb hp.1).app (Dy.brk (Dy.comS ihk))
   simpa [List.append_assoc] using this
  by_cases k6:n.Kind=6
  ·rw[nd6 k6]
   exact ((nb ⟨by decide,by decide⟩).app (Dy.comS ihk)).app (nb ⟨by decide,by decide⟩)
  by_cases k7:n.Kind=7
  ·have hc:=kdk hok 7 2 k7 (by decide) (by decide) (by decide)
   rw[nd7 k7]
   exact (((Dy.wr (ikd 0 (by omega)) 7).app (nb ⟨by decide,by decide⟩)).app (ikd 1 (by omega))).app (nb ⟨by decide,by decide⟩)
  by_cases k8:n.Kind=8
  ·have hc:=kdk hok 8 1 k8 (by decide) (by decide) (by decide)
   rw[nd8 k8]
   exact (nb ⟨by decide,by decide⟩).app (Dy.wr (ikd 0 (by omega)) 6)
  by_cases k9:n.Kind=9
  ·have hc:=kdk hok 9 1 k9 (by decide) (by decide) (by decide)
   rw[nd9 k9]
   exact (nb ⟨by decide,by decide⟩).app (Dy.wr (ikd 0 (by omega)) 6)
  by_cases k10:n.Kind=10
  ·have hc:=kdk hok 10 3 k10 (by decide) (by decide) (by decide)
   rw[zl2 k10]
   exact ((((Dy.wr (ikd 0 (by omega)) 1).app (nb ⟨by decide,by decide⟩)).app (ikd 1 (by omega))).app (nb ⟨by decide,by decide⟩)).app (ikd 2 (by omega))
  have hc:=kd2 hok (by omega)
  rw[zjW (by omega)]
  generalize (if rkS n.Kind=3 then rkS n.Kind+1 else rkS n.Kind)=q
  exact ((((Dy.wr (ikd 0 (by omega)) q).app (nb ⟨by decide,by decide⟩)).app (nb (zup (by omega) (by omega)))).app (nb ⟨by decide,by decide⟩)).app (Dy.wr (ikd 1 (by omega)) _)
theorem zvt {l:List Node} (h:TR l) (hn:∀ n ∈ l,NP n) {s:List UInt8} (hs:s.length≤6000) (hc:c40 s < c40 (exS l)) {l':List Node} {ts:List Token} {o:List Node} (he:zeu s=.ok l' ts o):l≠l':=by
 rintro rfl
 have h0:=zed h.tree
 have hx:exS l=txS l (l.length - 1):=by rw[exS,if_pos h.tree]
 have h1:=zyl (cm40 hn) (zoy h.tree) (l.length - 1) (by omega)
 unfold zeu at he
 cases hl:zj1 s with
 | none=>rw[hl] at he;cases he
 | some L =>
  rw[hl] at he
  have hk:=zyb (zhU s) L hl
  have h2:=zx6 (c:=c40) mu40 (fun a b=>List.count_append) (fun t h=>by unfold μ40;rw[if_neg (by rw[h];simp)]) zyd (zhU s) L hl
  unfold exprT at he
  obtain⟨nodes,ts1,o1,hw,he⟩:=zaL he
  have h3:=(ztJ mu40 hk hw).2.2.1
  cases ts1 with
  | nil=>cases he
  | cons t r =>
   simp only at he
   split at he
   ·cases he
    rw[hx] at hc
    omega
   cases he
theorem zrl (t:List UInt8) {i k:Nat} (hi:t[i]?=some 40) (hk:t[k]?=some 41) (hik:i < k):c40 (((t.take i)++((t.drop (i+1)).take (k - (i+1))))++((t.drop (k+1)).take (t.length - (k+1)))) < c40 t:=by
 have hkl:k < t.length:=by
  by_cases h:k < t.length
  ·exact h
  rw[List.getElem?_eq_none (by omega)] at hk;cases hk
 have e1:t=t.take i++t.drop i:=(List.take_append_drop i t).symm
 have e2:t.drop i=40::t.drop (i+1):=by
  rw[List.drop_eq_getElem_cons (by omega)]
  rw[List.getElem?_eq_getElem (by omega)] at hi
  rw[Option.some.inj hi]
 have e3:t.drop (i+1)=(t.drop (i+1)).take (k - (i+1))++(t.drop (i+1)).drop (k - (i+1)):=(List.take_append_drop _ _).symm
 have e4:(t.drop (i+1)).drop (k - (i+1))=41::t.drop (k+1):=by
  rw[List.drop_drop,show i+1+(k - (i+1))=k by omega,List.drop_eq_getElem_cons hkl]
  rw[List.getElem?_eq_getElem hkl] at hk
  rw[Option.some.inj hk]
 rw[List.take_of_length_le (l:=t.drop (k+1)) (by rw[List.length_drop];omega)]
 have ht:c40 t=c40 (t.take i)+(1+(c40 ((t.drop (i+1)).take (k - (i+1)))+c40 (t.drop (k+1)))):=by
  have a:c40 t=c40 (t.take i)+c40 (t.drop i):=by unfold c40;rw[←List.count_append,List.take_append_drop]
  have b:c40 (t.drop i)=1+c40 (t.drop (i+1)):=by unfold c40;rw[e2,List.count_cons];simp;omega
  have c:c40 (t.drop (i+1))=c40 ((t.drop (i+1)).take (k - (i+1)))+c40 ((t.drop (i+1)).drop (k - (i+1))):=by unfold c40;rw[←List.count_append,List.take_append_drop]
  have d:c40 ((t.drop (i+1)).drop (k - (i+1)))=c40 (t.drop (k+1)):=by unfold c40;rw[e4,List.count_cons];simp
  omega
 rw[ht]
 unfold c40
 rw[List.count_append,List.count_append]
 omega
section
variable {l:List Node} (h:TR l) (h6:(exS l).length≤6000) (hn:∀ n ∈ l,NP n)
include h h6 hn
theorem zq6 {i k:Nat} (hi:(exS l)[i]?=some 40) (hk:(exS l)[k]?=some 41) (hik:i < k):∃ (r23:List Node) (r24:Int),zaI ((((exS l).take i)++(((exS l).drop (i+1)).take (k - (i+1))))++(((exS l).drop (k+1)).take ((exS l).length - (k+1)))) r23 r24∧(r24=0→zfO l r23 false):=by
 have hc:=zrl (exS l) hi hk hik
 have hlen:((((exS l).take i)++(((exS l).drop (i+1)).take (k - (i+1))))++(((exS l).drop (k+1)).take ((exS l).length - (k+1)))).length≤6000:=by
  have hkl:k < (exS l).length:=by
   by_cases h:k < (exS l).length
   ·exact h
   rw[List.getElem?_eq_none (by omega)] at hk;cases hk
  simp only[List.length_append,List.length_take,List.length_drop]
  omega
 generalize ((((exS l).take i)++(((exS l).drop (i+1)).take (k - (i+1))))++(((exS l).drop (k+1)).take ((exS l).length - (k+1))))=s at *
 have he:=zks s hlen
 cases hx:zeu s with
 | no=>rw[hx] at he;exact he.elim
 | er e =>
  rw[hx] at he
  by_cases e0:e=0
  ·exfalso
   subst e0
   unfold zeu at hx
   cases hl:zj1 s with
   | none=>rw[hl] at hx;cases hx
   | some L =>
    rw[hl] at hx
    have:=NE.exprT L 0 hx
    omega
  exact⟨[],e,he e0,fun h=>absurd h e0⟩
 | ok l' ts o =>
  rw[hx] at he
  refine⟨l',0,he,fun _=>?_⟩
  have ne:=zvt h hn hlen hc hx
  have:=zmD l l' (by have:=h.len;omega) (fun n hm=>⟨by have:=(h.ns n hm).kids;omega,by have:=(h.ns n hm).parts.1;omega⟩)
  rwa [decide_eq_false ne] at this
end
section
variable {l:List Node} (h:TR l) (h6:(exS l).length≤6000) (hn:∀ n ∈ l,NP n)
include h h6 hn
theorem zhG {i:Nat} (hi:(exS l)[i]?=some 40) (e:Nat):∀ (w k m:Nat),w+k=(exS l).length→i < k→1≤m→m≤k→dp (e+m) ((exS l).drop k)=some 0→zbM (exS l) l i m k true
 | w,k,m,hw,hik,hm,hmk,hd=>by
  have aw:∃ (r:Bool),zbl r∧r=true:=⟨true,ziF,rfl⟩
  by_cases hk:k < (exS l).length
  rotate_left
  ·rw[List.drop_of_length_le (by omega),dp] at hd
   have:=Option.some.inj hd
   omega
  match w,hw with
  | 0,hw=>omega
  | w+1,hw =>
  have hg:(exS l)[((k:Nat):Int).toNat]?=some (exS l)[k]:=by rw[Int.toNat_natCast];exact List.getElem?_eq_getElem hk
  have hkk:(exS l)[k]?=some (exS l)[k]:=List.getElem?_eq_getElem hk
  rw[List.drop_eq_getElem_cons hk,dp] at hd
  generalize (exS l)[k]=c at *
  have i64:I64 ((k:Int)+1):=⟨by omega,by omega⟩
  have hm0:¬ (m:Int)=0:=by omega
  have e1:((k+1:Nat):Int)=(k:Int)+1:=by omega
  by_cases h40:c=40
  ·have hc:(c.toNat:Int)=40:=by rw[h40];rfl
   rw[stD,if_pos h40,Option.bind_some] at hd
   have:=zhG hi e w (k+1) (m+1) (by omega) (by omega) (by omega) (by omega) hd
   rw[e1,show ((m+1:Nat):Int)=(m:Int)+1 by omega] at this
   exact zc1 _ _ _ _ _ _ ⟨fun _=>⟨by omega,c,hg,fun _=>⟨⟨by omega,by omega⟩,fun hf=>by omega,fun _=>⟨i64,this⟩⟩,fun hf=>absurd hc hf⟩,fun hf=>by omega⟩
  have hc40:¬ (c.toNat:Int)=40:=fun e=>h40 (UInt8.toNat_inj.1 (by have:(40:UInt8).toNat=40:=rfl;omega))
  by_cases h41:c=41
  ·have hc:(c.toNat:Int)=41:=by rw[h41];rfl
   rw[stD,if_neg h40,if_pos h41,if_neg (by omega),Option.bind_some] at hd
   refine zc1 _ _ _ _ _ _ ⟨fun _=>⟨by omega,c,hg,fun hf=>absurd hf hc40,fun _=>⟨fun _=>⟨⟨by omega,by omega⟩,fun hz=>⟨fun hf=>by omega,fun _=>?_⟩,fun hz=>⟨i64,?_⟩⟩,fun hf=>absurd hc hf⟩⟩,fun hf=>by omega⟩
   ·obtain⟨r23,r24,hp,hs⟩:=zq6 h h6 hn hi (h41 ▸ hkk) hik
    have m1:(1000000000:Int)≤zaf:=by decide
    have t1:((k:Int)+1).toNat=k+1:=by omega
    have t2:((i:Int)+1).toNat=i+1:=by omega
    rw[t1,t2,Int.toNat_natCast,Int.toNat_natCast]
    refine⟨by omega,by omega,⟨by omega,by omega⟩,by omega,by omega,by omega,by omega,?_,i64,by omega,by omega,?_,r23,r24,hp,r24,zi6 r24,fun e0=>⟨false,hs e0,fun hf=>(by cases hf),fun _=>aw⟩,fun _=>aw⟩
    ·simp only[List.length_take,List.length_drop];omega
    simp only[List.length_take,List.length_drop];omega
   have:=zhG hi e w (k+1) (m - 1) (by omega) (by omega) (by omega) (by omega) (by rw[show e+(m - 1)=e+m - 1 by omega];exact hd)
   rw[e1,show ((m - 1:Nat):Int)=(m:Int) - 1 by omega] at this
   exact this
  have hc41:¬ (c.toNat:Int)=41:=fun e=>h41 (UInt8.toNat_inj.1 (by have:(41:UInt8).toNat=41:=rfl;omega))
  rw[stD,if_neg h40,if_neg h41,Option.bind_some] at hd
  have:=zhG hi e w (k+1) m (by omega) (by omega) (by omega) (by omega) hd
  rw[e1] at this
  exact zc1 _ _ _ _ _ _ ⟨fun _=>⟨by omega,c,hg,fun hf=>absurd hf hc40,fun _=>⟨fun hf=>absurd hf hc41,fun _=>⟨fun hf=>absurd hf hm0,fun _=>⟨i64,this⟩⟩⟩⟩,fun hf=>by omega⟩
theorem zkr (which:UInt8) (hdy:Dy (exS l)):∀ (w i n:Nat),w+i=(exS l).length→n≤i→zca which (exS l) l n i true
 | w,i,n,hw,hni=>by
  have aw:∃ (r:Bool),zbl r∧r=true:=⟨true,ziF,rfl⟩
  by_cases hi:i < (exS l).length
  rotate_left
  ·exact zeo _ _ _ _ _ _ ⟨fun hf=>by omega,fun _=>aw⟩
  match w,hw with
  | 0,hw=>omega
  | w+1,hw =>
  have hg:(exS l)[((i:Nat):Int).toNat]?=some (exS l)[i]:=by rw[Int.toNat_natCast];exact List.getElem?_eq_getElem hi
  have hii:(exS l)[i]?=some (exS l)[i]:=List.getElem?_eq_getElem hi
  have hdr:(exS l).drop i=(exS l)[i]::(exS l).drop (i+1):=List.drop_eq_getElem_cons hi
  have i64:I64 ((i:Int)+1):=⟨by omega,by omega⟩
  have n64:I64 ((n:Int)+1):=⟨by omega,by omega⟩
  have n64':I64 ((n:Int)+1 - 1):=⟨by omega,by omega⟩
  have w64:I64 ((which.toNat:Int)):=by have:=which.toNat_lt;exact⟨by omega,by omega⟩
  have e1:((i+1:Nat):Int)=(i:Int)+1:=by omega
  have nx0:=zkr which hdy w (i+1) n (by omega) (by omega)
  have nx1:=zkr which hdy w (i+1) (n+1) (by omega) (by omega)
  rw[e1] at nx0 nx1
  rw[show ((n+1:Nat):Int)=(n:Int)+1 by omega] at nx1
  by_cases h40:(exS l)[i]=40
  ·have two:zbM (exS l) l i 0 i true:=by
    have hd0:=hdy 0
    rw[←List.take_append_drop i (exS l),zi8] at hd0
    cases hdp:dp 0 ((exS l).take i) with
    | none=>rw[hdp] at hd0;cases hd0
    | some e =>
     rw[hdp,Option.bind_some,hdr,dp,stD,if_pos h40,Option.bind_some] at hd0
     have:=zhG h h6 hn (i:=i) (by rw[hii,h40]) e w (i+1) 1 (by omega) (by omega) (Nat.le_refl _) (by omega) hd0
     rw[e1] at this
     have hc:(((exS l)[i]).toNat:Int)=40:=by rw[h40];rfl
     exact zc1 _ _ _ _ _ _ ⟨fun _=>⟨by omega,_,hg,fun _=>⟨⟨by omega,by omega⟩,fun hf=>by omega,fun _=>⟨i64,this⟩⟩,fun hf=>absurd hc hf⟩,fun hf=>by omega⟩
   have hc:(((exS l)[i]).toNat:Int)=40:=by rw[h40];rfl
   have here:(I64 ((n:Int)+1))∧(I64 (((n:Int)+1) - 1))∧(I64 ((which.toNat:Int)))∧(((((n:Int)+1) - 1)=((which.toNat:Int).tmod 6))→zbM (exS l) l i 0 i true)∧(¬ ((((n:Int)+1) - 1)=((which.toNat:Int).tmod 6))→(I64 ((i:Int)+1))∧zca which (exS l) l ((n:Int)+1) ((i:Int)+1) true):=⟨n64,n64',w64,fun _=>two,fun _=>⟨i64,nx1⟩⟩
   refine zeo _ _ _ _ _ _ ⟨fun _=>⟨by omega,_,hg,fun hf=>by omega,fun _=>⟨fun _=>⟨fun hp=>?_,fun _=>here⟩,fun hf=>absurd hc hf⟩⟩,fun hf=>by omega⟩
   have hg':(exS l)[((i:Int) - 1).toNat]?=some ((exS l)[i - 1]'(by omega)):=by rw[show ((i:Int) - 1).toNat=i - 1 by omega];exact List.getElem?_eq_getElem (by omega)
   exact⟨⟨by omega,by omega⟩,by omega,_,hg',fun _=>⟨⟨by omega,by omega⟩,fun _=>⟨i64,nx0⟩,fun _=>here⟩,fun _=>here⟩
  have hc:¬ (((exS l)[i]).toNat:Int)=40:=fun e=>h40 (UInt8.toNat_inj.1 (by have:(40:UInt8).toNat=40:=rfl;omega))
  exact zeo _ _ _ _ _ _ ⟨fun _=>⟨by omega,_,hg,fun _=>aw,fun _=>⟨fun hf=>absurd hf hc,fun _=>⟨i64,nx0⟩⟩⟩,fun hf=>by omega⟩
end
theorem zn6 (ns:List UInt8) (which:UInt8):ztZ ns which true:=by
 have aw:∃ (r:Bool),zbl r∧r=true:=⟨true,ziF,rfl⟩
 refine zvn _ _ _ ⟨fun _=>aw,fun _=>?_⟩
 obtain⟨l,hm,hl⟩:=zxY ns
 rcases hl with rfl | ⟨h,h6,hn⟩
 ·obtain⟨_,e,he,h0⟩:=ztW
  have hp:zaI [] [] e:=by
   have:=zks [] (by decide)
   rw[he] at this
   exact this h0
  exact⟨_,hm,_,zec [] (by decide) (fun n hn=>by cases hn),[],e,by rw[zv2];exact hp,e,zi6 e,fun hf=>absurd hf h0,fun _=>aw⟩
 have t0:=zed h.tree
 have hx:exS l=txS l (l.length - 1):=by rw[exS,if_pos h.tree]
 have hdy:Dy (exS l):=by rw[hx];exact zyJ (zoy h.tree) hn _ (by omega)
 rcases zsD h h6 with hp | hp
 ·exact⟨_,hm,_,zec l h.len h.ns,l,0,hp,0,zi6 0,fun _=>zkr h h6 hn which hdy (exS l).length 0 0 (by omega) (by omega),fun hf=>absurd rfl hf⟩
 exact⟨_,hm,_,zec l h.len h.ns,[],6,hp,6,zi6 6,fun hf=>absurd hf (by decide),fun _=>aw⟩
end Go.Proofs.YtfbcnpbhhooapaaGreatDoor.M
namespace Go.Proofs
open Go.Shelf
def Tryz.lays137_ren:Go.Shelf.Ren:=⟨fun | 137=>179 | 217=>186 | 266=>209 | n=>n,fun | 9=>9 | 5=>5 | 3=>3 | n=>n,fun | n=>n⟩
theorem Tryz.lays137:Go.Proofs.Lays.n137 Tryz.prog Tryz.lays137_ren:={
  mixed:=by kernel_rfl
  f137:=Tryz.func179.trans (congrArg some (by kernel_rfl))
  f217:=Tryz.func186.trans (congrArg some (by kernel_rfl))
  f266:=Tryz.func209.trans (congrArg some (by kernel_rfl))
  t3:=Tryz.underlying3
  a3:=Tryz.isAgg3
  z3:=Tryz.sizeOf3
  v3:=Tryz.zeroValue3
  t5:=Tryz.underlying5
  a5:=Tryz.isAgg5
  z5:=Tryz.sizeOf5
  v5:=Tryz.zeroValue5
  t9:=Tryz.underlying9
  a9:=Tryz.isAgg9
  z9:=Tryz.sizeOf9
  v9:=Tryz.zeroValue9 }
open Go.RowKit in
theorem Tryz.strings_IndexByte (s:ByteArray) (c:Int) (w:World) :
    Calls Tryz.prog 179 #[.string s,.int .u8 c] w fun e w'=>e=.returned (.int .i64 (Lib.indexByte s.data.toList c.toNat.toUInt8))∧w'=w:=Any.strings_IndexByte Tryz.lays137 s c w
def Tryz.lays121_ren:Go.Shelf.Ren:=⟨fun | 121=>108 | 214=>147 | n=>n,fun | 4=>4 | 9=>9 | n=>n,fun | n=>n⟩
theorem Tryz.lays121:Go.Proofs.Lays.n121 Tryz.prog Tryz.lays121_ren:={
  mixed:=by kernel_rfl
  f121:=Tryz.func108.trans (congrArg some (by kernel_rfl))
  f214:=Tryz.func147.trans (congrArg some (by kernel_rfl))
  t4:=Tryz.underlying4
  a4:=Tryz.isAgg4
  z4:=Tryz.sizeOf4
  v4:=Tryz.zeroValue4
  t9:=Tryz.underlying9
  a9:=Tryz.isAgg9
  z9:=Tryz.sizeOf9
  v9:=Tryz.zeroValue9 }
open Go.RowKit in
theorem Tryz.strconv_FormatBool (b:Bool) (w:World) :
    Calls Tryz.prog 108 #[.bool b] w fun e w'=>e=.returned (.string ⟨(Lib.formatBool b).toArray⟩)∧w'=w:=Any.strconv_FormatBool Tryz.lays121 b w
def Tryz.laysM171_ren:Go.Shelf.Ren:=⟨fun | 171=>106 | 243=>145 | 246=>168 | 283=>182 | 284=>183 | 285=>184 | 286=>185 | 129=>205 | 317=>204 | 318=>206 | 319=>207 | 320=>208 | 337=>214 | 338=>215 | n=>n,fun | 3=>3 | 9=>9 | 2=>2 | 4=>4 | 171=>208 | 0=>0 | 53=>66 | 37=>22 | 5=>5 | 173=>211 | 212=>223 | 51=>182 | 20=>20 | 213=>224 | 46=>161 | 232=>243 | 233=>244 | n=>n,fun | 17=>1 | 18=>6 | 19=>7 | n=>n⟩
theorem Tryz.laysM171:Go.Proofs.LaysM.n171 Tryz.prog Tryz.laysM171_ren:={
  mixed:=by kernel_rfl
  f129:=Tryz.func205.trans (congrArg some (by kernel_rfl))
  f171:=Tryz.func106.trans (congrArg some (by kernel_rfl))
  f243:=Tryz.func145.trans (congrArg some (by kernel_rfl))
  f246:=Tryz.func168.trans (congrArg some (by kernel_rfl))
  f283:=Tryz.func182.trans (congrArg some (by kernel_rfl))
  f284:=Tryz.func183.trans (congrArg some (by kernel_rfl))
  f285:=Tryz.func184.trans (congrArg some (by kernel_rfl))
  f286:=Tryz.func185.trans (congrArg some (by kernel_rfl))
  f317:=Tryz.func204.trans (congrArg some (by kernel_rfl))
  f318:=Tryz.func206.trans (congrArg some (by kernel_rfl))
  f319:=Tryz.func207.trans (congrArg some (by kernel_rfl))
  f320:=Tryz.func208.trans (congrArg some (by kernel_rfl))
  f337:=Tryz.func214.trans (congrArg some (by kernel_rfl))
  f338:=Tryz.func215.trans (congrArg some (by kernel_rfl))
  t0:=Tryz.underlying0
  a0:=Tryz.isAgg0
  z0:=Tryz.sizeOf0
  v0:=Tryz.zeroValue0
  t2:=Tryz.underlying2
  a2:=Tryz.isAgg2
  z2:=Tryz.sizeOf2
  v2:=Tryz.zeroValue2
  t3:=Tryz.underlying3
  a3:=Tryz.isAgg3
  z3:=Tryz.sizeOf3
  v3:=Tryz.zeroValue3
  t4:=Tryz.underlying4
  a4:=Tryz.isAgg4
  z4:=Tryz.sizeOf4
  v4:=Tryz.zeroValue4
  t5:=Tryz.underlying5
  a5:=Tryz.isAgg5
  z5:=Tryz.sizeOf5
  v5:=Tryz.zeroValue5
  t9:=Tryz.underlying9
  a9:=Tryz.isAgg9
  z9:=Tryz.sizeOf9
  v9:=Tryz.zeroValue9
  t20:=Tryz.underlying20
  a20:=Tryz.isAgg20
  z20:=Tryz.sizeOf20
  v20:=Tryz.zeroValue20
  t37:=Tryz.underlying22
  a37:=Tryz.isAgg22
  z37:=Tryz.sizeOf22
  v37:=Tryz.zeroValue22
  t46:=Tryz.underlying161
  a46:=Tryz.isAgg161
  z46:=Tryz.sizeOf161
  v46:=Tryz.zeroValue161
  t51:=Tryz.underlying182
  a51:=Tryz.isAgg182
  z51:=Tryz.sizeOf182
  v51:=Tryz.zeroValue182
  t53:=Tryz.underlying66
  a53:=Tryz.isAgg66
  z53:=Tryz.sizeOf66
  v53:=Tryz.zeroValue66
  t171:=Tryz.underlying208
  a171:=Tryz.isAgg208
  z171:=Tryz.sizeOf208
  v171:=Tryz.zeroValue208
  t173:=Tryz.underlying211
  a173:=Tryz.isAgg211
  z173:=Tryz.sizeOf211
  v173:=Tryz.zeroValue211
  t212:=Tryz.underlying223
  a212:=Tryz.isAgg223
  z212:=Tryz.sizeOf223
  v212:=Tryz.zeroValue223
  t213:=Tryz.underlying224
  a213:=Tryz.isAgg224
  z213:=Tryz.sizeOf224
  t232:=Tryz.underlying243
  a232:=Tryz.isAgg243
  z232:=Tryz.sizeOf243
  v232:=Tryz.zeroValue243
  t233:=Tryz.underlying244
  a233:=Tryz.isAgg244
  z233:=Tryz.sizeOf244
  v233:=Tryz.zeroValue244
  g17:=by kernel_rfl
  g18:=by kernel_rfl
  g19:=by kernel_rfl
  i0:=by kernel_rfl
  i2:=by kernel_rfl
  i3:=by kernel_rfl
  i4:=by kernel_rfl
  i5:=by kernel_rfl
  i9:=by kernel_rfl
  i20:=by kernel_rfl
  i37:=by kernel_rfl
  i46:=by kernel_rfl
  i51:=by kernel_rfl
  i53:=by kernel_rfl
  i171:=by kernel_rfl
  i173:=by kernel_rfl
  i212:=by kernel_rfl
  i232:=by kernel_rfl
  i233:=by kernel_rfl
  m17:=by kernel_rfl
  m18:=by kernel_rfl
  m19:=by kernel_rfl }
open Go.RowKit Go.Sort Go.Lib in
theorem Tryz.strconv_Itoa (n:Int) (h0:-9223372036854775808≤n) (h1:n≤9223372036854775807) (w:World) (htab:Lib.TabIs Tryz.prog w "internal/strconv.uint64pow10" .u64 Lib.pow10Tab) :
    Calls Tryz.prog 106 #[.int .i64 n] w fun e w'=>e=.returned (.string ⟨(Lib.itoa n).toArray⟩)∧∃ k os,w'=grow (w.drewN k) os:=Any.strconv_Itoa Tryz.laysM171 n h0 h1 w htab
def Tryz.laysC172_ren:Go.Shelf.Ren:=⟨fun | 172=>163 | 244=>177 | 245=>178 | 247=>196 | 279=>197 | 280=>198 | 281=>199 | 282=>200 | 287=>211 | 316=>212 | 171=>106 | 205=>213 | 321=>216 | 322=>217 | 243=>145 | 246=>168 | 283=>182 | 284=>183 | 285=>184 | 286=>185 | 129=>205 | 317=>204 | 318=>206 | 319=>207 | 320=>208 | 337=>214 | 338=>215 | n=>n,fun | 9=>9 | 3=>3 | 75=>169 | 76=>170 | 4=>4 | 5=>5 | 167=>215 | 37=>22 | 0=>0 | 85=>216 | 2=>2 | 168=>218 | 53=>66 | 175=>232 | 46=>161 | 210=>236 | 127=>187 | 145=>242 | 143=>240 | 21=>21 | 171=>208 | 173=>211 | 212=>223 | 51=>182 | 20=>20 | 213=>224 | 232=>243 | 233=>244 | 80=>121 | n=>n,fun | 15=>4 | 16=>5 | 17=>1 | 18=>6 | 19=>7 | n=>n⟩
theorem Tryz.laysC172:Go.Proofs.LaysC.n172 Tryz.prog Tryz.laysC172_ren:={
  mixed:=by kernel_rfl
  f129:=Tryz.func205.trans (congrArg some (by kernel_rfl))
  f171:=Tryz.func106.trans (congrArg some (by kernel_rfl))
  f172:=Tryz.func163.trans (congrArg some (by kernel_rfl))
  f205:=Tryz.func213.trans (congrArg some (by kernel_rfl))
  f243:=Tryz.func145.trans (congrArg some (by kernel_rfl))
  f244:=Tryz.func177.trans (congrArg some (by kernel_rfl))
  f245:=Tryz.func178.trans (congrArg some (by kernel_rfl))
  f246:=Tryz.func168.trans (congrArg some (by kernel_rfl))
  f247:=Tryz.func196.trans (congrArg some (by kernel_rfl))
  f279:=Tryz.func197.trans (congrArg some (by kernel_rfl))
  f280:=Tryz.func198.trans (congrArg some (by kernel_rfl))
  f281:=Tryz.func199.trans (congrArg some (by kernel_rfl))
  f282:=Tryz.func200.trans (congrArg some (by kernel_rfl))
  f283:=Tryz.func182.trans (congrArg some (by kernel_rfl))
  f284:=Tryz.func183.trans (congrArg some (by kernel_rfl))
  f285:=Tryz.func184.trans (congrArg some (by kernel_rfl))
  f286:=Tryz.func185.trans (congrArg some (by kernel_rfl))
  f287:=Tryz.func211.trans (congrArg some (by kernel_rfl))
  f316:=Tryz.func212.trans (congrArg some (by kernel_rfl))
  f317:=Tryz.func204.trans (congrArg some (by kernel_rfl))
  f318:=Tryz.func206.trans (congrArg some (by kernel_rfl))
  f319:=Tryz.func207.trans (congrArg some (by kernel_rfl))
  f320:=Tryz.func208.trans (congrArg some (by kernel_rfl))
  f321:=Tryz.func216.trans (congrArg some (by kernel_rfl))
  f322:=Tryz.func217.trans (congrArg some (by kernel_rfl))
  f337:=Tryz.func214.trans (congrArg some (by kernel_rfl))
  f338:=Tryz.func215.trans (congrArg some (by kernel_rfl))
  t0:=Tryz.underlying0
  a0:=Tryz.isAgg0
  z0:=Tryz.sizeOf0
  v0:=Tryz.zeroValue0
  t2:=Tryz.underlying2
  a2:=Tryz.isAgg2
  z2:=Tryz.sizeOf2
  v2:=Tryz.zeroValue2
  t3:=Tryz.underlying3
  a3:=Tryz.isAgg3
  z3:=Tryz.sizeOf3
  v3:=Tryz.zeroValue3
  t4:=Tryz.underlying4
  a4:=Tryz.isAgg4
  z4:=Tryz.sizeOf4
  v4:=Tryz.zeroValue4
  t5:=Tryz.underlying5
  a5:=Tryz.isAgg5
  z5:=Tryz.sizeOf5
  v5:=Tryz.zeroValue5
  t9:=Tryz.underlying9
  a9:=Tryz.isAgg9
  z9:=Tryz.sizeOf9
  v9:=Tryz.zeroValue9
  t20:=Tryz.underlying20
  a20:=Tryz.isAgg20
  z20:=Tryz.sizeOf20
  v20:=Tryz.zeroValue20
  t21:=Tryz.underlying21
  a21:=Tryz.isAgg21
  z21:=Tryz.sizeOf21
  v21:=Tryz.zeroValue21
  t37:=Tryz.underlying22
  a37:=Tryz.isAgg22
  z37:=Tryz.sizeOf22
  v37:=Tryz.zeroValue22
  t46:=Tryz.underlying161
  a46:=Tryz.isAgg161
  z46:=Tryz.sizeOf161
  v46:=Tryz.zeroValue161
  t51:=Tryz.underlying182
  a51:=Tryz.isAgg182
  z51:=Tryz.sizeOf182
  v51:=Tryz.zeroValue182
  t53:=Tryz.underlying66
  a53:=Tryz.isAgg66
  z53:=Tryz.sizeOf66
  v53:=Tryz.zeroValue66
  t75:=Tryz.underlying169
  a75:=Tryz.isAgg169
  z75:=Tryz.sizeOf169
  v75:=Tryz.zeroValue169
  t76:=Tryz.underlying170
  a76:=Tryz.isAgg170
  z76:=Tryz.sizeOf170
  v76:=Tryz.zeroValue170
  t85:=Tryz.underlying216
  a85:=Tryz.isAgg216
  z85:=Tryz.sizeOf216
  v85:=Tryz.zeroValue216
  t127:=Tryz.underlying187
  a127:=Tryz.isAgg187
  z127:=Tryz.sizeOf187
  v127:=Tryz.zeroValue187
  t143:=Tryz.underlying240
  a143:=Tryz.isAgg240
  z143:=Tryz.sizeOf240
  v143:=Tryz.zeroValue240
  t145:=Tryz.underlying242
  a145:=Tryz.isAgg242
  z145:=Tryz.sizeOf242
  v145:=Tryz.zeroValue242
  t167:=Tryz.underlying215
  a167:=Tryz.isAgg215
  z167:=Tryz.sizeOf215
  v167:=Tryz.zeroValue215
  t168:=Tryz.underlying218
  a168:=Tryz.isAgg218
  z168:=Tryz.sizeOf218
  v168:=Tryz.zeroValue218
  t171:=Tryz.underlying208
  a171:=Tryz.isAgg208
  z171:=Tryz.sizeOf208
  v171:=Tryz.zeroValue208
  t173:=Tryz.underlying211
  a173:=Tryz.isAgg211
  z173:=Tryz.sizeOf211
  v173:=Tryz.zeroValue211
  t175:=Tryz.underlying232
  a175:=Tryz.isAgg232
  z175:=Tryz.sizeOf232
  v175:=Tryz.zeroValue232
  t210:=Tryz.underlying236
  a210:=Tryz.isAgg236
  z210:=Tryz.sizeOf236
  v210:=Tryz.zeroValue236
  t212:=Tryz.underlying223
  a212:=Tryz.isAgg223
  z212:=Tryz.sizeOf223
  v212:=Tryz.zeroValue223
  t213:=Tryz.underlying224
  a213:=Tryz.isAgg224
  z213:=Tryz.sizeOf224
  t232:=Tryz.underlying243
  a232:=Tryz.isAgg243
  z232:=Tryz.sizeOf243
  v232:=Tryz.zeroValue243
  t233:=Tryz.underlying244
  a233:=Tryz.isAgg244
  z233:=Tryz.sizeOf244
  v233:=Tryz.zeroValue244
  g15:=by kernel_rfl
  g16:=by kernel_rfl
  g17:=by kernel_rfl
  g18:=by kernel_rfl
  g19:=by kernel_rfl
  t80:=Tryz.underlying121
  a80:=Tryz.isAgg121
  z80:=Tryz.sizeOf121
  v80:=Tryz.zeroValue121
  i0:=by kernel_rfl
  i2:=by kernel_rfl
  i3:=by kernel_rfl
  i4:=by kernel_rfl
  i5:=by kernel_rfl
  i9:=by kernel_rfl
  i20:=by kernel_rfl
  i21:=by kernel_rfl
  i37:=by kernel_rfl
  i46:=by kernel_rfl
  i51:=by kernel_rfl
  i53:=by kernel_rfl
  i75:=by kernel_rfl
  i76:=by kernel_rfl
  i80:=by kernel_rfl
  i85:=by kernel_rfl
  i127:=by kernel_rfl
  i143:=by kernel_rfl
  i145:=by kernel_rfl
  i167:=by kernel_rfl
  i168:=by kernel_rfl
  i171:=by kernel_rfl
  i173:=by kernel_rfl
  i175:=by kernel_rfl
  i210:=by kernel_rfl
  i212:=by kernel_rfl
  i232:=by kernel_rfl
  i233:=by kernel_rfl
  m15:=by kernel_rfl
  m16:=by kernel_rfl
  m17:=by kernel_rfl
  m18:=by kernel_rfl
  m19:=by kernel_rfl
  c0:=by kernel_rfl
  c2:=by kernel_rfl
  c3:=by kernel_rfl
  c4:=by kernel_rfl
  c5:=by kernel_rfl
  c9:=by kernel_rfl
  c20:=by kernel_rfl
  c21:=by kernel_rfl
  c37:=by kernel_rfl
  c46:=by kernel_rfl
  c51:=by kernel_rfl
  c53:=by kernel_rfl
  c75:=by kernel_rfl
  c76:=by kernel_rfl
  c80:=by kernel_rfl
  c85:=by kernel_rfl
  c127:=by kernel_rfl
  c143:=by kernel_rfl
  c145:=by kernel_rfl
  c167:=by kernel_rfl
  c168:=by kernel_rfl
  c171:=by kernel_rfl
  c173:=by kernel_rfl
  c175:=by kernel_rfl
  c210:=by kernel_rfl
  c212:=by kernel_rfl
  c213:=by kernel_rfl
  c232:=by kernel_rfl
  c233:=by kernel_rfl }
open Go.RowKit in
theorem Tryz.strconv_Atoi_ok (s:ByteArray) (hmax:s.size≤9223372036854775806) (v:Int) (h:Lib.atoiAll s.data.toList=.ok v) (w:World) :
    Calls Tryz.prog 163 #[.string s] w fun e w'=>e=.returned (.tuple #[.int .i64 v,.nilIface])∧(w'=w∨∃ t,w'=Lib.bytesWorld w 5 t):=Any.strconv_Atoi_ok Tryz.laysC172 s hmax v h w
open Go.RowKit in
theorem Tryz.strconv_Atoi_syntax (s:ByteArray) (hlim:s.size≤281474976710656) (h:Lib.atoiAll s.data.toList=.syntax) (ev:Value) (w:World) (hv:w.cell? ⟨4,0,none⟩=some ev) (hev:ev=.nilIface∨∃ te pe,ev=.iface te pe) :
    Calls Tryz.prog 163 #[.string s] w fun e w'=>∃ N,e=.returned (.tuple #[.int .i64 (0),.iface 218 (.pointer (some ⟨N,0,none⟩))])∧w.heap.size≤N∧w'.heap[N]?=some (.cells #[.string ⟨#[65,116,111,105]⟩,.string s,ev] 236 (0,0))∧Below w.heap.size w w':=Any.strconv_Atoi_syntax Tryz.laysC172 s hlim h ev w hv hev
open Go.RowKit in
theorem Tryz.strconv_Atoi_range (s:ByteArray) (hlim:s.size≤281474976710656) (h:Lib.atoiAll s.data.toList=.range) (ev:Value) (w:World) (hv:w.cell? ⟨5,0,none⟩=some ev) (hev:ev=.nilIface∨∃ te pe,ev=.iface te pe) :
    Calls Tryz.prog 163 #[.string s] w fun e w'=>∃ N,e=.returned (.tuple #[.int .i64 (Lib.atoiSat s.data.toList),.iface 218 (.pointer (some ⟨N,0,none⟩))])∧w.heap.size≤N∧w'.heap[N]?=some (.cells #[.string ⟨#[65,116,111,105]⟩,.string s,ev] 236 (0,0))∧Below w.heap.size w w':=Any.strconv_Atoi_range Tryz.laysC172 s hlim h ev w hv hev
def Tryz.lays144_ren:Go.Shelf.Ren:=⟨fun | 144=>162 | 143=>172 | 219=>169 | 217=>186 | 225=>187 | 224=>188 | 267=>189 | 266=>209 | 314=>210 | n=>n,fun | 9=>9 | 4=>4 | 3=>3 | 5=>5 | 46=>161 | 146=>183 | 51=>182 | n=>n,fun | 1=>0 | n=>n⟩
theorem Tryz.lays144:Go.Proofs.Lays.n144 Tryz.prog Tryz.lays144_ren:={
  mixed:=by kernel_rfl
  f143:=Tryz.func172.trans (congrArg some (by kernel_rfl))
  f144:=Tryz.func162.trans (congrArg some (by kernel_rfl))
  f217:=Tryz.func186.trans (congrArg some (by kernel_rfl))
  f219:=Tryz.func169.trans (congrArg some (by kernel_rfl))
  f224:=Tryz.func188.trans (congrArg some (by kernel_rfl))
  f225:=Tryz.func187.trans (congrArg some (by kernel_rfl))
  f266:=Tryz.func209.trans (congrArg some (by kernel_rfl))
  f267:=Tryz.func189.trans (congrArg some (by kernel_rfl))
  f314:=Tryz.func210.trans (congrArg some (by kernel_rfl))
  t3:=Tryz.underlying3
  a3:=Tryz.isAgg3
  z3:=Tryz.sizeOf3
  v3:=Tryz.zeroValue3
  t4:=Tryz.underlying4
  a4:=Tryz.isAgg4
  z4:=Tryz.sizeOf4
  v4:=Tryz.zeroValue4
  t5:=Tryz.underlying5
  a5:=Tryz.isAgg5
  z5:=Tryz.sizeOf5
  v5:=Tryz.zeroValue5
  t9:=Tryz.underlying9
  a9:=Tryz.isAgg9
  z9:=Tryz.sizeOf9
  v9:=Tryz.zeroValue9
  t46:=Tryz.underlying161
  a46:=Tryz.isAgg161
  z46:=Tryz.sizeOf161
  v46:=Tryz.zeroValue161
  t51:=Tryz.underlying182
  a51:=Tryz.isAgg182
  z51:=Tryz.sizeOf182
  v51:=Tryz.zeroValue182
  t146:=Tryz.underlying183
  a146:=Tryz.isAgg183
  z146:=Tryz.sizeOf183
  v146:=Tryz.zeroValue183
  g1:=by kernel_rfl }
open Go.RowKit Go.Lib in
theorem Tryz.strings_Contains (s sub:ByteArray) (m:Int) (w:World) (hs:s.size < 4294967281) (hm:w.cell? ⟨0,0,none⟩=some (.int .i64 m)) :
    Calls Tryz.prog 162 #[.string s,.string sub] w fun e w'=>e=.returned (.bool (Lib.contains s.data.toList sub.data.toList))∧w'=w:=Any.strings_Contains Tryz.lays144 s sub m w hs hm
def Tryz.lays145_ren:Go.Shelf.Ren:=⟨fun | 145=>112 | 220=>150 | 219=>169 | 217=>186 | 225=>187 | 224=>188 | 267=>189 | 266=>209 | 314=>210 | n=>n,fun | 9=>9 | 4=>4 | 59=>155 | 3=>3 | 5=>5 | 46=>161 | 146=>183 | 51=>182 | n=>n,fun | 1=>0 | n=>n⟩
theorem Tryz.lays145:Go.Proofs.Lays.n145 Tryz.prog Tryz.lays145_ren:={
  mixed:=by kernel_rfl
  f145:=Tryz.func112.trans (congrArg some (by kernel_rfl))
  f217:=Tryz.func186.trans (congrArg some (by kernel_rfl))
  f219:=Tryz.func169.trans (congrArg some (by kernel_rfl))
  f220:=Tryz.func150.trans (congrArg some (by kernel_rfl))
  f224:=Tryz.func188.trans (congrArg some (by kernel_rfl))
  f225:=Tryz.func187.trans (congrArg some (by kernel_rfl))
  f266:=Tryz.func209.trans (congrArg some (by kernel_rfl))
  f267:=Tryz.func189.trans (congrArg some (by kernel_rfl))
  f314:=Tryz.func210.trans (congrArg some (by kernel_rfl))
  t3:=Tryz.underlying3
  a3:=Tryz.isAgg3
  z3:=Tryz.sizeOf3
  v3:=Tryz.zeroValue3
  t4:=Tryz.underlying4
  a4:=Tryz.isAgg4
  z4:=Tryz.sizeOf4
  v4:=Tryz.zeroValue4
  t5:=Tryz.underlying5
  a5:=Tryz.isAgg5
  z5:=Tryz.sizeOf5
  v5:=Tryz.zeroValue5
  t9:=Tryz.underlying9
  a9:=Tryz.isAgg9
  z9:=Tryz.sizeOf9
  v9:=Tryz.zeroValue9
  t46:=Tryz.underlying161
  a46:=Tryz.isAgg161
  z46:=Tryz.sizeOf161
  v46:=Tryz.zeroValue161
  t51:=Tryz.underlying182
  a51:=Tryz.isAgg182
  z51:=Tryz.sizeOf182
  v51:=Tryz.zeroValue182
  t59:=Tryz.underlying155
  a59:=Tryz.isAgg155
  z59:=Tryz.sizeOf155
  v59:=Tryz.zeroValue155
  t146:=Tryz.underlying183
  a146:=Tryz.isAgg183
  z146:=Tryz.sizeOf183
  v146:=Tryz.zeroValue183
  g1:=by kernel_rfl }
open Go.RowKit Go.Lib in
theorem Tryz.strings_Cut (s sep:ByteArray) (m:Int) (w:World) (hs:s.size < 4294967281) (hm:w.cell? ⟨0,0,none⟩=some (.int .i64 m)) :
    Calls Tryz.prog 112 #[.string s,.string sep] w fun e w'=>e=.returned (.tuple #[.string ⟨(Lib.cut s.data.toList sep.data.toList).1.toArray⟩,.string ⟨(Lib.cut s.data.toList sep.data.toList).2.1.toArray⟩,.bool (Lib.cut s.data.toList sep.data.toList).2.2])∧∃ n,w'=w.drewN n:=Any.strings_Cut Tryz.lays145 s sep m w hs hm
def Tryz.lays99_ren:Go.Shelf.Ren:=⟨fun | 99=>129 | 206=>158 | n=>n,fun | 9=>9 | 4=>4 | 3=>3 | n=>n,fun | n=>n⟩
theorem Tryz.lays99:Go.Proofs.Lays.n99 Tryz.prog Tryz.lays99_ren:={
  mixed:=by kernel_rfl
  f99:=Tryz.func129.trans (congrArg some (by kernel_rfl))
  f206:=Tryz.func158.trans (congrArg some (by kernel_rfl))
  t3:=Tryz.underlying3
  a3:=Tryz.isAgg3
  z3:=Tryz.sizeOf3
  v3:=Tryz.zeroValue3
  t4:=Tryz.underlying4
  a4:=Tryz.isAgg4
  z4:=Tryz.sizeOf4
  v4:=Tryz.zeroValue4
  t9:=Tryz.underlying9
  a9:=Tryz.isAgg9
  z9:=Tryz.sizeOf9
  v9:=Tryz.zeroValue9 }
open Go.RowKit Go.Lib in
theorem Tryz.strings_HasPrefix (s p:ByteArray) (w:World) :
    Calls Tryz.prog 129 #[.string s,.string p] w fun e w'=>e=.returned (.bool (Lib.hasPrefix s.data.toList p.data.toList))∧w'=w:=Any.strings_HasPrefix Tryz.lays99 s p w
def Tryz.lays155_ren:Go.Shelf.Ren:=⟨fun | 155=>120 | 154=>153 | 138=>171 | 165=>130 | 143=>172 | 166=>131 | 197=>173 | 169=>133 | 195=>191 | 218=>192 | 240=>159 | 241=>160 | 219=>169 | 260=>193 | 276=>175 | 277=>176 | 217=>186 | 225=>187 | 224=>188 | 267=>189 | 266=>209 | 314=>210 | n=>n,fun | 9=>9 | 3=>3 | 4=>4 | 72=>167 | 0=>0 | 76=>170 | 105=>200 | 21=>21 | 5=>5 | 70=>165 | 20=>20 | 37=>22 | 75=>169 | 127=>187 | 164=>202 | 46=>161 | 119=>228 | 139=>231 | 138=>230 | 146=>183 | 51=>182 | 80=>121 | n=>n,fun | 1=>0 | 3=>2 | 4=>3 | n=>n⟩
theorem Tryz.lays155:Go.Proofs.Lays.n155 Tryz.prog Tryz.lays155_ren:={
  mixed:=by kernel_rfl
  f138:=Tryz.func171.trans (congrArg some (by kernel_rfl))
  f143:=Tryz.func172.trans (congrArg some (by kernel_rfl))
  f154:=Tryz.func153.trans (congrArg some (by kernel_rfl))
  f155:=Tryz.func120.trans (congrArg some (by kernel_rfl))
  f165:=Tryz.func130.trans (congrArg some (by kernel_rfl))
  f166:=Tryz.func131.trans (congrArg some (by kernel_rfl))
  f169:=Tryz.func133.trans (congrArg some (by kernel_rfl))
  f195:=Tryz.func191.trans (congrArg some (by kernel_rfl))
  f197:=Tryz.func173.trans (congrArg some (by kernel_rfl))
  f217:=Tryz.func186.trans (congrArg some (by kernel_rfl))
  f218:=Tryz.func192.trans (congrArg some (by kernel_rfl))
  f219:=Tryz.func169.trans (congrArg some (by kernel_rfl))
  f224:=Tryz.func188.trans (congrArg some (by kernel_rfl))
  f225:=Tryz.func187.trans (congrArg some (by kernel_rfl))
  f240:=Tryz.func159.trans (congrArg some (by kernel_rfl))
  f241:=Tryz.func160.trans (congrArg some (by kernel_rfl))
  f260:=Tryz.func193.trans (congrArg some (by kernel_rfl))
  f266:=Tryz.func209.trans (congrArg some (by kernel_rfl))
  f267:=Tryz.func189.trans (congrArg some (by kernel_rfl))
  f276:=Tryz.func175.trans (congrArg some (by kernel_rfl))
  f277:=Tryz.func176.trans (congrArg some (by kernel_rfl))
  f314:=Tryz.func210.trans (congrArg some (by kernel_rfl))
  t0:=Tryz.underlying0
  a0:=Tryz.isAgg0
  z0:=Tryz.sizeOf0
  v0:=Tryz.zeroValue0
  t3:=Tryz.underlying3
  a3:=Tryz.isAgg3
  z3:=Tryz.sizeOf3
  v3:=Tryz.zeroValue3
  t4:=Tryz.underlying4
  a4:=Tryz.isAgg4
  z4:=Tryz.sizeOf4
  v4:=Tryz.zeroValue4
  t5:=Tryz.underlying5
  a5:=Tryz.isAgg5
  z5:=Tryz.sizeOf5
  v5:=Tryz.zeroValue5
  t9:=Tryz.underlying9
  a9:=Tryz.isAgg9
  z9:=Tryz.sizeOf9
  v9:=Tryz.zeroValue9
  t20:=Tryz.underlying20
  a20:=Tryz.isAgg20
  z20:=Tryz.sizeOf20
  v20:=Tryz.zeroValue20
  t21:=Tryz.underlying21
  a21:=Tryz.isAgg21
  z21:=Tryz.sizeOf21
  v21:=Tryz.zeroValue21
  t37:=Tryz.underlying22
  a37:=Tryz.isAgg22
  z37:=Tryz.sizeOf22
  v37:=Tryz.zeroValue22
  t46:=Tryz.underlying161
  a46:=Tryz.isAgg161
  z46:=Tryz.sizeOf161
  v46:=Tryz.zeroValue161
  t51:=Tryz.underlying182
  a51:=Tryz.isAgg182
  z51:=Tryz.sizeOf182
  v51:=Tryz.zeroValue182
  t70:=Tryz.underlying165
  a70:=Tryz.isAgg165
  z70:=Tryz.sizeOf165
  v70:=Tryz.zeroValue165
  t72:=Tryz.underlying167
  a72:=Tryz.isAgg167
  z72:=Tryz.sizeOf167
  v72:=Tryz.zeroValue167
  t75:=Tryz.underlying169
  a75:=Tryz.isAgg169
  z75:=Tryz.sizeOf169
  v75:=Tryz.zeroValue169
  t76:=Tryz.underlying170
  a76:=Tryz.isAgg170
  z76:=Tryz.sizeOf170
  v76:=Tryz.zeroValue170
  t105:=Tryz.underlying200
  a105:=Tryz.isAgg200
  z105:=Tryz.sizeOf200
  v105:=Tryz.zeroValue200
  t119:=Tryz.underlying228
  a119:=Tryz.isAgg228
  z119:=Tryz.sizeOf228
  t127:=Tryz.underlying187
  a127:=Tryz.isAgg187
  z127:=Tryz.sizeOf187
  v127:=Tryz.zeroValue187
  t138:=Tryz.underlying230
  a138:=Tryz.isAgg230
  z138:=Tryz.sizeOf230
  v138:=Tryz.zeroValue230
  t139:=Tryz.underlying231
  a139:=Tryz.isAgg231
  z139:=Tryz.sizeOf231
  v139:=Tryz.zeroValue231
  t146:=Tryz.underlying183
  a146:=Tryz.isAgg183
  z146:=Tryz.sizeOf183
  v146:=Tryz.zeroValue183
  t164:=Tryz.underlying202
  a164:=Tryz.isAgg202
  z164:=Tryz.sizeOf202
  v164:=Tryz.zeroValue202
  g1:=by kernel_rfl
  g3:=by kernel_rfl
  g4:=by kernel_rfl }
theorem Tryz.Builder_Extra_155:Builder.Extra Tryz.prog Tryz.lays155_ren:={
  sizeBuilder:=by kernel_rfl
  liesBuilder:=by kernel_rfl
  t5:=Tryz.underlying5
  a5:=Tryz.isAgg5
  z5:=Tryz.sizeOf5
  v5:=Tryz.zeroValue5
  infoByte:=by kernel_rfl
  cellsByte:=by kernel_rfl
  sizeByte:=by kernel_rfl
  neB5:=by decide }
open Go.RowKit Go.Lib in
theorem Tryz.strings_ReplaceAll (s old new:ByteArray) (m:Int) (w:World) (hs:s.size < 4294967281) (hm:w.cell? ⟨0,0,none⟩=some (.int .i64 m)) (h1:1≤old.size) (hlen:s.size+Lib.countB s old*new.size≤140737488355328) :
    Calls Tryz.prog 120 #[.string s,.string old,.string new] w fun e w' =>
      e=.returned (.string ⟨(Lib.replaceAll s.data.toList old.data.toList new.data.toList).toArray⟩)∧Below w.heap.size w w':=Any.strings_ReplaceAll Tryz.lays155 Tryz.Builder_Extra_155 s old new m w hs hm h1 hlen
def Tryz.lays105_ren:Go.Shelf.Ren:=⟨fun | 105=>94 | 212=>128 | 99=>129 | 165=>130 | 166=>131 | 170=>132 | 169=>133 | 263=>156 | 264=>157 | 206=>158 | 240=>159 | 241=>160 | 276=>175 | 277=>176 | n=>n,fun | 9=>9 | 3=>3 | 4=>4 | 20=>20 | 0=>0 | 46=>161 | 109=>162 | 5=>5 | 72=>167 | 76=>170 | 51=>182 | 146=>183 | 53=>66 | 148=>185 | 70=>165 | 37=>22 | 75=>169 | 127=>187 | 164=>202 | 80=>121 | n=>n,fun | n=>n⟩
theorem Tryz.lays105:Go.Proofs.Lays.n105 Tryz.prog Tryz.lays105_ren:={
  mixed:=by kernel_rfl
  f99:=Tryz.func129.trans (congrArg some (by kernel_rfl))
  f105:=Tryz.func94.trans (congrArg some (by kernel_rfl))
  f165:=Tryz.func130.trans (congrArg some (by kernel_rfl))
  f166:=Tryz.func131.trans (congrArg some (by kernel_rfl))
  f169:=Tryz.func133.trans (congrArg some (by kernel_rfl))
  f170:=Tryz.func132.trans (congrArg some (by kernel_rfl))
  f206:=Tryz.func158.trans (congrArg some (by kernel_rfl))
  f212:=Tryz.func128.trans (congrArg some (by kernel_rfl))
  f240:=Tryz.func159.trans (congrArg some (by kernel_rfl))
  f241:=Tryz.func160.trans (congrArg some (by kernel_rfl))
  f263:=Tryz.func156.trans (congrArg some (by kernel_rfl))
  f264:=Tryz.func157.trans (congrArg some (by kernel_rfl))
  f276:=Tryz.func175.trans (congrArg some (by kernel_rfl))
  f277:=Tryz.func176.trans (congrArg some (by kernel_rfl))
  t0:=Tryz.underlying0
  a0:=Tryz.isAgg0
  z0:=Tryz.sizeOf0
  v0:=Tryz.zeroValue0
  t3:=Tryz.underlying3
  a3:=Tryz.isAgg3
  z3:=Tryz.sizeOf3
  v3:=Tryz.zeroValue3
  t4:=Tryz.underlying4
  a4:=Tryz.isAgg4
  z4:=Tryz.sizeOf4
  v4:=Tryz.zeroValue4
  t5:=Tryz.underlying5
  a5:=Tryz.isAgg5
  z5:=Tryz.sizeOf5
  v5:=Tryz.zeroValue5
  t9:=Tryz.underlying9
  a9:=Tryz.isAgg9
  z9:=Tryz.sizeOf9
  v9:=Tryz.zeroValue9
  t20:=Tryz.underlying20
  a20:=Tryz.isAgg20
  z20:=Tryz.sizeOf20
  v20:=Tryz.zeroValue20
  t37:=Tryz.underlying22
  a37:=Tryz.isAgg22
  z37:=Tryz.sizeOf22
  v37:=Tryz.zeroValue22
  t46:=Tryz.underlying161
  a46:=Tryz.isAgg161
  z46:=Tryz.sizeOf161
  v46:=Tryz.zeroValue161
  t51:=Tryz.underlying182
  a51:=Tryz.isAgg182
  z51:=Tryz.sizeOf182
  v51:=Tryz.zeroValue182
  t53:=Tryz.underlying66
  a53:=Tryz.isAgg66
  z53:=Tryz.sizeOf66
  v53:=Tryz.zeroValue66
  t70:=Tryz.underlying165
  a70:=Tryz.isAgg165
  z70:=Tryz.sizeOf165
  v70:=Tryz.zeroValue165
  t72:=Tryz.underlying167
  a72:=Tryz.isAgg167
  z72:=Tryz.sizeOf167
  v72:=Tryz.zeroValue167
  t75:=Tryz.underlying169
  a75:=Tryz.isAgg169
  z75:=Tryz.sizeOf169
  v75:=Tryz.zeroValue169
  t76:=Tryz.underlying170
  a76:=Tryz.isAgg170
  z76:=Tryz.sizeOf170
  v76:=Tryz.zeroValue170
  t109:=Tryz.underlying162
  a109:=Tryz.isAgg162
  z109:=Tryz.sizeOf162
  v109:=Tryz.zeroValue162
  t127:=Tryz.underlying187
  a127:=Tryz.isAgg187
  z127:=Tryz.sizeOf187
  v127:=Tryz.zeroValue187
  t146:=Tryz.underlying183
  a146:=Tryz.isAgg183
  z146:=Tryz.sizeOf183
  v146:=Tryz.zeroValue183
  t148:=Tryz.underlying185
  a148:=Tryz.isAgg185
  z148:=Tryz.sizeOf185
  v148:=Tryz.zeroValue185
  t164:=Tryz.underlying202
  a164:=Tryz.isAgg202
  z164:=Tryz.sizeOf202
  v164:=Tryz.zeroValue202 }
theorem Tryz.Builder_Extra_105:Builder.Extra Tryz.prog Tryz.lays105_ren:={
  sizeBuilder:=by kernel_rfl
  liesBuilder:=by kernel_rfl
  t5:=Tryz.underlying5
  a5:=Tryz.isAgg5
  z5:=Tryz.sizeOf5
  v5:=Tryz.zeroValue5
  infoByte:=by kernel_rfl
  cellsByte:=by kernel_rfl
  sizeByte:=by kernel_rfl
  neB5:=by decide }
open Go.RowKit Go.Lib in
theorem Tryz.strings_Repeat (s:ByteArray) (c:Nat) (w:World) (hc:c≤9223372036854775807) (hlen:s.size*c≤140737488355328) :
    Calls Tryz.prog 94 #[.string s,.int .i64 c] w fun e w'=>e=.returned (.string ⟨(Lib.repeatL s.data.toList c).toArray⟩)∧Below w.heap.size w w':=Any.strings_Repeat Tryz.lays105 Tryz.Builder_Extra_105 s c w hc hlen
end Go.Proofs
namespace Go.Proofs.YtfbcnpbhhooapaaGreatDoor.M
open Go Classical
theorem compC_slices_Clone_int_int:comp Tryz.prog Tryz.f144=some ⟨1,8,zqT 1 8 [.int .i64 0],[.t 2]⟩:=by kernel_rfl
theorem extsOk [Base] (hT:Lib.TabIs Tryz.prog Base.base "internal/strconv.uint64pow10" .u64 Lib.pow10Tab) (hM:∃ m,Base.base.cell? ⟨0,0,none⟩=some (.int .i64 m)) (hS:∃ te pe,Base.base.cell? ⟨4,0,none⟩=some (.iface te pe)) (hR:∃ te pe,Base.base.cell? ⟨5,0,none⟩=some (.iface te pe)):∀ (f:Nat) (y:XF),zpZ f=some y→XOk Tryz.prog f y:=fun f y h=>by
  unfold zpZ at h
  by_cases e106:f=106
  ·subst e106
   rw[if_pos rfl] at h
   obtain rfl:=Option.some.inj h
   exact zsT Tryz.func106 rfl (by decide) hT (fun n h0 h1 w hT=>Tryz.strconv_Itoa n h0 h1 w hT)
  rw[if_neg e106] at h
  by_cases e108:f=108
  ·subst e108
   rw[if_pos rfl] at h
   obtain rfl:=Option.some.inj h
   exact ztQ Tryz.func108 rfl (by decide) (fun b w=>Tryz.strconv_FormatBool b w)
  rw[if_neg e108] at h
  by_cases e94:f=94
  ·subst e94
   rw[if_pos rfl] at h
   obtain rfl:=Option.some.inj h
   exact zpt Tryz.func94 rfl (by decide) (fun s c w h1 h2=>Tryz.strings_Repeat s c w h1 h2)
  rw[if_neg e94] at h
  by_cases e112:f=112
  ·subst e112
   rw[if_pos rfl] at h
   obtain rfl:=Option.some.inj h
   exact zuM Tryz.func112 rfl (by decide) hM (fun s p m w h1 h2=>Tryz.strings_Cut s p m w h1 h2)
  rw[if_neg e112] at h
  by_cases e179:f=179
  ·subst e179
   rw[if_pos rfl] at h
   obtain rfl:=Option.some.inj h
   exact zrR Tryz.func179 rfl (by decide) (fun s c w=>Tryz.strings_IndexByte s c w)
  rw[if_neg e179] at h
  by_cases e129:f=129
  ·subst e129
   rw[if_pos rfl] at h
   obtain rfl:=Option.some.inj h
   exact zp2 Tryz.func129 rfl (by decide) (fun s p w=>Tryz.strings_HasPrefix s p w)
  rw[if_neg e129] at h
  by_cases e162:f=162
  ·subst e162
   rw[if_pos rfl] at h
   obtain rfl:=Option.some.inj h
   exact zmk Tryz.func162 rfl (by decide) hM (fun s p m w h1 h2=>Tryz.strings_Contains s p m w h1 h2)
  rw[if_neg e162] at h
  by_cases e120:f=120
  ·subst e120
   rw[if_pos rfl] at h
   obtain rfl:=Option.some.inj h
   exact znU Tryz.func120 rfl (by decide) hM (fun s o n m w h1 h2 h3 h4=>Tryz.strings_ReplaceAll s o n m w h1 h2 h3 h4)
  rw[if_neg e120] at h
  by_cases e163:f=163
  ·subst e163
   rw[if_pos rfl] at h
   obtain rfl:=Option.some.inj h
   exact zsZ Tryz.func163 rfl (by decide) hS hR (fun s v w h1 h2=>Tryz.strconv_Atoi_ok s h1 v h2 w) (fun s te pe w h1 h2 h3=>(Tryz.strconv_Atoi_syntax s h1 h2 _ w h3 (.inr ⟨_,_,rfl⟩)).mono fun e w' ⟨N,he,_,_,hb⟩=>⟨_,he,hb⟩) (fun s te pe w h1 h2 h3=>(Tryz.strconv_Atoi_range s h1 h2 _ w h3 (.inr ⟨_,_,rfl⟩)).mono fun e w' ⟨N,he,_,_,hb⟩=>⟨_,he,hb⟩)
  rw[if_neg e163] at h
  by_cases e144:f=144
  ·subst e144
   rw[if_pos rfl] at h
   obtain rfl:=Option.some.inj h
   exact zqU (by kernel_rfl) Tryz.func144 compC_slices_Clone_int_int (by decide)
  rw[if_neg e144] at h
  by_cases e36:f=36
  ·subst e36
   rw[if_pos rfl] at h
   obtain rfl:=Option.some.inj h
   exact zsz
  rw[if_neg e36] at h
  by_cases e47:f=47
  ·subst e47
   rw[if_pos rfl] at h
   obtain rfl:=Option.some.inj h
   exact zsf
  rw[if_neg e47] at h
  cases h
end Go.Proofs.YtfbcnpbhhooapaaGreatDoor.M
namespace Go.Proofs.YtfbcnpbhhooapaaGreatDoor.M
set_option linter.constructorNameAsVariable false
open Go Classical
theorem zvO {x:Int} (h:(Lit.int .u8 x).wf=true):∃ b:UInt8,x=((b.toNat:Nat):Int):=by
  have r:=range h
  simp[IntKind.min,IntKind.max,IntKind.signed,IntKind.bits] at r
  refine⟨UInt8.ofNat x.toNat,?_⟩
  simp
  omega
theorem ht5:∀ (n:Nat) (vs:List PV),Has Tryz.prog n 5 vs→∃ x:UInt8,vs=[.int .u8 ((x.toNat:Nat):Int)]∧True:=fun n vs h=>by
  obtain⟨x,rfl,w⟩:=h.int Tryz.underlying5
  obtain⟨b,rfl⟩:=zvO w
  exact⟨b,rfl,trivial⟩
theorem hr22 (n:Nat):∀ rows:List (List PV),(∀ r ∈ rows,Has Tryz.prog n 5 r)→∃ xs:List UInt8,rows=xs.map eB∧∀ y ∈ xs,True
  | [],_=>⟨[],by simp[eI],fun y h=>by cases h⟩
  | r::rows,h=>by
    obtain⟨x,rfl,hx⟩:=ht5 n r (h r (by simp))
    obtain⟨xs,rfl,hxs⟩:=hr22 n rows fun r hr=>h r (by simp[hr])
    exact⟨x::xs,by simp[eI,eK,eB,eS,eO],fun y hy=>trivial⟩
theorem cz5:Tryz.prog.cellsOf 5=1:=by kernel_rfl
theorem ht22:∀ (n:Nat) (vs:List PV),Has Tryz.prog n 22 vs→∃ x:List UInt8,vs=[.list 1 (x.map eB) false]∧(x.length≤maxLen∧∀ y ∈ x,True):=fun n vs h=>by
  cases n with
  | zero=>exact h.zero.elim
  | succ n =>
    obtain⟨rows,rfl,hl,hr⟩:=h.slice Tryz.underlying22
    obtain⟨xs,rfl,hx⟩:=hr22 n rows hr
    rw[cz5]
    exact⟨xs,rfl,by rw[List.length_map] at hl;exact hl,hx⟩
theorem specShowLeast:∀ pvs,HasAll Tryz.prog [22,5] pvs→call (zem Tryz.prog zpZ) 7 pvs []=.ok (.v (.bool true)) []:=by
  intro pvs h
  obtain⟨v0,r0,rfl,g0,h⟩:=h.cons_inv
  obtain⟨v1,r1,rfl,g1,h⟩:=h.cons_inv
  obtain rfl:=h.nil_inv
  obtain⟨n0,g0⟩:=g0.one Tryz.underlying22 (fun fs h=>by cases h)
  obtain⟨x0,e0,h0⟩:=ht22 _ _ g0
  obtain rfl:=List.cons.inj e0 |>.1
  obtain⟨n1,g1⟩:=g1.one Tryz.underlying5 (fun fs h=>by cases h)
  obtain⟨x1,e1,h1⟩:=ht5 _ _ g1
  obtain rfl:=List.cons.inj e1 |>.1
  exact (zn6 x0 x1:ztZ x0 x1 true) []
end Go.Proofs.YtfbcnpbhhooapaaGreatDoor.M

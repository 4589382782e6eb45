/- Parts of a proof, one behind another: Wl13, Wl14, WlL, Wp6, WlS, Wx7, Sc10, G10, Lt10, Sc7, Lt7, Wp7, Wt5, Wt6, Wu5, Wx8, Wx9, Wx10, Wx11, WuA, Wx13, Wx14, Wx15, Sc14, Lt14, Wx16, Wx17, Sc8. -/
import Derived.Test.YtfbcnpbhhooapaaGreatDoorZShowMade4
import Derived.Test.YtfbcnpbhhooapaaGreatDoorProg
import Derived.KernelRfl
set_option linter.unusedSimpArgs false
set_option linter.unusedVariables false
set_option linter.unusedSectionVars false
set_option maxHeartbeats 4000000
namespace Go.Proofs.YtfbcnpbhhooapaaGreatDoor.M
open Go Classical
theorem zqA (c:UInt8):zy c=5↔c=35:=by
 have e:c=35↔c.toNat=35:=by rw[←UInt8.toNat_inj];rfl
 rw[e]
 unfold zy
 repeat' split
 all_goals (first | omega | (constructor <;> intro h <;> first | omega | exact absurd h (by decide)))
inductive Tok:List UInt8→Option (Token × Nat)→Prop
 | name (c:UInt8) (u:List UInt8) (h:zy c=2):Tok (c::u) (if ((c::u).takeWhile (inC [2,3])).length≤24 then some (Token.mk 3 ((c::u).takeWhile (inC [2,3])) 0 [] 0,zB [2,3] (c::u)) else none)
 | num (c:UInt8) (u:List UInt8) (h:zy c=3):Tok (c::u) (zfl (c::u))
 | text (u:List UInt8) (r:Option (List Part × Nat)) (h:Qx u [] [] r):Tok (34::u) (r.map fun q=>(Token.mk 2 [] 0 q.1 0,q.2+1))
 | sign (c:UInt8) (u:List UInt8) (h2:zy c≠2) (h3:zy c≠3) (h4:zy c≠4):Tok (c::u) (if zt (c::u)=[] then none else some (Token.mk 4 (zt (c::u)) 0 [] 0,(zt (c::u)).length))
theorem zrq {t:List UInt8} {l:List Part} {b:List UInt8} {r:Option (List Part × Nat)} (h:Qx t l b r):∀ q,r=some q→0 < q.2∧q.2≤t.length:=by
 induction h with
 | nil | low | esc0 | escbad | refbad=>intro q hq;cases hq
 | shut t l b=>intro q hq;obtain rfl:=Option.some.inj hq;simp
 | esc x y t l b r hx _ ih =>
  intro q hq
  obtain⟨q0,h0,rfl⟩:=Option.map_eq_some_iff.1 hq
  have:=ih q0 h0
  simp only[List.length_cons]
  omega
 | ref t l b r hr _ ih =>
  intro q hq
  obtain⟨q0,h0,rfl⟩:=Option.map_eq_some_iff.1 hq
  have:=ih q0 h0
  have h1:=ziJ hr
  simp only[List.length_cons,List.length_drop] at this ⊢
  omega
 | plain c t l b r c1 c2 c3 c4 _ ih =>
  intro q hq
  obtain⟨q0,h0,rfl⟩:=Option.map_eq_some_iff.1 hq
  have:=ih q0 h0
  simp only[List.length_cons]
  omega
theorem zoq {cl:List Int} {c:UInt8} (u:List UInt8) (h:inC cl c=true):0 < zB cl (c::u):=by
 unfold zB
 rw[List.takeWhile_cons,if_pos h]
 simp
theorem zlM (c:UInt8) (u:List UInt8):(zt (c::u)).length≤(c::u).length:=by
 cases u with
 | nil=>simp only[zt,zbT];split <;> simp
 | cons b u=>simp only[zt,zcy,zbT];repeat' split <;> simp
theorem zkx {t:List UInt8} {r:Option (Token × Nat)} (h:Tok t r):∀ q,r=some q→0 < q.2∧q.2≤t.length:=by
 cases h with
 | name c u h =>
  intro q hq
  split at hq
  ·obtain rfl:=Option.some.inj hq
   exact⟨zoq u ((zfj c).2 (.inl h)),zcL _ _⟩
  cases hq
 | num c u h =>
  intro q hq
  unfold zfl at hq
  split at hq
  ·obtain rfl:=Option.some.inj hq
   exact⟨zoq (cl:=[3]) u (by unfold inC;simp[h]),zcL [3] _⟩
  cases hq
 | text u r h =>
  intro q hq
  obtain⟨q0,h0,rfl⟩:=Option.map_eq_some_iff.1 hq
  have:=zrq h q0 h0
  simp only[List.length_cons]
  omega
 | sign c u h2 h3 h4 =>
  intro q hq
  split at hq
  ·cases hq
  rename_i hne
  obtain rfl:=Option.some.inj hq
  exact⟨List.length_pos_iff.2 hne,zlM c u⟩
theorem zfy (p:UInt8→Bool):∀ l:List UInt8,(l.takeWhile p).takeWhile p=l.takeWhile p
 | []=>rfl
 | c::l=>by
  rw[List.takeWhile_cons]
  split
  ·rename_i h
   rw[List.takeWhile_cons,if_pos h,zfy p l]
  rfl
theorem ztk {c:UInt8} (u:List UInt8) (h:zy c=2):zN ((c::u).takeWhile (inC [2,3]))=decide (((c::u).takeWhile (inC [2,3])).length≤24):=by
 have hc:inC [2,3] c=true:=(zfj c).2 (.inl h)
 have hi:=zfy (inC [2,3]) (c::u)
 rw[List.takeWhile_cons,if_pos hc] at hi ⊢
 unfold zN
 refine decide_eq_decide.2 ⟨fun e=>e.2.1,fun e=>⟨by simp,e,?_⟩⟩
 rw[zah,if_pos h,zB,hi]
theorem zyp {c:UInt8} (u:List UInt8) (h:zy c=3):(c::u).takeWhile (inC [3])≠[]:=by
 rw[List.takeWhile_cons,if_pos (by unfold inC;simp[h])]
 simp
def zve (t:LTokens) (g:Nat) (z:Bool):Option (Token × Nat)→Prop
 | none=>∃ t',zmx t g z false t' g z
 | some (x,n)=>zmx t g z true (LTokens.mk (zu t.text n) (t.out++[atT x t.text.pos])) g z
theorem zrV (t:LTokens) (g:Nat) (z:Bool) (h:TI t.text) (ho:t.out.length≤6000) {r:Option (Token × Nat)} {l:List UInt8} (hl:t.text.left=l) (hk:Tok l r):zve t g z r:=by
 have big:bigRow (t.out.length+1) 64:=⟨by omega,by omega,by decide⟩
 cases hk with
 | name c u hc =>
  have hn:=zyR t g z h
  rw[hl,ztk u hc] at hn
  have hd:t.text.left[0]?=some c:=by rw[hl];rfl
  by_cases hlen:((c::u).takeWhile (inC [2,3])).length≤24
  rotate_left
  ·rw[if_neg hlen]
   rw[decide_eq_false hlen] at hn
   exact⟨_,zb3 _ _ _ _ _ _ _ ⟨c,hd,_,zan c,fun _=>⟨_,_,_,_,_,hn,big,rfl,rfl,rfl,rfl⟩,fun e=>absurd hc e⟩⟩
  rw[if_pos hlen]
  rw[decide_eq_true hlen] at hn
  exact zb3 _ _ _ _ _ _ _ ⟨c,hd,_,zan c,fun _=>⟨_,_,_,_,_,hn,big,rfl,rfl,rfl,rfl⟩,fun e=>absurd hc e⟩
 | num c u hc =>
  have hd:t.text.left[0]?=some c:=by rw[hl];rfl
  have hn:=ztM t g z h (by rw[hl];exact zyp u hc)
  rw[hl] at hn
  have h2:zy c≠2:=by omega
  revert hn
  generalize zfl (c::u)=q
  intro hn
  rcases q with _ | ⟨x,n⟩
  ·obtain⟨x,t',ho',hn⟩:=hn
   exact⟨_,zb3 _ _ _ _ _ _ _ ⟨c,hd,_,zan c,fun e=>absurd e h2,fun _=>⟨fun _=>⟨_,_,_,_,_,hn,by rw[ho'];exact big,rfl,rfl,rfl,rfl⟩,fun e=>absurd hc e⟩⟩⟩
  exact zb3 _ _ _ _ _ _ _ ⟨c,hd,_,zan c,fun e=>absurd e h2,fun _=>⟨fun _=>⟨_,_,_,_,_,hn,big,rfl,rfl,rfl,rfl⟩,fun e=>absurd hc e⟩⟩
 | text u q hq =>
  have hd:t.text.left[0]?=some 34:=by rw[hl];rfl
  have hn:=zuK t g z h hl hq
  have h4:zy 34=4:=(zfx 34).2 rfl
  cases q with
  | none =>
   obtain⟨t',ho',hn⟩:=hn
   exact⟨_,zb3 _ _ _ _ _ _ _ ⟨34,hd,_,zan 34,fun e=>by omega,fun _=>⟨fun e=>by omega,fun _=>⟨fun _=>⟨_,_,_,_,_,hn,by rw[ho'];exact big,rfl,rfl,rfl,rfl⟩,fun e=>absurd h4 e⟩⟩⟩⟩
  | some p =>
   obtain⟨ps,n⟩:=p
   exact zb3 _ _ _ _ _ _ _ ⟨34,hd,_,zan 34,fun e=>by omega,fun _=>⟨fun e=>by omega,fun _=>⟨fun _=>⟨_,_,_,_,_,hn.2,big,rfl,rfl,rfl,rfl⟩,fun e=>absurd h4 e⟩⟩⟩
 | sign c u h2 h3 h4 =>
  have hd:t.text.left[0]?=some c:=by rw[hl];rfl
  have hn:=zyP t g z h (by rw[hl];simp)
  rw[hl] at hn
  by_cases he:zt (c::u)=[]
  ·rw[if_pos he]
   rw[if_pos he,if_pos he,decide_eq_false (fun e=>e he)] at hn
   exact⟨_,zb3 _ _ _ _ _ _ _ ⟨c,hd,_,zan c,fun e=>absurd e h2,fun _=>⟨fun e=>absurd e h3,fun _=>⟨fun e=>absurd e h4,fun _=>⟨_,_,_,_,_,hn,big,rfl,rfl,rfl,rfl⟩⟩⟩⟩⟩
  rw[if_neg he]
  rw[if_neg he,if_neg he,decide_eq_true he] at hn
  exact zb3 _ _ _ _ _ _ _ ⟨c,hd,_,zan c,fun e=>absurd e h2,fun _=>⟨fun e=>absurd e h3,fun _=>⟨fun e=>absurd e h4,fun _=>⟨_,_,_,_,_,hn,big,rfl,rfl,rfl,rfl⟩⟩⟩⟩
inductive Lx:List UInt8→Int→Option (List Token)→Prop
 | nil (p:Int):Lx [] p (some [Token.mk 0 [] 0 [] p])
 | gap (c:UInt8) (t:List UInt8) (p:Int) (r:Option (List Token)) (hc:zy c=1) (h:Lx t (p+1) r):Lx (c::t) p r
 | remark (t:List UInt8) (p:Int) (r:Option (List Token)) (h:Lx (t.dropWhile (· != 10)) (p+((t.takeWhile (· != 10)).length+1:Nat)) r):Lx (35::t) p r
 | bad (c:UInt8) (t:List UInt8) (p:Int) (h1:zy c≠1) (h2:zy c≠5) (h:Tok (c::t) none):Lx (c::t) p none
 | tok (c:UInt8) (t:List UInt8) (p:Int) (x:Token) (n:Nat) (r:Option (List Token)) (h1:zy c≠1) (h2:zy c≠5) (h:Tok (c::t) (some (x,n))) (h':Lx ((c::t).drop n) (p+n) r):Lx (c::t) p (r.map (atT x p::·))
def zhA:List UInt8→Prop
 | []=>True
 | c::_=>zy c≠1∧zy c≠5
theorem zmw (t:LText):zu t 0=t:=by
 unfold zu
 simp
theorem zd8 (p:UInt8→Bool):∀ l:List UInt8,(∀ x ∈ l,p x=true)→l.takeWhile p=l
 | [],_=>rfl
 | c::l,h=>by rw[List.takeWhile_cons,if_pos (h c (by simp)),zd8 p l (fun x hx=>h x (by simp[hx]))]
theorem zuP (s:List UInt8):(Lib.cut s [10]).1=s.takeWhile (· != 10):=by
 rw[ztR]
 split
 ·rfl
 rename_i h
 exact (zd8 _ _ fun x hx=>by
  simp only[bne_iff_ne,ne_eq]
  intro e
  exact h (e ▸ hx)).symm
theorem zfg (t:List UInt8):(35::t:List UInt8).drop ((t.takeWhile (· != 10)).length+1)=t.dropWhile (· != 10):=by
 rw[List.drop_succ_cons]
 exact zar _ _
theorem znG (t:List UInt8):(t.takeWhile (· != 10)).length≤t.length:=by
 have:=congrArg List.length (List.takeWhile_append_dropWhile (p:=(· != (10:UInt8))) (l:=t))
 rw[List.length_append] at this
 omega
theorem zzG {c:UInt8} (t:List UInt8) (h:zy c=1):zB [1] (c::t)=zB [1] t+1:=by
 unfold zB
 rw[List.takeWhile_cons,if_pos (by unfold inC;simp[h])]
 rfl
theorem zqy {c:UInt8} (t:List UInt8) (h:zy c≠1):zB [1] (c::t)=0:=by
 unfold zB
 rw[List.takeWhile_cons,if_neg (by unfold inC;simp[h])]
 rfl
theorem zoI {l:List UInt8} {p:Int} {r:Option (List Token)} (h:Lx l p r):∀ (t:LTokens) (g:Nat) (z:Bool),t.text.left=l→t.text.pos=p→TI t.text →
  ∃ n,n≤l.length∧zgc (LTokens.mk (zu t.text (zB [1] l)) t.out) g z (LTokens.mk (zu t.text n) t.out) g z∧Lx (l.drop n) (p+n) r∧zhA (l.drop n):=by
 induction h with
 | nil p =>
  intro t g z e ep hT
  refine⟨0,Nat.le_refl _,?_,by simpa using Lx.nil p,trivial⟩
  apply zcv
  refine⟨_,zbs _ _,fun h=>?_,fun _=>⟨rfl,rfl,rfl⟩⟩
  rw[show zB [1] []=0 from rfl,zmw,e] at h
  exact absurd h (by decide)
 | gap c t' p r hc _ ih =>
  intro t g z e ep hT
  have h1:1≤t.text.left.length:=by rw[e];simp
  obtain⟨n,hn,hA,hL,hs⟩:=ih (LTokens.mk (zu t.text 1) t.out) g z (by simp only[zu,e];rfl) (by simp only[zu,ep];rfl) (hT.take h1)
  simp only[zct] at hA
  refine⟨n+1,by simp;omega,?_,?_,by rw[List.drop_succ_cons];exact hs⟩
  ·rw[zzG t' hc,Nat.add_comm (zB [1] t') 1,Nat.add_comm n 1]
   exact hA
  rw[List.drop_succ_cons,show p+((n+1:Nat):Int)=p+1+(n:Int) by omega]
  exact hL
 | remark t' p r _ ih =>
  intro t g z e ep hT
  have hll:=znG t'
  have h1:(t'.takeWhile (· != 10)).length+1≤t.text.left.length:=by rw[e];simp;omega
  have hT1:=hT.1
  obtain⟨n,hn,hA,hL,hs⟩:=ih (LTokens.mk (zu t.text ((t'.takeWhile (· != 10)).length+1)) t.out) g z (by simp only[zu,e];exact zfg t') (by simp only[zu,ep]) (hT.take h1)
  simp only[zct] at hA
  have hdl:(t'.dropWhile (· != 10)).length=t'.length - (t'.takeWhile (· != 10)).length:=by rw[←zar,List.length_drop]
  have hsp:zB [1] (35::t')=0:=zqy t' (by decide)
  refine⟨(t'.takeWhile (· != 10)).length+1+n,by simp;omega,?_,?_,?_⟩
  ·rw[hsp,zmw]
   apply zcv
   have hcut:(Lib.cut t.text.left [10]).1=35::t'.takeWhile (· != 10):=by
    rw[zuP,e,List.takeWhile_cons,if_pos (by decide)]
   have hR:=zjv t.text.left [10] (by omega)
   have hTk:=zb0 hT (n:=(35::t'.takeWhile (· != 10)).length) (by simpa using h1)
   have hT2:TI (zu t.text (35::t'.takeWhile (· != 10)).length):=hT.take (by simpa using h1)
   have hW:=zkh hT2 [1] (by decide)
   rw[hcut] at hR
   refine⟨_,zbs _ _,fun _=>⟨_,_,_,hR,_,_,hTk,_,_,hW,?_⟩,fun h=>absurd (by rw[e];rfl) h⟩
   have hle:(zu t.text (35::t'.takeWhile (· != 10)).length).left=t'.dropWhile (· != 10):=by
    simp only[zu,e,List.length_cons];exact zfg t'
   rw[hle,zct]
   exact hA
  ·rw[←List.drop_drop,zfg,show p+(((t'.takeWhile (· != 10)).length+1+n:Nat):Int)=p+(((t'.takeWhile (· != 10)).length+1:Nat):Int)+(n:Int) by omega]
   exact hL
  rw[←List.drop_drop,zfg]
  exact hs
 | bad c t' p c1 c2 hk =>
  intro t g z e ep hT
  refine⟨0,Nat.zero_le _,?_,by simpa using Lx.bad c t' p c1 c2 hk,⟨c1,c2⟩⟩
  rw[zqy t' c1]
  apply zcv
  refine⟨_,zbs _ _,fun h=>?_,fun _=>⟨rfl,rfl,rfl⟩⟩
  rw[zmw,e] at h
  exfalso
  apply c2
  rw[zqA]
  symm
  simpa [Lib.hasPrefix] using h
 | tok c t' p x n r c1 c2 hk h' _ =>
  intro t g z e ep hT
  refine⟨0,Nat.zero_le _,?_,by simpa using Lx.tok c t' p x n r c1 c2 hk h',⟨c1,c2⟩⟩
  rw[zqy t' c1]
  apply zcv
  refine⟨_,zbs _ _,fun h=>?_,fun _=>⟨rfl,rfl,rfl⟩⟩
  rw[zmw,e] at h
  exfalso
  apply c2
  rw[zqA]
  symm
  simpa [Lib.hasPrefix] using h
theorem ztj {l:List UInt8} {p:Int} {r:Option (List Token)} (h:Lx l p r) (t:LTokens) (g:Nat) (z:Bool) (e:t.text.left=l) (ep:t.text.pos=p) (hT:TI t.text) :
  ∃ n,n≤l.length∧zmz t g z (LTokens.mk (zu t.text n) t.out) g z∧Lx (l.drop n) (p+n) r∧zhA (l.drop n):=by
 obtain⟨n,hn,hA,hL,hs⟩:=zoI h t g z e ep hT
 refine⟨n,hn,zuN _ _ _ _ _ _ ⟨_,_,zkh hT [1] (by decide),?_⟩,hL,hs⟩
 rw[e]
 exact hA
def lexL:Option (List Token)→List Token
 | none=>[]
 | some l=>l
def lexE:Option (List Token)→Int
 | none=>5
 | some _=>0
def zn5 (out:List Token):Option (List Token)→List Token
 | none=>[]
 | some l=>out++l
theorem zqQ:∀ (m:Nat) (l:List UInt8) (p:Int) (r:Option (List Token)),Lx l p r→zhA l→l.length≤m→∀ (out:List Token) (g:Nat) (z:Bool),TI ⟨l,p⟩→(out.length:Int)≤p→zga l p out g z (zn5 out r) (lexE r):=by
 intro m
 induction m with
 | zero =>
  intro l p r h hs hm out g z hT ho
  have:l=[]:=List.length_eq_zero_iff.1 (by omega)
  subst this
  cases h
  have h3:=hT.2.2
  simp only[List.length_nil] at h3
  apply zcC
  exact⟨fun _=>⟨⟨by omega,by omega,by decide⟩,rfl,rfl⟩,fun h=>absurd rfl h⟩
 | succ m ih =>
  intro l p r h hs hm out g z hT ho
  have h3:=hT.2.2
  cases h with
  | nil =>
   simp only[List.length_nil] at h3
   apply zcC
   exact⟨fun _=>⟨⟨by omega,by omega,by decide⟩,rfl,rfl⟩,fun h=>absurd rfl h⟩
  | gap c t _ _ hc h=>exact absurd hc hs.1
  | remark t _ _ h=>exact absurd ((zqA 35).2 rfl) hs.2
  | bad c t _ c1 c2 hk =>
   have hl0:=hT.1
   simp only at hl0 h3
   obtain⟨t',hn⟩:=zrV (LTokens.mk ⟨c::t,p⟩ out) g z hT (by simp only;omega) rfl hk
   apply zcC
   exact⟨fun h=>by simp at h,fun _=>⟨_,_,_,_,hn,fun h=>(by cases h),fun _=>⟨rfl,rfl⟩⟩⟩
  | tok c t _ x n r' c1 c2 hk h' =>
   have hl0:=hT.1
   simp only at hl0 h3
   have hn:=zrV (LTokens.mk ⟨c::t,p⟩ out) g z hT (by simp only;omega) rfl hk
   obtain⟨n0,n1⟩:=zkx hk _ rfl
   simp only at n0 n1
   simp only[zve] at hn
   have hT2:TI (zu ⟨c::t,p⟩ n):=hT.take n1
   obtain⟨k,hk1,hS,hL,hst⟩:=ztj h' (LTokens.mk (zu ⟨c::t,p⟩ n) (out++[atT x p])) g z rfl rfl hT2
   have hT3:TI (zu (zu ⟨c::t,p⟩ n) k):=hT2.take hk1
   have hlen:((c::t).drop n).length=(c::t).length - n:=List.length_drop
   have hlen2:(((c::t).drop n).drop k).length=(c::t).length - n - k:=by rw[List.length_drop,hlen]
   have key:=ih _ _ _ hL hst (by omega) (out++[atT x p]) g z hT3 (by simp;omega)
   apply zcC
   refine⟨fun h=>by simp at h,fun _=>⟨_,_,_,_,hn,fun _=>⟨_,_,_,hS,?_⟩,fun h=>absurd rfl h⟩⟩
   cases r' with
   | none=>exact key
   | some l' =>
    have e:zn5 (out++[atT x p]) (some l')=zn5 out ((some l').map (atT x p::·)):=by simp[zn5]
    rw[e] at key
    exact key
theorem zvi {s:List UInt8} (hs:s.length≤6000) {r:Option (List Token)} (h:Lx s 0 r):zc8 s (lexL r) (lexE r):=by
 have hT:TI ⟨s,0⟩:=⟨hs,Int.le_refl _,by simp only;omega⟩
 obtain⟨k,hk1,hS,hL,hst⟩:=ztj h (LTokens.mk ⟨s,0⟩ []) 0 false rfl rfl hT
 have hT2:TI (zu ⟨s,0⟩ k):=hT.take hk1
 have key:=zqQ _ _ _ _ hL hst (Nat.le_refl _) [] 0 false hT2 (by simp)
 have e:zn5 [] r=lexL r:=by cases r <;> rfl
 rw[e] at key
 apply ztC
 exact⟨fun h=>by omega,fun _=>⟨_,_,_,hS,key⟩⟩
def zkY:Nat→List UInt8→List Part→List UInt8→Option (List Part × Nat)
 | 0,_,_,_=>none
 | _+1,[],_,_=>none
 | n+1,c::t,l,b =>
  if c=34 then some (zI l b,1)
  else if c.toNat < 32 then none
  else if c=92 then
   match t with
   | []=>none
   | x::t=>match zgo x with | none=>none | some y=>(zkY n t l (b++[y])).map fun q=>(q.1,q.2+2)
  else if c=36∧t.head?=some 123 then
   if (zH t.tail).2=true then (zkY n (t.tail.drop ((zH t.tail).1.length+1)) (zI l b++[Part.mk true (zH t.tail).1]) []).map fun q=>(q.1,q.2+(3+(zH t.tail).1.length)) else none
  else (zkY n t l (b++[c])).map fun q=>(q.1,q.2+1)
theorem zhO:∀ (n:Nat) (t:List UInt8) (l:List Part) (b:List UInt8),t.length < n→Qx t l b (zkY n t l b)
 | 0,t,l,b,h=>by omega
 | n+1,[],l,b,h=>.nil l b
 | n+1,c::t,l,b,h=>by
  simp only[List.length_cons] at h
  unfold zkY
  split
  ·rename_i c1;subst c1;exact .shut t l b
  rename_i c1
  split
  ·rename_i c2;exact .low c t l b c1 c2
  rename_i c2
  split
  ·rename_i c3
   subst c3
   cases t with
   | nil=>exact .esc0 l b
   | cons x t =>
    dsimp only
    cases hx:zgo x with
    | none=>exact .escbad x t l b hx
    | some y=>exact .esc x y t l b _ hx (zhO n t l (b++[y]) (by simp only[List.length_cons] at h;omega))
  rename_i c3
  split
  ·rename_i c4
   obtain⟨rfl,h5⟩:=c4
   cases t with
   | nil=>cases h5
   | cons x t =>
    obtain rfl:x=123:=Option.some.inj h5
    simp only[List.length_cons] at h
    split
    ·rename_i hx;exact .ref t l b _ hx (zhO n _ _ _ (by simp;omega))
    rename_i hx;exact .refbad t l b (by simpa using hx)
  rename_i c4
  exact .plain c t l b _ c1 c2 c3 (fun e e2=>c4 ⟨e,e2⟩) (zhO n t l (b++[c]) (by omega))
def zup:List UInt8→Option (Token × Nat)
 | []=>none
 | c::u =>
  if zy c=2 then (if ((c::u).takeWhile (inC [2,3])).length≤24 then some (Token.mk 3 ((c::u).takeWhile (inC [2,3])) 0 [] 0,zB [2,3] (c::u)) else none)
  else if zy c=3 then zfl (c::u)
  else if zy c=4 then (zkY (u.length+1) u [] []).map fun q=>(Token.mk 2 [] 0 q.1 0,q.2+1)
  else if zt (c::u)=[] then none else some (Token.mk 4 (zt (c::u)) 0 [] 0,(zt (c::u)).length)
theorem zw5 (c:UInt8) (u:List UInt8):Tok (c::u) (zup (c::u)):=by
 simp only[zup]
 split
 ·rename_i h;exact .name c u h
 rename_i h2
 split
 ·rename_i h;exact .num c u h
 rename_i h3
 split
 ·rename_i h4
  obtain rfl:=(zfx c).1 h4
  exact .text u _ (zhO _ u [] [] (by omega))
 rename_i h4;exact .sign c u h2 h3 h4
def zkz:Nat→List UInt8→Int→Option (List Token)
 | 0,_,_=>none
 | _+1,[],p=>some [Token.mk 0 [] 0 [] p]
 | n+1,c::t,p =>
  if zy c=1 then zkz n t (p+1)
  else if zy c=5 then zkz n (t.dropWhile (· != 10)) (p+((t.takeWhile (· != 10)).length+1:Nat))
  else match zup (c::t) with
   | none=>none
   | some (x,k)=>(zkz n ((c::t).drop k) (p+k)).map (atT x p::·)
theorem zia:∀ (n:Nat) (t:List UInt8) (p:Int),t.length < n→Lx t p (zkz n t p)
 | 0,t,p,h=>by omega
 | n+1,[],p,h=>.nil p
 | n+1,c::t,p,h=>by
  simp only[List.length_cons] at h
  have ht:=zw5 c t
  unfold zkz
  split
  ·rename_i c1;exact .gap c t p _ c1 (zia n t _ (by omega))
  rename_i c1
  split
  ·rename_i c2
   obtain rfl:=(zqA c).1 c2
   have:=znG t
   have hdl:(t.dropWhile (· != 10)).length=t.length - (t.takeWhile (· != 10)).length:=by rw[←zar,List.length_drop]
   exact .remark t p _ (zia n _ _ (by omega))
  rename_i c2
  split
  ·rename_i hk
   rw[hk] at ht
   exact .bad c t p c1 c2 ht
  rename_i x k hk
  rw[hk] at ht
  have:=zkx ht _ rfl
  exact .tok c t p x k _ c1 c2 ht (zia n _ _ (by simp only[List.length_drop,List.length_cons] at this ⊢;omega))
def zqh (s:List UInt8):Option (List Token):=zkz (s.length+1) s 0
theorem zo5 (s:List UInt8):Lx s 0 (zqh s):=zia _ s 0 (Nat.lt_succ_self _)
theorem zk1 {l:List Part} {b:List UInt8} {p:Part} (h:p ∈ zI l b):p ∈ l∨p.Text=b:=by
 unfold zI at h
 rcases List.mem_append.1 h with h | h
 ·exact .inl h
 split at h
 ·cases h
 simp at h
 subst h
 exact .inr rfl
theorem zut {t:List UInt8} {l:List Part} {b:List UInt8} {r:Option (List Part × Nat)} (h:Qx t l b r):∀ q,r=some q→∀ p ∈ q.1,p ∈ l∨p.Text.length≤b.length+t.length:=by
 induction h with
 | nil | low | esc0 | escbad | refbad=>intro q hq;cases hq
 | shut t l b =>
  intro q hq p hp
  obtain rfl:=Option.some.inj hq
  rcases zk1 hp with h | h
  ·exact .inl h
  right;rw[h];omega
 | esc x y t l b r hx _ ih =>
  intro q hq p hp
  obtain⟨q0,h0,rfl⟩:=Option.map_eq_some_iff.1 hq
  rcases ih q0 h0 p hp with h | h
  ·exact .inl h
  right;simp at h ⊢;omega
 | ref t l b r hr _ ih =>
  intro q hq p hp
  obtain⟨q0,h0,rfl⟩:=Option.map_eq_some_iff.1 hq
  have h1:=ziJ hr
  rcases ih q0 h0 p hp with h | h
  ·rcases List.mem_append.1 h with h | h
   ·rcases zk1 h with h | h
    ·exact .inl h
    right;rw[h];omega
   simp at h
   subst h
   right
   simp
   omega
  right;simp at h ⊢;omega
 | plain c t l b r c1 c2 c3 c4 _ ih =>
  intro q hq p hp
  obtain⟨q0,h0,rfl⟩:=Option.map_eq_some_iff.1 hq
  rcases ih q0 h0 p hp with h | h
  ·exact .inl h
  right;simp at h ⊢;omega
theorem zsN (p:UInt8→Bool) (l:List UInt8):(l.takeWhile p).length≤l.length:=(List.takeWhile_sublist p).length_le
theorem ztU {t:List UInt8} {r:Option (Token × Nat)} (h:Tok t r):∀ x n,r=some (x,n)→x.Kind≠0∧x.Text.length≤t.length∧∀ p ∈ x.Parts,p.Text.length≤t.length:=by
 cases h with
 | name c u h =>
  intro x n hx
  split at hx
  ·cases hx
   exact⟨by simp,zsN _ _,by simp⟩
  cases hx
 | num c u h =>
  intro x n hx
  unfold zfl at hx
  split at hx
  ·cases hx
   exact⟨by simp,by simp,by simp⟩
  cases hx
 | text u r h =>
  intro x n hx
  obtain⟨q,hq,e⟩:=Option.map_eq_some_iff.1 hx
  cases e
  refine⟨by simp,by simp,fun p hp=>?_⟩
  rcases zut h q hq p hp with h | h
  ·cases h
  simp at h ⊢;omega
 | sign c u h2 h3 h4 =>
  intro x n hx
  split at hx
  ·cases hx
  cases hx
  exact⟨by simp,zlM c u,by simp⟩
theorem zpW {l:List UInt8} {p:Int} {r:Option (List Token)} (h:Lx l p r):∀ L,r=some L→W L∧L.length≤l.length+1∧∀ t ∈ L,t.Text.length≤l.length∧∀ q ∈ t.Parts,q.Text.length≤l.length:=by
 induction h with
 | nil p =>
  intro L hL
  cases hL
  exact⟨rfl,by simp,fun t ht=>by simp at ht;subst ht;simp⟩
 | gap c t p r hc _ ih =>
  intro L hL
  obtain⟨h1,h2,h3⟩:=ih L hL
  refine⟨h1,by simp;omega,fun x hx=>?_⟩
  obtain⟨h4,h5⟩:=h3 x hx
  exact⟨by simp;omega,fun q hq=>by have:=h5 q hq;simp;omega⟩
 | remark t p r _ ih =>
  intro L hL
  obtain⟨h1,h2,h3⟩:=ih L hL
  have hd:(t.dropWhile (· != 10)).length≤t.length:=(List.dropWhile_sublist _).length_le
  refine⟨h1,by simp;omega,fun x hx=>?_⟩
  obtain⟨h4,h5⟩:=h3 x hx
  exact⟨by simp;omega,fun q hq=>by have:=h5 q hq;simp;omega⟩
 | bad=>intro L hL;cases hL
 | tok c t p x n r h1 h2 hk _ ih =>
  intro L hL
  obtain⟨L0,h0,rfl⟩:=Option.map_eq_some_iff.1 hL
  obtain⟨g1,g2,g3⟩:=ztU hk x n rfl
  obtain⟨l1,l2⟩:=zkx hk (x,n) rfl
  obtain⟨i1,i2,i3⟩:=ih L0 h0
  simp only[List.length_drop] at i2 i3
  simp only at l1 l2
  refine⟨?_,by simp only[List.length_cons] at *;omega,fun y hy=>?_⟩
  ·cases L0 with
   | nil=>exact i1.elim
   | cons a L0=>exact⟨g1,i1⟩
  rcases List.mem_cons.1 hy with rfl | hy
  ·exact⟨g2,g3⟩
  obtain⟨h4,h5⟩:=i3 y hy
  exact⟨by omega,fun q hq=>by have:=h5 q hq;omega⟩
theorem zzA {s:List UInt8} {L:List Token} (hs:s.length≤6000) (h:zqh s=some L):TL L∧W L:=by
 obtain⟨h1,h2,h3⟩:=zpW (zo5 s) L h
 exact⟨⟨by omega,fun t ht=>by have:=(h3 t ht).1;omega,fun t ht p hp=>by have:=(h3 t ht).2 p hp;omega⟩,h1⟩
def ziE (s:List UInt8):PR (List Node):=match zqh s with | none=>.er 5 | some L=>exprT L
theorem zqa (s:List UInt8) (hs:s.length≤6000):match ziE s with
  | .ok l _ _=>zbb s l 0
  | .er e=>e≠0→zbb s [] e
  | .no=>False:=by
 have hx:=zvi hs (zo5 s)
 unfold ziE
 cases hl:zqh s with
 | none=>rw[hl] at hx;exact fun he=>zso hx he
 | some L =>
  rw[hl] at hx
  obtain⟨h1,h2⟩:=zzA hs hl
  exact zp6 hx h1 h2
theorem zcw {p:UInt8→Bool} {w R:List UInt8} (h:∀ x ∈ w,p x=true) (hR:∀ c,R.head?=some c→p c=false):(w++R).takeWhile p=w:=by
 cases R with
 | nil=>rw[List.append_nil];exact zd8 p w h
 | cons c R=>exact zcm p w c R h (hR c rfl)
def zom (R0 R:List UInt8):Prop:=R.head?=R0.head?∨R.head?=some 32∨R.head?=some 10∨R.head?=some 35
theorem zfA (p:UInt8→Bool):∀ (l:List UInt8) (c:UInt8),(l.dropWhile p).head?=some c→p c=false
 | [],c,h=>by cases h
 | a::l,c,h=>by
  rw[List.dropWhile_cons] at h
  split at h
  ·exact zfA p l c h
  rename_i hp
  obtain rfl:=Option.some.inj h
  simpa using hp
theorem ziy {cl:List Int} (h32:inC cl 32=false) (h10:inC cl 10=false) (h35:inC cl 35=false) {l R:List UInt8} (h:zom (l.dropWhile (inC cl)) R):∀ c,R.head?=some c→inC cl c=false:=by
 intro c hc
 rcases h with h | h | h | h
 ·exact zfA _ l c (h ▸ hc)
 all_goals (rw[h] at hc;obtain rfl:=Option.some.inj hc;assumption)
theorem zpI {x y v:List UInt8} (hx:zN x=true) (hy:zN y=true):zH (x++46::(y++125::v))=(x++46::y,true):=by
 have h125:(125:UInt8) ∉ x++46::y:=by
  intro h
  rcases List.mem_append.1 h with h | h
  ·have:=zds hx _ h;rw[zvD] at this;cases this
  rcases List.mem_cons.1 h with h | h
  ·exact absurd h (by decide)
  have:=zds hy _ h;rw[zvD] at this;cases this
 have h46:(46:UInt8) ∉ x:=by
  intro h
  have:=zds hx _ h;rw[zmN] at this;cases this
 have e:x++46::(y++125::v)=(x++46::y)++125::v:=by simp
 unfold zH zJ
 rw[e,zcc 125 _ _ h125]
 simp only
 rw[zcc 46 _ _ h46]
 simp[hx,hy]
theorem zsD {t:List UInt8} {l:List Part} {b:List UInt8} {r:Option (List Part × Nat)} (h:Qx t l b r):∀ q,r=some q→∀ R,Qx (t.take q.2++R) l b (some q):=by
 induction h with
 | nil | low | esc0 | escbad | refbad=>intro q hq;cases hq
 | shut t l b=>intro q hq R;obtain rfl:=Option.some.inj hq;exact .shut R l b
 | esc x y t l b r hx _ ih =>
  intro q hq R
  obtain⟨q0,h0,rfl⟩:=Option.map_eq_some_iff.1 hq
  have:=Qx.esc x y _ l b _ hx (ih q0 h0 R)
  exact this
 | ref t l b r hr _ ih =>
  intro q hq R
  obtain⟨q0,h0,rfl⟩:=Option.map_eq_some_iff.1 hq
  obtain⟨x,y,v,e1,hx,hy,e2⟩:=zlQ hr
  have hv:t.drop ((zH t).1.length+1)=v:=by
   rw[e2,e1,show x++46::(y++125::v)=(x++46::y)++125::v by simp]
   exact zor 125 _ v
  have ih:=ih q0 h0 R
  rw[hv] at ih
  have hlen:(x++46::y).length=(zH t).1.length:=by rw[e2]
  have et:t.take (q0.2+(1+(zH t).1.length))=(x++46::y)++125::v.take q0.2:=by
   rw[←hlen,e1,show x++46::(y++125::v)=(x++46::y)++125::v by simp]
   generalize x++46::y=z
   rw[List.take_append,List.take_of_length_le (by omega),show q0.2+(1+z.length) - z.length=q0.2+1 by omega]
   rfl
  show Qx ((36::123::t).take (q0.2+(3+(zH t).1.length))++R) l b _
  rw[show q0.2+(3+(zH t).1.length)=(q0.2+(1+(zH t).1.length))+1+1 by omega,List.take_succ_cons,List.take_succ_cons,et]
  have hS:zH (x++46::(y++125::(v.take q0.2++R)))=(x++46::y,true):=zpI hx hy
  have key:=Qx.ref (x++46::(y++125::(v.take q0.2++R))) l b (some q0) (by rw[hS]) (by
   rw[hS]
   simp only
   rw[show x++46::(y++125::(v.take q0.2++R))=(x++46::y)++125::(v.take q0.2++R) by simp,zor,←e2]
   exact ih)
  rw[hS] at key
  simp only[Option.map_some] at key
  rw[hlen] at key
  have e4:(36::123::((x++46::y)++125::v.take q0.2))++R=36::123::(x++46::(y++125::(v.take q0.2++R))):=by simp
  rw[e4]
  rw[show q0.2+(1+(zH t).1.length)+1+1=q0.2+(3+(zH t).1.length) by omega]
  exact key
 | plain c t l b r c1 c2 c3 c4 hq0 ih =>
  intro q hq R
  obtain⟨q0,h0,rfl⟩:=Option.map_eq_some_iff.1 hq
  have hpos:=zrq hq0 q0 h0
  have hh:(t.take q0.2++R).head?=t.head?:=by
   cases t with
   | nil=>simp at hpos;omega
   | cons a t =>
    obtain⟨m,hm⟩:∃ m,q0.2=m+1:=⟨q0.2 - 1,by omega⟩
    rw[hm,List.take_succ_cons]
    rfl
  have:=Qx.plain c _ l b _ c1 c2 c3 (fun e=>by rw[hh];exact c4 e) (ih q0 h0 R)
  exact this
theorem zih {a b:UInt8} (h:[a,b] ∈ zco):b=61∨b=38∨b=124:=by
 simp only[zco,List.mem_cons,List.cons.injEq,and_true,List.not_mem_nil,or_false] at h
 rcases h with h | h | h | h | h | h <;> simp[h.2]
theorem znB {c r:UInt8} (R:List UInt8) (h:r=32∨r=10∨r=35):zt (c::r::R)=zbT c:=by
 rw[zt,zcy,if_neg]
 intro e
 have:=zih e
 rcases h with rfl | rfl | rfl <;> simp at this
theorem zqm {z:List UInt8} {x:Token} {n:Nat} (h:Tok z (some (x,n))) (R:List UInt8) (hR:zom (z.drop n) R):Tok (z.take n++R) (some (x,n)):=by
 obtain⟨r,hr⟩:∃ r,r=some (x,n):=⟨_,rfl⟩
 rw[←hr] at h
 cases h with
 | name c u h =>
  split at hr
  ·rename_i h24
   obtain⟨rfl,rfl⟩:=Prod.mk.inj (Option.some.inj hr)
   have hd:(c::u).drop (zB [2,3] (c::u))=(c::u).dropWhile (inC [2,3]):=zar _ _
   have ht:(c::u).take (zB [2,3] (c::u))=(c::u).takeWhile (inC [2,3]):=za6 _ _
   rw[hd] at hR
   have hst:=ziy (by decide) (by decide) (by decide) hR
   have hc:inC [2,3] c=true:=(zfj c).2 (.inl h)
   have hw:((c::u).takeWhile (inC [2,3])++R).takeWhile (inC [2,3])=(c::u).takeWhile (inC [2,3]):=zcw (fun y hy=>List.all_eq_true.1 List.all_takeWhile y hy) hst
   rw[ht]
   obtain⟨w,ew⟩:∃ w,(c::u).takeWhile (inC [2,3])=c::w:=⟨_,by rw[List.takeWhile_cons,if_pos hc]⟩
   have key:=Tok.name c (w++R) h
   rw[←List.cons_append,←ew,hw,if_pos h24] at key
   unfold zB at key ⊢
   rw[hw] at key
   exact key
  cases hr
 | num c u h =>
  have hd:(c::u).drop (zB [3] (c::u))=(c::u).dropWhile (inC [3]):=zar _ _
  have ht:(c::u).take (zB [3] (c::u))=(c::u).takeWhile (inC [3]):=za6 _ _
  have hr0:=hr
  unfold zfl at hr
  split at hr
  ·rename_i hok
   obtain⟨rfl,rfl⟩:=Prod.mk.inj (Option.some.inj hr)
   unfold zB at hd ht
   rw[hd] at hR
   have hst:=ziy (by decide) (by decide) (by decide) hR
   have hc:inC [3] c=true:=by unfold inC;simp[h]
   have hw:((c::u).takeWhile (inC [3])++R).takeWhile (inC [3])=(c::u).takeWhile (inC [3]):=zcw (fun y hy=>List.all_eq_true.1 List.all_takeWhile y hy) hst
   rw[ht]
   obtain⟨w,ew⟩:∃ w,(c::u).takeWhile (inC [3])=c::w:=⟨_,by rw[List.takeWhile_cons,if_pos hc]⟩
   have key:=Tok.num c (w++R) h
   unfold zfl at key
   rw[←List.cons_append,←ew,hw,if_pos hok] at key
   exact key
  cases hr
 | text u q h =>
  obtain⟨q0,h0,e⟩:=Option.map_eq_some_iff.1 hr
  obtain⟨rfl,rfl⟩:=Prod.mk.inj e
  have key:=Tok.text _ _ (zsD h q0 h0 R)
  exact key
 | sign c u h2 h3 h4 =>
  split at hr
  ·cases hr
  rename_i hne
  obtain⟨rfl,rfl⟩:=Prod.mk.inj (Option.some.inj hr)
  have goal:∀ R',(c::u).take (zt (c::u)).length++R=c::R'→zt (c::R')=zt (c::u)→Tok ((c::u).take (zt (c::u)).length++R) (some (Token.mk 4 (zt (c::u)) 0 [] 0,(zt (c::u)).length)):=by
   intro R' e1 e2
   have key:=Tok.sign c R' h2 h3 h4
   rw[e2,if_neg hne] at key
   rw[e1]
   exact key
  have one:zbT c≠[]→zbT c=[c]:=by
   intro h
   unfold zbT at h ⊢
   split
   ·rfl
   rename_i hn;rw[if_neg hn] at h;exact absurd rfl h
  cases u with
  | nil =>
   have e1:zt [c]=[c]:=one hne
   refine goal R (by rw[e1];rfl) ?_
   rw[e1] at hR
   cases R with
   | nil=>rfl
   | cons r R =>
    have hs:r=32∨r=10∨r=35:=by
     rcases hR with h | h | h | h
     ·cases h
     all_goals (have:=Option.some.inj h;simp[this])
    rw[znB R hs]
    rfl
  | cons b u =>
   by_cases h2:[c,b] ∈ zco
   ·have e1:zt (c::b::u)=[c,b]:=by rw[zt,zcy,if_pos h2]
    refine goal (b::R) (by rw[e1];rfl) ?_
    rw[e1,zt,zcy,if_pos h2]
   have e0:zt (c::b::u)=zbT c:=by rw[zt,zcy,if_neg h2]
   have e1:zt (c::b::u)=[c]:=by rw[e0];exact one (e0 ▸ hne)
   refine goal R (by rw[e1];rfl) ?_
   rw[e1] at hR
   cases R with
   | nil =>
    rcases hR with h | h | h | h <;> cases h
   | cons r R =>
    rcases hR with h | h | h | h
    ·have hb:r=b:=Option.some.inj h
     rw[hb,e0,zt,zcy,if_neg h2]
    all_goals (rw[znB R (by have:=Option.some.inj h;simp[this]),e0])
def Lxs (t:List UInt8) (L:List Token):Prop:=∀ p,∃ L0,Lx t p (some L0)∧L0.map σ=L
def eT:Token:=⟨0,[],0,[],0⟩
theorem zwI:Lxs [] [eT]:=fun p=>⟨_,.nil p,rfl⟩
theorem zdx {c:UInt8} (hc:zy c=1) {t:List UInt8} {L:List Token} (h:Lxs t L):Lxs (c::t) L:=fun p=>by
 obtain⟨L0,h1,h2⟩:=h (p+1)
 exact⟨L0,.gap c t p _ hc h1,h2⟩
theorem zdw {c:UInt8} {t:List UInt8} {x:Token} {n:Nat} (h1:zy c≠1) (h2:zy c≠5) (hk:Tok (c::t) (some (x,n))) {L:List Token} (h:Lxs ((c::t).drop n) L):Lxs (c::t) (σ x::L):=fun p=>by
 obtain⟨L0,h3,h4⟩:=h (p+n)
 refine⟨_,.tok c t p x n _ h1 h2 hk h3,?_⟩
 rw[List.map_cons,h4]
 rfl
theorem zws {w:List UInt8} {x:Token} (hs:zhA w) (hk:Tok w (some (x,w.length))) {R:List UInt8} (hR:zom [] R) {L:List Token} (h:Lxs R L):Lxs (w++R) (σ x::L):=by
 have h1:=zqm hk R (by rw[List.drop_length];exact hR)
 rw[List.take_length] at h1
 cases w with
 | nil=>cases hk
 | cons c u =>
  have h2:Lxs ((c::u++R).drop (c::u).length) L:=by rw[List.drop_left];exact h
  exact zdw hs.1 hs.2 h1 h2
theorem ziM {c:UInt8} (h1:zy c≠1) (h2:zy c≠5) (h3:zy c≠2) (h4:zy c≠3) (h5:zy c≠4) (h6:∀ b,[c,b] ∉ zco) (h7:zbT c=[c]) {t:List UInt8} {L:List Token} (h:Lxs t L):Lxs (c::t) (tg [c]::L):=by
 have e:zt (c::t)=[c]:=by
  cases t with
  | nil=>exact h7
  | cons b t=>rw[zt,zcy,if_neg (h6 b),h7]
 have hk:=Tok.sign c t h3 h4 h5
 rw[e,if_neg (by simp)] at hk
 exact zdw h1 h2 hk h
theorem zo8 {s:List UInt8} (hs:s.length≤6000) {L:List Token} (h:Lxs s L):match exprT L with
  | .ok l _ _=>zbb s l 0
  | .er e=>e≠0→zbb s [] e
  | .no=>False:=by
 obtain⟨L0,h1,h2⟩:=h 0
 obtain⟨g1,g2,g3⟩:=zpW h1 L0 rfl
 have hT:TL L0:=⟨by omega,fun t ht=>by have:=(g3 t ht).1;omega,fun t ht p hp=>by have:=(g3 t ht).2 p hp;omega⟩
 have hx:zc8 s L0 0:=zvi hs h1
 have key:=zp6 hx hT g1
 rw[←h2,zw3]
 cases hc:exprT L0 with
 | ok l ts out=>rw[hc] at key;exact key
 | er e=>rw[hc] at key;exact key
 | no=>rw[hc] at key;exact key
theorem zrJ {s:List UInt8} (hs:s.length≤6000) {L:List Token} (h:Lxs s L) {l:List Node} {ts:List Token} {o:List Node} (hc:exprT L=.ok l ts o):zbb s l 0:=by
 have:=zo8 hs h
 rw[hc] at this
 exact this
theorem zsv {s:List UInt8} (hs:s.length≤6000) {L:List Token} (h:Lxs s L) {e:Int} (hc:exprT L=.er e) (he:e≠0):zbb s [] e:=by
 have:=zo8 hs h
 rw[hc] at this
 exact this he
theorem zry {t:List UInt8} {L:List Token} (h:Lxs t L):Lxs (40::t) (lpT::L):=ziM (by decide) (by decide) (by decide) (by decide) (by decide) (by simp[zco]) (by decide) h
theorem zsH {t:List UInt8} {L:List Token} (h:Lxs t L):Lxs (41::t) (rpT::L):=ziM (by decide) (by decide) (by decide) (by decide) (by decide) (by simp[zco]) (by decide) h
end Go.Proofs.YtfbcnpbhhooapaaGreatDoor.M
namespace Go.Proofs.YtfbcnpbhhooapaaGreatDoor.M
open Go Classical
theorem zyO {k:Int} (h0:11≤k) (h1:k≤23):zaS k≠[91]∧zaS k≠[63]:=by
 have:k=11∨k=12∨k=13∨k=14∨k=15∨k=16∨k=17∨k=18∨k=19∨k=20∨k=21∨k=22∨k=23:=by omega
 rcases this with rfl | rfl | rfl | rfl | rfl | rfl | rfl | rfl | rfl | rfl | rfl | rfl | rfl <;> exact⟨by decide,by decide⟩
theorem zp1 (c:List UInt8) (h:c=[63]∨c=[58]):NoOp 0 (tg c)∧zau (tg c):=by
 refine⟨fun k _ h4 _=>?_,fun _=>?_⟩
 ·match k,h4 with
  | 0,_=>rcases h with rfl | rfl <;> decide
  | 1,_=>rcases h with rfl | rfl <;> decide
  | 2,_=>rcases h with rfl | rfl <;> decide
  | 3,_=>rcases h with rfl | rfl <;> decide
  | 4,_=>rcases h with rfl | rfl <;> decide
 rcases h with rfl | rfl <;> simp[isS,tg]
theorem znR {x y:List UInt8} (hx:zN x=true):Lib.cut (x++46::y) [46]=(x,y,true):=by
 have h46:(46:UInt8) ∉ x:=by
  intro h
  have:=zds hx _ h;rw[zmN] at this;cases this
 exact zcc 46 _ _ h46
theorem zxC {l:List Node} (h:TR l):∀ (e:Nat),e < l.length→PE l (e:Int):=by
 intro e
 induction e using Nat.strongRecOn with
 | _ e ih =>
  intro he
  obtain⟨hok,hk,hlen⟩:=h.node e he
  obtain⟨b,hb,hbe,hkc⟩:=zoY h he
  have hd:=(zpU h e he).2
  have hb':zeM l (e:Int)=b:=by unfold zeM;rw[Int.toNat_natCast];omega
  have hOB:OB l (e:Int)=l.take b:=by rw[OB,hb']
  have hOA:OA l (e:Int)=l.take e++[l[e]]:=by rw[OA,Int.toNat_natCast,ztb he]
  have hsz:szN l (e:Int)=e+1 - b:=by unfold szN;rw[hb',Int.toNat_natCast]
  have hrk:rkK l (e:Int)=rkS l[e].Kind:=by unfold rkK;rw[Int.toNat_natCast,List.getElem?_eq_getElem he]
  have htk:tkI l (e:Int)=ndK l (tkI l) l[e]:=by
   have:=zj0 he hok hk
   exact this
  have hdI:7≤rkS l[e].Kind→HdOk hd7 (tkI l (e:Int)):=hd
  have ihk:∀ k ∈ l[e].Kids,PE l k∧HdOk hd0 (tkI l k):=fun k hk'=>by
   have h1:=hk k hk'
   have h2:=ih k.toNat (by omega) (by omega)
   rw[show ((k.toNat:Nat):Int)=k by omega] at h2
   exact⟨h2,(zpU h k.toNat (by omega)).1⟩
  have hle:(l.take e).length=e:=by rw[List.length_take];omega
  have hs0:0 < szN l (e:Int):=by omega
  have hFU:FU l (e:Int)=20*(e+1 - b)+20:=by unfold FU;rw[hsz]
  clear hd hb hb' hlen ih
  generalize l[e]=n at *
  have hkl:=zbl hok
  have one:∀ c,n.Kids.length=1→c=kid n 0→PE l c∧OB l c=l.take b∧OA l c=l.take e∧szN l c+b=e:=fun c hc hcc=>by
   have hK:n.Kids=[kid n 0]:=zQ hc
   have p:=(ihk (kid n 0) (zm (by omega))).1
   rw[hK] at hkc
   obtain⟨a0,a1,a2⟩:=hkc
   have a2:(kid n 0).toNat+1=e:=a2
   obtain⟨o1,o2⟩:=zeq a1
   have:=p.sz
   subst hcc
   refine⟨p,o1,by rw[OA,a2],?_⟩
   unfold szN at *
   omega
  have two:n.Kids.length=2→PE l (kid n 0)∧PE l (kid n 1)∧OB l (kid n 0)=l.take b∧OB l (kid n 1)=OA l (kid n 0)∧OA l (kid n 1)=l.take e∧szN l (kid n 0)+szN l (kid n 1)+b=e:=fun hc=>by
   have hK:n.Kids=[kid n 0,kid n 1]:=zQ hc
   have p:=(ihk (kid n 0) (zm (by omega))).1
   have q:=(ihk (kid n 1) (zm (by omega))).1
   rw[hK] at hkc
   obtain⟨a0,a1,c0,c1,c2⟩:=hkc
   have c2:(kid n 1).toNat+1=e:=c2
   obtain⟨o1,o2⟩:=zeq a1
   obtain⟨o3,o4⟩:=zeq c1
   have:=p.sz
   have:=q.sz
   refine⟨p,q,o1,o3,by rw[OA,c2],?_⟩
   unfold szN at *
   omega
  by_cases k1:n.Kind=1
  ·have hb0:b=e:=by rw[zem hok (by omega)] at hkc;exact hkc
   refine PE.ofPrim (hdI (by rw[k1];decide)) hs0 fun m d X hm hX=>?_
   obtain⟨m,rfl⟩:∃ m',m=m'+1:=⟨m - 1,by omega⟩
   rw[htk,nk1 k1,hOB,hOA,List.singleton_append,zuM,←zzz hok k1,hb0,hle]
   exact .inl rfl
  by_cases k2:n.Kind=2
  ·have hb0:b=e:=by rw[zem hok (by omega)] at hkc;exact hkc
   refine PE.ofPrim (hdI (by rw[k2];decide)) hs0 fun m d X hm hX=>?_
   obtain⟨m,rfl⟩:∃ m',m=m'+1:=⟨m - 1,by omega⟩
   rw[htk,nk2 k2,hOB,hOA,List.singleton_append,zuf,←zzm hok k2,hb0,hle]
   exact .inl rfl
  by_cases k3:n.Kind=3
  ·have hb0:b=e:=by rw[zem hok (by omega)] at hkc;exact hkc
   refine PE.ofPrim (hdI (by rw[k3];decide)) hs0 fun m d X hm hX=>?_
   obtain⟨m,rfl⟩:∃ m',m=m'+1:=⟨m - 1,by omega⟩
   obtain⟨h01,hf⟩:=zzk hok k3
   rcases h01 with h0 | h0
   ·rw[htk,nk3 k3,hOB,hOA,List.singleton_append,decide_eq_false (by omega),ziV,zq6]
    rw[h0] at hf
    rw[←hf,hb0,hle]
    exact .inl rfl
   rw[htk,nk3 k3,hOB,hOA,List.singleton_append,decide_eq_true h0,zkA,zrC]
   rw[h0] at hf
   rw[←hf,hb0,hle]
   exact .inl rfl
  by_cases k4:n.Kind=4
  ·have hb0:b=e:=by rw[zem hok (by omega)] at hkc;exact hkc
   refine PE.ofPrim (hdI (by rw[k4];decide)) hs0 fun m d X hm hX=>?_
   obtain⟨m,rfl⟩:∃ m',m=m'+1:=⟨m - 1,by omega⟩
   obtain⟨h1,h2,hf⟩:=zu7 hok k4
   obtain⟨x,y,hxy,hx,hy⟩:=zcX h1
   rw[htk,nk4 k4,hOB,hOA]
   have hc:Lib.cut n.Text [46]=(x,y,true):=by rw[hxy];exact znR hx
   rw[zm7,hc]
   rw[hc] at h2
   simp only[List.cons_append,List.nil_append]
   rw[zu1 m d h2,show (x++[46])++y=n.Text by rw[hxy];simp,←hf,hb0,hle]
   exact .inl rfl
  by_cases k5:n.Kind=5
  ·obtain⟨h1,h2,hf⟩:=zu8 hok k5
   refine PE.ofPrim (hdI (by rw[k5];decide)) hs0 fun m d X hm hX=>?_
   obtain⟨m,rfl⟩:∃ m',m=m'+1:=⟨m - 1,by omega⟩
   have:=zrB m d h2 (zjQ (.inl rfl) (d+1) X n.Kids b e m hkc ihk (by omega))
   rw[←hf,hle] at this
   rw[htk,nk5 k5,hOB,hOA]
   simpa [rpT,tg,List.append_assoc] using this
  by_cases k6:n.Kind=6
  ·have hf:=zhP hok (by omega)
   refine PE.ofPrim (hdI (by rw[k6];decide)) hs0 fun m d X hm hX=>?_
   obtain⟨m,rfl⟩:∃ m',m=m'+1:=⟨m - 1,by omega⟩
   have:=zr9 m d (zjQ (.inr rfl) (d+1) X n.Kids b e m hkc ihk (by omega))
   rw[k6] at hf
   rw[←hf,hle] at this
   rw[htk,nk6 k6,hOB,hOA]
   simpa [List.append_assoc] using this
  by_cases k7:n.Kind=7
  ·have hc:=kdk hok 7 2 k7 (by decide) (by decide) (by decide)
   have hf:=zhP hok (by omega)
   rw[k7] at hf
   obtain⟨p,q,o1,o2,o3,hs⟩:=two hc
   have f0:FU l (kid n 0)=20*szN l (kid n 0)+20:=rfl
   have f1:FU l (kid n 1)=20*szN l (kid n 1)+20:=rfl
   have q0:=q.sz
   have hK:n.Kids=[kid n 0,kid n 1]:=zQ hc
   refine PE.ofPo (hdI (by rw[k7];decide)) hs0 fun m d X hm hX=>?_
   obtain⟨n1,h1,h2⟩:=w_po p m d (tg [91]::(tkI l (kid n 1)++tg [93]::X)) (by simp) (by omega)
   obtain⟨m1,rfl⟩:∃ m1,n1=m1+1:=⟨n1 - 1,by omega⟩
   have hsep:=zeJ (c:=[93]) (.inr (.inr rfl))
   have h3:=q.ex m1 (d+1) (tg [93]) X (by omega) hsep.1 hsep.2.1 hsep.2.2
   rw[o2,o3] at h3
   have h4:=zsj (a:=kid n 0) h3
   rw[hle,←hK,←hf] at h4
   refine⟨m1,by omega,?_⟩
   rw[htk,nk7 k7,hOB,hOA,←o1]
   have h5:=h2.trans h4
   simpa [List.append_assoc] using h5
  by_cases k8:n.Kind=8
  ·have hc:=kdk hok 8 1 k8 (by decide) (by decide) (by decide)
   have hf:=zhP hok (by omega)
   rw[k8] at hf
   obtain⟨p,o1,o3,hs⟩:=one _ hc rfl
   have f0:FU l (kid n 0)=20*szN l (kid n 0)+20:=rfl
   have hK:n.Kids=[kid n 0]:=zQ hc
   refine PE.ofUn (by rw[hrk,k8];decide) hs0 fun m d u rest hm hu=>?_
   obtain⟨m,rfl⟩:∃ m',m=m'+1:=⟨m - 1,by omega⟩
   have:=zy5 (w_un p m (d+1) u rest (by omega) hu)
   rw[o1,o3,hle,←hK,←hf] at this
   rw[htk,nk8 k8,hOB,hOA]
   exact this
  by_cases k9:n.Kind=9
  ·have hc:=kdk hok 9 1 k9 (by decide) (by decide) (by decide)
   have hf:=zhP hok (by omega)
   rw[k9] at hf
   obtain⟨p,o1,o3,hs⟩:=one _ hc rfl
   have f0:FU l (kid n 0)=20*szN l (kid n 0)+20:=rfl
   have hK:n.Kids=[kid n 0]:=zQ hc
   refine PE.ofUn (by rw[hrk,k9];decide) hs0 fun m d u rest hm hu=>?_
   obtain⟨m,rfl⟩:∃ m',m=m'+1:=⟨m - 1,by omega⟩
   have:=zxz (w_un p m (d+1) u rest (by omega) hu)
   rw[o1,o3,hle,←hK,←hf] at this
   rw[htk,nk9 k9,hOB,hOA]
   exact this
  by_cases k10:n.Kind=10
  ·have hc:=kdk hok 10 3 k10 (by decide) (by decide) (by decide)
   have hf:=zhP hok (by omega)
   rw[k10] at hf
   have hK:n.Kids=[kid n 0,kid n 1,kid n 2]:=zQ hc
   have p:=(ihk (kid n 0) (zm (by omega))).1
   have q:=(ihk (kid n 1) (zm (by omega))).1
   have r:=(ihk (kid n 2) (zm (by omega))).1
   have hkc':=hkc
   rw[hK] at hkc'
   obtain⟨a0,a1,c0,c1,e0,e1,e2⟩:=hkc'
   have e2:(kid n 2).toNat+1=e:=e2
   obtain⟨o1,s1⟩:=zeq a1
   obtain⟨o2,s2⟩:=zeq c1
   obtain⟨o3,s3⟩:=zeq e1
   have z1:=p.sz
   have z2:=q.sz
   have z3:=r.sz
   have hs:szN l (kid n 0)+szN l (kid n 1)+szN l (kid n 2)+b=e:=by unfold szN at *;omega
   have f0:FU l (kid n 0)=20*szN l (kid n 0)+20:=rfl
   have f1:FU l (kid n 1)=20*szN l (kid n 1)+20:=rfl
   have f2:FU l (kid n 2)=20*szN l (kid n 2)+20:=rfl
   have hr0:rkK l (e:Int)=0:=by rw[hrk,k10];decide
   refine⟨fun m d u rest hm ho hu hi=>?_,fun r _ hr=>by omega,fun r _ _ hr=>by omega,fun hr=>by omega,fun hr=>by omega,hs0⟩
   obtain⟨m,rfl⟩:∃ m',m=m'+1:=⟨m - 1,by omega⟩
   have q63:=zp1 [63] (.inl rfl)
   have q58:=zp1 [58] (.inr rfl)
   have g0:=zmB p (least:=1) (r:=0) (by decide) (by decide) m d (tg [63]) (tkI l (kid n 1)++tg [58]::(tkI l (kid n 2)++u::rest)) (by omega) q63.1 q63.2
   have g1:=q.ex m (d+1) (tg [58]) (tkI l (kid n 2)++u::rest) (by omega) q58.1 q58.2 (fun _=>by simp[isS,tg])
   have g2:=r.ex m (d+1) u rest (by omega) ho hu hi
   have j1:OB l (kid n 1)=OA l (kid n 0):=o2
   have j2:OB l (kid n 2)=OA l (kid n 1):=o3
   have j3:OA l (kid n 2)=l.take e:=by rw[OA,e2]
   rw[j1] at g1
   rw[j2,j3] at g2
   rw[o1] at g0
   rw[htk,zuS k10,hOB,hOA]
   have ea:(wrK l (tkI l) (kid n 0) 1++tg [63]::(tkI l (kid n 1)++tg [58]::tkI l (kid n 2)))++u::rest=wrK l (tkI l) (kid n 0) 1++tg [63]::(tkI l (kid n 1)++tg [58]::(tkI l (kid n 2)++u::rest)):=by simp
   rw[ea,zA]
   refine zcQ g0 ?_
   rw[za3,if_pos rfl,zW,za3,if_pos rfl,List.tail_cons]
   by_cases hd:64≤d
   ·rw[if_pos hd];exact .inr rfl
   rw[if_neg hd]
   refine zcQ g1 ?_
   rw[zal,za3,if_pos rfl,List.tail_cons]
   refine zcQ g2 ?_
   rw[hle,←hK,←hf]
   exact .inl rfl
  have hc:=kd2 hok (by omega)
  have hf:=zhP hok (by omega)
  obtain⟨p,q,o1,o2,o3,hs⟩:=two hc
  have f0:FU l (kid n 0)=20*szN l (kid n 0)+20:=rfl
  have f1:FU l (kid n 1)=20*szN l (kid n 1)+20:=rfl
  have z0:=p.sz
  have z1:=q.sz
  have hK:n.Kids=[kid n 0,kid n 1]:=zQ hc
  obtain⟨r,r4,hr,hop,hno⟩:=zsM (k:=n.Kind) (by omega) (by omega)
  obtain⟨n91,n63⟩:=zyO (k:=n.Kind) (by omega) (by omega)
  have sIdx:zau (tg (zaS n.Kind)):=fun X=>zkj n91 X
  have sOp:NoOp (r+1) (tg (zaS n.Kind)):=fun j h1 h2 _=>hno j h2 (by omega)
  have hmax:∀ r':Nat,r'≤5→(r':Int) < rkK l (e:Int)→r'≤r:=fun r' _ h'=>by rw[hrk,hr] at h';omega
  by_cases r2:r=2
  ·subst r2
   have h3:rkS n.Kind=3:=by omega
   refine PE.of (q:=2) (by decide) hmax hs0 (fun m d u rest hm ho hu=>?_) (fun _ hf=>absurd rfl hf) (fun hf=>by omega) (fun hf=>by omega)
   obtain⟨m,rfl⟩:∃ m',m=m'+2:=⟨m - 2,by omega⟩
   have g0:=zmB p (least:=4) (r:=3) (by decide) (by decide) (m+1) d (tg (zaS n.Kind)) (wrK l (tkI l) (kid n 1) 4++u::rest) (by omega) sOp sIdx
   have g1:=zmB q (least:=4) (r:=3) (by decide) (by decide) m d u rest (by omega) (ho.mono (by decide)) hu
   rw[o2,o3] at g1
   have g2:=zls (a:=kid n 0) hop g1
   rw[if_pos rfl,hle,←hK,←hf] at g2
   rw[htk,zqs (by omega),if_pos h3,hOB,hOA,←o1,h3]
   have g3:=(zf8 (by decide) g0).ok (g2.ok (.inl rfl))
   simpa [List.append_assoc] using g3
  have hne:¬ rkS n.Kind=3:=by omega
  have lpq:∀ m d u rest,FU l (e:Int)≤m+1+r→NoOp (r+1) u→zau u→∃ n',m≤n'+szN l (e:Int)∧eqOr (zq m r d (tkI l (e:Int)++u::rest) (OB l (e:Int))) (zM n' r d (e:Int) (u::rest) (OA l (e:Int))):=fun m d u rest hm ho hu=>by
   obtain⟨n1,h1,h2⟩:=w_lp p (r:=r) (by omega) r2 m d (tg (zaS n.Kind)) (wrK l (tkI l) (kid n 1) (rkS n.Kind+1)++u::rest) (by omega) sOp sIdx
   obtain⟨m1,rfl⟩:∃ m1,n1=m1+1:=⟨n1 - 1,by omega⟩
   have g1:=zmB q (least:=rkS n.Kind+1) (r:=r+1) (by omega) (by omega) m1 d u rest (by omega) ho hu
   rw[o2,o3] at g1
   have g2:=zls (a:=kid n 0) hop g1
   rw[if_neg r2,hle,←hK,←hf] at g2
   refine⟨m1,by omega,?_⟩
   rw[htk,zqs (by omega),if_neg hne,hOB,hOA,←o1]
   rw[←hr] at h2
   have g3:=h2.trans g2
   simpa [List.append_assoc] using g3
  refine PE.of (q:=r) (by omega) hmax hs0 (fun m d u rest hm ho hu=>?_) (fun _ _=>lpq) (fun hf=>by omega) (fun hf=>by omega)
  obtain⟨n1,h1,h2⟩:=lpq m d u rest hm (ho.mono (by omega)) hu
  obtain⟨m1,rfl⟩:∃ m1,n1=m1+1:=⟨n1 - 1,by omega⟩
  exact h2.ok (.inl (zg3 (ho r (Nat.le_refl _) r4) _ _ _ _ _))
end Go.Proofs.YtfbcnpbhhooapaaGreatDoor.M
namespace Go.Proofs.YtfbcnpbhhooapaaGreatDoor.M
open Go
def c_Q48_1:SC:=.seq (.reg [vO 2 (.mov (cI (-2)))]) .ret
def c_Q48_2:SC:=.cond (.t 10) (.seq (.reg [vO 2 (.mov (cI (-1)))]) .ret) (.seq (.reg [mO 18 0,vO 19 (.bin .eql (.t 18) (cI 8)),mO 20 19,gO 21 20 false (.mov (.t 0)),gO 22 20 false (.bin .eql (.t 21) (cI 9)),vO 23 (.pick (.t 20) (.c (.bool true)) (.t 22)),mO 17 23]) (.cond (.t 17) (.seq (.reg [vO 2 (.mov (cI 1))]) .ret) (.seq (.reg [mO 25 0,vO 26 (.bin .eql (.t 25) (cI 10)),mO 24 26]) (.cond (.t 24) (.seq (.reg [vO 2 (.mov (cI 3))]) .ret) (.seq (.reg [mO 28 0,vO 29 (.bin .eql (.t 28) (cI 7)),mO 30 29,gO 31 30 false (.mov (.t 0)),gO 32 30 false (.bin .geq (.t 31) (cI 11)),gO 33 30 false (.mov (.t 32)),gO 34 33 true (.mov (.t 0)),gO 35 33 true (.bin .leq (.t 34) (cI 23)),gO 36 30 false (.pick (.t 33) (.t 35) (.c (.bool false))),vO 37 (.pick (.t 30) (.c (.bool true)) (.t 36)),mO 27 37]) (.cond (.t 27) (.seq (.reg [vO 2 (.mov (cI 2))]) .ret) .skip))))))
def c_Q48_3:SC:=.cond (.t 3) (.seq (.reg [vO 2 (.mov (cI 0))]) .ret) (.seq (.reg [mO 11 0,vO 12 (.bin .eql (.t 11) (cI 5)),mO 13 12,gO 14 13 false (.mov (.t 0)),gO 15 13 false (.bin .eql (.t 14) (cI 6)),vO 16 (.pick (.t 13) (.c (.bool true)) (.t 15)),mO 10 16]) c_Q48_2)
def c_Q48_4:SC:=.seq (.block 0 (.seq (.reg [mO 4 0,vO 5 (.bin .geq (.t 4) (cI 1)),mO 6 5,gO 7 6 true (.mov (.t 0)),gO 8 6 true (.bin .leq (.t 7) (cI 4)),vO 9 (.pick (.t 6) (.t 8) (.c (.bool false))),mO 3 9]) c_Q48_3)) c_Q48_1
def sc_Q48:zf:=⟨1,38,.seq (.reg [vO 2 (.mov (cI 0))]) c_Q48_4,[(.t 2)]⟩
theorem zzy:type_of% (aI (ue c_Q48_1.eq_1)<|aI (ue c_Q48_2.eq_1)<|aI (ue c_Q48_3.eq_1)<|aI (ue c_Q48_4.eq_1)<|sc_Q48.eq_1):=aI (ue c_Q48_1.eq_1)<|aI (ue c_Q48_2.eq_1)<|aI (ue c_Q48_3.eq_1)<|aI (ue c_Q48_4.eq_1)<|sc_Q48.eq_1
theorem comp_Q48:comp Tryz.prog Tryz.f48=some sc_Q48:=by kernel_rfl
def c_Q76_1:SC:=.seq (.reg [vO 2 (.mov (.c (.bool true)))]) .ret
def c_Q76_2:SC:=.reg [mO 9 3,vO 10 (.bin .add (.t 9) (cI 1)),mO 3 10]
def c_Q76_3:SC:=.seq (.block 3 (.seq (.reg [mO 52 0,mO 53 3,vO 54 (.iaddr 2 (.t 52) (.t 53)),vO 55 (.faddr 1 (.t 54)),vO 56 (.load none (.t 55)),mO 57 4,vO 58 (.istr (.t 56) (.t 57)),vO 59 (.bin .lss (.t 58) (.c (.int .u8 32))),mO 60 59,gO 61 60 true (.mov (.t 0)),gO 62 60 true (.mov (.t 3)),gO 63 60 true (.iaddr 2 (.t 61) (.t 62)),gO 64 60 true (.faddr 1 (.t 63)),gO 65 60 true (.load none (.t 64)),gO 66 60 true (.mov (.t 4)),gO 67 60 true (.istr (.t 65) (.t 66)),gO 68 60 true (.bin .neq (.t 67) (.c (.int .u8 10))),vO 69 (.pick (.t 60) (.t 68) (.c (.bool false)))]) (.cond (.t 69) (.seq (.reg [vO 2 (.mov (.c (.bool false)))]) .ret) .skip))) (.reg [mO 50 4,vO 51 (.bin .add (.t 50) (cI 1)),mO 4 51])
def b_Q76_2:SC:=.seq (.seq (.reg [mO 42 4,mO 43 0,mO 44 3,vO 45 (.iaddr 2 (.t 43) (.t 44)),vO 46 (.faddr 1 (.t 45)),vO 47 (.load none (.t 46)),vO 48 (.len true (.t 47)),vO 49 (.bin .lss (.t 42) (.t 48))]) (.cond (.t 49) .skip (.exit 2))) c_Q76_3
def c_Q76_4:SC:=.block 2 (.loop b_Q76_2)
def c_Q76_5:SC:=.seq (.reg [vO 4 (.mov (cI 0))]) c_Q76_4
def c_Q76_6:SC:=.seq (.seq (.reg [mO 23 0,mO 24 3,vO 25 (.iaddr 2 (.t 23) (.t 24)),vO 26 (.faddr 1 (.t 25)),vO 27 (.load none (.t 26)),vO 28 (.bin .eql (.t 27) (.c (.str []))),mO 29 28,gO 30 29 false (.mov (.t 3)),gO 31 29 false (.bin .gtr (.t 30) (cI 0)),gO 32 29 false (.mov (.t 31)),gO 33 32 true (.mov (.t 0)),gO 34 32 true (.mov (.t 3)),gO 35 32 true (.bin .sub (.t 34) (cI 1)),gO 36 32 true (.iaddr 2 (.t 33) (.t 35)),gO 37 32 true (.faddr 0 (.t 36)),gO 38 32 true (.load none (.t 37)),gO 39 32 true (.un .not (.t 38)),gO 40 29 false (.pick (.t 32) (.t 39) (.c (.bool false))),vO 41 (.pick (.t 29) (.c (.bool true)) (.t 40))]) (.cond (.t 41) (.seq (.reg [vO 2 (.mov (.c (.bool false)))]) .ret) .skip)) c_Q76_5
def c_Q76_7:SC:=.seq (.block 1 (.seq (.seq (.reg [mO 11 0,mO 12 3,vO 13 (.iaddr 2 (.t 11) (.t 12)),vO 14 (.faddr 0 (.t 13)),vO 15 (.load none (.t 14))]) (.cond (.t 15) (.seq (.seq (.reg [mO 16 0,mO 17 3,vO 18 (.iaddr 2 (.t 16) (.t 17)),vO 19 (.faddr 1 (.t 18)),vO 20 (.load none (.t 19)),kO 21 78 [(.t 20)],vO 22 (.un .not (.t 21))]) (.cond (.t 22) (.seq (.reg [vO 2 (.mov (.c (.bool false)))]) .ret) .skip)) (.exit 1)) .skip)) c_Q76_6)) c_Q76_2
def b_Q76_1:SC:=.seq (.seq (.reg [mO 5 3,mO 6 0,vO 7 (.len false (.t 6)),vO 8 (.bin .lss (.t 5) (.t 7))]) (.cond (.t 8) .skip (.exit 0))) c_Q76_7
def c_Q76_8:SC:=.block 0 (.loop b_Q76_1)
def c_Q76_9:SC:=.seq (.seq (.reg [vO 3 (.mov (cI 0))]) c_Q76_8) c_Q76_1
def sc_Q76:zf:=⟨1,70,.seq (.reg [vO 2 (.mov (.c (.bool false)))]) c_Q76_9,[(.t 2)]⟩
noncomputable def zpJ (SP:Prg) (x:EO):CO:=fin [(.t 2)] (thC SP (zw 0 (thC SP (thC SP (zw 1 (zw 2 (x))) c_Q76_2) (.loop b_Q76_1))) c_Q76_1)
noncomputable def zoU (SP:Prg) (x:EO):CO:=fin [(.t 2)] (thC SP (zw 0 (x)) c_Q76_1)
theorem zre:type_of% (aI (ue c_Q76_1.eq_1)<|aI (ue c_Q76_2.eq_1)<|aI (ue c_Q76_3.eq_1)<|aI (ue b_Q76_2.eq_1)<|aI (ue c_Q76_4.eq_1)<|aI (ue c_Q76_5.eq_1)<|aI (ue c_Q76_6.eq_1)<|aI (ue c_Q76_7.eq_1)<|aI (ue b_Q76_1.eq_1)<|aI (ue c_Q76_8.eq_1)<|aI (ue c_Q76_9.eq_1)<|sc_Q76.eq_1):=aI (ue c_Q76_1.eq_1)<|aI (ue c_Q76_2.eq_1)<|aI (ue c_Q76_3.eq_1)<|aI (ue b_Q76_2.eq_1)<|aI (ue c_Q76_4.eq_1)<|aI (ue c_Q76_5.eq_1)<|aI (ue c_Q76_6.eq_1)<|aI (ue c_Q76_7.eq_1)<|aI (ue b_Q76_1.eq_1)<|aI (ue c_Q76_8.eq_1)<|aI (ue c_Q76_9.eq_1)<|sc_Q76.eq_1
theorem comp_Q76:comp Tryz.prog Tryz.f76=some sc_Q76:=by kernel_rfl
def c_Q49_1:SC:=.seq (.reg [vO 2 (.mov (.c (.bool true)))]) .ret
def c_Q49_2:SC:=.cond (.t 65) (.seq (.dreg [vO 67 (.faddr 2 (.t 1)),vO 68 (.load none (.t 67)),vO 69 (.faddr 2 (.t 1)),vO 70 (.load none (.t 69)),kO 71 77 [(.t 70),(cI 0)],vO 72 (.sls (.t 68) none (some (.t 71))),mO 3 72] [false,false,false,false,false,true,true]) (.seq (.reg [vO 73 (.faddr 2 (.t 1)),vO 74 (.load none (.t 73)),kO 75 78 [(.t 74)],mO 76 75,gO 77 76 true (.mov (.t 3)),gO 78 76 true (.bin .neq (.t 77) (.c (.str [116,114,117,101]))),vO 79 (.pick (.t 76) (.t 78) (.c (.bool false))),mO 80 79,gO 81 80 true (.mov (.t 3)),gO 82 80 true (.bin .neq (.t 81) (.c (.str [102,97,108,115,101]))),vO 83 (.pick (.t 80) (.t 82) (.c (.bool false))),mO 2 83]) .ret)) (.seq (.reg [vO 85 (.bin .eql (.t 44) (cI 5)),mO 84 85]) (.cond (.t 84) (.seq (.reg [vO 86 (.faddr 2 (.t 1)),vO 87 (.load none (.t 86)),kO 88 79 [(.t 87)],mO 89 88,gO 90 89 true (.faddr 2 (.t 1)),gO 91 89 true (.load none (.t 90)),gO 92 89 true (.bin .neq (.t 91) (.c (.str [116,114,117,101]))),vO 93 (.pick (.t 89) (.t 92) (.c (.bool false))),mO 94 93,gO 95 94 true (.faddr 2 (.t 1)),gO 96 94 true (.load none (.t 95)),gO 97 94 true (.bin .neq (.t 96) (.c (.str [102,97,108,115,101]))),vO 98 (.pick (.t 94) (.t 97) (.c (.bool false))),mO 2 98]) .ret) .skip))
def c_Q49_3:SC:=.cond (.t 60) (.seq (.reg [vO 62 (.faddr 3 (.t 1)),vO 63 (.load none (.t 62)),kO 64 76 [(.t 63)],mO 2 64]) .ret) (.seq (.reg [vO 66 (.bin .eql (.t 44) (cI 4)),mO 65 66]) c_Q49_2)
def c_Q49_4:SC:=.cond (.t 50) (.seq (.reg [vO 52 (.faddr 1 (.t 1)),vO 53 (.load none (.t 52)),vO 54 (.bin .eql (.t 53) (cI 0)),mO 55 54,gO 56 55 false (.faddr 1 (.t 1)),gO 57 55 false (.load none (.t 56)),gO 58 55 false (.bin .eql (.t 57) (cI 1)),vO 59 (.pick (.t 55) (.c (.bool true)) (.t 58)),mO 2 59]) .ret) (.seq (.reg [vO 61 (.bin .eql (.t 44) (cI 2)),mO 60 61]) c_Q49_3)
def c_Q49_5:SC:=.cond (.t 45) (.seq (.reg [vO 47 (.faddr 1 (.t 1)),vO 48 (.load none (.t 47)),vO 49 (.bin .geq (.t 48) (cI 0)),mO 2 49]) .ret) (.seq (.reg [vO 51 (.bin .eql (.t 44) (cI 3)),mO 50 51]) c_Q49_4)
def c_Q49_6:SC:=.block 0 (.seq (.reg [vO 46 (.bin .eql (.t 44) (cI 1)),mO 45 46]) c_Q49_5)
def c_Q49_7:SC:=.seq (.seq (.reg [vO 43 (.faddr 0 (.t 1)),vO 44 (.load none (.t 43))]) c_Q49_6) c_Q49_1
def c_Q49_8:SC:=.cond (.t 42) (.seq (.reg [vO 2 (.mov (.c (.bool false)))]) .ret) .skip
def c_Q49_9:SC:=.seq (.seq (.reg [vO 4 (.faddr 0 (.t 1)),vO 5 (.load none (.t 4)),vO 6 (.bin .neq (.t 5) (cI 1)),mO 7 6,gO 8 7 true (.faddr 0 (.t 1)),gO 9 7 true (.load none (.t 8)),gO 10 7 true (.bin .neq (.t 9) (cI 3)),vO 11 (.pick (.t 7) (.t 10) (.c (.bool false))),mO 12 11,gO 13 12 true (.faddr 1 (.t 1)),gO 14 12 true (.load none (.t 13)),gO 15 12 true (.bin .neq (.t 14) (cI 0)),vO 16 (.pick (.t 12) (.t 15) (.c (.bool false))),mO 17 16,gO 18 17 false (.faddr 0 (.t 1)),gO 19 17 false (.load none (.t 18)),gO 20 17 false (.bin .neq (.t 19) (cI 4)),gO 21 17 false (.mov (.t 20)),gO 22 21 true (.faddr 0 (.t 1)),gO 23 21 true (.load none (.t 22)),gO 24 21 true (.bin .neq (.t 23) (cI 5)),gO 25 17 false (.pick (.t 21) (.t 24) (.c (.bool false))),gO 26 17 false (.mov (.t 25)),gO 27 26 true (.faddr 2 (.t 1)),gO 28 26 true (.load none (.t 27)),gO 29 26 true (.bin .neq (.t 28) (.c (.str []))),gO 30 17 false (.pick (.t 26) (.t 29) (.c (.bool false))),vO 31 (.pick (.t 17) (.c (.bool true)) (.t 30)),mO 32 31,gO 33 32 false (.faddr 0 (.t 1)),gO 34 32 false (.load none (.t 33)),gO 35 32 false (.bin .neq (.t 34) (cI 2)),gO 36 32 false (.mov (.t 35)),gO 37 36 true (.faddr 3 (.t 1)),gO 38 36 true (.load none (.t 37)),gO 39 36 true (.len false (.t 38)),gO 40 36 true (.bin .gtr (.t 39) (cI 0)),gO 41 32 false (.pick (.t 36) (.t 40) (.c (.bool false))),vO 42 (.pick (.t 32) (.c (.bool true)) (.t 41))]) c_Q49_8) c_Q49_7
def sc_Q49:zf:=⟨1,99,.seq (.reg [⟨some 1,none,.box (.t 0)⟩,vO 2 (.mov (.c (.bool false)))]) c_Q49_9,[(.t 2)]⟩
theorem zzp:type_of% (aI (ue c_Q49_1.eq_1)<|aI (ue c_Q49_2.eq_1)<|aI (ue c_Q49_3.eq_1)<|aI (ue c_Q49_4.eq_1)<|aI (ue c_Q49_5.eq_1)<|aI (ue c_Q49_6.eq_1)<|aI (ue c_Q49_7.eq_1)<|aI (ue c_Q49_8.eq_1)<|aI (ue c_Q49_9.eq_1)<|sc_Q49.eq_1):=aI (ue c_Q49_1.eq_1)<|aI (ue c_Q49_2.eq_1)<|aI (ue c_Q49_3.eq_1)<|aI (ue c_Q49_4.eq_1)<|aI (ue c_Q49_5.eq_1)<|aI (ue c_Q49_6.eq_1)<|aI (ue c_Q49_7.eq_1)<|aI (ue c_Q49_8.eq_1)<|aI (ue c_Q49_9.eq_1)<|sc_Q49.eq_1
theorem comp_Q49:comp Tryz.prog Tryz.f49=some sc_Q49:=by kernel_rfl
def c_Q29_1:SC:=.seq (.reg [mO 79 3,vO 80 (.len false (.t 79)),vO 81 (.bin .eql (.t 80) (cI 1)),mO 2 81]) .ret
def c_Q29_2:SC:=.reg [mO 12 4,vO 13 (.bin .add (.t 12) (cI 1)),mO 4 13]
def c_Q29_3:SC:=.reg [mO 66 3,mO 67 3,vO 68 (.len false (.t 67)),mO 69 6,vO 70 (.bin .sub (.t 68) (.t 69)),mO 71 3,vO 72 (.len false (.t 71)),mO 73 6,vO 74 (.bin .sub (.t 72) (.t 73)),vO 75 (.slc 1 (.t 66) none (some (.t 70)) (some (.t 74))),mO 76 4,⟨some 77,none,.bslice 1 1 [(.int .i64 0)] [(0,(.t 76))]⟩,⟨some 78,none,.append 1 8 (.t 75) (.t 77)⟩,mO 3 78]
def b_Q29_2:SC:=.seq (.seq (.reg [mO 46 7,mO 47 6,vO 48 (.bin .lss (.t 46) (.t 47))]) (.cond (.t 48) .skip (.exit 2))) (.seq (.block 3 (.seq (.dreg [mO 51 3,mO 52 3,vO 53 (.len false (.t 52)),mO 54 6,vO 55 (.bin .sub (.t 53) (.t 54)),mO 56 7,vO 57 (.bin .add (.t 55) (.t 56)),vO 58 (.iaddr 1 (.t 51) (.t 57)),vO 59 (.load none (.t 58)),vO 60 (.faddr 4 (.t 5)),vO 61 (.load none (.t 60)),mO 62 7,vO 63 (.iaddr 1 (.t 61) (.t 62)),vO 64 (.load none (.t 63)),vO 65 (.bin .neq (.t 59) (.t 64))] [false,false,false,false,false,false,false,false,false,false,false,false,false,false,true]) (.cond (.t 65) (.seq (.reg [vO 2 (.mov (.c (.bool false)))]) .ret) .skip))) (.reg [mO 49 7,vO 50 (.bin .add (.t 49) (cI 1)),mO 7 50]))
def c_Q29_4:SC:=.seq (.seq (.reg [vO 7 (.mov (cI 0))]) (.block 2 (.loop b_Q29_2))) c_Q29_3
def c_Q29_5:SC:=.seq (.seq (.reg [mO 26 6,vO 27 (.bin .lss (.t 26) (cI 0)),mO 28 27,gO 29 28 false (.mov (.t 6)),gO 30 28 false (.faddr 4 (.t 5)),gO 31 28 false (.load none (.t 30)),gO 32 28 false (.len false (.t 31)),gO 33 28 false (.bin .neq (.t 29) (.t 32)),vO 34 (.pick (.t 28) (.c (.bool true)) (.t 33)),mO 35 34,gO 36 35 false (.mov (.t 6)),gO 37 35 false (.mov (.t 3)),gO 38 35 false (.len false (.t 37)),gO 39 35 false (.bin .gtr (.t 36) (.t 38)),vO 40 (.pick (.t 35) (.c (.bool true)) (.t 39)),mO 41 40,gO 42 41 false (.load (some 5) (.t 5)),⟨some 43,some (41,false),.call (.c (.func 49 [])) [(.t 42)]⟩,gO 44 41 false (.un .not (.t 43)),vO 45 (.pick (.t 41) (.c (.bool true)) (.t 44))]) (.cond (.t 45) (.seq (.reg [vO 2 (.mov (.c (.bool false)))]) .ret) .skip)) c_Q29_4
def c_Q29_6:SC:=.seq (.seq (.reg [mO 21 6,vO 22 (.bin .eql (.t 21) (cI (-1)))]) (.cond (.t 22) (.reg [vO 23 (.faddr 4 (.t 5)),vO 24 (.load none (.t 23)),vO 25 (.len false (.t 24)),mO 6 25]) .skip)) c_Q29_5
def c_Q29_7:SC:=.seq (.reg [vO 18 (.faddr 0 (.t 5)),vO 19 (.load none (.t 18)),kO 20 48 [(.t 19)],mO 6 20]) c_Q29_6
def c_Q29_8:SC:=.seq (.block 1 (.seq (.reg [mO 14 0,mO 15 4,vO 16 (.iaddr 5 (.t 14) (.t 15)),vO 17 (.load (some 5) (.t 16)),⟨some 5,none,.alloc [(.int .i64 0),(.int .i64 0),(.str []),(.nils 2),(.nils 1)]⟩,⟨none,none,.store 5 (.t 5) (.t 17)⟩]) c_Q29_7)) c_Q29_2
def b_Q29_1:SC:=.seq (.seq (.reg [mO 8 4,mO 9 0,vO 10 (.len false (.t 9)),vO 11 (.bin .lss (.t 8) (.t 10))]) (.cond (.t 11) .skip (.exit 0))) c_Q29_8
def c_Q29_9:SC:=.block 0 (.loop b_Q29_1)
def c_Q29_10:SC:=.seq (.seq (.reg [vO 4 (.mov (cI 0))]) c_Q29_9) c_Q29_1
def c_Q29_11:SC:=.seq (.reg [⟨some 3,none,.nilv 1⟩]) c_Q29_10
def sc_Q29:zf:=⟨1,82,.seq (.reg [vO 2 (.mov (.c (.bool false)))]) c_Q29_11,[(.t 2)]⟩
noncomputable def zcP (SP:Prg) (x:EO):CO:=fin [(.t 2)] (thC SP (zw 0 (thC SP (thC SP (zw 1 (thC SP (zw 2 (x)) c_Q29_3)) c_Q29_2) (.loop b_Q29_1))) c_Q29_1)
noncomputable def zhY (SP:Prg) (x:EO):CO:=fin [(.t 2)] (thC SP (zw 0 (x)) c_Q29_1)
theorem zgr:type_of% (aI (ue c_Q29_1.eq_1)<|aI (ue c_Q29_2.eq_1)<|aI (ue c_Q29_3.eq_1)<|aI (ue b_Q29_2.eq_1)<|aI (ue c_Q29_4.eq_1)<|aI (ue c_Q29_5.eq_1)<|aI (ue c_Q29_6.eq_1)<|aI (ue c_Q29_7.eq_1)<|aI (ue c_Q29_8.eq_1)<|aI (ue b_Q29_1.eq_1)<|aI (ue c_Q29_9.eq_1)<|aI (ue c_Q29_10.eq_1)<|aI (ue c_Q29_11.eq_1)<|sc_Q29.eq_1):=aI (ue c_Q29_1.eq_1)<|aI (ue c_Q29_2.eq_1)<|aI (ue c_Q29_3.eq_1)<|aI (ue b_Q29_2.eq_1)<|aI (ue c_Q29_4.eq_1)<|aI (ue c_Q29_5.eq_1)<|aI (ue c_Q29_6.eq_1)<|aI (ue c_Q29_7.eq_1)<|aI (ue c_Q29_8.eq_1)<|aI (ue b_Q29_1.eq_1)<|aI (ue c_Q29_9.eq_1)<|aI (ue c_Q29_10.eq_1)<|aI (ue c_Q29_11.eq_1)<|sc_Q29.eq_1
theorem comp_Q29:comp Tryz.prog Tryz.f29=some sc_Q29:=by kernel_rfl
end Go.Proofs.YtfbcnpbhhooapaaGreatDoor.M
namespace Go.Proofs.YtfbcnpbhhooapaaGreatDoor.M
open Go Classical
theorem zxs:SP 48=some (.code sc_Q48):=zb rfl Tryz.func48 comp_Q48
theorem ztO (kind:Int) (r:Int) (T :
  ((1≤kind) →
  ((kind≤4) →
   0=r) ∧
  (¬ (kind≤4) →
   ((kind=5) →
    (-1)=r) ∧
   (¬ (kind=5) →
    ((kind=6) →
     (-1)=r) ∧
    (¬ (kind=6) →
     ((kind=8) →
      1=r) ∧
     (¬ (kind=8) →
      ((kind=9) →
       1=r) ∧
      (¬ (kind=9) →
       ((kind=10) →
        3=r) ∧
       (¬ (kind=10) →
        ((kind=7) →
         2=r) ∧
        (¬ (kind=7) →
         ((11≤kind) →
          ((kind≤23) →
           2=r) ∧
          (¬ (kind≤23) →
           (-2)=r)) ∧
         (¬ (11≤kind) →
          (-2)=r))))))))) ∧
 (¬ (1≤kind) →
  ((kind=5) →
   (-1)=r) ∧
  (¬ (kind=5) →
   ((kind=6) →
    (-1)=r) ∧
   (¬ (kind=6) →
    ((kind=8) →
     1=r) ∧
    (¬ (kind=8) →
     ((kind=9) →
      1=r) ∧
     (¬ (kind=9) →
      ((kind=10) →
       3=r) ∧
      (¬ (kind=10) →
       ((kind=7) →
        2=r) ∧
       (¬ (kind=7) →
        ((11≤kind) →
         ((kind≤23) →
          2=r) ∧
         (¬ (kind≤23) →
          (-2)=r)) ∧
        (¬ (11≤kind) →
         (-2)=r))))))))):zmr kind r:=by
 intro S
 rw[za zxs _ _ rfl]
 have F:=zzy
 exact rn F T
theorem zxw:SP 76=some (.code sc_Q76):=zb rfl Tryz.func76 comp_Q76
def zdJ (l_:List Part) (i1:Int) (r:Bool):Prop:=∀ (S:Sto) (e:Nat→PV) (f:Fr),e 0=.list 2 (l_.map ePart) false∧e 3=.int .i64 i1→zoU SP (E SP (.loop b_Q76_1) ⟨e,f::S⟩)=.ok (.v (.bool r)) S
def zdG (l_:List Part) (i1:Int) (i5:Int) (r:Bool):Prop:=∀ (S:Sto) (e:Nat→PV) (f:Fr),e 0=.list 2 (l_.map ePart) false∧e 3=.int .i64 i1∧e 4=.int .i64 i5→zpJ SP (E SP (.loop b_Q76_2) ⟨e,f::S⟩)=.ok (.v (.bool r)) S
theorem zgG (l_:List Part) (i1:Int) (r:Bool) (T :
  ((i1 < (l_.length:Int)) →
  (0≤i1) ∧
  ∃ (v2:Part),(l_[i1.toNat]?=some v2) ∧
  ((v2.Ref=true) →
   ∃ (r3:Bool),(zmA v2.Text r3) ∧
   ((r3=true) →
    (I64 (i1+1)) ∧
    zdJ l_ (i1+1) r) ∧
   (¬ (r3=true) →
    false=r)) ∧
  (¬ (v2.Ref=true) →
   ((v2.Text=[]) →
    false=r) ∧
   (¬ (v2.Text=[]) →
    ((0 < i1) →
     (I64 (i1 - 1)) ∧
     (0≤(i1 - 1)) ∧
     ∃ (v4:Part),(l_[(i1 - 1).toNat]?=some v4) ∧
     ((v4.Ref=true) →
      zdG l_ i1 0 r) ∧
     (¬ (v4.Ref=true) →
      false=r)) ∧
    (¬ (0 < i1) →
     zdG l_ i1 0 r)))) ∧
 (¬ (i1 < (l_.length:Int)) →
  true=r)):zdJ l_ i1 r:=by
 intro S e f h
 unfold zoU
 rw[zo]
 have F:=zre
 exact rn (aa h<|F) T
theorem zgC (l_:List Part) (i1:Int) (i5:Int) (r:Bool) (T :
  (0≤i1) ∧
 ∃ (v6:Part),(l_[i1.toNat]?=some v6) ∧
 ((i5 < (v6.Text.length:Int)) →
  (0≤i5) ∧
  ∃ (b7:UInt8),(v6.Text[i5.toNat]?=some b7) ∧
  (((b7.toNat:Int) < 32) →
   (((b7.toNat:Int)=10) →
    (I64 (i5+1)) ∧
    zdG l_ i1 (i5+1) r) ∧
   (¬ ((b7.toNat:Int)=10) →
    false=r)) ∧
  (¬ ((b7.toNat:Int) < 32) →
   (I64 (i5+1)) ∧
   zdG l_ i1 (i5+1) r)) ∧
 (¬ (i5 < (v6.Text.length:Int)) →
  (I64 (i1+1)) ∧
  zdJ l_ (i1+1) r)):zdG l_ i1 i5 r:=by
 intro S e f h
 unfold zpJ
 rw[zo]
 have F:=zre
 exact rn (aa h<|F) T
theorem zum (l_:List Part) (r:Bool) (T :
  zdJ l_ 0 r):zrb l_ r:=by
 intro S
 rw[za zxw _ _ rfl]
 have F:=zre
 exact rn F T
theorem zyr:SP 49=some (.code sc_Q49):=zb rfl Tryz.func49 comp_Q49
theorem ztX (n:Node) (r:Bool) (T :
  ((n.Kind=1) →
  ((n.Text=[]) →
   ((0 < (n.Parts.length:Int)) →
    false=r) ∧
   (¬ (0 < (n.Parts.length:Int)) →
    (decide (0≤n.Num))=r)) ∧
  (¬ (n.Text=[]) →
   false=r)) ∧
 (¬ (n.Kind=1) →
  ((n.Kind=3) →
   ((n.Text=[]) →
    ((0 < (n.Parts.length:Int)) →
     false=r) ∧
    (¬ (0 < (n.Parts.length:Int)) →
     ((n.Num=0) →
      true=r) ∧
     (¬ (n.Num=0) →
      (decide (n.Num=1))=r))) ∧
   (¬ (n.Text=[]) →
    false=r)) ∧
  (¬ (n.Kind=3) →
   ((n.Num=0) →
    ((n.Kind=4) →
     ((0 < (n.Parts.length:Int)) →
      false=r) ∧
     (¬ (0 < (n.Parts.length:Int)) →
      ∃ (r1:Int),(zkb n.Text 0 r1) ∧
      (0≤r1)∧(r1.toNat≤n.Text.length) ∧
      ∃ (r2:Bool),(zmA n.Text r2) ∧
      ((r2=true) →
       (((n.Text.take (r1.toNat))=[116,114,117,101]) →
        false=r) ∧
       (¬ ((n.Text.take (r1.toNat))=[116,114,117,101]) →
        (!(decide ((n.Text.take (r1.toNat))=[102,97,108,115,101])))=r)) ∧
      (¬ (r2=true) →
       false=r))) ∧
    (¬ (n.Kind=4) →
     ((n.Kind=5) →
      ((0 < (n.Parts.length:Int)) →
       false=r) ∧
      (¬ (0 < (n.Parts.length:Int)) →
       ∃ (r3:Bool),(zj2 n.Text r3) ∧
       ((r3=true) →
        ((n.Text=[116,114,117,101]) →
         false=r) ∧
        (¬ (n.Text=[116,114,117,101]) →
         (!(decide (n.Text=[102,97,108,115,101])))=r)) ∧
       (¬ (r3=true) →
        false=r))) ∧
     (¬ (n.Kind=5) →
      ((n.Text=[]) →
       ((n.Kind=2) →
        ∃ (r4:Bool),(zrb n.Parts r4) ∧
        r4=r) ∧
       (¬ (n.Kind=2) →
        ((0 < (n.Parts.length:Int)) →
         false=r) ∧
        (¬ (0 < (n.Parts.length:Int)) →
         true=r))) ∧
      (¬ (n.Text=[]) →
       false=r)))) ∧
   (¬ (n.Num=0) →
    false=r)))):zhV n r:=by
 intro S
 rw[za zyr _ _ rfl]
 have F:=zzp
 exact rn F T
theorem zx6:SP 29=some (.code sc_Q29):=zb rfl Tryz.func29 comp_Q29
def ziR (l_:List Node) (i1:Int) (l2:List Int) (r:Bool):Prop:=∀ (S:Sto) (e:Nat→PV) (f:Fr),e 0=.list 5 (l_.map eNode) false∧e 3=.sl 0 (.slot 3) 0 l2.length l2.length 0 false∧e 4=.int .i64 i1∧f.arr (.slot 3)=some ⟨1,l2.map eI,false,0⟩→zhY SP (E SP (.loop b_Q29_1) ⟨e,f::S⟩)=.ok (.v (.bool r)) S
def zf0 (l_:List Node) (i1:Int) (l2:List Int) (v3:Node) (i6:Int) (r:Bool):Prop:=∀ (S:Sto) (e:Nat→PV) (f:Fr),e 0=.list 5 (l_.map eNode) false∧e 3=.sl 0 (.slot 3) 0 l2.length l2.length 0 false∧e 4=.int .i64 i1∧e 5=.ptr 0 5 0∧e 6=.int .i64 (v3.Kids.length:Int)∧e 7=.int .i64 i6∧f.box 5=some [.int .i64 v3.Kind,.int .i64 v3.Num,.str v3.Text,.list 2 (v3.Parts.map ePart) false,.list 1 (v3.Kids.map eI) false]∧f.arr (.slot 3)=some ⟨1,l2.map eI,false,0⟩→zcP SP (E SP (.loop b_Q29_2) ⟨e,f::S⟩)=.ok (.v (.bool r)) S
def zfe (l_:List Node) (i1:Int) (l2:List Int) (v3:Node) (r4:Int) (i8:Int) (r:Bool):Prop:=∀ (S:Sto) (e:Nat→PV) (f:Fr),e 0=.list 5 (l_.map eNode) false∧e 3=.sl 0 (.slot 3) 0 l2.length l2.length 0 false∧e 4=.int .i64 i1∧e 5=.ptr 0 5 0∧e 6=.int .i64 r4∧e 7=.int .i64 i8∧f.box 5=some [.int .i64 v3.Kind,.int .i64 v3.Num,.str v3.Text,.list 2 (v3.Parts.map ePart) false,.list 1 (v3.Kids.map eI) false]∧f.arr (.slot 3)=some ⟨1,l2.map eI,false,0⟩→zcP SP (E SP (.loop b_Q29_2) ⟨e,f::S⟩)=.ok (.v (.bool r)) S
def zag (l_:List Node) (i11:Int) (l12:List Int) (r:Bool):Prop:=∀ (S:Sto) (e:Nat→PV) (f:Fr),e 0=.list 5 (l_.map eNode) false∧e 3=.sl 0 (.slot 78) 0 l12.length l12.length 0 false∧e 4=.int .i64 i11∧f.arr (.slot 78)=some ⟨1,l12.map eI,true,0⟩→zhY SP (E SP (.loop b_Q29_1) ⟨e,f::S⟩)=.ok (.v (.bool r)) S
def ze2 (l_:List Node) (i11:Int) (l12:List Int) (v15:Node) (i18:Int) (r:Bool):Prop:=∀ (S:Sto) (e:Nat→PV) (f:Fr),e 0=.list 5 (l_.map eNode) false∧e 3=.sl 0 (.slot 78) 0 l12.length l12.length 0 false∧e 4=.int .i64 i11∧e 5=.ptr 0 5 0∧e 6=.int .i64 (v15.Kids.length:Int)∧e 7=.int .i64 i18∧f.box 5=some [.int .i64 v15.Kind,.int .i64 v15.Num,.str v15.Text,.list 2 (v15.Parts.map ePart) false,.list 1 (v15.Kids.map eI) false]∧f.arr (.slot 78)=some ⟨1,l12.map eI,true,0⟩→zcP SP (E SP (.loop b_Q29_2) ⟨e,f::S⟩)=.ok (.v (.bool r)) S
def zff (l_:List Node) (i11:Int) (l12:List Int) (v15:Node) (r16:Int) (i20:Int) (r:Bool):Prop:=∀ (S:Sto) (e:Nat→PV) (f:Fr),e 0=.list 5 (l_.map eNode) false∧e 3=.sl 0 (.slot 78) 0 l12.length l12.length 0 false∧e 4=.int .i64 i11∧e 5=.ptr 0 5 0∧e 6=.int .i64 r16∧e 7=.int .i64 i20∧f.box 5=some [.int .i64 v15.Kind,.int .i64 v15.Num,.str v15.Text,.list 2 (v15.Parts.map ePart) false,.list 1 (v15.Kids.map eI) false]∧f.arr (.slot 78)=some ⟨1,l12.map eI,true,0⟩→zcP SP (E SP (.loop b_Q29_2) ⟨e,f::S⟩)=.ok (.v (.bool r)) S
theorem zl1 (l_:List Node) (i1:Int) (l2:List Int) (r:Bool) (T :
  ((i1 < (l_.length:Int)) →
  (0≤i1) ∧
  ∃ (v3:Node),(l_[i1.toNat]?=some v3) ∧
  ∃ (r4:Int),(zmr v3.Kind r4) ∧
  ((r4=(-1)) →
   (((v3.Kids.length:Int) < 0) →
    false=r) ∧
   (¬ ((v3.Kids.length:Int) < 0) →
    (((l2.length:Int) < (v3.Kids.length:Int)) →
     false=r) ∧
    (¬ ((l2.length:Int) < (v3.Kids.length:Int)) →
     ∃ (r5:Bool),(zhV v3 r5) ∧
     ((r5=true) →
      zf0 l_ i1 l2 v3 0 r) ∧
     (¬ (r5=true) →
      false=r)))) ∧
  (¬ (r4=(-1)) →
   ((r4 < 0) →
    false=r) ∧
   (¬ (r4 < 0) →
    ((r4=(v3.Kids.length:Int)) →
     (((l2.length:Int) < r4) →
      false=r) ∧
     (¬ ((l2.length:Int) < r4) →
      ∃ (r7:Bool),(zhV v3 r7) ∧
      ((r7=true) →
       zfe l_ i1 l2 v3 r4 0 r) ∧
      (¬ (r7=true) →
       false=r))) ∧
    (¬ (r4=(v3.Kids.length:Int)) →
     false=r)))) ∧
 (¬ (i1 < (l_.length:Int)) →
  (decide ((l2.length:Int)=1))=r)):ziR l_ i1 l2 r:=by
 intro S e f h
 unfold zhY
 rw[zo]
 have F:=zgr
 exact rn (aa h<|F) T
theorem zgB (l_:List Node) (i1:Int) (l2:List Int) (v3:Node) (i6:Int) (r:Bool) (T :
  ((i6 < (v3.Kids.length:Int)) →
  (I64 ((l2.length:Int) - (v3.Kids.length:Int))) ∧
  (I64 (((l2.length:Int) - (v3.Kids.length:Int))+i6)) ∧
  (0≤(((l2.length:Int) - (v3.Kids.length:Int))+i6))∧((((l2.length:Int) - (v3.Kids.length:Int))+i6).toNat < l2.length) ∧
  ∃ (v9:Int),(l2[(((l2.length:Int) - (v3.Kids.length:Int))+i6).toNat]?=some v9) ∧
  (0≤i6) ∧
  ∃ (v10:Int),(v3.Kids[i6.toNat]?=some v10) ∧
  ((v9=v10) →
   (I64 (i6+1)) ∧
   zf0 l_ i1 l2 v3 (i6+1) r) ∧
  (¬ (v9=v10) →
   false=r)) ∧
 (¬ (i6 < (v3.Kids.length:Int)) →
  (I64 ((l2.length:Int) - (v3.Kids.length:Int))) ∧
  (I64 ((l2.length:Int) - (v3.Kids.length:Int))) ∧
  (0≤((l2.length:Int) - (v3.Kids.length:Int)))∧(((l2.length:Int) - (v3.Kids.length:Int)).toNat≤l2.length) ∧
  (bigRow (((l2.length:Int) - (v3.Kids.length:Int)).toNat+1) 8) ∧
  (I64 (i1+1)) ∧
  zag l_ (i1+1) ((l2.take (((l2.length:Int) - (v3.Kids.length:Int)).toNat))++[i1]) r)):zf0 l_ i1 l2 v3 i6 r:=by
 intro S e f h
 unfold zcP
 rw[zo]
 have F:=zgr
 exact rn (aa h<|F) T
theorem zfK (l_:List Node) (i1:Int) (l2:List Int) (v3:Node) (r4:Int) (i8:Int) (r:Bool) (T :
  ((i8 < r4) →
  (I64 ((l2.length:Int) - r4)) ∧
  (I64 (((l2.length:Int) - r4)+i8)) ∧
  (0≤(((l2.length:Int) - r4)+i8))∧((((l2.length:Int) - r4)+i8).toNat < l2.length) ∧
  ∃ (v13:Int),(l2[(((l2.length:Int) - r4)+i8).toNat]?=some v13) ∧
  (0≤i8) ∧
  ∃ (v14:Int),(v3.Kids[i8.toNat]?=some v14) ∧
  ((v13=v14) →
   (I64 (i8+1)) ∧
   zfe l_ i1 l2 v3 r4 (i8+1) r) ∧
  (¬ (v13=v14) →
   false=r)) ∧
 (¬ (i8 < r4) →
  (I64 ((l2.length:Int) - r4)) ∧
  (I64 ((l2.length:Int) - r4)) ∧
  (0≤((l2.length:Int) - r4))∧(((l2.length:Int) - r4).toNat≤l2.length) ∧
  (bigRow (((l2.length:Int) - r4).toNat+1) 8) ∧
  (I64 (i1+1)) ∧
  zag l_ (i1+1) ((l2.take (((l2.length:Int) - r4).toNat))++[i1]) r)):zfe l_ i1 l2 v3 r4 i8 r:=by
 intro S e f h
 unfold zcP
 rw[zo]
 have F:=zgr
 exact rn (aa h<|F) T
theorem zkp (l_:List Node) (i11:Int) (l12:List Int) (r:Bool) (T :
  ((i11 < (l_.length:Int)) →
  (0≤i11) ∧
  ∃ (v15:Node),(l_[i11.toNat]?=some v15) ∧
  ∃ (r16:Int),(zmr v15.Kind r16) ∧
  ((r16=(-1)) →
   (((v15.Kids.length:Int) < 0) →
    false=r) ∧
   (¬ ((v15.Kids.length:Int) < 0) →
    (((l12.length:Int) < (v15.Kids.length:Int)) →
     false=r) ∧
    (¬ ((l12.length:Int) < (v15.Kids.length:Int)) →
     ∃ (r17:Bool),(zhV v15 r17) ∧
     ((r17=true) →
      ze2 l_ i11 l12 v15 0 r) ∧
     (¬ (r17=true) →
      false=r)))) ∧
  (¬ (r16=(-1)) →
   ((r16 < 0) →
    false=r) ∧
   (¬ (r16 < 0) →
    ((r16=(v15.Kids.length:Int)) →
     (((l12.length:Int) < r16) →
      false=r) ∧
     (¬ ((l12.length:Int) < r16) →
      ∃ (r19:Bool),(zhV v15 r19) ∧
      ((r19=true) →
       zff l_ i11 l12 v15 r16 0 r) ∧
      (¬ (r19=true) →
       false=r))) ∧
    (¬ (r16=(v15.Kids.length:Int)) →
     false=r)))) ∧
 (¬ (i11 < (l_.length:Int)) →
  (decide ((l12.length:Int)=1))=r)):zag l_ i11 l12 r:=by
 intro S e f h
 unfold zhY
 rw[zo]
 have F:=zgr
 exact rn (aa h<|F) T
theorem zfN (l_:List Node) (i11:Int) (l12:List Int) (v15:Node) (i18:Int) (r:Bool) (T :
  ((i18 < (v15.Kids.length:Int)) →
  (I64 ((l12.length:Int) - (v15.Kids.length:Int))) ∧
  (I64 (((l12.length:Int) - (v15.Kids.length:Int))+i18)) ∧
  (0≤(((l12.length:Int) - (v15.Kids.length:Int))+i18))∧((((l12.length:Int) - (v15.Kids.length:Int))+i18).toNat < l12.length) ∧
  ∃ (v21:Int),(l12[(((l12.length:Int) - (v15.Kids.length:Int))+i18).toNat]?=some v21) ∧
  (0≤i18) ∧
  ∃ (v22:Int),(v15.Kids[i18.toNat]?=some v22) ∧
  ((v21=v22) →
   (I64 (i18+1)) ∧
   ze2 l_ i11 l12 v15 (i18+1) r) ∧
  (¬ (v21=v22) →
   false=r)) ∧
 (¬ (i18 < (v15.Kids.length:Int)) →
  (I64 ((l12.length:Int) - (v15.Kids.length:Int))) ∧
  (I64 ((l12.length:Int) - (v15.Kids.length:Int))) ∧
  (0≤((l12.length:Int) - (v15.Kids.length:Int)))∧(((l12.length:Int) - (v15.Kids.length:Int)).toNat≤l12.length) ∧
  (bigRow (((l12.length:Int) - (v15.Kids.length:Int)).toNat+1) 8) ∧
  (I64 (i11+1)) ∧
  zag l_ (i11+1) ((l12.take (((l12.length:Int) - (v15.Kids.length:Int)).toNat))++[i11]) r)):ze2 l_ i11 l12 v15 i18 r:=by
 intro S e f h
 unfold zcP
 rw[zo]
 have F:=zgr
 exact rn (aa h<|F) T
theorem zfS (l_:List Node) (i11:Int) (l12:List Int) (v15:Node) (r16:Int) (i20:Int) (r:Bool) (T :
  ((i20 < r16) →
  (I64 ((l12.length:Int) - r16)) ∧
  (I64 (((l12.length:Int) - r16)+i20)) ∧
  (0≤(((l12.length:Int) - r16)+i20))∧((((l12.length:Int) - r16)+i20).toNat < l12.length) ∧
  ∃ (v23:Int),(l12[(((l12.length:Int) - r16)+i20).toNat]?=some v23) ∧
  (0≤i20) ∧
  ∃ (v24:Int),(v15.Kids[i20.toNat]?=some v24) ∧
  ((v23=v24) →
   (I64 (i20+1)) ∧
   zff l_ i11 l12 v15 r16 (i20+1) r) ∧
  (¬ (v23=v24) →
   false=r)) ∧
 (¬ (i20 < r16) →
  (I64 ((l12.length:Int) - r16)) ∧
  (I64 ((l12.length:Int) - r16)) ∧
  (0≤((l12.length:Int) - r16))∧(((l12.length:Int) - r16).toNat≤l12.length) ∧
  (bigRow (((l12.length:Int) - r16).toNat+1) 8) ∧
  (I64 (i11+1)) ∧
  zag l_ (i11+1) ((l12.take (((l12.length:Int) - r16).toNat))++[i11]) r)):zff l_ i11 l12 v15 r16 i20 r:=by
 intro S e f h
 unfold zcP
 rw[zo]
 have F:=zgr
 exact rn (aa h<|F) T
theorem ztQ (l_:List Node) (r:Bool) (T :
  ziR l_ 0 [] r):zqe l_ r:=by
 intro S
 rw[za zx6 _ _ rfl]
 have F:=zgr
 exact rn F T
end Go.Proofs.YtfbcnpbhhooapaaGreatDoor.M
namespace Go.Proofs.YtfbcnpbhhooapaaGreatDoor.M
open Go
def sc_Q18:zf:=⟨1,4,.seq (.reg [vO 2 (.mov (cI 0))]) (.seq (.reg [mO 3 0,mO 2 3]) .ret),[(.t 2)]⟩
theorem zzr:type_of% (sc_Q18.eq_1):=sc_Q18.eq_1
theorem comp_Q18:comp Tryz.prog Tryz.f18=some sc_Q18:=by kernel_rfl
end Go.Proofs.YtfbcnpbhhooapaaGreatDoor.M
namespace Go.Proofs.YtfbcnpbhhooapaaGreatDoor.M
open Go Classical
theorem zyg:SP 18=some (.code sc_Q18):=zb rfl Tryz.func18 comp_Q18
theorem zuk (e_:Int) (r:Int) (T :
  e_=r):zmm e_ r:=by
 intro S
 rw[za zyg _ _ rfl]
 have F:=zzr
 exact rn F T
theorem zsw (e:Int):zmm e e:=zuk _ _ rfl
end Go.Proofs.YtfbcnpbhhooapaaGreatDoor.M
namespace Go.Proofs.YtfbcnpbhhooapaaGreatDoor.M
open Go Classical
theorem zrZ (k:Int):zmr k (kdS k):=by
 apply ztO
 repeat' (first | apply aI | intro _)
 all_goals
  unfold kdS
  repeat' split
  all_goals omega
theorem zq2 (l:List Part) (hl:plP l):zrb l (zU false l):=by
 obtain⟨hl,ht⟩:=hl
 have inner:∀ (i:Nat) (hi:i < l.length) (q:Bool),zdJ l ((i:Int)+1) q→∀ (m j:Nat),j+m=l[i].Text.length→zdG l i j ((l[i].Text.drop j).all zaW && q):=by
  intro i hi q hq m
  have hg:l[((i:Nat):Int).toNat]?=some l[i]:=by rw[Int.toNat_natCast];exact List.getElem?_eq_getElem hi
  have htx:=ht _ (List.getElem_mem hi)
  induction m with
  | zero =>
   intro j hj
   apply zgC
   refine⟨by omega,_,hg,fun h=>by omega,fun _=>⟨⟨by omega,by omega⟩,?_⟩⟩
   rw[List.drop_of_length_le (by omega)]
   exact hq
  | succ m ih =>
   intro j hj
   have hlt:j < l[i].Text.length:=by omega
   have hgj:l[i].Text[((j:Nat):Int).toNat]?=some l[i].Text[j]:=by rw[Int.toNat_natCast];exact List.getElem?_eq_getElem hlt
   have hd:l[i].Text.drop j=l[i].Text[j]::l[i].Text.drop (j+1):=List.drop_eq_getElem_cons hlt
   have ih:=ih (j+1) (by omega)
   apply zgC
   refine⟨by omega,_,hg,fun _=>⟨by omega,_,hgj,fun h=>⟨fun h'=>⟨⟨by omega,by omega⟩,?_⟩,fun h'=>?_⟩,fun h=>⟨⟨by omega,by omega⟩,?_⟩⟩,fun h=>by omega⟩
   ·rw[hd,List.all_cons,show zaW l[i].Text[j]=true by simp[zaW];omega,Bool.true_and]
    exact ih
   ·rw[hd,List.all_cons,show zaW l[i].Text[j]=false by simp[zaW];omega,Bool.false_and,Bool.false_and]
   rw[hd,List.all_cons,show zaW l[i].Text[j]=true by simp[zaW];omega,Bool.true_and]
   exact ih
 have loop:∀ (m i:Nat),i+m=l.length→zdJ l i (zU (decide (∃ p,0 < i∧l[i - 1]?=some p∧p.Ref=false)) (l.drop i)):=by
  intro m
  induction m with
  | zero =>
   intro i hi
   apply zgG
   exact⟨fun h=>by omega,fun _=>by rw[List.drop_of_length_le (by omega)];rfl⟩
  | succ m ih =>
   intro i hi
   have hlt:i < l.length:=by omega
   have hg:l[((i:Nat):Int).toNat]?=some l[i]:=by rw[Int.toNat_natCast];exact List.getElem?_eq_getElem hlt
   have hd:l.drop i=l[i]::l.drop (i+1):=List.drop_eq_getElem_cons hlt
   have htx:=ht _ (List.getElem_mem hlt)
   have ih:=ih (i+1) (by omega)
   have hnext:decide (∃ p,0 < i+1∧l[i+1 - 1]?=some p∧p.Ref=false)=!l[i].Ref:=by
    rw[show i+1 - 1=i by omega,List.getElem?_eq_getElem hlt]
    cases h:l[i].Ref <;> simp[h]
   rw[hnext] at ih
   rw[hd]
   generalize hb:decide (∃ p,0 < i∧l[i - 1]?=some p∧p.Ref=false)=b
   apply zgG
   refine⟨fun _=>⟨by omega,_,hg,fun hr=>⟨_,zol _ htx,fun h=>⟨⟨by omega,by omega⟩,?_⟩,fun h=>?_⟩,fun hr=>⟨fun h=>?_,fun h=>⟨fun h0=>?_,fun h0=>?_⟩⟩⟩,fun h=>by omega⟩
   ·rw[zU,if_pos hr,h,Bool.true_and]
    rw[hr] at ih
    exact ih
   ·rw[zU,if_pos hr,show zJ l[i].Text=false by simpa using h,Bool.false_and]
   ·rw[zU,if_neg hr,decide_eq_true h]
    rfl
   ·have hlt':i - 1 < l.length:=by omega
    have hg':l[((i:Int) - 1).toNat]?=some l[i - 1]:=by rw[show ((i:Int) - 1).toNat=i - 1 by omega];exact List.getElem?_eq_getElem hlt'
    refine⟨⟨by omega,by omega⟩,by omega,_,hg',fun hp=>?_,fun hp=>?_⟩
    ·have hb':b=false:=by
      rw[←hb,List.getElem?_eq_getElem hlt']
      simp[hp]
     rw[show l[i].Ref=false by simpa using hr] at ih
     have:=inner i hlt _ ih l[i].Text.length 0 (by omega)
     rw[zU,if_neg hr,decide_eq_false h,hb']
     exact this
    have hb':b=true:=by
     rw[←hb,List.getElem?_eq_getElem hlt']
     simp[hp]
     omega
    rw[zU,if_neg hr,decide_eq_false h,hb']
    rfl
   have hb':b=false:=by
    rw[←hb]
    simp
    omega
   rw[show l[i].Ref=false by simpa using hr] at ih
   have:=inner i hlt _ ih l[i].Text.length 0 (by omega)
   rw[zU,if_neg hr,decide_eq_false h,hb']
   exact this
 have:=loop l.length 0 (by omega)
 have e:decide (∃ p,0 < 0∧l[0 - 1]?=some p∧p.Ref=false)=false:=by simp
 rw[e] at this
 exact zum _ _ this
theorem zni {s:List UInt8} (h:zJ s=true):(Lib.cut s [46]).1=s.take (zah s):=by
 by_cases hm:(46:UInt8) ∈ s
 ·obtain⟨u,v,rfl,hu⟩:=zbM 46 s hm
  unfold zJ at h
  rw[zcc 46 u v hu] at h ⊢
  simp only[Bool.true_and,Bool.and_eq_true] at h
  rw[znI h.1 46 v zmN]
  simp
 unfold zJ at h
 rw[zgq 46 s hm] at h
 simp at h
theorem zyF (l:List Part):(0 < (l.length:Int))↔l≠[]:=by
 cases l with
 | nil=>simp
 | cons a l=>simp
theorem zjL (n:Node) (h:NB n):zhV n (plS n):=by
 apply ztX
 unfold plS
 simp only[zyF]
 refine⟨fun k=>?_,fun k=>⟨fun k3=>?_,fun k3=>⟨fun hn=>⟨fun k4=>?_,fun k4=>⟨fun k5=>?_,fun k5=>?_⟩⟩,fun hn=>?_⟩⟩⟩
 ·rw[if_pos k]
  exact⟨fun a=>⟨fun b=>by simp[b],fun b=>by simp at b;simp[a,b]⟩,fun a=>by simp[a]⟩
 ·rw[if_neg k,if_pos k3]
  exact⟨fun a=>⟨fun b=>by simp[b],fun b=>⟨fun c=>by simp at b;simp[a,b,c],fun c=>by simp at b;simp[a,b,c]⟩⟩,fun a=>by simp[a]⟩
 ·rw[if_neg k,if_neg k3,if_pos k4]
  refine⟨fun b=>by simp[b],fun b=>?_⟩
  have hb:n.Parts=[]:=by simpa using b
  have hle:=zpr n.Text
  have hne:=zg7 n.Text h.text 0
  rw[List.drop_zero] at hne
  have et:(((0:Nat):Int)+((zah n.Text:Nat):Int)).toNat=zah n.Text:=by omega
  refine⟨_,hne,by omega,by omega,_,zol _ h.text,fun hd=>?_,fun hd=>by simp[hd]⟩
  have hf:=zni hd
  rw[et]
  refine⟨fun c=>?_,fun c=>?_⟩
  ·rw[hf,c];simp[zaT]
  rw[hf];simp[zaT,hd,hn,hb,c]
 ·rw[if_neg k,if_neg k3,if_neg k4,if_pos k5]
  refine⟨fun b=>by simp[b],fun b=>?_⟩
  have hb:n.Parts=[]:=by simpa using b
  refine⟨_,ze8 _ h.text,fun hd=>⟨fun c=>by rw[c];simp[zaT],fun c=>by simp[zaT,hd,hn,hb,c]⟩,fun hd=>by simp[hd]⟩
 ·rw[if_neg k,if_neg k3,if_neg k4,if_neg k5]
  refine⟨fun ht=>⟨fun k2=>⟨_,zq2 _ h.parts,by rw[if_pos k2];simp[hn,ht]⟩,fun k2=>⟨fun b=>by rw[if_neg k2];simp[b],fun b=>by rw[if_neg k2];simp at b;simp[hn,ht,b]⟩⟩,fun ht=>?_⟩
  split <;> simp[ht]
 rw[if_neg k,if_neg k3]
 repeat' split
 all_goals simp[hn]
theorem zit {l:List Node} {i:Nat} {l2:List Int} {n:Node} {r:Bool} (hi:i≤1000000) (h2:l2.length≤1000000) (hk:n.Kids.length≤l2.length) (hy:l2.drop (l2.length - n.Kids.length)=n.Kids→zag l ((i:Int)+1) (l2.take (l2.length - n.Kids.length)++[(i:Int)]) r) (hno:¬ l2.drop (l2.length - n.Kids.length)=n.Kids→false=r):∀ (m j:Nat),j+m=n.Kids.length→(l2.drop (l2.length - n.Kids.length)).take j=n.Kids.take j→zf0 l i l2 n j r
 | 0,j,hj,he=>by
  have e:((l2.length:Int) - (n.Kids.length:Int)).toNat=l2.length - n.Kids.length:=by omega
  apply zgB
  refine⟨fun h=>by omega,fun _=>⟨⟨by omega,by omega⟩,⟨by omega,by omega⟩,by omega,by omega,by simp only[bigRow];omega,⟨by omega,by omega⟩,?_⟩⟩
  rw[e]
  refine hy ?_
  rwa [List.take_of_length_le (by rw[List.length_drop];omega),List.take_of_length_le (by omega)] at he
 | m+1,j,hj,he=>by
  have hjk:j < n.Kids.length:=by omega
  have hlt:l2.length - n.Kids.length+j < l2.length:=by omega
  have e:(((l2.length:Int) - (n.Kids.length:Int))+(j:Int)).toNat=l2.length - n.Kids.length+j:=by omega
  have hg1:l2[l2.length - n.Kids.length+j]?=some l2[l2.length - n.Kids.length+j]:=List.getElem?_eq_getElem hlt
  have hg2:n.Kids[((j:Nat):Int).toNat]?=some n.Kids[j]:=by rw[Int.toNat_natCast];exact List.getElem?_eq_getElem hjk
  have hdl:(l2.drop (l2.length - n.Kids.length))[j]?=some l2[l2.length - n.Kids.length+j]:=by rw[List.getElem?_drop,hg1]
  apply zgB
  refine⟨fun _=>⟨⟨by omega,by omega⟩,⟨by omega,by omega⟩,by omega,by omega,_,by rw[e];exact hg1,by omega,_,hg2,fun h=>⟨⟨by omega,by omega⟩,?_⟩,fun h=>hno fun hf=>?_⟩,fun h=>by omega⟩
  ·refine zit hi h2 hk hy hno m (j+1) (by omega) ?_
   rw[List.take_add_one,List.take_add_one,he,hdl,List.getElem?_eq_getElem hjk,h]
  rw[hf,List.getElem?_eq_getElem hjk] at hdl
  exact h (Option.some.inj hdl).symm
theorem zg4 {l:List Node} {i:Nat} {l2:List Int} {n:Node} {r:Bool} (hi:i≤1000000) (h2:l2.length≤1000000) (hk:n.Kids.length≤l2.length) (hy:l2.drop (l2.length - n.Kids.length)=n.Kids→zag l ((i:Int)+1) (l2.take (l2.length - n.Kids.length)++[(i:Int)]) r) (hno:¬ l2.drop (l2.length - n.Kids.length)=n.Kids→false=r):∀ (m j:Nat),j+m=n.Kids.length→(l2.drop (l2.length - n.Kids.length)).take j=n.Kids.take j→zfe l i l2 n (n.Kids.length:Int) j r
 | 0,j,hj,he=>by
  have e:((l2.length:Int) - (n.Kids.length:Int)).toNat=l2.length - n.Kids.length:=by omega
  apply zfK
  refine⟨fun h=>by omega,fun _=>⟨⟨by omega,by omega⟩,⟨by omega,by omega⟩,by omega,by omega,by simp only[bigRow];omega,⟨by omega,by omega⟩,?_⟩⟩
  rw[e]
  refine hy ?_
  rwa [List.take_of_length_le (by rw[List.length_drop];omega),List.take_of_length_le (by omega)] at he
 | m+1,j,hj,he=>by
  have hjk:j < n.Kids.length:=by omega
  have hlt:l2.length - n.Kids.length+j < l2.length:=by omega
  have e:(((l2.length:Int) - (n.Kids.length:Int))+(j:Int)).toNat=l2.length - n.Kids.length+j:=by omega
  have hg1:l2[l2.length - n.Kids.length+j]?=some l2[l2.length - n.Kids.length+j]:=List.getElem?_eq_getElem hlt
  have hg2:n.Kids[((j:Nat):Int).toNat]?=some n.Kids[j]:=by rw[Int.toNat_natCast];exact List.getElem?_eq_getElem hjk
  have hdl:(l2.drop (l2.length - n.Kids.length))[j]?=some l2[l2.length - n.Kids.length+j]:=by rw[List.getElem?_drop,hg1]
  apply zfK
  refine⟨fun _=>⟨⟨by omega,by omega⟩,⟨by omega,by omega⟩,by omega,by omega,_,by rw[e];exact hg1,by omega,_,hg2,fun h=>⟨⟨by omega,by omega⟩,?_⟩,fun h=>hno fun hf=>?_⟩,fun h=>by omega⟩
  ·refine zg4 hi h2 hk hy hno m (j+1) (by omega) ?_
   rw[List.take_add_one,List.take_add_one,he,hdl,List.getElem?_eq_getElem hjk,h]
  rw[hf,List.getElem?_eq_getElem hjk] at hdl
  exact h (Option.some.inj hdl).symm
theorem zgQ {l:List Node} {i:Nat} {l2:List Int} {n:Node} {r:Bool} (hi:i≤1000000) (h2:l2.length≤1000000) (hk:n.Kids.length≤l2.length) (hy:l2.drop (l2.length - n.Kids.length)=n.Kids→zag l ((i:Int)+1) (l2.take (l2.length - n.Kids.length)++[(i:Int)]) r) (hno:¬ l2.drop (l2.length - n.Kids.length)=n.Kids→false=r):∀ (m j:Nat),j+m=n.Kids.length→(l2.drop (l2.length - n.Kids.length)).take j=n.Kids.take j→ze2 l i l2 n j r
 | 0,j,hj,he=>by
  have e:((l2.length:Int) - (n.Kids.length:Int)).toNat=l2.length - n.Kids.length:=by omega
  apply zfN
  refine⟨fun h=>by omega,fun _=>⟨⟨by omega,by omega⟩,⟨by omega,by omega⟩,by omega,by omega,by simp only[bigRow];omega,⟨by omega,by omega⟩,?_⟩⟩
  rw[e]
  refine hy ?_
  rwa [List.take_of_length_le (by rw[List.length_drop];omega),List.take_of_length_le (by omega)] at he
 | m+1,j,hj,he=>by
  have hjk:j < n.Kids.length:=by omega
  have hlt:l2.length - n.Kids.length+j < l2.length:=by omega
  have e:(((l2.length:Int) - (n.Kids.length:Int))+(j:Int)).toNat=l2.length - n.Kids.length+j:=by omega
  have hg1:l2[l2.length - n.Kids.length+j]?=some l2[l2.length - n.Kids.length+j]:=List.getElem?_eq_getElem hlt
  have hg2:n.Kids[((j:Nat):Int).toNat]?=some n.Kids[j]:=by rw[Int.toNat_natCast];exact List.getElem?_eq_getElem hjk
  have hdl:(l2.drop (l2.length - n.Kids.length))[j]?=some l2[l2.length - n.Kids.length+j]:=by rw[List.getElem?_drop,hg1]
  apply zfN
  refine⟨fun _=>⟨⟨by omega,by omega⟩,⟨by omega,by omega⟩,by omega,by omega,_,by rw[e];exact hg1,by omega,_,hg2,fun h=>⟨⟨by omega,by omega⟩,?_⟩,fun h=>hno fun hf=>?_⟩,fun h=>by omega⟩
  ·refine zgQ hi h2 hk hy hno m (j+1) (by omega) ?_
   rw[List.take_add_one,List.take_add_one,he,hdl,List.getElem?_eq_getElem hjk,h]
  rw[hf,List.getElem?_eq_getElem hjk] at hdl
  exact h (Option.some.inj hdl).symm
theorem zhq {l:List Node} {i:Nat} {l2:List Int} {n:Node} {r:Bool} (hi:i≤1000000) (h2:l2.length≤1000000) (hk:n.Kids.length≤l2.length) (hy:l2.drop (l2.length - n.Kids.length)=n.Kids→zag l ((i:Int)+1) (l2.take (l2.length - n.Kids.length)++[(i:Int)]) r) (hno:¬ l2.drop (l2.length - n.Kids.length)=n.Kids→false=r):∀ (m j:Nat),j+m=n.Kids.length→(l2.drop (l2.length - n.Kids.length)).take j=n.Kids.take j→zff l i l2 n (n.Kids.length:Int) j r
 | 0,j,hj,he=>by
  have e:((l2.length:Int) - (n.Kids.length:Int)).toNat=l2.length - n.Kids.length:=by omega
  apply zfS
  refine⟨fun h=>by omega,fun _=>⟨⟨by omega,by omega⟩,⟨by omega,by omega⟩,by omega,by omega,by simp only[bigRow];omega,⟨by omega,by omega⟩,?_⟩⟩
  rw[e]
  refine hy ?_
  rwa [List.take_of_length_le (by rw[List.length_drop];omega),List.take_of_length_le (by omega)] at he
 | m+1,j,hj,he=>by
  have hjk:j < n.Kids.length:=by omega
  have hlt:l2.length - n.Kids.length+j < l2.length:=by omega
  have e:(((l2.length:Int) - (n.Kids.length:Int))+(j:Int)).toNat=l2.length - n.Kids.length+j:=by omega
  have hg1:l2[l2.length - n.Kids.length+j]?=some l2[l2.length - n.Kids.length+j]:=List.getElem?_eq_getElem hlt
  have hg2:n.Kids[((j:Nat):Int).toNat]?=some n.Kids[j]:=by rw[Int.toNat_natCast];exact List.getElem?_eq_getElem hjk
  have hdl:(l2.drop (l2.length - n.Kids.length))[j]?=some l2[l2.length - n.Kids.length+j]:=by rw[List.getElem?_drop,hg1]
  apply zfS
  refine⟨fun _=>⟨⟨by omega,by omega⟩,⟨by omega,by omega⟩,by omega,by omega,_,by rw[e];exact hg1,by omega,_,hg2,fun h=>⟨⟨by omega,by omega⟩,?_⟩,fun h=>hno fun hf=>?_⟩,fun h=>by omega⟩
  ·refine zhq hi h2 hk hy hno m (j+1) (by omega) ?_
   rw[List.take_add_one,List.take_add_one,he,hdl,List.getElem?_eq_getElem hjk,h]
  rw[hf,List.getElem?_eq_getElem hjk] at hdl
  exact h (Option.some.inj hdl).symm
theorem zjD {l:List Node} (hl:l.length≤1000000) (hn:∀ n ∈ l,NB n) (m i:Nat) (hi:i+m=l.length) (l2:List Int) (h2:l2.length≤i) (ih:∀ (hlt:i < l.length) (l3:List Int),l3.length≤i+1→zag l ((i:Int)+1) l3 (stk (i+1) l3.reverse (l.drop (i+1)))):zag l i l2 (stk i l2.reverse (l.drop i)):=by
 apply zkp
 refine⟨fun h=>?_,fun h=>?_⟩
 ·have hlt:i < l.length:=by omega
  have hg:l[((i:Nat):Int).toNat]?=some l[i]:=by rw[Int.toNat_natCast];exact List.getElem?_eq_getElem hlt
  have hb:=hn _ (List.getElem_mem hlt)
  have hkl:=hb.kids
  have hrev:l2.length < l[i].Kids.length→¬ l2.reverse.take l[i].Kids.length=l[i].Kids.reverse:=fun h e=>by
   have:=congrArg List.length e
   simp at this
   omega
  have hiff:l[i].Kids.length≤l2.length→(l2.reverse.take l[i].Kids.length=l[i].Kids.reverse↔l2.drop (l2.length - l[i].Kids.length)=l[i].Kids):=fun h=>by
   rw[List.take_reverse]
   exact⟨fun e=>List.reverse_inj.1 e,fun e=>by rw[e]⟩
  have hdrop:l[i].Kids.length≤l2.length→(i:Int)::l2.reverse.drop l[i].Kids.length=(l2.take (l2.length - l[i].Kids.length)++[(i:Int)]).reverse:=fun h=>by
   rw[List.reverse_append,List.drop_reverse]
   rfl
  rw[List.drop_eq_getElem_cons hlt,stk]
  have next:l[i].Kids.length≤l2.length→zag l ((i:Int)+1) (l2.take (l2.length - l[i].Kids.length)++[(i:Int)]) (stk (i+1) ((i:Int)::l2.reverse.drop l[i].Kids.length) (l.drop (i+1))):=fun h=>by
   rw[hdrop h]
   exact ih (by omega) _ (by simp;omega)
  have hko:zp l[i]=((decide (kdS l[i].Kind=(l[i].Kids.length:Nat)) || decide (kdS l[i].Kind=-1)) && plS l[i]):=rfl
  refine⟨by omega,_,hg,_,zrZ _,fun ka=>⟨fun h=>by omega,fun _=>⟨fun hs=>?_,fun hs=>?_⟩⟩,fun ka=>⟨fun h=>?_,fun h=>⟨fun he=>?_,fun he=>?_⟩⟩⟩
  ·rw[if_neg fun e=>hrev (by omega) e.2]
  ·have hs':l[i].Kids.length≤l2.length:=by omega
   refine⟨_,zjL _ hb,fun hp=>?_,fun hp=>?_⟩
   ·have ho:zp l[i]=true:=by rw[hko,hp,ka];simp
    refine zgQ (by omega) (by omega) hs' (fun e=>?_) (fun e=>?_) l[i].Kids.length 0 (by omega) rfl
    ·rw[if_pos ⟨ho,(hiff hs').2 e⟩]
     exact next hs'
    rw[if_neg fun e'=>e ((hiff hs').1 e'.2)]
   rw[if_neg fun e=>by have:=e.1;rw[hko] at this;simp[hp] at this]
  ·rw[if_neg fun e=>by
    have:=e.1
    rw[hko] at this
    simp only[Bool.and_eq_true,Bool.or_eq_true,decide_eq_true_eq] at this
    rcases this.1 with h' | h'
    ·omega
    exact ka h']
  ·rw[he]
   refine⟨fun hs=>?_,fun hs=>?_⟩
   ·rw[if_neg fun e=>hrev (by omega) e.2]
   have hs':l[i].Kids.length≤l2.length:=by omega
   refine⟨_,zjL _ hb,fun hp=>?_,fun hp=>?_⟩
   ·have ho:zp l[i]=true:=by rw[hko,hp,he];simp
    refine zhq (by omega) (by omega) hs' (fun e=>?_) (fun e=>?_) l[i].Kids.length 0 (by omega) rfl
    ·rw[if_pos ⟨ho,(hiff hs').2 e⟩]
     exact next hs'
    rw[if_neg fun e'=>e ((hiff hs').1 e'.2)]
   rw[if_neg fun e=>by have:=e.1;rw[hko] at this;simp[hp] at this]
  rw[if_neg fun e=>by
   have:=e.1
   rw[hko] at this
   simp only[Bool.and_eq_true,Bool.or_eq_true,decide_eq_true_eq] at this
   rcases this.1 with h' | h'
   ·exact he h'
   exact ka h']
 rw[List.drop_of_length_le (by omega),stk,List.length_reverse]
 exact decide_eq_decide.2 (by omega)
theorem zsA {l:List Node} (hl:l.length≤1000000) (hn:∀ n ∈ l,NB n) (m i:Nat) (hi:i+m=l.length) (l2:List Int) (h2:l2.length≤i) (ih:∀ (hlt:i < l.length) (l3:List Int),l3.length≤i+1→zag l ((i:Int)+1) l3 (stk (i+1) l3.reverse (l.drop (i+1)))):ziR l i l2 (stk i l2.reverse (l.drop i)):=by
 apply zl1
 refine⟨fun h=>?_,fun h=>?_⟩
 ·have hlt:i < l.length:=by omega
  have hg:l[((i:Nat):Int).toNat]?=some l[i]:=by rw[Int.toNat_natCast];exact List.getElem?_eq_getElem hlt
  have hb:=hn _ (List.getElem_mem hlt)
  have hkl:=hb.kids
  have hrev:l2.length < l[i].Kids.length→¬ l2.reverse.take l[i].Kids.length=l[i].Kids.reverse:=fun h e=>by
   have:=congrArg List.length e
   simp at this
   omega
  have hiff:l[i].Kids.length≤l2.length→(l2.reverse.take l[i].Kids.length=l[i].Kids.reverse↔l2.drop (l2.length - l[i].Kids.length)=l[i].Kids):=fun h=>by
   rw[List.take_reverse]
   exact⟨fun e=>List.reverse_inj.1 e,fun e=>by rw[e]⟩
  have hdrop:l[i].Kids.length≤l2.length→(i:Int)::l2.reverse.drop l[i].Kids.length=(l2.take (l2.length - l[i].Kids.length)++[(i:Int)]).reverse:=fun h=>by
   rw[List.reverse_append,List.drop_reverse]
   rfl
  rw[List.drop_eq_getElem_cons hlt,stk]
  have next:l[i].Kids.length≤l2.length→zag l ((i:Int)+1) (l2.take (l2.length - l[i].Kids.length)++[(i:Int)]) (stk (i+1) ((i:Int)::l2.reverse.drop l[i].Kids.length) (l.drop (i+1))):=fun h=>by
   rw[hdrop h]
   exact ih (by omega) _ (by simp;omega)
  have hko:zp l[i]=((decide (kdS l[i].Kind=(l[i].Kids.length:Nat)) || decide (kdS l[i].Kind=-1)) && plS l[i]):=rfl
  refine⟨by omega,_,hg,_,zrZ _,fun ka=>⟨fun h=>by omega,fun _=>⟨fun hs=>?_,fun hs=>?_⟩⟩,fun ka=>⟨fun h=>?_,fun h=>⟨fun he=>?_,fun he=>?_⟩⟩⟩
  ·rw[if_neg fun e=>hrev (by omega) e.2]
  ·have hs':l[i].Kids.length≤l2.length:=by omega
   refine⟨_,zjL _ hb,fun hp=>?_,fun hp=>?_⟩
   ·have ho:zp l[i]=true:=by rw[hko,hp,ka];simp
    refine zit (by omega) (by omega) hs' (fun e=>?_) (fun e=>?_) l[i].Kids.length 0 (by omega) rfl
    ·rw[if_pos ⟨ho,(hiff hs').2 e⟩]
     exact next hs'
    rw[if_neg fun e'=>e ((hiff hs').1 e'.2)]
   rw[if_neg fun e=>by have:=e.1;rw[hko] at this;simp[hp] at this]
  ·rw[if_neg fun e=>by
    have:=e.1
    rw[hko] at this
    simp only[Bool.and_eq_true,Bool.or_eq_true,decide_eq_true_eq] at this
    rcases this.1 with h' | h'
    ·omega
    exact ka h']
  ·rw[he]
   refine⟨fun hs=>?_,fun hs=>?_⟩
   ·rw[if_neg fun e=>hrev (by omega) e.2]
   have hs':l[i].Kids.length≤l2.length:=by omega
   refine⟨_,zjL _ hb,fun hp=>?_,fun hp=>?_⟩
   ·have ho:zp l[i]=true:=by rw[hko,hp,he];simp
    refine zg4 (by omega) (by omega) hs' (fun e=>?_) (fun e=>?_) l[i].Kids.length 0 (by omega) rfl
    ·rw[if_pos ⟨ho,(hiff hs').2 e⟩]
     exact next hs'
    rw[if_neg fun e'=>e ((hiff hs').1 e'.2)]
   rw[if_neg fun e=>by have:=e.1;rw[hko] at this;simp[hp] at this]
  rw[if_neg fun e=>by
   have:=e.1
   rw[hko] at this
   simp only[Bool.and_eq_true,Bool.or_eq_true,decide_eq_true_eq] at this
   rcases this.1 with h' | h'
   ·exact he h'
   exact ka h']
 rw[List.drop_of_length_le (by omega),stk,List.length_reverse]
 exact decide_eq_decide.2 (by omega)
theorem ziw {l:List Node} (hl:l.length≤1000000) (hn:∀ n ∈ l,NB n):∀ (m i:Nat),i+m=l.length→∀ (l2:List Int),l2.length≤i→zag l i l2 (stk i l2.reverse (l.drop i))
 | 0,i,hi,l2,h2=>zjD hl hn 0 i hi l2 h2 fun h=>by omega
 | m+1,i,hi,l2,h2=>zjD hl hn (m+1) i hi l2 h2 fun h l3 h3=>by
  have:=ziw hl hn m (i+1) (by omega) l3 h3
  exact this
theorem zsb (l:List Node) (hl:l.length≤1000000) (hn:∀ n ∈ l,NB n):zqe l (zaY l):=by
 rw[zgi]
 apply ztQ
 exact zsA hl hn l.length 0 (by omega) [] (by simp) fun h l3 h3=>by
  have:=ziw hl hn (l.length - 1) 1 (by omega) l3 h3
  exact this
theorem zsV {l:List Node} {o:Int→List UInt8} {k:Int} {v:Node} (least:Int) (w:SWriter) (g:Nat) (z:Bool) (h0:0≤k) (hv:l[k.toNat]?=some v) (hr:rkK l k=rkS v.Kind) (hw:w.out.length≤600000000000) (ho:(o k).length≤3300000)
  (hn:∀ w':SWriter,w'.out.length≤w.out.length+1→zbV w' g z l k ⟨w'.out++o k⟩ g z):zbZ w g z l k least ⟨w.out++wrS l o k least⟩ g z:=by
 apply ztm
 refine⟨h0,v,hv,_,zj5 _,fun h=>⟨_,_,_,hn w (by omega),?_,rfl,rfl⟩,fun h=>⟨_,_,_,zaf w g z [[40]] (by decide) (by simp;omega),_,_,_,hn ⟨w.out++[[40]].flatten⟩ (by simp),_,_,_,zaf _ g z [[41]] (by decide) (by simp;omega),?_,rfl,rfl⟩⟩
 ·rw[wrS,if_neg (by omega)]
 rw[wrS,if_pos (by omega)]
 simp
theorem zsQ {l:List Node} {o:Int→List UInt8} (ks:List Int) (h100:ks.length≤100) (g:Nat) (z:Bool) (w:SWriter) (hw:w.out.length≤500000000000) (hk:∀ k ∈ ks,(o k).length≤3300000∧∀ w':SWriter,w'.out.length≤w.out.length+400000000→zbV w' g z l k ⟨w'.out++o k⟩ g z):zj8 w g z l ks ⟨w.out++zbt o ks⟩ g z:=by
 have loop:∀ (m i:Nat) (w2:SWriter),0 < i→i+m=ks.length→w2.out.length+3300002*m≤w.out.length+350000000→zdP l ks i w2 g z ⟨w2.out++zbx o (ks.drop i)⟩ g z:=by
  intro m
  induction m with
  | zero =>
   intro i w2 h0 hi hs
   rw[List.drop_of_length_le (by omega),zbx,List.append_nil]
   apply zdF
   exact⟨fun h=>by omega,fun _=>⟨rfl,rfl,rfl⟩⟩
  | succ m ih =>
   intro i w2 h0 hi hs
   have hlt:i < ks.length:=by omega
   have hg:ks[((i:Nat):Int).toNat]?=some ks[i]:=by rw[Int.toNat_natCast];exact List.getElem?_eq_getElem hlt
   have hd:ks.drop i=ks[i]::ks.drop (i+1):=List.drop_eq_getElem_cons hlt
   obtain⟨k1,k2⟩:=hk _ (List.getElem_mem hlt)
   have:=ih (i+1) ⟨w2.out++[44,32]++o ks[i]⟩ (by omega) (by omega) (by simp only[List.length_append,List.length_cons,List.length_nil];omega)
   apply zdF
   refine⟨fun _=>⟨by omega,_,hg,fun _=>⟨_,_,_,zaf w2 g z [[44,32]] (by decide) (by simp;omega),_,_,_,k2 ⟨w2.out++[44,32]⟩ (by simp;omega),⟨by omega,by omega⟩,?_⟩,fun h=>by omega⟩,fun h=>by omega⟩
   rw[hd,zbx]
   simpa [List.append_assoc] using this
 apply zsW
 apply zdF
 refine⟨fun h0=>?_,fun h0=>?_⟩
 ·have hlt:0 < ks.length:=by omega
  have hg:ks[((0:Int)).toNat]?=some ks[0]:=List.getElem?_eq_getElem hlt
  have hd:ks=ks[0]::ks.drop 1:=List.drop_eq_getElem_cons hlt
  obtain⟨k1,k2⟩:=hk _ (List.getElem_mem hlt)
  have:=loop (ks.length - 1) 1 ⟨w.out++o ks[0]⟩ (by omega) (by omega) (by simp only[List.length_append];omega)
  have e:zbt o ks=o ks[0]++zbx o (ks.drop 1):=by
   conv=>lhs;rw[hd]
   rw[zbt]
  refine⟨by omega,_,hg,fun h=>by omega,fun _=>⟨_,_,_,k2 w (by omega),⟨by omega,by omega⟩,?_⟩⟩
  rw[e,←List.append_assoc]
  exact this
 have h0:ks=[]:=List.length_eq_zero_iff.1 (by omega)
 rw[h0,zbt,List.append_nil]
 exact⟨rfl,rfl,rfl⟩
theorem zqc {o:Int→List UInt8}:∀ {ks:List Int},(∀ k ∈ ks,(o k).length≤3300000)→zT o ks≤3300000*ks.length
 | [],_=>Nat.le_refl _
 | k::r,h=>by
  have:=h k (List.mem_cons_self ..)
  have:=zqc (ks:=r) fun q hq=>h q (List.mem_cons_of_mem _ hq)
  rw[zT,List.length_cons]
  omega
theorem zxi {l:List Node} (h:TR l):∀ (e:Nat),e < l.length→∀ (w:SWriter) (g:Nat) (z:Bool),w.out.length+1000000000*e≤480000000000→zbV w g z l (e:Int) ⟨w.out++txS l e⟩ g z:=by
 intro e
 induction e using Nat.strongRecOn with
 | _ e ih =>
  intro he w g z hw
  obtain⟨hok,hk,hlen⟩:=h.node e he
  have hs:=h.ns _ (List.getElem_mem he)
  have hg:l[((e:Nat):Int).toNat]?=some l[e]:=by rw[Int.toNat_natCast];exact List.getElem?_eq_getElem he
  have sh:∀ k ∈ l[e].Kids,(txS l k.toNat).length≤3300000∧∀ w':SWriter,w'.out.length≤w.out.length+500000000→zbV w' g z l k ⟨w'.out++txS l k.toNat⟩ g z:=fun k hk'=>by
   have h1:=hk k hk'
   refine⟨(h.node k.toNat (by omega)).2.2,fun w' hw'=>?_⟩
   have h2:=ih k.toNat (by omega) (by omega) w' g z (by omega)
   rwa [show ((k.toNat:Nat):Int)=k by omega] at h2
  have kd:=fun i (hi:i < l[e].Kids.length)=>zn1 h he (i:=i) hi
  rw[zhC he hok hk]
  generalize l[e]=n at *
  have hkl:=zbl hok
  have t1:=hs.text
  have t3:=zmZ hs.num
  have t4:=znh (decide (n.Num=1))
  have t6:=hs.kids
  have opd:∀ (i:Nat),i < n.Kids.length→∀ (least:Int) (w':SWriter),w'.out.length≤w.out.length+400000000→zbZ w' g z l (kid n i) least ⟨w'.out++wrS l (fun k=>txS l k.toNat) (kid n i) least⟩ g z:=fun i hi least w' hw'=>by
   obtain⟨v,a1,a2,a3,a4,a5,a6,a7⟩:=kd i hi
   exact zsV (o:=fun k=>txS l k.toNat) least w' g z a2 a4 a5 (by omega) a7 fun w2 h2=>(sh _ (zm hi)).2 w2 (by omega)
  have cl:=ziK (fun k=>txS l k.toNat) n.Kids
  have sb:=zqc (o:=fun k=>txS l k.toNat) (fun k hk=>(sh k hk).1)
  have hfb:zdm (decide (n.Num=1)) (Lib.formatBool (decide (n.Num=1))):=fun S=>zbF zfz S rfl
  generalize ho:(fun k:Int=>txS l k.toNat)=o at *
  have sh:∀ k ∈ n.Kids,(o k).length≤3300000∧∀ w':SWriter,w'.out.length≤w.out.length+500000000→zbV w' g z l k ⟨w'.out++o k⟩ g z:=by rw[←ho];exact sh
  have wl:=zby l o
  apply zty
  refine⟨by omega,n,hg,fun k1=>⟨_,znv _ hs.num,_,_,_,zaf w g z [Lib.itoa n.Num] (by simp) (by simp;omega),by rw[nd1 k1];simp,rfl,rfl⟩,fun k1=>⟨fun k2=>⟨_,_,_,zq1 w g z l n.Parts hs.parts (by omega),by rw[nd2 k2],rfl,rfl⟩,fun k2=>⟨fun k3=>⟨_,hfb,_,_,_,zaf w g z [Lib.formatBool (decide (n.Num=1))] (by simp) (by simp;omega),by rw[nd3 k3];simp,rfl,rfl⟩,fun k3=>⟨fun k4=>⟨_,_,_,zaf w g z [n.Text] (by simp) (by simp;omega),by rw[nd4 k4];simp,rfl,rfl⟩,fun k4=>⟨fun k5=>?_,fun k5=>⟨fun k6=>?_,fun k6=>⟨fun k7=>?_,fun k7=>⟨fun k8=>?_,fun k8=>⟨fun k9=>?_,fun k9=>⟨fun k10=>?_,fun k10=>?_⟩⟩⟩⟩⟩⟩⟩⟩⟩⟩
  ·refine⟨_,_,_,zaf w g z [n.Text,[40]] (by simp) (by simp;omega),_,_,_,zsQ (o:=o) n.Kids t6 g z ⟨w.out++[n.Text,[40]].flatten⟩ (by simp;omega) (fun k hk=>⟨(sh k hk).1,fun w' hw'=>(sh k hk).2 w' (by simp at hw';omega)⟩),_,_,_,zaf _ g z [[41]] (by decide) (by simp;omega),?_,rfl,rfl⟩
   rw[nd5 k5];simp
  ·refine⟨_,_,_,zaf w g z [[91]] (by simp) (by simp;omega),_,_,_,zsQ (o:=o) n.Kids t6 g z ⟨w.out++[[91]].flatten⟩ (by simp;omega) (fun k hk=>⟨(sh k hk).1,fun w' hw'=>(sh k hk).2 w' (by simp at hw';omega)⟩),_,_,_,zaf _ g z [[93]] (by decide) (by simp;omega),?_,rfl,rfl⟩
   rw[nd6 k6];simp
  ·have hc:=kdk hok 7 2 k7 (by decide) (by decide) (by decide)
   have w0:=wl (kid n 0) 7
   have l0:=(sh _ (zm (n:=n) (i:=0) (by omega))).1
   have l1:=(sh _ (zm (n:=n) (i:=1) (by omega))).1
   refine⟨_,za2 (by omega),_,_,_,opd 0 (by omega) 7 w (by omega),_,_,_,zaf _ g z [[91]] (by decide) (by simp;omega),_,za2 (by omega),_,_,_,(sh _ (zm (n:=n) (i:=1) (by omega))).2 _ (by simp;omega),_,_,_,zaf _ g z [[93]] (by decide) (by simp;omega),?_,rfl,rfl⟩
   rw[nd7 k7];simp
  ·have hc:=kdk hok 8 1 k8 (by decide) (by decide) (by decide)
   refine⟨_,_,_,zaf w g z [[33]] (by decide) (by simp;omega),_,za2 (by omega),_,_,_,opd 0 (by omega) 6 _ (by simp),?_,rfl,rfl⟩
   rw[nd8 k8];simp
  ·have hc:=kdk hok 9 1 k9 (by decide) (by decide) (by decide)
   refine⟨_,_,_,zaf w g z [[45]] (by decide) (by simp;omega),_,za2 (by omega),_,_,_,opd 0 (by omega) 6 _ (by simp),?_,rfl,rfl⟩
   rw[nd9 k9];simp
  ·have hc:=kdk hok 10 3 k10 (by decide) (by decide) (by decide)
   have w0:=wl (kid n 0) 1
   have l0:=(sh _ (zm (n:=n) (i:=0) (by omega))).1
   have l1:=(sh _ (zm (n:=n) (i:=1) (by omega))).1
   have l2:=(sh _ (zm (n:=n) (i:=2) (by omega))).1
   refine⟨_,za2 (by omega),_,_,_,opd 0 (by omega) 1 w (by omega),_,_,_,zaf _ g z [[32,63,32]] (by decide) (by simp;omega),_,za2 (by omega),_,_,_,(sh _ (zm (n:=n) (i:=1) (by omega))).2 _ (by simp;omega),_,_,_,zaf _ g z [[32,58,32]] (by decide) (by simp;omega),_,za2 (by omega),_,_,_,(sh _ (zm (n:=n) (i:=2) (by omega))).2 _ (by simp;omega),?_,rfl,rfl⟩
   rw[zqf k10];simp
  have hc:=kd2 hok (by omega)
  have l0:=(sh _ (zm (n:=n) (i:=0) (by omega))).1
  have l1:=(sh _ (zm (n:=n) (i:=1) (by omega))).1
  have sg:=zhM n.Kind
  have rr:=znp n.Kind
  refine⟨_,_,_,zr4 _ _ _ _ _ ⟨w.out++ndS l o n⟩ g z ⟨_,zj5 _,fun q=>?_,fun q=>?_⟩,rfl,rfl,rfl⟩
  ·have w0:=wl (kid n 0) (rkS n.Kind+1)
   refine⟨⟨by omega,by omega⟩,_,za2 (by omega),_,_,_,opd 0 (by omega) _ w (by omega),_,zjy (by omega) (by omega),_,_,_,zaf _ g z [[32],zaS n.Kind,[32]] (by simp) (by simp;omega),_,za2 (by omega),⟨by omega,by omega⟩,_,_,_,opd 1 (by omega) _ _ (by simp;omega),?_,rfl,rfl⟩
   rw[zi0 (by omega),if_pos q];simp
  have w0:=wl (kid n 0) (rkS n.Kind)
  refine⟨_,za2 (by omega),_,_,_,opd 0 (by omega) _ w (by omega),_,zjy (by omega) (by omega),_,_,_,zaf _ g z [[32],zaS n.Kind,[32]] (by simp) (by simp;omega),_,za2 (by omega),⟨by omega,by omega⟩,_,_,_,opd 1 (by omega) _ _ (by simp;omega),?_,rfl,rfl⟩
  rw[zi0 (by omega),if_neg q];simp
def exS (l:List Node):List UInt8:=if zaY l=true then txS l (l.length - 1) else []
theorem zdI {l:List Node} (h:zaY l=true):0 < l.length:=by
 simp only[zaY,Bool.and_eq_true,decide_eq_true_eq] at h
 exact h.1
theorem zwz {l:List Node} (h:TR l) (w:SWriter) (g:Nat) (z:Bool) (hw:w.out.length≤400000000000):zq8 w g z l ⟨w.out++exS l⟩ g z:=by
 have h0:=zdI h.tree
 have h80:=h.len
 have e:((l.length:Nat):Int) - 1=((l.length - 1:Nat):Int):=by omega
 refine zuG _ _ _ _ _ _ _ ⟨⟨by omega,by omega⟩,_,_,_,?_,rfl,rfl,rfl⟩
 rw[e,exS,if_pos h.tree]
 exact zxi h _ (by omega) w g z (by omega)
theorem zvl {n:Node} (h:NS n):NB n:=by
 have h1:=h.text
 have h2:=h.parts
 have h3:=h.kids
 exact⟨by omega,⟨by have:=h2.1;omega,fun p hp=>by have:=h2.2 p hp;omega⟩,by omega⟩
theorem zfT (l:List Node) (hl:l.length≤80) (hn:∀ n ∈ l,NS n):zh8 l (exS l):=by
 refine ztN _ _ ⟨_,zyJ l (by omega) fun n h=>zvl (hn n h),fun h=>⟨_,_,_,zwz ⟨h,hn,hl⟩ ⟨[]⟩ 0 false (by simp),by simp⟩,fun h=>by rw[exS,if_neg h]⟩
theorem zgx (l:List Node) (hl:l.length≤80) (hn:∀ n ∈ l,NS n):zms l (exS l):=by
 refine zuu _ _ ⟨_,zsb l (by omega) fun n h=>zvl (hn n h),fun h=>?_,fun h=>by rw[exS,if_neg h]⟩
 have h0:=zdI h
 have e:((l.length:Nat):Int) - 1=((l.length - 1:Nat):Int):=by omega
 refine⟨⟨by omega,by omega⟩,_,by rw[e];exact zwo ⟨h,hn,hl⟩ _ (by omega),by rw[exS,if_pos h]⟩
def zcK (o:Int→List Token):List Int→Nat
 | []=>0
 | k::r=>(o k).length+zcK o r
theorem zpb (o:Int→List Token):∀ ks:List Int,zcK o ks≤(tcG o ks).length
 | []=>Nat.le_refl _
 | k::r=>by
  have:=zpb o r
  simp only[tcG,zcK,List.length_append,List.length_cons]
  omega
theorem zw6 (o:Int→List Token):∀ ks:List Int,zcK o ks≤(tcS o ks).length
 | []=>Nat.le_refl _
 | k::r=>by
  have:=zpb o r
  simp only[tcS,zcK,List.length_append]
  omega
theorem zv4 (l:List Node) (o:Int→List Token) (k least:Int):(o k).length≤(wrK l o k least).length:=by
 unfold wrK
 split
 ·simp
  omega
 exact Nat.le_refl _
theorem zv1 {l:List Node} {o:Int→List Token} {n:Node} (hok:zp n=true):1+zcK o n.Kids≤(ndK l o n).length:=by
 have hkl:=zbl hok
 have tc:=zw6 o n.Kids
 have w:=zv4 l o
 by_cases k4:n.Kind≤4
 ·rw[zem hok k4]
  have:n.Kind=1∨n.Kind=2∨n.Kind=3∨n.Kind=4:=by omega
  rcases this with k | k | k | k
  ·rw[nk1 k];exact Nat.le_refl _
  ·rw[nk2 k];exact Nat.le_refl _
  ·rw[nk3 k];exact Nat.le_refl _
  rw[nk4 k];simp[zm7,zcK]
 by_cases k5:n.Kind=5
 ·rw[nk5 k5];simp only[List.length_append,List.length_cons,List.length_nil];omega
 by_cases k6:n.Kind=6
 ·rw[nk6 k6];simp only[List.length_append,List.length_cons,List.length_nil];omega
 by_cases k7:n.Kind=7
 ·have e:zcK o n.Kids=(o (kid n 0)).length+((o (kid n 1)).length+0):=by rw[zQ (kdk hok 7 2 k7 (by decide) (by decide) (by decide))];rfl
  have:=w (kid n 0) 7
  rw[nk7 k7];simp only[List.length_append,List.length_cons,List.length_nil];omega
 by_cases k8:n.Kind=8
 ·have e:zcK o n.Kids=(o (kid n 0)).length+0:=by rw[zQ (kdk hok 8 1 k8 (by decide) (by decide) (by decide))];rfl
  have:=w (kid n 0) 6
  rw[nk8 k8];simp only[List.length_cons];omega
 by_cases k9:n.Kind=9
 ·have e:zcK o n.Kids=(o (kid n 0)).length+0:=by rw[zQ (kdk hok 9 1 k9 (by decide) (by decide) (by decide))];rfl
  have:=w (kid n 0) 6
  rw[nk9 k9];simp only[List.length_cons];omega
 by_cases k10:n.Kind=10
 ·have e:zcK o n.Kids=(o (kid n 0)).length+((o (kid n 1)).length+((o (kid n 2)).length+0)):=by rw[zQ (kdk hok 10 3 k10 (by decide) (by decide) (by decide))];rfl
  have:=w (kid n 0) 1
  rw[zuS k10];simp only[List.length_append,List.length_cons];omega
 have e:zcK o n.Kids=(o (kid n 0)).length+((o (kid n 1)).length+0):=by rw[zQ (kd2 hok (by omega))];rfl
 rw[zqs (by omega)]
 generalize (if rkS n.Kind=3 then rkS n.Kind+1 else rkS n.Kind)=q
 have:=w (kid n 0) q
 have:=w (kid n 1) (rkS n.Kind+1)
 simp only[List.length_append,List.length_cons];omega
theorem zsP {l:List Node}:∀ {ks:List Int} {b e:Nat},KC l b ks e→(∀ k ∈ ks,szN l k≤(tkI l k).length)→e≤b+zcK (tkI l) ks
 | [],b,e,h,_=>by
  have h:b=e:=h
  rw[zcK]
  omega
 | k::ks,b,e,⟨h0,hb,hr⟩,hs=>by
  have h1:=zsP hr fun q hq=>hs q (List.mem_cons_of_mem _ hq)
  have h2:=hs k (List.mem_cons_self ..)
  obtain⟨o1,o2⟩:=zeq hb
  have hle:=zbO l k.toNat
  unfold szN at h2
  rw[o2] at h2
  rw[zcK]
  omega
theorem zx7 {l:List Node} (h:TR l):∀ (e:Nat),e < l.length→szN l (e:Int)≤(tkI l (e:Int)).length:=by
 intro e
 induction e using Nat.strongRecOn with
 | _ e ih =>
  intro he
  obtain⟨hok,hk,hlen⟩:=h.node e he
  obtain⟨b,hb,hbe,hkc⟩:=zoY h he
  have hb':zeM l (e:Int)=b:=by unfold zeM;rw[Int.toNat_natCast];omega
  have hsz:szN l (e:Int)=e+1 - b:=by unfold szN;rw[hb',Int.toNat_natCast]
  have h1:=zsP hkc fun k hk'=>by
   have h1:=hk k hk'
   have h2:=ih k.toNat (by omega) (by omega)
   rwa [show ((k.toNat:Nat):Int)=k by omega] at h2
  have htk:tkI l (e:Int)=ndK l (tkI l) l[e]:=by
   have:=zj0 he hok hk
   exact this
  have:=zv1 (l:=l) (o:=tkI l) hok
  rw[hsz,htk]
  omega
theorem noOp_end:NoOp 0 eT∧zau eT∧zkP eT:=⟨fun _ _ _ h4=>absurd h4 (by decide),fun _=>by simp[isS,eT],fun _=>by simp[isS,eT]⟩
theorem zqV {l:List Node} (h:TR l):(∃ ts o,exprT (tkS l (l.length - 1)++[eT])=.ok l ts o)∨exprT (tkS l (l.length - 1)++[eT])=.er 6:=by
 have h0:=zdI h.tree
 have he:l.length - 1 < l.length:=by omega
 have p:=zxC h _ he
 have hlen:=zx7 h _ he
 have hb:zaq l (l.length - 1)=0:=by
  have:=h.tree
  simp only[zaY,Bool.and_eq_true,decide_eq_true_eq] at this
  exact this.2
 have hbn:zeM l ((l.length - 1:Nat):Int)=0:=by unfold zeM;rw[Int.toNat_natCast,hb];rfl
 have hs:szN l ((l.length - 1:Nat):Int)=l.length:=by unfold szN;rw[hbn,Int.toNat_natCast];omega
 have hOB:OB l ((l.length - 1:Nat):Int)=[]:=by rw[OB,hbn];rfl
 have hOA:OA l ((l.length - 1:Nat):Int)=l:=by rw[OA,Int.toNat_natCast,show l.length - 1+1=l.length by omega,List.take_length]
 have hk:tkI l ((l.length - 1:Nat):Int)=tkS l (l.length - 1):=by unfold tkI;rw[Int.toNat_natCast]
 have hx:=p.ex (20*(tkS l (l.length - 1)++[eT]).length+10) 0 eT [] (by rw[hs,hk] at hlen;unfold FU;rw[hs];simp only[List.length_append,List.length_cons,List.length_nil];omega) noOp_end.1 noOp_end.2.1 noOp_end.2.2
 rw[hOB,hOA,hk] at hx
 unfold exprT zbX
 rcases hx with hx | hx
 ·left
  rw[hx]
  simp[PR.bind,eT]
 right
 rw[hx]
 rfl
def FolN (t:List UInt8):Prop:=∀ c,t.head?=some c→inC [2,3] c=false
theorem FolN.cons {c:UInt8} (h:inC [2,3] c=false) (t:List UInt8):FolN (c::t):=fun x hx=>by
 rw[List.head?_cons] at hx
 rw[←Option.some.inj hx]
 exact h
theorem FolN.nil:FolN []:=fun c h=>by cases h
theorem zfb {x:List UInt8} (hx:zN x=true) {t:List UInt8} {L:List Token} (ht:FolN t) (h:Lxs t L):Lxs (x++t) (tn x::L):=by
 obtain⟨h0,h24,he⟩:x≠[]∧x.length≤24∧zah x=x.length:=of_decide_eq_true hx
 cases x with
 | nil=>exact absurd rfl h0
 | cons c u =>
  have hc:zy c=2:=by
   rw[←Classical.not_not (a:=zy c=2)]
   intro hf
   rw[zah,if_neg hf] at he
   cases he
  have htw:((c::u)++t).takeWhile (inC [2,3])=c::u:=zcw (fun y hy=>zds hx y hy) ht
  have hk:=Tok.name c (u++t) hc
  rw[show c::(u++t)=(c::u)++t from rfl] at hk
  unfold zB at hk
  rw[htw,if_pos h24] at hk
  have:=zdw (by rw[hc];decide) (by rw[hc];decide) hk (L:=L) (show Lxs (((c::u)++t).drop (c::u).length) L by rw[List.drop_left];exact h)
  exact this
theorem zua {t:List UInt8} {L:List Token} (ht:t.head?≠some 61) (h:Lxs t L):Lxs (33::t) (tg [33]::L):=by
 have e:zt (33::t)=[33]:=by
  cases t with
  | nil=>decide
  | cons b t =>
   rw[zt,zcy,if_neg]
   ·decide
   intro hb
   rcases zih hb with rfl | rfl | rfl
   ·exact ht rfl
   ·simp[zco] at hb
   simp[zco] at hb
 have hk:=Tok.sign 33 t (by decide) (by decide) (by decide)
 rw[e,if_neg (by simp)] at hk
 exact zdw (by decide) (by decide) hk h
theorem zcf {c:UInt8} (hc:c=40∨c=41∨c=91∨c=93∨c=44∨c=45∨c=46∨c=63∨c=58) {t:List UInt8} {L:List Token} (h:Lxs t L):Lxs (c::t) (tg [c]::L):=by
 rcases hc with rfl | rfl | rfl | rfl | rfl | rfl | rfl | rfl | rfl <;> exact ziM (by decide) (by decide) (by decide) (by decide) (by decide) (by simp[zco]) (by decide) h
theorem zxB {k:Int} (h0:11≤k) (h1:k≤23) {t:List UInt8} {L:List Token} (h:Lxs t L):Lxs (32::(zaS k++32::t)) (tg (zaS k)::L):=by
 have:k=11∨k=12∨k=13∨k=14∨k=15∨k=16∨k=17∨k=18∨k=19∨k=20∨k=21∨k=22∨k=23:=by omega
 refine zdx (by decide) ?_
 have h:=zdx (c:=32) (by decide) h
 have key:Tok (zaS k) (some (tg (zaS k),(zaS k).length))∧zhA (zaS k):=by
  rcases this with rfl | rfl | rfl | rfl | rfl | rfl | rfl | rfl | rfl | rfl | rfl | rfl | rfl <;> exact⟨Tok.sign _ _ (by decide) (by decide) (by decide),by decide,by decide⟩
 exact zws key.2 key.1 (.inr (.inl rfl)) h
theorem zkO:∀ (n k:Nat),k≤n→Dg (Lib.decDigits k)
 | 0,k,h=>by
  rw[Lib.decDigits_one (by omega)]
  intro c hc
  obtain rfl:=List.mem_singleton.1 hc
  rw[UInt8.toNat_ofNat']
  omega
 | n+1,k,h=>by
  by_cases h1:k < 10
  ·rw[Lib.decDigits_one h1]
   intro c hc
   obtain rfl:=List.mem_singleton.1 hc
   rw[UInt8.toNat_ofNat']
   omega
  rw[Lib.decDigits,dif_neg h1]
  intro c hc
  rcases List.mem_append.1 hc with hc | hc
  ·exact zkO n (k / 10) (by omega) c hc
  obtain rfl:=List.mem_singleton.1 hc
  rw[UInt8.toNat_ofNat']
  omega
theorem zs4 (l:List UInt8) (c:UInt8):∀ acc,zai acc (l++[c])=zai acc l*10+(c.toNat - 48):=by
 induction l with
 | nil=>intro acc;rfl
 | cons a l ih=>intro acc;rw[List.cons_append,za1,ih,za1]
theorem zlc:∀ (n k:Nat),k≤n→zai 0 (Lib.decDigits k)=k
 | 0,k,h=>by
  obtain rfl:k=0:=by omega
  rw[Lib.decDigits_one (by omega)]
  rfl
 | n+1,k,h=>by
  by_cases h1:k < 10
  ·rw[Lib.decDigits_one h1,za1,zdz,UInt8.toNat_ofNat']
   omega
  rw[Lib.decDigits,dif_neg h1,zs4,zlc n (k / 10) (by omega),UInt8.toNat_ofNat']
  omega
theorem ztF {z:Int} (h0:0≤z) (h1:z≤9223372036854775807) {t:List UInt8} {L:List Token} (ht:FolN t) (h:Lxs t L):Lxs (Lib.itoa z++t) (zja z::L):=by
 obtain⟨n,rfl⟩:∃ n:Nat,z=n:=⟨z.toNat,by omega⟩
 have hd:=zkO n n (Nat.le_refl _)
 have hv:=zlc n n (Nat.le_refl _)
 have hi:Lib.itoa (n:Int)=Lib.decDigits n:=by simp[Lib.itoa]
 have hne:Lib.decDigits n≠[]:=by
  rw[Lib.decDigits]
  split <;> simp
 have hok:zmo (Lib.decDigits n):=by
  refine⟨by rw[hv];omega,?_⟩
  rw[←zn9 hd hne,hv]
  exact hi
 rw[hi]
 generalize hD:Lib.decDigits n=D at *
 cases D with
 | nil=>exact absurd rfl hne
 | cons c u =>
  have hc:zy c=3:=by
   have:=(zux c).2 (hd c (List.mem_cons_self ..))
   unfold inC at this
   simpa using this
  have htw:((c::u)++t).takeWhile (inC [3])=c::u:=zcw (fun y hy=>(zux y).2 (hd y hy)) fun y hy=>by
   have:=ht y hy
   rw[←Bool.not_eq_true] at this ⊢
   exact fun hf=>this ((zfj y).2 (.inr (by unfold inC at hf;simpa using hf)))
  have hk:=Tok.num c (u++t) hc
  rw[show c::(u++t)=(c::u)++t from rfl] at hk
  unfold zfl at hk
  rw[htw,if_pos hok,hv] at hk
  exact zdw (by rw[hc];decide) (by rw[hc];decide) hk (L:=L) (show Lxs (((c::u)++t).drop (c::u).length) L by rw[List.drop_left];exact h)
theorem zm4 {t:List UInt8} {l P:List Part} {n:Nat}:∀ (s:List UInt8) (b:List UInt8),zdB s=true→Qx t l (b++s) (some (P,n))→Qx (qS s++t) l b (some (P,n+(qS s).length))
 | [],b,_,h=>by simpa [qS] using h
 | c::s,b,hp,h=>by
  simp only[zdB,List.all_cons,Bool.and_eq_true] at hp
  have h':=zm4 s (b++[c]) hp.2 (by simpa using h)
  have hq:qS (c::s)=qC c++qS s:=by rw[qS,List.flatMap_cons];rfl
  rw[hq,List.append_assoc]
  have hc:=hp.1
  simp only[zaW,Bool.or_eq_true,decide_eq_true_eq] at hc
  unfold qC
  by_cases h1:c.toNat=34∨c.toNat=92∨c.toNat=36
  ·rw[if_pos h1]
   have he:zgo c=some c:=by
    have:c=34∨c=92∨c=36:=by
     rcases h1 with h | h | h
     ·exact .inl (UInt8.toNat_inj.1 h)
     ·exact .inr (.inl (UInt8.toNat_inj.1 h))
     exact .inr (.inr (UInt8.toNat_inj.1 h))
    rw[zgo,if_pos this]
   have:=Qx.esc c c _ l b _ he h'
   rw[show n+(([92,c]:List UInt8)++qS s).length=n+(qS s).length+2 by simp;omega]
   exact this
  rw[if_neg h1]
  by_cases h10:c.toNat=10
  ·rw[if_pos h10]
   have hc10:c=10:=UInt8.toNat_inj.1 h10
   subst hc10
   have:=Qx.esc 110 10 _ l b _ (by decide) h'
   rw[show n+(([92,110]:List UInt8)++qS s).length=n+(qS s).length+2 by simp;omega]
   exact this
  rw[if_neg h10]
  have:=Qx.plain c _ l b _ (fun e=>h1 (.inl (by rw[e];rfl))) (by omega) (fun e=>h1 (.inr (.inl (by rw[e];rfl)))) (fun e=>absurd (.inr (.inr (by rw[e];rfl))) h1) h'
  simpa [Nat.add_assoc,Nat.add_comm,Nat.add_left_comm] using this
theorem zht {t:List UInt8}:∀ (ps:List Part) (f:Bool) (l:List Part) (b:List UInt8),zU f ps=true→(f=false→b=[])→Qx (ps.flatMap ptS++34::t) l b (some (zI l b++ps,(ps.flatMap ptS).length+1))
 | [],f,l,b,_,_=>by
  have:=Qx.shut t l b
  simpa using this
 | p::ps,f,l,b,hp,hb=>by
  rw[zU] at hp
  rw[List.flatMap_cons,List.append_assoc]
  by_cases hr:p.Ref=true
  ·rw[if_pos hr,Bool.and_eq_true] at hp
   obtain⟨h1,h2⟩:=hp
   obtain⟨x,y,hxy,hx,hy⟩:=zcX h1
   have h3:=zht (t:=t) ps false (zI l b++[Part.mk true p.Text]) [] h2 (fun _=>rfl)
   have hrf:zH (p.Text++125::(ps.flatMap ptS++34::t))=(p.Text,true):=by
    rw[hxy,show (x++46::y)++125::(ps.flatMap ptS++34::t)=x++46::(y++125::(ps.flatMap ptS++34::t)) by simp]
    exact zpI hx hy
   have h4:=Qx.ref (p.Text++125::(ps.flatMap ptS++34::t)) l b _ (by rw[hrf]) (by
    rw[hrf]
    have e:(p.Text++125::(ps.flatMap ptS++34::t)).drop (p.Text.length+1)=ps.flatMap ptS++34::t:=by
     rw[←List.drop_drop,List.drop_left]
     rfl
    rw[e]
    exact h3)
   rw[hrf] at h4
   have hpe:(Part.mk true p.Text)=p:=by rw[←hr]
   rw[ptS,if_pos hr]
   rw[hpe] at h4
   have e2:zI (zI l b++[p]) []++ps=zI l b++p::ps:=by simp[zI]
   rw[e2] at h4
   have e3:([36,123]++p.Text++[125])++(ps.flatMap ptS++34::t)=36::123::(p.Text++125::(ps.flatMap ptS++34::t)):=by simp
   rw[e3]
   have e4:(([36,123]++p.Text++[125])++ps.flatMap ptS).length+1=(ps.flatMap ptS).length+1+(3+p.Text.length):=by simp;omega
   rw[e4]
   exact h4
  rw[if_neg hr] at hp
  simp only[Bool.and_eq_true,Bool.not_eq_true',decide_eq_false_iff_not] at hp
  obtain⟨⟨⟨h1,h2⟩,h3⟩,h4⟩:=hp
  have hb0:=hb h2
  subst hb0
  have h5:=zht (t:=t) ps true l p.Text h4 (fun e=>by cases e)
  have h6:=zm4 p.Text [] h3 (by rw[List.nil_append];exact h5)
  have hrf:p.Ref=false:=by simpa using hr
  have e2:zI l p.Text++ps=zI l []++p::ps:=by
   have:Part.mk false p.Text=p:=by rw[←hrf]
   simp[zI,h1,this]
  rw[e2] at h6
  rw[ptS,if_neg hr,List.length_append]
  have e4:(qS p.Text).length+(ps.flatMap ptS).length+1=(ps.flatMap ptS).length+1+(qS p.Text).length:=by omega
  rw[e4]
  exact h6
theorem zug {ps:List Part} (hp:zU false ps=true) {t:List UInt8} {L:List Token} (h:Lxs t L):Lxs (qtS ps++t) (zhb ps::L):=by
 have h1:=zht (t:=t) ps false [] [] hp (fun _=>rfl)
 have hk:=Tok.text _ _ h1
 have e:qtS ps++t=34::(ps.flatMap ptS++34::t):=by simp[qtS]
 rw[e]
 have:=zdw (by decide) (by decide) hk (L:=L) (by
  have e2:(34::(ps.flatMap ptS++34::t)).drop ((ps.flatMap ptS).length+1+1)=t:=by
   rw[List.drop_succ_cons,←List.drop_drop,List.drop_left]
   rfl
  rw[e2]
  exact h)
 simpa [σ,zhb,zI] using this
def H61 (x:List UInt8):Prop:=∃ c u,x=c::u∧c≠61
theorem H61.app {x:List UInt8} (h:H61 x) (t:List UInt8):H61 (x++t):=by
 obtain⟨c,u,rfl,h⟩:=h
 exact⟨c,u++t,rfl,h⟩
theorem H61.head {x:List UInt8} (h:H61 x):x.head?≠some 61:=by
 obtain⟨c,u,rfl,h⟩:=h
 simpa using h
def TT (x:List UInt8) (K:List Token):Prop:=H61 x∧∀ t L,FolN t→Lxs t L→Lxs (x++t) (K++L)
theorem TT.wr {l:List Node} {k:Int} (least:Int) (h:TT (txS l k.toNat) (tkI l k)):TT (wrS l (fun k=>txS l k.toNat) k least) (wrK l (tkI l) k least):=by
 unfold wrS wrK
 by_cases hr:rkK l k < least
 ·rw[if_pos hr,if_pos hr]
  refine⟨⟨40,txS l k.toNat++[41],rfl,by decide⟩,fun t L ht hL=>?_⟩
  have:=zry (h.2 (41::t) (rpT::L) (FolN.cons (by decide) t) (zsH hL))
  simpa using this
 rw[if_neg hr,if_neg hr]
 exact h
theorem zmE {o:Int→List UInt8} {t:List UInt8} (ht:FolN t):∀ ks:List Int,FolN (zbx o ks++t)
 | []=>ht
 | k::r=>FolN.cons (c:=44) (by decide) _
theorem znM {l:List Node} {t:List UInt8} {L:List Token} (ht:FolN t) (hL:Lxs t L):∀ ks:List Int,(∀ k ∈ ks,TT (txS l k.toNat) (tkI l k))→Lxs (zbx (fun k=>txS l k.toNat) ks++t) (tcG (tkI l) ks++L)
 | [],_=>hL
 | k::r,h=>by
  have h1:=znM ht hL r fun q hq=>h q (List.mem_cons_of_mem _ hq)
  have h2:=(h k (List.mem_cons_self ..)).2 _ _ (zmE ht r) h1
  have h3:=zcf (c:=44) (by simp) (zdx (c:=32) (by decide) h2)
  rw[zbx,tcG]
  simpa [List.append_assoc] using h3
theorem zm9 {l:List Node} {t:List UInt8} {L:List Token} (ht:FolN t) (hL:Lxs t L) (ks:List Int) (h:∀ k ∈ ks,TT (txS l k.toNat) (tkI l k)):Lxs (zbt (fun k=>txS l k.toNat) ks++t) (tcS (tkI l) ks++L):=by
 cases ks with
 | nil=>exact hL
 | cons k r =>
  have h1:=znM ht hL r fun q hq=>h q (List.mem_cons_of_mem _ hq)
  have h2:=(h k (List.mem_cons_self ..)).2 _ _ (zmE ht r) h1
  rw[zbt,tcS]
  simpa [List.append_assoc] using h2
theorem zjc {x:List UInt8} (h:zN x=true):H61 x:=by
 cases x with
 | nil=>exact absurd (zu0 h) (by simp)
 | cons c u =>
  refine⟨c,u,rfl,fun e=>?_⟩
  have:=zds h c (List.mem_cons_self ..)
  rw[e] at this
  exact absurd this (by decide)
theorem num0 {n:Node} (h:zp n=true) (k:n.Kind=1):0≤n.Num:=by
 have hp:=zbD h
 rw[plS,if_pos k] at hp
 simp only[Bool.and_eq_true,decide_eq_true_eq] at hp
 exact hp.1.1
theorem zyY {n:Node} (h:zp n=true) (k:n.Kind=2):zU false n.Parts=true:=by
 have hp:=zbD h
 rw[plS,if_neg (by omega),if_neg (by omega),if_neg (by omega),if_neg (by omega),if_pos k] at hp
 simp only[Bool.and_eq_true,decide_eq_true_eq] at hp
 exact hp.2
theorem ztV {z:Int} (h0:0≤z):H61 (Lib.itoa z):=by
 obtain⟨n,rfl⟩:∃ n:Nat,z=n:=⟨z.toNat,by omega⟩
 have hd:=zkO n n (Nat.le_refl _)
 have hi:Lib.itoa (n:Int)=Lib.decDigits n:=by simp[Lib.itoa]
 have hne:Lib.decDigits n≠[]:=by
  rw[Lib.decDigits]
  split <;> simp
 rw[hi]
 generalize Lib.decDigits n=D at *
 cases D with
 | nil=>exact absurd rfl hne
 | cons c u =>
  refine⟨c,u,rfl,fun e=>?_⟩
  have:=(hd c (List.mem_cons_self ..)).2
  rw[e] at this
  exact absurd this (by decide)
theorem zsu {l:List Node} (h:TR l):∀ (e:Nat),e < l.length→TT (txS l e) (tkS l e):=by
 intro e
 induction e using Nat.strongRecOn with
 | _ e ih =>
  intro he
  obtain⟨hok,hk,hlen⟩:=h.node e he
  have hs:=h.ns _ (List.getElem_mem he)
  have ihk:∀ k ∈ l[e].Kids,TT (txS l k.toNat) (tkI l k):=fun k hk'=>by
   have h1:=hk k hk'
   exact ih k.toNat (by omega) (by omega)
  have htk:tkS l e=ndK l (tkI l) l[e]:=zj0 he hok hk
  rw[zhC he hok hk,htk]
  generalize l[e]=n at *
  have hkl:=zbl hok
  have ikd:∀ i,i < n.Kids.length→TT (txS l (kid n i).toNat) (tkI l (kid n i)):=fun i hi=>ihk _ (zm hi)
  by_cases k1:n.Kind=1
  ·rw[nd1 k1,nk1 k1]
   have z0:=num0 hok k1
   exact⟨ztV z0,fun t L ht hL=>ztF z0 hs.num.2 ht hL⟩
  by_cases k2:n.Kind=2
  ·rw[nd2 k2,nk2 k2]
   exact⟨⟨34,_,rfl,by decide⟩,fun t L ht hL=>zug (zyY hok k2) hL⟩
  by_cases k3:n.Kind=3
  ·rw[nd3 k3,nk3 k3]
   have hn:zN (Lib.formatBool (decide (n.Num=1)))=true:=by
    by_cases hb:n.Num=1
    ·rw[decide_eq_true hb,zkA];decide
    rw[decide_eq_false hb,ziV];decide
   exact⟨zjc hn,fun t L ht hL=>zfb hn ht hL⟩
  by_cases k4:n.Kind=4
  ·rw[nd4 k4,nk4 k4]
   obtain⟨h1,h2,hf⟩:=zu7 hok k4
   obtain⟨x,y,hxy,hx,hy⟩:=zcX h1
   have hc:Lib.cut n.Text [46]=(x,y,true):=by rw[hxy];exact znR hx
   rw[zm7,hc,hxy]
   refine⟨(zjc hx).app _,fun t L ht hL=>?_⟩
   have:=zfb hx (FolN.cons (c:=46) (by decide) _) (zcf (c:=46) (by simp) (zfb hy ht hL))
   simpa [List.append_assoc] using this
  by_cases k5:n.Kind=5
  ·rw[nd5 k5,nk5 k5]
   obtain⟨h1,h2,hf⟩:=zu8 hok k5
   refine⟨((zjc h1).app _).app _ |>.app _,fun t L ht hL=>?_⟩
   have:=zfb h1 (FolN.cons (c:=40) (by decide) _) (zry (zm9 (FolN.cons (c:=41) (by decide) t) (zsH hL) n.Kids ihk))
   simpa [List.append_assoc] using this
  by_cases k6:n.Kind=6
  ·rw[nd6 k6,nk6 k6]
   refine⟨⟨91,_,rfl,by decide⟩,fun t L ht hL=>?_⟩
   have:=zcf (c:=91) (by simp) (zm9 (FolN.cons (c:=93) (by decide) t) (zcf (c:=93) (by simp) hL) n.Kids ihk)
   simpa [List.append_assoc] using this
  by_cases k7:n.Kind=7
  ·have hc:=kdk hok 7 2 k7 (by decide) (by decide) (by decide)
   rw[nd7 k7,nk7 k7]
   have w:=(ikd 0 (by omega)).wr 7
   refine⟨((w.1.app _).app _).app _,fun t L ht hL=>?_⟩
   have:=w.2 _ _ (FolN.cons (c:=91) (by decide) _) (zcf (c:=91) (by simp) ((ikd 1 (by omega)).2 _ _ (FolN.cons (c:=93) (by decide) t) (zcf (c:=93) (by simp) hL)))
   simpa [List.append_assoc] using this
  by_cases k8:n.Kind=8
  ·have hc:=kdk hok 8 1 k8 (by decide) (by decide) (by decide)
   rw[nd8 k8,nk8 k8]
   have w:=(ikd 0 (by omega)).wr 6
   refine⟨⟨33,_,rfl,by decide⟩,fun t L ht hL=>?_⟩
   exact zua (w.1.app t).head (w.2 t L ht hL)
  by_cases k9:n.Kind=9
  ·have hc:=kdk hok 9 1 k9 (by decide) (by decide) (by decide)
   rw[nd9 k9,nk9 k9]
   have w:=(ikd 0 (by omega)).wr 6
   exact⟨⟨45,_,rfl,by decide⟩,fun t L ht hL=>zcf (c:=45) (by simp) (w.2 t L ht hL)⟩
  by_cases k10:n.Kind=10
  ·have hc:=kdk hok 10 3 k10 (by decide) (by decide) (by decide)
   rw[zqf k10,zuS k10]
   have w:=(ikd 0 (by omega)).wr 1
   refine⟨((w.1.app _).app _ |>.app _).app _,fun t L ht hL=>?_⟩
   have h2:=(ikd 2 (by omega)).2 t L ht hL
   have h1:=(ikd 1 (by omega)).2 _ _ (FolN.cons (c:=32) (by decide) _) (zdx (c:=32) (by decide) (zcf (c:=58) (by simp) (zdx (c:=32) (by decide) h2)))
   have:=w.2 _ _ (FolN.cons (c:=32) (by decide) _) (zdx (c:=32) (by decide) (zcf (c:=63) (by simp) (zdx (c:=32) (by decide) h1)))
   simpa [List.append_assoc] using this
  have hc:=kd2 hok (by omega)
  rw[zi0 (by omega),zqs (by omega)]
  generalize (if rkS n.Kind=3 then rkS n.Kind+1 else rkS n.Kind)=q
  have w:=(ikd 0 (by omega)).wr q
  have w1:=(ikd 1 (by omega)).wr (rkS n.Kind+1)
  refine⟨((w.1.app _).app _ |>.app _).app _,fun t L ht hL=>?_⟩
  have:=w.2 _ _ (FolN.cons (c:=32) (by decide) _) (zxB (k:=n.Kind) (by omega) (by omega) (w1.2 t L ht hL))
  simpa [List.append_assoc] using this
theorem ztL {l:List Node} (h:TR l) (h6:(exS l).length≤6000):zbb (exS l) l 0∨zbb (exS l) [] 6:=by
 have h0:=zdI h.tree
 have ht:=(zsu h (l.length - 1) (by omega)).2 [] [eT] FolN.nil zwI
 rw[List.append_nil] at ht
 have hx:exS l=txS l (l.length - 1):=by rw[exS,if_pos h.tree]
 rw[←hx] at ht
 rcases zqV h with⟨ts,o,hb⟩ | hb
 ·exact .inl (zrJ h6 ht hb)
 exact .inr (zsv h6 ht hb (by decide))
def awT:List UInt8:=[40,32,49,43,32,50,41,32,42,51]
def awL:List Node:=[⟨1,1,[],[],[]⟩,⟨1,2,[],[],[]⟩,⟨19,0,[],[],[0,1]⟩,⟨1,3,[],[],[]⟩,⟨21,0,[],[],[2,3]⟩]
def prN:PR (List Node)→Option (List Node)
 | .ok l _ _=>some l
 | _=>none
theorem zuL:prN (ziE awT)=some awL:=by kernel_rfl
theorem zw1:exS awL=[40,49,32,43,32,50,41,32,42,32,51]:=by kernel_rfl
theorem zi6:ze3 true:=by
 have h:=zqa awT (by decide)
 have e:=zuL
 have hp:zbb awT awL 0:=by
  cases hq:ziE awT with
  | ok l ts o =>
   rw[hq] at h e
   obtain rfl:=Option.some.inj e
   exact h
  | er x=>rw[hq] at e;cases e
  | no=>rw[hq] at e;cases e
 have hs:zh8 awL (exS awL):=zfT awL (by decide) fun n hn=>by
  simp only[awL,List.mem_cons,List.not_mem_nil,or_false] at hn
  rcases hn with rfl | rfl | rfl | rfl | rfl <;> exact⟨⟨by decide,by decide⟩,by decide,⟨by decide,fun p hp=>by cases hp⟩,by decide⟩
 exact ztT _ ⟨_,_,hp,_,hs,decide_eq_true zw1⟩
theorem zjN (C:Nat) (l:List Node) (e:Nat) (hf:∀ j < e,∃ b:Nat,zaq l j=b∧(txS l j).length+C*b≤C*(j+1)):∀ (st:List Int) (i k:Nat),i≤e→Ch l i st→k≤st.length→∃ b:Nat,b≤i∧Bk.run (fun k=>((zaH l e)[k.toNat]?).getD 0) i (st.take k)=b∧(∀ s ∈ st.take k,0≤s∧s < (i:Int))∧zT (fun k=>txS l k.toNat) (st.take k)+C*b≤C*i
 | st,i,0,_,h,_=>⟨i,Nat.le_refl _,rfl,by simp,by simp[zT]⟩
 | [],i,k+1,_,_,hk=>absurd hk (by simp)
 | s::st,i,k+1,hi,⟨h0,hs,b,hb,hc⟩,hk=>by
  have hle:=zbO l (i - 1)
  obtain⟨b',h1,h2,h3,h4⟩:=zjN C l e hf st b k (by omega) hc (by simpa using hk)
  obtain⟨b2,hb2,hl2⟩:=hf (i - 1) (by omega)
  have e1:s.toNat=i - 1:=by omega
  have e2:b2=b:=by omega
  rw[e2,show i - 1+1=i by omega] at hl2
  refine⟨b',by omega,?_,?_,?_⟩
  ·rw[List.take_succ_cons,Bk.run]
   have e2:((zaH l e)[s.toNat]?).getD 0=b:=by rw[e1,zb1 l (show i - 1 < e by omega),Option.getD_some,hb]
   simp only[e2]
   rw[if_neg (by omega),if_neg (by omega)]
   exact h2
  ·intro q hq
   rw[List.take_succ_cons] at hq
   rcases List.mem_cons.1 hq with rfl | hq
   ·omega
   have:=h3 q hq;omega
  rw[List.take_succ_cons,zT]
  simp only[e1]
  omega
theorem zs7 (C:Nat) {l:List Node} (ht:zaY l=true) (hn:∀ n ∈ l,zp n=true→∀ o:Int→List UInt8,(ndS l o n).length≤C+zT o n.Kids):∀ (e:Nat) (he:e < l.length),zp l[e]=true∧(∀ k ∈ l[e].Kids,0≤k∧k < (e:Int))∧∃ b:Nat,zaq l e=b∧(txS l e).length+C*b≤C*(e+1):=by
 have hst:=znA l l.length 0 [] (by omega) rfl (by rw[List.drop_zero,←zgi];exact ht)
 intro e
 induction e using Nat.strongRecOn with
 | _ e ih =>
  intro he
  obtain⟨h1,st,h2,h3,h4⟩:=hst e he (Nat.zero_le _)
  obtain⟨b,b1,b2,b3,b4⟩:=zjN C l e (fun j hj=>(ih j hj (by omega)).2.2) st e l[e].Kids.length (Nat.le_refl _) h2 h3
  rw[h4] at b2 b3 b4
  have hk:∀ k ∈ l[e].Kids,0≤k∧k < (e:Int):=fun k hk=>b3 k (List.mem_reverse.2 hk)
  refine⟨h1,hk,b,?_,?_⟩
  ·rw[zev l (List.getElem?_eq_getElem he),if_pos h1]
   exact b2
  rw[zeV] at b4
  rw[zhC he h1 hk]
  have:=hn _ (List.getElem_mem he) h1 (fun k=>txS l k.toNat)
  rw[Nat.mul_add]
  omega
theorem zuz (C:Nat) {l:List Node} (ht:zaY l=true) (hn:∀ n ∈ l,zp n=true→∀ o:Int→List UInt8,(ndS l o n).length≤C+zT o n.Kids):(exS l).length≤C*l.length:=by
 have h0:=zdI ht
 obtain⟨_,_,b,hb,h⟩:=zs7 C ht hn (l.length - 1) (by omega)
 rw[exS,if_pos ht]
 rw[show l.length - 1+1=l.length by omega] at h
 omega
def Stk (l:List Node) (st:List Int):Prop:=∀ rest,stk 0 [] (l++rest)=stk l.length st rest
theorem Stk.nil:Stk [] []:=fun _=>rfl
theorem Stk.snoc {l:List Node} {st:List Int} (h:Stk l st) {n:Node} (hn:zp n=true) (hk:st.take n.Kids.length=n.Kids.reverse):Stk (l++[n]) ((l.length:Int)::st.drop n.Kids.length):=fun rest=>by
 rw[List.append_assoc,h,List.singleton_append,stk,if_pos ⟨hn,hk⟩,List.length_append]
 rfl
theorem Stk.tree {l:List Node} {st:List Int} (h:Stk l st) (h1:st.length=1):zaY l=true:=by
 have:=h []
 rw[List.append_nil] at this
 rw[zgi,this,stk,decide_eq_true h1]
theorem Stk.made {l:List Node} {st:List Int} (h:Stk l st.reverse) {k:Nat} (hk:k≤st.length) {n:Node} (hn:zp n=true) (hd:n.Kids=st.drop (st.length - k)):Stk (l++[n]) (st.take (st.length - k)++[(l.length:Int)]).reverse:=by
 have hl:n.Kids.length=k:=by rw[hd,List.length_drop];omega
 have:=h.snoc hn (by rw[hl,hd,List.reverse_drop,show st.length - (st.length - k)=k by omega])
 rw[List.reverse_append,List.reverse_singleton,List.singleton_append]
 rw[hl] at this
 rwa [List.reverse_take,show st.length - (st.length - k)=k by omega]
theorem zzx {k:Int} (h0:11≤k) (h1:k≤23):kdS k=2:=by
 unfold kdS
 repeat' split
 all_goals omega
theorem zw2 {l:List Node} {o:Int→List UInt8} {n:Node} (hn:zp n=true):(ndS l o n).length≤(n.Text.length+(qtS n.Parts).length+(Lib.itoa n.Num).length+2*n.Kids.length+20)+zT o n.Kids:=by
 have t4:=znh (decide (n.Num=1))
 have t5:=ziK o n.Kids
 have w:=zby l o
 have sg:=zhM n.Kind
 have h1:=zbl hn
 by_cases k1:n.Kind=1
 ·rw[nd1 k1];omega
 by_cases k2:n.Kind=2
 ·rw[nd2 k2];omega
 by_cases k3:n.Kind=3
 ·rw[nd3 k3];omega
 by_cases k4:n.Kind=4
 ·rw[nd4 k4];omega
 by_cases k5:n.Kind=5
 ·rw[nd5 k5];simp only[List.length_append,List.length_cons,List.length_nil];omega
 by_cases k6:n.Kind=6
 ·rw[nd6 k6];simp only[List.length_append,List.length_cons,List.length_nil];omega
 by_cases k7:n.Kind=7
 ·have e:zT o n.Kids=(o (kid n 0)).length+((o (kid n 1)).length+0):=by rw[zQ (kdk hn 7 2 k7 (by decide) (by decide) (by decide))];rfl
  have:=w (kid n 0) 7
  rw[nd7 k7];simp only[List.length_append,List.length_cons,List.length_nil];omega
 by_cases k8:n.Kind=8
 ·have e:zT o n.Kids=(o (kid n 0)).length+0:=by rw[zQ (kdk hn 8 1 k8 (by decide) (by decide) (by decide))];rfl
  have:=w (kid n 0) 6
  rw[nd8 k8];simp only[List.length_append,List.length_cons,List.length_nil];omega
 by_cases k9:n.Kind=9
 ·have e:zT o n.Kids=(o (kid n 0)).length+0:=by rw[zQ (kdk hn 9 1 k9 (by decide) (by decide) (by decide))];rfl
  have:=w (kid n 0) 6
  rw[nd9 k9];simp only[List.length_append,List.length_cons,List.length_nil];omega
 by_cases k10:n.Kind=10
 ·have e:zT o n.Kids=(o (kid n 0)).length+((o (kid n 1)).length+((o (kid n 2)).length+0)):=by rw[zQ (kdk hn 10 3 k10 (by decide) (by decide) (by decide))];rfl
  have:=w (kid n 0) 1
  rw[zqf k10];simp only[List.length_append,List.length_cons,List.length_nil];omega
 have e:zT o n.Kids=(o (kid n 0)).length+((o (kid n 1)).length+0):=by rw[zQ (kd2 hn (by omega))];rfl
 rw[zi0 (by omega)]
 generalize (if rkS n.Kind=3 then rkS n.Kind+1 else rkS n.Kind)=q
 have:=w (kid n 0) q
 have:=w (kid n 1) (rkS n.Kind+1)
 simp only[List.length_append,List.length_cons,List.length_nil];omega
def noB (s:List UInt8):Prop:=(40:UInt8) ∉ s∧(41:UInt8) ∉ s
def NP (n:Node):Prop:=noB n.Text∧∀ p ∈ n.Parts,noB p.Text
theorem zfJ:noB []:=⟨by simp,by simp⟩
structure MN (n:Node):Prop where
 ok:zp n=true
 ns:NS n
 text:n.Text.length≤11
 parts:(qtS n.Parts).length≤15
 num:(Lib.itoa n.Num).length≤2
 kids:n.Kids.length≤3
 np:NP n
structure MI (l:List Node) (st:List Int):Prop where
 stk:Stk l st.reverse
 each:∀ n ∈ l,MN n
theorem MI.nil:MI [] []:=⟨Stk.nil,fun n hn=>by cases hn⟩
theorem MI.snoc {l:List Node} {st:List Int} (h:MI l st) {k:Nat} (hk:k≤st.length) {n:Node} (hn:MN n) (hd:n.Kids=st.drop (st.length - k)):MI (l++[n]) (st.take (st.length - k)++[(l.length:Int)]) :=
 ⟨h.stk.made hk hn.ok hd,fun m hm=>by
  rcases List.mem_append.1 hm with hm | hm
  ·exact h.each m hm
  rw[List.mem_singleton.1 hm];exact hn⟩
theorem MI.tree {l:List Node} {st:List Int} (h:MI l st) (h1:st.length=1) (h80:l.length≤80):TR l∧(exS l).length≤6000∧∀ n ∈ l,NP n:=by
 have ht:zaY l=true:=h.stk.tree (by rw[List.length_reverse];exact h1)
 refine⟨⟨ht,fun n hn=>(h.each n hn).ns,h80⟩,?_,fun n hn=>(h.each n hn).np⟩
 have:=zuz 60 ht fun n hn hok o=>by
  have m:=h.each n hn
  have h1:=zw2 (l:=l) (o:=o) hok
  have:=m.text
  have:=m.parts
  have:=m.num
  have:=m.kids
  omega
 omega
theorem zgs {n:Nat} (h:n < 100):(Lib.itoa (n:Int)).length≤2:=by
 have hi:Lib.itoa (n:Int)=Lib.decDigits n:=by simp[Lib.itoa]
 rw[hi,Lib.decDigits]
 split
 ·simp
 rw[Lib.decDigits_one (by omega)]
 simp
theorem znO:I64 0:=⟨by omega,by omega⟩
theorem zcj {k:Int} {ks:List Int} (h6:6≤k) (h23:k≤23) (hd:kdS k=(ks.length:Nat)∨k=6) (h3:ks.length≤3):MN (Node.mk k 0 [] [] ks):=by
 have hp:plS (Node.mk k 0 [] [] ks)=true:=by
  rw[plS,if_neg (by simp only;omega),if_neg (by simp only;omega),if_neg (by simp only;omega),if_neg (by simp only;omega),if_neg (by simp only;omega)]
  simp
 refine⟨?_,⟨znO,by simp,⟨by simp,fun p hp=>by cases hp⟩,by simp only;omega⟩,by simp,by simp[qtS],zgs (n:=0) (by decide),h3,zfJ,fun p hp=>by cases hp⟩
 simp only[zp,hp,Bool.and_true,Bool.or_eq_true,decide_eq_true_eq]
 rcases hd with hd | rfl
 ·exact .inl hd
 exact .inr (by decide)
theorem zun {z:Int} (h0:0≤z) (h1:z < 30):MN (Node.mk 1 z [] [] []):=by
 obtain⟨n,rfl⟩:∃ n:Nat,z=n:=⟨z.toNat,by omega⟩
 have hp:plS (Node.mk 1 (n:Int) [] [] [])=true:=by
  rw[plS,if_pos rfl]
  simp
 refine⟨?_,⟨⟨by simp only;omega,by simp only;omega⟩,by simp,⟨by simp,fun p hp=>by cases hp⟩,by simp⟩,by simp,by simp[qtS],zgs (by omega),by simp,zfJ,fun p hp=>by cases hp⟩
 simp only[zp,hp,Bool.and_true,Bool.or_eq_true,decide_eq_true_eq]
 exact .inl (by decide)
theorem zrP {z:Int} (h:z=0∨z=1):MN (Node.mk 3 z [] [] []):=by
 rcases h with rfl | rfl
 ·refine⟨by kernel_rfl,⟨znO,by simp,⟨by simp,fun p hp=>by cases hp⟩,by simp⟩,by simp,by simp[qtS],zgs (n:=0) (by decide),by simp,zfJ,fun p hp=>by cases hp⟩
 refine⟨by kernel_rfl,⟨⟨by simp only;omega,by simp only;omega⟩,by simp,⟨by simp,fun p hp=>by cases hp⟩,by simp⟩,by simp,by simp[qtS],zgs (n:=1) (by decide),by simp,zfJ,fun p hp=>by cases hp⟩
def za8:List (List UInt8):=[[118,97,114,46,120],[108,111,99,97,108,46,121],[99,111,117,110,116,46,105,110,100,101,120],[118,97,114,46,108]]
theorem zul {s:List UInt8} (h:s ∈ za8):MN (Node.mk 4 0 s [] []):=by
 have hp:zp (Node.mk 4 0 s [] [])=true∧s.length≤11∧noB s:=by
  simp only[za8,List.mem_cons,List.not_mem_nil,or_false] at h
  rcases h with rfl | rfl | rfl | rfl <;> exact⟨by kernel_rfl,by simp,by constructor <;> decide⟩
 exact⟨hp.1,⟨znO,by have:=hp.2.1;simp only;omega,⟨by simp,fun p hp=>by cases hp⟩,by simp⟩,hp.2.1,by simp[qtS],zgs (n:=0) (by decide),by simp,hp.2.2,fun p hp=>by cases hp⟩
def zaO:List (List Part):=[[],[(Part.mk false [97,34,36,10])],[(Part.mk true [118,97,114,46,120])],[(Part.mk false [98]),(Part.mk true [108,111,99,97,108,46,121]),(Part.mk false [92])]]
theorem ztZ {ps:List Part} (h:ps ∈ zaO):MN (Node.mk 2 0 [] ps []):=by
 simp only[zaO,List.mem_cons,List.not_mem_nil,or_false] at h
 rcases h with rfl | rfl | rfl | rfl
 all_goals refine⟨by kernel_rfl,⟨znO,by simp,⟨by decide,by decide⟩,by simp⟩,by simp,by decide,zgs (n:=0) (by decide),by simp,zfJ,fun p hp=>?_⟩
 all_goals simp only[List.mem_cons,List.not_mem_nil,or_false] at hp
 all_goals first
  | (subst hp;exact⟨by decide,by decide⟩)
  | (rcases hp with rfl | rfl | rfl <;> exact⟨by decide,by decide⟩)
def zaM:List (List UInt8):=[[109,105,110],[109,97,120],[115,117,109],[108,101,110],[99,111,110,99,97,116],[114,97,110,103,101],[116,101,120,116],[104,97,115]]
theorem ztq {s:List UInt8} (h:s ∈ zaM) {ks:List Int} (h3:ks.length≤3):MN (Node.mk 5 0 s [] ks):=by
 have hp:zN s=true∧zaT s=false∧s.length≤6∧noB s:=by
  simp only[zaM,List.mem_cons,List.not_mem_nil,or_false] at h
  rcases h with rfl | rfl | rfl | rfl | rfl | rfl | rfl | rfl <;> exact⟨by kernel_rfl,by kernel_rfl,by simp,by constructor <;> decide⟩
 obtain⟨h1,h2,h4,h5⟩:=hp
 have hpl:plS (Node.mk 5 0 s [] ks)=true:=by
  rw[plS,if_neg (by simp),if_neg (by simp),if_neg (by simp),if_pos rfl]
  simp[h1,h2]
 refine⟨?_,⟨znO,by simp only;omega,⟨by simp,fun p hp=>by cases hp⟩,by simp only;omega⟩,by simp only;omega,by simp[qtS],zgs (n:=0) (by decide),h3,h5,fun p hp=>by cases hp⟩
 simp only[zp,hpl,Bool.and_true,Bool.or_eq_true,decide_eq_true_eq]
 exact .inr (by decide)
end Go.Proofs.YtfbcnpbhhooapaaGreatDoor.M
namespace Go.Proofs.YtfbcnpbhhooapaaGreatDoor.M
open Go
def c_Q22_1:SC:=.seq (.reg [mO 202 3,mO 2 202]) .ret
def c_Q22_2:SC:=.reg [mO 189 4,mO 190 4,vO 191 (.len false (.t 190)),vO 192 (.bin .sub (.t 191) (cI 2)),mO 193 4,vO 194 (.len false (.t 193)),vO 195 (.bin .sub (.t 194) (cI 2)),vO 196 (.slc 1 (.t 189) none (some (.t 192)) (some (.t 195))),mO 197 3,vO 198 (.len false (.t 197)),vO 199 (.bin .sub (.t 198) (cI 1)),⟨some 200,none,.bslice 1 1 [(.int .i64 0)] [(0,(.t 199))]⟩,⟨some 201,none,.append 1 8 (.t 196) (.t 200)⟩,mO 4 201]
def c_Q22_3:SC:=.block 4 (.seq (.dreg [mO 172 3,mO 173 4,mO 174 4,vO 175 (.len false (.t 174)),vO 176 (.bin .sub (.t 175) (cI 2)),vO 177 (.iaddr 1 (.t 173) (.t 176)),vO 178 (.load none (.t 177)),mO 179 4,mO 180 4,vO 181 (.len false (.t 180)),vO 182 (.bin .sub (.t 181) (cI 1)),vO 183 (.iaddr 1 (.t 179) (.t 182)),vO 184 (.load none (.t 183)),⟨some 185,none,.bslice 1 2 [(.int .i64 0)] [(0,(.t 178)),(1,(.t 184))]⟩,vO 186 (.build [(.int .i64 0),(.int .i64 0),(.str []),(.nils 2),(.nils 1)] [(0,1,(cI 19)),(4,1,(.t 185))]),⟨some 187,none,.bslice 5 1 [(.int .i64 0),(.int .i64 0),(.str []),(.nils 2),(.nils 1)] [(0,(.t 186))]⟩,⟨some 188,none,.append 5 80 (.t 172) (.t 187)⟩,mO 3 188] [false,false,false,false,false,false,false,false,false,false,false,false,false,true,true,true,true,true]) c_Q22_2)
def b_Q22_1:SC:=.seq (.seq (.reg [mO 169 4,vO 170 (.len false (.t 169)),vO 171 (.bin .gtr (.t 170) (cI 1))]) (.cond (.t 171) .skip (.exit 3))) c_Q22_3
def c_Q22_4:SC:=.seq (.block 3 (.loop b_Q22_1)) c_Q22_1
def c_Q22_5:SC:=.reg [mO 18 5,vO 19 (.bin .add (.t 18) (cI 1)),mO 5 19]
def c_Q22_6:SC:=.seq (.reg [mO 151 4,mO 152 4,vO 153 (.len false (.t 152)),mO 154 8,vO 155 (.bin .sub (.t 153) (.t 154)),mO 156 4,vO 157 (.len false (.t 156)),mO 158 8,vO 159 (.bin .sub (.t 157) (.t 158)),vO 160 (.slc 1 (.t 151) none (some (.t 155)) (some (.t 159))),mO 161 3,vO 162 (.len false (.t 161)),⟨some 163,none,.bslice 1 1 [(.int .i64 0)] [(0,(.t 162))]⟩,⟨some 164,none,.append 1 8 (.t 160) (.t 163)⟩,mO 4 164]) (.reg [mO 165 3,vO 166 (.load (some 5) (.t 7)),⟨some 167,none,.bslice 5 1 [(.int .i64 0),(.int .i64 0),(.str []),(.nils 2),(.nils 1)] [(0,(.t 166))]⟩,⟨some 168,none,.append 5 80 (.t 165) (.t 167)⟩,mO 3 168])
def c_Q22_7:SC:=.seq (.reg [⟨some 142,none,.bslice 1 0 [(.int .i64 0)] []⟩,mO 143 4,mO 144 4,vO 145 (.len false (.t 144)),mO 146 8,vO 147 (.bin .sub (.t 145) (.t 146)),vO 148 (.slc 1 (.t 143) (some (.t 147)) none none),⟨some 149,none,.append 1 8 (.t 142) (.t 148)⟩,vO 150 (.faddr 4 (.t 7)),⟨none,none,.store 1 (.t 150) (.t 149)⟩]) c_Q22_6
def c_Q22_8:SC:=.cond (.t 123) (.reg [mO 127 6,vO 128 (.bin .quo (.t 127) (cI 11)),vO 129 (.bin .rem (.t 128) (cI 2)),vO 130 (.build [(.int .i64 0),(.int .i64 0),(.str []),(.nils 2),(.nils 1)] [(0,1,(cI 3)),(1,1,(.t 129))]),⟨none,none,.store 5 (.t 7) (.t 130)⟩]) (.seq (.reg [mO 132 6,vO 133 (.bin .rem (.t 132) (cI 11)),vO 134 (.bin .eql (.t 133) (cI 8)),mO 131 134]) (.cond (.t 131) (.reg [⟨some 135,none,.bslice 1 4 [(.str [])] [(0,(.c (.str [118,97,114,46,120]))),(1,(.c (.str [108,111,99,97,108,46,121]))),(2,(.c (.str [99,111,117,110,116,46,105,110,100,101,120]))),(3,(.c (.str [118,97,114,46,108])))]⟩,mO 136 6,vO 137 (.bin .quo (.t 136) (cI 11)),vO 138 (.bin .rem (.t 137) (cI 4)),vO 139 (.iaddr 1 (.t 135) (.t 138)),vO 140 (.load none (.t 139)),vO 141 (.build [(.int .i64 0),(.int .i64 0),(.str []),(.nils 2),(.nils 1)] [(0,1,(cI 4)),(2,1,(.t 140))]),⟨none,none,.store 5 (.t 7) (.t 141)⟩]) .skip))
def c_Q22_9:SC:=.cond (.t 104) (.reg [vO 108 (.build [(.bool false),(.str [])] [(1,1,(.c (.str [97,34,36,10])))]),⟨some 109,none,.bslice 2 1 [(.bool false),(.str [])] [(0,(.t 108))]⟩,vO 110 (.build [(.bool false),(.str [])] [(0,1,(.c (.bool true))),(1,1,(.c (.str [118,97,114,46,120])))]),⟨some 111,none,.bslice 2 1 [(.bool false),(.str [])] [(0,(.t 110))]⟩,vO 112 (.build [(.bool false),(.str [])] [(1,1,(.c (.str [98])))]),vO 113 (.build [(.bool false),(.str [])] [(0,1,(.c (.bool true))),(1,1,(.c (.str [108,111,99,97,108,46,121])))]),vO 114 (.build [(.bool false),(.str [])] [(1,1,(.c (.str [92])))]),⟨some 115,none,.bslice 2 3 [(.bool false),(.str [])] [(0,(.t 112)),(1,(.t 113)),(2,(.t 114))]⟩,⟨some 116,none,.bslice 1 4 [(.nils 2)] [(0,(.c (.nils 2))),(1,(.t 109)),(2,(.t 111)),(3,(.t 115))]⟩,mO 117 6,vO 118 (.bin .quo (.t 117) (cI 11)),vO 119 (.bin .rem (.t 118) (cI 4)),vO 120 (.iaddr 1 (.t 116) (.t 119)),vO 121 (.load none (.t 120)),vO 122 (.build [(.int .i64 0),(.int .i64 0),(.str []),(.nils 2),(.nils 1)] [(0,1,(cI 2)),(3,1,(.t 121))]),⟨none,none,.store 5 (.t 7) (.t 122)⟩]) (.seq (.reg [mO 124 6,vO 125 (.bin .rem (.t 124) (cI 11)),vO 126 (.bin .eql (.t 125) (cI 7)),mO 123 126]) c_Q22_8)
def c_Q22_10:SC:=.cond (.t 87) (.seq (.reg [⟨some 91,none,.bslice 1 8 [(.str [])] [(0,(.c (.str [109,105,110]))),(1,(.c (.str [109,97,120]))),(2,(.c (.str [115,117,109]))),(3,(.c (.str [108,101,110]))),(4,(.c (.str [99,111,110,99,97,116]))),(5,(.c (.str [114,97,110,103,101]))),(6,(.c (.str [116,101,120,116]))),(7,(.c (.str [104,97,115])))]⟩,mO 92 6,vO 93 (.bin .quo (.t 92) (cI 11)),vO 94 (.bin .rem (.t 93) (cI 8)),vO 95 (.iaddr 1 (.t 91) (.t 94)),vO 96 (.load none (.t 95)),vO 97 (.build [(.int .i64 0),(.int .i64 0),(.str []),(.nils 2),(.nils 1)] [(0,1,(cI 5)),(2,1,(.t 96))]),⟨none,none,.store 5 (.t 7) (.t 97)⟩]) (.reg [mO 98 4,vO 99 (.len false (.t 98)),mO 100 6,vO 101 (.bin .quo (.t 100) (cI 88)),vO 102 (.bin .add (cI 1) (.t 101)),vO 103 (.mm false (.t 99) (.t 102)),mO 8 103])) (.seq (.reg [mO 105 6,vO 106 (.bin .rem (.t 105) (cI 11)),vO 107 (.bin .eql (.t 106) (cI 6)),mO 104 107]) c_Q22_9)
def c_Q22_11:SC:=.cond (.t 76) (.seq (.reg [vO 80 (.build [(.int .i64 0),(.int .i64 0),(.str []),(.nils 2),(.nils 1)] [(0,1,(cI 6))]),⟨none,none,.store 5 (.t 7) (.t 80)⟩]) (.reg [mO 81 4,vO 82 (.len false (.t 81)),mO 83 6,vO 84 (.bin .quo (.t 83) (cI 11)),vO 85 (.bin .rem (.t 84) (cI 4)),vO 86 (.mm false (.t 82) (.t 85)),mO 8 86])) (.seq (.reg [mO 88 6,vO 89 (.bin .rem (.t 88) (cI 11)),vO 90 (.bin .eql (.t 89) (cI 5)),mO 87 90]) c_Q22_10)
def c_Q22_12:SC:=.cond (.t 66) (.seq (.reg [vO 75 (.build [(.int .i64 0),(.int .i64 0),(.str []),(.nils 2),(.nils 1)] [(0,1,(cI 7))]),⟨none,none,.store 5 (.t 7) (.t 75)⟩]) (.reg [vO 8 (.mov (cI 2))])) (.seq (.reg [mO 77 6,vO 78 (.bin .rem (.t 77) (cI 11)),vO 79 (.bin .eql (.t 78) (cI 4)),mO 76 79]) c_Q22_11)
def c_Q22_13:SC:=.cond (.t 56) (.seq (.reg [vO 65 (.build [(.int .i64 0),(.int .i64 0),(.str []),(.nils 2),(.nils 1)] [(0,1,(cI 10))]),⟨none,none,.store 5 (.t 7) (.t 65)⟩]) (.reg [vO 8 (.mov (cI 3))])) (.seq (.reg [mO 67 6,vO 68 (.bin .rem (.t 67) (cI 11)),vO 69 (.bin .eql (.t 68) (cI 3)),mO 70 69,gO 71 70 true (.mov (.t 4)),gO 72 70 true (.len false (.t 71)),gO 73 70 true (.bin .geq (.t 72) (cI 2)),vO 74 (.pick (.t 70) (.t 73) (.c (.bool false))),mO 66 74]) c_Q22_12)
def c_Q22_14:SC:=.cond (.t 42) (.seq (.reg [mO 51 6,vO 52 (.bin .quo (.t 51) (cI 11)),vO 53 (.bin .rem (.t 52) (cI 2)),vO 54 (.bin .add (cI 8) (.t 53)),vO 55 (.build [(.int .i64 0),(.int .i64 0),(.str []),(.nils 2),(.nils 1)] [(0,1,(.t 54))]),⟨none,none,.store 5 (.t 7) (.t 55)⟩]) (.reg [vO 8 (.mov (cI 1))])) (.seq (.reg [mO 57 6,vO 58 (.bin .rem (.t 57) (cI 11)),vO 59 (.bin .eql (.t 58) (cI 2)),mO 60 59,gO 61 60 true (.mov (.t 4)),gO 62 60 true (.len false (.t 61)),gO 63 60 true (.bin .geq (.t 62) (cI 3)),vO 64 (.pick (.t 60) (.t 63) (.c (.bool false))),mO 56 64]) c_Q22_13)
def c_Q22_15:SC:=.cond (.t 28) (.seq (.reg [mO 37 6,vO 38 (.bin .quo (.t 37) (cI 3)),vO 39 (.bin .rem (.t 38) (cI 13)),vO 40 (.bin .add (cI 11) (.t 39)),vO 41 (.build [(.int .i64 0),(.int .i64 0),(.str []),(.nils 2),(.nils 1)] [(0,1,(.t 40))]),⟨none,none,.store 5 (.t 7) (.t 41)⟩]) (.reg [vO 8 (.mov (cI 2))])) (.seq (.reg [mO 43 6,vO 44 (.bin .rem (.t 43) (cI 11)),vO 45 (.bin .eql (.t 44) (cI 1)),mO 46 45,gO 47 46 true (.mov (.t 4)),gO 48 46 true (.len false (.t 47)),gO 49 46 true (.bin .geq (.t 48) (cI 1)),vO 50 (.pick (.t 46) (.t 49) (.c (.bool false))),mO 42 50]) c_Q22_14)
def c_Q22_16:SC:=.seq (.block 2 (.seq (.reg [mO 29 6,vO 30 (.bin .rem (.t 29) (cI 3)),vO 31 (.bin .eql (.t 30) (cI 0)),mO 32 31,gO 33 32 true (.mov (.t 4)),gO 34 32 true (.len false (.t 33)),gO 35 32 true (.bin .geq (.t 34) (cI 2)),vO 36 (.pick (.t 32) (.t 35) (.c (.bool false))),mO 28 36]) c_Q22_15)) c_Q22_7
def c_Q22_17:SC:=.seq (.reg [vO 8 (.mov (cI 0))]) c_Q22_16
def c_Q22_18:SC:=.seq (.reg [mO 25 6,vO 26 (.bin .rem (.t 25) (cI 30)),vO 27 (.build [(.int .i64 0),(.int .i64 0),(.str []),(.nils 2),(.nils 1)] [(0,1,(cI 1)),(1,1,(.t 26))]),⟨some 7,none,.alloc [(.int .i64 0),(.int .i64 0),(.str []),(.nils 2),(.nils 1)]⟩,⟨none,none,.store 5 (.t 7) (.t 27)⟩]) c_Q22_17
def c_Q22_19:SC:=.seq (.block 1 (.seq (.reg [mO 20 0,mO 21 5,vO 22 (.iaddr 1 (.t 20) (.t 21)),vO 23 (.load none (.t 22)),vO 24 (.conv (.int .i64) (.t 23)),mO 6 24]) c_Q22_18)) c_Q22_5
def b_Q22_2:SC:=.seq (.seq (.reg [mO 9 5,mO 10 0,vO 11 (.len false (.t 10)),vO 12 (.bin .lss (.t 9) (.t 11)),mO 13 12,gO 14 13 true (.mov (.t 3)),gO 15 13 true (.len false (.t 14)),gO 16 13 true (.bin .lss (.t 15) (cI 40)),vO 17 (.pick (.t 13) (.t 16) (.c (.bool false)))]) (.cond (.t 17) .skip (.exit 0))) c_Q22_19
def c_Q22_20:SC:=.block 0 (.loop b_Q22_2)
def c_Q22_21:SC:=.seq (.seq (.reg [vO 5 (.mov (cI 0))]) c_Q22_20) c_Q22_4
def c_Q22_22:SC:=.seq (.reg [⟨some 4,none,.nilv 1⟩]) c_Q22_21
def c_Q22_23:SC:=.seq (.reg [⟨some 3,none,.nilv 5⟩]) c_Q22_22
def sc_Q22:zf:=⟨1,203,.seq (.reg [⟨some 2,none,.nilv 5⟩]) c_Q22_23,[(.t 2)]⟩
noncomputable def zex (SP:Prg) (x:EO):CO:=fin [(.t 2)] (thC SP (zw 3 (x)) c_Q22_1)
noncomputable def zhT (SP:Prg) (x:EO):CO:=fin [(.t 2)] (thC SP (zw 0 (x)) c_Q22_4)
theorem zhN:type_of% (aI (ue c_Q22_1.eq_1)<|aI (ue c_Q22_2.eq_1)<|aI (ue c_Q22_3.eq_1)<|aI (ue b_Q22_1.eq_1)<|aI (ue c_Q22_4.eq_1)<|aI (ue c_Q22_5.eq_1)<|aI (ue c_Q22_6.eq_1)<|aI (ue c_Q22_7.eq_1)<|aI (ue c_Q22_8.eq_1)<|aI (ue c_Q22_9.eq_1)<|aI (ue c_Q22_10.eq_1)<|aI (ue c_Q22_11.eq_1)<|aI (ue c_Q22_12.eq_1)<|aI (ue c_Q22_13.eq_1)<|aI (ue c_Q22_14.eq_1)<|aI (ue c_Q22_15.eq_1)<|aI (ue c_Q22_16.eq_1)<|aI (ue c_Q22_17.eq_1)<|aI (ue c_Q22_18.eq_1)<|aI (ue c_Q22_19.eq_1)<|aI (ue b_Q22_2.eq_1)<|aI (ue c_Q22_20.eq_1)<|aI (ue c_Q22_21.eq_1)<|aI (ue c_Q22_22.eq_1)<|aI (ue c_Q22_23.eq_1)<|sc_Q22.eq_1):=aI (ue c_Q22_1.eq_1)<|aI (ue c_Q22_2.eq_1)<|aI (ue c_Q22_3.eq_1)<|aI (ue b_Q22_1.eq_1)<|aI (ue c_Q22_4.eq_1)<|aI (ue c_Q22_5.eq_1)<|aI (ue c_Q22_6.eq_1)<|aI (ue c_Q22_7.eq_1)<|aI (ue c_Q22_8.eq_1)<|aI (ue c_Q22_9.eq_1)<|aI (ue c_Q22_10.eq_1)<|aI (ue c_Q22_11.eq_1)<|aI (ue c_Q22_12.eq_1)<|aI (ue c_Q22_13.eq_1)<|aI (ue c_Q22_14.eq_1)<|aI (ue c_Q22_15.eq_1)<|aI (ue c_Q22_16.eq_1)<|aI (ue c_Q22_17.eq_1)<|aI (ue c_Q22_18.eq_1)<|aI (ue c_Q22_19.eq_1)<|aI (ue b_Q22_2.eq_1)<|aI (ue c_Q22_20.eq_1)<|aI (ue c_Q22_21.eq_1)<|aI (ue c_Q22_22.eq_1)<|aI (ue c_Q22_23.eq_1)<|sc_Q22.eq_1
theorem comp_Q22:comp Tryz.prog Tryz.f22=some sc_Q22:=by kernel_rfl
def c_Q6_1:SC:=.seq (.reg [mO 28 3,vO 29 (.len false (.t 28)),vO 30 (.bin .eql (.t 29) (cI 0)),mO 31 30,gO 32 31 false (.mov (.t 6)),⟨some 33,some (31,false),.call (.c (.func 18 [])) [(.t 32)]⟩,gO 34 31 false (.bin .eql (.t 33) (cI 0)),gO 35 31 false (.mov (.t 34)),gO 36 35 true (.mov (.t 3)),gO 37 35 true (.mov (.t 5)),⟨some 38,some (35,true),.call (.c (.func 21 [])) [(.t 36),(.t 37)]⟩,gO 39 31 false (.pick (.t 35) (.t 38) (.c (.bool false))),vO 40 (.pick (.t 31) (.c (.bool true)) (.t 39)),mO 41 40,gO 42 41 false (.mov (.t 6)),⟨some 43,some (41,false),.call (.c (.func 18 [])) [(.t 42)]⟩,gO 44 41 false (.bin .eql (.t 43) (cI 6)),vO 45 (.pick (.t 41) (.c (.bool true)) (.t 44)),mO 46 45,⟨some 47,some (46,true),.call (.c (.func 25 [])) []⟩,vO 48 (.pick (.t 46) (.t 47) (.c (.bool false))),mO 2 48]) .ret
def c_Q6_2:SC:=.seq (.reg [mO 24 4,kO 25 20 [(.t 24)],mO 23 25,vO 26 (.extract 0 (.t 23)),vO 27 (.extract 1 (.t 23)),mO 5 26,mO 6 27]) c_Q6_1
def c_Q6_3:SC:=.seq (.seq (.reg [mO 11 4,mO 12 3,kO 13 24 [(.t 12)],vO 14 (.bin .neq (.t 11) (.t 13)),mO 15 14,gO 16 15 false (.mov (.t 4)),gO 17 15 false (.bin .eql (.t 16) (.c (.str []))),gO 18 15 false (.mov (.t 3)),gO 19 15 false (.len false (.t 18)),gO 20 15 false (.bin .eql (.t 19) (cI 0)),gO 21 15 false (.binb true (.t 17) (.t 20)),vO 22 (.pick (.t 15) (.c (.bool true)) (.t 21))]) (.cond (.t 22) (.seq (.reg [vO 2 (.mov (.c (.bool false)))]) .ret) .skip)) c_Q6_2
def c_Q6_4:SC:=.seq (.reg [mO 9 3,kO 10 23 [(.t 9)],mO 4 10]) c_Q6_3
def c_Q6_5:SC:=.seq (.reg [mO 7 0,kO 8 22 [(.t 7)],mO 3 8]) c_Q6_4
def sc_Q6:zf:=⟨1,49,.seq (.reg [vO 2 (.mov (.c (.bool false)))]) c_Q6_5,[(.t 2)]⟩
theorem U_Q6:type_of% (aI (ue c_Q6_1.eq_1)<|aI (ue c_Q6_2.eq_1)<|aI (ue c_Q6_3.eq_1)<|aI (ue c_Q6_4.eq_1)<|aI (ue c_Q6_5.eq_1)<|sc_Q6.eq_1):=aI (ue c_Q6_1.eq_1)<|aI (ue c_Q6_2.eq_1)<|aI (ue c_Q6_3.eq_1)<|aI (ue c_Q6_4.eq_1)<|aI (ue c_Q6_5.eq_1)<|sc_Q6.eq_1
theorem comp_Q6:comp Tryz.prog Tryz.f6=some sc_Q6:=by kernel_rfl
end Go.Proofs.YtfbcnpbhhooapaaGreatDoor.M
namespace Go.Proofs.YtfbcnpbhhooapaaGreatDoor.M
open Go Classical
theorem zxS:SP 22=some (.code sc_Q22):=zb rfl Tryz.func22 comp_Q22
def ziO (ns:List UInt8) (i1:Int) (l2:List Node) (l3:List Int) (r:List Node):Prop:=∀ (S:Sto) (e:Nat→PV) (f:Fr),e 0=.list 1 (ns.map eB) false∧e 3=.sl 0 (.slot 3) 0 l2.length l2.length 0 false∧e 4=.sl 0 (.slot 4) 0 l3.length l3.length 0 false∧e 5=.int .i64 i1∧f.arr (.slot 3)=some ⟨5,l2.map eNode,false,0⟩∧f.arr (.slot 4)=some ⟨1,l3.map eI,false,0⟩→zhT SP (E SP (.loop b_Q22_2) ⟨e,f::S⟩)=.ok (.arr 5 (r.map eNode) false) S
def ze (ns:List UInt8) (i5:Int) (l6:List Node) (l7:List Int) (r:List Node):Prop:=∀ (S:Sto) (e:Nat→PV) (f:Fr),e 0=.list 1 (ns.map eB) false∧e 3=.sl 0 (.slot 3) 0 l6.length l6.length 0 false∧e 4=.sl 0 (.slot 164) 0 l7.length l7.length 0 false∧e 5=.int .i64 i5∧f.arr (.slot 3)=some ⟨5,l6.map eNode,false,0⟩∧f.arr (.slot 164)=some ⟨1,l7.map eI,true,0⟩→zhT SP (E SP (.loop b_Q22_2) ⟨e,f::S⟩)=.ok (.arr 5 (r.map eNode) false) S
def ziL (l14:List Node) (l15:List Int) (r:List Node):Prop:=∀ (S:Sto) (e:Nat→PV) (f:Fr),e 3=.sl 0 (.slot 3) 0 l14.length l14.length 0 false∧e 4=.sl 0 (.slot 4) 0 l15.length l15.length 0 false∧f.arr (.slot 3)=some ⟨5,l14.map eNode,false,0⟩∧f.arr (.slot 4)=some ⟨1,l15.map eI,false,0⟩→zex SP (E SP (.loop b_Q22_1) ⟨e,f::S⟩)=.ok (.arr 5 (r.map eNode) false) S
def ze5 (l23:List Node) (l24:List Int) (r:List Node):Prop:=∀ (S:Sto) (e:Nat→PV) (f:Fr),e 3=.sl 0 (.slot 3) 0 l23.length l23.length 0 false∧e 4=.sl 0 (.slot 164) 0 l24.length l24.length 0 false∧f.arr (.slot 3)=some ⟨5,l23.map eNode,false,0⟩∧f.arr (.slot 164)=some ⟨1,l24.map eI,true,0⟩→zex SP (E SP (.loop b_Q22_1) ⟨e,f::S⟩)=.ok (.arr 5 (r.map eNode) false) S
def zd1 (l27:List Node) (l28:List Int) (r:List Node):Prop:=∀ (S:Sto) (e:Nat→PV) (f:Fr),e 3=.sl 0 (.slot 3) 0 l27.length l27.length 0 false∧e 4=.sl 0 (.slot 201) 0 l28.length l28.length 0 false∧f.arr (.slot 3)=some ⟨5,l27.map eNode,false,0⟩∧f.arr (.slot 201)=some ⟨1,l28.map eI,true,0⟩→zex SP (E SP (.loop b_Q22_1) ⟨e,f::S⟩)=.ok (.arr 5 (r.map eNode) false) S
theorem zl (ns:List UInt8) (i1:Int) (l2:List Node) (l3:List Int) (r:List Node) (T :
  ((i1 < (ns.length:Int)) →
  (((l2.length:Int) < 40) →
   (0≤i1) ∧
   ∃ (v4:UInt8),(ns[i1.toNat]?=some v4) ∧
   (I64 ((v4.toNat:Int))) ∧
   ((((v4.toNat:Int).tmod 3)=0) →
    ((2≤(l3.length:Int)) →
     (I64 ((v4.toNat:Int).tdiv 3)) ∧
     (I64 (11+(((v4.toNat:Int).tdiv 3).tmod 13))) ∧
     (I64 ((l3.length:Int) - 2)) ∧
     (0≤((l3.length:Int) - 2))∧(((l3.length:Int) - 2).toNat≤l3.length) ∧
     (bigRow (((l3.drop (((l3.length:Int) - 2).toNat)).take (l3.length - (((l3.length:Int) - 2).toNat))).length) 8) ∧
     (I64 ((l3.length:Int) - 2)) ∧
     (I64 ((l3.length:Int) - 2)) ∧
     (0≤((l3.length:Int) - 2))∧(((l3.length:Int) - 2).toNat≤l3.length) ∧
     (bigRow (((l3.length:Int) - 2).toNat+1) 8) ∧
     (bigRow (l2.length+1) 80) ∧
     (I64 (i1+1)) ∧
     ze ns (i1+1) (l2++[(Node.mk (11+(((v4.toNat:Int).tdiv 3).tmod 13)) 0 [] [] ((l3.drop (((l3.length:Int) - 2).toNat)).take (l3.length - (((l3.length:Int) - 2).toNat))))]) ((l3.take (((l3.length:Int) - 2).toNat))++[(l2.length:Int)]) r) ∧
    (¬ (2≤(l3.length:Int)) →
     ((((v4.toNat:Int).tmod 11)=1) →
      ((1≤(l3.length:Int)) →
       (I64 ((v4.toNat:Int).tdiv 11)) ∧
       (I64 (8+(((v4.toNat:Int).tdiv 11).tmod 2))) ∧
       (I64 ((l3.length:Int) - 1)) ∧
       (0≤((l3.length:Int) - 1))∧(((l3.length:Int) - 1).toNat≤l3.length) ∧
       (bigRow (((l3.drop (((l3.length:Int) - 1).toNat)).take (l3.length - (((l3.length:Int) - 1).toNat))).length) 8) ∧
       (I64 ((l3.length:Int) - 1)) ∧
       (I64 ((l3.length:Int) - 1)) ∧
       (0≤((l3.length:Int) - 1))∧(((l3.length:Int) - 1).toNat≤l3.length) ∧
       (bigRow (((l3.length:Int) - 1).toNat+1) 8) ∧
       (bigRow (l2.length+1) 80) ∧
       (I64 (i1+1)) ∧
       ze ns (i1+1) (l2++[(Node.mk (8+(((v4.toNat:Int).tdiv 11).tmod 2)) 0 [] [] ((l3.drop (((l3.length:Int) - 1).toNat)).take (l3.length - (((l3.length:Int) - 1).toNat))))]) ((l3.take (((l3.length:Int) - 1).toNat))++[(l2.length:Int)]) r) ∧
      (¬ (1≤(l3.length:Int)) →
       (I64 ((l3.length:Int) - 0)) ∧
       (0≤((l3.length:Int) - 0))∧(((l3.length:Int) - 0).toNat≤l3.length) ∧
       (bigRow (((l3.drop (((l3.length:Int) - 0).toNat)).take (l3.length - (((l3.length:Int) - 0).toNat))).length) 8) ∧
       (I64 ((l3.length:Int) - 0)) ∧
       (I64 ((l3.length:Int) - 0)) ∧
       (0≤((l3.length:Int) - 0))∧(((l3.length:Int) - 0).toNat≤l3.length) ∧
       (bigRow (((l3.length:Int) - 0).toNat+1) 8) ∧
       (bigRow (l2.length+1) 80) ∧
       (I64 (i1+1)) ∧
       ze ns (i1+1) (l2++[(Node.mk 1 ((v4.toNat:Int).tmod 30) [] [] ((l3.drop (((l3.length:Int) - 0).toNat)).take (l3.length - (((l3.length:Int) - 0).toNat))))]) ((l3.take (((l3.length:Int) - 0).toNat))++[(l2.length:Int)]) r)) ∧
     (¬ (((v4.toNat:Int).tmod 11)=1) →
      ((((v4.toNat:Int).tmod 11)=2) →
       ((3≤(l3.length:Int)) →
        (I64 ((l3.length:Int) - 3)) ∧
        (0≤((l3.length:Int) - 3))∧(((l3.length:Int) - 3).toNat≤l3.length) ∧
        (bigRow (((l3.drop (((l3.length:Int) - 3).toNat)).take (l3.length - (((l3.length:Int) - 3).toNat))).length) 8) ∧
        (I64 ((l3.length:Int) - 3)) ∧
        (I64 ((l3.length:Int) - 3)) ∧
        (0≤((l3.length:Int) - 3))∧(((l3.length:Int) - 3).toNat≤l3.length) ∧
        (bigRow (((l3.length:Int) - 3).toNat+1) 8) ∧
        (bigRow (l2.length+1) 80) ∧
        (I64 (i1+1)) ∧
        ze ns (i1+1) (l2++[(Node.mk 10 0 [] [] ((l3.drop (((l3.length:Int) - 3).toNat)).take (l3.length - (((l3.length:Int) - 3).toNat))))]) ((l3.take (((l3.length:Int) - 3).toNat))++[(l2.length:Int)]) r) ∧
       (¬ (3≤(l3.length:Int)) →
        (I64 ((l3.length:Int) - 0)) ∧
        (0≤((l3.length:Int) - 0))∧(((l3.length:Int) - 0).toNat≤l3.length) ∧
        (bigRow (((l3.drop (((l3.length:Int) - 0).toNat)).take (l3.length - (((l3.length:Int) - 0).toNat))).length) 8) ∧
        (I64 ((l3.length:Int) - 0)) ∧
        (I64 ((l3.length:Int) - 0)) ∧
        (0≤((l3.length:Int) - 0))∧(((l3.length:Int) - 0).toNat≤l3.length) ∧
        (bigRow (((l3.length:Int) - 0).toNat+1) 8) ∧
        (bigRow (l2.length+1) 80) ∧
        (I64 (i1+1)) ∧
        ze ns (i1+1) (l2++[(Node.mk 1 ((v4.toNat:Int).tmod 30) [] [] ((l3.drop (((l3.length:Int) - 0).toNat)).take (l3.length - (((l3.length:Int) - 0).toNat))))]) ((l3.take (((l3.length:Int) - 0).toNat))++[(l2.length:Int)]) r)) ∧
      (¬ (((v4.toNat:Int).tmod 11)=2) →
       ((((v4.toNat:Int).tmod 11)=3) →
        (I64 ((l3.length:Int) - 0)) ∧
        (0≤((l3.length:Int) - 0))∧(((l3.length:Int) - 0).toNat≤l3.length) ∧
        (bigRow (((l3.drop (((l3.length:Int) - 0).toNat)).take (l3.length - (((l3.length:Int) - 0).toNat))).length) 8) ∧
        (I64 ((l3.length:Int) - 0)) ∧
        (I64 ((l3.length:Int) - 0)) ∧
        (0≤((l3.length:Int) - 0))∧(((l3.length:Int) - 0).toNat≤l3.length) ∧
        (bigRow (((l3.length:Int) - 0).toNat+1) 8) ∧
        (bigRow (l2.length+1) 80) ∧
        (I64 (i1+1)) ∧
        ze ns (i1+1) (l2++[(Node.mk 1 ((v4.toNat:Int).tmod 30) [] [] ((l3.drop (((l3.length:Int) - 0).toNat)).take (l3.length - (((l3.length:Int) - 0).toNat))))]) ((l3.take (((l3.length:Int) - 0).toNat))++[(l2.length:Int)]) r) ∧
       (¬ (((v4.toNat:Int).tmod 11)=3) →
        ((((v4.toNat:Int).tmod 11)=4) →
         (I64 ((v4.toNat:Int).tdiv 11)) ∧
         (I64 ((l3.length:Int) - (if (((v4.toNat:Int).tdiv 11).tmod 4) < (l3.length:Int) then (((v4.toNat:Int).tdiv 11).tmod 4) else (l3.length:Int)))) ∧
         (0≤((l3.length:Int) - (if (((v4.toNat:Int).tdiv 11).tmod 4) < (l3.length:Int) then (((v4.toNat:Int).tdiv 11).tmod 4) else (l3.length:Int))))∧(((l3.length:Int) - (if (((v4.toNat:Int).tdiv 11).tmod 4) < (l3.length:Int) then (((v4.toNat:Int).tdiv 11).tmod 4) else (l3.length:Int))).toNat≤l3.length) ∧
         (bigRow (((l3.drop (((l3.length:Int) - (if (((v4.toNat:Int).tdiv 11).tmod 4) < (l3.length:Int) then (((v4.toNat:Int).tdiv 11).tmod 4) else (l3.length:Int))).toNat)).take (l3.length - (((l3.length:Int) - (if (((v4.toNat:Int).tdiv 11).tmod 4) < (l3.length:Int) then (((v4.toNat:Int).tdiv 11).tmod 4) else (l3.length:Int))).toNat))).length) 8) ∧
         (I64 ((l3.length:Int) - (if (((v4.toNat:Int).tdiv 11).tmod 4) < (l3.length:Int) then (((v4.toNat:Int).tdiv 11).tmod 4) else (l3.length:Int)))) ∧
         (I64 ((l3.length:Int) - (if (((v4.toNat:Int).tdiv 11).tmod 4) < (l3.length:Int) then (((v4.toNat:Int).tdiv 11).tmod 4) else (l3.length:Int)))) ∧
         (0≤((l3.length:Int) - (if (((v4.toNat:Int).tdiv 11).tmod 4) < (l3.length:Int) then (((v4.toNat:Int).tdiv 11).tmod 4) else (l3.length:Int))))∧(((l3.length:Int) - (if (((v4.toNat:Int).tdiv 11).tmod 4) < (l3.length:Int) then (((v4.toNat:Int).tdiv 11).tmod 4) else (l3.length:Int))).toNat≤l3.length) ∧
         (bigRow (((l3.length:Int) - (if (((v4.toNat:Int).tdiv 11).tmod 4) < (l3.length:Int) then (((v4.toNat:Int).tdiv 11).tmod 4) else (l3.length:Int))).toNat+1) 8) ∧
         (bigRow (l2.length+1) 80) ∧
         (I64 (i1+1)) ∧
         ze ns (i1+1) (l2++[(Node.mk 6 0 [] [] ((l3.drop (((l3.length:Int) - (if (((v4.toNat:Int).tdiv 11).tmod 4) < (l3.length:Int) then (((v4.toNat:Int).tdiv 11).tmod 4) else (l3.length:Int))).toNat)).take (l3.length - (((l3.length:Int) - (if (((v4.toNat:Int).tdiv 11).tmod 4) < (l3.length:Int) then (((v4.toNat:Int).tdiv 11).tmod 4) else (l3.length:Int))).toNat))))]) ((l3.take (((l3.length:Int) - (if (((v4.toNat:Int).tdiv 11).tmod 4) < (l3.length:Int) then (((v4.toNat:Int).tdiv 11).tmod 4) else (l3.length:Int))).toNat))++[(l2.length:Int)]) r) ∧
        (¬ (((v4.toNat:Int).tmod 11)=4) →
         ((((v4.toNat:Int).tmod 11)=5) →
          (I64 ((v4.toNat:Int).tdiv 11)) ∧
          (0≤(((v4.toNat:Int).tdiv 11).tmod 8)) ∧
          ∃ (v8:List UInt8),(([[109,105,110],[109,97,120],[115,117,109],[108,101,110],[99,111,110,99,97,116],[114,97,110,103,101],[116,101,120,116],[104,97,115]]:List (List UInt8))[(((v4.toNat:Int).tdiv 11).tmod 8).toNat]?=some v8) ∧
          (I64 ((v4.toNat:Int).tdiv 88)) ∧
          (I64 (1+((v4.toNat:Int).tdiv 88))) ∧
          (I64 ((l3.length:Int) - (if (1+((v4.toNat:Int).tdiv 88)) < (l3.length:Int) then (1+((v4.toNat:Int).tdiv 88)) else (l3.length:Int)))) ∧
          (0≤((l3.length:Int) - (if (1+((v4.toNat:Int).tdiv 88)) < (l3.length:Int) then (1+((v4.toNat:Int).tdiv 88)) else (l3.length:Int))))∧(((l3.length:Int) - (if (1+((v4.toNat:Int).tdiv 88)) < (l3.length:Int) then (1+((v4.toNat:Int).tdiv 88)) else (l3.length:Int))).toNat≤l3.length) ∧
          (bigRow (((l3.drop (((l3.length:Int) - (if (1+((v4.toNat:Int).tdiv 88)) < (l3.length:Int) then (1+((v4.toNat:Int).tdiv 88)) else (l3.length:Int))).toNat)).take (l3.length - (((l3.length:Int) - (if (1+((v4.toNat:Int).tdiv 88)) < (l3.length:Int) then (1+((v4.toNat:Int).tdiv 88)) else (l3.length:Int))).toNat))).length) 8) ∧
          (I64 ((l3.length:Int) - (if (1+((v4.toNat:Int).tdiv 88)) < (l3.length:Int) then (1+((v4.toNat:Int).tdiv 88)) else (l3.length:Int)))) ∧
          (I64 ((l3.length:Int) - (if (1+((v4.toNat:Int).tdiv 88)) < (l3.length:Int) then (1+((v4.toNat:Int).tdiv 88)) else (l3.length:Int)))) ∧
          (0≤((l3.length:Int) - (if (1+((v4.toNat:Int).tdiv 88)) < (l3.length:Int) then (1+((v4.toNat:Int).tdiv 88)) else (l3.length:Int))))∧(((l3.length:Int) - (if (1+((v4.toNat:Int).tdiv 88)) < (l3.length:Int) then (1+((v4.toNat:Int).tdiv 88)) else (l3.length:Int))).toNat≤l3.length) ∧
          (bigRow (((l3.length:Int) - (if (1+((v4.toNat:Int).tdiv 88)) < (l3.length:Int) then (1+((v4.toNat:Int).tdiv 88)) else (l3.length:Int))).toNat+1) 8) ∧
          (bigRow (l2.length+1) 80) ∧
          (I64 (i1+1)) ∧
          ze ns (i1+1) (l2++[(Node.mk 5 0 v8 [] ((l3.drop (((l3.length:Int) - (if (1+((v4.toNat:Int).tdiv 88)) < (l3.length:Int) then (1+((v4.toNat:Int).tdiv 88)) else (l3.length:Int))).toNat)).take (l3.length - (((l3.length:Int) - (if (1+((v4.toNat:Int).tdiv 88)) < (l3.length:Int) then (1+((v4.toNat:Int).tdiv 88)) else (l3.length:Int))).toNat))))]) ((l3.take (((l3.length:Int) - (if (1+((v4.toNat:Int).tdiv 88)) < (l3.length:Int) then (1+((v4.toNat:Int).tdiv 88)) else (l3.length:Int))).toNat))++[(l2.length:Int)]) r) ∧
         (¬ (((v4.toNat:Int).tmod 11)=5) →
          ((((v4.toNat:Int).tmod 11)=6) →
           (I64 ((v4.toNat:Int).tdiv 11)) ∧
           (0≤(((v4.toNat:Int).tdiv 11).tmod 4)) ∧
           ∃ (v9:List Part),(([[],[(Part.mk false [97,34,36,10])],[(Part.mk true [118,97,114,46,120])],[(Part.mk false [98]),(Part.mk true [108,111,99,97,108,46,121]),(Part.mk false [92])]]:List (List Part))[(((v4.toNat:Int).tdiv 11).tmod 4).toNat]?=some v9) ∧
           (I64 ((l3.length:Int) - 0)) ∧
           (0≤((l3.length:Int) - 0))∧(((l3.length:Int) - 0).toNat≤l3.length) ∧
           (bigRow (((l3.drop (((l3.length:Int) - 0).toNat)).take (l3.length - (((l3.length:Int) - 0).toNat))).length) 8) ∧
           (I64 ((l3.length:Int) - 0)) ∧
           (I64 ((l3.length:Int) - 0)) ∧
           (0≤((l3.length:Int) - 0))∧(((l3.length:Int) - 0).toNat≤l3.length) ∧
           (bigRow (((l3.length:Int) - 0).toNat+1) 8) ∧
           (bigRow (l2.length+1) 80) ∧
           (I64 (i1+1)) ∧
           ze ns (i1+1) (l2++[(Node.mk 2 0 [] v9 ((l3.drop (((l3.length:Int) - 0).toNat)).take (l3.length - (((l3.length:Int) - 0).toNat))))]) ((l3.take (((l3.length:Int) - 0).toNat))++[(l2.length:Int)]) r) ∧
          (¬ (((v4.toNat:Int).tmod 11)=6) →
           ((((v4.toNat:Int).tmod 11)=7) →
            (I64 ((v4.toNat:Int).tdiv 11)) ∧
            (I64 ((l3.length:Int) - 0)) ∧
            (0≤((l3.length:Int) - 0))∧(((l3.length:Int) - 0).toNat≤l3.length) ∧
            (bigRow (((l3.drop (((l3.length:Int) - 0).toNat)).take (l3.length - (((l3.length:Int) - 0).toNat))).length) 8) ∧
            (I64 ((l3.length:Int) - 0)) ∧
            (I64 ((l3.length:Int) - 0)) ∧
            (0≤((l3.length:Int) - 0))∧(((l3.length:Int) - 0).toNat≤l3.length) ∧
            (bigRow (((l3.length:Int) - 0).toNat+1) 8) ∧
            (bigRow (l2.length+1) 80) ∧
            (I64 (i1+1)) ∧
            ze ns (i1+1) (l2++[(Node.mk 3 (((v4.toNat:Int).tdiv 11).tmod 2) [] [] ((l3.drop (((l3.length:Int) - 0).toNat)).take (l3.length - (((l3.length:Int) - 0).toNat))))]) ((l3.take (((l3.length:Int) - 0).toNat))++[(l2.length:Int)]) r) ∧
           (¬ (((v4.toNat:Int).tmod 11)=7) →
            ((((v4.toNat:Int).tmod 11)=8) →
             (I64 ((v4.toNat:Int).tdiv 11)) ∧
             (0≤(((v4.toNat:Int).tdiv 11).tmod 4)) ∧
             ∃ (v10:List UInt8),(([[118,97,114,46,120],[108,111,99,97,108,46,121],[99,111,117,110,116,46,105,110,100,101,120],[118,97,114,46,108]]:List (List UInt8))[(((v4.toNat:Int).tdiv 11).tmod 4).toNat]?=some v10) ∧
             (I64 ((l3.length:Int) - 0)) ∧
             (0≤((l3.length:Int) - 0))∧(((l3.length:Int) - 0).toNat≤l3.length) ∧
             (bigRow (((l3.drop (((l3.length:Int) - 0).toNat)).take (l3.length - (((l3.length:Int) - 0).toNat))).length) 8) ∧
             (I64 ((l3.length:Int) - 0)) ∧
             (I64 ((l3.length:Int) - 0)) ∧
             (0≤((l3.length:Int) - 0))∧(((l3.length:Int) - 0).toNat≤l3.length) ∧
             (bigRow (((l3.length:Int) - 0).toNat+1) 8) ∧
             (bigRow (l2.length+1) 80) ∧
             (I64 (i1+1)) ∧
             ze ns (i1+1) (l2++[(Node.mk 4 0 v10 [] ((l3.drop (((l3.length:Int) - 0).toNat)).take (l3.length - (((l3.length:Int) - 0).toNat))))]) ((l3.take (((l3.length:Int) - 0).toNat))++[(l2.length:Int)]) r) ∧
            (¬ (((v4.toNat:Int).tmod 11)=8) →
             (I64 ((l3.length:Int) - 0)) ∧
             (0≤((l3.length:Int) - 0))∧(((l3.length:Int) - 0).toNat≤l3.length) ∧
             (bigRow (((l3.drop (((l3.length:Int) - 0).toNat)).take (l3.length - (((l3.length:Int) - 0).toNat))).length) 8) ∧
             (I64 ((l3.length:Int) - 0)) ∧
             (I64 ((l3.length:Int) - 0)) ∧
             (0≤((l3.length:Int) - 0))∧(((l3.length:Int) - 0).toNat≤l3.length) ∧
             (bigRow (((l3.length:Int) - 0).toNat+1) 8) ∧
             (bigRow (l2.length+1) 80) ∧
             (I64 (i1+1)) ∧
             ze ns (i1+1) (l2++[(Node.mk 1 ((v4.toNat:Int).tmod 30) [] [] ((l3.drop (((l3.length:Int) - 0).toNat)).take (l3.length - (((l3.length:Int) - 0).toNat))))]) ((l3.take (((l3.length:Int) - 0).toNat))++[(l2.length:Int)]) r)))))))))) ∧
   (¬ (((v4.toNat:Int).tmod 3)=0) →
    ((((v4.toNat:Int).tmod 11)=1) →
     ((1≤(l3.length:Int)) →
      (I64 ((v4.toNat:Int).tdiv 11)) ∧
      (I64 (8+(((v4.toNat:Int).tdiv 11).tmod 2))) ∧
      (I64 ((l3.length:Int) - 1)) ∧
      (0≤((l3.length:Int) - 1))∧(((l3.length:Int) - 1).toNat≤l3.length) ∧
      (bigRow (((l3.drop (((l3.length:Int) - 1).toNat)).take (l3.length - (((l3.length:Int) - 1).toNat))).length) 8) ∧
      (I64 ((l3.length:Int) - 1)) ∧
      (I64 ((l3.length:Int) - 1)) ∧
      (0≤((l3.length:Int) - 1))∧(((l3.length:Int) - 1).toNat≤l3.length) ∧
      (bigRow (((l3.length:Int) - 1).toNat+1) 8) ∧
      (bigRow (l2.length+1) 80) ∧
      (I64 (i1+1)) ∧
      ze ns (i1+1) (l2++[(Node.mk (8+(((v4.toNat:Int).tdiv 11).tmod 2)) 0 [] [] ((l3.drop (((l3.length:Int) - 1).toNat)).take (l3.length - (((l3.length:Int) - 1).toNat))))]) ((l3.take (((l3.length:Int) - 1).toNat))++[(l2.length:Int)]) r) ∧
     (¬ (1≤(l3.length:Int)) →
      (I64 ((l3.length:Int) - 0)) ∧
      (0≤((l3.length:Int) - 0))∧(((l3.length:Int) - 0).toNat≤l3.length) ∧
      (bigRow (((l3.drop (((l3.length:Int) - 0).toNat)).take (l3.length - (((l3.length:Int) - 0).toNat))).length) 8) ∧
      (I64 ((l3.length:Int) - 0)) ∧
      (I64 ((l3.length:Int) - 0)) ∧
      (0≤((l3.length:Int) - 0))∧(((l3.length:Int) - 0).toNat≤l3.length) ∧
      (bigRow (((l3.length:Int) - 0).toNat+1) 8) ∧
      (bigRow (l2.length+1) 80) ∧
      (I64 (i1+1)) ∧
      ze ns (i1+1) (l2++[(Node.mk 1 ((v4.toNat:Int).tmod 30) [] [] ((l3.drop (((l3.length:Int) - 0).toNat)).take (l3.length - (((l3.length:Int) - 0).toNat))))]) ((l3.take (((l3.length:Int) - 0).toNat))++[(l2.length:Int)]) r)) ∧
    (¬ (((v4.toNat:Int).tmod 11)=1) →
     ((((v4.toNat:Int).tmod 11)=2) →
      ((3≤(l3.length:Int)) →
       (I64 ((l3.length:Int) - 3)) ∧
       (0≤((l3.length:Int) - 3))∧(((l3.length:Int) - 3).toNat≤l3.length) ∧
       (bigRow (((l3.drop (((l3.length:Int) - 3).toNat)).take (l3.length - (((l3.length:Int) - 3).toNat))).length) 8) ∧
       (I64 ((l3.length:Int) - 3)) ∧
       (I64 ((l3.length:Int) - 3)) ∧
       (0≤((l3.length:Int) - 3))∧(((l3.length:Int) - 3).toNat≤l3.length) ∧
       (bigRow (((l3.length:Int) - 3).toNat+1) 8) ∧
       (bigRow (l2.length+1) 80) ∧
       (I64 (i1+1)) ∧
       ze ns (i1+1) (l2++[(Node.mk 10 0 [] [] ((l3.drop (((l3.length:Int) - 3).toNat)).take (l3.length - (((l3.length:Int) - 3).toNat))))]) ((l3.take (((l3.length:Int) - 3).toNat))++[(l2.length:Int)]) r) ∧
      (¬ (3≤(l3.length:Int)) →
       (I64 ((l3.length:Int) - 0)) ∧
       (0≤((l3.length:Int) - 0))∧(((l3.length:Int) - 0).toNat≤l3.length) ∧
       (bigRow (((l3.drop (((l3.length:Int) - 0).toNat)).take (l3.length - (((l3.length:Int) - 0).toNat))).length) 8) ∧
       (I64 ((l3.length:Int) - 0)) ∧
       (I64 ((l3.length:Int) - 0)) ∧
       (0≤((l3.length:Int) - 0))∧(((l3.length:Int) - 0).toNat≤l3.length) ∧
       (bigRow (((l3.length:Int) - 0).toNat+1) 8) ∧
       (bigRow (l2.length+1) 80) ∧
       (I64 (i1+1)) ∧
       ze ns (i1+1) (l2++[(Node.mk 1 ((v4.toNat:Int).tmod 30) [] [] ((l3.drop (((l3.length:Int) - 0).toNat)).take (l3.length - (((l3.length:Int) - 0).toNat))))]) ((l3.take (((l3.length:Int) - 0).toNat))++[(l2.length:Int)]) r)) ∧
     (¬ (((v4.toNat:Int).tmod 11)=2) →
      ((((v4.toNat:Int).tmod 11)=3) →
       ((2≤(l3.length:Int)) →
        (I64 ((l3.length:Int) - 2)) ∧
        (0≤((l3.length:Int) - 2))∧(((l3.length:Int) - 2).toNat≤l3.length) ∧
        (bigRow (((l3.drop (((l3.length:Int) - 2).toNat)).take (l3.length - (((l3.length:Int) - 2).toNat))).length) 8) ∧
        (I64 ((l3.length:Int) - 2)) ∧
        (I64 ((l3.length:Int) - 2)) ∧
        (0≤((l3.length:Int) - 2))∧(((l3.length:Int) - 2).toNat≤l3.length) ∧
        (bigRow (((l3.length:Int) - 2).toNat+1) 8) ∧
        (bigRow (l2.length+1) 80) ∧
        (I64 (i1+1)) ∧
        ze ns (i1+1) (l2++[(Node.mk 7 0 [] [] ((l3.drop (((l3.length:Int) - 2).toNat)).take (l3.length - (((l3.length:Int) - 2).toNat))))]) ((l3.take (((l3.length:Int) - 2).toNat))++[(l2.length:Int)]) r) ∧
       (¬ (2≤(l3.length:Int)) →
        (I64 ((l3.length:Int) - 0)) ∧
        (0≤((l3.length:Int) - 0))∧(((l3.length:Int) - 0).toNat≤l3.length) ∧
        (bigRow (((l3.drop (((l3.length:Int) - 0).toNat)).take (l3.length - (((l3.length:Int) - 0).toNat))).length) 8) ∧
        (I64 ((l3.length:Int) - 0)) ∧
        (I64 ((l3.length:Int) - 0)) ∧
        (0≤((l3.length:Int) - 0))∧(((l3.length:Int) - 0).toNat≤l3.length) ∧
        (bigRow (((l3.length:Int) - 0).toNat+1) 8) ∧
        (bigRow (l2.length+1) 80) ∧
        (I64 (i1+1)) ∧
        ze ns (i1+1) (l2++[(Node.mk 1 ((v4.toNat:Int).tmod 30) [] [] ((l3.drop (((l3.length:Int) - 0).toNat)).take (l3.length - (((l3.length:Int) - 0).toNat))))]) ((l3.take (((l3.length:Int) - 0).toNat))++[(l2.length:Int)]) r)) ∧
      (¬ (((v4.toNat:Int).tmod 11)=3) →
       ((((v4.toNat:Int).tmod 11)=4) →
        (I64 ((v4.toNat:Int).tdiv 11)) ∧
        (I64 ((l3.length:Int) - (if (((v4.toNat:Int).tdiv 11).tmod 4) < (l3.length:Int) then (((v4.toNat:Int).tdiv 11).tmod 4) else (l3.length:Int)))) ∧
        (0≤((l3.length:Int) - (if (((v4.toNat:Int).tdiv 11).tmod 4) < (l3.length:Int) then (((v4.toNat:Int).tdiv 11).tmod 4) else (l3.length:Int))))∧(((l3.length:Int) - (if (((v4.toNat:Int).tdiv 11).tmod 4) < (l3.length:Int) then (((v4.toNat:Int).tdiv 11).tmod 4) else (l3.length:Int))).toNat≤l3.length) ∧
        (bigRow (((l3.drop (((l3.length:Int) - (if (((v4.toNat:Int).tdiv 11).tmod 4) < (l3.length:Int) then (((v4.toNat:Int).tdiv 11).tmod 4) else (l3.length:Int))).toNat)).take (l3.length - (((l3.length:Int) - (if (((v4.toNat:Int).tdiv 11).tmod 4) < (l3.length:Int) then (((v4.toNat:Int).tdiv 11).tmod 4) else (l3.length:Int))).toNat))).length) 8) ∧
        (I64 ((l3.length:Int) - (if (((v4.toNat:Int).tdiv 11).tmod 4) < (l3.length:Int) then (((v4.toNat:Int).tdiv 11).tmod 4) else (l3.length:Int)))) ∧
        (I64 ((l3.length:Int) - (if (((v4.toNat:Int).tdiv 11).tmod 4) < (l3.length:Int) then (((v4.toNat:Int).tdiv 11).tmod 4) else (l3.length:Int)))) ∧
        (0≤((l3.length:Int) - (if (((v4.toNat:Int).tdiv 11).tmod 4) < (l3.length:Int) then (((v4.toNat:Int).tdiv 11).tmod 4) else (l3.length:Int))))∧(((l3.length:Int) - (if (((v4.toNat:Int).tdiv 11).tmod 4) < (l3.length:Int) then (((v4.toNat:Int).tdiv 11).tmod 4) else (l3.length:Int))).toNat≤l3.length) ∧
        (bigRow (((l3.length:Int) - (if (((v4.toNat:Int).tdiv 11).tmod 4) < (l3.length:Int) then (((v4.toNat:Int).tdiv 11).tmod 4) else (l3.length:Int))).toNat+1) 8) ∧
        (bigRow (l2.length+1) 80) ∧
        (I64 (i1+1)) ∧
        ze ns (i1+1) (l2++[(Node.mk 6 0 [] [] ((l3.drop (((l3.length:Int) - (if (((v4.toNat:Int).tdiv 11).tmod 4) < (l3.length:Int) then (((v4.toNat:Int).tdiv 11).tmod 4) else (l3.length:Int))).toNat)).take (l3.length - (((l3.length:Int) - (if (((v4.toNat:Int).tdiv 11).tmod 4) < (l3.length:Int) then (((v4.toNat:Int).tdiv 11).tmod 4) else (l3.length:Int))).toNat))))]) ((l3.take (((l3.length:Int) - (if (((v4.toNat:Int).tdiv 11).tmod 4) < (l3.length:Int) then (((v4.toNat:Int).tdiv 11).tmod 4) else (l3.length:Int))).toNat))++[(l2.length:Int)]) r) ∧
       (¬ (((v4.toNat:Int).tmod 11)=4) →
        ((((v4.toNat:Int).tmod 11)=5) →
         (I64 ((v4.toNat:Int).tdiv 11)) ∧
         (0≤(((v4.toNat:Int).tdiv 11).tmod 8)) ∧
         ∃ (v11:List UInt8),(([[109,105,110],[109,97,120],[115,117,109],[108,101,110],[99,111,110,99,97,116],[114,97,110,103,101],[116,101,120,116],[104,97,115]]:List (List UInt8))[(((v4.toNat:Int).tdiv 11).tmod 8).toNat]?=some v11) ∧
         (I64 ((v4.toNat:Int).tdiv 88)) ∧
         (I64 (1+((v4.toNat:Int).tdiv 88))) ∧
         (I64 ((l3.length:Int) - (if (1+((v4.toNat:Int).tdiv 88)) < (l3.length:Int) then (1+((v4.toNat:Int).tdiv 88)) else (l3.length:Int)))) ∧
         (0≤((l3.length:Int) - (if (1+((v4.toNat:Int).tdiv 88)) < (l3.length:Int) then (1+((v4.toNat:Int).tdiv 88)) else (l3.length:Int))))∧(((l3.length:Int) - (if (1+((v4.toNat:Int).tdiv 88)) < (l3.length:Int) then (1+((v4.toNat:Int).tdiv 88)) else (l3.length:Int))).toNat≤l3.length) ∧
         (bigRow (((l3.drop (((l3.length:Int) - (if (1+((v4.toNat:Int).tdiv 88)) < (l3.length:Int) then (1+((v4.toNat:Int).tdiv 88)) else (l3.length:Int))).toNat)).take (l3.length - (((l3.length:Int) - (if (1+((v4.toNat:Int).tdiv 88)) < (l3.length:Int) then (1+((v4.toNat:Int).tdiv 88)) else (l3.length:Int))).toNat))).length) 8) ∧
         (I64 ((l3.length:Int) - (if (1+((v4.toNat:Int).tdiv 88)) < (l3.length:Int) then (1+((v4.toNat:Int).tdiv 88)) else (l3.length:Int)))) ∧
         (I64 ((l3.length:Int) - (if (1+((v4.toNat:Int).tdiv 88)) < (l3.length:Int) then (1+((v4.toNat:Int).tdiv 88)) else (l3.length:Int)))) ∧
         (0≤((l3.length:Int) - (if (1+((v4.toNat:Int).tdiv 88)) < (l3.length:Int) then (1+((v4.toNat:Int).tdiv 88)) else (l3.length:Int))))∧(((l3.length:Int) - (if (1+((v4.toNat:Int).tdiv 88)) < (l3.length:Int) then (1+((v4.toNat:Int).tdiv 88)) else (l3.length:Int))).toNat≤l3.length) ∧
         (bigRow (((l3.length:Int) - (if (1+((v4.toNat:Int).tdiv 88)) < (l3.length:Int) then (1+((v4.toNat:Int).tdiv 88)) else (l3.length:Int))).toNat+1) 8) ∧
         (bigRow (l2.length+1) 80) ∧
         (I64 (i1+1)) ∧
         ze ns (i1+1) (l2++[(Node.mk 5 0 v11 [] ((l3.drop (((l3.length:Int) - (if (1+((v4.toNat:Int).tdiv 88)) < (l3.length:Int) then (1+((v4.toNat:Int).tdiv 88)) else (l3.length:Int))).toNat)).take (l3.length - (((l3.length:Int) - (if (1+((v4.toNat:Int).tdiv 88)) < (l3.length:Int) then (1+((v4.toNat:Int).tdiv 88)) else (l3.length:Int))).toNat))))]) ((l3.take (((l3.length:Int) - (if (1+((v4.toNat:Int).tdiv 88)) < (l3.length:Int) then (1+((v4.toNat:Int).tdiv 88)) else (l3.length:Int))).toNat))++[(l2.length:Int)]) r) ∧
        (¬ (((v4.toNat:Int).tmod 11)=5) →
         ((((v4.toNat:Int).tmod 11)=6) →
          (I64 ((v4.toNat:Int).tdiv 11)) ∧
          (0≤(((v4.toNat:Int).tdiv 11).tmod 4)) ∧
          ∃ (v12:List Part),(([[],[(Part.mk false [97,34,36,10])],[(Part.mk true [118,97,114,46,120])],[(Part.mk false [98]),(Part.mk true [108,111,99,97,108,46,121]),(Part.mk false [92])]]:List (List Part))[(((v4.toNat:Int).tdiv 11).tmod 4).toNat]?=some v12) ∧
          (I64 ((l3.length:Int) - 0)) ∧
          (0≤((l3.length:Int) - 0))∧(((l3.length:Int) - 0).toNat≤l3.length) ∧
          (bigRow (((l3.drop (((l3.length:Int) - 0).toNat)).take (l3.length - (((l3.length:Int) - 0).toNat))).length) 8) ∧
          (I64 ((l3.length:Int) - 0)) ∧
          (I64 ((l3.length:Int) - 0)) ∧
          (0≤((l3.length:Int) - 0))∧(((l3.length:Int) - 0).toNat≤l3.length) ∧
          (bigRow (((l3.length:Int) - 0).toNat+1) 8) ∧
          (bigRow (l2.length+1) 80) ∧
          (I64 (i1+1)) ∧
          ze ns (i1+1) (l2++[(Node.mk 2 0 [] v12 ((l3.drop (((l3.length:Int) - 0).toNat)).take (l3.length - (((l3.length:Int) - 0).toNat))))]) ((l3.take (((l3.length:Int) - 0).toNat))++[(l2.length:Int)]) r) ∧
         (¬ (((v4.toNat:Int).tmod 11)=6) →
          ((((v4.toNat:Int).tmod 11)=7) →
           (I64 ((v4.toNat:Int).tdiv 11)) ∧
           (I64 ((l3.length:Int) - 0)) ∧
           (0≤((l3.length:Int) - 0))∧(((l3.length:Int) - 0).toNat≤l3.length) ∧
           (bigRow (((l3.drop (((l3.length:Int) - 0).toNat)).take (l3.length - (((l3.length:Int) - 0).toNat))).length) 8) ∧
           (I64 ((l3.length:Int) - 0)) ∧
           (I64 ((l3.length:Int) - 0)) ∧
           (0≤((l3.length:Int) - 0))∧(((l3.length:Int) - 0).toNat≤l3.length) ∧
           (bigRow (((l3.length:Int) - 0).toNat+1) 8) ∧
           (bigRow (l2.length+1) 80) ∧
           (I64 (i1+1)) ∧
           ze ns (i1+1) (l2++[(Node.mk 3 (((v4.toNat:Int).tdiv 11).tmod 2) [] [] ((l3.drop (((l3.length:Int) - 0).toNat)).take (l3.length - (((l3.length:Int) - 0).toNat))))]) ((l3.take (((l3.length:Int) - 0).toNat))++[(l2.length:Int)]) r) ∧
          (¬ (((v4.toNat:Int).tmod 11)=7) →
           ((((v4.toNat:Int).tmod 11)=8) →
            (I64 ((v4.toNat:Int).tdiv 11)) ∧
            (0≤(((v4.toNat:Int).tdiv 11).tmod 4)) ∧
            ∃ (v13:List UInt8),(([[118,97,114,46,120],[108,111,99,97,108,46,121],[99,111,117,110,116,46,105,110,100,101,120],[118,97,114,46,108]]:List (List UInt8))[(((v4.toNat:Int).tdiv 11).tmod 4).toNat]?=some v13) ∧
            (I64 ((l3.length:Int) - 0)) ∧
            (0≤((l3.length:Int) - 0))∧(((l3.length:Int) - 0).toNat≤l3.length) ∧
            (bigRow (((l3.drop (((l3.length:Int) - 0).toNat)).take (l3.length - (((l3.length:Int) - 0).toNat))).length) 8) ∧
            (I64 ((l3.length:Int) - 0)) ∧
            (I64 ((l3.length:Int) - 0)) ∧
            (0≤((l3.length:Int) - 0))∧(((l3.length:Int) - 0).toNat≤l3.length) ∧
            (bigRow (((l3.length:Int) - 0).toNat+1) 8) ∧
            (bigRow (l2.length+1) 80) ∧
            (I64 (i1+1)) ∧
            ze ns (i1+1) (l2++[(Node.mk 4 0 v13 [] ((l3.drop (((l3.length:Int) - 0).toNat)).take (l3.length - (((l3.length:Int) - 0).toNat))))]) ((l3.take (((l3.length:Int) - 0).toNat))++[(l2.length:Int)]) r) ∧
           (¬ (((v4.toNat:Int).tmod 11)=8) →
            (I64 ((l3.length:Int) - 0)) ∧
            (0≤((l3.length:Int) - 0))∧(((l3.length:Int) - 0).toNat≤l3.length) ∧
            (bigRow (((l3.drop (((l3.length:Int) - 0).toNat)).take (l3.length - (((l3.length:Int) - 0).toNat))).length) 8) ∧
            (I64 ((l3.length:Int) - 0)) ∧
            (I64 ((l3.length:Int) - 0)) ∧
            (0≤((l3.length:Int) - 0))∧(((l3.length:Int) - 0).toNat≤l3.length) ∧
            (bigRow (((l3.length:Int) - 0).toNat+1) 8) ∧
            (bigRow (l2.length+1) 80) ∧
            (I64 (i1+1)) ∧
            ze ns (i1+1) (l2++[(Node.mk 1 ((v4.toNat:Int).tmod 30) [] [] ((l3.drop (((l3.length:Int) - 0).toNat)).take (l3.length - (((l3.length:Int) - 0).toNat))))]) ((l3.take (((l3.length:Int) - 0).toNat))++[(l2.length:Int)]) r)))))))))) ∧
  (¬ ((l2.length:Int) < 40) →
   ziL l2 l3 r)) ∧
 (¬ (i1 < (ns.length:Int)) →
  ziL l2 l3 r)):ziO ns i1 l2 l3 r:=by
 intro S e f h
 unfold zhT
 rw[zo]
 have F:=zhN
 exact rn (aa h<|F) T
theorem zk (ns:List UInt8) (i5:Int) (l6:List Node) (l7:List Int) (r:List Node) (T :
  ((i5 < (ns.length:Int)) →
  (((l6.length:Int) < 40) →
   (0≤i5) ∧
   ∃ (v16:UInt8),(ns[i5.toNat]?=some v16) ∧
   (I64 ((v16.toNat:Int))) ∧
   ((((v16.toNat:Int).tmod 3)=0) →
    ((2≤(l7.length:Int)) →
     (I64 ((v16.toNat:Int).tdiv 3)) ∧
     (I64 (11+(((v16.toNat:Int).tdiv 3).tmod 13))) ∧
     (I64 ((l7.length:Int) - 2)) ∧
     (0≤((l7.length:Int) - 2))∧(((l7.length:Int) - 2).toNat≤l7.length) ∧
     (bigRow (((l7.drop (((l7.length:Int) - 2).toNat)).take (l7.length - (((l7.length:Int) - 2).toNat))).length) 8) ∧
     (I64 ((l7.length:Int) - 2)) ∧
     (I64 ((l7.length:Int) - 2)) ∧
     (0≤((l7.length:Int) - 2))∧(((l7.length:Int) - 2).toNat≤l7.length) ∧
     (bigRow (((l7.length:Int) - 2).toNat+1) 8) ∧
     (bigRow (l6.length+1) 80) ∧
     (I64 (i5+1)) ∧
     ze ns (i5+1) (l6++[(Node.mk (11+(((v16.toNat:Int).tdiv 3).tmod 13)) 0 [] [] ((l7.drop (((l7.length:Int) - 2).toNat)).take (l7.length - (((l7.length:Int) - 2).toNat))))]) ((l7.take (((l7.length:Int) - 2).toNat))++[(l6.length:Int)]) r) ∧
    (¬ (2≤(l7.length:Int)) →
     ((((v16.toNat:Int).tmod 11)=1) →
      ((1≤(l7.length:Int)) →
       (I64 ((v16.toNat:Int).tdiv 11)) ∧
       (I64 (8+(((v16.toNat:Int).tdiv 11).tmod 2))) ∧
       (I64 ((l7.length:Int) - 1)) ∧
       (0≤((l7.length:Int) - 1))∧(((l7.length:Int) - 1).toNat≤l7.length) ∧
       (bigRow (((l7.drop (((l7.length:Int) - 1).toNat)).take (l7.length - (((l7.length:Int) - 1).toNat))).length) 8) ∧
       (I64 ((l7.length:Int) - 1)) ∧
       (I64 ((l7.length:Int) - 1)) ∧
       (0≤((l7.length:Int) - 1))∧(((l7.length:Int) - 1).toNat≤l7.length) ∧
       (bigRow (((l7.length:Int) - 1).toNat+1) 8) ∧
       (bigRow (l6.length+1) 80) ∧
       (I64 (i5+1)) ∧
       ze ns (i5+1) (l6++[(Node.mk (8+(((v16.toNat:Int).tdiv 11).tmod 2)) 0 [] [] ((l7.drop (((l7.length:Int) - 1).toNat)).take (l7.length - (((l7.length:Int) - 1).toNat))))]) ((l7.take (((l7.length:Int) - 1).toNat))++[(l6.length:Int)]) r) ∧
      (¬ (1≤(l7.length:Int)) →
       (I64 ((l7.length:Int) - 0)) ∧
       (0≤((l7.length:Int) - 0))∧(((l7.length:Int) - 0).toNat≤l7.length) ∧
       (bigRow (((l7.drop (((l7.length:Int) - 0).toNat)).take (l7.length - (((l7.length:Int) - 0).toNat))).length) 8) ∧
       (I64 ((l7.length:Int) - 0)) ∧
       (I64 ((l7.length:Int) - 0)) ∧
       (0≤((l7.length:Int) - 0))∧(((l7.length:Int) - 0).toNat≤l7.length) ∧
       (bigRow (((l7.length:Int) - 0).toNat+1) 8) ∧
       (bigRow (l6.length+1) 80) ∧
       (I64 (i5+1)) ∧
       ze ns (i5+1) (l6++[(Node.mk 1 ((v16.toNat:Int).tmod 30) [] [] ((l7.drop (((l7.length:Int) - 0).toNat)).take (l7.length - (((l7.length:Int) - 0).toNat))))]) ((l7.take (((l7.length:Int) - 0).toNat))++[(l6.length:Int)]) r)) ∧
     (¬ (((v16.toNat:Int).tmod 11)=1) →
      ((((v16.toNat:Int).tmod 11)=2) →
       ((3≤(l7.length:Int)) →
        (I64 ((l7.length:Int) - 3)) ∧
        (0≤((l7.length:Int) - 3))∧(((l7.length:Int) - 3).toNat≤l7.length) ∧
        (bigRow (((l7.drop (((l7.length:Int) - 3).toNat)).take (l7.length - (((l7.length:Int) - 3).toNat))).length) 8) ∧
        (I64 ((l7.length:Int) - 3)) ∧
        (I64 ((l7.length:Int) - 3)) ∧
        (0≤((l7.length:Int) - 3))∧(((l7.length:Int) - 3).toNat≤l7.length) ∧
        (bigRow (((l7.length:Int) - 3).toNat+1) 8) ∧
        (bigRow (l6.length+1) 80) ∧
        (I64 (i5+1)) ∧
        ze ns (i5+1) (l6++[(Node.mk 10 0 [] [] ((l7.drop (((l7.length:Int) - 3).toNat)).take (l7.length - (((l7.length:Int) - 3).toNat))))]) ((l7.take (((l7.length:Int) - 3).toNat))++[(l6.length:Int)]) r) ∧
       (¬ (3≤(l7.length:Int)) →
        (I64 ((l7.length:Int) - 0)) ∧
        (0≤((l7.length:Int) - 0))∧(((l7.length:Int) - 0).toNat≤l7.length) ∧
        (bigRow (((l7.drop (((l7.length:Int) - 0).toNat)).take (l7.length - (((l7.length:Int) - 0).toNat))).length) 8) ∧
        (I64 ((l7.length:Int) - 0)) ∧
        (I64 ((l7.length:Int) - 0)) ∧
        (0≤((l7.length:Int) - 0))∧(((l7.length:Int) - 0).toNat≤l7.length) ∧
        (bigRow (((l7.length:Int) - 0).toNat+1) 8) ∧
        (bigRow (l6.length+1) 80) ∧
        (I64 (i5+1)) ∧
        ze ns (i5+1) (l6++[(Node.mk 1 ((v16.toNat:Int).tmod 30) [] [] ((l7.drop (((l7.length:Int) - 0).toNat)).take (l7.length - (((l7.length:Int) - 0).toNat))))]) ((l7.take (((l7.length:Int) - 0).toNat))++[(l6.length:Int)]) r)) ∧
      (¬ (((v16.toNat:Int).tmod 11)=2) →
       ((((v16.toNat:Int).tmod 11)=3) →
        (I64 ((l7.length:Int) - 0)) ∧
        (0≤((l7.length:Int) - 0))∧(((l7.length:Int) - 0).toNat≤l7.length) ∧
        (bigRow (((l7.drop (((l7.length:Int) - 0).toNat)).take (l7.length - (((l7.length:Int) - 0).toNat))).length) 8) ∧
        (I64 ((l7.length:Int) - 0)) ∧
        (I64 ((l7.length:Int) - 0)) ∧
        (0≤((l7.length:Int) - 0))∧(((l7.length:Int) - 0).toNat≤l7.length) ∧
        (bigRow (((l7.length:Int) - 0).toNat+1) 8) ∧
        (bigRow (l6.length+1) 80) ∧
        (I64 (i5+1)) ∧
        ze ns (i5+1) (l6++[(Node.mk 1 ((v16.toNat:Int).tmod 30) [] [] ((l7.drop (((l7.length:Int) - 0).toNat)).take (l7.length - (((l7.length:Int) - 0).toNat))))]) ((l7.take (((l7.length:Int) - 0).toNat))++[(l6.length:Int)]) r) ∧
       (¬ (((v16.toNat:Int).tmod 11)=3) →
        ((((v16.toNat:Int).tmod 11)=4) →
         (I64 ((v16.toNat:Int).tdiv 11)) ∧
         (I64 ((l7.length:Int) - (if (((v16.toNat:Int).tdiv 11).tmod 4) < (l7.length:Int) then (((v16.toNat:Int).tdiv 11).tmod 4) else (l7.length:Int)))) ∧
         (0≤((l7.length:Int) - (if (((v16.toNat:Int).tdiv 11).tmod 4) < (l7.length:Int) then (((v16.toNat:Int).tdiv 11).tmod 4) else (l7.length:Int))))∧(((l7.length:Int) - (if (((v16.toNat:Int).tdiv 11).tmod 4) < (l7.length:Int) then (((v16.toNat:Int).tdiv 11).tmod 4) else (l7.length:Int))).toNat≤l7.length) ∧
         (bigRow (((l7.drop (((l7.length:Int) - (if (((v16.toNat:Int).tdiv 11).tmod 4) < (l7.length:Int) then (((v16.toNat:Int).tdiv 11).tmod 4) else (l7.length:Int))).toNat)).take (l7.length - (((l7.length:Int) - (if (((v16.toNat:Int).tdiv 11).tmod 4) < (l7.length:Int) then (((v16.toNat:Int).tdiv 11).tmod 4) else (l7.length:Int))).toNat))).length) 8) ∧
         (I64 ((l7.length:Int) - (if (((v16.toNat:Int).tdiv 11).tmod 4) < (l7.length:Int) then (((v16.toNat:Int).tdiv 11).tmod 4) else (l7.length:Int)))) ∧
         (I64 ((l7.length:Int) - (if (((v16.toNat:Int).tdiv 11).tmod 4) < (l7.length:Int) then (((v16.toNat:Int).tdiv 11).tmod 4) else (l7.length:Int)))) ∧
         (0≤((l7.length:Int) - (if (((v16.toNat:Int).tdiv 11).tmod 4) < (l7.length:Int) then (((v16.toNat:Int).tdiv 11).tmod 4) else (l7.length:Int))))∧(((l7.length:Int) - (if (((v16.toNat:Int).tdiv 11).tmod 4) < (l7.length:Int) then (((v16.toNat:Int).tdiv 11).tmod 4) else (l7.length:Int))).toNat≤l7.length) ∧
         (bigRow (((l7.length:Int) - (if (((v16.toNat:Int).tdiv 11).tmod 4) < (l7.length:Int) then (((v16.toNat:Int).tdiv 11).tmod 4) else (l7.length:Int))).toNat+1) 8) ∧
         (bigRow (l6.length+1) 80) ∧
         (I64 (i5+1)) ∧
         ze ns (i5+1) (l6++[(Node.mk 6 0 [] [] ((l7.drop (((l7.length:Int) - (if (((v16.toNat:Int).tdiv 11).tmod 4) < (l7.length:Int) then (((v16.toNat:Int).tdiv 11).tmod 4) else (l7.length:Int))).toNat)).take (l7.length - (((l7.length:Int) - (if (((v16.toNat:Int).tdiv 11).tmod 4) < (l7.length:Int) then (((v16.toNat:Int).tdiv 11).tmod 4) else (l7.length:Int))).toNat))))]) ((l7.take (((l7.length:Int) - (if (((v16.toNat:Int).tdiv 11).tmod 4) < (l7.length:Int) then (((v16.toNat:Int).tdiv 11).tmod 4) else (l7.length:Int))).toNat))++[(l6.length:Int)]) r) ∧
        (¬ (((v16.toNat:Int).tmod 11)=4) →
         ((((v16.toNat:Int).tmod 11)=5) →
          (I64 ((v16.toNat:Int).tdiv 11)) ∧
          (0≤(((v16.toNat:Int).tdiv 11).tmod 8)) ∧
          ∃ (v17:List UInt8),(([[109,105,110],[109,97,120],[115,117,109],[108,101,110],[99,111,110,99,97,116],[114,97,110,103,101],[116,101,120,116],[104,97,115]]:List (List UInt8))[(((v16.toNat:Int).tdiv 11).tmod 8).toNat]?=some v17) ∧
          (I64 ((v16.toNat:Int).tdiv 88)) ∧
          (I64 (1+((v16.toNat:Int).tdiv 88))) ∧
          (I64 ((l7.length:Int) - (if (1+((v16.toNat:Int).tdiv 88)) < (l7.length:Int) then (1+((v16.toNat:Int).tdiv 88)) else (l7.length:Int)))) ∧
          (0≤((l7.length:Int) - (if (1+((v16.toNat:Int).tdiv 88)) < (l7.length:Int) then (1+((v16.toNat:Int).tdiv 88)) else (l7.length:Int))))∧(((l7.length:Int) - (if (1+((v16.toNat:Int).tdiv 88)) < (l7.length:Int) then (1+((v16.toNat:Int).tdiv 88)) else (l7.length:Int))).toNat≤l7.length) ∧
          (bigRow (((l7.drop (((l7.length:Int) - (if (1+((v16.toNat:Int).tdiv 88)) < (l7.length:Int) then (1+((v16.toNat:Int).tdiv 88)) else (l7.length:Int))).toNat)).take (l7.length - (((l7.length:Int) - (if (1+((v16.toNat:Int).tdiv 88)) < (l7.length:Int) then (1+((v16.toNat:Int).tdiv 88)) else (l7.length:Int))).toNat))).length) 8) ∧
          (I64 ((l7.length:Int) - (if (1+((v16.toNat:Int).tdiv 88)) < (l7.length:Int) then (1+((v16.toNat:Int).tdiv 88)) else (l7.length:Int)))) ∧
          (I64 ((l7.length:Int) - (if (1+((v16.toNat:Int).tdiv 88)) < (l7.length:Int) then (1+((v16.toNat:Int).tdiv 88)) else (l7.length:Int)))) ∧
          (0≤((l7.length:Int) - (if (1+((v16.toNat:Int).tdiv 88)) < (l7.length:Int) then (1+((v16.toNat:Int).tdiv 88)) else (l7.length:Int))))∧(((l7.length:Int) - (if (1+((v16.toNat:Int).tdiv 88)) < (l7.length:Int) then (1+((v16.toNat:Int).tdiv 88)) else (l7.length:Int))).toNat≤l7.length) ∧
          (bigRow (((l7.length:Int) - (if (1+((v16.toNat:Int).tdiv 88)) < (l7.length:Int) then (1+((v16.toNat:Int).tdiv 88)) else (l7.length:Int))).toNat+1) 8) ∧
          (bigRow (l6.length+1) 80) ∧
          (I64 (i5+1)) ∧
          ze ns (i5+1) (l6++[(Node.mk 5 0 v17 [] ((l7.drop (((l7.length:Int) - (if (1+((v16.toNat:Int).tdiv 88)) < (l7.length:Int) then (1+((v16.toNat:Int).tdiv 88)) else (l7.length:Int))).toNat)).take (l7.length - (((l7.length:Int) - (if (1+((v16.toNat:Int).tdiv 88)) < (l7.length:Int) then (1+((v16.toNat:Int).tdiv 88)) else (l7.length:Int))).toNat))))]) ((l7.take (((l7.length:Int) - (if (1+((v16.toNat:Int).tdiv 88)) < (l7.length:Int) then (1+((v16.toNat:Int).tdiv 88)) else (l7.length:Int))).toNat))++[(l6.length:Int)]) r) ∧
         (¬ (((v16.toNat:Int).tmod 11)=5) →
          ((((v16.toNat:Int).tmod 11)=6) →
           (I64 ((v16.toNat:Int).tdiv 11)) ∧
           (0≤(((v16.toNat:Int).tdiv 11).tmod 4)) ∧
           ∃ (v18:List Part),(([[],[(Part.mk false [97,34,36,10])],[(Part.mk true [118,97,114,46,120])],[(Part.mk false [98]),(Part.mk true [108,111,99,97,108,46,121]),(Part.mk false [92])]]:List (List Part))[(((v16.toNat:Int).tdiv 11).tmod 4).toNat]?=some v18) ∧
           (I64 ((l7.length:Int) - 0)) ∧
           (0≤((l7.length:Int) - 0))∧(((l7.length:Int) - 0).toNat≤l7.length) ∧
           (bigRow (((l7.drop (((l7.length:Int) - 0).toNat)).take (l7.length - (((l7.length:Int) - 0).toNat))).length) 8) ∧
           (I64 ((l7.length:Int) - 0)) ∧
           (I64 ((l7.length:Int) - 0)) ∧
           (0≤((l7.length:Int) - 0))∧(((l7.length:Int) - 0).toNat≤l7.length) ∧
           (bigRow (((l7.length:Int) - 0).toNat+1) 8) ∧
           (bigRow (l6.length+1) 80) ∧
           (I64 (i5+1)) ∧
           ze ns (i5+1) (l6++[(Node.mk 2 0 [] v18 ((l7.drop (((l7.length:Int) - 0).toNat)).take (l7.length - (((l7.length:Int) - 0).toNat))))]) ((l7.take (((l7.length:Int) - 0).toNat))++[(l6.length:Int)]) r) ∧
          (¬ (((v16.toNat:Int).tmod 11)=6) →
           ((((v16.toNat:Int).tmod 11)=7) →
            (I64 ((v16.toNat:Int).tdiv 11)) ∧
            (I64 ((l7.length:Int) - 0)) ∧
            (0≤((l7.length:Int) - 0))∧(((l7.length:Int) - 0).toNat≤l7.length) ∧
            (bigRow (((l7.drop (((l7.length:Int) - 0).toNat)).take (l7.length - (((l7.length:Int) - 0).toNat))).length) 8) ∧
            (I64 ((l7.length:Int) - 0)) ∧
            (I64 ((l7.length:Int) - 0)) ∧
            (0≤((l7.length:Int) - 0))∧(((l7.length:Int) - 0).toNat≤l7.length) ∧
            (bigRow (((l7.length:Int) - 0).toNat+1) 8) ∧
            (bigRow (l6.length+1) 80) ∧
            (I64 (i5+1)) ∧
            ze ns (i5+1) (l6++[(Node.mk 3 (((v16.toNat:Int).tdiv 11).tmod 2) [] [] ((l7.drop (((l7.length:Int) - 0).toNat)).take (l7.length - (((l7.length:Int) - 0).toNat))))]) ((l7.take (((l7.length:Int) - 0).toNat))++[(l6.length:Int)]) r) ∧
           (¬ (((v16.toNat:Int).tmod 11)=7) →
            ((((v16.toNat:Int).tmod 11)=8) →
             (I64 ((v16.toNat:Int).tdiv 11)) ∧
             (0≤(((v16.toNat:Int).tdiv 11).tmod 4)) ∧
             ∃ (v19:List UInt8),(([[118,97,114,46,120],[108,111,99,97,108,46,121],[99,111,117,110,116,46,105,110,100,101,120],[118,97,114,46,108]]:List (List UInt8))[(((v16.toNat:Int).tdiv 11).tmod 4).toNat]?=some v19) ∧
             (I64 ((l7.length:Int) - 0)) ∧
             (0≤((l7.length:Int) - 0))∧(((l7.length:Int) - 0).toNat≤l7.length) ∧
             (bigRow (((l7.drop (((l7.length:Int) - 0).toNat)).take (l7.length - (((l7.length:Int) - 0).toNat))).length) 8) ∧
             (I64 ((l7.length:Int) - 0)) ∧
             (I64 ((l7.length:Int) - 0)) ∧
             (0≤((l7.length:Int) - 0))∧(((l7.length:Int) - 0).toNat≤l7.length) ∧
             (bigRow (((l7.length:Int) - 0).toNat+1) 8) ∧
             (bigRow (l6.length+1) 80) ∧
             (I64 (i5+1)) ∧
             ze ns (i5+1) (l6++[(Node.mk 4 0 v19 [] ((l7.drop (((l7.length:Int) - 0).toNat)).take (l7.length - (((l7.length:Int) - 0).toNat))))]) ((l7.take (((l7.length:Int) - 0).toNat))++[(l6.length:Int)]) r) ∧
            (¬ (((v16.toNat:Int).tmod 11)=8) →
             (I64 ((l7.length:Int) - 0)) ∧
             (0≤((l7.length:Int) - 0))∧(((l7.length:Int) - 0).toNat≤l7.length) ∧
             (bigRow (((l7.drop (((l7.length:Int) - 0).toNat)).take (l7.length - (((l7.length:Int) - 0).toNat))).length) 8) ∧
             (I64 ((l7.length:Int) - 0)) ∧
             (I64 ((l7.length:Int) - 0)) ∧
             (0≤((l7.length:Int) - 0))∧(((l7.length:Int) - 0).toNat≤l7.length) ∧
             (bigRow (((l7.length:Int) - 0).toNat+1) 8) ∧
             (bigRow (l6.length+1) 80) ∧
             (I64 (i5+1)) ∧
             ze ns (i5+1) (l6++[(Node.mk 1 ((v16.toNat:Int).tmod 30) [] [] ((l7.drop (((l7.length:Int) - 0).toNat)).take (l7.length - (((l7.length:Int) - 0).toNat))))]) ((l7.take (((l7.length:Int) - 0).toNat))++[(l6.length:Int)]) r)))))))))) ∧
   (¬ (((v16.toNat:Int).tmod 3)=0) →
    ((((v16.toNat:Int).tmod 11)=1) →
     ((1≤(l7.length:Int)) →
      (I64 ((v16.toNat:Int).tdiv 11)) ∧
      (I64 (8+(((v16.toNat:Int).tdiv 11).tmod 2))) ∧
      (I64 ((l7.length:Int) - 1)) ∧
      (0≤((l7.length:Int) - 1))∧(((l7.length:Int) - 1).toNat≤l7.length) ∧
      (bigRow (((l7.drop (((l7.length:Int) - 1).toNat)).take (l7.length - (((l7.length:Int) - 1).toNat))).length) 8) ∧
      (I64 ((l7.length:Int) - 1)) ∧
      (I64 ((l7.length:Int) - 1)) ∧
      (0≤((l7.length:Int) - 1))∧(((l7.length:Int) - 1).toNat≤l7.length) ∧
      (bigRow (((l7.length:Int) - 1).toNat+1) 8) ∧
      (bigRow (l6.length+1) 80) ∧
      (I64 (i5+1)) ∧
      ze ns (i5+1) (l6++[(Node.mk (8+(((v16.toNat:Int).tdiv 11).tmod 2)) 0 [] [] ((l7.drop (((l7.length:Int) - 1).toNat)).take (l7.length - (((l7.length:Int) - 1).toNat))))]) ((l7.take (((l7.length:Int) - 1).toNat))++[(l6.length:Int)]) r) ∧
     (¬ (1≤(l7.length:Int)) →
      (I64 ((l7.length:Int) - 0)) ∧
      (0≤((l7.length:Int) - 0))∧(((l7.length:Int) - 0).toNat≤l7.length) ∧
      (bigRow (((l7.drop (((l7.length:Int) - 0).toNat)).take (l7.length - (((l7.length:Int) - 0).toNat))).length) 8) ∧
      (I64 ((l7.length:Int) - 0)) ∧
      (I64 ((l7.length:Int) - 0)) ∧
      (0≤((l7.length:Int) - 0))∧(((l7.length:Int) - 0).toNat≤l7.length) ∧
      (bigRow (((l7.length:Int) - 0).toNat+1) 8) ∧
      (bigRow (l6.length+1) 80) ∧
      (I64 (i5+1)) ∧
      ze ns (i5+1) (l6++[(Node.mk 1 ((v16.toNat:Int).tmod 30) [] [] ((l7.drop (((l7.length:Int) - 0).toNat)).take (l7.length - (((l7.length:Int) - 0).toNat))))]) ((l7.take (((l7.length:Int) - 0).toNat))++[(l6.length:Int)]) r)) ∧
    (¬ (((v16.toNat:Int).tmod 11)=1) →
     ((((v16.toNat:Int).tmod 11)=2) →
      ((3≤(l7.length:Int)) →
       (I64 ((l7.length:Int) - 3)) ∧
       (0≤((l7.length:Int) - 3))∧(((l7.length:Int) - 3).toNat≤l7.length) ∧
       (bigRow (((l7.drop (((l7.length:Int) - 3).toNat)).take (l7.length - (((l7.length:Int) - 3).toNat))).length) 8) ∧
       (I64 ((l7.length:Int) - 3)) ∧
       (I64 ((l7.length:Int) - 3)) ∧
       (0≤((l7.length:Int) - 3))∧(((l7.length:Int) - 3).toNat≤l7.length) ∧
       (bigRow (((l7.length:Int) - 3).toNat+1) 8) ∧
       (bigRow (l6.length+1) 80) ∧
       (I64 (i5+1)) ∧
       ze ns (i5+1) (l6++[(Node.mk 10 0 [] [] ((l7.drop (((l7.length:Int) - 3).toNat)).take (l7.length - (((l7.length:Int) - 3).toNat))))]) ((l7.take (((l7.length:Int) - 3).toNat))++[(l6.length:Int)]) r) ∧
      (¬ (3≤(l7.length:Int)) →
       (I64 ((l7.length:Int) - 0)) ∧
       (0≤((l7.length:Int) - 0))∧(((l7.length:Int) - 0).toNat≤l7.length) ∧
       (bigRow (((l7.drop (((l7.length:Int) - 0).toNat)).take (l7.length - (((l7.length:Int) - 0).toNat))).length) 8) ∧
       (I64 ((l7.length:Int) - 0)) ∧
       (I64 ((l7.length:Int) - 0)) ∧
       (0≤((l7.length:Int) - 0))∧(((l7.length:Int) - 0).toNat≤l7.length) ∧
       (bigRow (((l7.length:Int) - 0).toNat+1) 8) ∧
       (bigRow (l6.length+1) 80) ∧
       (I64 (i5+1)) ∧
       ze ns (i5+1) (l6++[(Node.mk 1 ((v16.toNat:Int).tmod 30) [] [] ((l7.drop (((l7.length:Int) - 0).toNat)).take (l7.length - (((l7.length:Int) - 0).toNat))))]) ((l7.take (((l7.length:Int) - 0).toNat))++[(l6.length:Int)]) r)) ∧
     (¬ (((v16.toNat:Int).tmod 11)=2) →
      ((((v16.toNat:Int).tmod 11)=3) →
       ((2≤(l7.length:Int)) →
        (I64 ((l7.length:Int) - 2)) ∧
        (0≤((l7.length:Int) - 2))∧(((l7.length:Int) - 2).toNat≤l7.length) ∧
        (bigRow (((l7.drop (((l7.length:Int) - 2).toNat)).take (l7.length - (((l7.length:Int) - 2).toNat))).length) 8) ∧
        (I64 ((l7.length:Int) - 2)) ∧
        (I64 ((l7.length:Int) - 2)) ∧
        (0≤((l7.length:Int) - 2))∧(((l7.length:Int) - 2).toNat≤l7.length) ∧
        (bigRow (((l7.length:Int) - 2).toNat+1) 8) ∧
        (bigRow (l6.length+1) 80) ∧
        (I64 (i5+1)) ∧
        ze ns (i5+1) (l6++[(Node.mk 7 0 [] [] ((l7.drop (((l7.length:Int) - 2).toNat)).take (l7.length - (((l7.length:Int) - 2).toNat))))]) ((l7.take (((l7.length:Int) - 2).toNat))++[(l6.length:Int)]) r) ∧
       (¬ (2≤(l7.length:Int)) →
        (I64 ((l7.length:Int) - 0)) ∧
        (0≤((l7.length:Int) - 0))∧(((l7.length:Int) - 0).toNat≤l7.length) ∧
        (bigRow (((l7.drop (((l7.length:Int) - 0).toNat)).take (l7.length - (((l7.length:Int) - 0).toNat))).length) 8) ∧
        (I64 ((l7.length:Int) - 0)) ∧
        (I64 ((l7.length:Int) - 0)) ∧
        (0≤((l7.length:Int) - 0))∧(((l7.length:Int) - 0).toNat≤l7.length) ∧
        (bigRow (((l7.length:Int) - 0).toNat+1) 8) ∧
        (bigRow (l6.length+1) 80) ∧
        (I64 (i5+1)) ∧
        ze ns (i5+1) (l6++[(Node.mk 1 ((v16.toNat:Int).tmod 30) [] [] ((l7.drop (((l7.length:Int) - 0).toNat)).take (l7.length - (((l7.length:Int) - 0).toNat))))]) ((l7.take (((l7.length:Int) - 0).toNat))++[(l6.length:Int)]) r)) ∧
      (¬ (((v16.toNat:Int).tmod 11)=3) →
       ((((v16.toNat:Int).tmod 11)=4) →
        (I64 ((v16.toNat:Int).tdiv 11)) ∧
        (I64 ((l7.length:Int) - (if (((v16.toNat:Int).tdiv 11).tmod 4) < (l7.length:Int) then (((v16.toNat:Int).tdiv 11).tmod 4) else (l7.length:Int)))) ∧
        (0≤((l7.length:Int) - (if (((v16.toNat:Int).tdiv 11).tmod 4) < (l7.length:Int) then (((v16.toNat:Int).tdiv 11).tmod 4) else (l7.length:Int))))∧(((l7.length:Int) - (if (((v16.toNat:Int).tdiv 11).tmod 4) < (l7.length:Int) then (((v16.toNat:Int).tdiv 11).tmod 4) else (l7.length:Int))).toNat≤l7.length) ∧
        (bigRow (((l7.drop (((l7.length:Int) - (if (((v16.toNat:Int).tdiv 11).tmod 4) < (l7.length:Int) then (((v16.toNat:Int).tdiv 11).tmod 4) else (l7.length:Int))).toNat)).take (l7.length - (((l7.length:Int) - (if (((v16.toNat:Int).tdiv 11).tmod 4) < (l7.length:Int) then (((v16.toNat:Int).tdiv 11).tmod 4) else (l7.length:Int))).toNat))).length) 8) ∧
        (I64 ((l7.length:Int) - (if (((v16.toNat:Int).tdiv 11).tmod 4) < (l7.length:Int) then (((v16.toNat:Int).tdiv 11).tmod 4) else (l7.length:Int)))) ∧
        (I64 ((l7.length:Int) - (if (((v16.toNat:Int).tdiv 11).tmod 4) < (l7.length:Int) then (((v16.toNat:Int).tdiv 11).tmod 4) else (l7.length:Int)))) ∧
        (0≤((l7.length:Int) - (if (((v16.toNat:Int).tdiv 11).tmod 4) < (l7.length:Int) then (((v16.toNat:Int).tdiv 11).tmod 4) else (l7.length:Int))))∧(((l7.length:Int) - (if (((v16.toNat:Int).tdiv 11).tmod 4) < (l7.length:Int) then (((v16.toNat:Int).tdiv 11).tmod 4) else (l7.length:Int))).toNat≤l7.length) ∧
        (bigRow (((l7.length:Int) - (if (((v16.toNat:Int).tdiv 11).tmod 4) < (l7.length:Int) then (((v16.toNat:Int).tdiv 11).tmod 4) else (l7.length:Int))).toNat+1) 8) ∧
        (bigRow (l6.length+1) 80) ∧
        (I64 (i5+1)) ∧
        ze ns (i5+1) (l6++[(Node.mk 6 0 [] [] ((l7.drop (((l7.length:Int) - (if (((v16.toNat:Int).tdiv 11).tmod 4) < (l7.length:Int) then (((v16.toNat:Int).tdiv 11).tmod 4) else (l7.length:Int))).toNat)).take (l7.length - (((l7.length:Int) - (if (((v16.toNat:Int).tdiv 11).tmod 4) < (l7.length:Int) then (((v16.toNat:Int).tdiv 11).tmod 4) else (l7.length:Int))).toNat))))]) ((l7.take (((l7.length:Int) - (if (((v16.toNat:Int).tdiv 11).tmod 4) < (l7.length:Int) then (((v16.toNat:Int).tdiv 11).tmod 4) else (l7.length:Int))).toNat))++[(l6.length:Int)]) r) ∧
       (¬ (((v16.toNat:Int).tmod 11)=4) →
        ((((v16.toNat:Int).tmod 11)=5) →
         (I64 ((v16.toNat:Int).tdiv 11)) ∧
         (0≤(((v16.toNat:Int).tdiv 11).tmod 8)) ∧
         ∃ (v20:List UInt8),(([[109,105,110],[109,97,120],[115,117,109],[108,101,110],[99,111,110,99,97,116],[114,97,110,103,101],[116,101,120,116],[104,97,115]]:List (List UInt8))[(((v16.toNat:Int).tdiv 11).tmod 8).toNat]?=some v20) ∧
         (I64 ((v16.toNat:Int).tdiv 88)) ∧
         (I64 (1+((v16.toNat:Int).tdiv 88))) ∧
         (I64 ((l7.length:Int) - (if (1+((v16.toNat:Int).tdiv 88)) < (l7.length:Int) then (1+((v16.toNat:Int).tdiv 88)) else (l7.length:Int)))) ∧
         (0≤((l7.length:Int) - (if (1+((v16.toNat:Int).tdiv 88)) < (l7.length:Int) then (1+((v16.toNat:Int).tdiv 88)) else (l7.length:Int))))∧(((l7.length:Int) - (if (1+((v16.toNat:Int).tdiv 88)) < (l7.length:Int) then (1+((v16.toNat:Int).tdiv 88)) else (l7.length:Int))).toNat≤l7.length) ∧
         (bigRow (((l7.drop (((l7.length:Int) - (if (1+((v16.toNat:Int).tdiv 88)) < (l7.length:Int) then (1+((v16.toNat:Int).tdiv 88)) else (l7.length:Int))).toNat)).take (l7.length - (((l7.length:Int) - (if (1+((v16.toNat:Int).tdiv 88)) < (l7.length:Int) then (1+((v16.toNat:Int).tdiv 88)) else (l7.length:Int))).toNat))).length) 8) ∧
         (I64 ((l7.length:Int) - (if (1+((v16.toNat:Int).tdiv 88)) < (l7.length:Int) then (1+((v16.toNat:Int).tdiv 88)) else (l7.length:Int)))) ∧
         (I64 ((l7.length:Int) - (if (1+((v16.toNat:Int).tdiv 88)) < (l7.length:Int) then (1+((v16.toNat:Int).tdiv 88)) else (l7.length:Int)))) ∧
         (0≤((l7.length:Int) - (if (1+((v16.toNat:Int).tdiv 88)) < (l7.length:Int) then (1+((v16.toNat:Int).tdiv 88)) else (l7.length:Int))))∧(((l7.length:Int) - (if (1+((v16.toNat:Int).tdiv 88)) < (l7.length:Int) then (1+((v16.toNat:Int).tdiv 88)) else (l7.length:Int))).toNat≤l7.length) ∧
         (bigRow (((l7.length:Int) - (if (1+((v16.toNat:Int).tdiv 88)) < (l7.length:Int) then (1+((v16.toNat:Int).tdiv 88)) else (l7.length:Int))).toNat+1) 8) ∧
         (bigRow (l6.length+1) 80) ∧
         (I64 (i5+1)) ∧
         ze ns (i5+1) (l6++[(Node.mk 5 0 v20 [] ((l7.drop (((l7.length:Int) - (if (1+((v16.toNat:Int).tdiv 88)) < (l7.length:Int) then (1+((v16.toNat:Int).tdiv 88)) else (l7.length:Int))).toNat)).take (l7.length - (((l7.length:Int) - (if (1+((v16.toNat:Int).tdiv 88)) < (l7.length:Int) then (1+((v16.toNat:Int).tdiv 88)) else (l7.length:Int))).toNat))))]) ((l7.take (((l7.length:Int) - (if (1+((v16.toNat:Int).tdiv 88)) < (l7.length:Int) then (1+((v16.toNat:Int).tdiv 88)) else (l7.length:Int))).toNat))++[(l6.length:Int)]) r) ∧
        (¬ (((v16.toNat:Int).tmod 11)=5) →
         ((((v16.toNat:Int).tmod 11)=6) →
          (I64 ((v16.toNat:Int).tdiv 11)) ∧
          (0≤(((v16.toNat:Int).tdiv 11).tmod 4)) ∧
          ∃ (v21:List Part),(([[],[(Part.mk false [97,34,36,10])],[(Part.mk true [118,97,114,46,120])],[(Part.mk false [98]),(Part.mk true [108,111,99,97,108,46,121]),(Part.mk false [92])]]:List (List Part))[(((v16.toNat:Int).tdiv 11).tmod 4).toNat]?=some v21) ∧
          (I64 ((l7.length:Int) - 0)) ∧
          (0≤((l7.length:Int) - 0))∧(((l7.length:Int) - 0).toNat≤l7.length) ∧
          (bigRow (((l7.drop (((l7.length:Int) - 0).toNat)).take (l7.length - (((l7.length:Int) - 0).toNat))).length) 8) ∧
          (I64 ((l7.length:Int) - 0)) ∧
          (I64 ((l7.length:Int) - 0)) ∧
          (0≤((l7.length:Int) - 0))∧(((l7.length:Int) - 0).toNat≤l7.length) ∧
          (bigRow (((l7.length:Int) - 0).toNat+1) 8) ∧
          (bigRow (l6.length+1) 80) ∧
          (I64 (i5+1)) ∧
          ze ns (i5+1) (l6++[(Node.mk 2 0 [] v21 ((l7.drop (((l7.length:Int) - 0).toNat)).take (l7.length - (((l7.length:Int) - 0).toNat))))]) ((l7.take (((l7.length:Int) - 0).toNat))++[(l6.length:Int)]) r) ∧
         (¬ (((v16.toNat:Int).tmod 11)=6) →
          ((((v16.toNat:Int).tmod 11)=7) →
           (I64 ((v16.toNat:Int).tdiv 11)) ∧
           (I64 ((l7.length:Int) - 0)) ∧
           (0≤((l7.length:Int) - 0))∧(((l7.length:Int) - 0).toNat≤l7.length) ∧
           (bigRow (((l7.drop (((l7.length:Int) - 0).toNat)).take (l7.length - (((l7.length:Int) - 0).toNat))).length) 8) ∧
           (I64 ((l7.length:Int) - 0)) ∧
           (I64 ((l7.length:Int) - 0)) ∧
           (0≤((l7.length:Int) - 0))∧(((l7.length:Int) - 0).toNat≤l7.length) ∧
           (bigRow (((l7.length:Int) - 0).toNat+1) 8) ∧
           (bigRow (l6.length+1) 80) ∧
           (I64 (i5+1)) ∧
           ze ns (i5+1) (l6++[(Node.mk 3 (((v16.toNat:Int).tdiv 11).tmod 2) [] [] ((l7.drop (((l7.length:Int) - 0).toNat)).take (l7.length - (((l7.length:Int) - 0).toNat))))]) ((l7.take (((l7.length:Int) - 0).toNat))++[(l6.length:Int)]) r) ∧
          (¬ (((v16.toNat:Int).tmod 11)=7) →
           ((((v16.toNat:Int).tmod 11)=8) →
            (I64 ((v16.toNat:Int).tdiv 11)) ∧
            (0≤(((v16.toNat:Int).tdiv 11).tmod 4)) ∧
            ∃ (v22:List UInt8),(([[118,97,114,46,120],[108,111,99,97,108,46,121],[99,111,117,110,116,46,105,110,100,101,120],[118,97,114,46,108]]:List (List UInt8))[(((v16.toNat:Int).tdiv 11).tmod 4).toNat]?=some v22) ∧
            (I64 ((l7.length:Int) - 0)) ∧
            (0≤((l7.length:Int) - 0))∧(((l7.length:Int) - 0).toNat≤l7.length) ∧
            (bigRow (((l7.drop (((l7.length:Int) - 0).toNat)).take (l7.length - (((l7.length:Int) - 0).toNat))).length) 8) ∧
            (I64 ((l7.length:Int) - 0)) ∧
            (I64 ((l7.length:Int) - 0)) ∧
            (0≤((l7.length:Int) - 0))∧(((l7.length:Int) - 0).toNat≤l7.length) ∧
            (bigRow (((l7.length:Int) - 0).toNat+1) 8) ∧
            (bigRow (l6.length+1) 80) ∧
            (I64 (i5+1)) ∧
            ze ns (i5+1) (l6++[(Node.mk 4 0 v22 [] ((l7.drop (((l7.length:Int) - 0).toNat)).take (l7.length - (((l7.length:Int) - 0).toNat))))]) ((l7.take (((l7.length:Int) - 0).toNat))++[(l6.length:Int)]) r) ∧
           (¬ (((v16.toNat:Int).tmod 11)=8) →
            (I64 ((l7.length:Int) - 0)) ∧
            (0≤((l7.length:Int) - 0))∧(((l7.length:Int) - 0).toNat≤l7.length) ∧
            (bigRow (((l7.drop (((l7.length:Int) - 0).toNat)).take (l7.length - (((l7.length:Int) - 0).toNat))).length) 8) ∧
            (I64 ((l7.length:Int) - 0)) ∧
            (I64 ((l7.length:Int) - 0)) ∧
            (0≤((l7.length:Int) - 0))∧(((l7.length:Int) - 0).toNat≤l7.length) ∧
            (bigRow (((l7.length:Int) - 0).toNat+1) 8) ∧
            (bigRow (l6.length+1) 80) ∧
            (I64 (i5+1)) ∧
            ze ns (i5+1) (l6++[(Node.mk 1 ((v16.toNat:Int).tmod 30) [] [] ((l7.drop (((l7.length:Int) - 0).toNat)).take (l7.length - (((l7.length:Int) - 0).toNat))))]) ((l7.take (((l7.length:Int) - 0).toNat))++[(l6.length:Int)]) r)))))))))) ∧
  (¬ ((l6.length:Int) < 40) →
   ze5 l6 l7 r)) ∧
 (¬ (i5 < (ns.length:Int)) →
  ze5 l6 l7 r)):ze ns i5 l6 l7 r:=by
 intro S e f h
 unfold zhT
 rw[zo]
 have F:=zhN
 exact rn (aa h<|F) T
theorem zl5 (l14:List Node) (l15:List Int) (r:List Node) (T :
  ((1 < (l15.length:Int)) →
  (I64 ((l15.length:Int) - 2)) ∧
  (0≤((l15.length:Int) - 2))∧(((l15.length:Int) - 2).toNat < l15.length) ∧
  ∃ (v25:Int),(l15[((l15.length:Int) - 2).toNat]?=some v25) ∧
  (I64 ((l15.length:Int) - 1)) ∧
  (0≤((l15.length:Int) - 1))∧(((l15.length:Int) - 1).toNat < l15.length) ∧
  ∃ (v26:Int),(l15[((l15.length:Int) - 1).toNat]?=some v26) ∧
  (bigRow (l14.length+1) 80) ∧
  (I64 ((l15.length:Int) - 2)) ∧
  (I64 ((l15.length:Int) - 2)) ∧
  (0≤((l15.length:Int) - 2))∧(((l15.length:Int) - 2).toNat≤l15.length) ∧
  (I64 (((l14.length+1:Nat):Int) - 1)) ∧
  (bigRow (((l15.length:Int) - 2).toNat+1) 8) ∧
  zd1 (l14++[(Node.mk 19 0 [] [] [v25,v26])]) ((l15.take (((l15.length:Int) - 2).toNat))++[(((l14.length+1:Nat):Int) - 1)]) r) ∧
 (¬ (1 < (l15.length:Int)) →
  l14=r)):ziL l14 l15 r:=by
 intro S e f h
 unfold zex
 rw[zo]
 have F:=zhN
 exact rn (aa h<|F) T
theorem zfM (l23:List Node) (l24:List Int) (r:List Node) (T :
  ((1 < (l24.length:Int)) →
  (I64 ((l24.length:Int) - 2)) ∧
  (0≤((l24.length:Int) - 2))∧(((l24.length:Int) - 2).toNat < l24.length) ∧
  ∃ (v29:Int),(l24[((l24.length:Int) - 2).toNat]?=some v29) ∧
  (I64 ((l24.length:Int) - 1)) ∧
  (0≤((l24.length:Int) - 1))∧(((l24.length:Int) - 1).toNat < l24.length) ∧
  ∃ (v30:Int),(l24[((l24.length:Int) - 1).toNat]?=some v30) ∧
  (bigRow (l23.length+1) 80) ∧
  (I64 ((l24.length:Int) - 2)) ∧
  (I64 ((l24.length:Int) - 2)) ∧
  (0≤((l24.length:Int) - 2))∧(((l24.length:Int) - 2).toNat≤l24.length) ∧
  (I64 (((l23.length+1:Nat):Int) - 1)) ∧
  (bigRow (((l24.length:Int) - 2).toNat+1) 8) ∧
  zd1 (l23++[(Node.mk 19 0 [] [] [v29,v30])]) ((l24.take (((l24.length:Int) - 2).toNat))++[(((l23.length+1:Nat):Int) - 1)]) r) ∧
 (¬ (1 < (l24.length:Int)) →
  l23=r)):ze5 l23 l24 r:=by
 intro S e f h
 unfold zex
 rw[zo]
 have F:=zhN
 exact rn (aa h<|F) T
theorem zfE (l27:List Node) (l28:List Int) (r:List Node) (T :
  ((1 < (l28.length:Int)) →
  (I64 ((l28.length:Int) - 2)) ∧
  (0≤((l28.length:Int) - 2))∧(((l28.length:Int) - 2).toNat < l28.length) ∧
  ∃ (v31:Int),(l28[((l28.length:Int) - 2).toNat]?=some v31) ∧
  (I64 ((l28.length:Int) - 1)) ∧
  (0≤((l28.length:Int) - 1))∧(((l28.length:Int) - 1).toNat < l28.length) ∧
  ∃ (v32:Int),(l28[((l28.length:Int) - 1).toNat]?=some v32) ∧
  (bigRow (l27.length+1) 80) ∧
  (I64 ((l28.length:Int) - 2)) ∧
  (I64 ((l28.length:Int) - 2)) ∧
  (0≤((l28.length:Int) - 2))∧(((l28.length:Int) - 2).toNat≤l28.length) ∧
  (I64 (((l27.length+1:Nat):Int) - 1)) ∧
  (bigRow (((l28.length:Int) - 2).toNat+1) 8) ∧
  zd1 (l27++[(Node.mk 19 0 [] [] [v31,v32])]) ((l28.take (((l28.length:Int) - 2).toNat))++[(((l27.length+1:Nat):Int) - 1)]) r) ∧
 (¬ (1 < (l28.length:Int)) →
  l27=r)):zd1 l27 l28 r:=by
 intro S e f h
 unfold zex
 rw[zo]
 have F:=zhN
 exact rn (aa h<|F) T
theorem zue (ns:List UInt8) (r:List Node) (T :
  ziO ns 0 [] [] r):zjw ns r:=by
 intro S
 rw[za zxS _ _ rfl]
 have F:=zhN
 exact rn F T
theorem zzo:SP 6=some (.code sc_Q6):=zb rfl Tryz.func6 comp_Q6
theorem zpF (ns:List UInt8) (r:Bool) (T :
  ∃ (r1:List Node),(zjw ns r1) ∧
 ∃ (r2:List UInt8),(zh8 r1 r2) ∧
 ∃ (r3:List UInt8),(zms r1 r3) ∧
 ((r2=r3) →
  (((decide (r2=[]))=(decide ((r1.length:Int)=0))) →
   ∃ (r4:List Node) (r5:Int),(zbb r2 r4 r5) ∧
   (((r1.length:Int)=0) →
    ∃ (r6:Bool),(ze3 r6) ∧
    r6=r) ∧
   (¬ ((r1.length:Int)=0) →
    ∃ (r7:Int),(zmm r5 r7) ∧
    ((r7=0) →
     ∃ (r8:Bool),(zmv r1 r4 r8) ∧
     ((r8=true) →
      ∃ (r9:Bool),(ze3 r9) ∧
      r9=r) ∧
     (¬ (r8=true) →
      false=r)) ∧
    (¬ (r7=0) →
     ((r7=6) →
      ∃ (r10:Bool),(ze3 r10) ∧
      r10=r) ∧
     (¬ (r7=6) →
      false=r)))) ∧
  (¬ ((decide (r2=[]))=(decide ((r1.length:Int)=0))) →
   false=r)) ∧
 (¬ (r2=r3) →
  false=r)):zqX ns r:=by
 intro S
 rw[za zzo _ _ rfl]
 have F:=U_Q6
 obtain⟨r1,q1,r2,q2,r3,q3,T⟩:=T
 simp only[zjw,lF] at q1
 simp only[zh8,lF] at q2
 simp only[zms,lF] at q3
 replace F:=aa q1<|aa q2<|aa q3<|F
 by_cases c4:r2=r3
 ·replace T:=T.1 c4
  replace F:=aa (eq_true c4)<|F
  by_cases c5:(decide (r2=[]))=(decide ((r1.length:Int)=0))
  ·replace T:=T.1 c5
   obtain⟨r4,r5,q6,T⟩:=T
   simp only[zbb,lF] at q6
   replace F:=aa c5<|aa q6<|F
   by_cases c7:(r1.length:Int)=0
   ·replace T:=T.1 c7
    obtain⟨r6,q8,rfl⟩:=T
    simp only[ze3,lF] at q8
    exact fi (aa (eq_true c7)<|aa q8<|F)
   replace T:=T.2 c7
   obtain⟨r7,q9,T⟩:=T
   simp only[zmm,lF] at q9
   replace F:=aa (eq_false c7)<|aa q9<|F
   by_cases c10:r7=0
   ·replace T:=T.1 c10
    obtain⟨r8,q11,T⟩:=T
    simp only[zmv,lF] at q11
    replace F:=aa (eq_true c10)<|aa q11<|F
    by_cases c12:r8=true
    ·replace T:=T.1 c12
     obtain⟨r9,q13,rfl⟩:=T
     simp only[ze3,lF] at q13
     exact fi (aa c12<|aa q13<|F)
    replace T:=T.2 c12
    replace c12:=Bool.eq_false_iff.2 c12
    obtain rfl:=T
    have d14:¬ (r7=6):=fun h=>absurd (c10.symm.trans h) (by decide)
    exact fi (aa c12<|aa (eq_false d14)<|F)
   replace T:=T.2 c10
   replace F:=aa (eq_false c10)<|F
   by_cases c15:r7=6
   ·replace T:=T.1 c15
    obtain⟨r10,q16,rfl⟩:=T
    simp only[ze3,lF] at q16
    exact fi (aa (eq_true c15)<|aa q16<|F)
   replace T:=T.2 c15
   obtain rfl:=T
   exact fi (aa (eq_false c15)<|F)
  replace T:=T.2 c5
  obtain rfl:=T
  exact fi (aa (eq_false c5)<|F)
 replace T:=T.2 c4
 obtain rfl:=T
 exact fi (aa (eq_false c4)<|F)
end Go.Proofs.YtfbcnpbhhooapaaGreatDoor.M
namespace Go.Proofs.YtfbcnpbhhooapaaGreatDoor.M
open Go Classical
def zd2 (r:List Node):Prop:=r=[]∨TR r∧(exS r).length≤6000∧∀ n ∈ r,NP n
structure MJ (l:List Node) (st:List Int):Prop where
 mi:MI l st
 le:st.length≤l.length
 e:l≠[]→st≠[]
theorem ztc {l:List Node} {st:List Int} (h:MJ l st) (hl:l.length≤80) (h1:¬ 1 < (st.length:Int)):zd2 l:=by
 by_cases he:l=[]
 ·exact .inl he
 have h2:=h.e he
 have h3:st.length≠0:=fun e=>h2 (List.length_eq_zero_iff.1 e)
 exact .inr (h.mi.tree (by omega) hl)
theorem zpq {l:List Node} {st:List Int} (h:MJ l st) (h1:1 < (st.length:Int)):∃ a b:Int,st[((st.length:Int) - 2).toNat]?=some a∧st[((st.length:Int) - 1).toNat]?=some b∧MJ (l++[Node.mk 19 0 [] [] [a,b]]) (st.take ((st.length:Int) - 2).toNat++[((l.length+1:Nat):Int) - 1]):=by
 have e2:((st.length:Int) - 2).toNat=st.length - 2:=by omega
 have e1:((st.length:Int) - 1).toNat=st.length - 1:=by omega
 have hd:st.drop (st.length - 2)=[st[st.length - 2]'(by omega),st[st.length - 1]'(by omega)]:=by
  rw[List.drop_eq_getElem_cons (by omega),List.drop_eq_getElem_cons (by omega),List.drop_of_length_le (by omega)]
  simp only[show st.length - 2+1=st.length - 1 by omega]
 refine⟨st[st.length - 2]'(by omega),st[st.length - 1]'(by omega),by rw[e2];exact List.getElem?_eq_getElem _,by rw[e1];exact List.getElem?_eq_getElem _,?_⟩
 have hm:MN (Node.mk 19 0 [] [] [st[st.length - 2]'(by omega),st[st.length - 1]'(by omega)]):=zcj (by decide) (by decide) (.inl (by simp[kdS])) (by simp)
 have:=h.mi.snoc (k:=2) (by omega) hm hd.symm
 rw[e2,show (((l.length+1:Nat):Int) - 1)=(l.length:Int) by omega]
 refine⟨this,?_,fun _=>by simp⟩
 have:=h.le
 simp only[List.length_append,List.length_take,List.length_cons,List.length_nil]
 omega
theorem znq {st:List Int} (h1:1 < (st.length:Int)) (x:Int):(st.take ((st.length:Int) - 2).toNat++[x]).length+1=st.length:=by
 simp only[List.length_append,List.length_take,List.length_cons,List.length_nil]
 omega
theorem zpf:∀ (m:Nat) (l:List Node) (st:List Int),st.length≤m→MJ l st→l.length+st.length≤80→∃ r,zd1 l st r∧zd2 r
 | m,l,st,hm,h,hl=>by
  by_cases h1:1 < (st.length:Int)
  ·match m,hm with
   | 0,hm=>omega
   | m+1,hm =>
    obtain⟨a,b,ha,hb,hj⟩:=zpq h h1
    have hx:=znq h1 (((l.length+1:Nat):Int) - 1)
    obtain⟨r,hr,hp⟩:=zpf m _ _ (by omega) hj (by rw[List.length_append];simp only[List.length_cons,List.length_nil];omega)
    exact⟨r,zfE _ _ _ ⟨fun _=>⟨⟨by omega,by omega⟩,by omega,by omega,a,ha,⟨by omega,by omega⟩,by omega,by omega,b,hb,by simp only[bigRow];omega,⟨by omega,by omega⟩,⟨by omega,by omega⟩,by omega,by omega,⟨by omega,by omega⟩,by simp only[bigRow];omega,hr⟩,fun hf=>absurd h1 hf⟩,hp⟩
  exact⟨l,zfE _ _ _ ⟨fun hf=>absurd hf h1,fun _=>rfl⟩,ztc h (by omega) h1⟩
theorem zqb (l:List Node) (st:List Int) (h:MJ l st) (hl:l.length+st.length≤80):∃ r,ze5 l st r∧zd2 r:=by
 by_cases h1:1 < (st.length:Int)
 ·obtain⟨a,b,ha,hb,hj⟩:=zpq h h1
  have hx:=znq h1 (((l.length+1:Nat):Int) - 1)
  obtain⟨r,hr,hp⟩:=zpf _ _ _ (Nat.le_refl _) hj (by rw[List.length_append];simp only[List.length_cons,List.length_nil];omega)
  exact⟨r,zfM _ _ _ ⟨fun _=>⟨⟨by omega,by omega⟩,by omega,by omega,a,ha,⟨by omega,by omega⟩,by omega,by omega,b,hb,by simp only[bigRow];omega,⟨by omega,by omega⟩,⟨by omega,by omega⟩,by omega,by omega,⟨by omega,by omega⟩,by simp only[bigRow];omega,hr⟩,fun hf=>absurd h1 hf⟩,hp⟩
 exact⟨l,zfM _ _ _ ⟨fun hf=>absurd hf h1,fun _=>rfl⟩,ztc h (by omega) h1⟩
theorem zpA {l:List Node} {st:List Int} (h:MJ l st) {k:Int} (h0:0≤k) (hk:k≤(st.length:Int)) (f:List Int→Node) (hf:∀ ks:List Int,(ks.length:Int)=k→MN (f ks)∧(f ks).Kids=ks):MJ (l++[f ((st.drop ((st.length:Int) - k).toNat).take (st.length - ((st.length:Int) - k).toNat))]) (st.take ((st.length:Int) - k).toNat++[(l.length:Int)]):=by
 have e:((st.length:Int) - k).toNat=st.length - k.toNat:=by omega
 rw[e,List.take_of_length_le (l:=st.drop _) (by rw[List.length_drop];omega)]
 have hlen:(((st.drop (st.length - k.toNat)).length:Nat):Int)=k:=by rw[List.length_drop];omega
 obtain⟨h1,h2⟩:=hf _ hlen
 refine⟨h.mi.snoc (k:=k.toNat) (by omega) h1 h2,?_,fun _=>by simp⟩
 have:=h.le
 simp only[List.length_append,List.length_take,List.length_cons,List.length_nil]
 omega
theorem zj {l:List Node} {st:List Int} (hl:l.length < 40) (hs:st.length≤40) {k i:Int} (h0:0≤k) (hk:k≤(st.length:Int)) (hi:I64 (i+1)) {P:Prop} (h:P) :
  (I64 ((st.length:Int) - k))∧(0≤((st.length:Int) - k))∧(((st.length:Int) - k).toNat≤st.length)∧(bigRow (((st.drop (((st.length:Int) - k).toNat)).take (st.length - (((st.length:Int) - k).toNat))).length) 8)∧(I64 ((st.length:Int) - k))∧(I64 ((st.length:Int) - k))∧(0≤((st.length:Int) - k))∧(((st.length:Int) - k).toNat≤st.length)∧(bigRow (((st.length:Int) - k).toNat+1) 8)∧(bigRow (l.length+1) 80)∧(I64 (i+1))∧P:=by
 refine⟨⟨by omega,by omega⟩,by omega,by omega,?_,⟨by omega,by omega⟩,⟨by omega,by omega⟩,by omega,by omega,?_,?_,hi,h⟩
 ·simp only[bigRow,List.length_take,List.length_drop];omega
 ·simp only[bigRow];omega
 simp only[bigRow];omega
theorem zbg {α:Type} (T:List α) {i:Int} (h0:0≤i) (h1:i < (T.length:Int)):∃ v,T[i.toNat]?=some v∧v ∈ T:=by
 have h:i.toNat < T.length:=by omega
 exact⟨T[i.toNat],List.getElem?_eq_getElem h,List.getElem_mem h⟩
theorem zj4 {ks:List Int} (h:(ks.length:Int)=0):ks=[]:=List.length_eq_zero_iff.1 (by omega)
section
variable {v:Int} (h0:0≤v) (h1:v≤255)
include h0 h1
theorem zu5 (hv:v.tdiv 3=v / 3):∀ ks:List Int,(ks.length:Int)=2→MN (Node.mk (11+((v.tdiv 3).tmod 13)) 0 [] [] ks)∧(Node.mk (11+((v.tdiv 3).tmod 13)) 0 [] [] ks).Kids=ks:=fun ks hk=>by
 have:(v.tdiv 3).tmod 13=(v / 3) % 13:=by rw[hv];exact Int.tmod_eq_emod_of_nonneg (by omega)
 rw[this]
 exact⟨zcj (by omega) (by omega) (.inl (by rw[zzx (by omega) (by omega)];omega)) (by omega),rfl⟩
theorem zmu (hv:v.tdiv 11=v / 11):∀ ks:List Int,(ks.length:Int)=1→MN (Node.mk (8+((v.tdiv 11).tmod 2)) 0 [] [] ks)∧(Node.mk (8+((v.tdiv 11).tmod 2)) 0 [] [] ks).Kids=ks:=fun ks hk=>by
 have:(v.tdiv 11).tmod 2=(v / 11) % 2:=by rw[hv];exact Int.tmod_eq_emod_of_nonneg (by omega)
 rw[this]
 have h2:8+v / 11 % 2=8∨8+v / 11 % 2=9:=by omega
 exact⟨zcj (by omega) (by omega) (.inl (by rcases h2 with h | h <;> rw[h] <;> simp[kdS] <;> omega)) (by omega),rfl⟩
theorem zaV:∀ ks:List Int,(ks.length:Int)=0→MN (Node.mk 1 (v.tmod 30) [] [] ks)∧(Node.mk 1 (v.tmod 30) [] [] ks).Kids=ks:=fun ks hk=>by
 have:v.tmod 30=v % 30:=Int.tmod_eq_emod_of_nonneg (by omega)
 rw[this,zj4 hk]
 exact⟨zun (by omega) (by omega),rfl⟩
theorem zhW (hv:v.tdiv 11=v / 11):∀ ks:List Int,(ks.length:Int)=0→MN (Node.mk 3 ((v.tdiv 11).tmod 2) [] [] ks)∧(Node.mk 3 ((v.tdiv 11).tmod 2) [] [] ks).Kids=ks:=fun ks hk=>by
 have:(v.tdiv 11).tmod 2=(v / 11) % 2:=by rw[hv];exact Int.tmod_eq_emod_of_nonneg (by omega)
 rw[this,zj4 hk]
 exact⟨zrP (by omega),rfl⟩
end
theorem zdN {k n:Int} (h:k=7∧n=2∨k=10∧n=3∨k=6∧n≤3):∀ ks:List Int,(ks.length:Int)=n→MN (Node.mk k 0 [] [] ks)∧(Node.mk k 0 [] [] ks).Kids=ks:=fun ks hk=>by
 rcases h with⟨rfl,rfl⟩ | ⟨rfl,rfl⟩ | ⟨rfl,h⟩
 ·exact⟨zcj (by decide) (by decide) (.inl (by simp only[kdS];simp;omega)) (by omega),rfl⟩
 ·exact⟨zcj (by decide) (by decide) (.inl (by simp only[kdS];simp;omega)) (by omega),rfl⟩
 exact⟨zcj (by decide) (by decide) (.inr rfl) (by omega),rfl⟩
theorem zh9 {s:List UInt8} (h:s ∈ zaM) {n:Int} (hn:n≤3):∀ ks:List Int,(ks.length:Int)=n→MN (Node.mk 5 0 s [] ks)∧(Node.mk 5 0 s [] ks).Kids=ks:=fun ks hk=>⟨ztq h (by omega),rfl⟩
theorem zjI {p:List Part} (h:p ∈ zaO):∀ ks:List Int,(ks.length:Int)=0→MN (Node.mk 2 0 [] p ks)∧(Node.mk 2 0 [] p ks).Kids=ks:=fun ks hk=>by
 rw[zj4 hk];exact⟨ztZ h,rfl⟩
theorem zjJ {s:List UInt8} (h:s ∈ za8):∀ ks:List Int,(ks.length:Int)=0→MN (Node.mk 4 0 s [] ks)∧(Node.mk 4 0 s [] ks).Kids=ks:=fun ks hk=>by
 rw[zj4 hk];exact⟨zul h,rfl⟩
theorem zpo (ns:List UInt8):∀ (m:Nat) (i:Int) (l:List Node) (st:List Int),i=(l.length:Int)→m+l.length=40→MJ l st→∃ r,ze ns i l st r∧zd2 r
 | m,i,l,st,hil,hm,h=>by
  have hs:st.length≤40:=by have:=h.le;omega
  by_cases hi:i < (ns.length:Int)
  rotate_left
  ·obtain⟨r,hr,hp⟩:=zqb l st h (by omega)
   exact⟨r,zk _ _ _ _ _ ⟨fun hf=>absurd hf hi,fun _=>hr⟩,hp⟩
  match m,hm with
  | 0,hm =>
   obtain⟨r,hr,hp⟩:=zqb l st h (by omega)
   exact⟨r,zk _ _ _ _ _ ⟨fun _=>⟨fun hf=>by omega,fun _=>hr⟩,fun hf=>absurd hi hf⟩,hp⟩
  | m+1,hm =>
  have key:∀ {k:Int} (f:List Int→Node),0≤k→k≤(st.length:Int)→(∀ ks:List Int,(ks.length:Int)=k→MN (f ks)∧(f ks).Kids=ks)→∃ r,ze ns (i+1) (l++[f ((st.drop ((st.length:Int) - k).toNat).take (st.length - ((st.length:Int) - k).toNat))]) (st.take ((st.length:Int) - k).toNat++[(l.length:Int)]) r∧zd2 r:=fun f h0 hk hf=>zpo ns m (i+1) _ _ (by rw[List.length_append];simp only[List.length_cons,List.length_nil];omega) (by rw[List.length_append];simp only[List.length_cons,List.length_nil];omega) (zpA h h0 hk f hf)
  obtain⟨v,hv⟩:∃ v,ns[i.toNat]?=some v:=⟨_,List.getElem?_eq_getElem (show i.toNat < ns.length by omega)⟩
  have x0:(0:Int)≤(v.toNat:Int):=by omega
  have x1:(v.toNat:Int)≤255:=by have:=v.toNat_lt;omega
  generalize hx:(v.toNat:Int)=x at x0 x1
  have d11:x.tdiv 11=x / 11:=Int.tdiv_eq_ediv_of_nonneg x0
  have d3:x.tdiv 3=x / 3:=Int.tdiv_eq_ediv_of_nonneg x0
  have d88:x.tdiv 88=x / 88:=Int.tdiv_eq_ediv_of_nonneg x0
  have m11:x.tmod 11=x % 11:=Int.tmod_eq_emod_of_nonneg x0
  have y4:(x.tdiv 11).tmod 4=(x / 11) % 4:=by rw[d11];exact Int.tmod_eq_emod_of_nonneg (by omega)
  have y8:(x.tdiv 11).tmod 8=(x / 11) % 8:=by rw[d11];exact Int.tmod_eq_emod_of_nonneg (by omega)
  have y2:(x.tdiv 11).tmod 2=(x / 11) % 2:=by rw[d11];exact Int.tmod_eq_emod_of_nonneg (by omega)
  have y13:(x.tdiv 3).tmod 13=(x / 3) % 13:=by rw[d3];exact Int.tmod_eq_emod_of_nonneg (by omega)
  have x64:I64 x:=⟨by omega,by omega⟩
  have q64:I64 (x.tdiv 11):=⟨by omega,by omega⟩
  have t64:I64 (x.tdiv 3):=⟨by omega,by omega⟩
  have e64:I64 (x.tdiv 88):=⟨by omega,by omega⟩
  have f64:I64 (1+x.tdiv 88):=⟨by omega,by omega⟩
  have u64:I64 (8+((x.tdiv 11).tmod 2)):=⟨by omega,by omega⟩
  have o64:I64 (11+((x.tdiv 3).tmod 13)):=⟨by omega,by omega⟩
  have i64:I64 (i+1):=⟨by omega,by omega⟩
  by_cases a:x.tmod 3=0
  ·by_cases b:2≤(st.length:Int)
   ·obtain⟨r,hr,hp⟩:=key (k:=2) (fun ks=>Node.mk (11+((x.tdiv 3).tmod 13)) 0 [] [] ks) (by decide) b (zu5 x0 x1 d3)
    refine⟨r,zk _ _ _ _ _ ⟨fun _=>⟨fun _=>⟨by omega,v,hv,by rw[hx];exact x64,?_⟩,fun hf=>absurd (by omega) hf⟩,fun hf=>absurd hi hf⟩,hp⟩
    simp only[hx,eq_true a,eq_true b,true_implies,not_true_eq_false,false_implies,and_true,true_and,not_false_eq_true,Int.reduceEq,forall_const,implies_true]
    exact⟨t64,o64,(zj (by omega) hs (by omega) (by omega) i64 hr)⟩
   have cs:x.tmod 11=1∨x.tmod 11=2∨x.tmod 11=3∨x.tmod 11=4∨x.tmod 11=5∨x.tmod 11=6∨x.tmod 11=7∨x.tmod 11=8∨(x.tmod 11≠1∧x.tmod 11≠2∧x.tmod 11≠3∧x.tmod 11≠4∧x.tmod 11≠5∧x.tmod 11≠6∧x.tmod 11≠7∧x.tmod 11≠8):=by omega
   rcases cs with c | c | c | c | c | c | c | c | c
   ·by_cases d:1≤(st.length:Int)
    ·obtain⟨r,hr,hp⟩:=key (k:=1) (fun ks=>Node.mk (8+((x.tdiv 11).tmod 2)) 0 [] [] ks) (by decide) d (zmu x0 x1 d11)
     refine⟨r,zk _ _ _ _ _ ⟨fun _=>⟨fun _=>⟨by omega,v,hv,by rw[hx];exact x64,?_⟩,fun hf=>absurd (by omega) hf⟩,fun hf=>absurd hi hf⟩,hp⟩
     simp only[hx,eq_true d,c,eq_true a,eq_false b,true_implies,not_true_eq_false,false_implies,and_true,true_and,not_false_eq_true,Int.reduceEq,forall_const,implies_true]
     exact⟨q64,u64,(zj (by omega) hs (by omega) (by omega) i64 hr)⟩
    obtain⟨r,hr,hp⟩:=key (k:=0) (fun ks=>Node.mk 1 (x.tmod 30) [] [] ks) (by decide) (by omega) (zaV x0 x1)
    refine⟨r,zk _ _ _ _ _ ⟨fun _=>⟨fun _=>⟨by omega,v,hv,by rw[hx];exact x64,?_⟩,fun hf=>absurd (by omega) hf⟩,fun hf=>absurd hi hf⟩,hp⟩
    simp only[hx,eq_false d,c,eq_true a,eq_false b,true_implies,not_true_eq_false,false_implies,and_true,true_and,not_false_eq_true,Int.reduceEq,forall_const,implies_true]
    exact (zj (by omega) hs (by omega) (by omega) i64 hr)
   ·by_cases d:3≤(st.length:Int)
    ·obtain⟨r,hr,hp⟩:=key (k:=3) (fun ks=>Node.mk 10 0 [] [] ks) (by decide) d (zdN (.inr (.inl ⟨rfl,rfl⟩)))
     refine⟨r,zk _ _ _ _ _ ⟨fun _=>⟨fun _=>⟨by omega,v,hv,by rw[hx];exact x64,?_⟩,fun hf=>absurd (by omega) hf⟩,fun hf=>absurd hi hf⟩,hp⟩
     simp only[hx,eq_true d,c,eq_true a,eq_false b,true_implies,not_true_eq_false,false_implies,and_true,true_and,not_false_eq_true,Int.reduceEq,forall_const,implies_true]
     exact (zj (by omega) hs (by omega) (by omega) i64 hr)
    obtain⟨r,hr,hp⟩:=key (k:=0) (fun ks=>Node.mk 1 (x.tmod 30) [] [] ks) (by decide) (by omega) (zaV x0 x1)
    refine⟨r,zk _ _ _ _ _ ⟨fun _=>⟨fun _=>⟨by omega,v,hv,by rw[hx];exact x64,?_⟩,fun hf=>absurd (by omega) hf⟩,fun hf=>absurd hi hf⟩,hp⟩
    simp only[hx,eq_false d,c,eq_true a,eq_false b,true_implies,not_true_eq_false,false_implies,and_true,true_and,not_false_eq_true,Int.reduceEq,forall_const,implies_true]
    exact (zj (by omega) hs (by omega) (by omega) i64 hr)
   ·obtain⟨r,hr,hp⟩:=key (k:=0) (fun ks=>Node.mk 1 (x.tmod 30) [] [] ks) (by decide) (by omega) (zaV x0 x1)
    refine⟨r,zk _ _ _ _ _ ⟨fun _=>⟨fun _=>⟨by omega,v,hv,by rw[hx];exact x64,?_⟩,fun hf=>absurd (by omega) hf⟩,fun hf=>absurd hi hf⟩,hp⟩
    simp only[hx,c,eq_true a,eq_false b,true_implies,not_true_eq_false,false_implies,and_true,true_and,not_false_eq_true,Int.reduceEq,forall_const,implies_true]
    exact (zj (by omega) hs (by omega) (by omega) i64 hr)
   ·obtain⟨r,hr,hp⟩:=key (k:=(if ((x.tdiv 11).tmod 4) < (st.length:Int) then ((x.tdiv 11).tmod 4) else (st.length:Int))) (fun ks=>Node.mk 6 0 [] [] ks) (by split <;> omega) (by split <;> omega) (zdN (.inr (.inr ⟨rfl,by split <;> omega⟩)))
    refine⟨r,zk _ _ _ _ _ ⟨fun _=>⟨fun _=>⟨by omega,v,hv,by rw[hx];exact x64,?_⟩,fun hf=>absurd (by omega) hf⟩,fun hf=>absurd hi hf⟩,hp⟩
    simp only[hx,c,eq_true a,eq_false b,true_implies,not_true_eq_false,false_implies,and_true,true_and,not_false_eq_true,Int.reduceEq,forall_const,implies_true]
    exact⟨q64,(zj (by omega) hs (by split <;> omega) (by split <;> omega) i64 hr)⟩
   ·obtain⟨s,hs1,hs2⟩:=zbg zaM (i:=(x.tdiv 11).tmod 8) (by omega) (by simp only[zaM,List.length_cons,List.length_nil];omega)
    obtain⟨r,hr,hp⟩:=key (k:=(if (1+(x.tdiv 88)) < (st.length:Int) then (1+(x.tdiv 88)) else (st.length:Int))) (fun ks=>Node.mk 5 0 s [] ks) (by split <;> omega) (by split <;> omega) (zh9 hs2 (by split <;> omega))
    refine⟨r,zk _ _ _ _ _ ⟨fun _=>⟨fun _=>⟨by omega,v,hv,by rw[hx];exact x64,?_⟩,fun hf=>absurd (by omega) hf⟩,fun hf=>absurd hi hf⟩,hp⟩
    simp only[hx,c,eq_true a,eq_false b,true_implies,not_true_eq_false,false_implies,and_true,true_and,not_false_eq_true,Int.reduceEq,forall_const,implies_true]
    exact⟨q64,by omega,s,hs1,e64,f64,(zj (by omega) hs (by split <;> omega) (by split <;> omega) i64 hr)⟩
   ·obtain⟨s,hs1,hs2⟩:=zbg zaO (i:=(x.tdiv 11).tmod 4) (by omega) (by simp only[zaO,List.length_cons,List.length_nil];omega)
    obtain⟨r,hr,hp⟩:=key (k:=0) (fun ks=>Node.mk 2 0 [] s ks) (by decide) (by omega) (zjI hs2)
    refine⟨r,zk _ _ _ _ _ ⟨fun _=>⟨fun _=>⟨by omega,v,hv,by rw[hx];exact x64,?_⟩,fun hf=>absurd (by omega) hf⟩,fun hf=>absurd hi hf⟩,hp⟩
    simp only[hx,c,eq_true a,eq_false b,true_implies,not_true_eq_false,false_implies,and_true,true_and,not_false_eq_true,Int.reduceEq,forall_const,implies_true]
    exact⟨q64,by omega,s,hs1,(zj (by omega) hs (by omega) (by omega) i64 hr)⟩
   ·obtain⟨r,hr,hp⟩:=key (k:=0) (fun ks=>Node.mk 3 ((x.tdiv 11).tmod 2) [] [] ks) (by decide) (by omega) (zhW x0 x1 d11)
    refine⟨r,zk _ _ _ _ _ ⟨fun _=>⟨fun _=>⟨by omega,v,hv,by rw[hx];exact x64,?_⟩,fun hf=>absurd (by omega) hf⟩,fun hf=>absurd hi hf⟩,hp⟩
    simp only[hx,c,eq_true a,eq_false b,true_implies,not_true_eq_false,false_implies,and_true,true_and,not_false_eq_true,Int.reduceEq,forall_const,implies_true]
    exact⟨q64,(zj (by omega) hs (by omega) (by omega) i64 hr)⟩
   ·obtain⟨s,hs1,hs2⟩:=zbg za8 (i:=(x.tdiv 11).tmod 4) (by omega) (by simp only[za8,List.length_cons,List.length_nil];omega)
    obtain⟨r,hr,hp⟩:=key (k:=0) (fun ks=>Node.mk 4 0 s [] ks) (by decide) (by omega) (zjJ hs2)
    refine⟨r,zk _ _ _ _ _ ⟨fun _=>⟨fun _=>⟨by omega,v,hv,by rw[hx];exact x64,?_⟩,fun hf=>absurd (by omega) hf⟩,fun hf=>absurd hi hf⟩,hp⟩
    simp only[hx,c,eq_true a,eq_false b,true_implies,not_true_eq_false,false_implies,and_true,true_and,not_false_eq_true,Int.reduceEq,forall_const,implies_true]
    exact⟨q64,by omega,s,hs1,(zj (by omega) hs (by omega) (by omega) i64 hr)⟩
   obtain⟨c1,c2,c3,c4,c5,c6,c7,c8⟩:=c
   obtain⟨r,hr,hp⟩:=key (k:=0) (fun ks=>Node.mk 1 (x.tmod 30) [] [] ks) (by decide) (by omega) (zaV x0 x1)
   refine⟨r,zk _ _ _ _ _ ⟨fun _=>⟨fun _=>⟨by omega,v,hv,by rw[hx];exact x64,?_⟩,fun hf=>absurd (by omega) hf⟩,fun hf=>absurd hi hf⟩,hp⟩
   simp only[hx,eq_false c1,eq_false c2,eq_false c3,eq_false c4,eq_false c5,eq_false c6,eq_false c7,eq_false c8,eq_true a,eq_false b,true_implies,not_true_eq_false,false_implies,and_true,true_and,not_false_eq_true,Int.reduceEq,forall_const,implies_true]
   exact (zj (by omega) hs (by omega) (by omega) i64 hr)
  have cs:x.tmod 11=1∨x.tmod 11=2∨x.tmod 11=3∨x.tmod 11=4∨x.tmod 11=5∨x.tmod 11=6∨x.tmod 11=7∨x.tmod 11=8∨(x.tmod 11≠1∧x.tmod 11≠2∧x.tmod 11≠3∧x.tmod 11≠4∧x.tmod 11≠5∧x.tmod 11≠6∧x.tmod 11≠7∧x.tmod 11≠8):=by omega
  rcases cs with c | c | c | c | c | c | c | c | c
  ·by_cases d:1≤(st.length:Int)
   ·obtain⟨r,hr,hp⟩:=key (k:=1) (fun ks=>Node.mk (8+((x.tdiv 11).tmod 2)) 0 [] [] ks) (by decide) d (zmu x0 x1 d11)
    refine⟨r,zk _ _ _ _ _ ⟨fun _=>⟨fun _=>⟨by omega,v,hv,by rw[hx];exact x64,?_⟩,fun hf=>absurd (by omega) hf⟩,fun hf=>absurd hi hf⟩,hp⟩
    simp only[hx,eq_true d,c,eq_false a,true_implies,not_true_eq_false,false_implies,and_true,true_and,not_false_eq_true,Int.reduceEq,forall_const,implies_true]
    exact⟨q64,u64,(zj (by omega) hs (by omega) (by omega) i64 hr)⟩
   obtain⟨r,hr,hp⟩:=key (k:=0) (fun ks=>Node.mk 1 (x.tmod 30) [] [] ks) (by decide) (by omega) (zaV x0 x1)
   refine⟨r,zk _ _ _ _ _ ⟨fun _=>⟨fun _=>⟨by omega,v,hv,by rw[hx];exact x64,?_⟩,fun hf=>absurd (by omega) hf⟩,fun hf=>absurd hi hf⟩,hp⟩
   simp only[hx,eq_false d,c,eq_false a,true_implies,not_true_eq_false,false_implies,and_true,true_and,not_false_eq_true,Int.reduceEq,forall_const,implies_true]
   exact (zj (by omega) hs (by omega) (by omega) i64 hr)
  ·by_cases d:3≤(st.length:Int)
   ·obtain⟨r,hr,hp⟩:=key (k:=3) (fun ks=>Node.mk 10 0 [] [] ks) (by decide) d (zdN (.inr (.inl ⟨rfl,rfl⟩)))
    refine⟨r,zk _ _ _ _ _ ⟨fun _=>⟨fun _=>⟨by omega,v,hv,by rw[hx];exact x64,?_⟩,fun hf=>absurd (by omega) hf⟩,fun hf=>absurd hi hf⟩,hp⟩
    simp only[hx,eq_true d,c,eq_false a,true_implies,not_true_eq_false,false_implies,and_true,true_and,not_false_eq_true,Int.reduceEq,forall_const,implies_true]
    exact (zj (by omega) hs (by omega) (by omega) i64 hr)
   obtain⟨r,hr,hp⟩:=key (k:=0) (fun ks=>Node.mk 1 (x.tmod 30) [] [] ks) (by decide) (by omega) (zaV x0 x1)
   refine⟨r,zk _ _ _ _ _ ⟨fun _=>⟨fun _=>⟨by omega,v,hv,by rw[hx];exact x64,?_⟩,fun hf=>absurd (by omega) hf⟩,fun hf=>absurd hi hf⟩,hp⟩
   simp only[hx,eq_false d,c,eq_false a,true_implies,not_true_eq_false,false_implies,and_true,true_and,not_false_eq_true,Int.reduceEq,forall_const,implies_true]
   exact (zj (by omega) hs (by omega) (by omega) i64 hr)
  ·by_cases d:2≤(st.length:Int)
   ·obtain⟨r,hr,hp⟩:=key (k:=2) (fun ks=>Node.mk 7 0 [] [] ks) (by decide) d (zdN (.inl ⟨rfl,rfl⟩))
    refine⟨r,zk _ _ _ _ _ ⟨fun _=>⟨fun _=>⟨by omega,v,hv,by rw[hx];exact x64,?_⟩,fun hf=>absurd (by omega) hf⟩,fun hf=>absurd hi hf⟩,hp⟩
    simp only[hx,eq_true d,c,eq_false a,true_implies,not_true_eq_false,false_implies,and_true,true_and,not_false_eq_true,Int.reduceEq,forall_const,implies_true]
    exact (zj (by omega) hs (by omega) (by omega) i64 hr)
   obtain⟨r,hr,hp⟩:=key (k:=0) (fun ks=>Node.mk 1 (x.tmod 30) [] [] ks) (by decide) (by omega) (zaV x0 x1)
   refine⟨r,zk _ _ _ _ _ ⟨fun _=>⟨fun _=>⟨by omega,v,hv,by rw[hx];exact x64,?_⟩,fun hf=>absurd (by omega) hf⟩,fun hf=>absurd hi hf⟩,hp⟩
   simp only[hx,eq_false d,c,eq_false a,true_implies,not_true_eq_false,false_implies,and_true,true_and,not_false_eq_true,Int.reduceEq,forall_const,implies_true]
   exact (zj (by omega) hs (by omega) (by omega) i64 hr)
  ·obtain⟨r,hr,hp⟩:=key (k:=(if ((x.tdiv 11).tmod 4) < (st.length:Int) then ((x.tdiv 11).tmod 4) else (st.length:Int))) (fun ks=>Node.mk 6 0 [] [] ks) (by split <;> omega) (by split <;> omega) (zdN (.inr (.inr ⟨rfl,by split <;> omega⟩)))
   refine⟨r,zk _ _ _ _ _ ⟨fun _=>⟨fun _=>⟨by omega,v,hv,by rw[hx];exact x64,?_⟩,fun hf=>absurd (by omega) hf⟩,fun hf=>absurd hi hf⟩,hp⟩
   simp only[hx,c,eq_false a,true_implies,not_true_eq_false,false_implies,and_true,true_and,not_false_eq_true,Int.reduceEq,forall_const,implies_true]
   exact⟨q64,(zj (by omega) hs (by split <;> omega) (by split <;> omega) i64 hr)⟩
  ·obtain⟨s,hs1,hs2⟩:=zbg zaM (i:=(x.tdiv 11).tmod 8) (by omega) (by simp only[zaM,List.length_cons,List.length_nil];omega)
   obtain⟨r,hr,hp⟩:=key (k:=(if (1+(x.tdiv 88)) < (st.length:Int) then (1+(x.tdiv 88)) else (st.length:Int))) (fun ks=>Node.mk 5 0 s [] ks) (by split <;> omega) (by split <;> omega) (zh9 hs2 (by split <;> omega))
   refine⟨r,zk _ _ _ _ _ ⟨fun _=>⟨fun _=>⟨by omega,v,hv,by rw[hx];exact x64,?_⟩,fun hf=>absurd (by omega) hf⟩,fun hf=>absurd hi hf⟩,hp⟩
   simp only[hx,c,eq_false a,true_implies,not_true_eq_false,false_implies,and_true,true_and,not_false_eq_true,Int.reduceEq,forall_const,implies_true]
   exact⟨q64,by omega,s,hs1,e64,f64,(zj (by omega) hs (by split <;> omega) (by split <;> omega) i64 hr)⟩
  ·obtain⟨s,hs1,hs2⟩:=zbg zaO (i:=(x.tdiv 11).tmod 4) (by omega) (by simp only[zaO,List.length_cons,List.length_nil];omega)
   obtain⟨r,hr,hp⟩:=key (k:=0) (fun ks=>Node.mk 2 0 [] s ks) (by decide) (by omega) (zjI hs2)
   refine⟨r,zk _ _ _ _ _ ⟨fun _=>⟨fun _=>⟨by omega,v,hv,by rw[hx];exact x64,?_⟩,fun hf=>absurd (by omega) hf⟩,fun hf=>absurd hi hf⟩,hp⟩
   simp only[hx,c,eq_false a,true_implies,not_true_eq_false,false_implies,and_true,true_and,not_false_eq_true,Int.reduceEq,forall_const,implies_true]
   exact⟨q64,by omega,s,hs1,(zj (by omega) hs (by omega) (by omega) i64 hr)⟩
  ·obtain⟨r,hr,hp⟩:=key (k:=0) (fun ks=>Node.mk 3 ((x.tdiv 11).tmod 2) [] [] ks) (by decide) (by omega) (zhW x0 x1 d11)
   refine⟨r,zk _ _ _ _ _ ⟨fun _=>⟨fun _=>⟨by omega,v,hv,by rw[hx];exact x64,?_⟩,fun hf=>absurd (by omega) hf⟩,fun hf=>absurd hi hf⟩,hp⟩
   simp only[hx,c,eq_false a,true_implies,not_true_eq_false,false_implies,and_true,true_and,not_false_eq_true,Int.reduceEq,forall_const,implies_true]
   exact⟨q64,(zj (by omega) hs (by omega) (by omega) i64 hr)⟩
  ·obtain⟨s,hs1,hs2⟩:=zbg za8 (i:=(x.tdiv 11).tmod 4) (by omega) (by simp only[za8,List.length_cons,List.length_nil];omega)
   obtain⟨r,hr,hp⟩:=key (k:=0) (fun ks=>Node.mk 4 0 s [] ks) (by decide) (by omega) (zjJ hs2)
   refine⟨r,zk _ _ _ _ _ ⟨fun _=>⟨fun _=>⟨by omega,v,hv,by rw[hx];exact x64,?_⟩,fun hf=>absurd (by omega) hf⟩,fun hf=>absurd hi hf⟩,hp⟩
   simp only[hx,c,eq_false a,true_implies,not_true_eq_false,false_implies,and_true,true_and,not_false_eq_true,Int.reduceEq,forall_const,implies_true]
   exact⟨q64,by omega,s,hs1,(zj (by omega) hs (by omega) (by omega) i64 hr)⟩
  obtain⟨c1,c2,c3,c4,c5,c6,c7,c8⟩:=c
  obtain⟨r,hr,hp⟩:=key (k:=0) (fun ks=>Node.mk 1 (x.tmod 30) [] [] ks) (by decide) (by omega) (zaV x0 x1)
  refine⟨r,zk _ _ _ _ _ ⟨fun _=>⟨fun _=>⟨by omega,v,hv,by rw[hx];exact x64,?_⟩,fun hf=>absurd (by omega) hf⟩,fun hf=>absurd hi hf⟩,hp⟩
  simp only[hx,eq_false c1,eq_false c2,eq_false c3,eq_false c4,eq_false c5,eq_false c6,eq_false c7,eq_false c8,eq_false a,true_implies,not_true_eq_false,false_implies,and_true,true_and,not_false_eq_true,Int.reduceEq,forall_const,implies_true]
  exact (zj (by omega) hs (by omega) (by omega) i64 hr)
theorem zyq (ns:List UInt8):∃ r,zjw ns r∧zd2 r:=by
 have h:MJ [] []:=⟨MI.nil,Nat.le_refl _,fun h=>absurd rfl h⟩
 suffices hh:∃ r,ziO ns 0 [] [] r∧zd2 r by
  obtain⟨r,hr,hp⟩:=hh
  exact⟨r,zue _ _ hr,hp⟩
 by_cases hi:(0:Int) < (ns.length:Int)
 rotate_left
 ·exact⟨[],zl _ _ _ _ _ ⟨fun hf=>absurd hf hi,fun _=>zl5 _ _ _ ⟨fun hf=>absurd hf (by decide),fun _=>rfl⟩⟩,.inl rfl⟩
 revert h
 generalize hl:([]:List Node)=l
 generalize hst:([]:List Int)=st
 generalize hi0:(0:Int)=i at hi
 intro h
 have hl0:l.length=0:=by rw[←hl];rfl
 have hs0:st.length=0:=by rw[←hst];rfl
 clear hl hst
 have hs:st.length≤40:=by omega
 have key:∀ {k:Int} (f:List Int→Node),0≤k→k≤(st.length:Int)→(∀ ks:List Int,(ks.length:Int)=k→MN (f ks)∧(f ks).Kids=ks)→∃ r,ze ns (i+1) (l++[f ((st.drop ((st.length:Int) - k).toNat).take (st.length - ((st.length:Int) - k).toNat))]) (st.take ((st.length:Int) - k).toNat++[(l.length:Int)]) r∧zd2 r:=fun f h0 hk hf=>zpo ns 39 (i+1) _ _ (by rw[List.length_append];simp only[List.length_cons,List.length_nil];omega) (by rw[List.length_append];simp only[List.length_cons,List.length_nil];omega) (zpA h h0 hk f hf)
 obtain⟨v,hv⟩:∃ v,ns[i.toNat]?=some v:=⟨_,List.getElem?_eq_getElem (show i.toNat < ns.length by omega)⟩
 have x0:(0:Int)≤(v.toNat:Int):=by omega
 have x1:(v.toNat:Int)≤255:=by have:=v.toNat_lt;omega
 generalize hx:(v.toNat:Int)=x at x0 x1
 have d11:x.tdiv 11=x / 11:=Int.tdiv_eq_ediv_of_nonneg x0
 have d3:x.tdiv 3=x / 3:=Int.tdiv_eq_ediv_of_nonneg x0
 have d88:x.tdiv 88=x / 88:=Int.tdiv_eq_ediv_of_nonneg x0
 have m11:x.tmod 11=x % 11:=Int.tmod_eq_emod_of_nonneg x0
 have y4:(x.tdiv 11).tmod 4=(x / 11) % 4:=by rw[d11];exact Int.tmod_eq_emod_of_nonneg (by omega)
 have y8:(x.tdiv 11).tmod 8=(x / 11) % 8:=by rw[d11];exact Int.tmod_eq_emod_of_nonneg (by omega)
 have y2:(x.tdiv 11).tmod 2=(x / 11) % 2:=by rw[d11];exact Int.tmod_eq_emod_of_nonneg (by omega)
 have y13:(x.tdiv 3).tmod 13=(x / 3) % 13:=by rw[d3];exact Int.tmod_eq_emod_of_nonneg (by omega)
 have x64:I64 x:=⟨by omega,by omega⟩
 have q64:I64 (x.tdiv 11):=⟨by omega,by omega⟩
 have t64:I64 (x.tdiv 3):=⟨by omega,by omega⟩
 have e64:I64 (x.tdiv 88):=⟨by omega,by omega⟩
 have f64:I64 (1+x.tdiv 88):=⟨by omega,by omega⟩
 have u64:I64 (8+((x.tdiv 11).tmod 2)):=⟨by omega,by omega⟩
 have o64:I64 (11+((x.tdiv 3).tmod 13)):=⟨by omega,by omega⟩
 have i64:I64 (i+1):=⟨by omega,by omega⟩
 by_cases a:x.tmod 3=0
 ·by_cases b:2≤(st.length:Int)
  ·obtain⟨r,hr,hp⟩:=key (k:=2) (fun ks=>Node.mk (11+((x.tdiv 3).tmod 13)) 0 [] [] ks) (by decide) b (zu5 x0 x1 d3)
   refine⟨r,zl _ _ _ _ _ ⟨fun _=>⟨fun _=>⟨by omega,v,hv,by rw[hx];exact x64,?_⟩,fun hf=>absurd (by omega) hf⟩,fun hf=>absurd hi hf⟩,hp⟩
   simp only[hx,eq_true a,eq_true b,true_implies,not_true_eq_false,false_implies,and_true,true_and,not_false_eq_true,Int.reduceEq,forall_const,implies_true]
   exact⟨t64,o64,(zj (by omega) hs (by omega) (by omega) i64 hr)⟩
  have cs:x.tmod 11=1∨x.tmod 11=2∨x.tmod 11=3∨x.tmod 11=4∨x.tmod 11=5∨x.tmod 11=6∨x.tmod 11=7∨x.tmod 11=8∨(x.tmod 11≠1∧x.tmod 11≠2∧x.tmod 11≠3∧x.tmod 11≠4∧x.tmod 11≠5∧x.tmod 11≠6∧x.tmod 11≠7∧x.tmod 11≠8):=by omega
  rcases cs with c | c | c | c | c | c | c | c | c
  ·by_cases d:1≤(st.length:Int)
   ·obtain⟨r,hr,hp⟩:=key (k:=1) (fun ks=>Node.mk (8+((x.tdiv 11).tmod 2)) 0 [] [] ks) (by decide) d (zmu x0 x1 d11)
    refine⟨r,zl _ _ _ _ _ ⟨fun _=>⟨fun _=>⟨by omega,v,hv,by rw[hx];exact x64,?_⟩,fun hf=>absurd (by omega) hf⟩,fun hf=>absurd hi hf⟩,hp⟩
    simp only[hx,eq_true d,c,eq_true a,eq_false b,true_implies,not_true_eq_false,false_implies,and_true,true_and,not_false_eq_true,Int.reduceEq,forall_const,implies_true]
    exact⟨q64,u64,(zj (by omega) hs (by omega) (by omega) i64 hr)⟩
   obtain⟨r,hr,hp⟩:=key (k:=0) (fun ks=>Node.mk 1 (x.tmod 30) [] [] ks) (by decide) (by omega) (zaV x0 x1)
   refine⟨r,zl _ _ _ _ _ ⟨fun _=>⟨fun _=>⟨by omega,v,hv,by rw[hx];exact x64,?_⟩,fun hf=>absurd (by omega) hf⟩,fun hf=>absurd hi hf⟩,hp⟩
   simp only[hx,eq_false d,c,eq_true a,eq_false b,true_implies,not_true_eq_false,false_implies,and_true,true_and,not_false_eq_true,Int.reduceEq,forall_const,implies_true]
   exact (zj (by omega) hs (by omega) (by omega) i64 hr)
  ·by_cases d:3≤(st.length:Int)
   ·obtain⟨r,hr,hp⟩:=key (k:=3) (fun ks=>Node.mk 10 0 [] [] ks) (by decide) d (zdN (.inr (.inl ⟨rfl,rfl⟩)))
    refine⟨r,zl _ _ _ _ _ ⟨fun _=>⟨fun _=>⟨by omega,v,hv,by rw[hx];exact x64,?_⟩,fun hf=>absurd (by omega) hf⟩,fun hf=>absurd hi hf⟩,hp⟩
    simp only[hx,eq_true d,c,eq_true a,eq_false b,true_implies,not_true_eq_false,false_implies,and_true,true_and,not_false_eq_true,Int.reduceEq,forall_const,implies_true]
    exact (zj (by omega) hs (by omega) (by omega) i64 hr)
   obtain⟨r,hr,hp⟩:=key (k:=0) (fun ks=>Node.mk 1 (x.tmod 30) [] [] ks) (by decide) (by omega) (zaV x0 x1)
   refine⟨r,zl _ _ _ _ _ ⟨fun _=>⟨fun _=>⟨by omega,v,hv,by rw[hx];exact x64,?_⟩,fun hf=>absurd (by omega) hf⟩,fun hf=>absurd hi hf⟩,hp⟩
   simp only[hx,eq_false d,c,eq_true a,eq_false b,true_implies,not_true_eq_false,false_implies,and_true,true_and,not_false_eq_true,Int.reduceEq,forall_const,implies_true]
   exact (zj (by omega) hs (by omega) (by omega) i64 hr)
  ·obtain⟨r,hr,hp⟩:=key (k:=0) (fun ks=>Node.mk 1 (x.tmod 30) [] [] ks) (by decide) (by omega) (zaV x0 x1)
   refine⟨r,zl _ _ _ _ _ ⟨fun _=>⟨fun _=>⟨by omega,v,hv,by rw[hx];exact x64,?_⟩,fun hf=>absurd (by omega) hf⟩,fun hf=>absurd hi hf⟩,hp⟩
   simp only[hx,c,eq_true a,eq_false b,true_implies,not_true_eq_false,false_implies,and_true,true_and,not_false_eq_true,Int.reduceEq,forall_const,implies_true]
   exact (zj (by omega) hs (by omega) (by omega) i64 hr)
  ·obtain⟨r,hr,hp⟩:=key (k:=(if ((x.tdiv 11).tmod 4) < (st.length:Int) then ((x.tdiv 11).tmod 4) else (st.length:Int))) (fun ks=>Node.mk 6 0 [] [] ks) (by split <;> omega) (by split <;> omega) (zdN (.inr (.inr ⟨rfl,by split <;> omega⟩)))
   refine⟨r,zl _ _ _ _ _ ⟨fun _=>⟨fun _=>⟨by omega,v,hv,by rw[hx];exact x64,?_⟩,fun hf=>absurd (by omega) hf⟩,fun hf=>absurd hi hf⟩,hp⟩
   simp only[hx,c,eq_true a,eq_false b,true_implies,not_true_eq_false,false_implies,and_true,true_and,not_false_eq_true,Int.reduceEq,forall_const,implies_true]
   exact⟨q64,(zj (by omega) hs (by split <;> omega) (by split <;> omega) i64 hr)⟩
  ·obtain⟨s,hs1,hs2⟩:=zbg zaM (i:=(x.tdiv 11).tmod 8) (by omega) (by simp only[zaM,List.length_cons,List.length_nil];omega)
   obtain⟨r,hr,hp⟩:=key (k:=(if (1+(x.tdiv 88)) < (st.length:Int) then (1+(x.tdiv 88)) else (st.length:Int))) (fun ks=>Node.mk 5 0 s [] ks) (by split <;> omega) (by split <;> omega) (zh9 hs2 (by split <;> omega))
   refine⟨r,zl _ _ _ _ _ ⟨fun _=>⟨fun _=>⟨by omega,v,hv,by rw[hx];exact x64,?_⟩,fun hf=>absurd (by omega) hf⟩,fun hf=>absurd hi hf⟩,hp⟩
   simp only[hx,c,eq_true a,eq_false b,true_implies,not_true_eq_false,false_implies,and_true,true_and,not_false_eq_true,Int.reduceEq,forall_const,implies_true]
   exact⟨q64,by omega,s,hs1,e64,f64,(zj (by omega) hs (by split <;> omega) (by split <;> omega) i64 hr)⟩
  ·obtain⟨s,hs1,hs2⟩:=zbg zaO (i:=(x.tdiv 11).tmod 4) (by omega) (by simp only[zaO,List.length_cons,List.length_nil];omega)
   obtain⟨r,hr,hp⟩:=key (k:=0) (fun ks=>Node.mk 2 0 [] s ks) (by decide) (by omega) (zjI hs2)
   refine⟨r,zl _ _ _ _ _ ⟨fun _=>⟨fun _=>⟨by omega,v,hv,by rw[hx];exact x64,?_⟩,fun hf=>absurd (by omega) hf⟩,fun hf=>absurd hi hf⟩,hp⟩
   simp only[hx,c,eq_true a,eq_false b,true_implies,not_true_eq_false,false_implies,and_true,true_and,not_false_eq_true,Int.reduceEq,forall_const,implies_true]
   exact⟨q64,by omega,s,hs1,(zj (by omega) hs (by omega) (by omega) i64 hr)⟩
  ·obtain⟨r,hr,hp⟩:=key (k:=0) (fun ks=>Node.mk 3 ((x.tdiv 11).tmod 2) [] [] ks) (by decide) (by omega) (zhW x0 x1 d11)
   refine⟨r,zl _ _ _ _ _ ⟨fun _=>⟨fun _=>⟨by omega,v,hv,by rw[hx];exact x64,?_⟩,fun hf=>absurd (by omega) hf⟩,fun hf=>absurd hi hf⟩,hp⟩
   simp only[hx,c,eq_true a,eq_false b,true_implies,not_true_eq_false,false_implies,and_true,true_and,not_false_eq_true,Int.reduceEq,forall_const,implies_true]
   exact⟨q64,(zj (by omega) hs (by omega) (by omega) i64 hr)⟩
  ·obtain⟨s,hs1,hs2⟩:=zbg za8 (i:=(x.tdiv 11).tmod 4) (by omega) (by simp only[za8,List.length_cons,List.length_nil];omega)
   obtain⟨r,hr,hp⟩:=key (k:=0) (fun ks=>Node.mk 4 0 s [] ks) (by decide) (by omega) (zjJ hs2)
   refine⟨r,zl _ _ _ _ _ ⟨fun _=>⟨fun _=>⟨by omega,v,hv,by rw[hx];exact x64,?_⟩,fun hf=>absurd (by omega) hf⟩,fun hf=>absurd hi hf⟩,hp⟩
   simp only[hx,c,eq_true a,eq_false b,true_implies,not_true_eq_false,false_implies,and_true,true_and,not_false_eq_true,Int.reduceEq,forall_const,implies_true]
   exact⟨q64,by omega,s,hs1,(zj (by omega) hs (by omega) (by omega) i64 hr)⟩
  obtain⟨c1,c2,c3,c4,c5,c6,c7,c8⟩:=c
  obtain⟨r,hr,hp⟩:=key (k:=0) (fun ks=>Node.mk 1 (x.tmod 30) [] [] ks) (by decide) (by omega) (zaV x0 x1)
  refine⟨r,zl _ _ _ _ _ ⟨fun _=>⟨fun _=>⟨by omega,v,hv,by rw[hx];exact x64,?_⟩,fun hf=>absurd (by omega) hf⟩,fun hf=>absurd hi hf⟩,hp⟩
  simp only[hx,eq_false c1,eq_false c2,eq_false c3,eq_false c4,eq_false c5,eq_false c6,eq_false c7,eq_false c8,eq_true a,eq_false b,true_implies,not_true_eq_false,false_implies,and_true,true_and,not_false_eq_true,Int.reduceEq,forall_const,implies_true]
  exact (zj (by omega) hs (by omega) (by omega) i64 hr)
 have cs:x.tmod 11=1∨x.tmod 11=2∨x.tmod 11=3∨x.tmod 11=4∨x.tmod 11=5∨x.tmod 11=6∨x.tmod 11=7∨x.tmod 11=8∨(x.tmod 11≠1∧x.tmod 11≠2∧x.tmod 11≠3∧x.tmod 11≠4∧x.tmod 11≠5∧x.tmod 11≠6∧x.tmod 11≠7∧x.tmod 11≠8):=by omega
 rcases cs with c | c | c | c | c | c | c | c | c
 ·by_cases d:1≤(st.length:Int)
  ·obtain⟨r,hr,hp⟩:=key (k:=1) (fun ks=>Node.mk (8+((x.tdiv 11).tmod 2)) 0 [] [] ks) (by decide) d (zmu x0 x1 d11)
   refine⟨r,zl _ _ _ _ _ ⟨fun _=>⟨fun _=>⟨by omega,v,hv,by rw[hx];exact x64,?_⟩,fun hf=>absurd (by omega) hf⟩,fun hf=>absurd hi hf⟩,hp⟩
   simp only[hx,eq_true d,c,eq_false a,true_implies,not_true_eq_false,false_implies,and_true,true_and,not_false_eq_true,Int.reduceEq,forall_const,implies_true]
   exact⟨q64,u64,(zj (by omega) hs (by omega) (by omega) i64 hr)⟩
  obtain⟨r,hr,hp⟩:=key (k:=0) (fun ks=>Node.mk 1 (x.tmod 30) [] [] ks) (by decide) (by omega) (zaV x0 x1)
  refine⟨r,zl _ _ _ _ _ ⟨fun _=>⟨fun _=>⟨by omega,v,hv,by rw[hx];exact x64,?_⟩,fun hf=>absurd (by omega) hf⟩,fun hf=>absurd hi hf⟩,hp⟩
  simp only[hx,eq_false d,c,eq_false a,true_implies,not_true_eq_false,false_implies,and_true,true_and,not_false_eq_true,Int.reduceEq,forall_const,implies_true]
  exact (zj (by omega) hs (by omega) (by omega) i64 hr)
 ·by_cases d:3≤(st.length:Int)
  ·obtain⟨r,hr,hp⟩:=key (k:=3) (fun ks=>Node.mk 10 0 [] [] ks) (by decide) d (zdN (.inr (.inl ⟨rfl,rfl⟩)))
   refine⟨r,zl _ _ _ _ _ ⟨fun _=>⟨fun _=>⟨by omega,v,hv,by rw[hx];exact x64,?_⟩,fun hf=>absurd (by omega) hf⟩,fun hf=>absurd hi hf⟩,hp⟩
   simp only[hx,eq_true d,c,eq_false a,true_implies,not_true_eq_false,false_implies,and_true,true_and,not_false_eq_true,Int.reduceEq,forall_const,implies_true]
   exact (zj (by omega) hs (by omega) (by omega) i64 hr)
  obtain⟨r,hr,hp⟩:=key (k:=0) (fun ks=>Node.mk 1 (x.tmod 30) [] [] ks) (by decide) (by omega) (zaV x0 x1)
  refine⟨r,zl _ _ _ _ _ ⟨fun _=>⟨fun _=>⟨by omega,v,hv,by rw[hx];exact x64,?_⟩,fun hf=>absurd (by omega) hf⟩,fun hf=>absurd hi hf⟩,hp⟩
  simp only[hx,eq_false d,c,eq_false a,true_implies,not_true_eq_false,false_implies,and_true,true_and,not_false_eq_true,Int.reduceEq,forall_const,implies_true]
  exact (zj (by omega) hs (by omega) (by omega) i64 hr)
 ·by_cases d:2≤(st.length:Int)
  ·obtain⟨r,hr,hp⟩:=key (k:=2) (fun ks=>Node.mk 7 0 [] [] ks) (by decide) d (zdN (.inl ⟨rfl,rfl⟩))
   refine⟨r,zl _ _ _ _ _ ⟨fun _=>⟨fun _=>⟨by omega,v,hv,by rw[hx];exact x64,?_⟩,fun hf=>absurd (by omega) hf⟩,fun hf=>absurd hi hf⟩,hp⟩
   simp only[hx,eq_true d,c,eq_false a,true_implies,not_true_eq_false,false_implies,and_true,true_and,not_false_eq_true,Int.reduceEq,forall_const,implies_true]
   exact (zj (by omega) hs (by omega) (by omega) i64 hr)
  obtain⟨r,hr,hp⟩:=key (k:=0) (fun ks=>Node.mk 1 (x.tmod 30) [] [] ks) (by decide) (by omega) (zaV x0 x1)
  refine⟨r,zl _ _ _ _ _ ⟨fun _=>⟨fun _=>⟨by omega,v,hv,by rw[hx];exact x64,?_⟩,fun hf=>absurd (by omega) hf⟩,fun hf=>absurd hi hf⟩,hp⟩
  simp only[hx,eq_false d,c,eq_false a,true_implies,not_true_eq_false,false_implies,and_true,true_and,not_false_eq_true,Int.reduceEq,forall_const,implies_true]
  exact (zj (by omega) hs (by omega) (by omega) i64 hr)
 ·obtain⟨r,hr,hp⟩:=key (k:=(if ((x.tdiv 11).tmod 4) < (st.length:Int) then ((x.tdiv 11).tmod 4) else (st.length:Int))) (fun ks=>Node.mk 6 0 [] [] ks) (by split <;> omega) (by split <;> omega) (zdN (.inr (.inr ⟨rfl,by split <;> omega⟩)))
  refine⟨r,zl _ _ _ _ _ ⟨fun _=>⟨fun _=>⟨by omega,v,hv,by rw[hx];exact x64,?_⟩,fun hf=>absurd (by omega) hf⟩,fun hf=>absurd hi hf⟩,hp⟩
  simp only[hx,c,eq_false a,true_implies,not_true_eq_false,false_implies,and_true,true_and,not_false_eq_true,Int.reduceEq,forall_const,implies_true]
  exact⟨q64,(zj (by omega) hs (by split <;> omega) (by split <;> omega) i64 hr)⟩
 ·obtain⟨s,hs1,hs2⟩:=zbg zaM (i:=(x.tdiv 11).tmod 8) (by omega) (by simp only[zaM,List.length_cons,List.length_nil];omega)
  obtain⟨r,hr,hp⟩:=key (k:=(if (1+(x.tdiv 88)) < (st.length:Int) then (1+(x.tdiv 88)) else (st.length:Int))) (fun ks=>Node.mk 5 0 s [] ks) (by split <;> omega) (by split <;> omega) (zh9 hs2 (by split <;> omega))
  refine⟨r,zl _ _ _ _ _ ⟨fun _=>⟨fun _=>⟨by omega,v,hv,by rw[hx];exact x64,?_⟩,fun hf=>absurd (by omega) hf⟩,fun hf=>absurd hi hf⟩,hp⟩
  simp only[hx,c,eq_false a,true_implies,not_true_eq_false,false_implies,and_true,true_and,not_false_eq_true,Int.reduceEq,forall_const,implies_true]
  exact⟨q64,by omega,s,hs1,e64,f64,(zj (by omega) hs (by split <;> omega) (by split <;> omega) i64 hr)⟩
 ·obtain⟨s,hs1,hs2⟩:=zbg zaO (i:=(x.tdiv 11).tmod 4) (by omega) (by simp only[zaO,List.length_cons,List.length_nil];omega)
  obtain⟨r,hr,hp⟩:=key (k:=0) (fun ks=>Node.mk 2 0 [] s ks) (by decide) (by omega) (zjI hs2)
  refine⟨r,zl _ _ _ _ _ ⟨fun _=>⟨fun _=>⟨by omega,v,hv,by rw[hx];exact x64,?_⟩,fun hf=>absurd (by omega) hf⟩,fun hf=>absurd hi hf⟩,hp⟩
  simp only[hx,c,eq_false a,true_implies,not_true_eq_false,false_implies,and_true,true_and,not_false_eq_true,Int.reduceEq,forall_const,implies_true]
  exact⟨q64,by omega,s,hs1,(zj (by omega) hs (by omega) (by omega) i64 hr)⟩
 ·obtain⟨r,hr,hp⟩:=key (k:=0) (fun ks=>Node.mk 3 ((x.tdiv 11).tmod 2) [] [] ks) (by decide) (by omega) (zhW x0 x1 d11)
  refine⟨r,zl _ _ _ _ _ ⟨fun _=>⟨fun _=>⟨by omega,v,hv,by rw[hx];exact x64,?_⟩,fun hf=>absurd (by omega) hf⟩,fun hf=>absurd hi hf⟩,hp⟩
  simp only[hx,c,eq_false a,true_implies,not_true_eq_false,false_implies,and_true,true_and,not_false_eq_true,Int.reduceEq,forall_const,implies_true]
  exact⟨q64,(zj (by omega) hs (by omega) (by omega) i64 hr)⟩
 ·obtain⟨s,hs1,hs2⟩:=zbg za8 (i:=(x.tdiv 11).tmod 4) (by omega) (by simp only[za8,List.length_cons,List.length_nil];omega)
  obtain⟨r,hr,hp⟩:=key (k:=0) (fun ks=>Node.mk 4 0 s [] ks) (by decide) (by omega) (zjJ hs2)
  refine⟨r,zl _ _ _ _ _ ⟨fun _=>⟨fun _=>⟨by omega,v,hv,by rw[hx];exact x64,?_⟩,fun hf=>absurd (by omega) hf⟩,fun hf=>absurd hi hf⟩,hp⟩
  simp only[hx,c,eq_false a,true_implies,not_true_eq_false,false_implies,and_true,true_and,not_false_eq_true,Int.reduceEq,forall_const,implies_true]
  exact⟨q64,by omega,s,hs1,(zj (by omega) hs (by omega) (by omega) i64 hr)⟩
 obtain⟨c1,c2,c3,c4,c5,c6,c7,c8⟩:=c
 obtain⟨r,hr,hp⟩:=key (k:=0) (fun ks=>Node.mk 1 (x.tmod 30) [] [] ks) (by decide) (by omega) (zaV x0 x1)
 refine⟨r,zl _ _ _ _ _ ⟨fun _=>⟨fun _=>⟨by omega,v,hv,by rw[hx];exact x64,?_⟩,fun hf=>absurd (by omega) hf⟩,fun hf=>absurd hi hf⟩,hp⟩
 simp only[hx,eq_false c1,eq_false c2,eq_false c3,eq_false c4,eq_false c5,eq_false c6,eq_false c7,eq_false c8,eq_false a,true_implies,not_true_eq_false,false_implies,and_true,true_and,not_false_eq_true,Int.reduceEq,forall_const,implies_true]
 exact (zj (by omega) hs (by omega) (by omega) i64 hr)
end Go.Proofs.YtfbcnpbhhooapaaGreatDoor.M
namespace Go.Proofs.YtfbcnpbhhooapaaGreatDoor.M
open Go
def c_Q44_1:SC:=.seq (.reg [vO 4 (.mov (.c (.bool true)))]) .ret
def b_Q44_1:SC:=.seq (.seq (.reg [mO 11 5,mO 12 0,vO 13 (.len false (.t 12)),vO 14 (.bin .lss (.t 11) (.t 13))]) (.cond (.t 14) .skip (.exit 0))) (.seq (.block 1 (.seq (.dreg [mO 17 0,mO 18 5,vO 19 (.iaddr 1 (.t 17) (.t 18)),vO 20 (.load none (.t 19)),mO 21 1,mO 22 5,vO 23 (.iaddr 1 (.t 21) (.t 22)),vO 24 (.load none (.t 23)),vO 25 (.bin .neq (.t 20) (.t 24))] [false,false,false,false,false,false,false,false,true]) (.cond (.t 25) (.seq (.reg [vO 4 (.mov (.c (.bool false)))]) .ret) .skip))) (.reg [mO 15 5,vO 16 (.bin .add (.t 15) (cI 1)),mO 5 16]))
def c_Q44_2:SC:=.seq (.seq (.reg [mO 6 0,vO 7 (.len false (.t 6)),mO 8 1,vO 9 (.len false (.t 8)),vO 10 (.bin .neq (.t 7) (.t 9))]) (.cond (.t 10) (.seq (.reg [vO 4 (.mov (.c (.bool false)))]) .ret) .skip)) (.seq (.seq (.reg [vO 5 (.mov (cI 0))]) (.block 0 (.loop b_Q44_1))) c_Q44_1)
def sc_Q44:zf:=⟨2,26,.seq (.reg [vO 4 (.mov (.c (.bool false)))]) c_Q44_2,[(.t 4)]⟩
noncomputable def zpQ (SP:Prg) (x:EO):CO:=fin [(.t 4)] (thC SP (zw 0 (x)) c_Q44_1)
theorem zvm:type_of% (aI (ue c_Q44_1.eq_1)<|aI (ue b_Q44_1.eq_1)<|aI (ue c_Q44_2.eq_1)<|sc_Q44.eq_1):=aI (ue c_Q44_1.eq_1)<|aI (ue b_Q44_1.eq_1)<|aI (ue c_Q44_2.eq_1)<|sc_Q44.eq_1
theorem comp_Q44:comp Tryz.prog Tryz.f44=some sc_Q44:=by kernel_rfl
def c_Q21_1:SC:=.seq (.reg [vO 4 (.mov (.c (.bool true)))]) .ret
def c_Q21_2:SC:=.reg [mO 17 5,vO 18 (.bin .add (.t 17) (cI 1)),mO 5 18]
def c_Q21_3:SC:=.cond (.t 61) (.seq (.reg [vO 4 (.mov (.c (.bool false)))]) .ret) .skip
def c_Q21_4:SC:=.seq (.reg [vO 27 (.faddr 0 (.t 6)),vO 28 (.load none (.t 27)),vO 29 (.faddr 0 (.t 7)),vO 30 (.load none (.t 29)),vO 31 (.bin .neq (.t 28) (.t 30)),mO 32 31,gO 33 32 false (.faddr 1 (.t 6)),gO 34 32 false (.load none (.t 33)),gO 35 32 false (.faddr 1 (.t 7)),gO 36 32 false (.load none (.t 35)),gO 37 32 false (.bin .neq (.t 34) (.t 36)),vO 38 (.pick (.t 32) (.c (.bool true)) (.t 37)),mO 39 38,gO 40 39 false (.faddr 2 (.t 6)),gO 41 39 false (.load none (.t 40)),gO 42 39 false (.faddr 2 (.t 7)),gO 43 39 false (.load none (.t 42)),gO 44 39 false (.bin .neq (.t 41) (.t 43)),vO 45 (.pick (.t 39) (.c (.bool true)) (.t 44)),mO 46 45,gO 47 46 false (.faddr 3 (.t 6)),gO 48 46 false (.load none (.t 47)),gO 49 46 false (.faddr 3 (.t 7)),gO 50 46 false (.load none (.t 49)),⟨some 51,some (46,false),.call (.c (.func 43 [])) [(.t 48),(.t 50)]⟩,gO 52 46 false (.un .not (.t 51)),vO 53 (.pick (.t 46) (.c (.bool true)) (.t 52)),mO 54 53,gO 55 54 false (.faddr 4 (.t 6)),gO 56 54 false (.load none (.t 55)),gO 57 54 false (.faddr 4 (.t 7)),gO 58 54 false (.load none (.t 57)),⟨some 59,some (54,false),.call (.c (.func 44 [])) [(.t 56),(.t 58)]⟩,gO 60 54 false (.un .not (.t 59)),vO 61 (.pick (.t 54) (.c (.bool true)) (.t 60))]) c_Q21_3
def c_Q21_5:SC:=.seq (.block 1 (.seq (.sreg [0,5,1] [mO 19 0,mO 20 5,⟨some 21,none,.w (.iaddr 5 (.t 19) (.t 20))⟩,⟨some 22,none,.w (.load (some 5) (.t 21))⟩,mO 23 1,mO 24 5,⟨some 25,none,.w (.iaddr 5 (.t 23) (.t 24))⟩,⟨some 26,none,.w (.load (some 5) (.t 25))⟩,⟨some 6,none,.alloc [(.int .i64 0),(.int .i64 0),(.str []),(.nils 2),(.nils 1)]⟩,⟨some 7,none,.alloc [(.int .i64 0),(.int .i64 0),(.str []),(.nils 2),(.nils 1)]⟩,⟨none,none,.store 5 (.t 6) (.t 22)⟩,⟨none,none,.store 5 (.t 7) (.t 26)⟩] [false,false,false,false,false,false,false,false,false,false,true,true]) c_Q21_4)) c_Q21_2
def b_Q21_1:SC:=.seq (.seq (.reg [mO 13 5,mO 14 0,vO 15 (.len false (.t 14)),vO 16 (.bin .lss (.t 13) (.t 15))]) (.cond (.t 16) .skip (.exit 0))) c_Q21_5
def c_Q21_6:SC:=.block 0 (.loop b_Q21_1)
def c_Q21_7:SC:=.seq (.seq (.reg [vO 5 (.mov (cI 0))]) c_Q21_6) c_Q21_1
def c_Q21_8:SC:=.seq (.seq (.reg [mO 8 0,vO 9 (.len false (.t 8)),mO 10 1,vO 11 (.len false (.t 10)),vO 12 (.bin .neq (.t 9) (.t 11))]) (.cond (.t 12) (.seq (.reg [vO 4 (.mov (.c (.bool false)))]) .ret) .skip)) c_Q21_7
def sc_Q21:zf:=⟨2,62,.seq (.reg [vO 4 (.mov (.c (.bool false)))]) c_Q21_8,[(.t 4)]⟩
noncomputable def zpn (SP:Prg) (x:EO):CO:=fin [(.t 4)] (thC SP (zw 0 (x)) c_Q21_1)
theorem zvG:type_of% (aI (ue c_Q21_1.eq_1)<|aI (ue c_Q21_2.eq_1)<|aI (ue c_Q21_3.eq_1)<|aI (ue c_Q21_4.eq_1)<|aI (ue c_Q21_5.eq_1)<|aI (ue b_Q21_1.eq_1)<|aI (ue c_Q21_6.eq_1)<|aI (ue c_Q21_7.eq_1)<|aI (ue c_Q21_8.eq_1)<|sc_Q21.eq_1):=aI (ue c_Q21_1.eq_1)<|aI (ue c_Q21_2.eq_1)<|aI (ue c_Q21_3.eq_1)<|aI (ue c_Q21_4.eq_1)<|aI (ue c_Q21_5.eq_1)<|aI (ue b_Q21_1.eq_1)<|aI (ue c_Q21_6.eq_1)<|aI (ue c_Q21_7.eq_1)<|aI (ue c_Q21_8.eq_1)<|sc_Q21.eq_1
theorem comp_Q21:comp Tryz.prog Tryz.f21=some sc_Q21:=by kernel_rfl
end Go.Proofs.YtfbcnpbhhooapaaGreatDoor.M

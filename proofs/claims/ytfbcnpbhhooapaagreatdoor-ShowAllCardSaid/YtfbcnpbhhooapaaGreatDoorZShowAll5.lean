/- Parts of a proof, one behind another: Wt1, Wt2, Wu3, Wu4, Sc10, G10, G4, Lt10, Wp2, Lt5, Wp3, Lt6, Wp1, Wp4, Wp5, Wl11, Wl12, Wl13, Wl14. -/
import Derived.Test.YtfbcnpbhhooapaaGreatDoorZShowAll4
import Derived.Test.YtfbcnpbhhooapaaGreatDoorProg
import Derived.KernelRfl
set_option maxHeartbeats 4000000
namespace Go.Proofs.YtfbcnpbhhooapaaGreatDoor.M
set_option linter.unusedSimpArgs false
set_option linter.unusedVariables false
set_option linter.unusedSectionVars false
open Go Classical
def kdS (k:Int):Int :=
 if k < 1 then -2 else if 23 < k then -2 else if k≤4 then 0 else if k=5 then -1 else if k=6 then -1 else if k=8 then 1 else if k=9 then 1 else if k=10 then 3 else 2
theorem r_kids (k:Int):R_Q73 k (kdS k):=by
 apply Q73_tree
 unfold kdS
 repeat' first | (refine⟨fun h=>?_,fun h=>?_⟩) | (simp[*];done) | (split <;> rename_i h <;> first | rfl | omega)
def truthS (s:List UInt8):Bool:=decide (s=[116,114,117,101]) || decide (s=[102,97,108,115,101])
theorem r_truth (s:List UInt8):R_Q114 s (truthS s):=by
 apply Q114_tree
 refine⟨fun h=>by simp[truthS,h],fun h=>by simp[truthS,h]⟩
theorem r_parseRef (s:List UInt8) (hs:s.length≤1000000):R_Q113 s (dottedS s):=by
 apply Q113_tree
 have h1:(Lib.cut s [46]).1.length≤s.length:=cut_len1 _ _
 have h2:(Lib.cut s [46]).2.1.length≤s.length:=cut_len2 _ _
 refine⟨_,_,_,r_Cut s [46] hs,fun h=>⟨_,r_lexName _ (by omega),fun h'=>⟨_,r_lexName _ (by omega),by simp[dottedS,h,h']⟩,fun h'=>by simp[dottedS,h,h']⟩,fun h=>by simp[dottedS,h]⟩
def printC (c:UInt8):Bool:=decide (¬ c.toNat < 32) || decide (c.toNat=10)
def printedS (s:List UInt8):Bool:=s.all printC
theorem r_printed (s:List UInt8) (hs:s.length≤1000000):R_Q152 s (printedS s):=by
 have loop:∀ (m i:Nat),i+m=s.length→At_Q152_1 s i ((s.drop i).all printC):=by
  intro m
  induction m with
  | zero =>
   intro i hi
   apply At_Q152_1_step
   exact⟨fun h=>by omega,fun _=>by rw[List.drop_of_length_le (by omega)];rfl⟩
  | succ m ih =>
   intro i hi
   have hlt:i < s.length:=by omega
   have hg:s[((i:Nat):Int).toNat]?=some s[i]:=by rw[Int.toNat_natCast];exact List.getElem?_eq_getElem hlt
   have hd:s.drop i=s[i]::s.drop (i+1):=List.drop_eq_getElem_cons hlt
   have ih:=ih (i+1) (by omega)
   apply At_Q152_1_step
   refine⟨fun _=>⟨by omega,_,hg,fun h=>⟨fun h'=>⟨⟨by omega,by omega⟩,?_⟩,fun h'=>?_⟩,fun h=>⟨⟨by omega,by omega⟩,?_⟩⟩,fun h=>by omega⟩
   ·rw[hd,List.all_cons,show printC s[i]=true by simp[printC];omega,Bool.true_and]
    exact ih
   ·rw[hd,List.all_cons,show printC s[i]=false by simp[printC];omega,Bool.false_and]
   rw[hd,List.all_cons,show printC s[i]=true by simp[printC];omega,Bool.true_and]
   exact ih
 exact Q152_tree _ _ (loop s.length 0 (by omega))
def partsS:Bool→List Part→Bool
 | _,[]=>true
 | b,p::l=>if p.Ref=true then dottedS p.Text && partsS false l else !(decide (p.Text=[])) && !b && printedS p.Text && partsS true l
def plP (l:List Part):Prop:=l.length≤1000000∧∀ p ∈ l,p.Text.length≤1000000
theorem r_partsP (l:List Part) (hl:plP l):R_Q116 l (partsS false l):=by
 obtain⟨hl,ht⟩:=hl
 have loop:∀ (m i:Nat),i+m=l.length→At_Q116_1 l i (partsS (decide (∃ p,0 < i∧l[i - 1]?=some p∧p.Ref=false)) (l.drop i)):=by
  intro m
  induction m with
  | zero =>
   intro i hi
   apply At_Q116_1_step
   exact⟨fun h=>by omega,fun _=>by rw[List.drop_of_length_le (by omega)];rfl⟩
  | succ m ih =>
   intro i hi
   have hlt:i < l.length:=by omega
   have hg:l[((i:Nat):Int).toNat]?=some l[i]:=by rw[Int.toNat_natCast];exact List.getElem?_eq_getElem hlt
   have hd:l.drop i=l[i]::l.drop (i+1):=List.drop_eq_getElem_cons hlt
   have htx:=ht _ (List.getElem_mem hlt)
   have ih:=ih (i+1) (by omega)
   have hnext:decide (∃ p,0 < i+1∧l[i+1 - 1]?=some p∧p.Ref=false)=!l[i].Ref:=by
    rw[show i+1 - 1=i by omega,List.getElem?_eq_getElem hlt]
    cases h:l[i].Ref <;> simp[h]
   rw[hnext] at ih
   rw[hd]
   generalize hb:decide (∃ p,0 < i∧l[i - 1]?=some p∧p.Ref=false)=b
   apply At_Q116_1_step
   refine⟨fun _=>⟨by omega,_,hg,fun hr=>⟨_,r_parseRef _ htx,fun h=>⟨⟨by omega,by omega⟩,?_⟩,fun h=>?_⟩,fun hr=>⟨fun h=>?_,fun h=>⟨fun h0=>?_,fun h0=>?_⟩⟩⟩,fun h=>by omega⟩
   ·rw[partsS,if_pos hr,h,Bool.true_and]
    rw[hr] at ih
    exact ih
   ·rw[partsS,if_pos hr,show dottedS l[i].Text=false by simpa using h,Bool.false_and]
   ·rw[partsS,if_neg hr,decide_eq_true h]
    rfl
   ·have hlt':i - 1 < l.length:=by omega
    have hg':l[((i:Int) - 1).toNat]?=some l[i - 1]:=by rw[show ((i:Int) - 1).toNat=i - 1 by omega];exact List.getElem?_eq_getElem hlt'
    refine⟨⟨by omega,by omega⟩,by omega,_,hg',fun hp=>?_,fun hp=>?_⟩
    ·have hb':b=false:=by
      rw[←hb,List.getElem?_eq_getElem hlt']
      simp[hp]
     refine⟨_,r_printed _ htx,fun h5=>⟨⟨by omega,by omega⟩,?_⟩,fun h5=>?_⟩
     ·rw[partsS,if_neg hr,decide_eq_false h,hb',h5]
      rw[show l[i].Ref=false by simpa using hr] at ih
      exact ih
     rw[partsS,if_neg hr,decide_eq_false h,hb',show printedS l[i].Text=false by simpa using h5]
     rfl
    have hb':b=true:=by
     rw[←hb,List.getElem?_eq_getElem hlt']
     simp[hp]
     omega
    rw[partsS,if_neg hr,decide_eq_false h,hb']
    rfl
   have hb':b=false:=by
    rw[←hb]
    simp
    omega
   refine⟨_,r_printed _ htx,fun h5=>⟨⟨by omega,by omega⟩,?_⟩,fun h5=>?_⟩
   ·rw[partsS,if_neg hr,decide_eq_false h,hb',h5]
    rw[show l[i].Ref=false by simpa using hr] at ih
    exact ih
   rw[partsS,if_neg hr,decide_eq_false h,hb',show printedS l[i].Text=false by simpa using h5]
   rfl
 have:=loop l.length 0 (by omega)
 have e:decide (∃ p,0 < 0∧l[0 - 1]?=some p∧p.Ref=false)=false:=by simp
 rw[e] at this
 exact Q116_tree _ _ this
def plS (n:Node):Bool :=
 if n.Kind=1 then decide (0≤n.Num) && decide (n.Text=[]) && decide (n.Parts=[])
 else if n.Kind=3 then (decide (n.Num=0) || decide (n.Num=1)) && decide (n.Text=[]) && decide (n.Parts=[])
 else if n.Kind=4 then dottedS n.Text && decide (n.Num=0) && !(truthS (Lib.cut n.Text [46]).1) && decide (n.Parts=[])
 else if n.Kind=5 then nameS n.Text && decide (n.Num=0) && !(truthS n.Text) && decide (n.Parts=[])
 else if n.Kind=2 then decide (n.Num=0) && decide (n.Text=[]) && partsS false n.Parts
 else decide (n.Num=0) && decide (n.Text=[]) && decide (n.Parts=[])
structure NB (n:Node):Prop where
 text:n.Text.length≤1000000
 parts:plP n.Parts
 kids:n.Kids.length≤1000000
theorem len0 {α:Type} (l:List α):decide ((l.length:Int)=0)=decide (l=[]):=decide_eq_decide.2 (by rw[←List.length_eq_zero_iff];omega)
theorem r_plainN (n:Node) (h:NB n):R_Q74 n (plS n):=by
 apply Q74_tree
 unfold plS
 rw[len0]
 refine⟨fun k=>?_,fun k=>⟨fun k3=>?_,fun k3=>⟨fun k4=>?_,fun k4=>⟨fun k5=>?_,fun k5=>⟨fun k2=>?_,fun k2=>?_⟩⟩⟩⟩⟩
 ·rw[if_pos k]
  exact⟨fun a=>⟨fun b=>by simp[a,b],fun b=>by simp[a,b]⟩,fun a=>by simp[a]⟩
 ·rw[if_neg k,if_pos k3]
  exact⟨fun a=>⟨fun b=>by simp[a,b],fun b=>by simp[a,b]⟩,fun a=>⟨fun a'=>⟨fun b=>by simp[a',b],fun b=>by simp[a',b]⟩,fun a'=>by simp[a,a']⟩⟩
 ·rw[if_neg k,if_neg k3,if_pos k4]
  refine⟨_,_,_,r_Cut _ [46] h.text,_,r_parseRef _ h.text,fun a=>⟨_,r_truth _,fun b=>⟨fun c=>by simp[a,b,c],fun c=>by simp[a,b,c]⟩,fun b=>by simp[b]⟩,fun a=>⟨fun _=>by simp[a],fun _=>by simp[a]⟩⟩
 ·rw[if_neg k,if_neg k3,if_neg k4,if_pos k5]
  refine⟨_,r_lexName _ h.text,fun a=>⟨_,r_truth _,fun b=>⟨fun c=>by simp[a,b,c],fun c=>by simp[a,b,c]⟩,fun b=>by simp[b]⟩,fun a=>⟨fun _=>by simp[a],fun _=>by simp[a]⟩⟩
 ·rw[if_neg k,if_neg k3,if_neg k4,if_neg k5,if_pos k2]
  refine⟨_,r_partsP _ h.parts,fun a=>⟨fun b=>by simp[a,b],fun b=>by simp[b]⟩,fun a=>by simp[a]⟩
 rw[if_neg k,if_neg k3,if_neg k4,if_neg k5,if_neg k2]
 refine⟨fun a=>⟨fun b=>by simp[a,b],fun b=>by simp[b]⟩,fun a=>by simp[a]⟩
def bval (l:List Node) (rs:List Int) (e:Nat):Int:=match l[e]? with
 | none=>-1
 | some n=>if (kdS n.Kind≠(n.Kids.length:Nat)∧kdS n.Kind≠-1)∨plS n=false then -1 else Bk.run (fun k=>(rs[k.toNat]?).getD 0) e n.Kids.reverse
def bvals (l:List Node):Nat→List Int
 | 0=>[]
 | n+1=>bvals l n++[bval l (bvals l n) n]
theorem bvals_len (l:List Node):∀ n,(bvals l n).length=n
 | 0=>rfl
 | n+1=>by rw[bvals,List.length_append,bvals_len l n];rfl
def begS (l:List Node) (e:Nat):Int:=bval l (bvals l e) e
theorem bvals_get (l:List Node):∀ {n j:Nat},j < n→(bvals l n)[j]?=some (begS l j)
 | 0,j,h=>absurd h (Nat.not_lt_zero _)
 | n+1,j,h=>by
  rw[bvals]
  by_cases hj:j < n
  ·rw[List.getElem?_append_left (by rw[bvals_len];exact hj)]
   exact bvals_get l hj
  obtain rfl:j=n:=by omega
  rw[List.getElem?_append_right (by rw[bvals_len];omega),bvals_len,Nat.sub_self]
  rfl
theorem bkrun_le (o:Int→Int):∀ (ks:List Int) (f:Int),(∀ k,0≤k→k < f→o k≤k)→-1≤f→Bk.run o f ks≤f
 | [],f,_,_=>Int.le_refl _
 | k::ks,f,h,hf=>by
  rw[Bk.run]
  split
  ·exact hf
  split
  ·exact hf
  rename_i h1 h2
  have h3:=h k (by omega) (by omega)
  have:=bkrun_le o ks (o k) (fun q a b=>h q a (by omega)) (by omega)
  omega
theorem begS_le (l:List Node):∀ (e:Nat),begS l e≤e:=by
 intro e
 induction e using Nat.strongRecOn with
 | _ e ih =>
  unfold begS bval
  split
  ·omega
  split
  ·omega
  refine bkrun_le _ _ _ (fun k k0 k1=>?_) (by omega)
  rw[bvals_get l (show k.toNat < e by omega)]
  have:=ih k.toNat (by omega)
  simp only[Option.getD_some]
  omega
theorem kidsOf_map (ks:List Int):kidsOf (ks.map eI)=some ks:=by
 induction ks with
 | nil=>rfl
 | cons k ks ih =>
  rw[List.map_cons]
  show kidsOf ([PV.int .i64 k]::_)=_
  rw[kidsOf,ih]
  rfl
theorem askAll_of {o:Nat→List PV→Option PV} {lv:PV} {k:List Int→Qn} (l:List Node) (n:Nat) (h:∀ j,j < n→o 47 [lv,.int .i64 (j:Nat)]=some (.int .i64 (begS l j))):∀ (m i:Nat),i+m=n→(askAll lv k m (bvals l i)).ev o=(k (bvals l n)).ev o
 | 0,i,hi=>by
  obtain rfl:i=n:=by omega
  rfl
 | m+1,i,hi=>by
  rw[askAll,Qn.ev,bvals_len,h i (by omega)]
  simp only
  rw[if_pos (begS_le l i)]
  exact askAll_of l n h m (i+1) (by omega)
theorem r_begin (l:List Node) (hl:l.length≤1000000) (hn:∀ n ∈ l,NB n):∀ e,e < l.length→R_Q47 l (e:Nat) (begS l e):=by
 intro e
 induction e using Nat.strongRecOn with
 | _ e ih =>
  intro he S
  have hb:=hn _ (List.getElem_mem he)
  have hg:l[e]?=some l[e]:=List.getElem?_eq_getElem he
  refine call_orc sp_Q47 S ?_
  have hrow:(l.map eNode)[((e:Nat):Int).toNat]?=some [PV.int .i64 l[e].Kind,.int .i64 l[e].Num,.str l[e].Text,.list 2 (l[e].Parts.map ePart) false,.list 1 (l[e].Kids.map eI) false]:=by
   rw[Int.toNat_natCast,List.getElem?_map,hg]
   rfl
  simp only[beginQ]
  rw[if_pos ⟨by omega,by rw[Int.toNat_natCast,List.length_map];exact he,by rw[List.length_map];omega⟩,hrow]
  simp only[kidsOf_map]
  rw[if_pos (show l[e].Kids.length≤1000000000 by have:=hb.kids;omega)]
  have hk:pureO (call SP) 73 [.int .i64 l[e].Kind]=some (.int .i64 (kdS l[e].Kind)):=pureO_of (r_kids _ [])
  have hp:pureO (call SP) 74 [.agg [PV.int .i64 l[e].Kind,.int .i64 l[e].Num,.str l[e].Text,.list 2 (l[e].Parts.map ePart) false,.list 1 (l[e].Kids.map eI) false]]=some (.bool (plS l[e])):=pureO_of (r_plainN _ hb [])
  have hv:begS l e=if (kdS l[e].Kind≠(l[e].Kids.length:Nat)∧kdS l[e].Kind≠-1)∨plS l[e]=false then -1 else Bk.run (fun k=>((bvals l e)[k.toNat]?).getD 0) e l[e].Kids.reverse:=by
   unfold begS bval
   rw[hg]
  simp only[beginK,Qn.ev,hk]
  by_cases hkk:kdS l[e].Kind≠(l[e].Kids.length:Nat)∧kdS l[e].Kind≠-1
  ·rw[if_pos hkk,hv,if_pos (.inl hkk)]
   rfl
  rw[if_neg hkk]
  simp only[Qn.ev,hp]
  cases hpl:plS l[e] with
  | false =>
   have hv':begS l e=-1:=by rw[hv,if_pos (.inr hpl)]
   rw[hv']
   rfl
  | true =>
   have hv':begS l e=Bk.run (fun k=>((bvals l e)[k.toNat]?).getD 0) e l[e].Kids.reverse:=by
    rw[hv,if_neg]
    rintro (h | h)
    ·exact hkk h
    rw[hpl] at h;cases h
   rw[hv']
   simp only[Bool.true_eq_false,if_false,Int.toNat_natCast]
   exact askAll_of (o:=pureO (call SP)) (lv:=.list 5 (l.map eNode) false) (k:=fun rs=>.ret (.int .i64 (Bk.run (fun k=>(rs[k.toNat]?).getD 0) e l[e].Kids.reverse))) l e (fun j hj=>pureO_of (ih j hj (by omega) [])) e 0 (by omega)
def treeS (l:List Node):Bool:=decide (0 < l.length) && decide (begS l (l.length - 1)=0)
theorem r_Tree (l:List Node) (hl:l.length≤1000000) (hn:∀ n ∈ l,NB n):R_Q26 l (treeS l):=by
 apply Q26_tree
 refine⟨fun h=>⟨⟨by omega,by omega⟩,begS l (l.length - 1),?_,?_⟩,fun h=>?_⟩
 ·have:=r_begin l hl hn (l.length - 1) (by omega)
  rw[show ((l.length - 1:Nat):Int)=(l.length:Int) - 1 by omega] at this
  exact this
 ·rw[treeS,decide_eq_true (show 0 < l.length by omega),Bool.true_and]
 rw[treeS,decide_eq_false (show ¬ 0 < l.length by omega),Bool.false_and]
def nodeOk (n:Node):Bool:=(decide (kdS n.Kind=(n.Kids.length:Nat)) || decide (kdS n.Kind=-1)) && plS n
def stk:Nat→List Int→List Node→Bool
 | _,st,[]=>decide (st.length=1)
 | i,st,n::l=>if nodeOk n=true∧st.take n.Kids.length=n.Kids.reverse then stk (i+1) ((i:Int)::st.drop n.Kids.length) l else false
theorem begS_eq (l:List Node) {e:Nat} {n:Node} (h:l[e]?=some n):begS l e=if nodeOk n=true then Bk.run (fun k=>((bvals l e)[k.toNat]?).getD 0) e n.Kids.reverse else -1:=by
 unfold begS bval
 rw[h]
 simp only
 by_cases hk:nodeOk n=true
 ·rw[if_pos hk,if_neg]
  simp only[nodeOk,Bool.and_eq_true,Bool.or_eq_true,decide_eq_true_eq] at hk
  rintro (h | h)
  ·rcases hk.1 with h' | h'
   ·exact h.1 h'
   exact h.2 h'
  rw[h] at hk;exact absurd hk.2 (by decide)
 rw[if_neg hk,if_pos]
 simp only[nodeOk,Bool.and_eq_true,Bool.or_eq_true,decide_eq_true_eq] at hk
 by_cases hp:plS n=true
 ·exact .inl ⟨fun h=>hk ⟨.inl h,hp⟩,fun h=>hk ⟨.inr h,hp⟩⟩
 exact .inr (by simpa using hp)
def Ch (l:List Node):Nat→List Int→Prop
 | i,[]=>i=0
 | i,s::st=>0 < i∧s=(i:Int) - 1∧∃ b:Nat,begS l (i - 1)=b∧Ch l b st
theorem run_chain (l:List Node) (e:Nat):∀ (st:List Int) (i k:Nat),i≤e→Ch l i st→k≤st.length→∃ b:Nat,Bk.run (fun k=>((bvals l e)[k.toNat]?).getD 0) i (st.take k)=b∧Ch l b (st.drop k)
 | st,i,0,_,h,_=>⟨i,rfl,h⟩
 | [],i,k+1,_,_,hk=>absurd hk (by simp)
 | s::st,i,k+1,hi,⟨h0,hs,b,hb,hc⟩,hk=>by
  have hle:=begS_le l (i - 1)
  obtain⟨b',h1,h2⟩:=run_chain l e st b k (by omega) hc (by simpa using hk)
  refine⟨b',?_,h2⟩
  rw[List.take_succ_cons,Bk.run]
  have e1:s.toNat=i - 1:=by omega
  have e2:((bvals l e)[s.toNat]?).getD 0=b:=by rw[e1,bvals_get l (show i - 1 < e by omega),Option.getD_some,hb]
  simp only[e2]
  rw[if_neg (by omega),if_neg (by omega)]
  exact h1
theorem stk_tree (l:List Node):∀ (m i:Nat) (st:List Int),i+m=l.length→Ch l i st→stk i st (l.drop i)=true→treeS l=true
 | 0,i,st,hi,hc,h=>by
  rw[List.drop_of_length_le (by omega),stk,decide_eq_true_eq] at h
  match st,h,hc with
  | [s],_,⟨h0,hs,b,hb,hc⟩ =>
   have hb0:b=0:=hc
   rw[treeS,decide_eq_true (show 0 < l.length by omega),Bool.true_and,decide_eq_true_eq,show l.length - 1=i - 1 by omega,hb,hb0]
   rfl
 | m+1,i,st,hi,hc,h=>by
  have hlt:i < l.length:=by omega
  rw[List.drop_eq_getElem_cons hlt,stk] at h
  split at h
  ·rename_i hn
   obtain⟨h1,h2⟩:=hn
   have hk:l[i].Kids.length≤st.length:=by
    have:=congrArg List.length h2
    rw[List.length_take,List.length_reverse] at this
    omega
   obtain⟨b,hb,hc'⟩:=run_chain l i st i l[i].Kids.length (Nat.le_refl _) hc hk
   rw[h2] at hb
   refine stk_tree l m (i+1) ((i:Int)::st.drop l[i].Kids.length) (by omega) ⟨by omega,by omega,b,?_,hc'⟩ h
   rw[show i+1 - 1=i by omega,begS_eq l (List.getElem?_eq_getElem hlt),if_pos h1]
   exact hb
  cases h
theorem proc (l:List Node):∀ (e:Nat),e < l.length→∀ (b:Nat),begS l e=b→∀ st,stk b st (l.drop b)=stk (e+1) ((e:Int)::st) (l.drop (e+1)):=by
 intro e
 induction e using Nat.strongRecOn with
 | _ e ih =>
  intro he b hb st
  rw[begS_eq l (List.getElem?_eq_getElem he)] at hb
  split at hb
  ·rename_i hn
   have rp:∀ (ks:List Int) (f:Nat),f≤e→Bk.run (fun k=>((bvals l e)[k.toNat]?).getD 0) f ks=b→stk b st (l.drop b)=stk f (ks++st) (l.drop f):=by
    intro ks
    induction ks with
    | nil =>
     intro f hf h
     have hf':f=b:=by simp only[Bk.run] at h;omega
     rw[hf']
     rfl
    | cons k ks ihk =>
     intro f hf h
     rw[Bk.run] at h
     split at h
     ·omega
     rename_i h1
     split at h
     ·omega
     rename_i h2
     have hk:k.toNat < e:=by omega
     have ek:((bvals l e)[k.toNat]?).getD 0=begS l k.toNat:=by rw[bvals_get l hk,Option.getD_some]
     simp only[ek] at h h2
     have hle:=begS_le l k.toNat
     obtain⟨b1,hb1⟩:∃ b1:Nat,begS l k.toNat=b1:=⟨(begS l k.toNat).toNat,by omega⟩
     rw[hb1] at h
     rw[ihk b1 (by omega) h,ih k.toNat hk (by omega) b1 hb1 (ks++st)]
     have e1:k.toNat+1=f:=by omega
     have e2:((k.toNat:Nat):Int)=k:=by omega
     rw[e1,e2]
     rfl
   have hr:=rp l[e].Kids.reverse e (Nat.le_refl _) hb
   rw[hr,List.drop_eq_getElem_cons he,stk,if_pos]
   ·have:(l[e].Kids.reverse++st).drop l[e].Kids.length=st:=by
     have:=List.drop_left (l₁:=l[e].Kids.reverse) (l₂:=st)
     rwa [List.length_reverse] at this
    rw[this]
   refine⟨hn,?_⟩
   have:=List.take_left (l₁:=l[e].Kids.reverse) (l₂:=st)
   rwa [List.length_reverse] at this
  omega
theorem tree_stk (l:List Node):treeS l=stk 0 [] l:=by
 cases h:stk 0 [] l with
 | true=>exact stk_tree l l.length 0 [] (by omega) rfl h
 | false =>
  rw[←Bool.not_eq_true]
  intro ht
  simp only[treeS,Bool.and_eq_true,decide_eq_true_eq] at ht
  have:=proc l (l.length - 1) (by omega) 0 ht.2 []
  rw[List.drop_zero,h,show l.length - 1+1=l.length by omega,List.drop_length,stk] at this
  simp at this
def rkK (l:List Node) (k:Int):Int:=match l[k.toNat]? with
 | some n=>rkS n.Kind
 | none=>7
def wrS (l:List Node) (o:Int→List UInt8) (k least:Int):List UInt8:=if rkK l k < least then [40]++o k++[41] else o k
def comG (o:Int→List UInt8):List Int→List UInt8
 | []=>[]
 | k::r=>[44,32]++o k++comG o r
def comS (o:Int→List UInt8):List Int→List UInt8
 | []=>[]
 | k::r=>o k++comG o r
def kid (n:Node) (i:Nat):Int:=(n.Kids[i]?).getD 0
def ndS (l:List Node) (o:Int→List UInt8) (n:Node):List UInt8 :=
 if n.Kind=1 then Lib.itoa n.Num
 else if n.Kind=2 then qtS n.Parts
 else if n.Kind=3 then Lib.formatBool (decide (n.Num=1))
 else if n.Kind=4 then n.Text
 else if n.Kind=5 then n.Text++[40]++comS o n.Kids++[41]
 else if n.Kind=6 then [91]++comS o n.Kids++[93]
 else if n.Kind=7 then wrS l o (kid n 0) 7++[91]++o (kid n 1)++[93]
 else if n.Kind=8 then [33]++wrS l o (kid n 0) 6
 else if n.Kind=9 then [45]++wrS l o (kid n 0) 6
 else if n.Kind=10 then wrS l o (kid n 0) 1++[32,63,32]++o (kid n 1)++[32,58,32]++o (kid n 2)
 else wrS l o (kid n 0) (if rkS n.Kind=3 then rkS n.Kind+1 else rkS n.Kind)++[32]++sgnS n.Kind++[32]++wrS l o (kid n 1) (rkS n.Kind+1)
def txv (l:List Node) (rs:List (List UInt8)) (e:Nat):List UInt8:=match l[e]? with
 | some n=>ndS l (fun k=>(rs[k.toNat]?).getD []) n
 | none=>[]
def txs (l:List Node):Nat→List (List UInt8)
 | 0=>[]
 | n+1=>txs l n++[txv l (txs l n) n]
theorem txs_len (l:List Node):∀ n,(txs l n).length=n
 | 0=>rfl
 | n+1=>by rw[txs,List.length_append,txs_len l n];rfl
def txS (l:List Node) (e:Nat):List UInt8:=txv l (txs l e) e
theorem txs_get (l:List Node):∀ {n j:Nat},j < n→(txs l n)[j]?=some (txS l j)
 | 0,j,h=>absurd h (Nat.not_lt_zero _)
 | n+1,j,h=>by
  rw[txs]
  by_cases hj:j < n
  ·rw[List.getElem?_append_left (by rw[txs_len];exact hj)]
   exact txs_get l hj
  obtain rfl:j=n:=by omega
  rw[List.getElem?_append_right (by rw[txs_len];omega),txs_len,Nat.sub_self]
  rfl
structure NS (n:Node):Prop where
 num:I64 n.Num
 text:n.Text.length≤300
 parts:QB n.Parts
 kids:n.Kids.length≤100
theorem comG_congr {o o':Int→List UInt8}:∀ {ks:List Int},(∀ k ∈ ks,o k=o' k)→comG o ks=comG o' ks
 | [],_=>rfl
 | k::r,h=>by rw[comG,comG,h k (List.mem_cons_self ..),comG_congr fun q hq=>h q (List.mem_cons_of_mem _ hq)]
theorem comS_congr {o o':Int→List UInt8}:∀ {ks:List Int},(∀ k ∈ ks,o k=o' k)→comS o ks=comS o' ks
 | [],_=>rfl
 | k::r,h=>by rw[comS,comS,h k (List.mem_cons_self ..),comG_congr fun q hq=>h q (List.mem_cons_of_mem _ hq)]
theorem wrS_congr {l:List Node} {o o':Int→List UInt8} {k:Int} (least:Int) (h:o k=o' k):wrS l o k least=wrS l o' k least:=by rw[wrS,wrS,h]
theorem kid_mem {n:Node} {i:Nat} (h:i < n.Kids.length):kid n i ∈ n.Kids:=by
 rw[kid,List.getElem?_eq_getElem h]
 exact List.getElem_mem h
theorem kid_get {n:Node} {i:Nat} (h:i < n.Kids.length):n.Kids[i]?=some (kid n i):=by
 rw[kid,List.getElem?_eq_getElem h]
 rfl
theorem kd_len {n:Node} (h:nodeOk n=true):1≤n.Kind∧n.Kind≤23∧(n.Kind≠5→n.Kind≠6→kdS n.Kind=n.Kids.length):=by
 simp only[nodeOk,Bool.and_eq_true,Bool.or_eq_true,decide_eq_true_eq] at h
 have h1:=h.1
 unfold kdS at *
 repeat' first | omega | split at h1
theorem kd2 {n:Node} (h:nodeOk n=true) (h10:10 < n.Kind):n.Kids.length=2:=by
 have h1:=kd_len h
 have:=h1.2.2 (by omega) (by omega)
 rw[show kdS n.Kind=2 by unfold kdS;repeat' first | omega | split] at this
 omega
theorem kdk {n:Node} (h:nodeOk n=true) (k:Int) (c:Nat) (hk:n.Kind=k) (hc:kdS k=c) (h5:k≠5) (h6:k≠6):n.Kids.length=c:=by
 have:=(kd_len h).2.2 (by omega) (by omega)
 rw[hk,hc] at this
 omega
theorem ndS_congr {l:List Node} {o o':Int→List UInt8} {n:Node} (hn:nodeOk n=true) (h:∀ k ∈ n.Kids,o k=o' k):ndS l o n=ndS l o' n:=by
 rw[ndS,ndS]
 by_cases k1:n.Kind=1
 ·rw[if_pos k1,if_pos k1]
 rw[if_neg k1,if_neg k1]
 by_cases k2:n.Kind=2
 ·rw[if_pos k2,if_pos k2]
 rw[if_neg k2,if_neg k2]
 by_cases k3:n.Kind=3
 ·rw[if_pos k3,if_pos k3]
 rw[if_neg k3,if_neg k3]
 by_cases k4:n.Kind=4
 ·rw[if_pos k4,if_pos k4]
 rw[if_neg k4,if_neg k4]
 by_cases k5:n.Kind=5
 ·rw[if_pos k5,if_pos k5,comS_congr h]
 rw[if_neg k5,if_neg k5]
 by_cases k6:n.Kind=6
 ·rw[if_pos k6,if_pos k6,comS_congr h]
 rw[if_neg k6,if_neg k6]
 by_cases k7:n.Kind=7
 ·have hl:=kdk hn 7 2 k7 (by decide) (by decide) (by decide)
  rw[if_pos k7,if_pos k7,wrS_congr 7 (h _ (kid_mem (i:=0) (by omega))),h _ (kid_mem (i:=1) (by omega))]
 rw[if_neg k7,if_neg k7]
 by_cases k8:n.Kind=8
 ·have hl:=kdk hn 8 1 k8 (by decide) (by decide) (by decide)
  rw[if_pos k8,if_pos k8,wrS_congr 6 (h _ (kid_mem (i:=0) (by omega)))]
 rw[if_neg k8,if_neg k8]
 by_cases k9:n.Kind=9
 ·have hl:=kdk hn 9 1 k9 (by decide) (by decide) (by decide)
  rw[if_pos k9,if_pos k9,wrS_congr 6 (h _ (kid_mem (i:=0) (by omega)))]
 rw[if_neg k9,if_neg k9]
 by_cases k10:n.Kind=10
 ·have hl:=kdk hn 10 3 k10 (by decide) (by decide) (by decide)
  rw[if_pos k10,if_pos k10,wrS_congr 1 (h _ (kid_mem (i:=0) (by omega))),h _ (kid_mem (i:=1) (by omega)),h _ (kid_mem (i:=2) (by omega))]
 rw[if_neg k10,if_neg k10]
 have h1:=kd_len hn
 have hl:=kd2 hn (by omega)
 rw[wrS_congr _ (h _ (kid_mem (i:=0) (by omega))),wrS_congr _ (h _ (kid_mem (i:=1) (by omega)))]
theorem txS_eq {l:List Node} {e:Nat} (he:e < l.length) (hn:nodeOk l[e]=true) (hk:∀ k ∈ l[e].Kids,0≤k∧k < (e:Int)):txS l e=ndS l (fun k=>txS l k.toNat) l[e]:=by
 unfold txS txv
 rw[List.getElem?_eq_getElem he]
 refine ndS_congr hn fun k hk'=>?_
 have:=hk k hk'
 rw[txs_get l (show k.toNat < e by omega)]
 rfl
def sumO (o:Int→List UInt8):List Int→Nat
 | []=>0
 | k::r=>(o k).length+sumO o r
theorem sumO_append (o:Int→List UInt8):∀ a b,sumO o (a++b)=sumO o a+sumO o b
 | [],b=>by simp[sumO]
 | k::a,b=>by rw[List.cons_append,sumO,sumO,sumO_append o a b];omega
theorem sumO_reverse (o:Int→List UInt8):∀ a,sumO o a.reverse=sumO o a
 | []=>rfl
 | k::a=>by rw[List.reverse_cons,sumO_append,sumO_reverse o a,sumO,sumO,sumO];omega
theorem comG_len (o:Int→List UInt8):∀ ks:List Int,(comG o ks).length=sumO o ks+2*ks.length
 | []=>rfl
 | k::r=>by
  have:=comG_len o r
  simp only[comG,sumO,List.length_append,List.length_cons,List.length_nil]
  omega
theorem comS_len (o:Int→List UInt8):∀ ks:List Int,(comS o ks).length≤sumO o ks+2*ks.length
 | []=>Nat.le_refl _
 | k::r=>by
  have:=comG_len o r
  simp only[comS,sumO,List.length_append,List.length_cons,List.length_nil]
  omega
theorem wrS_len (l:List Node) (o:Int→List UInt8) (k least:Int):(wrS l o k least).length≤(o k).length+2:=by
 unfold wrS
 split
 ·simp only[List.length_append,List.length_cons,List.length_nil];omega
 omega
theorem itoa_len {n:Int} (h:I64 n):(Lib.itoa n).length≤30:=by
 have:=Lib.itoa_length_le n h.1 h.2
 omega
theorem fb_len (b:Bool):(Lib.formatBool b).length≤5:=by cases b <;> decide
theorem kids_of {n:Node}:∀ {c:Nat},n.Kids.length=c→n.Kids=(List.range c).map (kid n):=by
 intro c hc
 apply List.ext_getElem?
 intro i
 by_cases hi:i < c
 ·rw[kid_get (by omega)]
  simp[hi]
 rw[List.getElem?_eq_none (by omega),List.getElem?_eq_none (by simp;omega)]
theorem ndS_len {l:List Node} {o:Int→List UInt8} {n:Node} (hn:nodeOk n=true) (hs:NS n):(ndS l o n).length≤40000+sumO o n.Kids:=by
 have t1:=hs.text
 have t2:=qtS_len hs.parts
 have t3:=itoa_len hs.num
 have t4:=fb_len (decide (n.Num=1))
 have t5:=comS_len o n.Kids
 have t6:=hs.kids
 have w:=wrS_len l o
 have sg:=sgn_len n.Kind
 have h1:=kd_len hn
 rw[ndS]
 by_cases k1:n.Kind=1
 ·rw[if_pos k1];omega
 rw[if_neg k1]
 by_cases k2:n.Kind=2
 ·rw[if_pos k2];omega
 rw[if_neg k2]
 by_cases k3:n.Kind=3
 ·rw[if_pos k3];omega
 rw[if_neg k3]
 by_cases k4:n.Kind=4
 ·rw[if_pos k4];omega
 rw[if_neg k4]
 by_cases k5:n.Kind=5
 ·rw[if_pos k5];simp only[List.length_append,List.length_cons,List.length_nil];omega
 rw[if_neg k5]
 by_cases k6:n.Kind=6
 ·rw[if_pos k6];simp only[List.length_append,List.length_cons,List.length_nil];omega
 rw[if_neg k6]
 by_cases k7:n.Kind=7
 ·have e:sumO o n.Kids=(o (kid n 0)).length+((o (kid n 1)).length+0):=by rw[kids_of (kdk hn 7 2 k7 (by decide) (by decide) (by decide))];rfl
  have:=w (kid n 0) 7
  rw[if_pos k7];simp only[List.length_append,List.length_cons,List.length_nil];omega
 rw[if_neg k7]
 by_cases k8:n.Kind=8
 ·have e:sumO o n.Kids=(o (kid n 0)).length+0:=by rw[kids_of (kdk hn 8 1 k8 (by decide) (by decide) (by decide))];rfl
  have:=w (kid n 0) 6
  rw[if_pos k8];simp only[List.length_append,List.length_cons,List.length_nil];omega
 rw[if_neg k8]
 by_cases k9:n.Kind=9
 ·have e:sumO o n.Kids=(o (kid n 0)).length+0:=by rw[kids_of (kdk hn 9 1 k9 (by decide) (by decide) (by decide))];rfl
  have:=w (kid n 0) 6
  rw[if_pos k9];simp only[List.length_append,List.length_cons,List.length_nil];omega
 rw[if_neg k9]
 by_cases k10:n.Kind=10
 ·have e:sumO o n.Kids=(o (kid n 0)).length+((o (kid n 1)).length+((o (kid n 2)).length+0)):=by rw[kids_of (kdk hn 10 3 k10 (by decide) (by decide) (by decide))];rfl
  have:=w (kid n 0) 1
  rw[if_pos k10];simp only[List.length_append,List.length_cons,List.length_nil];omega
 rw[if_neg k10]
 have e:sumO o n.Kids=(o (kid n 0)).length+((o (kid n 1)).length+0):=by rw[kids_of (kd2 hn (by omega))];rfl
 generalize (if rkS n.Kind=3 then rkS n.Kind+1 else rkS n.Kind)=q
 have:=w (kid n 0) q
 have:=w (kid n 1) (rkS n.Kind+1)
 simp only[List.length_append,List.length_cons,List.length_nil];omega
theorem stk_at (l:List Node):∀ (m i:Nat) (st:List Int),i+m=l.length→Ch l i st→stk i st (l.drop i)=true→∀ (e:Nat) (he:e < l.length),i≤e→nodeOk l[e]=true∧∃ st,Ch l e st∧l[e].Kids.length≤st.length∧st.take l[e].Kids.length=l[e].Kids.reverse
 | 0,i,st,hi,hc,h,e,he,hie=>by omega
 | m+1,i,st,hi,hc,h,e,he,hie=>by
  have hlt:i < l.length:=by omega
  rw[List.drop_eq_getElem_cons hlt,stk] at h
  split at h
  ·rename_i hn
   obtain⟨h1,h2⟩:=hn
   have hk:l[i].Kids.length≤st.length:=by
    have:=congrArg List.length h2
    rw[List.length_take,List.length_reverse] at this
    omega
   by_cases hei:e=i
   ·subst hei
    exact⟨h1,st,hc,hk,h2⟩
   obtain⟨b,hb,hc'⟩:=run_chain l i st i l[i].Kids.length (Nat.le_refl _) hc hk
   rw[h2] at hb
   refine stk_at l m (i+1) ((i:Int)::st.drop l[i].Kids.length) (by omega) ⟨by omega,by omega,b,?_,hc'⟩ h e he (by omega)
   rw[show i+1 - 1=i by omega,begS_eq l (List.getElem?_eq_getElem hlt),if_pos h1]
   exact hb
  cases h
theorem chain_sum (l:List Node) (e:Nat) (hf:∀ j < e,∃ b:Nat,begS l j=b∧(txS l j).length+40000*b≤40000*(j+1)):∀ (st:List Int) (i k:Nat),i≤e→Ch l i st→k≤st.length→∃ b:Nat,b≤i∧Bk.run (fun k=>((bvals l e)[k.toNat]?).getD 0) i (st.take k)=b∧(∀ s ∈ st.take k,0≤s∧s < (i:Int))∧sumO (fun k=>txS l k.toNat) (st.take k)+40000*b≤40000*i
 | st,i,0,_,h,_=>⟨i,Nat.le_refl _,rfl,by simp,by simp[sumO]⟩
 | [],i,k+1,_,_,hk=>absurd hk (by simp)
 | s::st,i,k+1,hi,⟨h0,hs,b,hb,hc⟩,hk=>by
  have hle:=begS_le l (i - 1)
  obtain⟨b',h1,h2,h3,h4⟩:=chain_sum l e hf st b k (by omega) hc (by simpa using hk)
  obtain⟨b2,hb2,hl2⟩:=hf (i - 1) (by omega)
  have e1:s.toNat=i - 1:=by omega
  refine⟨b',by omega,?_,?_,?_⟩
  ·rw[List.take_succ_cons,Bk.run]
   have e2:((bvals l e)[s.toNat]?).getD 0=b:=by rw[e1,bvals_get l (show i - 1 < e by omega),Option.getD_some,hb]
   simp only[e2]
   rw[if_neg (by omega),if_neg (by omega)]
   exact h2
  ·intro q hq
   rw[List.take_succ_cons] at hq
   rcases List.mem_cons.1 hq with rfl | hq
   ·omega
   have:=h3 q hq;omega
  rw[List.take_succ_cons,sumO]
  simp only[e1]
  omega
theorem tree_len {l:List Node} (ht:treeS l=true) (hn:∀ n ∈ l,NS n):∀ (e:Nat) (he:e < l.length),nodeOk l[e]=true∧(∀ k ∈ l[e].Kids,0≤k∧k < (e:Int))∧∃ b:Nat,begS l e=b∧(txS l e).length+40000*b≤40000*(e+1):=by
 have hst:=stk_at l l.length 0 [] (by omega) rfl (by rw[List.drop_zero,←tree_stk];exact ht)
 intro e
 induction e using Nat.strongRecOn with
 | _ e ih =>
  intro he
  obtain⟨h1,st,h2,h3,h4⟩:=hst e he (Nat.zero_le _)
  obtain⟨b,b1,b2,b3,b4⟩:=chain_sum l e (fun j hj=>(ih j hj (by omega)).2.2) st e l[e].Kids.length (Nat.le_refl _) h2 h3
  rw[h4] at b2 b3 b4
  have hk:∀ k ∈ l[e].Kids,0≤k∧k < (e:Int):=fun k hk=>b3 k (List.mem_reverse.2 hk)
  refine⟨h1,hk,b,?_,?_⟩
  ·rw[begS_eq l (List.getElem?_eq_getElem he),if_pos h1]
   exact b2
  rw[sumO_reverse] at b4
  rw[txS_eq he h1 hk]
  have:=ndS_len (l:=l) (o:=fun k=>txS l k.toNat) h1 (hn _ (List.getElem_mem he))
  omega
structure TR (l:List Node):Prop where
 tree:treeS l=true
 ns:∀ n ∈ l,NS n
 len:l.length≤80
theorem TR.node {l:List Node} (h:TR l) (e:Nat) (he:e < l.length):nodeOk l[e]=true∧(∀ k ∈ l[e].Kids,0≤k∧k < (e:Int))∧(txS l e).length≤3300000:=by
 obtain⟨h1,h2,b,h3,h4⟩:=tree_len h.tree h.ns e he
 have:=h.len
 exact⟨h1,h2,by omega⟩
theorem kid_ok {l:List Node} (h:TR l) {e:Nat} (he:e < l.length) {i:Nat} (hi:i < l[e].Kids.length):∃ v,l[e].Kids[i]?=some (kid l[e] i)∧0≤kid l[e] i∧(kid l[e] i).toNat < e∧l[(kid l[e] i).toNat]?=some v∧rkK l (kid l[e] i)=rkS v.Kind∧v.Kind≤23∧(txS l (kid l[e] i).toNat).length≤3300000:=by
 obtain⟨h1,h2,h3⟩:=h.node e he
 have hk:=h2 _ (kid_mem hi)
 have hlt:(kid l[e] i).toNat < l.length:=by omega
 obtain⟨g1,g2,g3⟩:=h.node _ hlt
 have hg:=List.getElem?_eq_getElem hlt
 exact⟨_,kid_get hi,by omega,by omega,hg,by rw[rkK,hg],(kd_len g1).2.1,g3⟩
theorem r_inW {l:List Node} {o:Int→List UInt8} {k least:Int} {d:Bool} (hd:d=true↔rkK l k < least) (hl:(o k).length≤10000000):R_Q71 (o k) d (wrS l o k least):=by
 apply Q71_tree
 refine⟨fun h=>⟨by simp only[maxInt];omega,by simp only[maxInt];omega,?_⟩,fun h=>?_⟩
 ·rw[wrS,if_pos (hd.1 h)]
 rw[wrS,if_neg fun h'=>h (hd.2 h')]
section
variable {l:List Node} {o:Int→List UInt8} {n:Node}
theorem nd1 (h:n.Kind=1):ndS l o n=Lib.itoa n.Num:=by rw[ndS,if_pos h]
theorem nd2 (h:n.Kind=2):ndS l o n=qtS n.Parts:=by rw[ndS,if_neg (by omega),if_pos h]
theorem nd3 (h:n.Kind=3):ndS l o n=Lib.formatBool (decide (n.Num=1)):=by rw[ndS,if_neg (by omega),if_neg (by omega),if_pos h]
theorem nd4 (h:n.Kind=4):ndS l o n=n.Text:=by rw[ndS,if_neg (by omega),if_neg (by omega),if_neg (by omega),if_pos h]
theorem nd5 (h:n.Kind=5):ndS l o n=n.Text++[40]++comS o n.Kids++[41]:=by rw[ndS,if_neg (by omega),if_neg (by omega),if_neg (by omega),if_neg (by omega),if_pos h]
theorem nd6 (h:n.Kind=6):ndS l o n=[91]++comS o n.Kids++[93]:=by rw[ndS,if_neg (by omega),if_neg (by omega),if_neg (by omega),if_neg (by omega),if_neg (by omega),if_pos h]
theorem nd7 (h:n.Kind=7):ndS l o n=wrS l o (kid n 0) 7++[91]++o (kid n 1)++[93]:=by rw[ndS,if_neg (by omega),if_neg (by omega),if_neg (by omega),if_neg (by omega),if_neg (by omega),if_neg (by omega),if_pos h]
theorem nd8 (h:n.Kind=8):ndS l o n=[33]++wrS l o (kid n 0) 6:=by rw[ndS,if_neg (by omega),if_neg (by omega),if_neg (by omega),if_neg (by omega),if_neg (by omega),if_neg (by omega),if_neg (by omega),if_pos h]
theorem nd9 (h:n.Kind=9):ndS l o n=[45]++wrS l o (kid n 0) 6:=by rw[ndS,if_neg (by omega),if_neg (by omega),if_neg (by omega),if_neg (by omega),if_neg (by omega),if_neg (by omega),if_neg (by omega),if_neg (by omega),if_pos h]
theorem nd10 (h:n.Kind=10):ndS l o n=wrS l o (kid n 0) 1++[32,63,32]++o (kid n 1)++[32,58,32]++o (kid n 2):=by rw[ndS,if_neg (by omega),if_neg (by omega),if_neg (by omega),if_neg (by omega),if_neg (by omega),if_neg (by omega),if_neg (by omega),if_neg (by omega),if_neg (by omega),if_pos h]
theorem nd11 (h:10 < n.Kind):ndS l o n=wrS l o (kid n 0) (if rkS n.Kind=3 then rkS n.Kind+1 else rkS n.Kind)++[32]++sgnS n.Kind++[32]++wrS l o (kid n 1) (rkS n.Kind+1):=by rw[ndS,if_neg (by omega),if_neg (by omega),if_neg (by omega),if_neg (by omega),if_neg (by omega),if_neg (by omega),if_neg (by omega),if_neg (by omega),if_neg (by omega),if_neg (by omega)]
end
theorem fb_true:Lib.formatBool true=[116,114,117,101]:=by decide
theorem fb_false:Lib.formatBool false=[102,97,108,115,101]:=by decide
theorem r_shown_coms {l:List Node} {n:Node} {o:Int→List UInt8} (ht:n.Text.length≤300) (h100:n.Kids.length≤100) (hk:∀ k ∈ n.Kids,R_Q46 l k (o k)∧(o k).length≤3300000):At_Q46_1 l n [] 0 (if n.Kind=6 then [91]++comS o n.Kids++[93] else n.Text++[40]++comS o n.Kids++[41]):=by
 have loop:∀ (m i:Nat) (s:List UInt8),0 < i→i+m=n.Kids.length→s.length+3300002*m≤1000000000→At_Q46_1 l n s i (if n.Kind=6 then [91]++(s++comG o (n.Kids.drop i))++[93] else n.Text++[40]++(s++comG o (n.Kids.drop i))++[41]):=by
  intro m
  induction m with
  | zero =>
   intro i s h0 hi hs
   rw[List.drop_of_length_le (by omega),comG,List.append_nil]
   apply At_Q46_1_step
   exact⟨fun h=>by omega,fun _=>⟨fun h6=>⟨by simp only[maxInt];omega,by simp only[maxInt];omega,by rw[if_pos h6]⟩,fun h6=>⟨by simp only[maxInt];omega,by simp only[maxInt];omega,by simp only[maxInt];omega,by rw[if_neg h6]⟩⟩⟩
  | succ m ih =>
   intro i s h0 hi hs
   have hlt:i < n.Kids.length:=by omega
   have hg:n.Kids[((i:Nat):Int).toNat]?=some n.Kids[i]:=by rw[Int.toNat_natCast];exact List.getElem?_eq_getElem hlt
   have hd:n.Kids.drop i=n.Kids[i]::n.Kids.drop (i+1):=List.drop_eq_getElem_cons hlt
   obtain⟨k1,k2⟩:=hk _ (List.getElem_mem hlt)
   have:=ih (i+1) (s++[44,32]++o n.Kids[i]) (by omega) (by omega) (by simp only[List.length_append,List.length_cons,List.length_nil];omega)
   apply At_Q46_1_step
   refine⟨fun _=>⟨fun _=>⟨by simp only[maxInt];omega,by omega,_,hg,_,k1,by simp only[maxInt];omega,⟨by omega,by omega⟩,?_⟩,fun h=>by omega⟩,fun h=>by omega⟩
   rw[hd,comG]
   simpa [List.append_assoc] using this
 apply At_Q46_1_step
 refine⟨fun h0=>⟨fun h=>by omega,fun _=>?_⟩,fun h0=>?_⟩
 ·have hlt:0 < n.Kids.length:=by omega
  have hg:n.Kids[((0:Int)).toNat]?=some n.Kids[0]:=List.getElem?_eq_getElem hlt
  have hd:n.Kids=n.Kids[0]::n.Kids.drop 1:=List.drop_eq_getElem_cons hlt
  obtain⟨k1,k2⟩:=hk _ (List.getElem_mem hlt)
  have:=loop (n.Kids.length - 1) 1 (o n.Kids[0]) (by omega) (by omega) (by omega)
  have e:comS o n.Kids=o n.Kids[0]++comG o (n.Kids.drop 1):=by
   conv=>lhs;rw[hd]
   rw[comS]
  refine⟨by omega,_,hg,_,k1,by simp only[maxInt,List.length_nil];omega,⟨by omega,by omega⟩,?_⟩
  rw[e]
  exact this
 have h0:n.Kids=[]:=List.length_eq_zero_iff.1 (by omega)
 rw[h0,comS]
 exact⟨fun h6=>⟨by decide,by decide,by rw[if_pos h6]⟩,fun h6=>⟨by simp only[maxInt];omega,by simp only[maxInt,List.length_nil];omega,by simp only[maxInt,List.length_nil];omega,by rw[if_neg h6]⟩⟩
theorem r_shown {l:List Node} (h:TR l):∀ (e:Nat),e < l.length→R_Q46 l (e:Int) (txS l e):=by
 intro e
 induction e using Nat.strongRecOn with
 | _ e ih =>
  intro he
  obtain⟨hok,hk,hlen⟩:=h.node e he
  have hs:=h.ns _ (List.getElem_mem he)
  have hg:l[((e:Nat):Int).toNat]?=some l[e]:=by rw[Int.toNat_natCast];exact List.getElem?_eq_getElem he
  have sh:∀ k ∈ l[e].Kids,R_Q46 l k (txS l k.toNat)∧(txS l k.toNat).length≤3300000:=fun k hk'=>by
   have h1:=hk k hk'
   have h2:=ih k.toNat (by omega) (by omega)
   rw[show ((k.toNat:Nat):Int)=k by omega] at h2
   exact⟨h2,(h.node k.toNat (by omega)).2.2⟩
  have kd:=fun i (hi:i < l[e].Kids.length)=>kid_ok h he (i:=i) hi
  rw[txS_eq he hok hk]
  generalize l[e]=n at *
  have hkl:=kd_len hok
  apply Q46_tree
  refine⟨by omega,n,hg,fun k1=>⟨_,r_Digits _ hs.num,(nd1 k1).symm⟩,fun k1=>⟨fun k2=>⟨_,r_refQuote _ hs.parts,(nd2 k2).symm⟩,fun k2=>⟨fun k3=>⟨fun b=>?_,fun b=>?_⟩,fun k3=>⟨fun k4=>(nd4 k4).symm,fun k4=>⟨fun k5=>?_,fun k5=>⟨fun k6=>?_,fun k6=>⟨fun k7=>?_,fun k7=>⟨fun k8=>?_,fun k8=>⟨fun k9=>?_,fun k9=>⟨fun k10=>?_,fun k10=>?_⟩⟩⟩⟩⟩⟩⟩⟩⟩⟩
  ·rw[nd3 k3,decide_eq_true b,fb_true]
  ·rw[nd3 k3,decide_eq_false b,fb_false]
  ·have:=r_shown_coms (o:=fun k=>txS l k.toNat) hs.text hs.kids sh
   rw[if_neg (by omega)] at this
   rw[nd5 k5]
   exact this
  ·have:=r_shown_coms (o:=fun k=>txS l k.toNat) hs.text hs.kids sh
   rw[if_pos k6] at this
   rw[nd6 k6]
   exact this
  ·have hc:=kdk hok 7 2 k7 (by decide) (by decide) (by decide)
   obtain⟨v,a1,a2,a3,a4,a5,a6,a7⟩:=kd 0 (by omega)
   obtain⟨v',b1,b2,b3,b4,b5,b6,b7⟩:=kd 1 (by omega)
   have s0:=(sh _ (kid_mem (n:=n) (i:=0) (by omega))).1
   have s1:=(sh _ (kid_mem (n:=n) (i:=1) (by omega))).1
   have w:=wrS_len l (fun k=>txS l k.toNat) (kid n 0) 7
   refine⟨_,a1,_,s0,a2,_,a4,_,r_refRank _ a6,_,r_inW (o:=fun k=>txS l k.toNat) (least:=7) (by rw[decide_eq_true_eq,a5]) (by omega),by simp only[maxInt];omega,_,b1,_,s1,by simp only[maxInt];omega,by simp only[maxInt];omega,?_⟩
   rw[nd7 k7]
  ·have hc:=kdk hok 8 1 k8 (by decide) (by decide) (by decide)
   obtain⟨v,a1,a2,a3,a4,a5,a6,a7⟩:=kd 0 (by omega)
   have s0:=(sh _ (kid_mem (n:=n) (i:=0) (by omega))).1
   have w:=wrS_len l (fun k=>txS l k.toNat) (kid n 0) 6
   refine⟨_,a1,_,s0,a2,_,a4,_,r_refRank _ a6,_,r_inW (o:=fun k=>txS l k.toNat) (least:=6) (by rw[decide_eq_true_eq,a5]) (by omega),by simp only[maxInt];omega,?_⟩
   rw[nd8 k8]
  ·have hc:=kdk hok 9 1 k9 (by decide) (by decide) (by decide)
   obtain⟨v,a1,a2,a3,a4,a5,a6,a7⟩:=kd 0 (by omega)
   have s0:=(sh _ (kid_mem (n:=n) (i:=0) (by omega))).1
   have w:=wrS_len l (fun k=>txS l k.toNat) (kid n 0) 6
   refine⟨_,a1,_,s0,a2,_,a4,_,r_refRank _ a6,_,r_inW (o:=fun k=>txS l k.toNat) (least:=6) (by rw[decide_eq_true_eq,a5]) (by omega),by simp only[maxInt];omega,?_⟩
   rw[nd9 k9]
  ·have hc:=kdk hok 10 3 k10 (by decide) (by decide) (by decide)
   obtain⟨v,a1,a2,a3,a4,a5,a6,a7⟩:=kd 0 (by omega)
   obtain⟨v',b1,b2,b3,b4,b5,b6,b7⟩:=kd 1 (by omega)
   obtain⟨v2,c1,c2,c3,c4,c5,c6,c7⟩:=kd 2 (by omega)
   have s0:=(sh _ (kid_mem (n:=n) (i:=0) (by omega))).1
   have s1:=(sh _ (kid_mem (n:=n) (i:=1) (by omega))).1
   have s2:=(sh _ (kid_mem (n:=n) (i:=2) (by omega))).1
   have w:=wrS_len l (fun k=>txS l k.toNat) (kid n 0) 1
   have rr:=rk_range v.Kind
   refine⟨_,a1,_,s0,a2,_,a4,_,r_refRank _ a6,_,r_inW (o:=fun k=>txS l k.toNat) (least:=1) (by rw[decide_eq_true_eq,a5];omega) (by omega),by simp only[maxInt];omega,_,b1,_,s1,by simp only[maxInt];omega,by simp only[maxInt];omega,_,c1,_,s2,by simp only[maxInt];omega,?_⟩
   rw[nd10 k10]
  have hc:=kd2 hok (by omega)
  obtain⟨v,a1,a2,a3,a4,a5,a6,a7⟩:=kd 0 (by omega)
  obtain⟨v',b1,b2,b3,b4,b5,b6,b7⟩:=kd 1 (by omega)
  have s0:=(sh _ (kid_mem (n:=n) (i:=0) (by omega))).1
  have s1:=(sh _ (kid_mem (n:=n) (i:=1) (by omega))).1
  have sg:=sgn_len n.Kind
  have sgn:=sgn_get (k:=n.Kind) (by omega) (by omega)
  have i1:=r_inW (l:=l) (o:=fun k=>txS l k.toNat) (k:=kid n 1) (least:=rkS n.Kind+1) (d:=decide (rkS v'.Kind≤rkS n.Kind)) (by rw[decide_eq_true_eq,b5];omega) (by omega)
  have w1:=wrS_len l (fun k=>txS l k.toNat) (kid n 1) (rkS n.Kind+1)
  refine⟨_,a1,_,b1,_,r_refRank _ (by omega),a2,_,a4,_,r_refRank _ a6,fun q=>?_,fun q=>⟨fun q3=>?_,fun q3=>?_⟩⟩
  ·have w:=wrS_len l (fun k=>txS l k.toNat) (kid n 0) (if rkS n.Kind=3 then rkS n.Kind+1 else rkS n.Kind)
   refine⟨_,s0,_,r_inW (o:=fun k=>txS l k.toNat) (least:=if rkS n.Kind=3 then rkS n.Kind+1 else rkS n.Kind) (by rw[a5];simp only[true_iff];split <;> omega) (by omega),by simp only[maxInt];omega,⟨by omega,by omega⟩,by omega,_,sgn,by simp only[maxInt];omega,by simp only[maxInt];omega,_,s1,b2,_,b4,_,r_refRank _ b6,_,i1,by simp only[maxInt];omega,?_⟩
   rw[nd11 (by omega)]
  ·have w:=wrS_len l (fun k=>txS l k.toNat) (kid n 0) (if rkS n.Kind=3 then rkS n.Kind+1 else rkS n.Kind)
   refine⟨_,s0,_,r_inW (o:=fun k=>txS l k.toNat) (least:=if rkS n.Kind=3 then rkS n.Kind+1 else rkS n.Kind) (by rw[a5,decide_eq_true_eq,if_pos q3];omega) (by omega),by simp only[maxInt];omega,⟨by omega,by omega⟩,by omega,_,sgn,by simp only[maxInt];omega,by simp only[maxInt];omega,_,s1,b2,_,b4,_,r_refRank _ b6,_,i1,by simp only[maxInt];omega,?_⟩
   rw[nd11 (by omega)]
  have w:=wrS_len l (fun k=>txS l k.toNat) (kid n 0) (if rkS n.Kind=3 then rkS n.Kind+1 else rkS n.Kind)
  refine⟨_,s0,_,r_inW (o:=fun k=>txS l k.toNat) (least:=if rkS n.Kind=3 then rkS n.Kind+1 else rkS n.Kind) (by rw[a5,if_neg q3];simp only[Bool.false_eq_true,false_iff];omega) (by omega),by simp only[maxInt];omega,⟨by omega,by omega⟩,by omega,_,sgn,by simp only[maxInt];omega,by simp only[maxInt];omega,_,s1,b2,_,b4,_,r_refRank _ b6,_,i1,by simp only[maxInt];omega,?_⟩
  rw[nd11 (by omega)]
end Go.Proofs.YtfbcnpbhhooapaaGreatDoor.M
namespace Go.Proofs.YtfbcnpbhhooapaaGreatDoor.M
open Go
set_option linter.unusedVariables false
def c_slices_IndexFunc_api_Block_api_Block_1:SC:=.seq (.reg [⟨some 4,none,.v (.mov (.c (.int .i64 (-1))))⟩]) .ret
def b_slices_IndexFunc_api_Block_api_Block_1:SC:=.seq (.reg [⟨some 9,none,.v (.bin .lss (.t 8) (.t 7))⟩]) (.seq (.cond (.t 9) .skip (.exit 0)) (.seq (.block 1 (.seq (.reg [⟨some 10,none,.v (.mov (.t 8))⟩,⟨some 5,none,.v (.mov (.t 10))⟩]) (.seq (.reg [⟨some 11,none,.v (.mov (.t 1))⟩,⟨some 12,none,.v (.mov (.t 0))⟩,⟨some 13,none,.v (.mov (.t 5))⟩,⟨some 14,none,.v (.iaddr 4 (.t 12) (.t 13))⟩,⟨some 15,none,.v (.load (some 4) (.t 14))⟩,⟨some 16,none,.call (.t 11) [(.t 15)]⟩]) (.cond (.t 16) (.seq (.reg [⟨some 17,none,.v (.mov (.t 5))⟩,⟨some 4,none,.v (.mov (.t 17))⟩]) .ret) .skip)))) (.reg [⟨some 18,none,.v (.bin .add (.t 8) (.c (.int .i64 1)))⟩,⟨some 8,none,.v (.mov (.t 18))⟩])))
def sc_slices_IndexFunc_api_Block_api_Block:SFunc:=⟨2,19,.seq (.reg [⟨some 4,none,.v (.mov (.c (.int .i64 0)))⟩]) (.seq (.seq (.reg [⟨some 6,none,.v (.mov (.t 0))⟩,⟨some 7,none,.v (.len false (.t 6))⟩,⟨some 8,none,.v (.mov (.c (.int .i64 0)))⟩]) (.block 0 (.loop b_slices_IndexFunc_api_Block_api_Block_1))) c_slices_IndexFunc_api_Block_api_Block_1),[(.t 4)]⟩
noncomputable def k_slices_IndexFunc_api_Block_api_Block_1 (SP:Prg) (x:EO):CO:=fin [(.t 4)] (thC SP (inBlk 0 (x)) c_slices_IndexFunc_api_Block_api_Block_1)
theorem U_slices_IndexFunc_api_Block_api_Block:type_of% (aI (ue c_slices_IndexFunc_api_Block_api_Block_1.eq_1)<|aI (ue b_slices_IndexFunc_api_Block_api_Block_1.eq_1)<|sc_slices_IndexFunc_api_Block_api_Block.eq_1):=aI (ue c_slices_IndexFunc_api_Block_api_Block_1.eq_1)<|aI (ue b_slices_IndexFunc_api_Block_api_Block_1.eq_1)<|sc_slices_IndexFunc_api_Block_api_Block.eq_1
theorem comp_slices_IndexFunc_api_Block_api_Block:comp Tryz.prog Tryz.f80=some sc_slices_IndexFunc_api_Block_api_Block:=by kernel_rfl
def sc_slices_ContainsFunc_api_Block_api_Block:SFunc:=⟨2,9,.seq (.reg [⟨some 4,none,.v (.mov (.c (.bool false)))⟩]) (.seq (.reg [⟨some 5,none,.v (.mov (.t 0))⟩,⟨some 6,none,.v (.mov (.t 1))⟩,⟨some 7,none,.call (.c (.func 80 [])) [(.t 5),(.t 6)]⟩,⟨some 8,none,.v (.bin .geq (.t 7) (.c (.int .i64 0)))⟩,⟨some 4,none,.v (.mov (.t 8))⟩]) .ret),[(.t 4)]⟩
theorem U_slices_ContainsFunc_api_Block_api_Block:type_of% (sc_slices_ContainsFunc_api_Block_api_Block.eq_1):=sc_slices_ContainsFunc_api_Block_api_Block.eq_1
theorem comp_slices_ContainsFunc_api_Block_api_Block:comp Tryz.prog Tryz.f50=some sc_slices_ContainsFunc_api_Block_api_Block:=by kernel_rfl
def sc_Q30:SFunc:=⟨1,6,.seq (.reg [⟨some 2,none,.v (.mov (.c (.bool false)))⟩]) (.seq (.reg [⟨some 3,none,.v (.mov (.t 0))⟩,⟨some 4,none,.call (.c (.func 50 [])) [(.t 3),(.c (.func 51 []))]⟩,⟨some 5,none,.v (.un .not (.t 4))⟩,⟨some 2,none,.v (.mov (.t 5))⟩]) .ret),[(.t 2)]⟩
theorem U_Q30:type_of% (sc_Q30.eq_1):=sc_Q30.eq_1
theorem comp_Q30:comp Tryz.prog Tryz.f30=some sc_Q30:=by kernel_rfl
def sc_Q51:SFunc:=⟨1,6,.seq (.reg [⟨some 1,none,.box (.t 0)⟩,⟨some 2,none,.v (.mov (.c (.bool false)))⟩]) (.seq (.reg [⟨some 3,none,.v (.load (some 4) (.t 1))⟩,⟨some 4,none,.call (.c (.func 52 [])) [(.t 3),(.c (.bool false))]⟩,⟨some 5,none,.v (.un .not (.t 4))⟩,⟨some 2,none,.v (.mov (.t 5))⟩]) .ret),[(.t 2)]⟩
theorem U_Q51:type_of% (sc_Q51.eq_1):=sc_Q51.eq_1
theorem comp_Q51:comp Tryz.prog Tryz.f51=some sc_Q51:=by kernel_rfl
def c_Q83:SC:=.seq (.reg [⟨some 39,none,.v (.mov (.t 1))⟩,⟨some 40,none,.v (.un .not (.t 39))⟩,⟨some 41,none,.v (.mov (.t 40))⟩,⟨some 42,some (41,true),.v (.faddr 2 (.t 2))⟩,⟨some 43,some (41,true),.v (.load none (.t 42))⟩,⟨some 44,some (41,true),.v (.len false (.t 43))⟩,⟨some 45,some (41,true),.v (.bin .eql (.t 44) (.c (.int .i64 0)))⟩,⟨some 46,none,.v (.pick (.t 41) (.t 45) (.c (.bool false)))⟩,⟨some 47,none,.v (.mov (.t 46))⟩,⟨some 48,some (47,true),.v (.faddr 3 (.t 2))⟩,⟨some 49,some (47,true),.v (.load none (.t 48))⟩,⟨some 50,some (47,true),.call (.c (.func 50 [])) [(.t 49),(.c (.func 83 []))]⟩,⟨some 51,some (47,true),.v (.un .not (.t 50))⟩,⟨some 52,none,.v (.pick (.t 47) (.t 51) (.c (.bool false)))⟩,⟨some 4,none,.v (.mov (.t 52))⟩]) .ret
def c_Q52_2:SC:=.seq (.seq (.reg [⟨some 27,none,.v (.faddr 0 (.t 2))⟩,⟨some 28,none,.v (.load none (.t 27))⟩,⟨some 29,none,.v (.bin .neq (.t 28) (.c (.int .i64 5)))⟩]) (.cond (.t 29) (.seq (.reg [⟨some 30,none,.v (.faddr 3 (.t 2))⟩,⟨some 31,none,.v (.load none (.t 30))⟩,⟨some 32,none,.v (.len false (.t 31))⟩,⟨some 33,none,.v (.bin .eql (.t 32) (.c (.int .i64 0)))⟩,⟨some 34,none,.v (.mov (.t 33))⟩,⟨some 35,some (34,true),.v (.faddr 2 (.t 2))⟩,⟨some 36,some (34,true),.v (.load none (.t 35))⟩,⟨some 37,some (34,true),.call (.c (.func 82 [])) [(.t 36)]⟩,⟨some 38,none,.v (.pick (.t 34) (.t 37) (.c (.bool false)))⟩,⟨some 4,none,.v (.mov (.t 38))⟩]) .ret) .skip)) c_Q83
def c_Q52_3:SC:=.seq (.seq (.reg [⟨some 15,none,.v (.faddr 0 (.t 2))⟩,⟨some 16,none,.v (.load none (.t 15))⟩,⟨some 17,none,.v (.bin .lss (.t 16) (.c (.int .i64 1)))⟩,⟨some 18,none,.v (.mov (.t 17))⟩,⟨some 19,some (18,false),.v (.faddr 0 (.t 2))⟩,⟨some 20,some (18,false),.v (.load none (.t 19))⟩,⟨some 21,some (18,false),.v (.bin .gtr (.t 20) (.c (.int .i64 5)))⟩,⟨some 22,none,.v (.pick (.t 18) (.c (.bool true)) (.t 21))⟩,⟨some 23,none,.v (.mov (.t 22))⟩,⟨some 24,some (23,false),.v (.mov (.t 5))⟩,⟨some 25,some (23,false),.v (.un .not (.t 24))⟩,⟨some 26,none,.v (.pick (.t 23) (.c (.bool true)) (.t 25))⟩]) (.cond (.t 26) (.seq (.reg [⟨some 4,none,.v (.mov (.c (.bool false)))⟩]) .ret) .skip)) c_Q52_2
def c_Q52_4:SC:=.seq (.seq (.reg [⟨some 9,none,.v (.faddr 0 (.t 2))⟩,⟨some 10,none,.v (.load none (.t 9))⟩,⟨some 11,none,.v (.bin .eql (.t 10) (.c (.int .i64 2)))⟩]) (.cond (.t 11) (.reg [⟨some 12,none,.v (.faddr 1 (.t 2))⟩,⟨some 13,none,.v (.load none (.t 12))⟩,⟨some 14,none,.v (.bin .eql (.t 13) (.c (.str [])))⟩,⟨some 5,none,.v (.mov (.t 14))⟩]) .skip)) c_Q52_3
def c_Q52_5:SC:=.seq (.reg [⟨some 6,none,.v (.faddr 1 (.t 2))⟩,⟨some 7,none,.v (.load none (.t 6))⟩,⟨some 8,none,.call (.c (.func 81 [])) [(.t 7)]⟩,⟨some 5,none,.v (.mov (.t 8))⟩]) c_Q52_4
def sc_Q52:SFunc:=⟨2,53,.seq (.reg [⟨some 2,none,.box (.t 0)⟩,⟨some 4,none,.v (.mov (.c (.bool false)))⟩]) c_Q52_5,[(.t 4)]⟩
theorem U_Q52:type_of% (aI (ue c_Q83.eq_1)<|aI (ue c_Q52_2.eq_1)<|aI (ue c_Q52_3.eq_1)<|aI (ue c_Q52_4.eq_1)<|aI (ue c_Q52_5.eq_1)<|sc_Q52.eq_1):=aI (ue c_Q83.eq_1)<|aI (ue c_Q52_2.eq_1)<|aI (ue c_Q52_3.eq_1)<|aI (ue c_Q52_4.eq_1)<|aI (ue c_Q52_5.eq_1)<|sc_Q52.eq_1
theorem comp_Q52:comp Tryz.prog Tryz.f52=some sc_Q52:=by kernel_rfl
def sc_Q83:SFunc:=⟨1,6,.seq (.reg [⟨some 1,none,.box (.t 0)⟩,⟨some 2,none,.v (.mov (.c (.bool false)))⟩]) (.seq (.reg [⟨some 3,none,.v (.load (some 4) (.t 1))⟩,⟨some 4,none,.call (.c (.func 52 [])) [(.t 3),(.c (.bool true))]⟩,⟨some 5,none,.v (.un .not (.t 4))⟩,⟨some 2,none,.v (.mov (.t 5))⟩]) .ret),[(.t 2)]⟩
theorem U_Q83:type_of% (sc_Q83.eq_1):=sc_Q83.eq_1
theorem comp_Q83:comp Tryz.prog Tryz.f83=some sc_Q83:=by kernel_rfl
def c_Q121:SC:=.seq (.reg [⟨some 2,none,.v (.mov (.c (.bool true)))⟩]) .ret
def c_Q82_2:SC:=.seq (.block 1 (.seq (.reg [⟨some 9,none,.v (.mov (.t 7))⟩,⟨some 10,none,.v (.iaddr 2 (.t 5) (.t 7))⟩,⟨some 11,none,.v (.load (some 2) (.t 10))⟩,⟨some 4,none,.alloc [(.str []),(.nils 5)]⟩,⟨some 3,none,.v (.mov (.t 9))⟩,⟨none,none,.store 2 (.t 4) (.t 11)⟩]) (.seq (.reg [⟨some 12,none,.v (.faddr 0 (.t 4))⟩,⟨some 13,none,.v (.load none (.t 12))⟩,⟨some 14,none,.call (.c (.func 115 [])) [(.t 13)]⟩,⟨some 15,none,.v (.un .not (.t 14))⟩,⟨some 16,none,.v (.mov (.t 15))⟩,⟨some 17,some (16,false),.v (.faddr 1 (.t 4))⟩,⟨some 18,some (16,false),.v (.load none (.t 17))⟩,⟨some 19,some (16,false),.call (.c (.func 26 [])) [(.t 18)]⟩,⟨some 20,some (16,false),.v (.un .not (.t 19))⟩,⟨some 21,none,.v (.pick (.t 16) (.c (.bool true)) (.t 20))⟩,⟨some 22,none,.v (.mov (.t 21))⟩,⟨some 23,some (22,false),.v (.mov (.t 0))⟩,⟨some 24,some (22,false),.v (.mov (.t 3))⟩,⟨some 25,some (22,false),.v (.slc 2 (.t 23) none (some (.t 24)) none)⟩,⟨some 26,some (22,false),.v (.func 121 [(.t 4)])⟩,⟨some 27,some (22,false),.call (.c (.func 99 [])) [(.t 25),(.t 26)]⟩,⟨some 28,none,.v (.pick (.t 22) (.c (.bool true)) (.t 27))⟩]) (.cond (.t 28) (.seq (.reg [⟨some 2,none,.v (.mov (.c (.bool false)))⟩]) .ret) .skip)))) (.reg [⟨some 29,none,.v (.bin .add (.t 7) (.c (.int .i64 1)))⟩,⟨some 7,none,.v (.mov (.t 29))⟩])
def c_Q82_3:SC:=.seq (.cond (.t 8) .skip (.exit 0)) c_Q82_2
def b_Q121:SC:=.seq (.reg [⟨some 8,none,.v (.bin .lss (.t 7) (.t 6))⟩]) c_Q82_3
def c_Q82_4:SC:=.block 0 (.loop b_Q121)
def c_Q82_5:SC:=.seq (.seq (.reg [⟨some 5,none,.v (.mov (.t 0))⟩,⟨some 6,none,.v (.len false (.t 5))⟩,⟨some 7,none,.v (.mov (.c (.int .i64 0)))⟩]) c_Q82_4) c_Q121
def sc_Q82:SFunc:=⟨1,30,.seq (.reg [⟨some 2,none,.v (.mov (.c (.bool false)))⟩]) c_Q82_5,[(.t 2)]⟩
noncomputable def k_Q121 (SP:Prg) (x:EO):CO:=fin [(.t 2)] (thC SP (inBlk 0 (x)) c_Q121)
theorem U_Q82:type_of% (aI (ue c_Q121.eq_1)<|aI (ue c_Q82_2.eq_1)<|aI (ue c_Q82_3.eq_1)<|aI (ue b_Q121.eq_1)<|aI (ue c_Q82_4.eq_1)<|aI (ue c_Q82_5.eq_1)<|sc_Q82.eq_1):=aI (ue c_Q121.eq_1)<|aI (ue c_Q82_2.eq_1)<|aI (ue c_Q82_3.eq_1)<|aI (ue b_Q121.eq_1)<|aI (ue c_Q82_4.eq_1)<|aI (ue c_Q82_5.eq_1)<|sc_Q82.eq_1
theorem comp_Q82:comp Tryz.prog Tryz.f82=some sc_Q82:=by kernel_rfl
def sc_Q121:SFunc:=⟨2,9,.seq (.reg [⟨some 2,none,.box (.t 0)⟩,⟨some 3,none,.v (.mov (.c (.bool false)))⟩]) (.seq (.reg [⟨some 4,none,.v (.faddr 0 (.t 2))⟩,⟨some 5,none,.v (.load none (.t 4))⟩,⟨some 6,none,.v (.faddr 0 (.t 1))⟩,⟨some 7,none,.v (.load none (.t 6))⟩,⟨some 8,none,.v (.bin .eql (.t 5) (.t 7))⟩,⟨some 3,none,.v (.mov (.t 8))⟩]) .ret),[(.t 3)]⟩
theorem U_Q121:type_of% (sc_Q121.eq_1):=sc_Q121.eq_1
theorem comp_Q121:comp Tryz.prog Tryz.f121=some sc_Q121:=by kernel_rfl
def c_Q48_1:SC:=.seq (.reg [⟨some 2,none,.v (.mov (.c (.int .i64 (-2))))⟩]) .ret
def c_Q48_2:SC:=.cond (.t 10) (.seq (.reg [⟨some 2,none,.v (.mov (.c (.int .i64 (-1))))⟩]) .ret) (.seq (.reg [⟨some 18,none,.v (.mov (.t 0))⟩,⟨some 19,none,.v (.bin .eql (.t 18) (.c (.int .i64 8)))⟩,⟨some 20,none,.v (.mov (.t 19))⟩,⟨some 21,some (20,false),.v (.mov (.t 0))⟩,⟨some 22,some (20,false),.v (.bin .eql (.t 21) (.c (.int .i64 9)))⟩,⟨some 23,none,.v (.pick (.t 20) (.c (.bool true)) (.t 22))⟩,⟨some 17,none,.v (.mov (.t 23))⟩]) (.cond (.t 17) (.seq (.reg [⟨some 2,none,.v (.mov (.c (.int .i64 1)))⟩]) .ret) (.seq (.reg [⟨some 25,none,.v (.mov (.t 0))⟩,⟨some 26,none,.v (.bin .eql (.t 25) (.c (.int .i64 10)))⟩,⟨some 24,none,.v (.mov (.t 26))⟩]) (.cond (.t 24) (.seq (.reg [⟨some 2,none,.v (.mov (.c (.int .i64 3)))⟩]) .ret) (.seq (.reg [⟨some 28,none,.v (.mov (.t 0))⟩,⟨some 29,none,.v (.bin .eql (.t 28) (.c (.int .i64 7)))⟩,⟨some 30,none,.v (.mov (.t 29))⟩,⟨some 31,some (30,false),.v (.mov (.t 0))⟩,⟨some 32,some (30,false),.v (.bin .geq (.t 31) (.c (.int .i64 11)))⟩,⟨some 33,some (30,false),.v (.mov (.t 32))⟩,⟨some 34,some (33,true),.v (.mov (.t 0))⟩,⟨some 35,some (33,true),.v (.bin .leq (.t 34) (.c (.int .i64 23)))⟩,⟨some 36,some (30,false),.v (.pick (.t 33) (.t 35) (.c (.bool false)))⟩,⟨some 37,none,.v (.pick (.t 30) (.c (.bool true)) (.t 36))⟩,⟨some 27,none,.v (.mov (.t 37))⟩]) (.cond (.t 27) (.seq (.reg [⟨some 2,none,.v (.mov (.c (.int .i64 2)))⟩]) .ret) .skip))))))
def c_Q48_3:SC:=.cond (.t 3) (.seq (.reg [⟨some 2,none,.v (.mov (.c (.int .i64 0)))⟩]) .ret) (.seq (.reg [⟨some 11,none,.v (.mov (.t 0))⟩,⟨some 12,none,.v (.bin .eql (.t 11) (.c (.int .i64 5)))⟩,⟨some 13,none,.v (.mov (.t 12))⟩,⟨some 14,some (13,false),.v (.mov (.t 0))⟩,⟨some 15,some (13,false),.v (.bin .eql (.t 14) (.c (.int .i64 6)))⟩,⟨some 16,none,.v (.pick (.t 13) (.c (.bool true)) (.t 15))⟩,⟨some 10,none,.v (.mov (.t 16))⟩]) c_Q48_2)
def c_Q48_4:SC:=.seq (.block 0 (.seq (.reg [⟨some 4,none,.v (.mov (.t 0))⟩,⟨some 5,none,.v (.bin .geq (.t 4) (.c (.int .i64 1)))⟩,⟨some 6,none,.v (.mov (.t 5))⟩,⟨some 7,some (6,true),.v (.mov (.t 0))⟩,⟨some 8,some (6,true),.v (.bin .leq (.t 7) (.c (.int .i64 4)))⟩,⟨some 9,none,.v (.pick (.t 6) (.t 8) (.c (.bool false)))⟩,⟨some 3,none,.v (.mov (.t 9))⟩]) c_Q48_3)) c_Q48_1
def sc_Q48:SFunc:=⟨1,38,.seq (.reg [⟨some 2,none,.v (.mov (.c (.int .i64 0)))⟩]) c_Q48_4,[(.t 2)]⟩
theorem U_Q48:type_of% (aI (ue c_Q48_1.eq_1)<|aI (ue c_Q48_2.eq_1)<|aI (ue c_Q48_3.eq_1)<|aI (ue c_Q48_4.eq_1)<|sc_Q48.eq_1):=aI (ue c_Q48_1.eq_1)<|aI (ue c_Q48_2.eq_1)<|aI (ue c_Q48_3.eq_1)<|aI (ue c_Q48_4.eq_1)<|sc_Q48.eq_1
theorem comp_Q48:comp Tryz.prog Tryz.f48=some sc_Q48:=by kernel_rfl
def c_Q76_1:SC:=.seq (.reg [⟨some 2,none,.v (.mov (.c (.bool true)))⟩]) .ret
def c_Q76_2:SC:=.reg [⟨some 9,none,.v (.mov (.t 3))⟩,⟨some 10,none,.v (.bin .add (.t 9) (.c (.int .i64 1)))⟩,⟨some 3,none,.v (.mov (.t 10))⟩]
def c_Q76_3:SC:=.seq (.block 3 (.seq (.reg [⟨some 52,none,.v (.mov (.t 0))⟩,⟨some 53,none,.v (.mov (.t 3))⟩,⟨some 54,none,.v (.iaddr 2 (.t 52) (.t 53))⟩,⟨some 55,none,.v (.faddr 1 (.t 54))⟩,⟨some 56,none,.v (.load none (.t 55))⟩,⟨some 57,none,.v (.mov (.t 4))⟩,⟨some 58,none,.v (.istr (.t 56) (.t 57))⟩,⟨some 59,none,.v (.bin .lss (.t 58) (.c (.int .u8 32)))⟩,⟨some 60,none,.v (.mov (.t 59))⟩,⟨some 61,some (60,true),.v (.mov (.t 0))⟩,⟨some 62,some (60,true),.v (.mov (.t 3))⟩,⟨some 63,some (60,true),.v (.iaddr 2 (.t 61) (.t 62))⟩,⟨some 64,some (60,true),.v (.faddr 1 (.t 63))⟩,⟨some 65,some (60,true),.v (.load none (.t 64))⟩,⟨some 66,some (60,true),.v (.mov (.t 4))⟩,⟨some 67,some (60,true),.v (.istr (.t 65) (.t 66))⟩,⟨some 68,some (60,true),.v (.bin .neq (.t 67) (.c (.int .u8 10)))⟩,⟨some 69,none,.v (.pick (.t 60) (.t 68) (.c (.bool false)))⟩]) (.cond (.t 69) (.seq (.reg [⟨some 2,none,.v (.mov (.c (.bool false)))⟩]) .ret) .skip))) (.reg [⟨some 50,none,.v (.mov (.t 4))⟩,⟨some 51,none,.v (.bin .add (.t 50) (.c (.int .i64 1)))⟩,⟨some 4,none,.v (.mov (.t 51))⟩])
def b_Q76_2:SC:=.seq (.seq (.reg [⟨some 42,none,.v (.mov (.t 4))⟩,⟨some 43,none,.v (.mov (.t 0))⟩,⟨some 44,none,.v (.mov (.t 3))⟩,⟨some 45,none,.v (.iaddr 2 (.t 43) (.t 44))⟩,⟨some 46,none,.v (.faddr 1 (.t 45))⟩,⟨some 47,none,.v (.load none (.t 46))⟩,⟨some 48,none,.v (.len true (.t 47))⟩,⟨some 49,none,.v (.bin .lss (.t 42) (.t 48))⟩]) (.cond (.t 49) .skip (.exit 2))) c_Q76_3
def c_Q76_4:SC:=.block 2 (.loop b_Q76_2)
def c_Q76_5:SC:=.seq (.reg [⟨some 4,none,.v (.mov (.c (.int .i64 0)))⟩]) c_Q76_4
def c_Q76_6:SC:=.seq (.seq (.reg [⟨some 23,none,.v (.mov (.t 0))⟩,⟨some 24,none,.v (.mov (.t 3))⟩,⟨some 25,none,.v (.iaddr 2 (.t 23) (.t 24))⟩,⟨some 26,none,.v (.faddr 1 (.t 25))⟩,⟨some 27,none,.v (.load none (.t 26))⟩,⟨some 28,none,.v (.bin .eql (.t 27) (.c (.str [])))⟩,⟨some 29,none,.v (.mov (.t 28))⟩,⟨some 30,some (29,false),.v (.mov (.t 3))⟩,⟨some 31,some (29,false),.v (.bin .gtr (.t 30) (.c (.int .i64 0)))⟩,⟨some 32,some (29,false),.v (.mov (.t 31))⟩,⟨some 33,some (32,true),.v (.mov (.t 0))⟩,⟨some 34,some (32,true),.v (.mov (.t 3))⟩,⟨some 35,some (32,true),.v (.bin .sub (.t 34) (.c (.int .i64 1)))⟩,⟨some 36,some (32,true),.v (.iaddr 2 (.t 33) (.t 35))⟩,⟨some 37,some (32,true),.v (.faddr 0 (.t 36))⟩,⟨some 38,some (32,true),.v (.load none (.t 37))⟩,⟨some 39,some (32,true),.v (.un .not (.t 38))⟩,⟨some 40,some (29,false),.v (.pick (.t 32) (.t 39) (.c (.bool false)))⟩,⟨some 41,none,.v (.pick (.t 29) (.c (.bool true)) (.t 40))⟩]) (.cond (.t 41) (.seq (.reg [⟨some 2,none,.v (.mov (.c (.bool false)))⟩]) .ret) .skip)) c_Q76_5
def c_Q76_7:SC:=.seq (.block 1 (.seq (.seq (.reg [⟨some 11,none,.v (.mov (.t 0))⟩,⟨some 12,none,.v (.mov (.t 3))⟩,⟨some 13,none,.v (.iaddr 2 (.t 11) (.t 12))⟩,⟨some 14,none,.v (.faddr 0 (.t 13))⟩,⟨some 15,none,.v (.load none (.t 14))⟩]) (.cond (.t 15) (.seq (.seq (.reg [⟨some 16,none,.v (.mov (.t 0))⟩,⟨some 17,none,.v (.mov (.t 3))⟩,⟨some 18,none,.v (.iaddr 2 (.t 16) (.t 17))⟩,⟨some 19,none,.v (.faddr 1 (.t 18))⟩,⟨some 20,none,.v (.load none (.t 19))⟩,⟨some 21,none,.call (.c (.func 78 [])) [(.t 20)]⟩,⟨some 22,none,.v (.un .not (.t 21))⟩]) (.cond (.t 22) (.seq (.reg [⟨some 2,none,.v (.mov (.c (.bool false)))⟩]) .ret) .skip)) (.exit 1)) .skip)) c_Q76_6)) c_Q76_2
def b_Q76_1:SC:=.seq (.seq (.reg [⟨some 5,none,.v (.mov (.t 3))⟩,⟨some 6,none,.v (.mov (.t 0))⟩,⟨some 7,none,.v (.len false (.t 6))⟩,⟨some 8,none,.v (.bin .lss (.t 5) (.t 7))⟩]) (.cond (.t 8) .skip (.exit 0))) c_Q76_7
def c_Q76_8:SC:=.block 0 (.loop b_Q76_1)
def c_Q76_9:SC:=.seq (.seq (.reg [⟨some 3,none,.v (.mov (.c (.int .i64 0)))⟩]) c_Q76_8) c_Q76_1
def sc_Q76:SFunc:=⟨1,70,.seq (.reg [⟨some 2,none,.v (.mov (.c (.bool false)))⟩]) c_Q76_9,[(.t 2)]⟩
noncomputable def k_Q76_2 (SP:Prg) (x:EO):CO:=fin [(.t 2)] (thC SP (inBlk 0 (thC SP (thC SP (inBlk 1 (inBlk 2 (x))) c_Q76_2) (.loop b_Q76_1))) c_Q76_1)
noncomputable def k_Q76_1 (SP:Prg) (x:EO):CO:=fin [(.t 2)] (thC SP (inBlk 0 (x)) c_Q76_1)
theorem U_Q76:type_of% (aI (ue c_Q76_1.eq_1)<|aI (ue c_Q76_2.eq_1)<|aI (ue c_Q76_3.eq_1)<|aI (ue b_Q76_2.eq_1)<|aI (ue c_Q76_4.eq_1)<|aI (ue c_Q76_5.eq_1)<|aI (ue c_Q76_6.eq_1)<|aI (ue c_Q76_7.eq_1)<|aI (ue b_Q76_1.eq_1)<|aI (ue c_Q76_8.eq_1)<|aI (ue c_Q76_9.eq_1)<|sc_Q76.eq_1):=aI (ue c_Q76_1.eq_1)<|aI (ue c_Q76_2.eq_1)<|aI (ue c_Q76_3.eq_1)<|aI (ue b_Q76_2.eq_1)<|aI (ue c_Q76_4.eq_1)<|aI (ue c_Q76_5.eq_1)<|aI (ue c_Q76_6.eq_1)<|aI (ue c_Q76_7.eq_1)<|aI (ue b_Q76_1.eq_1)<|aI (ue c_Q76_8.eq_1)<|aI (ue c_Q76_9.eq_1)<|sc_Q76.eq_1
theorem comp_Q76:comp Tryz.prog Tryz.f76=some sc_Q76:=by kernel_rfl
def c_Q49_1:SC:=.seq (.reg [⟨some 2,none,.v (.mov (.c (.bool true)))⟩]) .ret
def c_Q49_2:SC:=.cond (.t 65) (.seq (.dreg [⟨some 67,none,.v (.faddr 2 (.t 1))⟩,⟨some 68,none,.v (.load none (.t 67))⟩,⟨some 69,none,.v (.faddr 2 (.t 1))⟩,⟨some 70,none,.v (.load none (.t 69))⟩,⟨some 71,none,.call (.c (.func 77 [])) [(.t 70),(.c (.int .i64 0))]⟩,⟨some 72,none,.v (.sls (.t 68) none (some (.t 71)))⟩,⟨some 3,none,.v (.mov (.t 72))⟩] [false,false,false,false,false,true,true]) (.seq (.reg [⟨some 73,none,.v (.faddr 2 (.t 1))⟩,⟨some 74,none,.v (.load none (.t 73))⟩,⟨some 75,none,.call (.c (.func 78 [])) [(.t 74)]⟩,⟨some 76,none,.v (.mov (.t 75))⟩,⟨some 77,some (76,true),.v (.mov (.t 3))⟩,⟨some 78,some (76,true),.v (.bin .neq (.t 77) (.c (.str [116,114,117,101])))⟩,⟨some 79,none,.v (.pick (.t 76) (.t 78) (.c (.bool false)))⟩,⟨some 80,none,.v (.mov (.t 79))⟩,⟨some 81,some (80,true),.v (.mov (.t 3))⟩,⟨some 82,some (80,true),.v (.bin .neq (.t 81) (.c (.str [102,97,108,115,101])))⟩,⟨some 83,none,.v (.pick (.t 80) (.t 82) (.c (.bool false)))⟩,⟨some 2,none,.v (.mov (.t 83))⟩]) .ret)) (.seq (.reg [⟨some 85,none,.v (.bin .eql (.t 44) (.c (.int .i64 5)))⟩,⟨some 84,none,.v (.mov (.t 85))⟩]) (.cond (.t 84) (.seq (.reg [⟨some 86,none,.v (.faddr 2 (.t 1))⟩,⟨some 87,none,.v (.load none (.t 86))⟩,⟨some 88,none,.call (.c (.func 79 [])) [(.t 87)]⟩,⟨some 89,none,.v (.mov (.t 88))⟩,⟨some 90,some (89,true),.v (.faddr 2 (.t 1))⟩,⟨some 91,some (89,true),.v (.load none (.t 90))⟩,⟨some 92,some (89,true),.v (.bin .neq (.t 91) (.c (.str [116,114,117,101])))⟩,⟨some 93,none,.v (.pick (.t 89) (.t 92) (.c (.bool false)))⟩,⟨some 94,none,.v (.mov (.t 93))⟩,⟨some 95,some (94,true),.v (.faddr 2 (.t 1))⟩,⟨some 96,some (94,true),.v (.load none (.t 95))⟩,⟨some 97,some (94,true),.v (.bin .neq (.t 96) (.c (.str [102,97,108,115,101])))⟩,⟨some 98,none,.v (.pick (.t 94) (.t 97) (.c (.bool false)))⟩,⟨some 2,none,.v (.mov (.t 98))⟩]) .ret) .skip))
def c_Q49_3:SC:=.cond (.t 60) (.seq (.reg [⟨some 62,none,.v (.faddr 3 (.t 1))⟩,⟨some 63,none,.v (.load none (.t 62))⟩,⟨some 64,none,.call (.c (.func 76 [])) [(.t 63)]⟩,⟨some 2,none,.v (.mov (.t 64))⟩]) .ret) (.seq (.reg [⟨some 66,none,.v (.bin .eql (.t 44) (.c (.int .i64 4)))⟩,⟨some 65,none,.v (.mov (.t 66))⟩]) c_Q49_2)
def c_Q49_4:SC:=.cond (.t 50) (.seq (.reg [⟨some 52,none,.v (.faddr 1 (.t 1))⟩,⟨some 53,none,.v (.load none (.t 52))⟩,⟨some 54,none,.v (.bin .eql (.t 53) (.c (.int .i64 0)))⟩,⟨some 55,none,.v (.mov (.t 54))⟩,⟨some 56,some (55,false),.v (.faddr 1 (.t 1))⟩,⟨some 57,some (55,false),.v (.load none (.t 56))⟩,⟨some 58,some (55,false),.v (.bin .eql (.t 57) (.c (.int .i64 1)))⟩,⟨some 59,none,.v (.pick (.t 55) (.c (.bool true)) (.t 58))⟩,⟨some 2,none,.v (.mov (.t 59))⟩]) .ret) (.seq (.reg [⟨some 61,none,.v (.bin .eql (.t 44) (.c (.int .i64 2)))⟩,⟨some 60,none,.v (.mov (.t 61))⟩]) c_Q49_3)
def c_Q49_5:SC:=.cond (.t 45) (.seq (.reg [⟨some 47,none,.v (.faddr 1 (.t 1))⟩,⟨some 48,none,.v (.load none (.t 47))⟩,⟨some 49,none,.v (.bin .geq (.t 48) (.c (.int .i64 0)))⟩,⟨some 2,none,.v (.mov (.t 49))⟩]) .ret) (.seq (.reg [⟨some 51,none,.v (.bin .eql (.t 44) (.c (.int .i64 3)))⟩,⟨some 50,none,.v (.mov (.t 51))⟩]) c_Q49_4)
def c_Q49_6:SC:=.block 0 (.seq (.reg [⟨some 46,none,.v (.bin .eql (.t 44) (.c (.int .i64 1)))⟩,⟨some 45,none,.v (.mov (.t 46))⟩]) c_Q49_5)
def c_Q49_7:SC:=.seq (.seq (.reg [⟨some 43,none,.v (.faddr 0 (.t 1))⟩,⟨some 44,none,.v (.load none (.t 43))⟩]) c_Q49_6) c_Q49_1
def c_Q49_8:SC:=.cond (.t 42) (.seq (.reg [⟨some 2,none,.v (.mov (.c (.bool false)))⟩]) .ret) .skip
def c_Q49_9:SC:=.seq (.seq (.reg [⟨some 4,none,.v (.faddr 0 (.t 1))⟩,⟨some 5,none,.v (.load none (.t 4))⟩,⟨some 6,none,.v (.bin .neq (.t 5) (.c (.int .i64 1)))⟩,⟨some 7,none,.v (.mov (.t 6))⟩,⟨some 8,some (7,true),.v (.faddr 0 (.t 1))⟩,⟨some 9,some (7,true),.v (.load none (.t 8))⟩,⟨some 10,some (7,true),.v (.bin .neq (.t 9) (.c (.int .i64 3)))⟩,⟨some 11,none,.v (.pick (.t 7) (.t 10) (.c (.bool false)))⟩,⟨some 12,none,.v (.mov (.t 11))⟩,⟨some 13,some (12,true),.v (.faddr 1 (.t 1))⟩,⟨some 14,some (12,true),.v (.load none (.t 13))⟩,⟨some 15,some (12,true),.v (.bin .neq (.t 14) (.c (.int .i64 0)))⟩,⟨some 16,none,.v (.pick (.t 12) (.t 15) (.c (.bool false)))⟩,⟨some 17,none,.v (.mov (.t 16))⟩,⟨some 18,some (17,false),.v (.faddr 0 (.t 1))⟩,⟨some 19,some (17,false),.v (.load none (.t 18))⟩,⟨some 20,some (17,false),.v (.bin .neq (.t 19) (.c (.int .i64 4)))⟩,⟨some 21,some (17,false),.v (.mov (.t 20))⟩,⟨some 22,some (21,true),.v (.faddr 0 (.t 1))⟩,⟨some 23,some (21,true),.v (.load none (.t 22))⟩,⟨some 24,some (21,true),.v (.bin .neq (.t 23) (.c (.int .i64 5)))⟩,⟨some 25,some (17,false),.v (.pick (.t 21) (.t 24) (.c (.bool false)))⟩,⟨some 26,some (17,false),.v (.mov (.t 25))⟩,⟨some 27,some (26,true),.v (.faddr 2 (.t 1))⟩,⟨some 28,some (26,true),.v (.load none (.t 27))⟩,⟨some 29,some (26,true),.v (.bin .neq (.t 28) (.c (.str [])))⟩,⟨some 30,some (17,false),.v (.pick (.t 26) (.t 29) (.c (.bool false)))⟩,⟨some 31,none,.v (.pick (.t 17) (.c (.bool true)) (.t 30))⟩,⟨some 32,none,.v (.mov (.t 31))⟩,⟨some 33,some (32,false),.v (.faddr 0 (.t 1))⟩,⟨some 34,some (32,false),.v (.load none (.t 33))⟩,⟨some 35,some (32,false),.v (.bin .neq (.t 34) (.c (.int .i64 2)))⟩,⟨some 36,some (32,false),.v (.mov (.t 35))⟩,⟨some 37,some (36,true),.v (.faddr 3 (.t 1))⟩,⟨some 38,some (36,true),.v (.load none (.t 37))⟩,⟨some 39,some (36,true),.v (.len false (.t 38))⟩,⟨some 40,some (36,true),.v (.bin .gtr (.t 39) (.c (.int .i64 0)))⟩,⟨some 41,some (32,false),.v (.pick (.t 36) (.t 40) (.c (.bool false)))⟩,⟨some 42,none,.v (.pick (.t 32) (.c (.bool true)) (.t 41))⟩]) c_Q49_8) c_Q49_7
def sc_Q49:SFunc:=⟨1,99,.seq (.reg [⟨some 1,none,.box (.t 0)⟩,⟨some 2,none,.v (.mov (.c (.bool false)))⟩]) c_Q49_9,[(.t 2)]⟩
theorem U_Q49:type_of% (aI (ue c_Q49_1.eq_1)<|aI (ue c_Q49_2.eq_1)<|aI (ue c_Q49_3.eq_1)<|aI (ue c_Q49_4.eq_1)<|aI (ue c_Q49_5.eq_1)<|aI (ue c_Q49_6.eq_1)<|aI (ue c_Q49_7.eq_1)<|aI (ue c_Q49_8.eq_1)<|aI (ue c_Q49_9.eq_1)<|sc_Q49.eq_1):=aI (ue c_Q49_1.eq_1)<|aI (ue c_Q49_2.eq_1)<|aI (ue c_Q49_3.eq_1)<|aI (ue c_Q49_4.eq_1)<|aI (ue c_Q49_5.eq_1)<|aI (ue c_Q49_6.eq_1)<|aI (ue c_Q49_7.eq_1)<|aI (ue c_Q49_8.eq_1)<|aI (ue c_Q49_9.eq_1)<|sc_Q49.eq_1
theorem comp_Q49:comp Tryz.prog Tryz.f49=some sc_Q49:=by kernel_rfl
def c_Q29_1:SC:=.seq (.reg [⟨some 79,none,.v (.mov (.t 3))⟩,⟨some 80,none,.v (.len false (.t 79))⟩,⟨some 81,none,.v (.bin .eql (.t 80) (.c (.int .i64 1)))⟩,⟨some 2,none,.v (.mov (.t 81))⟩]) .ret
def c_Q29_2:SC:=.reg [⟨some 12,none,.v (.mov (.t 4))⟩,⟨some 13,none,.v (.bin .add (.t 12) (.c (.int .i64 1)))⟩,⟨some 4,none,.v (.mov (.t 13))⟩]
def c_Q29_3:SC:=.reg [⟨some 66,none,.v (.mov (.t 3))⟩,⟨some 67,none,.v (.mov (.t 3))⟩,⟨some 68,none,.v (.len false (.t 67))⟩,⟨some 69,none,.v (.mov (.t 6))⟩,⟨some 70,none,.v (.bin .sub (.t 68) (.t 69))⟩,⟨some 71,none,.v (.mov (.t 3))⟩,⟨some 72,none,.v (.len false (.t 71))⟩,⟨some 73,none,.v (.mov (.t 6))⟩,⟨some 74,none,.v (.bin .sub (.t 72) (.t 73))⟩,⟨some 75,none,.v (.slc 1 (.t 66) none (some (.t 70)) (some (.t 74)))⟩,⟨some 76,none,.v (.mov (.t 4))⟩,⟨some 77,none,.bslice 1 1 [(.int .i64 0)] [(0,(.t 76))]⟩,⟨some 78,none,.append 1 8 (.t 75) (.t 77)⟩,⟨some 3,none,.v (.mov (.t 78))⟩]
def b_Q29_2:SC:=.seq (.seq (.reg [⟨some 46,none,.v (.mov (.t 7))⟩,⟨some 47,none,.v (.mov (.t 6))⟩,⟨some 48,none,.v (.bin .lss (.t 46) (.t 47))⟩]) (.cond (.t 48) .skip (.exit 2))) (.seq (.block 3 (.seq (.dreg [⟨some 51,none,.v (.mov (.t 3))⟩,⟨some 52,none,.v (.mov (.t 3))⟩,⟨some 53,none,.v (.len false (.t 52))⟩,⟨some 54,none,.v (.mov (.t 6))⟩,⟨some 55,none,.v (.bin .sub (.t 53) (.t 54))⟩,⟨some 56,none,.v (.mov (.t 7))⟩,⟨some 57,none,.v (.bin .add (.t 55) (.t 56))⟩,⟨some 58,none,.v (.iaddr 1 (.t 51) (.t 57))⟩,⟨some 59,none,.v (.load none (.t 58))⟩,⟨some 60,none,.v (.faddr 4 (.t 5))⟩,⟨some 61,none,.v (.load none (.t 60))⟩,⟨some 62,none,.v (.mov (.t 7))⟩,⟨some 63,none,.v (.iaddr 1 (.t 61) (.t 62))⟩,⟨some 64,none,.v (.load none (.t 63))⟩,⟨some 65,none,.v (.bin .neq (.t 59) (.t 64))⟩] [false,false,false,false,false,false,false,false,false,false,false,false,false,false,true]) (.cond (.t 65) (.seq (.reg [⟨some 2,none,.v (.mov (.c (.bool false)))⟩]) .ret) .skip))) (.reg [⟨some 49,none,.v (.mov (.t 7))⟩,⟨some 50,none,.v (.bin .add (.t 49) (.c (.int .i64 1)))⟩,⟨some 7,none,.v (.mov (.t 50))⟩]))
def c_Q29_4:SC:=.seq (.seq (.reg [⟨some 7,none,.v (.mov (.c (.int .i64 0)))⟩]) (.block 2 (.loop b_Q29_2))) c_Q29_3
def c_Q29_5:SC:=.seq (.seq (.reg [⟨some 26,none,.v (.mov (.t 6))⟩,⟨some 27,none,.v (.bin .lss (.t 26) (.c (.int .i64 0)))⟩,⟨some 28,none,.v (.mov (.t 27))⟩,⟨some 29,some (28,false),.v (.mov (.t 6))⟩,⟨some 30,some (28,false),.v (.faddr 4 (.t 5))⟩,⟨some 31,some (28,false),.v (.load none (.t 30))⟩,⟨some 32,some (28,false),.v (.len false (.t 31))⟩,⟨some 33,some (28,false),.v (.bin .neq (.t 29) (.t 32))⟩,⟨some 34,none,.v (.pick (.t 28) (.c (.bool true)) (.t 33))⟩,⟨some 35,none,.v (.mov (.t 34))⟩,⟨some 36,some (35,false),.v (.mov (.t 6))⟩,⟨some 37,some (35,false),.v (.mov (.t 3))⟩,⟨some 38,some (35,false),.v (.len false (.t 37))⟩,⟨some 39,some (35,false),.v (.bin .gtr (.t 36) (.t 38))⟩,⟨some 40,none,.v (.pick (.t 35) (.c (.bool true)) (.t 39))⟩,⟨some 41,none,.v (.mov (.t 40))⟩,⟨some 42,some (41,false),.v (.load (some 5) (.t 5))⟩,⟨some 43,some (41,false),.call (.c (.func 49 [])) [(.t 42)]⟩,⟨some 44,some (41,false),.v (.un .not (.t 43))⟩,⟨some 45,none,.v (.pick (.t 41) (.c (.bool true)) (.t 44))⟩]) (.cond (.t 45) (.seq (.reg [⟨some 2,none,.v (.mov (.c (.bool false)))⟩]) .ret) .skip)) c_Q29_4
def c_Q29_6:SC:=.seq (.seq (.reg [⟨some 21,none,.v (.mov (.t 6))⟩,⟨some 22,none,.v (.bin .eql (.t 21) (.c (.int .i64 (-1))))⟩]) (.cond (.t 22) (.reg [⟨some 23,none,.v (.faddr 4 (.t 5))⟩,⟨some 24,none,.v (.load none (.t 23))⟩,⟨some 25,none,.v (.len false (.t 24))⟩,⟨some 6,none,.v (.mov (.t 25))⟩]) .skip)) c_Q29_5
def c_Q29_7:SC:=.seq (.reg [⟨some 18,none,.v (.faddr 0 (.t 5))⟩,⟨some 19,none,.v (.load none (.t 18))⟩,⟨some 20,none,.call (.c (.func 48 [])) [(.t 19)]⟩,⟨some 6,none,.v (.mov (.t 20))⟩]) c_Q29_6
def c_Q29_8:SC:=.seq (.block 1 (.seq (.reg [⟨some 14,none,.v (.mov (.t 0))⟩,⟨some 15,none,.v (.mov (.t 4))⟩,⟨some 16,none,.v (.iaddr 5 (.t 14) (.t 15))⟩,⟨some 17,none,.v (.load (some 5) (.t 16))⟩,⟨some 5,none,.alloc [(.int .i64 0),(.int .i64 0),(.str []),(.nils 2),(.nils 1)]⟩,⟨none,none,.store 5 (.t 5) (.t 17)⟩]) c_Q29_7)) c_Q29_2
def b_Q29_1:SC:=.seq (.seq (.reg [⟨some 8,none,.v (.mov (.t 4))⟩,⟨some 9,none,.v (.mov (.t 0))⟩,⟨some 10,none,.v (.len false (.t 9))⟩,⟨some 11,none,.v (.bin .lss (.t 8) (.t 10))⟩]) (.cond (.t 11) .skip (.exit 0))) c_Q29_8
def c_Q29_9:SC:=.block 0 (.loop b_Q29_1)
def c_Q29_10:SC:=.seq (.seq (.reg [⟨some 4,none,.v (.mov (.c (.int .i64 0)))⟩]) c_Q29_9) c_Q29_1
def c_Q29_11:SC:=.seq (.reg [⟨some 3,none,.nilv 1⟩]) c_Q29_10
def sc_Q29:SFunc:=⟨1,82,.seq (.reg [⟨some 2,none,.v (.mov (.c (.bool false)))⟩]) c_Q29_11,[(.t 2)]⟩
noncomputable def k_Q29_2 (SP:Prg) (x:EO):CO:=fin [(.t 2)] (thC SP (inBlk 0 (thC SP (thC SP (inBlk 1 (thC SP (inBlk 2 (x)) c_Q29_3)) c_Q29_2) (.loop b_Q29_1))) c_Q29_1)
noncomputable def k_Q29_1 (SP:Prg) (x:EO):CO:=fin [(.t 2)] (thC SP (inBlk 0 (x)) c_Q29_1)
theorem U_Q29:type_of% (aI (ue c_Q29_1.eq_1)<|aI (ue c_Q29_2.eq_1)<|aI (ue c_Q29_3.eq_1)<|aI (ue b_Q29_2.eq_1)<|aI (ue c_Q29_4.eq_1)<|aI (ue c_Q29_5.eq_1)<|aI (ue c_Q29_6.eq_1)<|aI (ue c_Q29_7.eq_1)<|aI (ue c_Q29_8.eq_1)<|aI (ue b_Q29_1.eq_1)<|aI (ue c_Q29_9.eq_1)<|aI (ue c_Q29_10.eq_1)<|aI (ue c_Q29_11.eq_1)<|sc_Q29.eq_1):=aI (ue c_Q29_1.eq_1)<|aI (ue c_Q29_2.eq_1)<|aI (ue c_Q29_3.eq_1)<|aI (ue b_Q29_2.eq_1)<|aI (ue c_Q29_4.eq_1)<|aI (ue c_Q29_5.eq_1)<|aI (ue c_Q29_6.eq_1)<|aI (ue c_Q29_7.eq_1)<|aI (ue c_Q29_8.eq_1)<|aI (ue b_Q29_1.eq_1)<|aI (ue c_Q29_9.eq_1)<|aI (ue c_Q29_10.eq_1)<|aI (ue c_Q29_11.eq_1)<|sc_Q29.eq_1
theorem comp_Q29:comp Tryz.prog Tryz.f29=some sc_Q29:=by kernel_rfl
def c_Q84_1:SC:=.seq (.reg [⟨some 95,none,.v (.faddr 3 (.t 2))⟩,⟨some 96,none,.v (.load none (.t 95))⟩,⟨some 97,none,.v (.len false (.t 96))⟩,⟨some 98,none,.v (.bin .eql (.t 97) (.c (.int .i64 0)))⟩,⟨some 4,none,.v (.mov (.t 98))⟩]) .ret
def c_Q84_2:SC:=.reg [⟨some 57,none,.v (.mov (.t 5))⟩,⟨some 58,none,.v (.bin .add (.t 57) (.c (.int .i64 1)))⟩,⟨some 5,none,.v (.mov (.t 58))⟩]
def b_Q84_2:SC:=.seq (.seq (.reg [⟨some 77,none,.v (.mov (.t 6))⟩,⟨some 78,none,.v (.mov (.t 5))⟩,⟨some 79,none,.v (.bin .lss (.t 77) (.t 78))⟩]) (.cond (.t 79) .skip (.exit 2))) (.seq (.block 3 (.seq (.dreg [⟨some 82,none,.v (.faddr 2 (.t 2))⟩,⟨some 83,none,.v (.load none (.t 82))⟩,⟨some 84,none,.v (.mov (.t 6))⟩,⟨some 85,none,.v (.iaddr 2 (.t 83) (.t 84))⟩,⟨some 86,none,.v (.faddr 0 (.t 85))⟩,⟨some 87,none,.v (.load none (.t 86))⟩,⟨some 88,none,.v (.faddr 2 (.t 2))⟩,⟨some 89,none,.v (.load none (.t 88))⟩,⟨some 90,none,.v (.mov (.t 5))⟩,⟨some 91,none,.v (.iaddr 2 (.t 89) (.t 90))⟩,⟨some 92,none,.v (.faddr 0 (.t 91))⟩,⟨some 93,none,.v (.load none (.t 92))⟩,⟨some 94,none,.v (.bin .eql (.t 87) (.t 93))⟩] [false,false,false,false,false,false,false,false,false,false,false,false,true]) (.cond (.t 94) (.seq (.reg [⟨some 4,none,.v (.mov (.c (.bool false)))⟩]) .ret) .skip))) (.reg [⟨some 80,none,.v (.mov (.t 6))⟩,⟨some 81,none,.v (.bin .add (.t 80) (.c (.int .i64 1)))⟩,⟨some 6,none,.v (.mov (.t 81))⟩]))
def c_Q84_3:SC:=.seq (.reg [⟨some 6,none,.v (.mov (.c (.int .i64 0)))⟩]) (.block 2 (.loop b_Q84_2))
def c_Q84_4:SC:=.seq (.block 1 (.seq (.seq (.reg [⟨some 59,none,.v (.faddr 2 (.t 2))⟩,⟨some 60,none,.v (.load none (.t 59))⟩,⟨some 61,none,.v (.mov (.t 5))⟩,⟨some 62,none,.v (.iaddr 2 (.t 60) (.t 61))⟩,⟨some 63,none,.v (.faddr 0 (.t 62))⟩,⟨some 64,none,.v (.load none (.t 63))⟩,⟨some 65,none,.call (.c (.func 79 [])) [(.t 64)]⟩,⟨some 66,none,.v (.un .not (.t 65))⟩,⟨some 67,none,.v (.mov (.t 66))⟩,⟨some 68,some (67,false),.v (.faddr 2 (.t 2))⟩,⟨some 69,some (67,false),.v (.load none (.t 68))⟩,⟨some 70,some (67,false),.v (.mov (.t 5))⟩,⟨some 71,some (67,false),.v (.iaddr 2 (.t 69) (.t 70))⟩,⟨some 72,some (67,false),.v (.faddr 1 (.t 71))⟩,⟨some 73,some (67,false),.v (.load none (.t 72))⟩,⟨some 74,some (67,false),.call (.c (.func 29 [])) [(.t 73)]⟩,⟨some 75,some (67,false),.v (.un .not (.t 74))⟩,⟨some 76,none,.v (.pick (.t 67) (.c (.bool true)) (.t 75))⟩]) (.cond (.t 76) (.seq (.reg [⟨some 4,none,.v (.mov (.c (.bool false)))⟩]) .ret) .skip)) c_Q84_3)) c_Q84_2
def b_Q84_1:SC:=.seq (.seq (.reg [⟨some 52,none,.v (.mov (.t 5))⟩,⟨some 53,none,.v (.faddr 2 (.t 2))⟩,⟨some 54,none,.v (.load none (.t 53))⟩,⟨some 55,none,.v (.len false (.t 54))⟩,⟨some 56,none,.v (.bin .lss (.t 52) (.t 55))⟩]) (.cond (.t 56) .skip (.exit 0))) c_Q84_4
def c_Q84_5:SC:=.block 0 (.loop b_Q84_1)
def c_Q84_6:SC:=.seq (.seq (.reg [⟨some 5,none,.v (.mov (.c (.int .i64 0)))⟩]) c_Q84_5) c_Q84_1
def c_Q84_7:SC:=.seq (.seq (.reg [⟨some 36,none,.v (.faddr 0 (.t 2))⟩,⟨some 37,none,.v (.load none (.t 36))⟩,⟨some 38,none,.v (.bin .eql (.t 37) (.c (.int .i64 5)))⟩]) (.cond (.t 38) (.seq (.reg [⟨some 39,none,.v (.mov (.t 1))⟩,⟨some 40,none,.v (.un .not (.t 39))⟩,⟨some 41,none,.v (.mov (.t 40))⟩,⟨some 42,some (41,true),.v (.faddr 2 (.t 2))⟩,⟨some 43,some (41,true),.v (.load none (.t 42))⟩,⟨some 44,some (41,true),.v (.len false (.t 43))⟩,⟨some 45,some (41,true),.v (.bin .eql (.t 44) (.c (.int .i64 0)))⟩,⟨some 46,none,.v (.pick (.t 41) (.t 45) (.c (.bool false)))⟩,⟨some 47,none,.v (.mov (.t 46))⟩,⟨some 48,some (47,true),.v (.faddr 3 (.t 2))⟩,⟨some 49,some (47,true),.v (.load none (.t 48))⟩,⟨some 50,some (47,true),.call (.c (.func 53 [])) [(.t 49),(.c (.bool true))]⟩,⟨some 51,none,.v (.pick (.t 47) (.t 50) (.c (.bool false)))⟩,⟨some 4,none,.v (.mov (.t 51))⟩]) .ret) .skip)) c_Q84_6
def c_Q84_8:SC:=.cond (.t 35) (.seq (.reg [⟨some 4,none,.v (.mov (.c (.bool false)))⟩]) .ret) .skip
def c_Q84_9:SC:=.seq (.seq (.reg [⟨some 7,none,.v (.faddr 0 (.t 2))⟩,⟨some 8,none,.v (.load none (.t 7))⟩,⟨some 9,none,.v (.bin .lss (.t 8) (.c (.int .i64 1)))⟩,⟨some 10,none,.v (.mov (.t 9))⟩,⟨some 11,some (10,false),.v (.faddr 0 (.t 2))⟩,⟨some 12,some (10,false),.v (.load none (.t 11))⟩,⟨some 13,some (10,false),.v (.bin .gtr (.t 12) (.c (.int .i64 5)))⟩,⟨some 14,none,.v (.pick (.t 10) (.c (.bool true)) (.t 13))⟩,⟨some 15,none,.v (.mov (.t 14))⟩,⟨some 16,some (15,false),.v (.faddr 0 (.t 2))⟩,⟨some 17,some (15,false),.v (.load none (.t 16))⟩,⟨some 18,some (15,false),.v (.bin .eql (.t 17) (.c (.int .i64 2)))⟩,⟨some 19,some (15,false),.v (.mov (.t 18))⟩,⟨some 20,some (19,true),.v (.faddr 1 (.t 2))⟩,⟨some 21,some (19,true),.v (.load none (.t 20))⟩,⟨some 22,some (19,true),.v (.bin .neq (.t 21) (.c (.str [])))⟩,⟨some 23,some (15,false),.v (.pick (.t 19) (.t 22) (.c (.bool false)))⟩,⟨some 24,none,.v (.pick (.t 15) (.c (.bool true)) (.t 23))⟩,⟨some 25,none,.v (.mov (.t 24))⟩,⟨some 26,some (25,false),.v (.faddr 0 (.t 2))⟩,⟨some 27,some (25,false),.v (.load none (.t 26))⟩,⟨some 28,some (25,false),.v (.bin .neq (.t 27) (.c (.int .i64 2)))⟩,⟨some 29,some (25,false),.v (.mov (.t 28))⟩,⟨some 30,some (29,true),.v (.faddr 1 (.t 2))⟩,⟨some 31,some (29,true),.v (.load none (.t 30))⟩,⟨some 32,some (29,true),.call (.c (.func 122 [])) [(.t 31)]⟩,⟨some 33,some (29,true),.v (.un .not (.t 32))⟩,⟨some 34,some (25,false),.v (.pick (.t 29) (.t 33) (.c (.bool false)))⟩,⟨some 35,none,.v (.pick (.t 25) (.c (.bool true)) (.t 34))⟩]) c_Q84_8) c_Q84_7
def sc_Q84:SFunc:=⟨2,99,.seq (.reg [⟨some 2,none,.box (.t 0)⟩,⟨some 4,none,.v (.mov (.c (.bool false)))⟩]) c_Q84_9,[(.t 4)]⟩
noncomputable def k_Q84_2 (SP:Prg) (x:EO):CO:=fin [(.t 4)] (thC SP (inBlk 0 (thC SP (thC SP (inBlk 1 (inBlk 2 (x))) c_Q84_2) (.loop b_Q84_1))) c_Q84_1)
noncomputable def k_Q84_1 (SP:Prg) (x:EO):CO:=fin [(.t 4)] (thC SP (inBlk 0 (x)) c_Q84_1)
theorem U_Q84:type_of% (aI (ue c_Q84_1.eq_1)<|aI (ue c_Q84_2.eq_1)<|aI (ue b_Q84_2.eq_1)<|aI (ue c_Q84_3.eq_1)<|aI (ue c_Q84_4.eq_1)<|aI (ue b_Q84_1.eq_1)<|aI (ue c_Q84_5.eq_1)<|aI (ue c_Q84_6.eq_1)<|aI (ue c_Q84_7.eq_1)<|aI (ue c_Q84_8.eq_1)<|aI (ue c_Q84_9.eq_1)<|sc_Q84.eq_1):=aI (ue c_Q84_1.eq_1)<|aI (ue c_Q84_2.eq_1)<|aI (ue b_Q84_2.eq_1)<|aI (ue c_Q84_3.eq_1)<|aI (ue c_Q84_4.eq_1)<|aI (ue b_Q84_1.eq_1)<|aI (ue c_Q84_5.eq_1)<|aI (ue c_Q84_6.eq_1)<|aI (ue c_Q84_7.eq_1)<|aI (ue c_Q84_8.eq_1)<|aI (ue c_Q84_9.eq_1)<|sc_Q84.eq_1
theorem comp_Q84:comp Tryz.prog Tryz.f84=some sc_Q84:=by kernel_rfl
def c_Q53_1:SC:=.seq (.reg [⟨some 4,none,.v (.mov (.c (.bool true)))⟩]) .ret
def b_Q53_1:SC:=.seq (.seq (.reg [⟨some 6,none,.v (.mov (.t 5))⟩,⟨some 7,none,.v (.mov (.t 0))⟩,⟨some 8,none,.v (.len false (.t 7))⟩,⟨some 9,none,.v (.bin .lss (.t 6) (.t 8))⟩]) (.cond (.t 9) .skip (.exit 0))) (.seq (.block 1 (.seq (.reg [⟨some 12,none,.v (.mov (.t 0))⟩,⟨some 13,none,.v (.mov (.t 5))⟩,⟨some 14,none,.v (.iaddr 4 (.t 12) (.t 13))⟩,⟨some 15,none,.v (.load (some 4) (.t 14))⟩,⟨some 16,none,.v (.mov (.t 1))⟩,⟨some 17,none,.call (.c (.func 84 [])) [(.t 15),(.t 16)]⟩,⟨some 18,none,.v (.un .not (.t 17))⟩]) (.cond (.t 18) (.seq (.reg [⟨some 4,none,.v (.mov (.c (.bool false)))⟩]) .ret) .skip))) (.reg [⟨some 10,none,.v (.mov (.t 5))⟩,⟨some 11,none,.v (.bin .add (.t 10) (.c (.int .i64 1)))⟩,⟨some 5,none,.v (.mov (.t 11))⟩]))
def sc_Q53:SFunc:=⟨2,19,.seq (.reg [⟨some 4,none,.v (.mov (.c (.bool false)))⟩]) (.seq (.seq (.reg [⟨some 5,none,.v (.mov (.c (.int .i64 0)))⟩]) (.block 0 (.loop b_Q53_1))) c_Q53_1),[(.t 4)]⟩
noncomputable def k_Q53_1 (SP:Prg) (x:EO):CO:=fin [(.t 4)] (thC SP (inBlk 0 (x)) c_Q53_1)
theorem U_Q53:type_of% (aI (ue c_Q53_1.eq_1)<|aI (ue b_Q53_1.eq_1)<|sc_Q53.eq_1):=aI (ue c_Q53_1.eq_1)<|aI (ue b_Q53_1.eq_1)<|sc_Q53.eq_1
theorem comp_Q53:comp Tryz.prog Tryz.f53=some sc_Q53:=by kernel_rfl
def sc_Q31:SFunc:=⟨1,5,.seq (.reg [⟨some 2,none,.v (.mov (.c (.bool false)))⟩]) (.seq (.reg [⟨some 3,none,.v (.mov (.t 0))⟩,⟨some 4,none,.call (.c (.func 53 [])) [(.t 3),(.c (.bool false))]⟩,⟨some 2,none,.v (.mov (.t 4))⟩]) .ret),[(.t 2)]⟩
theorem U_Q31:type_of% (sc_Q31.eq_1):=sc_Q31.eq_1
theorem comp_Q31:comp Tryz.prog Tryz.f31=some sc_Q31:=by kernel_rfl
def c_Q27_1:SC:=.seq (.reg [⟨some 61,none,.v (.mov (.t 0))⟩,⟨some 62,none,.v (.len false (.t 61))⟩,⟨some 63,none,.v (.bin .gtr (.t 62) (.c (.int .i64 80)))⟩,⟨some 2,none,.v (.mov (.t 63))⟩]) .ret
def c_Q27_2:SC:=.reg [⟨some 13,none,.v (.mov (.t 3))⟩,⟨some 14,none,.v (.bin .add (.t 13) (.c (.int .i64 1)))⟩,⟨some 3,none,.v (.mov (.t 14))⟩]
def b_Q27_2:SC:=.seq (.seq (.reg [⟨some 40,none,.v (.mov (.t 4))⟩,⟨some 41,none,.v (.mov (.t 0))⟩,⟨some 42,none,.v (.mov (.t 3))⟩,⟨some 43,none,.v (.iaddr 5 (.t 41) (.t 42))⟩,⟨some 44,none,.v (.faddr 3 (.t 43))⟩,⟨some 45,none,.v (.load none (.t 44))⟩,⟨some 46,none,.v (.len false (.t 45))⟩,⟨some 47,none,.v (.bin .lss (.t 40) (.t 46))⟩]) (.cond (.t 47) .skip (.exit 2))) (.seq (.block 3 (.seq (.reg [⟨some 50,none,.v (.mov (.t 0))⟩,⟨some 51,none,.v (.mov (.t 3))⟩,⟨some 52,none,.v (.iaddr 5 (.t 50) (.t 51))⟩,⟨some 53,none,.v (.faddr 3 (.t 52))⟩,⟨some 54,none,.v (.load none (.t 53))⟩,⟨some 55,none,.v (.mov (.t 4))⟩,⟨some 56,none,.v (.iaddr 2 (.t 54) (.t 55))⟩,⟨some 57,none,.v (.faddr 1 (.t 56))⟩,⟨some 58,none,.v (.load none (.t 57))⟩,⟨some 59,none,.v (.len true (.t 58))⟩,⟨some 60,none,.v (.bin .gtr (.t 59) (.c (.int .i64 300)))⟩]) (.cond (.t 60) (.seq (.reg [⟨some 2,none,.v (.mov (.c (.bool true)))⟩]) .ret) .skip))) (.reg [⟨some 48,none,.v (.mov (.t 4))⟩,⟨some 49,none,.v (.bin .add (.t 48) (.c (.int .i64 1)))⟩,⟨some 4,none,.v (.mov (.t 49))⟩]))
def c_Q27_3:SC:=.seq (.reg [⟨some 4,none,.v (.mov (.c (.int .i64 0)))⟩]) (.block 2 (.loop b_Q27_2))
def c_Q27_4:SC:=.cond (.t 39) (.seq (.reg [⟨some 2,none,.v (.mov (.c (.bool true)))⟩]) .ret) .skip
def c_Q27_5:SC:=.seq (.block 1 (.seq (.seq (.reg [⟨some 15,none,.v (.mov (.t 0))⟩,⟨some 16,none,.v (.mov (.t 3))⟩,⟨some 17,none,.v (.iaddr 5 (.t 15) (.t 16))⟩,⟨some 18,none,.v (.faddr 4 (.t 17))⟩,⟨some 19,none,.v (.load none (.t 18))⟩,⟨some 20,none,.v (.len false (.t 19))⟩,⟨some 21,none,.v (.bin .gtr (.t 20) (.c (.int .i64 100)))⟩,⟨some 22,none,.v (.mov (.t 21))⟩,⟨some 23,some (22,false),.v (.mov (.t 0))⟩,⟨some 24,some (22,false),.v (.mov (.t 3))⟩,⟨some 25,some (22,false),.v (.iaddr 5 (.t 23) (.t 24))⟩,⟨some 26,some (22,false),.v (.faddr 2 (.t 25))⟩,⟨some 27,some (22,false),.v (.load none (.t 26))⟩,⟨some 28,some (22,false),.v (.len true (.t 27))⟩,⟨some 29,some (22,false),.v (.bin .gtr (.t 28) (.c (.int .i64 300)))⟩,⟨some 30,none,.v (.pick (.t 22) (.c (.bool true)) (.t 29))⟩,⟨some 31,none,.v (.mov (.t 30))⟩,⟨some 32,some (31,false),.v (.mov (.t 0))⟩,⟨some 33,some (31,false),.v (.mov (.t 3))⟩,⟨some 34,some (31,false),.v (.iaddr 5 (.t 32) (.t 33))⟩,⟨some 35,some (31,false),.v (.faddr 3 (.t 34))⟩,⟨some 36,some (31,false),.v (.load none (.t 35))⟩,⟨some 37,some (31,false),.v (.len false (.t 36))⟩,⟨some 38,some (31,false),.v (.bin .gtr (.t 37) (.c (.int .i64 60)))⟩,⟨some 39,none,.v (.pick (.t 31) (.c (.bool true)) (.t 38))⟩]) c_Q27_4) c_Q27_3)) c_Q27_2
def b_Q27_1:SC:=.seq (.seq (.reg [⟨some 5,none,.v (.mov (.t 3))⟩,⟨some 6,none,.v (.mov (.t 0))⟩,⟨some 7,none,.v (.len false (.t 6))⟩,⟨some 8,none,.v (.bin .lss (.t 5) (.t 7))⟩,⟨some 9,none,.v (.mov (.t 8))⟩,⟨some 10,some (9,true),.v (.mov (.t 3))⟩,⟨some 11,some (9,true),.v (.bin .lss (.t 10) (.c (.int .i64 100)))⟩,⟨some 12,none,.v (.pick (.t 9) (.t 11) (.c (.bool false)))⟩]) (.cond (.t 12) .skip (.exit 0))) c_Q27_5
def c_Q27_6:SC:=.block 0 (.loop b_Q27_1)
def c_Q27_7:SC:=.seq (.seq (.reg [⟨some 3,none,.v (.mov (.c (.int .i64 0)))⟩]) c_Q27_6) c_Q27_1
def sc_Q27:SFunc:=⟨1,64,.seq (.reg [⟨some 2,none,.v (.mov (.c (.bool false)))⟩]) c_Q27_7,[(.t 2)]⟩
noncomputable def k_Q27_2 (SP:Prg) (x:EO):CO:=fin [(.t 2)] (thC SP (inBlk 0 (thC SP (thC SP (inBlk 1 (inBlk 2 (x))) c_Q27_2) (.loop b_Q27_1))) c_Q27_1)
noncomputable def k_Q27_1 (SP:Prg) (x:EO):CO:=fin [(.t 2)] (thC SP (inBlk 0 (x)) c_Q27_1)
theorem U_Q27:type_of% (aI (ue c_Q27_1.eq_1)<|aI (ue c_Q27_2.eq_1)<|aI (ue b_Q27_2.eq_1)<|aI (ue c_Q27_3.eq_1)<|aI (ue c_Q27_4.eq_1)<|aI (ue c_Q27_5.eq_1)<|aI (ue b_Q27_1.eq_1)<|aI (ue c_Q27_6.eq_1)<|aI (ue c_Q27_7.eq_1)<|sc_Q27.eq_1):=aI (ue c_Q27_1.eq_1)<|aI (ue c_Q27_2.eq_1)<|aI (ue b_Q27_2.eq_1)<|aI (ue c_Q27_3.eq_1)<|aI (ue c_Q27_4.eq_1)<|aI (ue c_Q27_5.eq_1)<|aI (ue b_Q27_1.eq_1)<|aI (ue c_Q27_6.eq_1)<|aI (ue c_Q27_7.eq_1)<|sc_Q27.eq_1
theorem comp_Q27:comp Tryz.prog Tryz.f27=some sc_Q27:=by kernel_rfl
def c_Q28_1:SC:=.seq (.reg [⟨some 4,none,.v (.mov (.c (.bool false)))⟩]) .ret
def c_Q28_2:SC:=.reg [⟨some 18,none,.v (.mov (.t 5))⟩,⟨some 19,none,.v (.bin .add (.t 18) (.c (.int .i64 1)))⟩,⟨some 5,none,.v (.mov (.t 19))⟩]
def c_Q28_3:SC:=.seq (.block 3 (.seq (.reg [⟨some 56,none,.v (.mov (.t 0))⟩,⟨some 57,none,.v (.mov (.t 5))⟩,⟨some 58,none,.v (.iaddr 4 (.t 56) (.t 57))⟩,⟨some 59,none,.v (.faddr 2 (.t 58))⟩,⟨some 60,none,.v (.load none (.t 59))⟩,⟨some 61,none,.v (.mov (.t 6))⟩,⟨some 62,none,.v (.iaddr 2 (.t 60) (.t 61))⟩,⟨some 63,none,.v (.faddr 0 (.t 62))⟩,⟨some 64,none,.v (.load none (.t 63))⟩,⟨some 65,none,.v (.len true (.t 64))⟩,⟨some 66,none,.v (.bin .gtr (.t 65) (.c (.int .i64 100)))⟩,⟨some 67,none,.v (.mov (.t 66))⟩,⟨some 68,some (67,false),.v (.mov (.t 0))⟩,⟨some 69,some (67,false),.v (.mov (.t 5))⟩,⟨some 70,some (67,false),.v (.iaddr 4 (.t 68) (.t 69))⟩,⟨some 71,some (67,false),.v (.faddr 2 (.t 70))⟩,⟨some 72,some (67,false),.v (.load none (.t 71))⟩,⟨some 73,some (67,false),.v (.mov (.t 6))⟩,⟨some 74,some (67,false),.v (.iaddr 2 (.t 72) (.t 73))⟩,⟨some 75,some (67,false),.v (.faddr 1 (.t 74))⟩,⟨some 76,some (67,false),.v (.load none (.t 75))⟩,⟨some 77,some (67,false),.call (.c (.func 27 [])) [(.t 76)]⟩,⟨some 78,none,.v (.pick (.t 67) (.c (.bool true)) (.t 77))⟩]) (.cond (.t 78) (.seq (.reg [⟨some 4,none,.v (.mov (.c (.bool true)))⟩]) .ret) .skip))) (.reg [⟨some 54,none,.v (.mov (.t 6))⟩,⟨some 55,none,.v (.bin .add (.t 54) (.c (.int .i64 1)))⟩,⟨some 6,none,.v (.mov (.t 55))⟩])
def b_Q28_2:SC:=.seq (.seq (.reg [⟨some 46,none,.v (.mov (.t 6))⟩,⟨some 47,none,.v (.mov (.t 0))⟩,⟨some 48,none,.v (.mov (.t 5))⟩,⟨some 49,none,.v (.iaddr 4 (.t 47) (.t 48))⟩,⟨some 50,none,.v (.faddr 2 (.t 49))⟩,⟨some 51,none,.v (.load none (.t 50))⟩,⟨some 52,none,.v (.len false (.t 51))⟩,⟨some 53,none,.v (.bin .lss (.t 46) (.t 52))⟩]) (.cond (.t 53) .skip (.exit 2))) c_Q28_3
def c_Q28_4:SC:=.block 2 (.loop b_Q28_2)
def c_Q28_5:SC:=.seq (.reg [⟨some 6,none,.v (.mov (.c (.int .i64 0)))⟩]) c_Q28_4
def c_Q28_6:SC:=.cond (.t 45) (.seq (.reg [⟨some 4,none,.v (.mov (.c (.bool true)))⟩]) .ret) .skip
def c_Q28_7:SC:=.seq (.block 1 (.seq (.seq (.reg [⟨some 20,none,.v (.mov (.t 0))⟩,⟨some 21,none,.v (.mov (.t 5))⟩,⟨some 22,none,.v (.iaddr 4 (.t 20) (.t 21))⟩,⟨some 23,none,.v (.faddr 1 (.t 22))⟩,⟨some 24,none,.v (.load none (.t 23))⟩,⟨some 25,none,.v (.len true (.t 24))⟩,⟨some 26,none,.v (.bin .gtr (.t 25) (.c (.int .i64 100)))⟩,⟨some 27,none,.v (.mov (.t 26))⟩,⟨some 28,some (27,false),.v (.mov (.t 0))⟩,⟨some 29,some (27,false),.v (.mov (.t 5))⟩,⟨some 30,some (27,false),.v (.iaddr 4 (.t 28) (.t 29))⟩,⟨some 31,some (27,false),.v (.faddr 2 (.t 30))⟩,⟨some 32,some (27,false),.v (.load none (.t 31))⟩,⟨some 33,some (27,false),.v (.len false (.t 32))⟩,⟨some 34,some (27,false),.v (.bin .gtr (.t 33) (.c (.int .i64 30)))⟩,⟨some 35,none,.v (.pick (.t 27) (.c (.bool true)) (.t 34))⟩,⟨some 36,none,.v (.mov (.t 35))⟩,⟨some 37,some (36,false),.v (.mov (.t 0))⟩,⟨some 38,some (36,false),.v (.mov (.t 5))⟩,⟨some 39,some (36,false),.v (.iaddr 4 (.t 37) (.t 38))⟩,⟨some 40,some (36,false),.v (.faddr 3 (.t 39))⟩,⟨some 41,some (36,false),.v (.load none (.t 40))⟩,⟨some 42,some (36,false),.v (.mov (.t 1))⟩,⟨some 43,some (36,false),.v (.bin .add (.t 42) (.c (.int .i64 1)))⟩,⟨some 44,some (36,false),.call (.c (.func 28 [])) [(.t 41),(.t 43)]⟩,⟨some 45,none,.v (.pick (.t 36) (.c (.bool true)) (.t 44))⟩]) c_Q28_6) c_Q28_5)) c_Q28_2
def b_Q28_1:SC:=.seq (.seq (.reg [⟨some 14,none,.v (.mov (.t 5))⟩,⟨some 15,none,.v (.mov (.t 0))⟩,⟨some 16,none,.v (.len false (.t 15))⟩,⟨some 17,none,.v (.bin .lss (.t 14) (.t 16))⟩]) (.cond (.t 17) .skip (.exit 0))) c_Q28_7
def c_Q28_8:SC:=.block 0 (.loop b_Q28_1)
def c_Q28_9:SC:=.seq (.seq (.reg [⟨some 5,none,.v (.mov (.c (.int .i64 0)))⟩]) c_Q28_8) c_Q28_1
def c_Q28_10:SC:=.seq (.seq (.reg [⟨some 7,none,.v (.mov (.t 0))⟩,⟨some 8,none,.v (.len false (.t 7))⟩,⟨some 9,none,.v (.bin .gtr (.t 8) (.c (.int .i64 20)))⟩,⟨some 10,none,.v (.mov (.t 9))⟩,⟨some 11,some (10,false),.v (.mov (.t 1))⟩,⟨some 12,some (10,false),.v (.bin .gtr (.t 11) (.c (.int .i64 6)))⟩,⟨some 13,none,.v (.pick (.t 10) (.c (.bool true)) (.t 12))⟩]) (.cond (.t 13) (.seq (.reg [⟨some 4,none,.v (.mov (.c (.bool true)))⟩]) .ret) .skip)) c_Q28_9
def sc_Q28:SFunc:=⟨2,79,.seq (.reg [⟨some 4,none,.v (.mov (.c (.bool false)))⟩]) c_Q28_10,[(.t 4)]⟩
noncomputable def k_Q28_2 (SP:Prg) (x:EO):CO:=fin [(.t 4)] (thC SP (inBlk 0 (thC SP (thC SP (inBlk 1 (inBlk 2 (x))) c_Q28_2) (.loop b_Q28_1))) c_Q28_1)
noncomputable def k_Q28_1 (SP:Prg) (x:EO):CO:=fin [(.t 4)] (thC SP (inBlk 0 (x)) c_Q28_1)
theorem U_Q28:type_of% (aI (ue c_Q28_1.eq_1)<|aI (ue c_Q28_2.eq_1)<|aI (ue c_Q28_3.eq_1)<|aI (ue b_Q28_2.eq_1)<|aI (ue c_Q28_4.eq_1)<|aI (ue c_Q28_5.eq_1)<|aI (ue c_Q28_6.eq_1)<|aI (ue c_Q28_7.eq_1)<|aI (ue b_Q28_1.eq_1)<|aI (ue c_Q28_8.eq_1)<|aI (ue c_Q28_9.eq_1)<|aI (ue c_Q28_10.eq_1)<|sc_Q28.eq_1):=aI (ue c_Q28_1.eq_1)<|aI (ue c_Q28_2.eq_1)<|aI (ue c_Q28_3.eq_1)<|aI (ue b_Q28_2.eq_1)<|aI (ue c_Q28_4.eq_1)<|aI (ue c_Q28_5.eq_1)<|aI (ue c_Q28_6.eq_1)<|aI (ue c_Q28_7.eq_1)<|aI (ue b_Q28_1.eq_1)<|aI (ue c_Q28_8.eq_1)<|aI (ue c_Q28_9.eq_1)<|aI (ue c_Q28_10.eq_1)<|sc_Q28.eq_1
theorem comp_Q28:comp Tryz.prog Tryz.f28=some sc_Q28:=by kernel_rfl
end Go.Proofs.YtfbcnpbhhooapaaGreatDoor.M
namespace Go.Proofs.YtfbcnpbhhooapaaGreatDoor.M
set_option linter.unusedSimpArgs false
set_option linter.unusedVariables false
open Go Classical
theorem sp_slices_IndexFunc_api_Block_api_Block:SP 80=some (.code sc_slices_IndexFunc_api_Block_api_Block):=SPof_code rfl Tryz.func80 comp_slices_IndexFunc_api_Block_api_Block
theorem G_slices_IndexFunc_api_Block_api_Block (xs:List Block) (g:Nat) (caps:List PV) (p:Block→Bool) (S:Sto) (hl:xs.length < 9223372036854775808) (h1:∀ S,handA S (PV.upL caps)=some (PV.upL caps,S)) (h2:(PV.upL caps).any PV.hasSl=false) (h3:∀ a,joinA a (PV.upL caps)=a++PV.upL caps) (hc:∀ x,x ∈ xs→∀ f,call SP g (.agg (eBlock x)::PV.upL caps) (f::S)=.ok (.v (.bool (p x))) (f::S)):call SP 80 [.list 4 (xs.map eBlock) false,.func g caps] S=.ok (.v (.int .i64 (findI p 0 xs))) S:=by
  have loop:∀ (k i:Nat),i+k=xs.length→∀ (e:Nat→PV) (f:Fr),e 0=.list 4 (xs.map eBlock) false∧e 1=.func g (PV.upL caps)∧e 7=.int .i64 ((xs.length:Nat):Int)∧e 8=.int .i64 ((i:Nat):Int)→k_slices_IndexFunc_api_Block_api_Block_1 SP (E SP (.loop b_slices_IndexFunc_api_Block_api_Block_1) ⟨e,f::S⟩)=.ok (.v (.int .i64 (findI p i (xs.drop i)))) S:=by
    intro k
    induction k with
    | zero =>
      intro i hi e f h
      have hlt:¬ (((i:Nat):Int) < ((xs.length:Nat):Int)):=by omega
      rw[List.drop_eq_nil_of_le (by omega)]
      unfold k_slices_IndexFunc_api_Block_api_Block_1 findI
      rw[E_loop]
      simp only[h,hlt,U_slices_IndexFunc_api_Block_api_Block,lw,lx,le,Nat.reduceMul,UInt8.reduceToNat,reduceIte,reduceCtorEq,Nat.reduceEqDiff,Nat.reduceAdd,Nat.reduceLeDiff,Nat.reduceSub,Nat.reduceLT,Int.reduceEq,Int.reduceLT,Int.reduceLE,Int.reduceToNat,Int.reduceAdd,Int.reduceSub,Int.reduceMul,Int.reduceNeg,h1,h2,h3]
    | succ k ih =>
      intro i hi e f h
      have hlt:(((i:Nat):Int) < ((xs.length:Nat):Int)):=by omega
      have hi':i < xs.length:=by omega
      have hv:xs[i]?=some xs[i]:=List.getElem?_eq_getElem hi'
      have hcx:=hc xs[i] (List.getElem_mem hi')
      have w1:IntKind.i64.wrap ((i:Int)+1)=((i+1:Nat):Int):=by rw[wrap_i64 (by omega) (by omega)];omega
      rw[List.drop_eq_getElem_cons hi']
      simp only[le] at hcx
      have hi2:=ih (i+1) (by omega)
      unfold k_slices_IndexFunc_api_Block_api_Block_1 at hi2 ⊢
      unfold findI
      rw[E_loop]
      cases hp:p xs[i] with
      | true =>
        rw[hp] at hcx
        simp only[h,hlt,hv,hcx,w1,nat_nonneg,Int.toNat_natCast,U_slices_IndexFunc_api_Block_api_Block,lw,lx,le,Nat.reduceMul,UInt8.reduceToNat,reduceIte,reduceCtorEq,Nat.reduceEqDiff,Nat.reduceAdd,Nat.reduceLeDiff,Nat.reduceSub,Nat.reduceLT,Int.reduceEq,Int.reduceLT,Int.reduceLE,Int.reduceToNat,Int.reduceAdd,Int.reduceSub,Int.reduceMul,Int.reduceNeg,h1,h2,h3]
      | false =>
        rw[hp] at hcx
        simp only[h,hlt,hv,hcx,w1,nat_nonneg,Int.toNat_natCast,U_slices_IndexFunc_api_Block_api_Block,lw,lx,le,Nat.reduceMul,UInt8.reduceToNat,reduceIte,reduceCtorEq,Nat.reduceEqDiff,Nat.reduceAdd,Nat.reduceLeDiff,Nat.reduceSub,Nat.reduceLT,Int.reduceEq,Int.reduceLT,Int.reduceLE,Int.reduceToNat,Int.reduceAdd,Int.reduceSub,Int.reduceMul,Int.reduceNeg,h1,h2,h3]
        rw[hi2 _ _ ?_]
        simp only[h,w1,U_slices_IndexFunc_api_Block_api_Block,lw,lx,le,Nat.reduceMul,UInt8.reduceToNat,reduceIte,reduceCtorEq,Nat.reduceEqDiff,Nat.reduceAdd,Nat.reduceLeDiff,Nat.reduceSub,Nat.reduceLT,Int.reduceEq,Int.reduceLT,Int.reduceLE,Int.reduceToNat,Int.reduceAdd,Int.reduceSub,Int.reduceMul,Int.reduceNeg,h1,h2,h3]
  rw[call_code sp_slices_IndexFunc_api_Block_api_Block _ _ rfl]
  simp only[U_slices_IndexFunc_api_Block_api_Block,lw,lx,le,Nat.reduceMul,UInt8.reduceToNat,reduceIte,reduceCtorEq,Nat.reduceEqDiff,Nat.reduceAdd,Nat.reduceLeDiff,Nat.reduceSub,Nat.reduceLT,Int.reduceEq,Int.reduceLT,Int.reduceLE,Int.reduceToNat,Int.reduceAdd,Int.reduceSub,Int.reduceMul,Int.reduceNeg,h1,h2,h3]
  have:=loop xs.length 0 (by omega)
  unfold k_slices_IndexFunc_api_Block_api_Block_1 at this
  rw[this _ _ ?_]
  ·rw[List.drop_zero]
  simp only[U_slices_IndexFunc_api_Block_api_Block,lw,lx,le,Nat.reduceMul,UInt8.reduceToNat,reduceIte,reduceCtorEq,Nat.reduceEqDiff,Nat.reduceAdd,Nat.reduceLeDiff,Nat.reduceSub,Nat.reduceLT,Int.reduceEq,Int.reduceLT,Int.reduceLE,Int.reduceToNat,Int.reduceAdd,Int.reduceSub,Int.reduceMul,Int.reduceNeg,h1,h2,h3]
  try simp
theorem sp_slices_ContainsFunc_api_Block_api_Block:SP 50=some (.code sc_slices_ContainsFunc_api_Block_api_Block):=SPof_code rfl Tryz.func50 comp_slices_ContainsFunc_api_Block_api_Block
theorem G_slices_ContainsFunc_api_Block_api_Block (xs:List Block) (g:Nat) (caps:List PV) (p:Block→Bool) (S:Sto) (hl:xs.length < 9223372036854775808) (h1:∀ S,handA S (PV.upL caps)=some (PV.upL caps,S)) (h2:(PV.upL caps).any PV.hasSl=false) (h3:∀ a,joinA a (PV.upL caps)=a++PV.upL caps) (h1':∀ S,handA S (PV.upL (PV.upL caps))=some (PV.upL (PV.upL caps),S)) (h2':(PV.upL (PV.upL caps)).any PV.hasSl=false) (h3':∀ a,joinA a (PV.upL (PV.upL caps))=a++PV.upL (PV.upL caps)) (hc:∀ x,x ∈ xs→∀ f f',call SP g (.agg (eBlock x)::PV.upL (PV.upL caps)) (f::f'::S)=.ok (.v (.bool (p x))) (f::f'::S)):call SP 50 [.list 4 (xs.map eBlock) false,.func g caps] S=.ok (.v (.bool (xs.any p))) S:=by
  have ix:=fun f'=>G_slices_IndexFunc_api_Block_api_Block xs g (PV.upL caps) p (f'::S) hl h1' h2' h3' fun x hx f=>hc x hx f f'
  have hd:=findI_dec p xs
  rw[call_code sp_slices_ContainsFunc_api_Block_api_Block _ _ rfl]
  simp only[ix,hd,U_slices_ContainsFunc_api_Block_api_Block,lw,lx,le,Nat.reduceMul,UInt8.reduceToNat,reduceIte,reduceCtorEq,Nat.reduceEqDiff,Nat.reduceAdd,Nat.reduceLeDiff,Nat.reduceSub,Nat.reduceLT,Int.reduceEq,Int.reduceLT,Int.reduceLE,Int.reduceToNat,Int.reduceAdd,Int.reduceSub,Int.reduceMul,Int.reduceNeg,h1,h2,h3]
theorem sp_slices_IndexFunc_api_Attr_api_Attr:SP 141=some (.code sc_slices_IndexFunc_api_Attr_api_Attr):=SPof_code rfl Tryz.func141 comp_slices_IndexFunc_api_Attr_api_Attr
theorem G_slices_IndexFunc_api_Attr_api_Attr (xs:List Attr) (g:Nat) (caps:List PV) (p:Attr→Bool) (S:Sto) (hl:xs.length < 9223372036854775808) (h1:∀ S,handA S (PV.upL caps)=some (PV.upL caps,S)) (h2:(PV.upL caps).any PV.hasSl=false) (h3:∀ a,joinA a (PV.upL caps)=a++PV.upL caps) (hc:∀ x,x ∈ xs→∀ f,call SP g (.agg (eAttr x)::PV.upL caps) (f::S)=.ok (.v (.bool (p x))) (f::S)):call SP 141 [.list 2 (xs.map eAttr) false,.func g caps] S=.ok (.v (.int .i64 (findI p 0 xs))) S:=by
  have loop:∀ (k i:Nat),i+k=xs.length→∀ (e:Nat→PV) (f:Fr),e 0=.list 2 (xs.map eAttr) false∧e 1=.func g (PV.upL caps)∧e 7=.int .i64 ((xs.length:Nat):Int)∧e 8=.int .i64 ((i:Nat):Int)→k_slices_IndexFunc_api_Attr_api_Attr_1 SP (E SP (.loop b_slices_IndexFunc_api_Attr_api_Attr_1) ⟨e,f::S⟩)=.ok (.v (.int .i64 (findI p i (xs.drop i)))) S:=by
    intro k
    induction k with
    | zero =>
      intro i hi e f h
      have hlt:¬ (((i:Nat):Int) < ((xs.length:Nat):Int)):=by omega
      rw[List.drop_eq_nil_of_le (by omega)]
      unfold k_slices_IndexFunc_api_Attr_api_Attr_1 findI
      rw[E_loop]
      simp only[h,hlt,U_slices_IndexFunc_api_Attr_api_Attr,lw,lx,le,Nat.reduceMul,UInt8.reduceToNat,reduceIte,reduceCtorEq,Nat.reduceEqDiff,Nat.reduceAdd,Nat.reduceLeDiff,Nat.reduceSub,Nat.reduceLT,Int.reduceEq,Int.reduceLT,Int.reduceLE,Int.reduceToNat,Int.reduceAdd,Int.reduceSub,Int.reduceMul,Int.reduceNeg,h1,h2,h3]
    | succ k ih =>
      intro i hi e f h
      have hlt:(((i:Nat):Int) < ((xs.length:Nat):Int)):=by omega
      have hi':i < xs.length:=by omega
      have hv:xs[i]?=some xs[i]:=List.getElem?_eq_getElem hi'
      have hcx:=hc xs[i] (List.getElem_mem hi')
      have w1:IntKind.i64.wrap ((i:Int)+1)=((i+1:Nat):Int):=by rw[wrap_i64 (by omega) (by omega)];omega
      rw[List.drop_eq_getElem_cons hi']
      simp only[le] at hcx
      have hi2:=ih (i+1) (by omega)
      unfold k_slices_IndexFunc_api_Attr_api_Attr_1 at hi2 ⊢
      unfold findI
      rw[E_loop]
      cases hp:p xs[i] with
      | true =>
        rw[hp] at hcx
        simp only[h,hlt,hv,hcx,w1,nat_nonneg,Int.toNat_natCast,U_slices_IndexFunc_api_Attr_api_Attr,lw,lx,le,Nat.reduceMul,UInt8.reduceToNat,reduceIte,reduceCtorEq,Nat.reduceEqDiff,Nat.reduceAdd,Nat.reduceLeDiff,Nat.reduceSub,Nat.reduceLT,Int.reduceEq,Int.reduceLT,Int.reduceLE,Int.reduceToNat,Int.reduceAdd,Int.reduceSub,Int.reduceMul,Int.reduceNeg,h1,h2,h3]
      | false =>
        rw[hp] at hcx
        simp only[h,hlt,hv,hcx,w1,nat_nonneg,Int.toNat_natCast,U_slices_IndexFunc_api_Attr_api_Attr,lw,lx,le,Nat.reduceMul,UInt8.reduceToNat,reduceIte,reduceCtorEq,Nat.reduceEqDiff,Nat.reduceAdd,Nat.reduceLeDiff,Nat.reduceSub,Nat.reduceLT,Int.reduceEq,Int.reduceLT,Int.reduceLE,Int.reduceToNat,Int.reduceAdd,Int.reduceSub,Int.reduceMul,Int.reduceNeg,h1,h2,h3]
        rw[hi2 _ _ ?_]
        simp only[h,w1,U_slices_IndexFunc_api_Attr_api_Attr,lw,lx,le,Nat.reduceMul,UInt8.reduceToNat,reduceIte,reduceCtorEq,Nat.reduceEqDiff,Nat.reduceAdd,Nat.reduceLeDiff,Nat.reduceSub,Nat.reduceLT,Int.reduceEq,Int.reduceLT,Int.reduceLE,Int.reduceToNat,Int.reduceAdd,Int.reduceSub,Int.reduceMul,Int.reduceNeg,h1,h2,h3]
  rw[call_code sp_slices_IndexFunc_api_Attr_api_Attr _ _ rfl]
  simp only[U_slices_IndexFunc_api_Attr_api_Attr,lw,lx,le,Nat.reduceMul,UInt8.reduceToNat,reduceIte,reduceCtorEq,Nat.reduceEqDiff,Nat.reduceAdd,Nat.reduceLeDiff,Nat.reduceSub,Nat.reduceLT,Int.reduceEq,Int.reduceLT,Int.reduceLE,Int.reduceToNat,Int.reduceAdd,Int.reduceSub,Int.reduceMul,Int.reduceNeg,h1,h2,h3]
  have:=loop xs.length 0 (by omega)
  unfold k_slices_IndexFunc_api_Attr_api_Attr_1 at this
  rw[this _ _ ?_]
  ·rw[List.drop_zero]
  simp only[U_slices_IndexFunc_api_Attr_api_Attr,lw,lx,le,Nat.reduceMul,UInt8.reduceToNat,reduceIte,reduceCtorEq,Nat.reduceEqDiff,Nat.reduceAdd,Nat.reduceLeDiff,Nat.reduceSub,Nat.reduceLT,Int.reduceEq,Int.reduceLT,Int.reduceLE,Int.reduceToNat,Int.reduceAdd,Int.reduceSub,Int.reduceMul,Int.reduceNeg,h1,h2,h3]
  try simp
theorem sp_slices_ContainsFunc_api_Attr_api_Attr:SP 99=some (.code sc_slices_ContainsFunc_api_Attr_api_Attr):=SPof_code rfl Tryz.func99 comp_slices_ContainsFunc_api_Attr_api_Attr
theorem G_slices_ContainsFunc_api_Attr_api_Attr (xs:List Attr) (g:Nat) (caps:List PV) (p:Attr→Bool) (S:Sto) (hl:xs.length < 9223372036854775808) (h1:∀ S,handA S (PV.upL caps)=some (PV.upL caps,S)) (h2:(PV.upL caps).any PV.hasSl=false) (h3:∀ a,joinA a (PV.upL caps)=a++PV.upL caps) (h1':∀ S,handA S (PV.upL (PV.upL caps))=some (PV.upL (PV.upL caps),S)) (h2':(PV.upL (PV.upL caps)).any PV.hasSl=false) (h3':∀ a,joinA a (PV.upL (PV.upL caps))=a++PV.upL (PV.upL caps)) (hc:∀ x,x ∈ xs→∀ f f',call SP g (.agg (eAttr x)::PV.upL (PV.upL caps)) (f::f'::S)=.ok (.v (.bool (p x))) (f::f'::S)):call SP 99 [.list 2 (xs.map eAttr) false,.func g caps] S=.ok (.v (.bool (xs.any p))) S:=by
  have ix:=fun f'=>G_slices_IndexFunc_api_Attr_api_Attr xs g (PV.upL caps) p (f'::S) hl h1' h2' h3' fun x hx f=>hc x hx f f'
  have hd:=findI_dec p xs
  rw[call_code sp_slices_ContainsFunc_api_Attr_api_Attr _ _ rfl]
  simp only[ix,hd,U_slices_ContainsFunc_api_Attr_api_Attr,lw,lx,le,Nat.reduceMul,UInt8.reduceToNat,reduceIte,reduceCtorEq,Nat.reduceEqDiff,Nat.reduceAdd,Nat.reduceLeDiff,Nat.reduceSub,Nat.reduceLT,Int.reduceEq,Int.reduceLT,Int.reduceLE,Int.reduceToNat,Int.reduceAdd,Int.reduceSub,Int.reduceMul,Int.reduceNeg,h1,h2,h3]
theorem sp_Q30:SP 30=some (.code sc_Q30):=SPof_code rfl Tryz.func30 comp_Q30
theorem H_slices_ContainsFunc_api_Block_api_Block_parse_May_1 {xs:List Block}  {p:Block→Bool} (hl:xs.length < 9223372036854775808) (hp:∀ x,x ∈ xs→R_Q51 x (p x)):∀ (S:Sto),call SP 50 [.list 4 (xs.map eBlock) false,.func 51 []] S=.ok (.v (.bool (xs.any p))) S:=by
 intro S  
 refine G_slices_ContainsFunc_api_Block_api_Block xs 51 [] p S hl (by intro S;rfl) (by rfl) (by intro a;rfl) (by intro S;rfl) (by rfl) (by intro a;rfl) ?_
 intro x hx f f'
 have:=hp x hx (f::f'::S)  
 simpa only[PV.upL,PV.up] using this
theorem Q30_tree (l_:List Block) (r:Bool) (T :
  (l_.length < 9223372036854775808) ∧
 ∃ (pp1:Block→Bool),(∀ x,x ∈ l_→R_Q51 x (pp1 x)) ∧
 (!(l_.any pp1))=r):R_Q30 l_ r:=by
 intro S
 rw[call_code sp_Q30 _ _ rfl]
 have F:=U_Q30
 obtain⟨p1,pp1,q2,rfl⟩:=T
 have o2:=H_slices_ContainsFunc_api_Block_api_Block_parse_May_1  p1 q2
 try simp only[le] at o2
 exact fi (aa p1<|aa o2<|F)
theorem sp_Q51:SP 51=some (.code sc_Q51):=SPof_code rfl Tryz.func51 comp_Q51
theorem Q51_tree (b:Block) (r:Bool) (T :
  ∃ (r1:Bool),(R_Q52 b false r1) ∧
 (!r1)=r):R_Q51 b r:=by
 intro S
 rw[call_code sp_Q51 _ _ rfl]
 have F:=U_Q51
 obtain⟨r1,q1,rfl⟩:=T
 simp only[R_Q52,lF] at q1
 exact fi (aa q1<|F)
theorem sp_Q52:SP 52=some (.code sc_Q52):=SPof_code rfl Tryz.func52 comp_Q52
theorem H_slices_ContainsFunc_api_Block_api_Block_parse_may_1 {xs:List Block}  {p:Block→Bool} (hl:xs.length < 9223372036854775808) (hp:∀ x,x ∈ xs→R_Q83 x (p x)):∀ (S:Sto),call SP 50 [.list 4 (xs.map eBlock) false,.func 83 []] S=.ok (.v (.bool (xs.any p))) S:=by
 intro S  
 refine G_slices_ContainsFunc_api_Block_api_Block xs 83 [] p S hl (by intro S;rfl) (by rfl) (by intro a;rfl) (by intro S;rfl) (by rfl) (by intro a;rfl) ?_
 intro x hx f f'
 have:=hp x hx (f::f'::S)  
 simpa only[PV.upL,PV.up] using this
theorem Q52_tree (b:Block) (within:Bool) (r:Bool) (T :
  ∃ (r1:Bool),(R_Q81 b.Label r1) ∧
 ((b.Kind=2) →
  ((b.Kind < 1) →
   false=r) ∧
  (¬ (b.Kind < 1) →
   ((5 < b.Kind) →
    false=r) ∧
   (¬ (5 < b.Kind) →
    ((b.Label=[]) →
     (((b.Blocks.length:Int)=0) →
      ∃ (r2:Bool),(R_Q82 b.Attrs r2) ∧
      r2=r) ∧
     (¬ ((b.Blocks.length:Int)=0) →
      false=r)) ∧
    (¬ (b.Label=[]) →
     false=r)))) ∧
 (¬ (b.Kind=2) →
  ((b.Kind < 1) →
   false=r) ∧
  (¬ (b.Kind < 1) →
   ((5 < b.Kind) →
    false=r) ∧
   (¬ (5 < b.Kind) →
    ((r1=true) →
     ((b.Kind=5) →
      ((within=true) →
       false=r) ∧
      (¬ (within=true) →
       (((b.Attrs.length:Int)=0) →
        (b.Blocks.length < 9223372036854775808) ∧
        ∃ (pp3:Block→Bool),(∀ x,x ∈ b.Blocks→R_Q83 x (pp3 x)) ∧
        (!(b.Blocks.any pp3))=r) ∧
       (¬ ((b.Attrs.length:Int)=0) →
        false=r))) ∧
     (¬ (b.Kind=5) →
      (((b.Blocks.length:Int)=0) →
       ∃ (r4:Bool),(R_Q82 b.Attrs r4) ∧
       r4=r) ∧
      (¬ ((b.Blocks.length:Int)=0) →
       false=r))) ∧
    (¬ (r1=true) →
     false=r))))):R_Q52 b within r:=by
 intro S
 rw[call_code sp_Q52 _ _ rfl]
 have F:=U_Q52
 obtain⟨r1,q1,T⟩:=T
 simp only[R_Q81,lF] at q1
 replace F:=aa q1<|F
 by_cases c2:b.Kind=2
 ·replace T:=T.1 c2
  replace F:=aa (eq_true c2)<|F
  by_cases c3:b.Kind < 1
  ·replace T:=T.1 c3
   obtain rfl:=T
   exact fi (aa (eq_true c3)<|F)
  replace T:=T.2 c3
  replace F:=aa (eq_false c3)<|F
  by_cases c4:5 < b.Kind
  ·replace T:=T.1 c4
   obtain rfl:=T
   exact fi (aa (eq_true c4)<|F)
  replace T:=T.2 c4
  replace F:=aa (eq_false c4)<|F
  by_cases c5:b.Label=[]
  ·replace T:=T.1 c5
   have d6:¬ (b.Kind=5):=fun h=>absurd (c2.symm.trans h) (by decide)
   replace F:=aa (eq_true c5)<|aa (eq_false d6)<|F
   by_cases c7:(b.Blocks.length:Int)=0
   ·replace T:=T.1 c7
    obtain⟨r2,q8,rfl⟩:=T
    simp only[R_Q82,lF] at q8
    exact fi (aa (eq_true c7)<|aa q8<|F)
   replace T:=T.2 c7
   obtain rfl:=T
   exact fi (aa (eq_false c7)<|F)
  replace T:=T.2 c5
  obtain rfl:=T
  exact fi (aa (eq_false c5)<|F)
 replace T:=T.2 c2
 replace F:=aa (eq_false c2)<|F
 by_cases c9:b.Kind < 1
 ·replace T:=T.1 c9
  obtain rfl:=T
  exact fi (aa (eq_true c9)<|F)
 replace T:=T.2 c9
 replace F:=aa (eq_false c9)<|F
 by_cases c10:5 < b.Kind
 ·replace T:=T.1 c10
  obtain rfl:=T
  exact fi (aa (eq_true c10)<|F)
 replace T:=T.2 c10
 replace F:=aa (eq_false c10)<|F
 by_cases c11:r1=true
 ·replace T:=T.1 c11
  replace F:=aa c11<|F
  by_cases c12:b.Kind=5
  ·replace T:=T.1 c12
   replace F:=aa (eq_true c12)<|F
   by_cases c13:within=true
   ·replace T:=T.1 c13
    obtain rfl:=T
    exact fi (aa c13<|F)
   replace T:=T.2 c13
   replace c13:=Bool.eq_false_iff.2 c13
   replace F:=aa c13<|F
   by_cases c14:(b.Attrs.length:Int)=0
   ·replace T:=T.1 c14
    obtain⟨p15,pp3,q16,rfl⟩:=T
    have o16:=H_slices_ContainsFunc_api_Block_api_Block_parse_may_1  p15 q16
    try simp only[le] at o16
    exact fi (aa (eq_true c14)<|aa p15<|aa o16<|F)
   replace T:=T.2 c14
   obtain rfl:=T
   exact fi (aa (eq_false c14)<|F)
  replace T:=T.2 c12
  replace F:=aa (eq_false c12)<|F
  by_cases c17:(b.Blocks.length:Int)=0
  ·replace T:=T.1 c17
   obtain⟨r4,q18,rfl⟩:=T
   simp only[R_Q82,lF] at q18
   exact fi (aa (eq_true c17)<|aa q18<|F)
  replace T:=T.2 c17
  obtain rfl:=T
  exact fi (aa (eq_false c17)<|F)
 replace T:=T.2 c11
 replace c11:=Bool.eq_false_iff.2 c11
 obtain rfl:=T
 exact fi (aa c11<|F)
theorem sp_Q83:SP 83=some (.code sc_Q83):=SPof_code rfl Tryz.func83 comp_Q83
theorem Q83_tree (x:Block) (r:Bool) (T :
  ∃ (r1:Bool),(R_Q52 x true r1) ∧
 (!r1)=r):R_Q83 x r:=by
 intro S
 rw[call_code sp_Q83 _ _ rfl]
 have F:=U_Q83
 obtain⟨r1,q1,rfl⟩:=T
 simp only[R_Q52,lF] at q1
 exact fi (aa q1<|F)
theorem sp_Q82:SP 82=some (.code sc_Q82):=SPof_code rfl Tryz.func82 comp_Q82
theorem H_slices_ContainsFunc_api_Attr_api_Attr_parse_attrs_1 {xs:List Attr} {c0:Attr} {p:Attr→Bool} (hl:xs.length < 9223372036854775808) (hp:∀ x,x ∈ xs→R_Q121 x c0 (p x)):∀ (S:Sto) (n0:Nat) (t0:Nat),(getBox S n0 t0).map (List.take 2)=some [.str c0.Name,.list 5 (c0.Expr.map eNode) false]→call SP 99 [.list 2 (xs.map eAttr) false,.func 121 [.ptr n0 t0 0]] S=.ok (.v (.bool (xs.any p))) S:=by
 intro S n0 t0 h0
 refine G_slices_ContainsFunc_api_Attr_api_Attr xs 121 [.ptr n0 t0 0] p S hl (by intro S;rfl) (by rfl) (by intro a;rfl) (by intro S;rfl) (by rfl) (by intro a;rfl) ?_
 intro x hx f f'
 have:=hp x hx (f::f'::S) (n0+1+1) t0 (by simpa only[lw] using h0)
 simpa only[PV.upL,PV.up] using this
def At_Q121 (l_:List Attr) (i1:Int) (r:Bool):Prop:=∀ (S:Sto) (e:Nat→PV) (f:Fr),e 0=.list 2 (l_.map eAttr) false∧e 5=.list 2 (l_.map eAttr) false∧e 6=.int .i64 (l_.length:Int)∧e 7=.int .i64 i1→k_Q121 SP (E SP (.loop b_Q121) ⟨e,f::S⟩)=.ok (.v (.bool r)) S
theorem At_Q121_step (l_:List Attr) (i1:Int) (r:Bool) (T :
  ((i1 < (l_.length:Int)) →
  (0≤i1) ∧
  ∃ (v2:Attr),(l_[i1.toNat]?=some v2) ∧
  ∃ (r3:Bool),(R_Q115 v2.Name r3) ∧
  ((r3=true) →
   ∃ (r4:Bool),(R_Q26 v2.Expr r4) ∧
   ((r4=true) →
    (0≤i1)∧(i1.toNat≤l_.length) ∧
    ((l_.take (i1.toNat)).length < 9223372036854775808) ∧
    ∃ (pp5:Attr→Bool),(∀ x,x ∈ (l_.take (i1.toNat))→R_Q121 x v2 (pp5 x)) ∧
    ((((l_.take (i1.toNat)).any pp5)=true) →
     false=r) ∧
    (¬ (((l_.take (i1.toNat)).any pp5)=true) →
     (I64 (i1+1)) ∧
     At_Q121 l_ (i1+1) r)) ∧
   (¬ (r4=true) →
    false=r)) ∧
  (¬ (r3=true) →
   false=r)) ∧
 (¬ (i1 < (l_.length:Int)) →
  true=r)):At_Q121 l_ i1 r:=by
 intro S e f h
 unfold k_Q121
 rw[E_loop]
 have F:=U_Q82
 replace F:=aa h<|F
 by_cases c1:i1 < (l_.length:Int)
 ·replace T:=T.1 c1
  obtain⟨p2,v2,q3,r3,q4,T⟩:=T
  simp only[R_Q115,lF] at q4
  replace F:=aa (eq_true c1)<|aa p2<|aa q3<|aa q4<|F
  by_cases c5:r3=true
  ·replace T:=T.1 c5
   obtain⟨r4,q6,T⟩:=T
   simp only[R_Q26,lF] at q6
   replace F:=aa c5<|aa q6<|F
   by_cases c7:r4=true
   ·replace T:=T.1 c7
    obtain⟨p8,p9,p10,pp5,q11,T⟩:=T
    have o11:=H_slices_ContainsFunc_api_Attr_api_Attr_parse_attrs_1  p10 q11
    try simp only[le] at o11
    replace F:=aa c7<|aa p8<|aa p9<|aa p10<|aa o11<|F
    by_cases c12:((l_.take (i1.toNat)).any pp5)=true
    ·replace T:=T.1 c12
     obtain rfl:=T
     exact fi (aa c12<|F)
    replace T:=T.2 c12
    replace c12:=Bool.eq_false_iff.2 c12
    obtain⟨p13,T⟩:=T
    replace F:=aa c12<|aa p13.wrap<|F
    exact lo F T
   replace T:=T.2 c7
   replace c7:=Bool.eq_false_iff.2 c7
   obtain rfl:=T
   exact fi (aa c7<|F)
  replace T:=T.2 c5
  replace c5:=Bool.eq_false_iff.2 c5
  obtain rfl:=T
  exact fi (aa c5<|F)
 replace T:=T.2 c1
 obtain rfl:=T
 exact fi (aa (eq_false c1)<|F)
theorem Q82_tree (l_:List Attr) (r:Bool) (T :
  At_Q121 l_ 0 r):R_Q82 l_ r:=by
 intro S
 rw[call_code sp_Q82 _ _ rfl]
 have F:=U_Q82
 exact lo F T
theorem sp_Q121:SP 121=some (.code sc_Q121):=SPof_code rfl Tryz.func121 comp_Q121
theorem Q121_tree (b:Attr) (c0_:Attr) (r:Bool) (T :
  (decide (b.Name=c0_.Name))=r):R_Q121 b c0_ r:=by
 intro S n1 t1 H0
 have hb0:=H0
 obtain⟨w0,hB0⟩:=take_some hb0
 have hn0:=o_getBox_lt hB0
 rw[call_code sp_Q121 _ _ rfl]
 have F:=U_Q121
 obtain rfl:=T
 exact fi (aa hB0<|aa hn0<|F)
theorem sp_Q48:SP 48=some (.code sc_Q48):=SPof_code rfl Tryz.func48 comp_Q48
theorem Q48_tree (kind:Int) (r:Int) (T :
  ((1≤kind) →
  ((kind≤4) →
   0=r) ∧
  (¬ (kind≤4) →
   ((kind=5) →
    (-1)=r) ∧
   (¬ (kind=5) →
    ((kind=6) →
     (-1)=r) ∧
    (¬ (kind=6) →
     ((kind=8) →
      1=r) ∧
     (¬ (kind=8) →
      ((kind=9) →
       1=r) ∧
      (¬ (kind=9) →
       ((kind=10) →
        3=r) ∧
       (¬ (kind=10) →
        ((kind=7) →
         2=r) ∧
        (¬ (kind=7) →
         ((11≤kind) →
          ((kind≤23) →
           2=r) ∧
          (¬ (kind≤23) →
           (-2)=r)) ∧
         (¬ (11≤kind) →
          (-2)=r))))))))) ∧
 (¬ (1≤kind) →
  ((kind=5) →
   (-1)=r) ∧
  (¬ (kind=5) →
   ((kind=6) →
    (-1)=r) ∧
   (¬ (kind=6) →
    ((kind=8) →
     1=r) ∧
    (¬ (kind=8) →
     ((kind=9) →
      1=r) ∧
     (¬ (kind=9) →
      ((kind=10) →
       3=r) ∧
      (¬ (kind=10) →
       ((kind=7) →
        2=r) ∧
       (¬ (kind=7) →
        ((11≤kind) →
         ((kind≤23) →
          2=r) ∧
         (¬ (kind≤23) →
          (-2)=r)) ∧
        (¬ (11≤kind) →
         (-2)=r))))))))):R_Q48 kind r:=by
 intro S
 rw[call_code sp_Q48 _ _ rfl]
 have F:=U_Q48
 by_cases c1:1≤kind
 ·replace T:=T.1 c1
  replace F:=aa (eq_true c1)<|F
  by_cases c2:kind≤4
  ·replace T:=T.1 c2
   obtain rfl:=T
   exact fi (aa (eq_true c2)<|F)
  replace T:=T.2 c2
  replace F:=aa (eq_false c2)<|F
  by_cases c3:kind=5
  ·replace T:=T.1 c3
   obtain rfl:=T
   exact fi (aa (eq_true c3)<|F)
  replace T:=T.2 c3
  replace F:=aa (eq_false c3)<|F
  by_cases c4:kind=6
  ·replace T:=T.1 c4
   obtain rfl:=T
   exact fi (aa (eq_true c4)<|F)
  replace T:=T.2 c4
  replace F:=aa (eq_false c4)<|F
  by_cases c5:kind=8
  ·replace T:=T.1 c5
   obtain rfl:=T
   exact fi (aa (eq_true c5)<|F)
  replace T:=T.2 c5
  replace F:=aa (eq_false c5)<|F
  by_cases c6:kind=9
  ·replace T:=T.1 c6
   obtain rfl:=T
   exact fi (aa (eq_true c6)<|F)
  replace T:=T.2 c6
  replace F:=aa (eq_false c6)<|F
  by_cases c7:kind=10
  ·replace T:=T.1 c7
   obtain rfl:=T
   exact fi (aa (eq_true c7)<|F)
  replace T:=T.2 c7
  replace F:=aa (eq_false c7)<|F
  by_cases c8:kind=7
  ·replace T:=T.1 c8
   obtain rfl:=T
   exact fi (aa (eq_true c8)<|F)
  replace T:=T.2 c8
  replace F:=aa (eq_false c8)<|F
  by_cases c9:11≤kind
  ·replace T:=T.1 c9
   replace F:=aa (eq_true c9)<|F
   by_cases c10:kind≤23
   ·replace T:=T.1 c10
    obtain rfl:=T
    exact fi (aa (eq_true c10)<|F)
   replace T:=T.2 c10
   obtain rfl:=T
   exact fi (aa (eq_false c10)<|F)
  replace T:=T.2 c9
  obtain rfl:=T
  exact fi (aa (eq_false c9)<|F)
 replace T:=T.2 c1
 replace F:=aa (eq_false c1)<|F
 by_cases c11:kind=5
 ·replace T:=T.1 c11
  obtain rfl:=T
  exact fi (aa (eq_true c11)<|F)
 replace T:=T.2 c11
 replace F:=aa (eq_false c11)<|F
 by_cases c12:kind=6
 ·replace T:=T.1 c12
  obtain rfl:=T
  exact fi (aa (eq_true c12)<|F)
 replace T:=T.2 c12
 replace F:=aa (eq_false c12)<|F
 by_cases c13:kind=8
 ·replace T:=T.1 c13
  obtain rfl:=T
  exact fi (aa (eq_true c13)<|F)
 replace T:=T.2 c13
 replace F:=aa (eq_false c13)<|F
 by_cases c14:kind=9
 ·replace T:=T.1 c14
  obtain rfl:=T
  exact fi (aa (eq_true c14)<|F)
 replace T:=T.2 c14
 replace F:=aa (eq_false c14)<|F
 by_cases c15:kind=10
 ·replace T:=T.1 c15
  obtain rfl:=T
  exact fi (aa (eq_true c15)<|F)
 replace T:=T.2 c15
 replace F:=aa (eq_false c15)<|F
 by_cases c16:kind=7
 ·replace T:=T.1 c16
  obtain rfl:=T
  exact fi (aa (eq_true c16)<|F)
 replace T:=T.2 c16
 replace F:=aa (eq_false c16)<|F
 by_cases c17:11≤kind
 ·replace T:=T.1 c17
  replace F:=aa (eq_true c17)<|F
  by_cases c18:kind≤23
  ·replace T:=T.1 c18
   obtain rfl:=T
   exact fi (aa (eq_true c18)<|F)
  replace T:=T.2 c18
  obtain rfl:=T
  exact fi (aa (eq_false c18)<|F)
 replace T:=T.2 c17
 obtain rfl:=T
 exact fi (aa (eq_false c17)<|F)
theorem sp_Q76:SP 76=some (.code sc_Q76):=SPof_code rfl Tryz.func76 comp_Q76
def At_Q76_1 (l_:List Part) (i1:Int) (r:Bool):Prop:=∀ (S:Sto) (e:Nat→PV) (f:Fr),e 0=.list 2 (l_.map ePart) false∧e 3=.int .i64 i1→k_Q76_1 SP (E SP (.loop b_Q76_1) ⟨e,f::S⟩)=.ok (.v (.bool r)) S
def At_Q76_2 (l_:List Part) (i1:Int) (i5:Int) (r:Bool):Prop:=∀ (S:Sto) (e:Nat→PV) (f:Fr),e 0=.list 2 (l_.map ePart) false∧e 3=.int .i64 i1∧e 4=.int .i64 i5→k_Q76_2 SP (E SP (.loop b_Q76_2) ⟨e,f::S⟩)=.ok (.v (.bool r)) S
theorem At_Q76_1_step (l_:List Part) (i1:Int) (r:Bool) (T :
  ((i1 < (l_.length:Int)) →
  (0≤i1) ∧
  ∃ (v2:Part),(l_[i1.toNat]?=some v2) ∧
  ((v2.Ref=true) →
   ∃ (r3:Bool),(R_Q78 v2.Text r3) ∧
   ((r3=true) →
    (I64 (i1+1)) ∧
    At_Q76_1 l_ (i1+1) r) ∧
   (¬ (r3=true) →
    false=r)) ∧
  (¬ (v2.Ref=true) →
   ((v2.Text=[]) →
    false=r) ∧
   (¬ (v2.Text=[]) →
    ((0 < i1) →
     (I64 (i1 - 1)) ∧
     (0≤(i1 - 1)) ∧
     ∃ (v4:Part),(l_[(i1 - 1).toNat]?=some v4) ∧
     ((v4.Ref=true) →
      At_Q76_2 l_ i1 0 r) ∧
     (¬ (v4.Ref=true) →
      false=r)) ∧
    (¬ (0 < i1) →
     At_Q76_2 l_ i1 0 r)))) ∧
 (¬ (i1 < (l_.length:Int)) →
  true=r)):At_Q76_1 l_ i1 r:=by
 intro S e f h
 unfold k_Q76_1
 rw[E_loop]
 have F:=U_Q76
 replace F:=aa h<|F
 by_cases c1:i1 < (l_.length:Int)
 ·replace T:=T.1 c1
  obtain⟨p2,v2,q3,T⟩:=T
  replace F:=aa (eq_true c1)<|aa p2<|aa q3<|F
  by_cases c4:v2.Ref=true
  ·replace T:=T.1 c4
   obtain⟨r3,q5,T⟩:=T
   simp only[R_Q78,lF] at q5
   replace F:=aa c4<|aa q5<|F
   by_cases c6:r3=true
   ·replace T:=T.1 c6
    obtain⟨p7,T⟩:=T
    replace F:=aa c6<|aa p7.wrap<|F
    exact lo F T
   replace T:=T.2 c6
   replace c6:=Bool.eq_false_iff.2 c6
   obtain rfl:=T
   exact fi (aa c6<|F)
  replace T:=T.2 c4
  replace c4:=Bool.eq_false_iff.2 c4
  replace F:=aa c4<|F
  by_cases c8:v2.Text=[]
  ·replace T:=T.1 c8
   obtain rfl:=T
   exact fi (aa (eq_true c8)<|F)
  replace T:=T.2 c8
  replace F:=aa (eq_false c8)<|F
  by_cases c9:0 < i1
  ·replace T:=T.1 c9
   obtain⟨p10,p11,v4,q12,T⟩:=T
   replace F:=aa (eq_true c9)<|aa p10.wrap<|aa p11<|aa q12<|F
   by_cases c13:v4.Ref=true
   ·replace T:=T.1 c13
    replace F:=aa c13<|F
    exact lo F T
   replace T:=T.2 c13
   replace c13:=Bool.eq_false_iff.2 c13
   obtain rfl:=T
   exact fi (aa c13<|F)
  replace T:=T.2 c9
  replace F:=aa (eq_false c9)<|F
  exact lo F T
 replace T:=T.2 c1
 obtain rfl:=T
 exact fi (aa (eq_false c1)<|F)
theorem At_Q76_2_step (l_:List Part) (i1:Int) (i5:Int) (r:Bool) (T :
  (0≤i1) ∧
 ∃ (v6:Part),(l_[i1.toNat]?=some v6) ∧
 ((i5 < (v6.Text.length:Int)) →
  (0≤i5) ∧
  ∃ (b7:UInt8),(v6.Text[i5.toNat]?=some b7) ∧
  (((b7.toNat:Int) < 32) →
   (((b7.toNat:Int)=10) →
    (I64 (i5+1)) ∧
    At_Q76_2 l_ i1 (i5+1) r) ∧
   (¬ ((b7.toNat:Int)=10) →
    false=r)) ∧
  (¬ ((b7.toNat:Int) < 32) →
   (I64 (i5+1)) ∧
   At_Q76_2 l_ i1 (i5+1) r)) ∧
 (¬ (i5 < (v6.Text.length:Int)) →
  (I64 (i1+1)) ∧
  At_Q76_1 l_ (i1+1) r)):At_Q76_2 l_ i1 i5 r:=by
 intro S e f h
 unfold k_Q76_2
 rw[E_loop]
 have F:=U_Q76
 obtain⟨p1,v6,q2,T⟩:=T
 replace F:=aa h<|aa p1<|aa q2<|F
 by_cases c3:i5 < (v6.Text.length:Int)
 ·replace T:=T.1 c3
  obtain⟨p4,b7,q5,T⟩:=T
  replace F:=aa (eq_true c3)<|aa p4<|aa q5<|F
  by_cases c6:(b7.toNat:Int) < 32
  ·replace T:=T.1 c6
   replace F:=aa (eq_true c6)<|F
   by_cases c7:(b7.toNat:Int)=10
   ·replace T:=T.1 c7
    obtain⟨p8,T⟩:=T
    replace F:=aa (eq_true c7)<|aa p8.wrap<|F
    exact lo F T
   replace T:=T.2 c7
   obtain rfl:=T
   exact fi (aa (eq_false c7)<|F)
  replace T:=T.2 c6
  obtain⟨p9,T⟩:=T
  replace F:=aa (eq_false c6)<|aa p9.wrap<|F
  exact lo F T
 replace T:=T.2 c3
 obtain⟨p10,T⟩:=T
 replace F:=aa (eq_false c3)<|aa p10.wrap<|F
 exact lo F T
theorem Q76_tree (l_:List Part) (r:Bool) (T :
  At_Q76_1 l_ 0 r):R_Q76 l_ r:=by
 intro S
 rw[call_code sp_Q76 _ _ rfl]
 have F:=U_Q76
 exact lo F T
theorem sp_Q49:SP 49=some (.code sc_Q49):=SPof_code rfl Tryz.func49 comp_Q49
theorem Q49_tree (n:Node) (r:Bool) (T :
  ((n.Kind=1) →
  ((n.Text=[]) →
   ((0 < (n.Parts.length:Int)) →
    false=r) ∧
   (¬ (0 < (n.Parts.length:Int)) →
    (decide (0≤n.Num))=r)) ∧
  (¬ (n.Text=[]) →
   false=r)) ∧
 (¬ (n.Kind=1) →
  ((n.Kind=3) →
   ((n.Text=[]) →
    ((0 < (n.Parts.length:Int)) →
     false=r) ∧
    (¬ (0 < (n.Parts.length:Int)) →
     ((n.Num=0) →
      true=r) ∧
     (¬ (n.Num=0) →
      (decide (n.Num=1))=r))) ∧
   (¬ (n.Text=[]) →
    false=r)) ∧
  (¬ (n.Kind=3) →
   ((n.Num=0) →
    ((n.Kind=4) →
     ((0 < (n.Parts.length:Int)) →
      false=r) ∧
     (¬ (0 < (n.Parts.length:Int)) →
      ∃ (r1:Int),(R_Q77 n.Text 0 r1) ∧
      (0≤r1)∧(r1.toNat≤n.Text.length) ∧
      ∃ (r2:Bool),(R_Q78 n.Text r2) ∧
      ((r2=true) →
       (((n.Text.take (r1.toNat))=[116,114,117,101]) →
        false=r) ∧
       (¬ ((n.Text.take (r1.toNat))=[116,114,117,101]) →
        (!(decide ((n.Text.take (r1.toNat))=[102,97,108,115,101])))=r)) ∧
      (¬ (r2=true) →
       false=r))) ∧
    (¬ (n.Kind=4) →
     ((n.Kind=5) →
      ((0 < (n.Parts.length:Int)) →
       false=r) ∧
      (¬ (0 < (n.Parts.length:Int)) →
       ∃ (r3:Bool),(R_Q79 n.Text r3) ∧
       ((r3=true) →
        ((n.Text=[116,114,117,101]) →
         false=r) ∧
        (¬ (n.Text=[116,114,117,101]) →
         (!(decide (n.Text=[102,97,108,115,101])))=r)) ∧
       (¬ (r3=true) →
        false=r))) ∧
     (¬ (n.Kind=5) →
      ((n.Text=[]) →
       ((n.Kind=2) →
        ∃ (r4:Bool),(R_Q76 n.Parts r4) ∧
        r4=r) ∧
       (¬ (n.Kind=2) →
        ((0 < (n.Parts.length:Int)) →
         false=r) ∧
        (¬ (0 < (n.Parts.length:Int)) →
         true=r))) ∧
      (¬ (n.Text=[]) →
       false=r)))) ∧
   (¬ (n.Num=0) →
    false=r)))):R_Q49 n r:=by
 intro S
 rw[call_code sp_Q49 _ _ rfl]
 have F:=U_Q49
 by_cases c1:n.Kind=1
 ·replace T:=T.1 c1
  have d2:¬ (n.Kind=4):=fun h=>absurd (c1.symm.trans h) (by decide)
  have d3:¬ (n.Kind=5):=fun h=>absurd (c1.symm.trans h) (by decide)
  replace F:=aa (eq_true c1)<|aa (eq_false d2)<|aa (eq_false d3)<|F
  by_cases c4:n.Text=[]
  ·replace T:=T.1 c4
   have d5:¬ (n.Kind=2):=fun h=>absurd (c1.symm.trans h) (by decide)
   replace F:=aa (eq_true c4)<|aa (eq_false d5)<|F
   by_cases c6:0 < (n.Parts.length:Int)
   ·replace T:=T.1 c6
    obtain rfl:=T
    exact fi (aa (eq_true c6)<|F)
   replace T:=T.2 c6
   obtain rfl:=T
   exact fi (aa (eq_false c6)<|F)
  replace T:=T.2 c4
  obtain rfl:=T
  exact fi (aa (eq_false c4)<|F)
 replace T:=T.2 c1
 replace F:=aa (eq_false c1)<|F
 by_cases c7:n.Kind=3
 ·replace T:=T.1 c7
  have d8:¬ (n.Kind=4):=fun h=>absurd (c7.symm.trans h) (by decide)
  have d9:¬ (n.Kind=5):=fun h=>absurd (c7.symm.trans h) (by decide)
  replace F:=aa (eq_true c7)<|aa (eq_false d8)<|aa (eq_false d9)<|F
  by_cases c10:n.Text=[]
  ·replace T:=T.1 c10
   have d11:¬ (n.Kind=2):=fun h=>absurd (c7.symm.trans h) (by decide)
   replace F:=aa (eq_true c10)<|aa (eq_false d11)<|F
   by_cases c12:0 < (n.Parts.length:Int)
   ·replace T:=T.1 c12
    obtain rfl:=T
    exact fi (aa (eq_true c12)<|F)
   replace T:=T.2 c12
   replace F:=aa (eq_false c12)<|F
   by_cases c13:n.Num=0
   ·replace T:=T.1 c13
    obtain rfl:=T
    exact fi (aa (eq_true c13)<|F)
   replace T:=T.2 c13
   obtain rfl:=T
   exact fi (aa (eq_false c13)<|F)
  replace T:=T.2 c10
  obtain rfl:=T
  exact fi (aa (eq_false c10)<|F)
 replace T:=T.2 c7
 replace F:=aa (eq_false c7)<|F
 by_cases c14:n.Num=0
 ·replace T:=T.1 c14
  replace F:=aa (eq_true c14)<|F
  by_cases c15:n.Kind=4
  ·replace T:=T.1 c15
   have d16:¬ (n.Kind=2):=fun h=>absurd (c15.symm.trans h) (by decide)
   replace F:=aa (eq_true c15)<|aa (eq_false d16)<|F
   by_cases c17:0 < (n.Parts.length:Int)
   ·replace T:=T.1 c17
    obtain rfl:=T
    exact fi (aa (eq_true c17)<|F)
   replace T:=T.2 c17
   obtain⟨r1,q18,p19,p20,r2,q21,T⟩:=T
   simp only[R_Q77,lF] at q18
   simp only[R_Q78,lF] at q21
   replace F:=aa (eq_false c17)<|aa q18<|aa p19<|aa p20<|aa q21<|F
   by_cases c22:r2=true
   ·replace T:=T.1 c22
    replace F:=aa c22<|F
    by_cases c23:(n.Text.take (r1.toNat))=[116,114,117,101]
    ·replace T:=T.1 c23
     obtain rfl:=T
     exact fi (aa (eq_true c23)<|F)
    replace T:=T.2 c23
    obtain rfl:=T
    exact fi (aa (eq_false c23)<|F)
   replace T:=T.2 c22
   replace c22:=Bool.eq_false_iff.2 c22
   obtain rfl:=T
   exact fi (aa c22<|F)
  replace T:=T.2 c15
  replace F:=aa (eq_false c15)<|F
  by_cases c24:n.Kind=5
  ·replace T:=T.1 c24
   have d25:¬ (n.Kind=2):=fun h=>absurd (c24.symm.trans h) (by decide)
   replace F:=aa (eq_true c24)<|aa (eq_false d25)<|F
   by_cases c26:0 < (n.Parts.length:Int)
   ·replace T:=T.1 c26
    obtain rfl:=T
    exact fi (aa (eq_true c26)<|F)
   replace T:=T.2 c26
   obtain⟨r3,q27,T⟩:=T
   simp only[R_Q79,lF] at q27
   replace F:=aa (eq_false c26)<|aa q27<|F
   by_cases c28:r3=true
   ·replace T:=T.1 c28
    replace F:=aa c28<|F
    by_cases c29:n.Text=[116,114,117,101]
    ·replace T:=T.1 c29
     obtain rfl:=T
     exact fi (aa (eq_true c29)<|F)
    replace T:=T.2 c29
    obtain rfl:=T
    exact fi (aa (eq_false c29)<|F)
   replace T:=T.2 c28
   replace c28:=Bool.eq_false_iff.2 c28
   obtain rfl:=T
   exact fi (aa c28<|F)
  replace T:=T.2 c24
  replace F:=aa (eq_false c24)<|F
  by_cases c30:n.Text=[]
  ·replace T:=T.1 c30
   replace F:=aa (eq_true c30)<|F
   by_cases c31:n.Kind=2
   ·replace T:=T.1 c31
    obtain⟨r4,q32,rfl⟩:=T
    simp only[R_Q76,lF] at q32
    exact fi (aa (eq_true c31)<|aa q32<|F)
   replace T:=T.2 c31
   replace F:=aa (eq_false c31)<|F
   by_cases c33:0 < (n.Parts.length:Int)
   ·replace T:=T.1 c33
    obtain rfl:=T
    exact fi (aa (eq_true c33)<|F)
   replace T:=T.2 c33
   obtain rfl:=T
   exact fi (aa (eq_false c33)<|F)
  replace T:=T.2 c30
  obtain rfl:=T
  exact fi (aa (eq_false c30)<|F)
 replace T:=T.2 c14
 obtain rfl:=T
 exact fi (aa (eq_false c14)<|F)
theorem sp_Q29:SP 29=some (.code sc_Q29):=SPof_code rfl Tryz.func29 comp_Q29
def At_Q29_1 (l_:List Node) (i1:Int) (l2:List Int) (r:Bool):Prop:=∀ (S:Sto) (e:Nat→PV) (f:Fr),e 0=.list 5 (l_.map eNode) false∧e 3=.sl 0 (.slot 3) 0 l2.length l2.length 0 false∧e 4=.int .i64 i1∧f.arr (.slot 3)=some ⟨1,l2.map eI,false,0⟩→k_Q29_1 SP (E SP (.loop b_Q29_1) ⟨e,f::S⟩)=.ok (.v (.bool r)) S
def At_Q29_2 (l_:List Node) (i1:Int) (l2:List Int) (v3:Node) (i6:Int) (r:Bool):Prop:=∀ (S:Sto) (e:Nat→PV) (f:Fr),e 0=.list 5 (l_.map eNode) false∧e 3=.sl 0 (.slot 3) 0 l2.length l2.length 0 false∧e 4=.int .i64 i1∧e 5=.ptr 0 5 0∧e 6=.int .i64 (v3.Kids.length:Int)∧e 7=.int .i64 i6∧f.box 5=some [.int .i64 v3.Kind,.int .i64 v3.Num,.str v3.Text,.list 2 (v3.Parts.map ePart) false,.list 1 (v3.Kids.map eI) false]∧f.arr (.slot 3)=some ⟨1,l2.map eI,false,0⟩→k_Q29_2 SP (E SP (.loop b_Q29_2) ⟨e,f::S⟩)=.ok (.v (.bool r)) S
def At_Q29_2b (l_:List Node) (i1:Int) (l2:List Int) (v3:Node) (r4:Int) (i8:Int) (r:Bool):Prop:=∀ (S:Sto) (e:Nat→PV) (f:Fr),e 0=.list 5 (l_.map eNode) false∧e 3=.sl 0 (.slot 3) 0 l2.length l2.length 0 false∧e 4=.int .i64 i1∧e 5=.ptr 0 5 0∧e 6=.int .i64 r4∧e 7=.int .i64 i8∧f.box 5=some [.int .i64 v3.Kind,.int .i64 v3.Num,.str v3.Text,.list 2 (v3.Parts.map ePart) false,.list 1 (v3.Kids.map eI) false]∧f.arr (.slot 3)=some ⟨1,l2.map eI,false,0⟩→k_Q29_2 SP (E SP (.loop b_Q29_2) ⟨e,f::S⟩)=.ok (.v (.bool r)) S
def At_Q29_1b (l_:List Node) (i11:Int) (l12:List Int) (r:Bool):Prop:=∀ (S:Sto) (e:Nat→PV) (f:Fr),e 0=.list 5 (l_.map eNode) false∧e 3=.sl 0 (.slot 78) 0 l12.length l12.length 0 false∧e 4=.int .i64 i11∧f.arr (.slot 78)=some ⟨1,l12.map eI,true,0⟩→k_Q29_1 SP (E SP (.loop b_Q29_1) ⟨e,f::S⟩)=.ok (.v (.bool r)) S
def At_Q29_2c (l_:List Node) (i11:Int) (l12:List Int) (v15:Node) (i18:Int) (r:Bool):Prop:=∀ (S:Sto) (e:Nat→PV) (f:Fr),e 0=.list 5 (l_.map eNode) false∧e 3=.sl 0 (.slot 78) 0 l12.length l12.length 0 false∧e 4=.int .i64 i11∧e 5=.ptr 0 5 0∧e 6=.int .i64 (v15.Kids.length:Int)∧e 7=.int .i64 i18∧f.box 5=some [.int .i64 v15.Kind,.int .i64 v15.Num,.str v15.Text,.list 2 (v15.Parts.map ePart) false,.list 1 (v15.Kids.map eI) false]∧f.arr (.slot 78)=some ⟨1,l12.map eI,true,0⟩→k_Q29_2 SP (E SP (.loop b_Q29_2) ⟨e,f::S⟩)=.ok (.v (.bool r)) S
def At_Q29_2d (l_:List Node) (i11:Int) (l12:List Int) (v15:Node) (r16:Int) (i20:Int) (r:Bool):Prop:=∀ (S:Sto) (e:Nat→PV) (f:Fr),e 0=.list 5 (l_.map eNode) false∧e 3=.sl 0 (.slot 78) 0 l12.length l12.length 0 false∧e 4=.int .i64 i11∧e 5=.ptr 0 5 0∧e 6=.int .i64 r16∧e 7=.int .i64 i20∧f.box 5=some [.int .i64 v15.Kind,.int .i64 v15.Num,.str v15.Text,.list 2 (v15.Parts.map ePart) false,.list 1 (v15.Kids.map eI) false]∧f.arr (.slot 78)=some ⟨1,l12.map eI,true,0⟩→k_Q29_2 SP (E SP (.loop b_Q29_2) ⟨e,f::S⟩)=.ok (.v (.bool r)) S
theorem At_Q29_1_step (l_:List Node) (i1:Int) (l2:List Int) (r:Bool) (T :
  ((i1 < (l_.length:Int)) →
  (0≤i1) ∧
  ∃ (v3:Node),(l_[i1.toNat]?=some v3) ∧
  ∃ (r4:Int),(R_Q48 v3.Kind r4) ∧
  ((r4=(-1)) →
   (((v3.Kids.length:Int) < 0) →
    false=r) ∧
   (¬ ((v3.Kids.length:Int) < 0) →
    (((l2.length:Int) < (v3.Kids.length:Int)) →
     false=r) ∧
    (¬ ((l2.length:Int) < (v3.Kids.length:Int)) →
     ∃ (r5:Bool),(R_Q49 v3 r5) ∧
     ((r5=true) →
      At_Q29_2 l_ i1 l2 v3 0 r) ∧
     (¬ (r5=true) →
      false=r)))) ∧
  (¬ (r4=(-1)) →
   ((r4 < 0) →
    false=r) ∧
   (¬ (r4 < 0) →
    ((r4=(v3.Kids.length:Int)) →
     (((l2.length:Int) < r4) →
      false=r) ∧
     (¬ ((l2.length:Int) < r4) →
      ∃ (r7:Bool),(R_Q49 v3 r7) ∧
      ((r7=true) →
       At_Q29_2b l_ i1 l2 v3 r4 0 r) ∧
      (¬ (r7=true) →
       false=r))) ∧
    (¬ (r4=(v3.Kids.length:Int)) →
     false=r)))) ∧
 (¬ (i1 < (l_.length:Int)) →
  (decide ((l2.length:Int)=1))=r)):At_Q29_1 l_ i1 l2 r:=by
 intro S e f h
 unfold k_Q29_1
 rw[E_loop]
 have F:=U_Q29
 replace F:=aa h<|F
 by_cases c1:i1 < (l_.length:Int)
 ·replace T:=T.1 c1
  obtain⟨p2,v3,q3,r4,q4,T⟩:=T
  simp only[R_Q48,lF] at q4
  replace F:=aa (eq_true c1)<|aa p2<|aa q3<|aa q4<|F
  by_cases c5:r4=(-1)
  ·replace T:=T.1 c5
   replace F:=aa (eq_true c5)<|F
   by_cases c6:(v3.Kids.length:Int) < 0
   ·replace T:=T.1 c6
    obtain rfl:=T
    exact fi (aa (eq_true c6)<|F)
   replace T:=T.2 c6
   replace F:=aa (eq_false c6)<|F
   by_cases c7:(l2.length:Int) < (v3.Kids.length:Int)
   ·replace T:=T.1 c7
    obtain rfl:=T
    exact fi (aa (eq_true c7)<|F)
   replace T:=T.2 c7
   obtain⟨r5,q8,T⟩:=T
   simp only[R_Q49,lF] at q8
   replace F:=aa (eq_false c7)<|aa q8<|F
   by_cases c9:r5=true
   ·replace T:=T.1 c9
    replace F:=aa c9<|F
    exact lo F T
   replace T:=T.2 c9
   replace c9:=Bool.eq_false_iff.2 c9
   obtain rfl:=T
   exact fi (aa c9<|F)
  replace T:=T.2 c5
  replace F:=aa (eq_false c5)<|F
  by_cases c10:r4 < 0
  ·replace T:=T.1 c10
   obtain rfl:=T
   exact fi (aa (eq_true c10)<|F)
  replace T:=T.2 c10
  replace F:=aa (eq_false c10)<|F
  by_cases c11:r4=(v3.Kids.length:Int)
  ·replace T:=T.1 c11
   replace F:=aa (eq_true c11)<|F
   by_cases c12:(l2.length:Int) < r4
   ·replace T:=T.1 c12
    obtain rfl:=T
    exact fi (aa (eq_true c12)<|F)
   replace T:=T.2 c12
   obtain⟨r7,q13,T⟩:=T
   simp only[R_Q49,lF] at q13
   replace F:=aa (eq_false c12)<|aa q13<|F
   by_cases c14:r7=true
   ·replace T:=T.1 c14
    replace F:=aa c14<|F
    exact lo F T
   replace T:=T.2 c14
   replace c14:=Bool.eq_false_iff.2 c14
   obtain rfl:=T
   exact fi (aa c14<|F)
  replace T:=T.2 c11
  obtain rfl:=T
  exact fi (aa (eq_false c11)<|F)
 replace T:=T.2 c1
 obtain rfl:=T
 exact fi (aa (eq_false c1)<|F)
theorem At_Q29_2_step (l_:List Node) (i1:Int) (l2:List Int) (v3:Node) (i6:Int) (r:Bool) (T :
  ((i6 < (v3.Kids.length:Int)) →
  (I64 ((l2.length:Int) - (v3.Kids.length:Int))) ∧
  (I64 (((l2.length:Int) - (v3.Kids.length:Int))+i6)) ∧
  (0≤(((l2.length:Int) - (v3.Kids.length:Int))+i6))∧((((l2.length:Int) - (v3.Kids.length:Int))+i6).toNat < l2.length) ∧
  ∃ (v9:Int),(l2[(((l2.length:Int) - (v3.Kids.length:Int))+i6).toNat]?=some v9) ∧
  (0≤i6) ∧
  ∃ (v10:Int),(v3.Kids[i6.toNat]?=some v10) ∧
  ((v9=v10) →
   (I64 (i6+1)) ∧
   At_Q29_2 l_ i1 l2 v3 (i6+1) r) ∧
  (¬ (v9=v10) →
   false=r)) ∧
 (¬ (i6 < (v3.Kids.length:Int)) →
  (I64 ((l2.length:Int) - (v3.Kids.length:Int))) ∧
  (I64 ((l2.length:Int) - (v3.Kids.length:Int))) ∧
  (0≤((l2.length:Int) - (v3.Kids.length:Int)))∧(((l2.length:Int) - (v3.Kids.length:Int)).toNat≤l2.length) ∧
  (bigRow (((l2.length:Int) - (v3.Kids.length:Int)).toNat+1) 8) ∧
  (I64 (i1+1)) ∧
  At_Q29_1b l_ (i1+1) ((l2.take (((l2.length:Int) - (v3.Kids.length:Int)).toNat))++[i1]) r)):At_Q29_2 l_ i1 l2 v3 i6 r:=by
 intro S e f h
 unfold k_Q29_2
 rw[E_loop]
 have F:=U_Q29
 replace F:=aa h<|F
 by_cases c1:i6 < (v3.Kids.length:Int)
 ·replace T:=T.1 c1
  obtain⟨p2,p3,p4,p5,v9,q6,p7,v10,q8,T⟩:=T
  replace F:=aa (eq_true c1)<|aa p2.wrap<|aa p3.wrap<|aa p4<|aa p5<|aa q6<|aa p7<|aa q8<|F
  by_cases c9:v9=v10
  ·replace T:=T.1 c9
   obtain⟨p10,T⟩:=T
   replace F:=aa (eq_true c9)<|aa p10.wrap<|F
   exact lo F T
  replace T:=T.2 c9
  obtain rfl:=T
  exact fi (aa (eq_false c9)<|F)
 replace T:=T.2 c1
 obtain⟨p11,p12,p13,p14,p15,p16,T⟩:=T
 simp only[bigRow] at p15
 replace F:=aa (eq_false c1)<|aa p11.wrap<|aa p12.wrap<|aa p13<|aa p14<|aa p15<|aa p16.wrap<|F
 exact lo F T
theorem At_Q29_2b_step (l_:List Node) (i1:Int) (l2:List Int) (v3:Node) (r4:Int) (i8:Int) (r:Bool) (T :
  ((i8 < r4) →
  (I64 ((l2.length:Int) - r4)) ∧
  (I64 (((l2.length:Int) - r4)+i8)) ∧
  (0≤(((l2.length:Int) - r4)+i8))∧((((l2.length:Int) - r4)+i8).toNat < l2.length) ∧
  ∃ (v13:Int),(l2[(((l2.length:Int) - r4)+i8).toNat]?=some v13) ∧
  (0≤i8) ∧
  ∃ (v14:Int),(v3.Kids[i8.toNat]?=some v14) ∧
  ((v13=v14) →
   (I64 (i8+1)) ∧
   At_Q29_2b l_ i1 l2 v3 r4 (i8+1) r) ∧
  (¬ (v13=v14) →
   false=r)) ∧
 (¬ (i8 < r4) →
  (I64 ((l2.length:Int) - r4)) ∧
  (I64 ((l2.length:Int) - r4)) ∧
  (0≤((l2.length:Int) - r4))∧(((l2.length:Int) - r4).toNat≤l2.length) ∧
  (bigRow (((l2.length:Int) - r4).toNat+1) 8) ∧
  (I64 (i1+1)) ∧
  At_Q29_1b l_ (i1+1) ((l2.take (((l2.length:Int) - r4).toNat))++[i1]) r)):At_Q29_2b l_ i1 l2 v3 r4 i8 r:=by
 intro S e f h
 unfold k_Q29_2
 rw[E_loop]
 have F:=U_Q29
 replace F:=aa h<|F
 by_cases c1:i8 < r4
 ·replace T:=T.1 c1
  obtain⟨p2,p3,p4,p5,v13,q6,p7,v14,q8,T⟩:=T
  replace F:=aa (eq_true c1)<|aa p2.wrap<|aa p3.wrap<|aa p4<|aa p5<|aa q6<|aa p7<|aa q8<|F
  by_cases c9:v13=v14
  ·replace T:=T.1 c9
   obtain⟨p10,T⟩:=T
   replace F:=aa (eq_true c9)<|aa p10.wrap<|F
   exact lo F T
  replace T:=T.2 c9
  obtain rfl:=T
  exact fi (aa (eq_false c9)<|F)
 replace T:=T.2 c1
 obtain⟨p11,p12,p13,p14,p15,p16,T⟩:=T
 simp only[bigRow] at p15
 replace F:=aa (eq_false c1)<|aa p11.wrap<|aa p12.wrap<|aa p13<|aa p14<|aa p15<|aa p16.wrap<|F
 exact lo F T
theorem At_Q29_1b_step (l_:List Node) (i11:Int) (l12:List Int) (r:Bool) (T :
  ((i11 < (l_.length:Int)) →
  (0≤i11) ∧
  ∃ (v15:Node),(l_[i11.toNat]?=some v15) ∧
  ∃ (r16:Int),(R_Q48 v15.Kind r16) ∧
  ((r16=(-1)) →
   (((v15.Kids.length:Int) < 0) →
    false=r) ∧
   (¬ ((v15.Kids.length:Int) < 0) →
    (((l12.length:Int) < (v15.Kids.length:Int)) →
     false=r) ∧
    (¬ ((l12.length:Int) < (v15.Kids.length:Int)) →
     ∃ (r17:Bool),(R_Q49 v15 r17) ∧
     ((r17=true) →
      At_Q29_2c l_ i11 l12 v15 0 r) ∧
     (¬ (r17=true) →
      false=r)))) ∧
  (¬ (r16=(-1)) →
   ((r16 < 0) →
    false=r) ∧
   (¬ (r16 < 0) →
    ((r16=(v15.Kids.length:Int)) →
     (((l12.length:Int) < r16) →
      false=r) ∧
     (¬ ((l12.length:Int) < r16) →
      ∃ (r19:Bool),(R_Q49 v15 r19) ∧
      ((r19=true) →
       At_Q29_2d l_ i11 l12 v15 r16 0 r) ∧
      (¬ (r19=true) →
       false=r))) ∧
    (¬ (r16=(v15.Kids.length:Int)) →
     false=r)))) ∧
 (¬ (i11 < (l_.length:Int)) →
  (decide ((l12.length:Int)=1))=r)):At_Q29_1b l_ i11 l12 r:=by
 intro S e f h
 unfold k_Q29_1
 rw[E_loop]
 have F:=U_Q29
 replace F:=aa h<|F
 by_cases c1:i11 < (l_.length:Int)
 ·replace T:=T.1 c1
  obtain⟨p2,v15,q3,r16,q4,T⟩:=T
  simp only[R_Q48,lF] at q4
  replace F:=aa (eq_true c1)<|aa p2<|aa q3<|aa q4<|F
  by_cases c5:r16=(-1)
  ·replace T:=T.1 c5
   replace F:=aa (eq_true c5)<|F
   by_cases c6:(v15.Kids.length:Int) < 0
   ·replace T:=T.1 c6
    obtain rfl:=T
    exact fi (aa (eq_true c6)<|F)
   replace T:=T.2 c6
   replace F:=aa (eq_false c6)<|F
   by_cases c7:(l12.length:Int) < (v15.Kids.length:Int)
   ·replace T:=T.1 c7
    obtain rfl:=T
    exact fi (aa (eq_true c7)<|F)
   replace T:=T.2 c7
   obtain⟨r17,q8,T⟩:=T
   simp only[R_Q49,lF] at q8
   replace F:=aa (eq_false c7)<|aa q8<|F
   by_cases c9:r17=true
   ·replace T:=T.1 c9
    replace F:=aa c9<|F
    exact lo F T
   replace T:=T.2 c9
   replace c9:=Bool.eq_false_iff.2 c9
   obtain rfl:=T
   exact fi (aa c9<|F)
  replace T:=T.2 c5
  replace F:=aa (eq_false c5)<|F
  by_cases c10:r16 < 0
  ·replace T:=T.1 c10
   obtain rfl:=T
   exact fi (aa (eq_true c10)<|F)
  replace T:=T.2 c10
  replace F:=aa (eq_false c10)<|F
  by_cases c11:r16=(v15.Kids.length:Int)
  ·replace T:=T.1 c11
   replace F:=aa (eq_true c11)<|F
   by_cases c12:(l12.length:Int) < r16
   ·replace T:=T.1 c12
    obtain rfl:=T
    exact fi (aa (eq_true c12)<|F)
   replace T:=T.2 c12
   obtain⟨r19,q13,T⟩:=T
   simp only[R_Q49,lF] at q13
   replace F:=aa (eq_false c12)<|aa q13<|F
   by_cases c14:r19=true
   ·replace T:=T.1 c14
    replace F:=aa c14<|F
    exact lo F T
   replace T:=T.2 c14
   replace c14:=Bool.eq_false_iff.2 c14
   obtain rfl:=T
   exact fi (aa c14<|F)
  replace T:=T.2 c11
  obtain rfl:=T
  exact fi (aa (eq_false c11)<|F)
 replace T:=T.2 c1
 obtain rfl:=T
 exact fi (aa (eq_false c1)<|F)
theorem At_Q29_2c_step (l_:List Node) (i11:Int) (l12:List Int) (v15:Node) (i18:Int) (r:Bool) (T :
  ((i18 < (v15.Kids.length:Int)) →
  (I64 ((l12.length:Int) - (v15.Kids.length:Int))) ∧
  (I64 (((l12.length:Int) - (v15.Kids.length:Int))+i18)) ∧
  (0≤(((l12.length:Int) - (v15.Kids.length:Int))+i18))∧((((l12.length:Int) - (v15.Kids.length:Int))+i18).toNat < l12.length) ∧
  ∃ (v21:Int),(l12[(((l12.length:Int) - (v15.Kids.length:Int))+i18).toNat]?=some v21) ∧
  (0≤i18) ∧
  ∃ (v22:Int),(v15.Kids[i18.toNat]?=some v22) ∧
  ((v21=v22) →
   (I64 (i18+1)) ∧
   At_Q29_2c l_ i11 l12 v15 (i18+1) r) ∧
  (¬ (v21=v22) →
   false=r)) ∧
 (¬ (i18 < (v15.Kids.length:Int)) →
  (I64 ((l12.length:Int) - (v15.Kids.length:Int))) ∧
  (I64 ((l12.length:Int) - (v15.Kids.length:Int))) ∧
  (0≤((l12.length:Int) - (v15.Kids.length:Int)))∧(((l12.length:Int) - (v15.Kids.length:Int)).toNat≤l12.length) ∧
  (bigRow (((l12.length:Int) - (v15.Kids.length:Int)).toNat+1) 8) ∧
  (I64 (i11+1)) ∧
  At_Q29_1b l_ (i11+1) ((l12.take (((l12.length:Int) - (v15.Kids.length:Int)).toNat))++[i11]) r)):At_Q29_2c l_ i11 l12 v15 i18 r:=by
 intro S e f h
 unfold k_Q29_2
 rw[E_loop]
 have F:=U_Q29
 replace F:=aa h<|F
 by_cases c1:i18 < (v15.Kids.length:Int)
 ·replace T:=T.1 c1
  obtain⟨p2,p3,p4,p5,v21,q6,p7,v22,q8,T⟩:=T
  replace F:=aa (eq_true c1)<|aa p2.wrap<|aa p3.wrap<|aa p4<|aa p5<|aa q6<|aa p7<|aa q8<|F
  by_cases c9:v21=v22
  ·replace T:=T.1 c9
   obtain⟨p10,T⟩:=T
   replace F:=aa (eq_true c9)<|aa p10.wrap<|F
   exact lo F T
  replace T:=T.2 c9
  obtain rfl:=T
  exact fi (aa (eq_false c9)<|F)
 replace T:=T.2 c1
 obtain⟨p11,p12,p13,p14,p15,p16,T⟩:=T
 simp only[bigRow] at p15
 replace F:=aa (eq_false c1)<|aa p11.wrap<|aa p12.wrap<|aa p13<|aa p14<|aa p15<|aa p16.wrap<|F
 exact lo F T
theorem At_Q29_2d_step (l_:List Node) (i11:Int) (l12:List Int) (v15:Node) (r16:Int) (i20:Int) (r:Bool) (T :
  ((i20 < r16) →
  (I64 ((l12.length:Int) - r16)) ∧
  (I64 (((l12.length:Int) - r16)+i20)) ∧
  (0≤(((l12.length:Int) - r16)+i20))∧((((l12.length:Int) - r16)+i20).toNat < l12.length) ∧
  ∃ (v23:Int),(l12[(((l12.length:Int) - r16)+i20).toNat]?=some v23) ∧
  (0≤i20) ∧
  ∃ (v24:Int),(v15.Kids[i20.toNat]?=some v24) ∧
  ((v23=v24) →
   (I64 (i20+1)) ∧
   At_Q29_2d l_ i11 l12 v15 r16 (i20+1) r) ∧
  (¬ (v23=v24) →
   false=r)) ∧
 (¬ (i20 < r16) →
  (I64 ((l12.length:Int) - r16)) ∧
  (I64 ((l12.length:Int) - r16)) ∧
  (0≤((l12.length:Int) - r16))∧(((l12.length:Int) - r16).toNat≤l12.length) ∧
  (bigRow (((l12.length:Int) - r16).toNat+1) 8) ∧
  (I64 (i11+1)) ∧
  At_Q29_1b l_ (i11+1) ((l12.take (((l12.length:Int) - r16).toNat))++[i11]) r)):At_Q29_2d l_ i11 l12 v15 r16 i20 r:=by
 intro S e f h
 unfold k_Q29_2
 rw[E_loop]
 have F:=U_Q29
 replace F:=aa h<|F
 by_cases c1:i20 < r16
 ·replace T:=T.1 c1
  obtain⟨p2,p3,p4,p5,v23,q6,p7,v24,q8,T⟩:=T
  replace F:=aa (eq_true c1)<|aa p2.wrap<|aa p3.wrap<|aa p4<|aa p5<|aa q6<|aa p7<|aa q8<|F
  by_cases c9:v23=v24
  ·replace T:=T.1 c9
   obtain⟨p10,T⟩:=T
   replace F:=aa (eq_true c9)<|aa p10.wrap<|F
   exact lo F T
  replace T:=T.2 c9
  obtain rfl:=T
  exact fi (aa (eq_false c9)<|F)
 replace T:=T.2 c1
 obtain⟨p11,p12,p13,p14,p15,p16,T⟩:=T
 simp only[bigRow] at p15
 replace F:=aa (eq_false c1)<|aa p11.wrap<|aa p12.wrap<|aa p13<|aa p14<|aa p15<|aa p16.wrap<|F
 exact lo F T
theorem Q29_tree (l_:List Node) (r:Bool) (T :
  At_Q29_1 l_ 0 [] r):R_Q29 l_ r:=by
 intro S
 rw[call_code sp_Q29 _ _ rfl]
 have F:=U_Q29
 exact lo F T
theorem sp_Q84:SP 84=some (.code sc_Q84):=SPof_code rfl Tryz.func84 comp_Q84
def At_Q84_1 (b:Block) (i1:Int) (r:Bool):Prop:=∀ (S:Sto) (e:Nat→PV) (f:Fr),e 2=.ptr 0 2 0∧e 5=.int .i64 i1∧f.box 2=some [.int .i64 b.Kind,.str b.Label,.list 2 (b.Attrs.map eAttr) false,.list 4 (b.Blocks.map eBlock) false]→k_Q84_1 SP (E SP (.loop b_Q84_1) ⟨e,f::S⟩)=.ok (.v (.bool r)) S
def At_Q84_2 (b:Block) (i1:Int) (i7:Int) (r:Bool):Prop:=∀ (S:Sto) (e:Nat→PV) (f:Fr),e 2=.ptr 0 2 0∧e 5=.int .i64 i1∧e 6=.int .i64 i7∧f.box 2=some [.int .i64 b.Kind,.str b.Label,.list 2 (b.Attrs.map eAttr) false,.list 4 (b.Blocks.map eBlock) false]→k_Q84_2 SP (E SP (.loop b_Q84_2) ⟨e,f::S⟩)=.ok (.v (.bool r)) S
theorem At_Q84_1_step (b:Block) (i1:Int) (r:Bool) (T :
  ((i1 < (b.Attrs.length:Int)) →
  (0≤i1) ∧
  ∃ (v4:Attr),(b.Attrs[i1.toNat]?=some v4) ∧
  ∃ (r5:Bool),(R_Q79 v4.Name r5) ∧
  ((r5=true) →
   ∃ (r6:Bool),(R_Q29 v4.Expr r6) ∧
   ((r6=true) →
    At_Q84_2 b i1 0 r) ∧
   (¬ (r6=true) →
    false=r)) ∧
  (¬ (r5=true) →
   false=r)) ∧
 (¬ (i1 < (b.Attrs.length:Int)) →
  (decide ((b.Blocks.length:Int)=0))=r)):At_Q84_1 b i1 r:=by
 intro S e f h
 unfold k_Q84_1
 rw[E_loop]
 have F:=U_Q84
 replace F:=aa h<|F
 by_cases c1:i1 < (b.Attrs.length:Int)
 ·replace T:=T.1 c1
  obtain⟨p2,v4,q3,r5,q4,T⟩:=T
  simp only[R_Q79,lF] at q4
  replace F:=aa (eq_true c1)<|aa p2<|aa q3<|aa q4<|F
  by_cases c5:r5=true
  ·replace T:=T.1 c5
   obtain⟨r6,q6,T⟩:=T
   simp only[R_Q29,lF] at q6
   replace F:=aa c5<|aa q6<|F
   by_cases c7:r6=true
   ·replace T:=T.1 c7
    replace F:=aa c7<|F
    exact lo F T
   replace T:=T.2 c7
   replace c7:=Bool.eq_false_iff.2 c7
   obtain rfl:=T
   exact fi (aa c7<|F)
  replace T:=T.2 c5
  replace c5:=Bool.eq_false_iff.2 c5
  obtain rfl:=T
  exact fi (aa c5<|F)
 replace T:=T.2 c1
 obtain rfl:=T
 exact fi (aa (eq_false c1)<|F)
theorem At_Q84_2_step (b:Block) (i1:Int) (i7:Int) (r:Bool) (T :
  ((i7 < i1) →
  (0≤i7) ∧
  ∃ (v8:Attr),(b.Attrs[i7.toNat]?=some v8) ∧
  (0≤i1) ∧
  ∃ (v9:Attr),(b.Attrs[i1.toNat]?=some v9) ∧
  ((v8.Name=v9.Name) →
   false=r) ∧
  (¬ (v8.Name=v9.Name) →
   (I64 (i7+1)) ∧
   At_Q84_2 b i1 (i7+1) r)) ∧
 (¬ (i7 < i1) →
  (I64 (i1+1)) ∧
  At_Q84_1 b (i1+1) r)):At_Q84_2 b i1 i7 r:=by
 intro S e f h
 unfold k_Q84_2
 rw[E_loop]
 have F:=U_Q84
 replace F:=aa h<|F
 by_cases c1:i7 < i1
 ·replace T:=T.1 c1
  obtain⟨p2,v8,q3,p4,v9,q5,T⟩:=T
  replace F:=aa (eq_true c1)<|aa p2<|aa q3<|aa p4<|aa q5<|F
  by_cases c6:v8.Name=v9.Name
  ·replace T:=T.1 c6
   obtain rfl:=T
   exact fi (aa (eq_true c6)<|F)
  replace T:=T.2 c6
  obtain⟨p7,T⟩:=T
  replace F:=aa (eq_false c6)<|aa p7.wrap<|F
  exact lo F T
 replace T:=T.2 c1
 obtain⟨p8,T⟩:=T
 replace F:=aa (eq_false c1)<|aa p8.wrap<|F
 exact lo F T
theorem Q84_tree (b:Block) (within:Bool) (r:Bool) (T :
  ((b.Kind < 1) →
  false=r) ∧
 (¬ (b.Kind < 1) →
  ((5 < b.Kind) →
   false=r) ∧
  (¬ (5 < b.Kind) →
   ((b.Kind=2) →
    ((b.Label=[]) →
     At_Q84_1 b 0 r) ∧
    (¬ (b.Label=[]) →
     false=r)) ∧
   (¬ (b.Kind=2) →
    ∃ (r2:Bool),(R_Q122 b.Label r2) ∧
    ((r2=true) →
     ((b.Kind=5) →
      ((within=true) →
       false=r) ∧
      (¬ (within=true) →
       (((b.Attrs.length:Int)=0) →
        ∃ (r3:Bool),(R_Q53 b.Blocks true r3) ∧
        r3=r) ∧
       (¬ ((b.Attrs.length:Int)=0) →
        false=r))) ∧
     (¬ (b.Kind=5) →
      At_Q84_1 b 0 r)) ∧
    (¬ (r2=true) →
     false=r))))):R_Q84 b within r:=by
 intro S
 rw[call_code sp_Q84 _ _ rfl]
 have F:=U_Q84
 by_cases c1:b.Kind < 1
 ·replace T:=T.1 c1
  obtain rfl:=T
  exact fi (aa (eq_true c1)<|F)
 replace T:=T.2 c1
 replace F:=aa (eq_false c1)<|F
 by_cases c2:5 < b.Kind
 ·replace T:=T.1 c2
  obtain rfl:=T
  exact fi (aa (eq_true c2)<|F)
 replace T:=T.2 c2
 replace F:=aa (eq_false c2)<|F
 by_cases c3:b.Kind=2
 ·replace T:=T.1 c3
  replace F:=aa (eq_true c3)<|F
  by_cases c4:b.Label=[]
  ·replace T:=T.1 c4
   have d5:¬ (b.Kind=5):=fun h=>absurd (c3.symm.trans h) (by decide)
   replace F:=aa (eq_true c4)<|aa (eq_false d5)<|F
   exact lo F T
  replace T:=T.2 c4
  obtain rfl:=T
  exact fi (aa (eq_false c4)<|F)
 replace T:=T.2 c3
 obtain⟨r2,q6,T⟩:=T
 simp only[R_Q122,lF] at q6
 replace F:=aa (eq_false c3)<|aa q6<|F
 by_cases c7:r2=true
 ·replace T:=T.1 c7
  replace F:=aa c7<|F
  by_cases c8:b.Kind=5
  ·replace T:=T.1 c8
   replace F:=aa (eq_true c8)<|F
   by_cases c9:within=true
   ·replace T:=T.1 c9
    obtain rfl:=T
    exact fi (aa c9<|F)
   replace T:=T.2 c9
   replace c9:=Bool.eq_false_iff.2 c9
   replace F:=aa c9<|F
   by_cases c10:(b.Attrs.length:Int)=0
   ·replace T:=T.1 c10
    obtain⟨r3,q11,rfl⟩:=T
    simp only[R_Q53,lF] at q11
    exact fi (aa (eq_true c10)<|aa q11<|F)
   replace T:=T.2 c10
   obtain rfl:=T
   exact fi (aa (eq_false c10)<|F)
  replace T:=T.2 c8
  replace F:=aa (eq_false c8)<|F
  exact lo F T
 replace T:=T.2 c7
 replace c7:=Bool.eq_false_iff.2 c7
 obtain rfl:=T
 exact fi (aa c7<|F)
theorem sp_Q53:SP 53=some (.code sc_Q53):=SPof_code rfl Tryz.func53 comp_Q53
def At_Q53_1 (l_:List Block) (within:Bool) (i1:Int) (r:Bool):Prop:=∀ (S:Sto) (e:Nat→PV) (f:Fr),e 0=.list 4 (l_.map eBlock) false∧e 1=.bool within∧e 5=.int .i64 i1→k_Q53_1 SP (E SP (.loop b_Q53_1) ⟨e,f::S⟩)=.ok (.v (.bool r)) S
theorem At_Q53_1_step (l_:List Block) (within:Bool) (i1:Int) (r:Bool) (T :
  ((i1 < (l_.length:Int)) →
  (0≤i1) ∧
  ∃ (v2:Block),(l_[i1.toNat]?=some v2) ∧
  ∃ (r3:Bool),(R_Q84 v2 within r3) ∧
  ((r3=true) →
   (I64 (i1+1)) ∧
   At_Q53_1 l_ within (i1+1) r) ∧
  (¬ (r3=true) →
   false=r)) ∧
 (¬ (i1 < (l_.length:Int)) →
  true=r)):At_Q53_1 l_ within i1 r:=by
 intro S e f h
 unfold k_Q53_1
 rw[E_loop]
 have F:=U_Q53
 replace F:=aa h<|F
 by_cases c1:i1 < (l_.length:Int)
 ·replace T:=T.1 c1
  obtain⟨p2,v2,q3,r3,q4,T⟩:=T
  simp only[R_Q84,lF] at q4
  replace F:=aa (eq_true c1)<|aa p2<|aa q3<|aa q4<|F
  by_cases c5:r3=true
  ·replace T:=T.1 c5
   obtain⟨p6,T⟩:=T
   replace F:=aa c5<|aa p6.wrap<|F
   exact lo F T
  replace T:=T.2 c5
  replace c5:=Bool.eq_false_iff.2 c5
  obtain rfl:=T
  exact fi (aa c5<|F)
 replace T:=T.2 c1
 obtain rfl:=T
 exact fi (aa (eq_false c1)<|F)
theorem Q53_tree (l_:List Block) (within:Bool) (r:Bool) (T :
  At_Q53_1 l_ within 0 r):R_Q53 l_ within r:=by
 intro S
 rw[call_code sp_Q53 _ _ rfl]
 have F:=U_Q53
 exact lo F T
theorem sp_Q31:SP 31=some (.code sc_Q31):=SPof_code rfl Tryz.func31 comp_Q31
theorem Q31_tree (l_:List Block) (r:Bool) (T :
  ∃ (r1:Bool),(R_Q53 l_ false r1) ∧
 r1=r):R_Q31 l_ r:=by
 intro S
 rw[call_code sp_Q31 _ _ rfl]
 have F:=U_Q31
 obtain⟨r1,q1,rfl⟩:=T
 simp only[R_Q53,lF] at q1
 exact fi (aa q1<|F)
theorem sp_Q27:SP 27=some (.code sc_Q27):=SPof_code rfl Tryz.func27 comp_Q27
def At_Q27_1 (l_:List Node) (i1:Int) (r:Bool):Prop:=∀ (S:Sto) (e:Nat→PV) (f:Fr),e 0=.list 5 (l_.map eNode) false∧e 3=.int .i64 i1→k_Q27_1 SP (E SP (.loop b_Q27_1) ⟨e,f::S⟩)=.ok (.v (.bool r)) S
def At_Q27_2 (l_:List Node) (i1:Int) (i3:Int) (r:Bool):Prop:=∀ (S:Sto) (e:Nat→PV) (f:Fr),e 0=.list 5 (l_.map eNode) false∧e 3=.int .i64 i1∧e 4=.int .i64 i3→k_Q27_2 SP (E SP (.loop b_Q27_2) ⟨e,f::S⟩)=.ok (.v (.bool r)) S
theorem At_Q27_1_step (l_:List Node) (i1:Int) (r:Bool) (T :
  ((i1 < (l_.length:Int)) →
  ((i1 < 100) →
   (0≤i1) ∧
   ∃ (v2:Node),(l_[i1.toNat]?=some v2) ∧
   ((100 < (v2.Kids.length:Int)) →
    true=r) ∧
   (¬ (100 < (v2.Kids.length:Int)) →
    ((300 < (v2.Text.length:Int)) →
     true=r) ∧
    (¬ (300 < (v2.Text.length:Int)) →
     ((60 < (v2.Parts.length:Int)) →
      true=r) ∧
     (¬ (60 < (v2.Parts.length:Int)) →
      At_Q27_2 l_ i1 0 r)))) ∧
  (¬ (i1 < 100) →
   (decide (80 < (l_.length:Int)))=r)) ∧
 (¬ (i1 < (l_.length:Int)) →
  (decide (80 < (l_.length:Int)))=r)):At_Q27_1 l_ i1 r:=by
 intro S e f h
 unfold k_Q27_1
 rw[E_loop]
 have F:=U_Q27
 replace F:=aa h<|F
 by_cases c1:i1 < (l_.length:Int)
 ·replace T:=T.1 c1
  replace F:=aa (eq_true c1)<|F
  by_cases c2:i1 < 100
  ·replace T:=T.1 c2
   obtain⟨p3,v2,q4,T⟩:=T
   replace F:=aa (eq_true c2)<|aa p3<|aa q4<|F
   by_cases c5:100 < (v2.Kids.length:Int)
   ·replace T:=T.1 c5
    obtain rfl:=T
    exact fi (aa (eq_true c5)<|F)
   replace T:=T.2 c5
   replace F:=aa (eq_false c5)<|F
   by_cases c6:300 < (v2.Text.length:Int)
   ·replace T:=T.1 c6
    obtain rfl:=T
    exact fi (aa (eq_true c6)<|F)
   replace T:=T.2 c6
   replace F:=aa (eq_false c6)<|F
   by_cases c7:60 < (v2.Parts.length:Int)
   ·replace T:=T.1 c7
    obtain rfl:=T
    exact fi (aa (eq_true c7)<|F)
   replace T:=T.2 c7
   replace F:=aa (eq_false c7)<|F
   exact lo F T
  replace T:=T.2 c2
  obtain rfl:=T
  exact fi (aa (eq_false c2)<|F)
 replace T:=T.2 c1
 obtain rfl:=T
 exact fi (aa (eq_false c1)<|F)
theorem At_Q27_2_step (l_:List Node) (i1:Int) (i3:Int) (r:Bool) (T :
  (0≤i1) ∧
 ∃ (v4:Node),(l_[i1.toNat]?=some v4) ∧
 ((i3 < (v4.Parts.length:Int)) →
  (0≤i3) ∧
  ∃ (v5:Part),(v4.Parts[i3.toNat]?=some v5) ∧
  ((300 < (v5.Text.length:Int)) →
   true=r) ∧
  (¬ (300 < (v5.Text.length:Int)) →
   (I64 (i3+1)) ∧
   At_Q27_2 l_ i1 (i3+1) r)) ∧
 (¬ (i3 < (v4.Parts.length:Int)) →
  (I64 (i1+1)) ∧
  At_Q27_1 l_ (i1+1) r)):At_Q27_2 l_ i1 i3 r:=by
 intro S e f h
 unfold k_Q27_2
 rw[E_loop]
 have F:=U_Q27
 obtain⟨p1,v4,q2,T⟩:=T
 replace F:=aa h<|aa p1<|aa q2<|F
 by_cases c3:i3 < (v4.Parts.length:Int)
 ·replace T:=T.1 c3
  obtain⟨p4,v5,q5,T⟩:=T
  replace F:=aa (eq_true c3)<|aa p4<|aa q5<|F
  by_cases c6:300 < (v5.Text.length:Int)
  ·replace T:=T.1 c6
   obtain rfl:=T
   exact fi (aa (eq_true c6)<|F)
  replace T:=T.2 c6
  obtain⟨p7,T⟩:=T
  replace F:=aa (eq_false c6)<|aa p7.wrap<|F
  exact lo F T
 replace T:=T.2 c3
 obtain⟨p8,T⟩:=T
 replace F:=aa (eq_false c3)<|aa p8.wrap<|F
 exact lo F T
theorem Q27_tree (l_:List Node) (r:Bool) (T :
  At_Q27_1 l_ 0 r):R_Q27 l_ r:=by
 intro S
 rw[call_code sp_Q27 _ _ rfl]
 have F:=U_Q27
 exact lo F T
theorem sp_Q28:SP 28=some (.code sc_Q28):=SPof_code rfl Tryz.func28 comp_Q28
def At_Q28_1 (l_:List Block) (deep_:Int) (i1:Int) (r:Bool):Prop:=∀ (S:Sto) (e:Nat→PV) (f:Fr),e 0=.list 4 (l_.map eBlock) false∧e 1=.int .i64 deep_∧e 5=.int .i64 i1→k_Q28_1 SP (E SP (.loop b_Q28_1) ⟨e,f::S⟩)=.ok (.v (.bool r)) S
def At_Q28_2 (l_:List Block) (deep_:Int) (i1:Int) (i4:Int) (r:Bool):Prop:=∀ (S:Sto) (e:Nat→PV) (f:Fr),e 0=.list 4 (l_.map eBlock) false∧e 1=.int .i64 deep_∧e 5=.int .i64 i1∧e 6=.int .i64 i4→k_Q28_2 SP (E SP (.loop b_Q28_2) ⟨e,f::S⟩)=.ok (.v (.bool r)) S
theorem At_Q28_1_step (l_:List Block) (deep_:Int) (i1:Int) (r:Bool) (T :
  ((i1 < (l_.length:Int)) →
  (0≤i1) ∧
  ∃ (v2:Block),(l_[i1.toNat]?=some v2) ∧
  ((100 < (v2.Label.length:Int)) →
   true=r) ∧
  (¬ (100 < (v2.Label.length:Int)) →
   ((30 < (v2.Attrs.length:Int)) →
    true=r) ∧
   (¬ (30 < (v2.Attrs.length:Int)) →
    (I64 (deep_+1)) ∧
    ∃ (r3:Bool),(R_Q28 v2.Blocks (deep_+1) r3) ∧
    ((r3=true) →
     true=r) ∧
    (¬ (r3=true) →
     At_Q28_2 l_ deep_ i1 0 r)))) ∧
 (¬ (i1 < (l_.length:Int)) →
  false=r)):At_Q28_1 l_ deep_ i1 r:=by
 intro S e f h
 unfold k_Q28_1
 rw[E_loop]
 have F:=U_Q28
 replace F:=aa h<|F
 by_cases c1:i1 < (l_.length:Int)
 ·replace T:=T.1 c1
  obtain⟨p2,v2,q3,T⟩:=T
  replace F:=aa (eq_true c1)<|aa p2<|aa q3<|F
  by_cases c4:100 < (v2.Label.length:Int)
  ·replace T:=T.1 c4
   obtain rfl:=T
   exact fi (aa (eq_true c4)<|F)
  replace T:=T.2 c4
  replace F:=aa (eq_false c4)<|F
  by_cases c5:30 < (v2.Attrs.length:Int)
  ·replace T:=T.1 c5
   obtain rfl:=T
   exact fi (aa (eq_true c5)<|F)
  replace T:=T.2 c5
  obtain⟨p6,r3,q7,T⟩:=T
  simp only[R_Q28,lF] at q7
  replace F:=aa (eq_false c5)<|aa p6.wrap<|aa q7<|F
  by_cases c8:r3=true
  ·replace T:=T.1 c8
   obtain rfl:=T
   exact fi (aa c8<|F)
  replace T:=T.2 c8
  replace c8:=Bool.eq_false_iff.2 c8
  replace F:=aa c8<|F
  exact lo F T
 replace T:=T.2 c1
 obtain rfl:=T
 exact fi (aa (eq_false c1)<|F)
theorem At_Q28_2_step (l_:List Block) (deep_:Int) (i1:Int) (i4:Int) (r:Bool) (T :
  (0≤i1) ∧
 ∃ (v5:Block),(l_[i1.toNat]?=some v5) ∧
 ((i4 < (v5.Attrs.length:Int)) →
  (0≤i4) ∧
  ∃ (v6:Attr),(v5.Attrs[i4.toNat]?=some v6) ∧
  ((100 < (v6.Name.length:Int)) →
   true=r) ∧
  (¬ (100 < (v6.Name.length:Int)) →
   ∃ (r7:Bool),(R_Q27 v6.Expr r7) ∧
   ((r7=true) →
    true=r) ∧
   (¬ (r7=true) →
    (I64 (i4+1)) ∧
    At_Q28_2 l_ deep_ i1 (i4+1) r))) ∧
 (¬ (i4 < (v5.Attrs.length:Int)) →
  (I64 (i1+1)) ∧
  At_Q28_1 l_ deep_ (i1+1) r)):At_Q28_2 l_ deep_ i1 i4 r:=by
 intro S e f h
 unfold k_Q28_2
 rw[E_loop]
 have F:=U_Q28
 obtain⟨p1,v5,q2,T⟩:=T
 replace F:=aa h<|aa p1<|aa q2<|F
 by_cases c3:i4 < (v5.Attrs.length:Int)
 ·replace T:=T.1 c3
  obtain⟨p4,v6,q5,T⟩:=T
  replace F:=aa (eq_true c3)<|aa p4<|aa q5<|F
  by_cases c6:100 < (v6.Name.length:Int)
  ·replace T:=T.1 c6
   obtain rfl:=T
   exact fi (aa (eq_true c6)<|F)
  replace T:=T.2 c6
  obtain⟨r7,q7,T⟩:=T
  simp only[R_Q27,lF] at q7
  replace F:=aa (eq_false c6)<|aa q7<|F
  by_cases c8:r7=true
  ·replace T:=T.1 c8
   obtain rfl:=T
   exact fi (aa c8<|F)
  replace T:=T.2 c8
  replace c8:=Bool.eq_false_iff.2 c8
  obtain⟨p9,T⟩:=T
  replace F:=aa c8<|aa p9.wrap<|F
  exact lo F T
 replace T:=T.2 c3
 obtain⟨p10,T⟩:=T
 replace F:=aa (eq_false c3)<|aa p10.wrap<|F
 exact lo F T
theorem Q28_tree (l_:List Block) (deep_:Int) (r:Bool) (T :
  ((20 < (l_.length:Int)) →
  true=r) ∧
 (¬ (20 < (l_.length:Int)) →
  ((6 < deep_) →
   true=r) ∧
  (¬ (6 < deep_) →
   At_Q28_1 l_ deep_ 0 r))):R_Q28 l_ deep_ r:=by
 intro S
 rw[call_code sp_Q28 _ _ rfl]
 have F:=U_Q28
 by_cases c1:20 < (l_.length:Int)
 ·replace T:=T.1 c1
  obtain rfl:=T
  exact fi (aa (eq_true c1)<|F)
 replace T:=T.2 c1
 replace F:=aa (eq_false c1)<|F
 by_cases c2:6 < deep_
 ·replace T:=T.1 c2
  obtain rfl:=T
  exact fi (aa (eq_true c2)<|F)
 replace T:=T.2 c2
 replace F:=aa (eq_false c2)<|F
 exact lo F T
inductive PR (α:Type) where
 | ok (a:α) (ts:List Token) (out:List Node)
 | er (e:Int)
 | no
def PR.bind {α β:Type}:PR α→(α→List Token→List Node→PR β)→PR β
 | .ok a ts out,f=>f a ts out
 | .er e,_=>.er e
 | .no,_=>.no
def isS (s:List UInt8):List Token→Bool
 | t::_=>decide (t.Kind=4) && decide (t.Text=s)
 | []=>false
def needS {α:Type} (s:List UInt8) (ts:List Token) (k:List Token→PR α):PR α:=if isS s ts=true then k ts.tail else .er 5
def openS {α:Type} (s:List UInt8) (d:Nat) (ts:List Token) (k:List Token→PR α):PR α:=if isS s ts=true then (if 64≤d then .er 6 else k ts.tail) else .er 5
def nd (kind:Int) (text:List UInt8) (kids:List Int):Node:=⟨kind,0,text,[],kids⟩
def idxS (s:List UInt8):List (List UInt8)→Nat→Option Nat
 | [],_=>none
 | v::l,i=>if s=v then some i else idxS s l (i+1)
def signsS:Nat→List (List UInt8)
 | 0=>[[124,124]]
 | 1=>[[38,38]]
 | 2=>[[61,61],[33,61],[60],[60,61],[62],[62,61]]
 | 3=>[[43],[45]]
 | _=>[[42],[47],[37]]
def firstS:Nat→Int
 | 0=>11
 | 1=>12
 | 2=>13
 | 3=>19
 | _=>21
def opS (rank:Nat) (s:List UInt8):Option Int:=(idxS s (signsS rank) 0).map fun (i:Nat)=>firstS rank+(i:Int)
mutual
def exprS:Nat→Nat→List Token→List Node→PR Int
 | 0,_,_,_=>.no
 | n+1,d,ts,out=>(chainS n 0 d ts out).bind fun a ts out =>
  if isS [63] ts=true then openS [63] d ts fun ts=>(exprS n (d+1) ts out).bind fun b ts out=>needS [58] ts fun ts=>(exprS n (d+1) ts out).bind fun c ts out=>.ok (out.length:Nat) ts (out++[nd 10 [] [a,b,c]])
  else .ok a ts out
def chainS:Nat→Nat→Nat→List Token→List Node→PR Int
 | 0,_,_,_,_=>.no
 | n+1,rank,d,ts,out=>if rank=5 then unS n d ts out else (chainS n (rank+1) d ts out).bind fun a ts out=>loopS n rank d a ts out
def loopS:Nat→Nat→Nat→Int→List Token→List Node→PR Int
 | 0,_,_,_,_,_=>.no
 | _+1,_,_,_,[],_=>.no
 | n+1,rank,d,a,t::ts,out =>
  if t.Kind=4 then
   match opS rank t.Text with
   | none=>.ok a (t::ts) out
   | some kind=>(chainS n (rank+1) d ts out).bind fun b ts out=>if rank=2 then .ok (out.length:Nat) ts (out++[nd kind [] [a,b]]) else loopS n rank d (out.length:Nat) ts (out++[nd kind [] [a,b]])
  else .ok a (t::ts) out
def unS:Nat→Nat→List Token→List Node→PR Int
 | 0,_,_,_=>.no
 | n+1,d,ts,out =>
  if isS [45] ts=true then openS [45] d ts fun ts=>(unS n (d+1) ts out).bind fun a ts out=>.ok (out.length:Nat) ts (out++[nd 9 [] [a]])
  else if isS [33] ts=true then openS [33] d ts fun ts=>(unS n (d+1) ts out).bind fun a ts out=>.ok (out.length:Nat) ts (out++[nd 8 [] [a]])
  else postS n d ts out
def postS:Nat→Nat→List Token→List Node→PR Int
 | 0,_,_,_=>.no
 | n+1,d,ts,out=>(primS n d ts out).bind fun a ts out=>postL n d a ts out
def postL:Nat→Nat→Int→List Token→List Node→PR Int
 | 0,_,_,_,_=>.no
 | n+1,d,a,ts,out =>
  if isS [91] ts=true then openS [91] d ts fun ts=>(exprS n (d+1) ts out).bind fun b ts out=>needS [93] ts fun ts=>postL n d (out.length:Nat) ts (out++[nd 7 [] [a,b]])
  else .ok a ts out
def manyS:Nat→Nat→List UInt8→List Token→List Node→PR (List Int)
 | 0,_,_,_,_=>.no
 | n+1,d,e,ts,out=>if isS e ts=true then .ok [] ts.tail out else (exprS n d ts out).bind fun a ts out=>manyL n d e [a] ts out
def manyL:Nat→Nat→List UInt8→List Int→List Token→List Node→PR (List Int)
 | 0,_,_,_,_,_=>.no
 | n+1,d,e,l,ts,out=>if isS [44] ts=true then (exprS n d ts.tail out).bind fun a ts out=>manyL n d e (l++[a]) ts out else needS e ts fun ts=>.ok l ts out
def primS:Nat→Nat→List Token→List Node→PR Int
 | 0,_,_,_=>.no
 | _+1,_,[],_=>.no
 | n+1,d,t::ts,out =>
  if t.Kind=3 then
   if t.Text=[116,114,117,101] then .ok (out.length:Nat) ts (out++[⟨3,1,[],[],[]⟩])
   else if t.Text=[102,97,108,115,101] then .ok (out.length:Nat) ts (out++[⟨3,0,[],[],[]⟩])
   else if isS [46] ts=true then
    match ts.tail with
    | []=>.no
    | u::ts=>if u.Kind=3 then .ok (out.length:Nat) ts (out++[nd 4 ((t.Text++[46])++u.Text) []]) else .er 5
   else openS [40] d ts fun ts=>(manyS n (d+1) [41] ts out).bind fun l ts out=>.ok (out.length:Nat) ts (out++[nd 5 t.Text l])
  else if t.Kind=1 then .ok (out.length:Nat) ts (out++[⟨1,t.Num,[],[],[]⟩])
  else if t.Kind=2 then .ok (out.length:Nat) ts (out++[⟨2,0,[],t.Parts,[]⟩])
  else if isS [91] (t::ts)=true then openS [91] d (t::ts) fun ts=>(manyS n (d+1) [93] ts out).bind fun l ts out=>.ok (out.length:Nat) ts (out++[nd 6 [] l])
  else openS [40] d (t::ts) fun ts=>(exprS n (d+1) ts out).bind fun a ts out=>needS [41] ts fun ts=>.ok a ts out
end
def W:List Token→Prop
 | []=>False
 | [e]=>e.Kind=0
 | t::u::ts=>t.Kind≠0∧W (u::ts)
theorem W.tail {t:Token} {ts:List Token} (h:W (t::ts)) (hk:t.Kind≠0):W ts:=by
 cases ts with
 | nil=>exact absurd h hk
 | cons u ts=>exact h.2
theorem W.ne {ts:List Token} (h:W ts):ts≠[]:=fun e=>by subst e;exact h
def pt (L ts:List Token):PTokens:=⟨L,((L.length - ts.length:Nat):Int)⟩
theorem suf_tail {L ts:List Token} {t:Token} (h:(t::ts) <:+ L):ts <:+ L:=(List.suffix_cons t ts).trans h
theorem suf_len {L ts:List Token} (h:ts <:+ L):ts.length≤L.length:=h.length_le
theorem suf_get {L ts:List Token} {t:Token} (h:(t::ts) <:+ L):L[(pt L (t::ts)).pos.toNat]?=some t:=by
 obtain⟨p,rfl⟩:=h
 simp[pt]
theorem pt_next {L ts:List Token} {t:Token} (h:(t::ts) <:+ L):(PTokens.mk (pt L (t::ts)).l ((pt L (t::ts)).pos+1))=pt L ts:=by
 have:=suf_len h
 simp only[pt,List.length_cons] at this ⊢
 congr 1
 omega
theorem r_now {L ts:List Token} {t:Token} (h:(t::ts) <:+ L):R_Q38 (pt L (t::ts)) t (pt L (t::ts)):=Q38_tree _ _ _ ⟨by simp[pt],t,suf_get h,rfl,rfl⟩
theorem r_fail (t:PTokens) (e:Int):R_Q42 t e (some e) t:=Q42_tree _ _ _ _ ⟨rfl,rfl⟩
theorem r_is {L ts:List Token} (h:ts <:+ L) (hne:ts≠[]) (s:List UInt8):R_Q102 (pt L ts) s (isS s ts) (pt L ts):=by
 cases ts with
 | nil=>exact absurd rfl hne
 | cons t ts =>
  refine Q102_tree _ _ _ _ ⟨t,_,r_now h,fun hk=>⟨t,_,r_now h,?_,rfl⟩,fun hk=>⟨?_,rfl⟩⟩
  ·simp[isS,hk]
  simp[isS,hk]
theorem isS_kind {s:List UInt8} {t:Token} {ts:List Token} (h:isS s (t::ts)=true):t.Kind≠0:=by
 simp only[isS,Bool.and_eq_true,decide_eq_true_eq] at h
 rw[h.1]
 decide
theorem W.shift {s:List UInt8} {ts:List Token} (h:W ts) (hi:isS s ts=true):W ts.tail:=by
 cases ts with
 | nil=>exact h.elim
 | cons t ts=>exact h.tail (isS_kind hi)
theorem suf_shift {L ts:List Token} (h:ts <:+ L):ts.tail <:+ L:=by
 cases ts with
 | nil=>exact h
 | cons t ts=>exact suf_tail h
theorem len_shift {s:List UInt8} {ts:List Token} (hi:isS s ts=true):ts.tail.length+1=ts.length:=by
 cases ts with
 | nil=>cases hi
 | cons t ts=>rfl
theorem r_may1 {L ts:List Token} (h:ts <:+ L) (hL:L.length≤1000000) {s:List UInt8} (hi:isS s ts=true):R_Q67 (pt L ts) s true (pt L ts.tail):=by
 cases ts with
 | nil=>cases hi
 | cons t ts =>
  refine Q67_tree _ _ _ _ ⟨true,_,by have:=r_is h (by simp) s;rw[hi] at this;exact this,fun _=>⟨?_,rfl,pt_next h⟩,fun hf=>absurd rfl hf⟩
  have:=suf_len h
  simp only[pt,I64]
  omega
theorem r_may0 {L ts:List Token} (h:ts <:+ L) (hne:ts≠[]) {s:List UInt8} (hi:isS s ts=false):R_Q67 (pt L ts) s false (pt L ts) :=
 Q67_tree _ _ _ _ ⟨false,_,by have:=r_is h hne s;rw[hi] at this;exact this,fun hf=>(by cases hf),fun _=>⟨rfl,rfl⟩⟩
theorem r_need1 {L ts:List Token} (h:ts <:+ L) (hL:L.length≤1000000) {s:List UInt8} (hi:isS s ts=true):R_Q66 (pt L ts) s none (pt L ts.tail) :=
 Q66_tree _ _ _ _ ⟨true,_,r_may1 h hL hi,fun _=>⟨rfl,rfl⟩,fun hf=>absurd rfl hf⟩
theorem r_need0 {L ts:List Token} (h:ts <:+ L) (hne:ts≠[]) {s:List UInt8} (hi:isS s ts=false):R_Q66 (pt L ts) s (some 5) (pt L ts) :=
 Q66_tree _ _ _ _ ⟨false,_,r_may0 h hne hi,fun hf=>(by cases hf),fun _=>⟨_,_,r_fail _ _,rfl,rfl⟩⟩
theorem r_name1 {L ts:List Token} {t:Token} (h:(t::ts) <:+ L) (hL:L.length≤1000000) (hk:t.Kind=3):R_Q101 (pt L (t::ts)) none t.Text (pt L ts):=by
 refine Q101_tree _ _ _ _ ⟨t,_,r_now h,fun _=>⟨?_,rfl,rfl,pt_next h⟩,fun hf=>absurd hk hf⟩
 have:=suf_len h
 simp only[pt,I64]
 omega
theorem r_name0 {L ts:List Token} {t:Token} (h:(t::ts) <:+ L) (hk:¬ t.Kind=3) (r:List UInt8):R_Q101 (pt L (t::ts)) (some 5) r (pt L (t::ts)) :=
 Q101_tree _ _ _ _ ⟨t,_,r_now h,fun hf=>absurd hf hk,fun _=>⟨_,_,r_fail _ _,rfl,rfl⟩⟩
def pe (L ts:List Token) (out:List Node) (d:Nat):PExprs:=⟨pt L ts,out,(d:Int)⟩
theorem r_open1 {L ts:List Token} (h:ts <:+ L) (hL:L.length≤1000000) {s:List UInt8} (hi:isS s ts=true) {d:Nat} (hd:¬ 64≤d) (out:List Node) (g:Nat) (z:Bool):R_Q104 (pe L ts out d) g z s none (pe L ts.tail out (d+1)) g z:=by
 cases ts with
 | nil=>cases hi
 | cons t ts =>
  refine Q104_tree _ _ _ _ _ _ _ _ ⟨true,_,by have:=r_is h (by simp) s;rw[hi] at this;exact this,fun _=>⟨fun hf=>?_,fun _=>⟨none,_,r_need1 h hL hi,?_,rfl,?_,rfl,rfl⟩⟩,fun hf=>absurd rfl hf⟩
  ·simp only[pe] at hf;omega
  ·simp only[pe,I64];omega
  simp[pe]
theorem r_open6 {L ts:List Token} (h:ts <:+ L) (hne:ts≠[]) {s:List UInt8} (hi:isS s ts=true) {d:Nat} (hd:64≤d) (out:List Node) (g:Nat) (z:Bool):∃ x' g' z',R_Q104 (pe L ts out d) g z s (some 6) x' g' z' :=
 ⟨_,_,_,Q104_tree _ _ _ _ _ _ _ _ ⟨true,_,by have:=r_is h hne s;rw[hi] at this;exact this,fun _=>⟨fun _=>⟨_,_,r_fail _ _,rfl,rfl,rfl,rfl⟩,fun hf=>absurd (by simp only[pe];omega) hf⟩,fun hf=>absurd rfl hf⟩⟩
theorem r_open5 {L ts:List Token} (h:ts <:+ L) (hne:ts≠[]) {s:List UInt8} (hi:isS s ts=false) (d:Nat) (out:List Node) (g:Nat) (z:Bool):∃ x' g' z',R_Q104 (pe L ts out d) g z s (some 5) x' g' z' :=
 ⟨_,_,_,Q104_tree _ _ _ _ _ _ _ _ ⟨false,_,by have:=r_is h hne s;rw[hi] at this;exact this,fun hf=>(by cases hf),fun _=>⟨_,_,r_need0 h hne hi,rfl,rfl,rfl,rfl⟩⟩⟩
theorem r_shut1 {L ts:List Token} (h:ts <:+ L) (hL:L.length≤1000000) {s:List UInt8} (hi:isS s ts=true) {d:Nat} (hd:d≤1000) (out:List Node) (g:Nat) (z:Bool):R_Q181 (pe L ts out (d+1)) g z s none (pe L ts.tail out d) g z:=by
 refine Q181_tree _ _ _ _ _ _ _ _ ⟨none,_,r_need1 h hL hi,?_,rfl,?_,rfl,rfl⟩
 ·simp only[pe,I64];omega
 simp only[pe];congr 1;omega
theorem r_shut5 {L ts:List Token} (h:ts <:+ L) (hne:ts≠[]) {s:List UInt8} (hi:isS s ts=false) (d:Nat) (out:List Node) (g:Nat) (z:Bool):∃ x' g' z',R_Q181 (pe L ts out d) g z s (some 5) x' g' z' :=
 ⟨_,_,_,Q181_tree _ _ _ _ _ _ _ _ ⟨_,_,r_need0 h hne hi,rfl,rfl,rfl,rfl⟩⟩
theorem r_CloneI (l:List Int) (h:l.length≤1000000000):R_slices_Clone_int_int l l:=fun S=>call_ext sp_slices_Clone_int_int S (by
 simp only[cloneX,List.length_map]
 rw[if_pos ⟨trivial,by omega,by omega⟩])
theorem r_put (x:PTokens) (out:List Node) (d:Int) (g:Nat) (z:Bool) (kind:Int) (text:List UInt8) (kids:List Int) (hk:kids.length≤1000000) (ho:out.length≤1000000):R_Q105 (PExprs.mk x out d) g z kind text kids (out.length:Nat) (PExprs.mk x (out++[nd kind text kids]) d) g z:=by
 refine Q105_tree _ _ _ _ _ _ _ _ _ _ ⟨kids,r_CloneI kids (by omega),?_,?_,?_,rfl,rfl,rfl⟩
 ·simp only[bigRow];omega
 ·simp only[I64];omega
 simp
theorem r_num (x:PTokens) (out:List Node) (d:Int) (g:Nat) (kind n:Int) (ho:out.length≤1000000):R_Q202 (PExprs.mk x out d) g false kind n (out.length:Nat) (PExprs.mk x (out++[⟨kind,n,[],[],[]⟩]) d) g false:=by
 refine Q202_tree _ _ _ _ _ _ _ _ _ ⟨_,_,_,_,r_put x out d g false kind [] [] (by simp) ho,by omega,?_,rfl,nd kind [] [],?_,rfl,?_,rfl,rfl⟩
 ·simp
 ·simp
 simp[nd]
theorem sp_Q103:SP 103=some (.code sc_Q103):=SPof_code rfl Tryz.func103 comp_Q103
def At_Q103_1 (rank:Int) (i13:Int) (x14:PExprs) (g15:Nat) (z16:Bool) (o:Option Int) (r:Int) (x':PExprs) (x'_g2:Nat) (x'_z2:Bool):Prop:=∀ (S:Sto) (e:Nat→PV) (f:Fr) (n0 t0:Nat),((getBox S n0 t0).map (List.take 4)=some [.list 5 (x14.tokens.l.map eToken) false,.int .i64 x14.tokens.pos,.sl 0 (.cell t0 2) 0 x14.out.length x14.out.length g15 false,.int .i64 x14.deep]∧getArr S n0 (.cell t0 2)=some ⟨5,x14.out.map eNode,z16,g15⟩)→e 0=.ptr (n0+1) t0 0∧e 1=.int .i64 rank∧e 5=.int .i64 i13→k_Q103_1 SP (E SP (.loop b_Q103_1) ⟨e,f::S⟩)=po 116 o (.v (.int .i64 r)) (setArr (setBox S n0 t0 ([.list 5 (x'.tokens.l.map eToken) false,.int .i64 x'.tokens.pos,.sl 0 (.cell t0 2) 0 x'.out.length x'.out.length x'_g2 false,.int .i64 x'.deep]++((getBox S n0 t0).getD []).drop 4)) n0 (.cell t0 2) ⟨5,x'.out.map eNode,x'_z2,x'_g2⟩)
theorem At_Q103_1_step (rank:Int) (i13:Int) (x14:PExprs) (g15:Nat) (z16:Bool) (o:Option Int) (r:Int) (x':PExprs) (x'_g2:Nat) (x'_z2:Bool) (T :
  ∃ (r17:Token) (y18:PTokens),(R_Q38 x14.tokens r17 y18) ∧
 ((r17.Kind=4) →
  ∃ (r19:Token) (y20:PTokens),(R_Q38 y18 r19 y20) ∧
  ∃ (r21:Int) (r22:Bool),(R_Q143 rank r19.Text r21 r22) ∧
  ((r22=true) →
   (I64 (y20.pos+1)) ∧
   (I64 (rank+1)) ∧
   ∃ (o24:Option Int) (r23:Int) (y25:PExprs) (g26:Nat) (z27:Bool),(R_Q103 (PExprs.mk (PTokens.mk y20.l (y20.pos+1)) x14.out x14.deep) g15 z16 (rank+1) o24 r23 y25 g26 z27) ∧
   (match o24 with
   | none=>(∃ (r29:Int) (y30:PExprs) (g31:Nat) (z32:Bool),(R_Q105 y25 g26 z27 r21 [] [i13,r23] r29 y30 g31 z32) ∧
    ((rank=2) →
     none=o∧r29=r∧y30=x'∧g31=x'_g2∧z32=x'_z2) ∧
    (¬ (rank=2) →
     At_Q103_1 rank r29 y30 g31 z32 o r x' x'_g2 x'_z2))
   | some e28=>(some e28=o∧y25=x'∧g26=x'_g2∧z27=x'_z2))) ∧
  (¬ (r22=true) →
   none=o∧i13=r∧(PExprs.mk y20 x14.out x14.deep)=x'∧g15=x'_g2∧z16=x'_z2)) ∧
 (¬ (r17.Kind=4) →
  none=o∧i13=r∧(PExprs.mk y18 x14.out x14.deep)=x'∧g15=x'_g2∧z16=x'_z2)):At_Q103_1 rank i13 x14 g15 z16 o r x' x'_g2 x'_z2:=by
 intro S e f n0 t0 H0 h
 obtain⟨hb0,ha0⟩:=H0
 obtain⟨w0,hB0⟩:=take_some hb0
 have hn0:=o_getBox_lt hB0
 unfold k_Q103_1
 rw[E_loop]
 have F:=U_Q103
 obtain⟨r17,y18,q1,T⟩:=T
 simp only[R_Q38,lF] at q1
 replace F:=aa ha0<|aa hB0<|aa hn0<|aa h<|aa q1<|F
 by_cases c2:r17.Kind=4
 ·replace T:=T.1 c2
  obtain⟨r19,y20,q3,r21,r22,q4,T⟩:=T
  simp only[R_Q38,lF] at q3
  simp only[R_Q143,lF] at q4
  replace F:=aa (eq_true c2)<|aa q3<|aa q4<|F
  by_cases c5:r22=true
  ·replace T:=T.1 c5
   obtain⟨p6,p7,o24,r23,y25,g26,z27,q8,T⟩:=T
   simp only[R_Q103,lF] at q8
   replace F:=aa c5<|aa p6.wrap<|aa p7.wrap<|aa q8<|F
   cases o24 with
   | none =>
     dsimp only at T
     obtain⟨r29,y30,g31,z32,q9,T⟩:=T
     simp only[R_Q105,lF] at q9
     replace F:=aa q9<|F
     by_cases c10:rank=2
     ·replace T:=T.1 c10
      obtain⟨rfl,rfl,rfl,rfl,rfl⟩:=T
      exact fi (aa (eq_true c10)<|F)
     replace T:=T.2 c10
     replace F:=aa (eq_false c10)<|F
     try simp only[F,lw,lx,le,Nat.reduceMul,UInt8.reduceToNat,reduceIte,reduceCtorEq,Nat.reduceEqDiff,Nat.reduceAdd,Nat.reduceLeDiff,Nat.reduceSub,Nat.reduceLT,Int.reduceEq,Int.reduceLT,Int.reduceLE,Int.reduceToNat,Int.reduceAdd,Int.reduceSub,Int.reduceMul,Int.reduceNeg]
     refine (T _ _ _ n0 t0 ?_ ?_).trans ?_
     all_goals exact fi F
   | some e28 =>
     dsimp only at T
     obtain⟨rfl,rfl,rfl,rfl⟩:=T
     exact fi F
  replace T:=T.2 c5
  replace c5:=Bool.eq_false_iff.2 c5
  obtain⟨rfl,rfl,rfl,rfl,rfl⟩:=T
  exact fi (aa c5<|F)
 replace T:=T.2 c2
 obtain⟨rfl,rfl,rfl,rfl,rfl⟩:=T
 exact fi (aa (eq_false c2)<|F)
theorem Q103_tree (x:PExprs) (x_g2:Nat) (x_z2:Bool) (rank:Int) (o:Option Int) (r:Int) (x':PExprs) (x'_g2:Nat) (x'_z2:Bool) (T :
  ((rank=5) →
  ∃ (o2:Option Int) (r1:Int) (y3:PExprs) (g4:Nat) (z5:Bool),(R_Q142 x x_g2 x_z2 o2 r1 y3 g4 z5) ∧
  (match o2 with
  | none=>(none=o∧r1=r∧y3=x'∧g4=x'_g2∧z5=x'_z2)
  | some e6=>(some e6=o∧y3=x'∧g4=x'_g2∧z5=x'_z2))) ∧
 (¬ (rank=5) →
  (I64 (rank+1)) ∧
  ∃ (o8:Option Int) (r7:Int) (y9:PExprs) (g10:Nat) (z11:Bool),(R_Q103 x x_g2 x_z2 (rank+1) o8 r7 y9 g10 z11) ∧
  (match o8 with
  | none=>(At_Q103_1 rank r7 y9 g10 z11 o r x' x'_g2 x'_z2)
  | some e12=>(some e12=o∧y9=x'∧g10=x'_g2∧z11=x'_z2)))):R_Q103 x x_g2 x_z2 rank o r x' x'_g2 x'_z2:=by
 intro S n0 t0 H0
 obtain⟨hb0,ha0⟩:=H0
 obtain⟨w0,hB0⟩:=take_some hb0
 have hn0:=o_getBox_lt hB0
 rw[call_code sp_Q103 _ _ rfl]
 have F:=U_Q103
 replace F:=aa ha0<|aa hB0<|aa hn0<|F
 by_cases c1:rank=5
 ·replace T:=T.1 c1
  obtain⟨o2,r1,y3,g4,z5,q2,T⟩:=T
  simp only[R_Q142,lF] at q2
  replace F:=aa (eq_true c1)<|aa q2<|F
  cases o2 with
  | none =>
    dsimp only at T
    obtain⟨rfl,rfl,rfl,rfl,rfl⟩:=T
    exact fi F
  | some e6 =>
    dsimp only at T
    obtain⟨rfl,rfl,rfl,rfl⟩:=T
    exact fi F
 replace T:=T.2 c1
 obtain⟨p3,o8,r7,y9,g10,z11,q4,T⟩:=T
 simp only[R_Q103,lF] at q4
 replace F:=aa (eq_false c1)<|aa p3.wrap<|aa q4<|F
 cases o8 with
 | none =>
   dsimp only at T
   try simp only[F,lw,lx,le,Nat.reduceMul,UInt8.reduceToNat,reduceIte,reduceCtorEq,Nat.reduceEqDiff,Nat.reduceAdd,Nat.reduceLeDiff,Nat.reduceSub,Nat.reduceLT,Int.reduceEq,Int.reduceLT,Int.reduceLE,Int.reduceToNat,Int.reduceAdd,Int.reduceSub,Int.reduceMul,Int.reduceNeg]
   refine (T _ _ _ n0 t0 ?_ ?_).trans ?_
   all_goals exact fi F
 | some e12 =>
   dsimp only at T
   obtain⟨rfl,rfl,rfl,rfl⟩:=T
   exact fi F
theorem sp_Q68:SP 68=some (.code sc_Q68):=SPof_code rfl Tryz.func68 comp_Q68
theorem Q68_tree (x:PExprs) (x_g2:Nat) (x_z2:Bool) (o:Option Int) (r:Int) (x':PExprs) (x'_g2:Nat) (x'_z2:Bool) (T :
  ∃ (o2:Option Int) (r1:Int) (y3:PExprs) (g4:Nat) (z5:Bool),(R_Q103 x x_g2 x_z2 0 o2 r1 y3 g4 z5) ∧
 (match o2 with
 | none=>(∃ (r7:Bool) (y8:PTokens),(R_Q102 y3.tokens [63] r7 y8) ∧
  ((r7=true) →
   ∃ (o9:Option Int) (y10:PExprs) (g11:Nat) (z12:Bool),(R_Q104 (PExprs.mk y8 y3.out y3.deep) g4 z5 [63] o9 y10 g11 z12) ∧
   (match o9 with
   | none=>(∃ (o15:Option Int) (r14:Int) (y16:PExprs) (g17:Nat) (z18:Bool),(R_Q68 y10 g11 z12 o15 r14 y16 g17 z18) ∧
    (match o15 with
    | none=>(∃ (o20:Option Int) (y21:PTokens),(R_Q66 y16.tokens [58] o20 y21) ∧
     (match o20 with
     | none=>(∃ (o24:Option Int) (r23:Int) (y25:PExprs) (g26:Nat) (z27:Bool),(R_Q68 (PExprs.mk y21 y16.out y16.deep) g17 z18 o24 r23 y25 g26 z27) ∧
      (match o24 with
      | none=>((I64 (y25.deep - 1)) ∧
       ∃ (r29:Int) (y30:PExprs) (g31:Nat) (z32:Bool),(R_Q105 (PExprs.mk y25.tokens y25.out (y25.deep - 1)) g26 z27 10 [] [r1,r14,r23] r29 y30 g31 z32) ∧
       none=o∧r29=r∧y30=x'∧g31=x'_g2∧z32=x'_z2)
      | some e28=>(some e28=o∧y25=x'∧g26=x'_g2∧z27=x'_z2)))
     | some e22=>(some e22=o∧(PExprs.mk y21 y16.out y16.deep)=x'∧g17=x'_g2∧z18=x'_z2)))
    | some e19=>(some e19=o∧y16=x'∧g17=x'_g2∧z18=x'_z2)))
   | some e13=>(some e13=o∧y10=x'∧g11=x'_g2∧z12=x'_z2))) ∧
  (¬ (r7=true) →
   none=o∧r1=r∧(PExprs.mk y8 y3.out y3.deep)=x'∧g4=x'_g2∧z5=x'_z2))
 | some e6=>(some e6=o∧y3=x'∧g4=x'_g2∧z5=x'_z2))):R_Q68 x x_g2 x_z2 o r x' x'_g2 x'_z2:=by
 intro S n0 t0 H0
 obtain⟨hb0,ha0⟩:=H0
 obtain⟨w0,hB0⟩:=take_some hb0
 have hn0:=o_getBox_lt hB0
 rw[call_code sp_Q68 _ _ rfl]
 have F:=U_Q68
 obtain⟨o2,r1,y3,g4,z5,q1,T⟩:=T
 simp only[R_Q103,lF] at q1
 replace F:=aa ha0<|aa hB0<|aa hn0<|aa q1<|F
 cases o2 with
 | none =>
   dsimp only at T
   obtain⟨r7,y8,q2,T⟩:=T
   simp only[R_Q102,lF] at q2
   replace F:=aa q2<|F
   by_cases c3:r7=true
   ·replace T:=T.1 c3
    obtain⟨o9,y10,g11,z12,q4,T⟩:=T
    simp only[R_Q104,lF] at q4
    replace F:=aa c3<|aa q4<|F
    cases o9 with
    | none =>
      dsimp only at T
      obtain⟨o15,r14,y16,g17,z18,q5,T⟩:=T
      simp only[R_Q68,lF] at q5
      replace F:=aa q5<|F
      cases o15 with
      | none =>
        dsimp only at T
        obtain⟨o20,y21,q6,T⟩:=T
        simp only[R_Q66,lF] at q6
        replace F:=aa q6<|F
        cases o20 with
        | none =>
          dsimp only at T
          obtain⟨o24,r23,y25,g26,z27,q7,T⟩:=T
          simp only[R_Q68,lF] at q7
          replace F:=aa q7<|F
          cases o24 with
          | none =>
            dsimp only at T
            obtain⟨p8,r29,y30,g31,z32,q9,rfl,rfl,rfl,rfl,rfl⟩:=T
            simp only[R_Q105,lF] at q9
            exact fi (aa p8.wrap<|aa q9<|F)
          | some e28 =>
            dsimp only at T
            obtain⟨rfl,rfl,rfl,rfl⟩:=T
            exact fi F
        | some e22 =>
          dsimp only at T
          obtain⟨rfl,rfl,rfl,rfl⟩:=T
          exact fi F
      | some e19 =>
        dsimp only at T
        obtain⟨rfl,rfl,rfl,rfl⟩:=T
        exact fi F
    | some e13 =>
      dsimp only at T
      obtain⟨rfl,rfl,rfl,rfl⟩:=T
      exact fi F
   replace T:=T.2 c3
   replace c3:=Bool.eq_false_iff.2 c3
   obtain⟨rfl,rfl,rfl,rfl,rfl⟩:=T
   exact fi (aa c3<|F)
 | some e6 =>
   dsimp only at T
   obtain⟨rfl,rfl,rfl,rfl⟩:=T
   exact fi F
theorem sp_Q142:SP 142=some (.code sc_Q142):=SPof_code rfl Tryz.func142 comp_Q142
theorem Q142_tree (x:PExprs) (x_g2:Nat) (x_z2:Bool) (o:Option Int) (r:Int) (x':PExprs) (x'_g2:Nat) (x'_z2:Bool) (T :
  ∃ (r1:Bool) (y2:PTokens),(R_Q102 x.tokens [45] r1 y2) ∧
 ((r1=true) →
  ∃ (o3:Option Int) (y4:PExprs) (g5:Nat) (z6:Bool),(R_Q104 (PExprs.mk y2 x.out x.deep) x_g2 x_z2 [45] o3 y4 g5 z6) ∧
  (match o3 with
  | none=>(∃ (o9:Option Int) (r8:Int) (y10:PExprs) (g11:Nat) (z12:Bool),(R_Q142 y4 g5 z6 o9 r8 y10 g11 z12) ∧
   (match o9 with
   | none=>((I64 (y10.deep - 1)) ∧
    ∃ (r14:Int) (y15:PExprs) (g16:Nat) (z17:Bool),(R_Q105 (PExprs.mk y10.tokens y10.out (y10.deep - 1)) g11 z12 9 [] [r8] r14 y15 g16 z17) ∧
    none=o∧r14=r∧y15=x'∧g16=x'_g2∧z17=x'_z2)
   | some e13=>(some e13=o∧y10=x'∧g11=x'_g2∧z12=x'_z2)))
  | some e7=>(some e7=o∧y4=x'∧g5=x'_g2∧z6=x'_z2))) ∧
 (¬ (r1=true) →
  ∃ (r18:Bool) (y19:PTokens),(R_Q102 y2 [33] r18 y19) ∧
  ((r18=true) →
   ∃ (o20:Option Int) (y21:PExprs) (g22:Nat) (z23:Bool),(R_Q104 (PExprs.mk y19 x.out x.deep) x_g2 x_z2 [33] o20 y21 g22 z23) ∧
   (match o20 with
   | none=>(∃ (o26:Option Int) (r25:Int) (y27:PExprs) (g28:Nat) (z29:Bool),(R_Q142 y21 g22 z23 o26 r25 y27 g28 z29) ∧
    (match o26 with
    | none=>((I64 (y27.deep - 1)) ∧
     ∃ (r31:Int) (y32:PExprs) (g33:Nat) (z34:Bool),(R_Q105 (PExprs.mk y27.tokens y27.out (y27.deep - 1)) g28 z29 8 [] [r25] r31 y32 g33 z34) ∧
     none=o∧r31=r∧y32=x'∧g33=x'_g2∧z34=x'_z2)
    | some e30=>(some e30=o∧y27=x'∧g28=x'_g2∧z29=x'_z2)))
   | some e24=>(some e24=o∧y21=x'∧g22=x'_g2∧z23=x'_z2))) ∧
  (¬ (r18=true) →
   ∃ (o36:Option Int) (r35:Int) (y37:PExprs) (g38:Nat) (z39:Bool),(R_Q167 (PExprs.mk y19 x.out x.deep) x_g2 x_z2 o36 r35 y37 g38 z39) ∧
   (match o36 with
   | none=>(none=o∧r35=r∧y37=x'∧g38=x'_g2∧z39=x'_z2)
   | some e40=>(some e40=o∧y37=x'∧g38=x'_g2∧z39=x'_z2))))):R_Q142 x x_g2 x_z2 o r x' x'_g2 x'_z2:=by
 intro S n0 t0 H0
 obtain⟨hb0,ha0⟩:=H0
 obtain⟨w0,hB0⟩:=take_some hb0
 have hn0:=o_getBox_lt hB0
 rw[call_code sp_Q142 _ _ rfl]
 have F:=U_Q142
 obtain⟨r1,y2,q1,T⟩:=T
 simp only[R_Q102,lF] at q1
 replace F:=aa ha0<|aa hB0<|aa hn0<|aa q1<|F
 by_cases c2:r1=true
 ·replace T:=T.1 c2
  obtain⟨o3,y4,g5,z6,q3,T⟩:=T
  simp only[R_Q104,lF] at q3
  replace F:=aa c2<|aa q3<|F
  cases o3 with
  | none =>
    dsimp only at T
    obtain⟨o9,r8,y10,g11,z12,q4,T⟩:=T
    simp only[R_Q142,lF] at q4
    replace F:=aa q4<|F
    cases o9 with
    | none =>
      dsimp only at T
      obtain⟨p5,r14,y15,g16,z17,q6,rfl,rfl,rfl,rfl,rfl⟩:=T
      simp only[R_Q105,lF] at q6
      exact fi (aa p5.wrap<|aa q6<|F)
    | some e13 =>
      dsimp only at T
      obtain⟨rfl,rfl,rfl,rfl⟩:=T
      exact fi F
  | some e7 =>
    dsimp only at T
    obtain⟨rfl,rfl,rfl,rfl⟩:=T
    exact fi F
 replace T:=T.2 c2
 replace c2:=Bool.eq_false_iff.2 c2
 obtain⟨r18,y19,q7,T⟩:=T
 simp only[R_Q102,lF] at q7
 replace F:=aa c2<|aa q7<|F
 by_cases c8:r18=true
 ·replace T:=T.1 c8
  obtain⟨o20,y21,g22,z23,q9,T⟩:=T
  simp only[R_Q104,lF] at q9
  replace F:=aa c8<|aa q9<|F
  cases o20 with
  | none =>
    dsimp only at T
    obtain⟨o26,r25,y27,g28,z29,q10,T⟩:=T
    simp only[R_Q142,lF] at q10
    replace F:=aa q10<|F
    cases o26 with
    | none =>
      dsimp only at T
      obtain⟨p11,r31,y32,g33,z34,q12,rfl,rfl,rfl,rfl,rfl⟩:=T
      simp only[R_Q105,lF] at q12
      exact fi (aa p11.wrap<|aa q12<|F)
    | some e30 =>
      dsimp only at T
      obtain⟨rfl,rfl,rfl,rfl⟩:=T
      exact fi F
  | some e24 =>
    dsimp only at T
    obtain⟨rfl,rfl,rfl,rfl⟩:=T
    exact fi F
 replace T:=T.2 c8
 replace c8:=Bool.eq_false_iff.2 c8
 obtain⟨o36,r35,y37,g38,z39,q13,T⟩:=T
 simp only[R_Q167,lF] at q13
 replace F:=aa c8<|aa q13<|F
 cases o36 with
 | none =>
   dsimp only at T
   obtain⟨rfl,rfl,rfl,rfl,rfl⟩:=T
   exact fi F
 | some e40 =>
   dsimp only at T
   obtain⟨rfl,rfl,rfl,rfl⟩:=T
   exact fi F
theorem sp_Q167:SP 167=some (.code sc_Q167):=SPof_code rfl Tryz.func167 comp_Q167
def At_Q167_1 (i7:Int) (x8:PExprs) (g9:Nat) (z10:Bool) (o:Option Int) (r:Int) (x':PExprs) (x'_g2:Nat) (x'_z2:Bool):Prop:=∀ (S:Sto) (e:Nat→PV) (f:Fr) (n0 t0:Nat),((getBox S n0 t0).map (List.take 4)=some [.list 5 (x8.tokens.l.map eToken) false,.int .i64 x8.tokens.pos,.sl 0 (.cell t0 2) 0 x8.out.length x8.out.length g9 false,.int .i64 x8.deep]∧getArr S n0 (.cell t0 2)=some ⟨5,x8.out.map eNode,z10,g9⟩)→e 0=.ptr (n0+1) t0 0∧e 3=.int .i64 i7→k_Q167_1 SP (E SP (.loop b_Q167_1) ⟨e,f::S⟩)=po 116 o (.v (.int .i64 r)) (setArr (setBox S n0 t0 ([.list 5 (x'.tokens.l.map eToken) false,.int .i64 x'.tokens.pos,.sl 0 (.cell t0 2) 0 x'.out.length x'.out.length x'_g2 false,.int .i64 x'.deep]++((getBox S n0 t0).getD []).drop 4)) n0 (.cell t0 2) ⟨5,x'.out.map eNode,x'_z2,x'_g2⟩)
theorem At_Q167_1_step (i7:Int) (x8:PExprs) (g9:Nat) (z10:Bool) (o:Option Int) (r:Int) (x':PExprs) (x'_g2:Nat) (x'_z2:Bool) (T :
  ∃ (r11:Bool) (y12:PTokens),(R_Q102 x8.tokens [91] r11 y12) ∧
 ((r11=true) →
  ∃ (o13:Option Int) (y14:PExprs) (g15:Nat) (z16:Bool),(R_Q104 (PExprs.mk y12 x8.out x8.deep) g9 z10 [91] o13 y14 g15 z16) ∧
  (match o13 with
  | none=>(∃ (o19:Option Int) (r18:Int) (y20:PExprs) (g21:Nat) (z22:Bool),(R_Q68 y14 g15 z16 o19 r18 y20 g21 z22) ∧
   (match o19 with
   | none=>(∃ (o24:Option Int) (y25:PExprs) (g26:Nat) (z27:Bool),(R_Q181 y20 g21 z22 [93] o24 y25 g26 z27) ∧
    (match o24 with
    | none=>(∃ (r29:Int) (y30:PExprs) (g31:Nat) (z32:Bool),(R_Q105 y25 g26 z27 7 [] [i7,r18] r29 y30 g31 z32) ∧
     At_Q167_1 r29 y30 g31 z32 o r x' x'_g2 x'_z2)
    | some e28=>(some e28=o∧y25=x'∧g26=x'_g2∧z27=x'_z2)))
   | some e23=>(some e23=o∧y20=x'∧g21=x'_g2∧z22=x'_z2)))
  | some e17=>(some e17=o∧y14=x'∧g15=x'_g2∧z16=x'_z2))) ∧
 (¬ (r11=true) →
  none=o∧i7=r∧(PExprs.mk y12 x8.out x8.deep)=x'∧g9=x'_g2∧z10=x'_z2)):At_Q167_1 i7 x8 g9 z10 o r x' x'_g2 x'_z2:=by
 intro S e f n0 t0 H0 h
 obtain⟨hb0,ha0⟩:=H0
 obtain⟨w0,hB0⟩:=take_some hb0
 have hn0:=o_getBox_lt hB0
 unfold k_Q167_1
 rw[E_loop]
 have F:=U_Q167
 obtain⟨r11,y12,q1,T⟩:=T
 simp only[R_Q102,lF] at q1
 replace F:=aa ha0<|aa hB0<|aa hn0<|aa h<|aa q1<|F
 by_cases c2:r11=true
 ·replace T:=T.1 c2
  obtain⟨o13,y14,g15,z16,q3,T⟩:=T
  simp only[R_Q104,lF] at q3
  replace F:=aa c2<|aa q3<|F
  cases o13 with
  | none =>
    dsimp only at T
    obtain⟨o19,r18,y20,g21,z22,q4,T⟩:=T
    simp only[R_Q68,lF] at q4
    replace F:=aa q4<|F
    cases o19 with
    | none =>
      dsimp only at T
      obtain⟨o24,y25,g26,z27,q5,T⟩:=T
      simp only[R_Q181,lF] at q5
      replace F:=aa q5<|F
      cases o24 with
      | none =>
        dsimp only at T
        obtain⟨r29,y30,g31,z32,q6,T⟩:=T
        simp only[R_Q105,lF] at q6
        replace F:=aa q6<|F
        try simp only[F,lw,lx,le,Nat.reduceMul,UInt8.reduceToNat,reduceIte,reduceCtorEq,Nat.reduceEqDiff,Nat.reduceAdd,Nat.reduceLeDiff,Nat.reduceSub,Nat.reduceLT,Int.reduceEq,Int.reduceLT,Int.reduceLE,Int.reduceToNat,Int.reduceAdd,Int.reduceSub,Int.reduceMul,Int.reduceNeg]
        refine (T _ _ _ n0 t0 ?_ ?_).trans ?_
        all_goals exact fi F
      | some e28 =>
        dsimp only at T
        obtain⟨rfl,rfl,rfl,rfl⟩:=T
        exact fi F
    | some e23 =>
      dsimp only at T
      obtain⟨rfl,rfl,rfl,rfl⟩:=T
      exact fi F
  | some e17 =>
    dsimp only at T
    obtain⟨rfl,rfl,rfl,rfl⟩:=T
    exact fi F
 replace T:=T.2 c2
 replace c2:=Bool.eq_false_iff.2 c2
 obtain⟨rfl,rfl,rfl,rfl,rfl⟩:=T
 exact fi (aa c2<|F)
theorem Q167_tree (x:PExprs) (x_g2:Nat) (x_z2:Bool) (o:Option Int) (r:Int) (x':PExprs) (x'_g2:Nat) (x'_z2:Bool) (T :
  ∃ (o2:Option Int) (r1:Int) (y3:PExprs) (g4:Nat) (z5:Bool),(R_Q180 x x_g2 x_z2 o2 r1 y3 g4 z5) ∧
 (match o2 with
 | none=>(At_Q167_1 r1 y3 g4 z5 o r x' x'_g2 x'_z2)
 | some e6=>(some e6=o∧y3=x'∧g4=x'_g2∧z5=x'_z2))):R_Q167 x x_g2 x_z2 o r x' x'_g2 x'_z2:=by
 intro S n0 t0 H0
 obtain⟨hb0,ha0⟩:=H0
 obtain⟨w0,hB0⟩:=take_some hb0
 have hn0:=o_getBox_lt hB0
 rw[call_code sp_Q167 _ _ rfl]
 have F:=U_Q167
 obtain⟨o2,r1,y3,g4,z5,q1,T⟩:=T
 simp only[R_Q180,lF] at q1
 replace F:=aa ha0<|aa hB0<|aa hn0<|aa q1<|F
 cases o2 with
 | none =>
   dsimp only at T
   try simp only[F,lw,lx,le,Nat.reduceMul,UInt8.reduceToNat,reduceIte,reduceCtorEq,Nat.reduceEqDiff,Nat.reduceAdd,Nat.reduceLeDiff,Nat.reduceSub,Nat.reduceLT,Int.reduceEq,Int.reduceLT,Int.reduceLE,Int.reduceToNat,Int.reduceAdd,Int.reduceSub,Int.reduceMul,Int.reduceNeg]
   refine (T _ _ _ n0 t0 ?_ ?_).trans ?_
   all_goals exact fi F
 | some e6 =>
   dsimp only at T
   obtain⟨rfl,rfl,rfl,rfl⟩:=T
   exact fi F
theorem sp_Q203:SP 203=some (.code sc_Q203):=SPof_code rfl Tryz.func203 comp_Q203
def At_Q203_1 (end_:List UInt8) (l14:List Int) (x15:PExprs) (g16:Nat) (z17:Bool) (o:Option Int) (r:List Int) (x':PExprs) (x'_g2:Nat) (x'_z2:Bool):Prop:=∀ (S:Sto) (e:Nat→PV) (f:Fr) (n0 t0:Nat),((getBox S n0 t0).map (List.take 4)=some [.list 5 (x15.tokens.l.map eToken) false,.int .i64 x15.tokens.pos,.sl 0 (.cell t0 2) 0 x15.out.length x15.out.length g16 false,.int .i64 x15.deep]∧getArr S n0 (.cell t0 2)=some ⟨5,x15.out.map eNode,z17,g16⟩)→e 0=.ptr (n0+1) t0 0∧e 1=.str end_∧e 5=.sl 0 (.slot 5) 0 l14.length l14.length 0 false∧f.arr (.slot 5)=some ⟨1,l14.map eI,false,0⟩→k_Q203_1 SP (E SP (.loop b_Q203_1) ⟨e,f::S⟩)=po 116 o (.arr 1 (r.map eI) false) (setArr (setBox S n0 t0 ([.list 5 (x'.tokens.l.map eToken) false,.int .i64 x'.tokens.pos,.sl 0 (.cell t0 2) 0 x'.out.length x'.out.length x'_g2 false,.int .i64 x'.deep]++((getBox S n0 t0).getD []).drop 4)) n0 (.cell t0 2) ⟨5,x'.out.map eNode,x'_z2,x'_g2⟩)
theorem At_Q203_1_step (end_:List UInt8) (l14:List Int) (x15:PExprs) (g16:Nat) (z17:Bool) (o:Option Int) (r:List Int) (x':PExprs) (x'_g2:Nat) (x'_z2:Bool) (T :
  ∃ (r18:Bool) (y19:PTokens),(R_Q67 x15.tokens [44] r18 y19) ∧
 ((r18=true) →
  ∃ (o21:Option Int) (r20:Int) (y22:PExprs) (g23:Nat) (z24:Bool),(R_Q68 (PExprs.mk y19 x15.out x15.deep) g16 z17 o21 r20 y22 g23 z24) ∧
  (match o21 with
  | none=>((bigRow (l14.length+1) 8) ∧
   At_Q203_1 end_ (l14++[r20]) y22 g23 z24 o r x' x'_g2 x'_z2)
  | some e25=>(some e25=o∧y22=x'∧g23=x'_g2∧z24=x'_z2))) ∧
 (¬ (r18=true) →
  ∃ (o26:Option Int) (y27:PExprs) (g28:Nat) (z29:Bool),(R_Q181 (PExprs.mk y19 x15.out x15.deep) g16 z17 end_ o26 y27 g28 z29) ∧
  (match o26 with
  | none=>(none=o∧l14=r∧y27=x'∧g28=x'_g2∧z29=x'_z2)
  | some e30=>(some e30=o∧y27=x'∧g28=x'_g2∧z29=x'_z2)))):At_Q203_1 end_ l14 x15 g16 z17 o r x' x'_g2 x'_z2:=by
 intro S e f n0 t0 H0 h
 obtain⟨hb0,ha0⟩:=H0
 obtain⟨w0,hB0⟩:=take_some hb0
 have hn0:=o_getBox_lt hB0
 unfold k_Q203_1
 rw[E_loop]
 have F:=U_Q203
 obtain⟨r18,y19,q1,T⟩:=T
 simp only[R_Q67,lF] at q1
 replace F:=aa ha0<|aa hB0<|aa hn0<|aa h<|aa q1<|F
 by_cases c2:r18=true
 ·replace T:=T.1 c2
  obtain⟨o21,r20,y22,g23,z24,q3,T⟩:=T
  simp only[R_Q68,lF] at q3
  replace F:=aa c2<|aa q3<|F
  cases o21 with
  | none =>
    dsimp only at T
    obtain⟨p4,T⟩:=T
    simp only[bigRow] at p4
    replace F:=aa p4<|F
    try simp only[F,lw,lx,le,Nat.reduceMul,UInt8.reduceToNat,reduceIte,reduceCtorEq,Nat.reduceEqDiff,Nat.reduceAdd,Nat.reduceLeDiff,Nat.reduceSub,Nat.reduceLT,Int.reduceEq,Int.reduceLT,Int.reduceLE,Int.reduceToNat,Int.reduceAdd,Int.reduceSub,Int.reduceMul,Int.reduceNeg]
    refine (T _ _ _ n0 t0 ?_ ?_).trans ?_
    all_goals exact fi F
  | some e25 =>
    dsimp only at T
    obtain⟨rfl,rfl,rfl,rfl⟩:=T
    exact fi F
 replace T:=T.2 c2
 replace c2:=Bool.eq_false_iff.2 c2
 obtain⟨o26,y27,g28,z29,q5,T⟩:=T
 simp only[R_Q181,lF] at q5
 replace F:=aa c2<|aa q5<|F
 cases o26 with
 | none =>
   dsimp only at T
   obtain⟨rfl,rfl,rfl,rfl,rfl⟩:=T
   exact fi F
 | some e30 =>
   dsimp only at T
   obtain⟨rfl,rfl,rfl,rfl⟩:=T
   exact fi F
theorem Q203_tree (x:PExprs) (x_g2:Nat) (x_z2:Bool) (end_:List UInt8) (o:Option Int) (r:List Int) (x':PExprs) (x'_g2:Nat) (x'_z2:Bool) (T :
  ∃ (r1:Bool) (y2:PTokens),(R_Q102 x.tokens end_ r1 y2) ∧
 ((r1=true) →
  ∃ (o3:Option Int) (y4:PExprs) (g5:Nat) (z6:Bool),(R_Q181 (PExprs.mk y2 x.out x.deep) x_g2 x_z2 end_ o3 y4 g5 z6) ∧
  (match o3 with
  | none=>(none=o∧[]=r∧y4=x'∧g5=x'_g2∧z6=x'_z2)
  | some e7=>(some e7=o∧y4=x'∧g5=x'_g2∧z6=x'_z2))) ∧
 (¬ (r1=true) →
  ∃ (o9:Option Int) (r8:Int) (y10:PExprs) (g11:Nat) (z12:Bool),(R_Q68 (PExprs.mk y2 x.out x.deep) x_g2 x_z2 o9 r8 y10 g11 z12) ∧
  (match o9 with
  | none=>(At_Q203_1 end_ [r8] y10 g11 z12 o r x' x'_g2 x'_z2)
  | some e13=>(some e13=o∧y10=x'∧g11=x'_g2∧z12=x'_z2)))):R_Q203 x x_g2 x_z2 end_ o r x' x'_g2 x'_z2:=by
 intro S n0 t0 H0
 obtain⟨hb0,ha0⟩:=H0
 obtain⟨w0,hB0⟩:=take_some hb0
 have hn0:=o_getBox_lt hB0
 rw[call_code sp_Q203 _ _ rfl]
 have F:=U_Q203
 obtain⟨r1,y2,q1,T⟩:=T
 simp only[R_Q102,lF] at q1
 replace F:=aa ha0<|aa hB0<|aa hn0<|aa q1<|F
 by_cases c2:r1=true
 ·replace T:=T.1 c2
  obtain⟨o3,y4,g5,z6,q3,T⟩:=T
  simp only[R_Q181,lF] at q3
  replace F:=aa c2<|aa q3<|F
  cases o3 with
  | none =>
    dsimp only at T
    obtain⟨rfl,rfl,rfl,rfl,rfl⟩:=T
    exact fi F
  | some e7 =>
    dsimp only at T
    obtain⟨rfl,rfl,rfl,rfl⟩:=T
    exact fi F
 replace T:=T.2 c2
 replace c2:=Bool.eq_false_iff.2 c2
 obtain⟨o9,r8,y10,g11,z12,q4,T⟩:=T
 simp only[R_Q68,lF] at q4
 replace F:=aa c2<|aa q4<|F
 cases o9 with
 | none =>
   dsimp only at T
   try simp only[F,lw,lx,le,Nat.reduceMul,UInt8.reduceToNat,reduceIte,reduceCtorEq,Nat.reduceEqDiff,Nat.reduceAdd,Nat.reduceLeDiff,Nat.reduceSub,Nat.reduceLT,Int.reduceEq,Int.reduceLT,Int.reduceLE,Int.reduceToNat,Int.reduceAdd,Int.reduceSub,Int.reduceMul,Int.reduceNeg]
   refine (T _ _ _ n0 t0 ?_ ?_).trans ?_
   all_goals exact fi F
 | some e13 =>
   dsimp only at T
   obtain⟨rfl,rfl,rfl,rfl⟩:=T
   exact fi F
def idxI:Option Nat→Int
 | some i=>(i:Int)
 | none=>-1
theorem r_Index_loop (s:List (List UInt8)) (v:List UInt8) (hs:s.length≤1000):∀ (l:List (List UInt8)) (i:Nat),s.drop i=l→i+l.length=s.length→At_slices_Index_string_string_1 s v (i:Nat) (idxI (idxS v l i))
 | [],i,h,hi=>by
  refine At_slices_Index_string_string_1_step _ _ _ _ ⟨fun hf=>?_,fun _=>rfl⟩
  simp at hi
  omega
 | u::l,i,h,hi=>by
  have hlt:i < s.length:=by simp at hi;omega
  have hg:s[i]?=some u:=by
   have:=congrArg List.head? h
   rw[List.head?_drop] at this
   simpa using this
  refine At_slices_Index_string_string_1_step _ _ _ _ ⟨fun _=>⟨by omega,u,by simpa using hg,fun he=>?_,fun he=>⟨⟨by omega,by omega⟩,?_⟩⟩,fun hf=>absurd (by omega) hf⟩
  ·simp[idxS,he,idxI]
  have:=r_Index_loop s v hs l (i+1) (by rw[←List.drop_drop,h];rfl) (by simp at hi ⊢;omega)
  simp only[idxS,if_neg he]
  exact this
theorem r_IndexS (s:List (List UInt8)) (v:List UInt8) (hs:s.length≤1000):R_slices_Index_string_string s v (idxI (idxS v s 0)) :=
 slices_Index_string_string_tree _ _ _ (r_Index_loop s v hs s 0 rfl (by simp))
theorem r_two (rank:Nat) (hr:rank < 5) (s:List UInt8):∃ k,R_Q143 (rank:Int) s k (opS rank s).isSome∧∀ q,opS rank s=some q→k=q:=by
 have key:∀ (l:List (List UInt8)) (f:Int),([[[124,124]],[[38,38]],[[61,61],[33,61],[60],[60,61],[62],[62,61]],[[43],[45]],[[42],[47],[37]]]:List (List (List UInt8)))[rank]?=some l→([11,12,13,19,21]:List Int)[rank]?=some f→l.length≤6→0≤f→f≤30→signsS rank=l→firstS rank=f→∃ k,R_Q143 (rank:Int) s k (opS rank s).isSome∧∀ q,opS rank s=some q→k=q:=by
  intro l f h1 h2 h3 h4 h5 h6 h7
  have hb:-1≤idxI (idxS s l 0)∧idxI (idxS s l 0)≤6:=by
   have gen:∀ (l:List (List UInt8)) (i:Nat),-1≤idxI (idxS s l i)∧idxI (idxS s l i)≤i+l.length:=by
    intro l
    induction l with
    | nil=>intro i;simp[idxS,idxI]
    | cons u l ih =>
     intro i
     simp only[idxS]
     split
     ·simp only[idxI,List.length_cons];omega
     have:=ih (i+1)
     simp only[List.length_cons]
     omega
   have:=gen l 0
   omega
  refine⟨f+idxI (idxS s l 0),Q143_tree _ _ _ _ ⟨by omega,l,by simpa using h1,idxI (idxS s l 0),r_IndexS l s (by omega),by omega,f,by simpa using h2,⟨by omega,by omega⟩,rfl,?_⟩,?_⟩
  ·simp only[opS,h6]
   cases idxS s l 0 with
   | none=>simp[idxI]
   | some i=>simp[idxI]
  intro q hq
  simp only[opS,h6,h7] at hq
  cases hi:idxS s l 0 with
  | none=>rw[hi] at hq;cases hq
  | some i=>rw[hi] at hq;simpa [idxI] using hq
 match rank,hr with
 | 0,_=>exact key _ _ rfl rfl (by decide) (by decide) (by decide) rfl rfl
 | 1,_=>exact key _ _ rfl rfl (by decide) (by decide) (by decide) rfl rfl
 | 2,_=>exact key _ _ rfl rfl (by decide) (by decide) (by decide) rfl rfl
 | 3,_=>exact key _ _ rfl rfl (by decide) (by decide) (by decide) rfl rfl
 | 4,_=>exact key _ _ rfl rfl (by decide) (by decide) (by decide) rfl rfl
theorem r_is1 {L ts:List Token} (h:ts <:+ L) {s:List UInt8} (hi:isS s ts=true):R_Q102 (pt L ts) s true (pt L ts):=by
 have:=r_is h (fun e=>by subst e;cases hi) s
 rw[hi] at this
 exact this
theorem r_is0 {L ts:List Token} (h:ts <:+ L) (hne:ts≠[]) {s:List UInt8} (hi:isS s ts=false):R_Q102 (pt L ts) s false (pt L ts):=by
 have:=r_is h hne s
 rw[hi] at this
 exact this
def OkE {α:Type} (L ts:List Token) (out:List Node) (d d' g c m n:Nat) (R:PExprs→Nat→Bool→Option Int→α→PExprs→Nat→Bool→Prop):PR α→Prop
 | .ok a ts' out'=>ts' <:+ L∧W ts'∧ts'.length+c≤ts.length∧out'.length+ts'.length≤out.length+ts.length∧R (pe L ts out d) g false none a (pe L ts' out' d') g false
 | .er e=>∃ a x' g' z',R (pe L ts out d) g false (some e) a x' g' z'
 | .no=>n≤m
structure Sp (n:Nat) (L ts:List Token) (out:List Node) (d g:Nat):Prop where
 expr:OkE L ts out d d g 1 (20*ts.length+9) n R_Q68 (exprS n d ts out)
 chain:∀ rank:Nat,rank≤5→OkE L ts out d d g 1 (20*ts.length+8 - rank) n (fun x g z=>R_Q103 x g z (rank:Int)) (chainS n rank d ts out)
 loop:∀ (rank:Nat) (a:Int),rank < 5→OkE L ts out d d g 0 (20*ts.length) n (At_Q103_1 (rank:Int) a) (loopS n rank d a ts out)
 un:OkE L ts out d d g 1 (20*ts.length+2) n R_Q142 (unS n d ts out)
 post:OkE L ts out d d g 1 (20*ts.length+1) n R_Q167 (postS n d ts out)
 postl:∀ a:Int,OkE L ts out d d g 0 (20*ts.length) n (At_Q167_1 a) (postL n d a ts out)
 many:∀ e:List UInt8,d+1≤64→OkE L ts out (d+1) d g 1 (20*ts.length+10) n (fun x g z=>R_Q203 x g z e) (manyS n (d+1) e ts out)
 manyl:∀ (e:List UInt8) (l:List Int),l.length+ts.length≤1000000→d+1≤64→OkE L ts out (d+1) d g 1 (20*ts.length) n (At_Q203_1 e l) (manyL n (d+1) e l ts out)
 prim:OkE L ts out d d g 1 (20*ts.length) n R_Q180 (primS n d ts out)
 manyn:∀ e:List UInt8,d+1≤64→∀ b ts2 out2,manyS n (d+1) e ts out=.ok b ts2 out2→b.length≤ts.length
 manyln:∀ (e:List UInt8) (l:List Int),d+1≤64→∀ b ts2 out2,manyL n (d+1) e l ts out=.ok b ts2 out2→b.length≤l.length+ts.length
def SpA (n:Nat):Prop:=∀ (L:List Token),L.length≤1000000→(∀ t ∈ L,t.Text.length≤1000000)→∀ (ts:List Token),ts <:+ L→W ts→∀ (out:List Node),out.length+ts.length≤1000000→∀ (d:Nat),d≤64→∀ (g:Nat),Sp n L ts out d g
theorem sp_zero:SpA 0:=fun L hL hT ts hs hw out ho d hd g=>by
 constructor
 iterate 9 (intros;simp only[exprS,chainS,loopS,unS,postS,postL,manyS,manyL,primS,OkE];exact Nat.zero_le _)
 ·intro e h b ts2 out2 hb;simp[manyS] at hb
 intro e l h b ts2 out2 hb;simp[manyL] at hb
section
variable {n:Nat} (ih:SpA n) {L ts:List Token} (hL:L.length≤1000000) (hT:∀ t ∈ L,t.Text.length≤1000000) (hs:ts <:+ L) (hw:W ts) {out:List Node} (ho:out.length+ts.length≤1000000) {d:Nat} (hd:d≤64) (g:Nat)
include ih hL hT hs hw ho hd
theorem sp_expr:OkE L ts out d d g 1 (20*ts.length+9) (n+1) R_Q68 (exprS (n+1) d ts out):=by
 have h1:=(ih L hL hT ts hs hw out ho d hd g).chain 0 (by omega)
 simp only[exprS]
 cases hc:chainS n 0 d ts out with
 | no=>rw[hc] at h1;simp only[PR.bind,OkE] at h1 ⊢;omega
 | er e =>
  rw[hc] at h1
  obtain⟨a,x',g',z',q⟩:=h1
  exact⟨0,x',g',z',Q68_tree _ _ _ _ _ _ _ _ ⟨some e,a,x',g',z',q,rfl,rfl,rfl,rfl⟩⟩
 | ok a ts1 out1 =>
  rw[hc] at h1
  obtain⟨s1,w1,l1,o1,q1⟩:=h1
  simp only[PR.bind]
  by_cases hi:isS [63] ts1=true
  ·rw[if_pos hi]
   simp only[openS,if_pos hi]
   have hlen:=len_shift hi
   by_cases h64:64≤d
   ·rw[if_pos h64]
    obtain⟨x',g',z',q⟩:=r_open6 s1 w1.ne hi h64 out1 g false
    exact⟨0,x',g',z',Q68_tree _ _ _ _ _ _ _ _ ⟨none,a,_,_,_,q1,true,_,r_is1 s1 hi,fun _=>⟨some 6,x',g',z',q,rfl,rfl,rfl,rfl⟩,fun hf=>absurd rfl hf⟩⟩
   rw[if_neg h64]
   have q2:=r_open1 s1 hL hi h64 out1 g false
   have h3:=(ih L hL hT ts1.tail (suf_shift s1) (w1.shift hi) out1 (by omega) (d+1) (by omega) g).expr
   cases hb:exprS n (d+1) ts1.tail out1 with
   | no=>rw[hb] at h3;simp only[OkE] at h3 ⊢;omega
   | er e =>
    rw[hb] at h3
    obtain⟨b,x',g',z',q3⟩:=h3
    exact⟨0,x',g',z',Q68_tree _ _ _ _ _ _ _ _ ⟨none,a,_,_,_,q1,true,_,r_is1 s1 hi,fun _=>⟨none,_,_,_,q2,some e,b,x',g',z',q3,rfl,rfl,rfl,rfl⟩,fun hf=>absurd rfl hf⟩⟩
   | ok b ts2 out2 =>
    rw[hb] at h3
    obtain⟨s2,w2,l2,o2,q3⟩:=h3
    simp only[needS]
    by_cases hi2:isS [58] ts2=true
    ·rw[if_pos hi2]
     have hlen2:=len_shift hi2
     have h4:=(ih L hL hT ts2.tail (suf_shift s2) (w2.shift hi2) out2 (by omega) (d+1) (by omega) g).expr
     cases hc3:exprS n (d+1) ts2.tail out2 with
     | no=>rw[hc3] at h4;simp only[OkE] at h4 ⊢;omega
     | er e =>
      rw[hc3] at h4
      obtain⟨c,x',g',z',q4⟩:=h4
      exact⟨0,x',g',z',Q68_tree _ _ _ _ _ _ _ _ ⟨none,a,_,_,_,q1,true,_,r_is1 s1 hi,fun _=>⟨none,_,_,_,q2,none,b,_,_,_,q3,none,_,r_need1 s2 hL hi2,some e,c,x',g',z',q4,rfl,rfl,rfl,rfl⟩,fun hf=>absurd rfl hf⟩⟩
     | ok c ts3 out3 =>
      rw[hc3] at h4
      obtain⟨s3,w3,l3,o3,q4⟩:=h4
      refine⟨s3,w3,by omega,by simp;omega,Q68_tree _ _ _ _ _ _ _ _ ⟨none,a,_,_,_,q1,true,_,r_is1 s1 hi,fun _=>⟨none,_,_,_,q2,none,b,_,_,_,q3,none,_,r_need1 s2 hL hi2,none,c,_,_,_,q4,⟨by simp only[pe];omega,by simp only[pe];omega⟩,_,_,_,_,r_put _ out3 _ g false 10 [] [a,b,c] (by simp) (by omega),rfl,rfl,?_,rfl,rfl⟩,fun hf=>absurd rfl hf⟩⟩
      simp only[pe]
      congr 1
      omega
    rw[if_neg hi2]
    exact⟨0,_,_,_,Q68_tree _ _ _ _ _ _ _ _ ⟨none,a,_,_,_,q1,true,_,r_is1 s1 hi,fun _=>⟨none,_,_,_,q2,none,b,_,_,_,q3,some 5,_,r_need0 s2 w2.ne (by simpa using hi2),rfl,rfl,rfl,rfl⟩,fun hf=>absurd rfl hf⟩⟩
  rw[if_neg hi]
  exact⟨s1,w1,l1,o1,Q68_tree _ _ _ _ _ _ _ _ ⟨none,a,_,_,_,q1,false,_,r_is0 s1 w1.ne (by simpa using hi),fun hf=>(by cases hf),fun _=>⟨rfl,rfl,rfl,rfl,rfl⟩⟩⟩
theorem sp_chain (rank:Nat) (hr:rank≤5):OkE L ts out d d g 1 (20*ts.length+8 - rank) (n+1) (fun x g z=>R_Q103 x g z (rank:Int)) (chainS (n+1) rank d ts out):=by
 simp only[chainS]
 by_cases h5:rank=5
 ·subst h5
  have h1:=(ih L hL hT ts hs hw out ho d hd g).un
  rw[if_pos rfl]
  cases hc:unS n d ts out with
  | no=>rw[hc] at h1;simp only[OkE] at h1 ⊢;omega
  | er e =>
   rw[hc] at h1
   obtain⟨a,x',g',z',q⟩:=h1
   exact⟨a,x',g',z',Q103_tree _ _ _ _ _ _ _ _ _ ⟨fun _=>⟨some e,a,x',g',z',q,rfl,rfl,rfl,rfl⟩,fun hf=>absurd rfl hf⟩⟩
  | ok a ts1 out1 =>
   rw[hc] at h1
   obtain⟨s1,w1,l1,o1,q1⟩:=h1
   exact⟨s1,w1,l1,o1,Q103_tree _ _ _ _ _ _ _ _ _ ⟨fun _=>⟨none,a,_,_,_,q1,rfl,rfl,rfl,rfl,rfl⟩,fun hf=>absurd rfl hf⟩⟩
 rw[if_neg h5]
 have h5':¬ ((rank:Nat):Int)=5:=by omega
 have h1:=(ih L hL hT ts hs hw out ho d hd g).chain (rank+1) (by omega)
 cases hc:chainS n (rank+1) d ts out with
 | no=>rw[hc] at h1;simp only[PR.bind,OkE] at h1 ⊢;omega
 | er e =>
  rw[hc] at h1
  obtain⟨a,x',g',z',q⟩:=h1
  exact⟨a,x',g',z',Q103_tree _ _ _ _ _ _ _ _ _ ⟨fun hf=>absurd hf h5',fun _=>⟨⟨by omega,by omega⟩,some e,a,x',g',z',q,rfl,rfl,rfl,rfl⟩⟩⟩
 | ok a ts1 out1 =>
  rw[hc] at h1
  obtain⟨s1,w1,l1,o1,q1⟩:=h1
  simp only[PR.bind]
  have h2:=(ih L hL hT ts1 s1 w1 out1 (by omega) d hd g).loop rank a (by omega)
  cases hl:loopS n rank d a ts1 out1 with
  | no=>rw[hl] at h2;simp only[OkE] at h2 ⊢;omega
  | er e =>
   rw[hl] at h2
   obtain⟨b,x',g',z',q⟩:=h2
   exact⟨b,x',g',z',Q103_tree _ _ _ _ _ _ _ _ _ ⟨fun hf=>absurd hf h5',fun _=>⟨⟨by omega,by omega⟩,none,a,_,_,_,q1,q⟩⟩⟩
  | ok b ts2 out2 =>
   rw[hl] at h2
   obtain⟨s2,w2,l2,o2,q2⟩:=h2
   exact⟨s2,w2,by omega,by omega,Q103_tree _ _ _ _ _ _ _ _ _ ⟨fun hf=>absurd hf h5',fun _=>⟨⟨by omega,by omega⟩,none,a,_,_,_,q1,q2⟩⟩⟩
theorem sp_loop (rank:Nat) (a:Int) (hr:rank < 5):OkE L ts out d d g 0 (20*ts.length) (n+1) (At_Q103_1 (rank:Int) a) (loopS (n+1) rank d a ts out):=by
 cases ts with
 | nil=>exact hw.elim
 | cons t ts =>
  simp only[loopS]
  by_cases hk:t.Kind=4
  ·rw[if_pos hk]
   obtain⟨k,hk2,hkq⟩:=r_two rank hr t.Text
   cases hop:opS rank t.Text with
   | none =>
    rw[hop] at hk2
    exact⟨hs,hw,by simp,by simp,At_Q103_1_step _ _ _ _ _ _ _ _ _ _ ⟨t,_,r_now hs,fun _=>⟨t,_,r_now hs,k,false,hk2,fun hf=>(by cases hf),fun _=>⟨rfl,rfl,rfl,rfl,rfl⟩⟩,fun hf=>absurd hk hf⟩⟩
   | some kind =>
    rw[hop] at hk2
    obtain rfl:=hkq kind hop
    simp only
    have hk0:t.Kind≠0:=by rw[hk];decide
    have hp:=suf_len hs
    have h1:=(ih L hL hT ts (suf_tail hs) (hw.tail hk0) out (by simp at ho;omega) d hd g).chain (rank+1) (by omega)
    have hI:I64 ((pt L (t::ts)).pos+1):=by simp only[pt,I64];omega
    have hI2:I64 (((rank:Nat):Int)+1):=⟨by omega,by omega⟩
    have e1:(PExprs.mk (PTokens.mk (pt L (t::ts)).l ((pt L (t::ts)).pos+1)) (pe L (t::ts) out d).out (pe L (t::ts) out d).deep)=pe L ts out d:=by rw[pt_next hs];rfl
    cases hc:chainS n (rank+1) d ts out with
    | no=>rw[hc] at h1;simp only[PR.bind,OkE,List.length_cons] at h1 ⊢;omega
    | er e =>
     rw[hc] at h1
     obtain⟨b,x',g',z',q⟩:=h1
     exact⟨b,x',g',z',At_Q103_1_step _ _ _ _ _ _ _ _ _ _ ⟨t,_,r_now hs,fun _=>⟨t,_,r_now hs,k,true,hk2,fun _=>⟨hI,hI2,some e,b,x',g',z',e1 ▸ q,rfl,rfl,rfl,rfl⟩,fun hf=>absurd rfl hf⟩,fun hf=>absurd hk hf⟩⟩
    | ok b ts1 out1 =>
     rw[hc] at h1
     obtain⟨s1,w1,l1,o1,q1⟩:=h1
     simp only[PR.bind]
     simp only[List.length_cons] at ho hp
     by_cases h2:rank=2
     ·subst h2
      rw[if_pos rfl]
      exact⟨s1,w1,by simp;omega,by simp;omega,At_Q103_1_step _ _ _ _ _ _ _ _ _ _ ⟨t,_,r_now hs,fun _=>⟨t,_,r_now hs,k,true,hk2,fun _=>⟨hI,hI2,none,b,_,_,_,e1 ▸ q1,_,_,_,_,r_put _ out1 _ g false k [] [a,b] (by simp) (by omega),fun _=>⟨rfl,rfl,rfl,rfl,rfl⟩,fun hf=>absurd rfl hf⟩,fun hf=>absurd rfl hf⟩,fun hf=>absurd hk hf⟩⟩
     rw[if_neg h2]
     have h2':¬ ((rank:Nat):Int)=2:=by omega
     have h3:=(ih L hL hT ts1 s1 w1 (out1++[nd k [] [a,b]]) (by simp;omega) d hd g).loop rank (out1.length:Nat) hr
     cases hl:loopS n rank d (out1.length:Nat) ts1 (out1++[nd k [] [a,b]]) with
     | no=>rw[hl] at h3;simp only[OkE,List.length_cons] at h3 ⊢;omega
     | er e =>
      rw[hl] at h3
      obtain⟨c,x',g',z',q⟩:=h3
      exact⟨c,x',g',z',At_Q103_1_step _ _ _ _ _ _ _ _ _ _ ⟨t,_,r_now hs,fun _=>⟨t,_,r_now hs,k,true,hk2,fun _=>⟨hI,hI2,none,b,_,_,_,e1 ▸ q1,_,_,_,_,r_put _ out1 _ g false k [] [a,b] (by simp) (by omega),fun hf=>absurd hf h2',fun _=>q⟩,fun hf=>absurd rfl hf⟩,fun hf=>absurd hk hf⟩⟩
     | ok c ts2 out2 =>
      rw[hl] at h3
      obtain⟨s2,w2,l2,o2,q2⟩:=h3
      simp only[List.length_append,List.length_cons,List.length_nil] at o2
      exact⟨s2,w2,by simp;omega,by simp;omega,At_Q103_1_step _ _ _ _ _ _ _ _ _ _ ⟨t,_,r_now hs,fun _=>⟨t,_,r_now hs,k,true,hk2,fun _=>⟨hI,hI2,none,b,_,_,_,e1 ▸ q1,_,_,_,_,r_put _ out1 _ g false k [] [a,b] (by simp) (by omega),fun hf=>absurd hf h2',fun _=>q2⟩,fun hf=>absurd rfl hf⟩,fun hf=>absurd hk hf⟩⟩
  rw[if_neg hk]
  exact⟨hs,hw,by simp,by simp,At_Q103_1_step _ _ _ _ _ _ _ _ _ _ ⟨t,_,r_now hs,fun hf=>absurd hf hk,fun _=>⟨rfl,rfl,rfl,rfl,rfl⟩⟩⟩
theorem sp_un:OkE L ts out d d g 1 (20*ts.length+2) (n+1) R_Q142 (unS (n+1) d ts out):=by
 simp only[unS]
 by_cases hi:isS [45] ts=true
 ·rw[if_pos hi]
  simp only[openS,if_pos hi]
  have hlen:=len_shift hi
  by_cases h64:64≤d
  ·rw[if_pos h64]
   obtain⟨x',g',z',q⟩:=r_open6 hs hw.ne hi h64 out g false
   exact⟨0,x',g',z',Q142_tree _ _ _ _ _ _ _ _ ⟨true,_,r_is1 hs hi,fun _=>⟨some 6,x',g',z',q,rfl,rfl,rfl,rfl⟩,fun hf=>absurd rfl hf⟩⟩
  rw[if_neg h64]
  have q2:=r_open1 hs hL hi h64 out g false
  have h3:=(ih L hL hT ts.tail (suf_shift hs) (hw.shift hi) out (by omega) (d+1) (by omega) g).un
  cases hb:unS n (d+1) ts.tail out with
  | no=>rw[hb] at h3;simp only[PR.bind,OkE] at h3 ⊢;omega
  | er e =>
   rw[hb] at h3
   obtain⟨b,x',g',z',q3⟩:=h3
   exact⟨0,x',g',z',Q142_tree _ _ _ _ _ _ _ _ ⟨true,_,r_is1 hs hi,fun _=>⟨none,_,_,_,q2,some e,b,x',g',z',q3,rfl,rfl,rfl,rfl⟩,fun hf=>absurd rfl hf⟩⟩
  | ok b ts2 out2 =>
   rw[hb] at h3
   obtain⟨s2,w2,l2,o2,q3⟩:=h3
   simp only[PR.bind]
   refine⟨s2,w2,by omega,by simp;omega,Q142_tree _ _ _ _ _ _ _ _ ⟨true,_,r_is1 hs hi,fun _=>⟨none,_,_,_,q2,none,b,_,_,_,q3,⟨by simp only[pe];omega,by simp only[pe];omega⟩,_,_,_,_,r_put _ out2 _ g false 9 [] [b] (by simp) (by omega),rfl,rfl,?_,rfl,rfl⟩,fun hf=>absurd rfl hf⟩⟩
   simp only[pe]
   congr 1
   omega
 rw[if_neg hi]
 have hi0:isS [45] ts=false:=by simpa using hi
 clear hi
 by_cases hi:isS [33] ts=true
 ·rw[if_pos hi]
  simp only[openS,if_pos hi]
  have hlen:=len_shift hi
  by_cases h64:64≤d
  ·rw[if_pos h64]
   obtain⟨x',g',z',q⟩:=r_open6 hs hw.ne hi h64 out g false
   exact⟨0,x',g',z',Q142_tree _ _ _ _ _ _ _ _ ⟨false,_,r_is0 hs hw.ne hi0,fun hf=>(by cases hf),fun _=>⟨true,_,r_is1 hs hi,fun _=>⟨some 6,x',g',z',q,rfl,rfl,rfl,rfl⟩,fun hf=>absurd rfl hf⟩⟩⟩
  rw[if_neg h64]
  have q2:=r_open1 hs hL hi h64 out g false
  have h3:=(ih L hL hT ts.tail (suf_shift hs) (hw.shift hi) out (by omega) (d+1) (by omega) g).un
  cases hb:unS n (d+1) ts.tail out with
  | no=>rw[hb] at h3;simp only[PR.bind,OkE] at h3 ⊢;omega
  | er e =>
   rw[hb] at h3
   obtain⟨b,x',g',z',q3⟩:=h3
   exact⟨0,x',g',z',Q142_tree _ _ _ _ _ _ _ _ ⟨false,_,r_is0 hs hw.ne hi0,fun hf=>(by cases hf),fun _=>⟨true,_,r_is1 hs hi,fun _=>⟨none,_,_,_,q2,some e,b,x',g',z',q3,rfl,rfl,rfl,rfl⟩,fun hf=>absurd rfl hf⟩⟩⟩
  | ok b ts2 out2 =>
   rw[hb] at h3
   obtain⟨s2,w2,l2,o2,q3⟩:=h3
   simp only[PR.bind]
   refine⟨s2,w2,by omega,by simp;omega,Q142_tree _ _ _ _ _ _ _ _ ⟨false,_,r_is0 hs hw.ne hi0,fun hf=>(by cases hf),fun _=>⟨true,_,r_is1 hs hi,fun _=>⟨none,_,_,_,q2,none,b,_,_,_,q3,⟨by simp only[pe];omega,by simp only[pe];omega⟩,_,_,_,_,r_put _ out2 _ g false 8 [] [b] (by simp) (by omega),rfl,rfl,?_,rfl,rfl⟩,fun hf=>absurd rfl hf⟩⟩⟩
   simp only[pe]
   congr 1
   omega
 rw[if_neg hi]
 have h1:=(ih L hL hT ts hs hw out ho d hd g).post
 cases hc:postS n d ts out with
 | no=>rw[hc] at h1;simp only[OkE] at h1 ⊢;omega
 | er e =>
  rw[hc] at h1
  obtain⟨a,x',g',z',q⟩:=h1
  exact⟨a,x',g',z',Q142_tree _ _ _ _ _ _ _ _ ⟨false,_,r_is0 hs hw.ne hi0,fun hf=>(by cases hf),fun _=>⟨false,_,r_is0 hs hw.ne (by simpa using hi),fun hf=>(by cases hf),fun _=>⟨some e,a,x',g',z',q,rfl,rfl,rfl,rfl⟩⟩⟩⟩
 | ok a ts1 out1 =>
  rw[hc] at h1
  obtain⟨s1,w1,l1,o1,q1⟩:=h1
  exact⟨s1,w1,l1,o1,Q142_tree _ _ _ _ _ _ _ _ ⟨false,_,r_is0 hs hw.ne hi0,fun hf=>(by cases hf),fun _=>⟨false,_,r_is0 hs hw.ne (by simpa using hi),fun hf=>(by cases hf),fun _=>⟨none,a,_,_,_,q1,rfl,rfl,rfl,rfl,rfl⟩⟩⟩⟩
theorem sp_post:OkE L ts out d d g 1 (20*ts.length+1) (n+1) R_Q167 (postS (n+1) d ts out):=by
 simp only[postS]
 have h1:=(ih L hL hT ts hs hw out ho d hd g).prim
 cases hc:primS n d ts out with
 | no=>rw[hc] at h1;simp only[PR.bind,OkE] at h1 ⊢;omega
 | er e =>
  rw[hc] at h1
  obtain⟨a,x',g',z',q⟩:=h1
  exact⟨a,x',g',z',Q167_tree _ _ _ _ _ _ _ _ ⟨some e,a,x',g',z',q,rfl,rfl,rfl,rfl⟩⟩
 | ok a ts1 out1 =>
  rw[hc] at h1
  obtain⟨s1,w1,l1,o1,q1⟩:=h1
  simp only[PR.bind]
  have h2:=(ih L hL hT ts1 s1 w1 out1 (by omega) d hd g).postl a
  cases hl:postL n d a ts1 out1 with
  | no=>rw[hl] at h2;simp only[OkE] at h2 ⊢;omega
  | er e =>
   rw[hl] at h2
   obtain⟨b,x',g',z',q⟩:=h2
   exact⟨b,x',g',z',Q167_tree _ _ _ _ _ _ _ _ ⟨none,a,_,_,_,q1,q⟩⟩
  | ok b ts2 out2 =>
   rw[hl] at h2
   obtain⟨s2,w2,l2,o2,q2⟩:=h2
   exact⟨s2,w2,by omega,by omega,Q167_tree _ _ _ _ _ _ _ _ ⟨none,a,_,_,_,q1,q2⟩⟩
theorem sp_postl (a:Int):OkE L ts out d d g 0 (20*ts.length) (n+1) (At_Q167_1 a) (postL (n+1) d a ts out):=by
 simp only[postL]
 by_cases hi:isS [91] ts=true
 ·rw[if_pos hi]
  simp only[openS,if_pos hi]
  have hlen:=len_shift hi
  by_cases h64:64≤d
  ·rw[if_pos h64]
   obtain⟨x',g',z',q⟩:=r_open6 hs hw.ne hi h64 out g false
   exact⟨0,x',g',z',At_Q167_1_step _ _ _ _ _ _ _ _ _ ⟨true,_,r_is1 hs hi,fun _=>⟨some 6,x',g',z',q,rfl,rfl,rfl,rfl⟩,fun hf=>absurd rfl hf⟩⟩
  rw[if_neg h64]
  have q2:=r_open1 hs hL hi h64 out g false
  have h3:=(ih L hL hT ts.tail (suf_shift hs) (hw.shift hi) out (by omega) (d+1) (by omega) g).expr
  cases hb:exprS n (d+1) ts.tail out with
  | no=>rw[hb] at h3;simp only[PR.bind,OkE] at h3 ⊢;omega
  | er e =>
   rw[hb] at h3
   obtain⟨b,x',g',z',q3⟩:=h3
   exact⟨0,x',g',z',At_Q167_1_step _ _ _ _ _ _ _ _ _ ⟨true,_,r_is1 hs hi,fun _=>⟨none,_,_,_,q2,some e,b,x',g',z',q3,rfl,rfl,rfl,rfl⟩,fun hf=>absurd rfl hf⟩⟩
  | ok b ts2 out2 =>
   rw[hb] at h3
   obtain⟨s2,w2,l2,o2,q3⟩:=h3
   simp only[PR.bind,needS]
   by_cases hi2:isS [93] ts2=true
   ·rw[if_pos hi2]
    have hlen2:=len_shift hi2
    have q4:=r_shut1 s2 hL hi2 (d:=d) (by omega) out2 g false
    have h4:=(ih L hL hT ts2.tail (suf_shift s2) (w2.shift hi2) (out2++[nd 7 [] [a,b]]) (by simp;omega) d hd g).postl (out2.length:Nat)
    cases hl:postL n d (out2.length:Nat) ts2.tail (out2++[nd 7 [] [a,b]]) with
    | no=>rw[hl] at h4;simp only[OkE] at h4 ⊢;omega
    | er e =>
     rw[hl] at h4
     obtain⟨c,x',g',z',q⟩:=h4
     exact⟨c,x',g',z',At_Q167_1_step _ _ _ _ _ _ _ _ _ ⟨true,_,r_is1 hs hi,fun _=>⟨none,_,_,_,q2,none,b,_,_,_,q3,none,_,_,_,q4,_,_,_,_,r_put _ out2 _ g false 7 [] [a,b] (by simp) (by omega),q⟩,fun hf=>absurd rfl hf⟩⟩
    | ok c ts3 out3 =>
     rw[hl] at h4
     obtain⟨s3,w3,l3,o3,q⟩:=h4
     simp only[List.length_append,List.length_cons,List.length_nil] at o3
     exact⟨s3,w3,by omega,by omega,At_Q167_1_step _ _ _ _ _ _ _ _ _ ⟨true,_,r_is1 hs hi,fun _=>⟨none,_,_,_,q2,none,b,_,_,_,q3,none,_,_,_,q4,_,_,_,_,r_put _ out2 _ g false 7 [] [a,b] (by simp) (by omega),q⟩,fun hf=>absurd rfl hf⟩⟩
   rw[if_neg hi2]
   obtain⟨x',g',z',q⟩:=r_shut5 s2 w2.ne (by simpa using hi2) (d+1) out2 g false
   exact⟨0,x',g',z',At_Q167_1_step _ _ _ _ _ _ _ _ _ ⟨true,_,r_is1 hs hi,fun _=>⟨none,_,_,_,q2,none,b,_,_,_,q3,some 5,x',g',z',q,rfl,rfl,rfl,rfl⟩,fun hf=>absurd rfl hf⟩⟩
 rw[if_neg hi]
 exact⟨hs,hw,by omega,by omega,At_Q167_1_step _ _ _ _ _ _ _ _ _ ⟨false,_,r_is0 hs hw.ne (by simpa using hi),fun hf=>(by cases hf),fun _=>⟨rfl,rfl,rfl,rfl,rfl⟩⟩⟩
theorem sp_many (e:List UInt8) (h65:d+1≤64):OkE L ts out (d+1) d g 1 (20*ts.length+10) (n+1) (fun x g z=>R_Q203 x g z e) (manyS (n+1) (d+1) e ts out):=by
 simp only[manyS]
 by_cases hi:isS e ts=true
 ·rw[if_pos hi]
  have hlen:=len_shift hi
  exact⟨suf_shift hs,hw.shift hi,by omega,by omega,Q203_tree _ _ _ _ _ _ _ _ _ ⟨true,_,r_is1 hs hi,fun _=>⟨none,_,_,_,r_shut1 hs hL hi (d:=d) (by omega) out g false,rfl,rfl,rfl,rfl,rfl⟩,fun hf=>absurd rfl hf⟩⟩
 rw[if_neg hi]
 have hi0:isS e ts=false:=by simpa using hi
 have h1:=(ih L hL hT ts hs hw out ho (d+1) h65 g).expr
 cases hc:exprS n (d+1) ts out with
 | no=>rw[hc] at h1;simp only[PR.bind,OkE] at h1 ⊢;omega
 | er e' =>
  rw[hc] at h1
  obtain⟨a,x',g',z',q⟩:=h1
  exact⟨[],x',g',z',Q203_tree _ _ _ _ _ _ _ _ _ ⟨false,_,r_is0 hs hw.ne hi0,fun hf=>(by cases hf),fun _=>⟨some e',a,x',g',z',q,rfl,rfl,rfl,rfl⟩⟩⟩
 | ok a ts1 out1 =>
  rw[hc] at h1
  obtain⟨s1,w1,l1,o1,q1⟩:=h1
  simp only[PR.bind]
  have h2:=(ih L hL hT ts1 s1 w1 out1 (by omega) d hd g).manyl e [a] (by have:=suf_len s1;simp;omega) h65
  cases hl:manyL n (d+1) e [a] ts1 out1 with
  | no=>rw[hl] at h2;simp only[OkE] at h2 ⊢;omega
  | er e' =>
   rw[hl] at h2
   obtain⟨b,x',g',z',q⟩:=h2
   exact⟨b,x',g',z',Q203_tree _ _ _ _ _ _ _ _ _ ⟨false,_,r_is0 hs hw.ne hi0,fun hf=>(by cases hf),fun _=>⟨none,a,_,_,_,q1,q⟩⟩⟩
  | ok b ts2 out2 =>
   rw[hl] at h2
   obtain⟨s2,w2,l2,o2,q2⟩:=h2
   exact⟨s2,w2,by omega,by omega,Q203_tree _ _ _ _ _ _ _ _ _ ⟨false,_,r_is0 hs hw.ne hi0,fun hf=>(by cases hf),fun _=>⟨none,a,_,_,_,q1,q2⟩⟩⟩
theorem sp_manyl (e:List UInt8) (l:List Int) (hl:l.length+ts.length≤1000000) (h65:d+1≤64):OkE L ts out (d+1) d g 1 (20*ts.length) (n+1) (At_Q203_1 e l) (manyL (n+1) (d+1) e l ts out):=by
 simp only[manyL]
 by_cases hi:isS [44] ts=true
 ·rw[if_pos hi]
  have hlen:=len_shift hi
  have h1:=(ih L hL hT ts.tail (suf_shift hs) (hw.shift hi) out (by omega) (d+1) h65 g).expr
  cases hc:exprS n (d+1) ts.tail out with
  | no=>rw[hc] at h1;simp only[PR.bind,OkE] at h1 ⊢;omega
  | er e' =>
   rw[hc] at h1
   obtain⟨a,x',g',z',q⟩:=h1
   exact⟨[],x',g',z',At_Q203_1_step _ _ _ _ _ _ _ _ _ _ ⟨true,_,r_may1 hs hL hi,fun _=>⟨some e',a,x',g',z',q,rfl,rfl,rfl,rfl⟩,fun hf=>absurd rfl hf⟩⟩
  | ok a ts1 out1 =>
   rw[hc] at h1
   obtain⟨s1,w1,l1,o1,q1⟩:=h1
   simp only[PR.bind]
   have h2:=(ih L hL hT ts1 s1 w1 out1 (by omega) d hd g).manyl e (l++[a]) (by simp;omega) h65
   have hb:bigRow (l.length+1) 8:=by simp only[bigRow];omega
   cases hl2:manyL n (d+1) e (l++[a]) ts1 out1 with
   | no=>rw[hl2] at h2;simp only[OkE] at h2 ⊢;omega
   | er e' =>
    rw[hl2] at h2
    obtain⟨b,x',g',z',q⟩:=h2
    exact⟨b,x',g',z',At_Q203_1_step _ _ _ _ _ _ _ _ _ _ ⟨true,_,r_may1 hs hL hi,fun _=>⟨none,a,_,_,_,q1,hb,q⟩,fun hf=>absurd rfl hf⟩⟩
   | ok b ts2 out2 =>
    rw[hl2] at h2
    obtain⟨s2,w2,l2,o2,q2⟩:=h2
    exact⟨s2,w2,by omega,by omega,At_Q203_1_step _ _ _ _ _ _ _ _ _ _ ⟨true,_,r_may1 hs hL hi,fun _=>⟨none,a,_,_,_,q1,hb,q2⟩,fun hf=>absurd rfl hf⟩⟩
 rw[if_neg hi]
 have hi0:isS [44] ts=false:=by simpa using hi
 simp only[needS]
 by_cases hi2:isS e ts=true
 ·rw[if_pos hi2]
  have hlen:=len_shift hi2
  exact⟨suf_shift hs,hw.shift hi2,by omega,by omega,At_Q203_1_step _ _ _ _ _ _ _ _ _ _ ⟨false,_,r_may0 hs hw.ne hi0,fun hf=>(by cases hf),fun _=>⟨none,_,_,_,r_shut1 hs hL hi2 (d:=d) (by omega) out g false,rfl,rfl,rfl,rfl,rfl⟩⟩⟩
 rw[if_neg hi2]
 obtain⟨x',g',z',q⟩:=r_shut5 hs hw.ne (by simpa using hi2) (d+1) out g false
 exact⟨[],x',g',z',At_Q203_1_step _ _ _ _ _ _ _ _ _ _ ⟨false,_,r_may0 hs hw.ne hi0,fun hf=>(by cases hf),fun _=>⟨some 5,x',g',z',q,rfl,rfl,rfl,rfl⟩⟩⟩
theorem sp_manyn (e:List UInt8) (h65:d+1≤64):∀ b ts2 out2,manyS (n+1) (d+1) e ts out=.ok b ts2 out2→b.length≤ts.length:=by
 intro b ts2 out2 hb
 simp only[manyS] at hb
 by_cases hi:isS e ts=true
 ·rw[if_pos hi] at hb
  cases hb
  simp
 rw[if_neg hi] at hb
 have h1:=(ih L hL hT ts hs hw out ho (d+1) h65 0).expr
 cases hc:exprS n (d+1) ts out with
 | no=>rw[hc] at hb;cases hb
 | er e'=>rw[hc] at hb;cases hb
 | ok a ts1 out1 =>
  rw[hc] at hb h1
  obtain⟨s1,w1,l1,o1,_⟩:=h1
  have:=(ih L hL hT ts1 s1 w1 out1 (by omega) d hd 0).manyln e [a] h65 b ts2 out2 hb
  simp at this
  omega
theorem sp_manyln (e:List UInt8) (l:List Int) (h65:d+1≤64):∀ b ts2 out2,manyL (n+1) (d+1) e l ts out=.ok b ts2 out2→b.length≤l.length+ts.length:=by
 intro b ts2 out2 hb
 simp only[manyL] at hb
 by_cases hi:isS [44] ts=true
 ·rw[if_pos hi] at hb
  have hlen:=len_shift hi
  have h1:=(ih L hL hT ts.tail (suf_shift hs) (hw.shift hi) out (by omega) (d+1) h65 0).expr
  cases hc:exprS n (d+1) ts.tail out with
  | no=>rw[hc] at hb;cases hb
  | er e'=>rw[hc] at hb;cases hb
  | ok a ts1 out1 =>
   rw[hc] at hb h1
   obtain⟨s1,w1,l1,o1,_⟩:=h1
   have:=(ih L hL hT ts1 s1 w1 out1 (by omega) d hd 0).manyln e (l++[a]) h65 b ts2 out2 hb
   simp at this
   omega
 rw[if_neg hi] at hb
 simp only[needS] at hb
 split at hb
 ·cases hb;omega
 cases hb
omit hs hw ho in
theorem sp_word {t:Token} {ts:List Token} (hs:(t::ts) <:+ L) (hw:W (t::ts)) (ho:out.length+(t::ts).length≤1000000) (hk:t.Kind=3):OkE L (t::ts) out d d g 1 (20*(t::ts).length) (n+1) R_Q201 (primS (n+1) d (t::ts) out):=by
 have hk0:t.Kind≠0:=by rw[hk];decide
 have hs1:=suf_tail hs
 have hw1:=hw.tail hk0
 have q0:=r_name1 hs hL hk
 have hT1:t.Text.length+1≤maxInt:=by have:=hT t (hs.mem (by simp));simp only[maxInt];omega
 simp only[List.length_cons] at ho
 simp only[primS,if_pos hk]
 by_cases h1:t.Text=[116,114,117,101]
 ·rw[if_pos h1]
  exact⟨hs1,hw1,by simp,by simp;omega,Q201_tree _ _ _ _ _ _ _ _ ⟨none,_,_,q0,fun _=>⟨_,_,_,_,r_num _ out _ g 3 1 (by omega),rfl,rfl,rfl,rfl,rfl⟩,fun hf=>absurd h1 hf⟩⟩
 rw[if_neg h1]
 by_cases h2:t.Text=[102,97,108,115,101]
 ·rw[if_pos h2]
  exact⟨hs1,hw1,by simp,by simp;omega,Q201_tree _ _ _ _ _ _ _ _ ⟨none,_,_,q0,fun hf=>absurd hf h1,fun _=>⟨fun _=>⟨_,_,_,_,r_num _ out _ g 3 0 (by omega),rfl,rfl,rfl,rfl,rfl⟩,fun hf=>absurd h2 hf⟩⟩⟩
 rw[if_neg h2]
 by_cases hi:isS [46] ts=true
 ·rw[if_pos hi]
  have hlen:=len_shift hi
  have hs2:=suf_shift hs1
  have hw2:=hw1.shift hi
  have q1:=r_may1 hs1 hL hi
  cases he:ts.tail with
  | nil=>rw[he] at hw2;exact hw2.elim
  | cons u us =>
   rw[he] at hs2 hw2 q1 hlen
   simp only[List.length_cons] at hlen
   have hT2:t.Text.length+1+u.Text.length≤maxInt:=by have:=hT t (hs.mem (by simp));have:=hT u (hs2.mem (by simp));simp only[maxInt];omega
   by_cases hu:u.Kind=3
   ·simp only[if_pos hu]
    have hu0:u.Kind≠0:=by rw[hu];decide
    exact⟨suf_tail hs2,hw2.tail hu0,by simp;omega,by simp;omega,Q201_tree _ _ _ _ _ _ _ _ ⟨none,_,_,q0,fun hf=>absurd hf h1,fun _=>⟨fun hf=>absurd hf h2,fun _=>⟨true,_,q1,fun _=>⟨hT1,none,_,_,r_name1 hs2 hL hu,hT2,_,_,_,_,r_put _ out _ g false 4 _ [] (by simp) (by omega),rfl,rfl,rfl,rfl,rfl⟩,fun hf=>absurd rfl hf⟩⟩⟩⟩
   simp only[if_neg hu]
   exact⟨0,_,_,_,Q201_tree _ _ _ _ _ _ _ _ ⟨none,_,_,q0,fun hf=>absurd hf h1,fun _=>⟨fun hf=>absurd hf h2,fun _=>⟨true,_,q1,fun _=>⟨hT1,some 5,[],_,r_name0 hs2 hu [],rfl,rfl,rfl,rfl⟩,fun hf=>absurd rfl hf⟩⟩⟩⟩
 rw[if_neg hi]
 have hi0:isS [46] ts=false:=by simpa using hi
 have q1:=r_may0 hs1 hw1.ne hi0
 simp only[openS]
 by_cases hp:isS [40] ts=true
 ·rw[if_pos hp]
  have hlen:=len_shift hp
  by_cases h64:64≤d
  ·rw[if_pos h64]
   obtain⟨x',g',z',q⟩:=r_open6 hs1 hw1.ne hp h64 out g false
   exact⟨0,x',g',z',Q201_tree _ _ _ _ _ _ _ _ ⟨none,_,_,q0,fun hf=>absurd hf h1,fun _=>⟨fun hf=>absurd hf h2,fun _=>⟨false,_,q1,fun hf=>(by cases hf),fun _=>⟨some 6,x',g',z',q,rfl,rfl,rfl,rfl⟩⟩⟩⟩⟩
  rw[if_neg h64]
  have q2:=r_open1 hs1 hL hp h64 out g false
  have h3:=(ih L hL hT ts.tail (suf_shift hs1) (hw1.shift hp) out (by omega) d hd g).many [41] (by omega)
  cases hb:manyS n (d+1) [41] ts.tail out with
  | no=>rw[hb] at h3;simp only[PR.bind,OkE,List.length_cons] at h3 ⊢;omega
  | er e =>
   rw[hb] at h3
   obtain⟨b,x',g',z',q3⟩:=h3
   exact⟨0,x',g',z',Q201_tree _ _ _ _ _ _ _ _ ⟨none,_,_,q0,fun hf=>absurd hf h1,fun _=>⟨fun hf=>absurd hf h2,fun _=>⟨false,_,q1,fun hf=>(by cases hf),fun _=>⟨none,_,_,_,q2,some e,b,x',g',z',q3,rfl,rfl,rfl,rfl⟩⟩⟩⟩⟩
  | ok b ts2 out2 =>
   rw[hb] at h3
   obtain⟨s2,w2,l2,o2,q3⟩:=h3
   simp only[PR.bind]
   have hbl:b.length≤1000000:=by
    have:=(ih L hL hT ts.tail (suf_shift hs1) (hw1.shift hp) out (by omega) d hd g).manyn [41] (by omega) b ts2 out2 hb
    omega
   exact⟨s2,w2,by simp;omega,by simp;omega,Q201_tree _ _ _ _ _ _ _ _ ⟨none,_,_,q0,fun hf=>absurd hf h1,fun _=>⟨fun hf=>absurd hf h2,fun _=>⟨false,_,q1,fun hf=>(by cases hf),fun _=>⟨none,_,_,_,q2,none,b,_,_,_,q3,_,_,_,_,r_put _ out2 _ g false 5 t.Text b hbl (by omega),rfl,rfl,rfl,rfl,rfl⟩⟩⟩⟩⟩
 rw[if_neg hp]
 obtain⟨x',g',z',q⟩:=r_open5 hs1 hw1.ne (by simpa using hp) d out g false
 exact⟨0,x',g',z',Q201_tree _ _ _ _ _ _ _ _ ⟨none,_,_,q0,fun hf=>absurd hf h1,fun _=>⟨fun hf=>absurd hf h2,fun _=>⟨false,_,q1,fun hf=>(by cases hf),fun _=>⟨some 5,x',g',z',q,rfl,rfl,rfl,rfl⟩⟩⟩⟩⟩
theorem sp_prim:OkE L ts out d d g 1 (20*ts.length) (n+1) R_Q180 (primS (n+1) d ts out):=by
 cases ts with
 | nil=>exact hw.elim
 | cons t ts =>
  by_cases hk:t.Kind=3
  ·have h:=sp_word ih hL hT hd g hs hw ho hk
   cases hc:primS (n+1) d (t::ts) out with
   | no=>rw[hc] at h;exact h
   | er e =>
    rw[hc] at h
    obtain⟨a,x',g',z',q⟩:=h
    exact⟨a,x',g',z',Q180_tree _ _ _ _ _ _ _ _ ⟨t,_,r_now hs,fun _=>⟨some e,a,x',g',z',q,rfl,rfl,rfl,rfl⟩,fun hf=>absurd hk hf⟩⟩
   | ok a ts1 out1 =>
    rw[hc] at h
    obtain⟨s1,w1,l1,o1,q⟩:=h
    exact⟨s1,w1,l1,o1,Q180_tree _ _ _ _ _ _ _ _ ⟨t,_,r_now hs,fun _=>⟨none,a,_,_,_,q,rfl,rfl,rfl,rfl,rfl⟩,fun hf=>absurd hk hf⟩⟩
  have hI:I64 ((pt L (t::ts)).pos+1):=by simp only[pt,I64];omega
  have ho1:out.length≤1000000:=by omega
  have hlc:(t::ts).length=ts.length+1:=rfl
  simp only[primS,if_neg hk]
  by_cases h1:t.Kind=1
  ·rw[if_pos h1]
   have hk0:t.Kind≠0:=by rw[h1];decide
   refine⟨suf_tail hs,hw.tail hk0,by simp,by simp;omega,Q180_tree _ _ _ _ _ _ _ _ ⟨t,_,r_now hs,fun hf=>absurd hf hk,fun _=>⟨fun _=>⟨hI,_,_,_,_,r_num _ out _ g 1 t.Num ho1,rfl,rfl,?_,rfl,rfl⟩,fun hf=>absurd h1 hf⟩⟩⟩
   rw[pt_next hs]
   rfl
  rw[if_neg h1]
  by_cases h2:t.Kind=2
  ·rw[if_pos h2]
   have hk0:t.Kind≠0:=by rw[h2];decide
   refine⟨suf_tail hs,hw.tail hk0,by simp,by simp;omega,Q180_tree _ _ _ _ _ _ _ _ ⟨t,_,r_now hs,fun hf=>absurd hf hk,fun _=>⟨fun hf=>absurd hf h1,fun _=>⟨fun _=>⟨hI,_,_,_,_,r_put _ out _ g false 2 [] [] (by simp) ho1,by omega,by simp,rfl,nd 2 [] [],by simp,rfl,rfl,?_,rfl,rfl⟩,fun hf=>absurd h2 hf⟩⟩⟩⟩
   rw[pt_next hs]
   simp[pe,nd]
  rw[if_neg h2]
  by_cases hi:isS [91] (t::ts)=true
  ·rw[if_pos hi]
   simp only[openS,if_pos hi]
   have hlen:=len_shift hi
   by_cases h64:64≤d
   ·rw[if_pos h64]
    obtain⟨x',g',z',q⟩:=r_open6 hs hw.ne hi h64 out g false
    exact⟨0,x',g',z',Q180_tree _ _ _ _ _ _ _ _ ⟨t,_,r_now hs,fun hf=>absurd hf hk,fun _=>⟨fun hf=>absurd hf h1,fun _=>⟨fun hf=>absurd hf h2,fun _=>⟨true,_,r_is1 hs hi,fun _=>⟨some 6,x',g',z',q,rfl,rfl,rfl,rfl⟩,fun hf=>absurd rfl hf⟩⟩⟩⟩⟩
   rw[if_neg h64]
   have q2:=r_open1 hs hL hi h64 out g false
   have h3:=(ih L hL hT (t::ts).tail (suf_shift hs) (hw.shift hi) out (by omega) d hd g).many [93] (by omega)
   cases hb:manyS n (d+1) [93] (t::ts).tail out with
   | no=>rw[hb] at h3;simp only[PR.bind,OkE] at h3 ⊢;omega
   | er e =>
    rw[hb] at h3
    obtain⟨b,x',g',z',q3⟩:=h3
    exact⟨0,x',g',z',Q180_tree _ _ _ _ _ _ _ _ ⟨t,_,r_now hs,fun hf=>absurd hf hk,fun _=>⟨fun hf=>absurd hf h1,fun _=>⟨fun hf=>absurd hf h2,fun _=>⟨true,_,r_is1 hs hi,fun _=>⟨none,_,_,_,q2,some e,b,x',g',z',q3,rfl,rfl,rfl,rfl⟩,fun hf=>absurd rfl hf⟩⟩⟩⟩⟩
   | ok b ts2 out2 =>
    have hbl:b.length≤1000000:=by
     have:=(ih L hL hT (t::ts).tail (suf_shift hs) (hw.shift hi) out (by omega) d hd 0).manyn [93] (by omega) b ts2 out2 hb
     omega
    rw[hb] at h3
    obtain⟨s2,w2,l2,o2,q3⟩:=h3
    simp only[PR.bind]
    exact⟨s2,w2,by omega,by simp only[List.length_append,List.length_cons,List.length_nil] at *;omega,Q180_tree _ _ _ _ _ _ _ _ ⟨t,_,r_now hs,fun hf=>absurd hf hk,fun _=>⟨fun hf=>absurd hf h1,fun _=>⟨fun hf=>absurd hf h2,fun _=>⟨true,_,r_is1 hs hi,fun _=>⟨none,_,_,_,q2,none,b,_,_,_,q3,_,_,_,_,r_put _ out2 _ g false 6 [] b hbl (by omega),rfl,rfl,rfl,rfl,rfl⟩,fun hf=>absurd rfl hf⟩⟩⟩⟩⟩
  rw[if_neg hi]
  have hi0:isS [91] (t::ts)=false:=by simpa using hi
  simp only[openS]
  by_cases hp:isS [40] (t::ts)=true
  ·rw[if_pos hp]
   have hlen:=len_shift hp
   by_cases h64:64≤d
   ·rw[if_pos h64]
    obtain⟨x',g',z',q⟩:=r_open6 hs hw.ne hp h64 out g false
    exact⟨0,x',g',z',Q180_tree _ _ _ _ _ _ _ _ ⟨t,_,r_now hs,fun hf=>absurd hf hk,fun _=>⟨fun hf=>absurd hf h1,fun _=>⟨fun hf=>absurd hf h2,fun _=>⟨false,_,r_is0 hs hw.ne hi0,fun hf=>(by cases hf),fun _=>⟨some 6,x',g',z',q,rfl,rfl,rfl,rfl⟩⟩⟩⟩⟩⟩
   rw[if_neg h64]
   have q2:=r_open1 hs hL hp h64 out g false
   have h3:=(ih L hL hT (t::ts).tail (suf_shift hs) (hw.shift hp) out (by omega) (d+1) (by omega) g).expr
   cases hb:exprS n (d+1) (t::ts).tail out with
   | no=>rw[hb] at h3;simp only[PR.bind,OkE] at h3 ⊢;omega
   | er e =>
    rw[hb] at h3
    obtain⟨b,x',g',z',q3⟩:=h3
    exact⟨0,x',g',z',Q180_tree _ _ _ _ _ _ _ _ ⟨t,_,r_now hs,fun hf=>absurd hf hk,fun _=>⟨fun hf=>absurd hf h1,fun _=>⟨fun hf=>absurd hf h2,fun _=>⟨false,_,r_is0 hs hw.ne hi0,fun hf=>(by cases hf),fun _=>⟨none,_,_,_,q2,some e,b,x',g',z',q3,rfl,rfl,rfl,rfl⟩⟩⟩⟩⟩⟩
   | ok b ts2 out2 =>
    rw[hb] at h3
    obtain⟨s2,w2,l2,o2,q3⟩:=h3
    simp only[PR.bind,needS]
    by_cases hi2:isS [41] ts2=true
    ·rw[if_pos hi2]
     have hlen2:=len_shift hi2
     exact⟨suf_shift s2,w2.shift hi2,by omega,by omega,Q180_tree _ _ _ _ _ _ _ _ ⟨t,_,r_now hs,fun hf=>absurd hf hk,fun _=>⟨fun hf=>absurd hf h1,fun _=>⟨fun hf=>absurd hf h2,fun _=>⟨false,_,r_is0 hs hw.ne hi0,fun hf=>(by cases hf),fun _=>⟨none,_,_,_,q2,none,b,_,_,_,q3,none,_,_,_,r_shut1 s2 hL hi2 (d:=d) (by omega) out2 g false,rfl,rfl,rfl,rfl,rfl⟩⟩⟩⟩⟩⟩
    rw[if_neg hi2]
    obtain⟨x',g',z',q⟩:=r_shut5 s2 w2.ne (by simpa using hi2) (d+1) out2 g false
    exact⟨0,x',g',z',Q180_tree _ _ _ _ _ _ _ _ ⟨t,_,r_now hs,fun hf=>absurd hf hk,fun _=>⟨fun hf=>absurd hf h1,fun _=>⟨fun hf=>absurd hf h2,fun _=>⟨false,_,r_is0 hs hw.ne hi0,fun hf=>(by cases hf),fun _=>⟨none,_,_,_,q2,none,b,_,_,_,q3,some 5,x',g',z',q,rfl,rfl,rfl,rfl⟩⟩⟩⟩⟩⟩
  rw[if_neg hp]
  obtain⟨x',g',z',q⟩:=r_open5 hs hw.ne (by simpa using hp) d out g false
  exact⟨0,x',g',z',Q180_tree _ _ _ _ _ _ _ _ ⟨t,_,r_now hs,fun hf=>absurd hf hk,fun _=>⟨fun hf=>absurd hf h1,fun _=>⟨fun hf=>absurd hf h2,fun _=>⟨false,_,r_is0 hs hw.ne hi0,fun hf=>(by cases hf),fun _=>⟨some 5,x',g',z',q,rfl,rfl,rfl,rfl⟩⟩⟩⟩⟩⟩
end
theorem sp_all:∀ n,SpA n
 | 0=>sp_zero
 | n+1=>fun L hL hT ts hs hw out ho d hd g =>
  have ih:=sp_all n
  ⟨sp_expr ih hL hT hs hw ho hd g,sp_chain ih hL hT hs hw ho hd g,sp_loop ih hL hT hs hw ho hd g,sp_un ih hL hT hs hw ho hd g,sp_post ih hL hT hs hw ho hd g,sp_postl ih hL hT hs hw ho hd g,sp_many ih hL hT hs hw ho hd g,sp_manyl ih hL hT hs hw ho hd g,sp_prim ih hL hT hs hw ho hd g,sp_manyn ih hL hT hs hw ho hd,sp_manyln ih hL hT hs hw ho hd⟩
theorem sp_Q40:SP 40=some (.code sc_Q40):=SPof_code rfl Tryz.func40 comp_Q40
theorem Q40_tree (b:PBlocks) (b_g2:Nat) (b_z2:Bool) (c0_:PV) (o:Option Int) (b':PBlocks) (b'_g2:Nat) (b'_z2:Bool) (c0_':PV) (T :
  ∃ (o2:Option Int) (r1:List Node) (y3:PExprs) (g4:Nat) (z5:Bool),(R_Q41 b.exprs b_g2 b_z2 o2 r1 y3 g4 z5) ∧
 (match o2 with
 | none=>(∃ (r7:Token) (y8:PTokens),(R_Q38 y3.tokens r7 y8) ∧
  ((r7.Kind=0) →
   none=o∧(PBlocks.mk (PExprs.mk y8 y3.out y3.deep))=b'∧g4=b'_g2∧z5=b'_z2∧(.list 5 (r1.map eNode) false)=c0_') ∧
  (¬ (r7.Kind=0) →
   ∃ (o9:Option Int) (y10:PTokens),(R_Q42 y8 5 o9 y10) ∧
   (match o9 with
   | none=>(False )
   | some e11=>(some e11=o∧(PBlocks.mk (PExprs.mk y10 y3.out y3.deep))=b'∧g4=b'_g2∧z5=b'_z2∧(.list 5 (r1.map eNode) false)=c0_'))))
 | some e6=>(some e6=o∧(PBlocks.mk y3)=b'∧g4=b'_g2∧z5=b'_z2∧c0_=c0_'))):R_Q40 b b_g2 b_z2 c0_ o b' b'_g2 b'_z2 c0_':=by
 intro S n0 t0 n1 t1 H0 H1 Hn
 obtain⟨hb0,ha0⟩:=H0
 have hne:=two_ne Hn
 obtain⟨w0,hB0⟩:=take_some hb0
 have hn0:=o_getBox_lt hB0
 have hb1:=H1
 obtain⟨w1,hB1⟩:=take_some hb1
 have hn1:=o_getBox_lt hB1
 rw[call_code sp_Q40 _ _ rfl]
 have F:=U_Q40
 obtain⟨o2,r1,y3,g4,z5,q1,T⟩:=T
 simp only[R_Q41,lF] at q1
 replace F:=aa ha0<|aa hne<|aa hB0<|aa hn0<|aa hB1<|aa hn1<|aa q1<|F
 cases o2 with
 | none =>
   dsimp only at T
   obtain⟨r7,y8,q2,T⟩:=T
   simp only[R_Q38,lF] at q2
   replace F:=aa q2<|F
   by_cases c3:r7.Kind=0
   ·replace T:=T.1 c3
    obtain⟨rfl,rfl,rfl,rfl,rfl⟩:=T
    exact fi (aa (eq_true c3)<|F)
   replace T:=T.2 c3
   obtain⟨o9,y10,q4,T⟩:=T
   simp only[R_Q42,lF] at q4
   replace F:=aa (eq_false c3)<|aa q4<|F
   cases o9 with
   | none=>exact False.elim T
   | some e11 =>
     dsimp only at T
     obtain⟨rfl,rfl,rfl,rfl,rfl⟩:=T
     exact fi F
 | some e6 =>
   dsimp only at T
   obtain⟨rfl,rfl,rfl,rfl,rfl⟩:=T
   exact fi F
theorem recB_nor {r:RecF} {ops post:Ac→EO} {ac:Ac}:recB r ops post (.nor ac)=recA r (ac.e r.t0=.ptr 0 r.t0 0) post (ops (ac.put (some r.d) .junk)):=rfl
theorem recB_ret {r:RecF} {ops post:Ac→EO} {ac:Ac}:recB r ops post (.ret ac)=retOf r.res ac:=rfl
theorem recA_nor {r:RecF} {b:Prop} {post:Ac→EO} {ac:Ac}:recA r b post (.nor ac)=recC r.res (post ac):=rfl
theorem recA_pan {r:RecF} {b:Prop} {post:Ac→EO} {v:PV} {S:Sto}:recA r b post (.pan v S)=recV r b v S:=rfl
theorem recC_nor {res:List RX} {ac:Ac}:recC res (.nor ac)=retOf res ac:=rfl
theorem recC_ret {res:List RX} {ac:Ac}:recC res (.ret ac)=retOf res ac:=rfl
theorem recV_eq {r:RecF} {b:Prop} {t:Nat} {k:IntKind} {n:Int} {S:Sto}:recV r b (.iface t (.int k n)) S=if b∧t=r.T then (match storeP S 1 (.ptr 0 r.t0 0) (.int k n) with | some S=>retOf r.res ⟨upd (fun _=>.junk) r.t0 (.ptr 0 r.t0 0),S⟩ | none=>.bad) else .bad:=rfl
def pb0 (L:List Token):PBlocks:=.mk (.mk (.mk L 0) [] 0)
theorem rd_no {s:List UInt8} {L:List Token} {e:Int} (hl:R_Q60 s L e) (he:¬ e=0) (c:PV) (hc:PV.dn c.up=some c) (g:Nat) (S:Sto):call SP 36 [.str s,.func g [c]] S=.ok (.v (.int .i64 e)) S:=by
 rw[call_rec sp_Q36 _ _ rfl]
 simp only[R_Q60] at hl
 have F:=aa hl<|aa (eq_false he)<|aa @recB_nor<|aa @recB_ret<|aa @recA_nor<|aa @recA_pan<|aa @recC_nor<|aa @recC_ret<|aa @recV_eq<|rcv_Q36.eq_1
 exact fi F
theorem sp_Q20:SP 20=some (.code sc_Q20):=SPof_code rfl Tryz.func20 comp_Q20
theorem r_Expr_no {s:List UInt8} {L:List Token} {e:Int} (hl:R_Q60 s L e) (he:¬ e=0):R_Q20 s [] e:=by
 intro S
 have h:=fun S=>rd_no hl he (.ptr 0 4 0) rfl 40 S
 rw[call_code sp_Q20 _ _ rfl]
 exact fi (aa h<|aa (eq_false he)<|U_Q20)
theorem rd_Expr {s:List UInt8} {L:List Token} (hl:R_Q60 s L 0) {t:Nat} {c c':PV} {f:Fr} {S:Sto} (hb:f.box t=some [c]) {o:Option Int} {b':PBlocks} {bg:Nat} {bz:Bool}
  (hc:R_Q40 (pb0 L) 0 false c o b' bg bz c') :
  call SP 36 [.str s,.func 40 [.ptr 0 t 0]] (f::S)=.ok (.v (.int .i64 (o.getD 0))) (setBox (f::S) 0 t [c']):=by
 rw[call_rec sp_Q36 _ _ rfl]
 simp only[R_Q60] at hl
 simp only[R_Q40,pb0,lF] at hc
 have F:=aa hl<|aa hb<|aa hc<|aa @recB_nor<|aa @recB_ret<|aa @recA_nor<|aa @recA_pan<|aa @recC_nor<|aa @recC_ret<|aa @recV_eq<|rcv_Q36.eq_1
 cases o with
 | none=>exact fi F
 | some e=>exact fi F
theorem r_Expr_ok {s:List UInt8} {L:List Token} (hl:R_Q60 s L 0) {b':PBlocks} {bg:Nat} {bz:Bool} {l:List Node}
  (hc:R_Q40 (pb0 L) 0 false (.sl 0 (.cell 4 0) 0 0 0 0 false) none b' bg bz (.list 5 (l.map eNode) false)):R_Q20 s l 0:=by
 intro S
 have h:=fun (f:Fr) (h1:f.box 4=some [.sl 0 (.cell 4 0) 0 0 0 0 false])=>rd_Expr (S:=S) hl h1 hc
 rw[call_code sp_Q20 _ _ rfl]
 exact fi (aa h<|aa (Option.getD_none (a:=(0:Int)))<|U_Q20)
theorem r_Expr_err {s:List UInt8} {L:List Token} (hl:R_Q60 s L 0) {b':PBlocks} {bg:Nat} {bz:Bool} {e:Int} (he:¬ e=0) {c':PV}
  (hc:R_Q40 (pb0 L) 0 false (.sl 0 (.cell 4 0) 0 0 0 0 false) (some e) b' bg bz c'):R_Q20 s [] e:=by
 intro S
 have h:=fun (f:Fr) (h1:f.box 4=some [.sl 0 (.cell 4 0) 0 0 0 0 false])=>rd_Expr (S:=S) hl h1 hc
 rw[call_code sp_Q20 _ _ rfl]
 exact fi (aa h<|aa (Option.getD_some (a:=e) (b:=(0:Int)))<|aa (eq_false he)<|U_Q20)
def wholeS (N:Nat) (ts:List Token):PR (List Node) :=
 match exprS N 0 ts [] with
 | .ok _ ts out=>.ok out ts []
 | .er e=>.er e
 | .no=>.no
structure TL (L:List Token):Prop where
 len:L.length≤1000000
 text:∀ t ∈ L,t.Text.length≤1000000
 part:∀ t ∈ L,∀ p ∈ t.Parts,p.Text.length≤1000000
def pb (L ts:List Token) (out:List Node):PBlocks:=⟨pe L ts out 0⟩
section
variable {L ts:List Token} (hT:TL L) (hs:ts <:+ L) (hw:W ts)
include hT hs hw
theorem r_whole {N:Nat} (hN:20*ts.length+10≤N):match wholeS N ts with
  | .ok nodes ts' _=>ts' <:+ L∧W ts'∧ts'.length+1≤ts.length∧∀ out g z,∃ g' z',R_Q41 (pe L ts out 0) g z none nodes (pe L ts' nodes 0) g' z'
  | .er e=>∀ out g z,∃ a x' g' z',R_Q41 (pe L ts out 0) g z (some e) a x' g' z'
  | .no=>False:=by
 have h:=fun g=>(sp_all N L hT.len hT.text ts hs hw [] (by have:=suf_len hs;have:=hT.len;simp;omega) 0 (by omega) g).expr
 simp only[wholeS]
 cases hc:exprS N 0 ts [] with
 | no=>have:=h 0;rw[hc] at this;simp only[OkE] at this;omega
 | er e =>
  intro out g z
  have:=h (g+1)
  rw[hc] at this
  obtain⟨a,x',g',z',q⟩:=this
  exact⟨[],x',g',z',Q41_tree _ _ _ _ _ _ _ _ ⟨some e,a,x',g',z',q,rfl,rfl,rfl,rfl⟩⟩
 | ok a ts1 out1 =>
  have h0:=h 0
  rw[hc] at h0
  obtain⟨s1,w1,l1,o1,_⟩:=h0
  refine⟨s1,w1,l1,fun out g z=>?_⟩
  have:=h (g+1)
  rw[hc] at this
  obtain⟨_,_,_,_,q⟩:=this
  exact⟨_,_,Q41_tree _ _ _ _ _ _ _ _ ⟨none,a,_,_,_,q,rfl,rfl,rfl,rfl,rfl⟩⟩
end
theorem pb0_eq (L:List Token):pb0 L=pb L L []:=by simp[pb0,pb,pe,pt]
def exprT (L:List Token):PR (List Node):=(wholeS (20*L.length+10) L).bind fun nodes ts _=>match ts with | []=>.no | t::_=>if t.Kind=0 then .ok nodes ts [] else .er 5
theorem r_ExprT {s:List UInt8} {L:List Token} (hx:R_Q60 s L 0) (hT:TL L) (hw:W L) :
  match exprT L with
  | .ok l _ _=>R_Q20 s l 0
  | .er e=>e≠0→R_Q20 s [] e
  | .no=>False:=by
 have h:=r_whole hT (List.suffix_refl L) hw (Nat.le_refl _)
 unfold exprT
 cases hc:wholeS (20*L.length+10) L with
 | no=>rw[hc] at h;exact h.elim
 | er e =>
  rw[hc] at h
  intro he
  obtain⟨a,x',g',z',q⟩:=h [] 0 false
  exact r_Expr_err hx he (by rw[pb0_eq];exact Q40_tree _ _ _ _ _ _ _ _ _ ⟨some e,a,x',g',z',q,rfl,rfl,rfl,rfl,rfl⟩)
 | ok nodes ts out =>
  rw[hc] at h
  obtain⟨s1,w1,l1,q⟩:=h
  obtain⟨g',z',q⟩:=q [] 0 false
  simp only[PR.bind]
  cases ts with
  | nil=>exact w1.elim
  | cons t ts =>
   simp only
   by_cases hk:t.Kind=0
   ·rw[if_pos hk]
    exact r_Expr_ok hx (by rw[pb0_eq];exact Q40_tree _ _ _ _ _ _ _ _ _ ⟨none,nodes,_,g',z',q,t,_,r_now s1,fun _=>⟨rfl,rfl,rfl,rfl,rfl⟩,fun hf=>absurd hk hf⟩)
   rw[if_neg hk]
   intro he
   exact r_Expr_err hx he (by rw[pb0_eq];exact Q40_tree _ _ _ _ _ _ _ _ _ ⟨none,nodes,_,g',z',q,t,_,r_now s1,fun hf=>absurd hf hk,fun _=>⟨_,_,r_fail _ _,rfl,rfl,rfl,rfl,rfl⟩⟩)
def Dg (l:List UInt8):Prop:=∀ c ∈ l,48≤c.toNat∧c.toNat≤57
theorem inC3 (c:UInt8):inC [3] c=true↔48≤c.toNat∧c.toNat≤57:=by
 unfold inC clsS
 simp only[List.mem_singleton,decide_eq_true_eq]
 repeat' split
 all_goals (first | omega | (constructor <;> intro h <;> first | omega | exact absurd h (by decide)))
theorem Dg_take (t:List UInt8):Dg (t.takeWhile (inC [3])):=fun c hc=>(inC3 c).1 (List.all_eq_true.1 List.all_takeWhile c hc)
def digV (acc:Nat) (l:List UInt8):Nat:=l.foldl (fun a c=>a*10+(c.toNat - 48)) acc
theorem digV_cons (acc:Nat) (c:UInt8) (r:List UInt8):digV acc (c::r)=digV (acc*10+(c.toNat - 48)) r:=by
 unfold digV
 rw[List.foldl_cons]
theorem digV_nil (acc:Nat):digV acc []=acc:=by
 unfold digV
 rw[List.foldl_nil]
theorem digV_ge:∀ (l:List UInt8) (acc:Nat),acc≤digV acc l
 | [],acc=>by rw[digV_nil];exact Nat.le_refl _
 | c::r,acc=>by
  rw[digV_cons]
  have:=digV_ge r (acc*10+(c.toNat - 48))
  omega
theorem parse_num (l:List UInt8):∀ (acc:Nat),Dg l→acc < 18446744073709551616→Lib.parseUint10 acc l=if digV acc l < 18446744073709551616 then .ok (digV acc l) else .range:=by
 induction l with
 | nil=>intro acc _ h;rw[digV_nil,if_pos h,Lib.parseUint10]
 | cons c r ih =>
  intro acc hd h
  have hc:=hd c (by simp)
  have hge:=digV_ge r (acc*10+(c.toNat - 48))
  rw[digV_cons]
  unfold Lib.parseUint10
  rw[if_pos hc]
  by_cases h1:1844674407370955162≤acc
  ·rw[if_pos h1,if_neg (by omega)]
  rw[if_neg h1]
  by_cases h2:18446744073709551616≤acc*10+(c.toNat - 48)
  ·rw[if_pos h2,if_neg (by omega)]
  rw[if_neg h2]
  exact ih _ (fun x hx=>hd x (by simp[hx])) (by omega)
theorem atoi_num {l:List UInt8} (hd:Dg l) (hne:l≠[]):Lib.atoiAll l=if digV 0 l < 9223372036854775808 then .ok (digV 0 l:Int) else .range:=by
 cases l with
 | nil=>exact absurd rfl hne
 | cons c r =>
  have hc:=hd c (by simp)
  rw[Lib.atoiAll_plain c r (by omega) (by omega),Lib.parseMag,if_neg (by simp),parse_num _ 0 hd (by omega)]
  by_cases h:digV 0 (c::r) < 18446744073709551616
  ·rw[if_pos h]
   by_cases h2:digV 0 (c::r) < 9223372036854775808
   ·simp only[Lib.signless,if_pos h2,if_neg (show ¬ 9223372036854775808≤digV 0 (c::r) by omega)]
   simp only[Lib.signless,if_neg h2,if_pos (show 9223372036854775808≤digV 0 (c::r) by omega)]
  rw[if_neg h,if_neg (show ¬ digV 0 (c::r) < 9223372036854775808 by omega)]
  rfl
theorem dec_step {a d:Nat} (ha:0 < a) (hd:d < 10):Lib.decDigits (a*10+d)=Lib.decDigits a++[UInt8.ofNat (48+d)]:=by
 rw[Lib.decDigits,dif_neg (by omega),show (a*10+d) / 10=a by omega,show (a*10+d) % 10=d by omega]
theorem dec_num:∀ (l:List UInt8) (acc:Nat),0 < acc→Dg l→Lib.decDigits (digV acc l)=Lib.decDigits acc++l
 | [],acc,_,_=>by rw[digV_nil,List.append_nil]
 | c::r,acc,h,hd=>by
  have hc:=hd c (by simp)
  rw[digV_cons,dec_num r _ (by omega) (fun x hx=>hd x (by simp[hx])),dec_step h (by omega)]
  have:UInt8.ofNat (48+(c.toNat - 48))=c:=by
   rw[show 48+(c.toNat - 48)=c.toNat by omega];simp
  rw[this]
  simp
theorem dec_first {c:UInt8} {r:List UInt8} (hd:Dg (c::r)) (h:c.toNat≠48):Lib.decDigits (digV 0 (c::r))=c::r:=by
 have hc:=hd c (by simp)
 rw[digV_cons,dec_num r _ (by omega) (fun x hx=>hd x (by simp[hx])),Nat.zero_mul,Nat.zero_add,Lib.decDigits_one (by omega)]
 have:UInt8.ofNat (48+(c.toNat - 48))=c:=by
  rw[show 48+(c.toNat - 48)=c.toNat by omega];simp
 rw[this]
 rfl
theorem dec_len:∀ (r:List UInt8),Dg r→r≠[]→(Lib.decDigits (digV 0 r)).length≤r.length
 | [],_,h=>absurd rfl h
 | c::r,hd,_=>by
  by_cases h:c.toNat=48
  ·rw[digV_cons,h]
   cases r with
   | nil=>simp[digV_nil,Lib.decDigits_one (show 0 < 10 by omega)]
   | cons b r =>
    have:=dec_len (b::r) (fun x hx=>hd x (by simp at hx ⊢;exact .inr hx)) (by simp)
    simp only[Nat.zero_mul,Nat.sub_self,Nat.add_zero,List.length_cons] at this ⊢
    omega
  rw[dec_first hd h]
  exact Nat.le_refl _
def numOk (d:List UInt8):Prop:=digV 0 d < 9223372036854775808∧(d.head?=some 48→d.length=1)
instance (d:List UInt8):Decidable (numOk d):=by unfold numOk;infer_instance
theorem itoa_num {d:List UInt8} (hd:Dg d) (hne:d≠[]):Lib.itoa ((digV 0 d:Nat):Int)=d↔(d.head?=some 48→d.length=1):=by
 have e:Lib.itoa ((digV 0 d:Nat):Int)=Lib.decDigits (digV 0 d):=by
  unfold Lib.itoa
  rw[if_neg (by omega)]
  rfl
 rw[e]
 cases d with
 | nil=>exact absurd rfl hne
 | cons c r =>
  by_cases h:c.toNat=48
  ·have hc:c=48:=UInt8.toNat_inj.1 h
   subst hc
   simp only[List.head?_cons,List.length_cons,forall_const]
   cases r with
   | nil =>
    have h0:digV 0 [48]=0:=by rw[digV_cons,digV_nil];rfl
    rw[h0,Lib.decDigits_one (show 0 < 10 by omega)]
    simp
   | cons b r =>
    have:=dec_len (b::r) (fun x hx=>hd x (by simp at hx ⊢;exact .inr hx)) (by simp)
    constructor
    ·intro h2
     have h3:digV 0 (48::b::r)=digV 0 (b::r):=by rw[digV_cons];rfl
     rw[←h3,h2] at this
     simp at this
     omega
    intro h2
    simp at h2
  rw[dec_first hd h]
  simp only[List.head?_cons,Option.some.injEq,true_iff]
  intro e
  exact absurd (by rw[e];rfl) h
def numS (t:List UInt8):Option (Token × Nat):=if numOk (t.takeWhile (inC [3])) then some (Token.mk 1 [] (digV 0 (t.takeWhile (inC [3])):Nat) [] 0,(t.takeWhile (inC [3])).length) else none
theorem r_Atoi {l:List UInt8} (hd:Dg l) (hne:l≠[]) (hl:l.length≤1000000):∃ v:Int,R_strconv_Atoi l v (decide (¬ digV 0 l < 9223372036854775808))∧(digV 0 l < 9223372036854775808→v=(digV 0 l:Nat)):=by
 have ha:=atoi_num hd hne
 by_cases h:digV 0 l < 9223372036854775808
 ·rw[if_pos h] at ha
  exact⟨_,fun S=>call_ext sp_strconv_Atoi S (by simp only[atoiX,ha];rw[if_pos (by omega)];simp[h]),fun _=>rfl⟩
 rw[if_neg h] at ha
 exact⟨Lib.atoiSat l,fun S=>call_ext sp_strconv_Atoi S (by simp only[atoiX,ha];rw[if_pos (by omega)];simp[h]),fun e=>absurd e h⟩
theorem r_number (t:LTokens) (g:Nat) (z:Bool) (h:TI t.text) (hne:t.text.left.takeWhile (inC [3])≠[]):match numS t.text.left with
  | none=>∃ (x:Token) (t':LTokens),t'.out=t.out∧R_Q139 t g z x false t' g z
  | some (x,n)=>R_Q139 t g z x true (LTokens.mk (takeT t.text n) t.out) g z:=by
 have h1:=h.1
 have hd:=Dg_take t.text.left
 have hw:=r_word h [3] (by decide)
 have hl:=spanS_le [3] t.text.left
 unfold spanS at hw hl
 unfold numS
 generalize t.text.left.takeWhile (inC [3])=d at *
 obtain⟨v,ha,hv⟩:=r_Atoi hd hne (by omega)
 by_cases hb:digV 0 d < 9223372036854775808
 ·obtain rfl:=hv hb
  have hi:=itoa_num hd hne
  by_cases h0:d.head?=some 48→d.length=1
  ·rw[if_pos ⟨hb,h0⟩]
   apply Q139_tree
   refine⟨_,_,hw,_,_,ha,fun e=>?_,fun _=>⟨_,r_Itoa _ ⟨by omega,by omega⟩,rfl,?_,rfl,rfl,rfl⟩⟩
   ·simp[hb] at e
   exact decide_eq_true (hi.2 h0)
  rw[if_neg (fun e=>h0 e.2)]
  refine⟨_,LTokens.mk (takeT t.text d.length) t.out,rfl,Q139_tree _ _ _ _ _ _ _ _ ⟨_,_,hw,_,_,ha,fun e=>?_,fun _=>⟨_,r_Itoa _ ⟨by omega,by omega⟩,rfl,?_,rfl,rfl,rfl⟩⟩⟩
  ·simp[hb] at e
  exact decide_eq_false (fun e=>h0 (hi.1 e))
 rw[if_neg (fun e=>hb e.1)]
 exact⟨_,LTokens.mk (takeT t.text d.length) t.out,rfl,Q139_tree _ _ _ _ _ _ _ _ ⟨_,_,hw,_,_,ha,fun _=>⟨rfl,rfl,rfl,rfl,rfl⟩,fun e=>absurd (decide_eq_true hb) e⟩⟩
def atT (x:Token) (i:Int):Token:=⟨x.Kind,x.Text,x.Num,x.Parts,i⟩
theorem r_quoted (t:LTokens) (g:Nat) (z:Bool) (h:TI t.text) {u:List UInt8} (e:t.text.left=34::u) {r:Option (List Part × Nat)} (hq:Qx u [] [] r):match r with
  | none=>∃ t':LTokens,t'.out=t.out∧R_Q140 t g z (Token.mk 0 [] 0 [] 0) false t' g z
  | some (ps,n)=>n+1≤t.text.left.length∧R_Q140 t g z (Token.mk 2 [] 0 ps 0) true (LTokens.mk (takeT t.text (n+1)) t.out) g z:=by
 have hlen:1≤t.text.left.length:=by rw[e];simp
 have h1:=h.1
 have hu:u.length≤6000:=by rw[e] at h1;simp at h1;omega
 have hl:(takeT t.text 1).left=u:=by simp only[takeT,e];rfl
 have key:=r_quoted_loop hq 0 (LTokens.mk (takeT t.text 1) t.out) g z hl (h.take hlen) (.inl rfl) (by simp;omega) (by simp;omega)
 cases r with
 | none =>
  obtain⟨t',ho,hA⟩:=key
  exact⟨t',ho,Q140_tree _ _ _ _ _ _ _ _ ⟨_,_,r_take h hlen,hA⟩⟩
 | some q =>
  obtain⟨ps,n⟩:=q
  obtain⟨hn,hA⟩:=key
  simp only[takeT_takeT] at hA
  simp only at hn
  rw[hl] at hn
  refine⟨by rw[e];simp;omega,Q140_tree _ _ _ _ _ _ _ _ ⟨_,_,r_take h hlen,?_⟩⟩
  rw[Nat.add_comm n 1]
  exact hA
def TOut (s:List UInt8) (i k:Nat) (l:List Part) (b:List UInt8):Option (List Part × Nat)→Prop
 | none=>At_ref1_text_1 s i k 0 [] 0 0 [] 0 l b (Token.mk 0 [] 0 [] 0) 0
 | some (ps,n)=>At_ref1_text_1 s i k 0 [] 0 0 [] 0 l b (Token.mk 2 [] 0 ps i) ((k:Int)+n - i)
theorem TOut.next {s:List UInt8} {i k:Nat} {l l2:List Part} {b b2:List UInt8} {m:Nat} (step:∀ ra rb,At_ref1_text_1 s i ((k+m:Nat):Int) 0 [] 0 0 [] 0 l2 b2 ra rb→At_ref1_text_1 s i k 0 [] 0 0 [] 0 l b ra rb) {r:Option (List Part × Nat)} (h:TOut s i (k+m) l2 b2 r):TOut s i k l b (r.map fun q=>(q.1,q.2+m)):=by
 cases r with
 | none=>exact step _ _ h
 | some q =>
  obtain⟨ps,n⟩:=q
  have:=step _ _ h
  simp only[TOut,Option.map_some]
  rw[show (k:Int)+((n+m:Nat):Int) - (i:Int)=((k+m:Nat):Int)+(n:Int) - (i:Int) by omega]
  exact this
theorem cls5 (c:UInt8):clsS c=5↔c=35:=by
 have e:c=35↔c.toNat=35:=by rw[←UInt8.toNat_inj];rfl
 rw[e]
 unfold clsS
 repeat' split
 all_goals (first | omega | (constructor <;> intro h <;> first | omega | exact absurd h (by decide)))
inductive Tok:List UInt8→Option (Token × Nat)→Prop
 | name (c:UInt8) (u:List UInt8) (h:clsS c=2):Tok (c::u) (if ((c::u).takeWhile (inC [2,3])).length≤24 then some (Token.mk 3 ((c::u).takeWhile (inC [2,3])) 0 [] 0,spanS [2,3] (c::u)) else none)
 | num (c:UInt8) (u:List UInt8) (h:clsS c=3):Tok (c::u) (numS (c::u))
 | text (u:List UInt8) (r:Option (List Part × Nat)) (h:Qx u [] [] r):Tok (34::u) (r.map fun q=>(Token.mk 2 [] 0 q.1 0,q.2+1))
 | sign (c:UInt8) (u:List UInt8) (h2:clsS c≠2) (h3:clsS c≠3) (h4:clsS c≠4):Tok (c::u) (if signS (c::u)=[] then none else some (Token.mk 4 (signS (c::u)) 0 [] 0,(signS (c::u)).length))
theorem Qx_len {t:List UInt8} {l:List Part} {b:List UInt8} {r:Option (List Part × Nat)} (h:Qx t l b r):∀ q,r=some q→0 < q.2∧q.2≤t.length:=by
 induction h with
 | nil | low | esc0 | escbad | refbad=>intro q hq;cases hq
 | shut t l b=>intro q hq;obtain rfl:=Option.some.inj hq;simp
 | esc x y t l b r hx _ ih =>
  intro q hq
  obtain⟨q0,h0,rfl⟩:=Option.map_eq_some_iff.1 hq
  have:=ih q0 h0
  simp only[List.length_cons]
  omega
 | ref t l b r hr _ ih =>
  intro q hq
  obtain⟨q0,h0,rfl⟩:=Option.map_eq_some_iff.1 hq
  have:=ih q0 h0
  have h1:=refS_len hr
  simp only[List.length_cons,List.length_drop] at this ⊢
  omega
 | plain c t l b r c1 c2 c3 c4 _ ih =>
  intro q hq
  obtain⟨q0,h0,rfl⟩:=Option.map_eq_some_iff.1 hq
  have:=ih q0 h0
  simp only[List.length_cons]
  omega
theorem span_pos {cl:List Int} {c:UInt8} (u:List UInt8) (h:inC cl c=true):0 < spanS cl (c::u):=by
 unfold spanS
 rw[List.takeWhile_cons,if_pos h]
 simp
theorem signS_len (c:UInt8) (u:List UInt8):(signS (c::u)).length≤(c::u).length:=by
 cases u with
 | nil=>simp only[signS,sign1];split <;> simp
 | cons b u=>simp only[signS,sign2,sign1];repeat' split <;> simp
theorem Tok_len {t:List UInt8} {r:Option (Token × Nat)} (h:Tok t r):∀ q,r=some q→0 < q.2∧q.2≤t.length:=by
 cases h with
 | name c u h =>
  intro q hq
  split at hq
  ·obtain rfl:=Option.some.inj hq
   exact⟨span_pos u ((inC23 c).2 (.inl h)),spanS_le _ _⟩
  cases hq
 | num c u h =>
  intro q hq
  unfold numS at hq
  split at hq
  ·obtain rfl:=Option.some.inj hq
   exact⟨span_pos (cl:=[3]) u (by unfold inC;simp[h]),spanS_le [3] _⟩
  cases hq
 | text u r h =>
  intro q hq
  obtain⟨q0,h0,rfl⟩:=Option.map_eq_some_iff.1 hq
  have:=Qx_len h q0 h0
  simp only[List.length_cons]
  omega
 | sign c u h2 h3 h4 =>
  intro q hq
  split at hq
  ·cases hq
  rename_i hne
  obtain rfl:=Option.some.inj hq
  exact⟨List.length_pos_iff.2 hne,signS_len c u⟩
theorem takeWhile_idem (p:UInt8→Bool):∀ l:List UInt8,(l.takeWhile p).takeWhile p=l.takeWhile p
 | []=>rfl
 | c::l=>by
  rw[List.takeWhile_cons]
  split
  ·rename_i h
   rw[List.takeWhile_cons,if_pos h,takeWhile_idem p l]
  rfl
theorem name_word {c:UInt8} (u:List UInt8) (h:clsS c=2):nameS ((c::u).takeWhile (inC [2,3]))=decide (((c::u).takeWhile (inC [2,3])).length≤24):=by
 have hc:inC [2,3] c=true:=(inC23 c).2 (.inl h)
 have hi:=takeWhile_idem (inC [2,3]) (c::u)
 rw[List.takeWhile_cons,if_pos hc] at hi ⊢
 unfold nameS
 refine decide_eq_decide.2 ⟨fun e=>e.2.1,fun e=>⟨by simp,e,?_⟩⟩
 rw[endS,if_pos h,spanS,hi]
theorem dig_ne {c:UInt8} (u:List UInt8) (h:clsS c=3):(c::u).takeWhile (inC [3])≠[]:=by
 rw[List.takeWhile_cons,if_pos (by unfold inC;simp[h])]
 simp
def NextP (t:LTokens) (g:Nat) (z:Bool):Option (Token × Nat)→Prop
 | none=>∃ t',R_Q98 t g z false t' g z
 | some (x,n)=>R_Q98 t g z true (LTokens.mk (takeT t.text n) (t.out++[atT x t.text.pos])) g z
theorem r_next (t:LTokens) (g:Nat) (z:Bool) (h:TI t.text) (ho:t.out.length≤6000) {r:Option (Token × Nat)} {l:List UInt8} (hl:t.text.left=l) (hk:Tok l r):NextP t g z r:=by
 have big:bigRow (t.out.length+1) 64:=⟨by omega,by omega,by decide⟩
 cases hk with
 | name c u hc =>
  have hn:=r_name t g z h
  rw[hl,name_word u hc] at hn
  have hd:t.text.left[0]?=some c:=by rw[hl];rfl
  by_cases hlen:((c::u).takeWhile (inC [2,3])).length≤24
  rotate_left
  ·rw[if_neg hlen]
   rw[decide_eq_false hlen] at hn
   exact⟨_,Q98_tree _ _ _ _ _ _ _ ⟨c,hd,_,r_class c,fun _=>⟨_,_,_,_,_,hn,big,rfl,rfl,rfl,rfl⟩,fun e=>absurd hc e⟩⟩
  rw[if_pos hlen]
  rw[decide_eq_true hlen] at hn
  exact Q98_tree _ _ _ _ _ _ _ ⟨c,hd,_,r_class c,fun _=>⟨_,_,_,_,_,hn,big,rfl,rfl,rfl,rfl⟩,fun e=>absurd hc e⟩
 | num c u hc =>
  have hd:t.text.left[0]?=some c:=by rw[hl];rfl
  have hn:=r_number t g z h (by rw[hl];exact dig_ne u hc)
  rw[hl] at hn
  have h2:clsS c≠2:=by omega
  revert hn
  generalize numS (c::u)=q
  intro hn
  rcases q with _ | ⟨x,n⟩
  ·obtain⟨x,t',ho',hn⟩:=hn
   exact⟨_,Q98_tree _ _ _ _ _ _ _ ⟨c,hd,_,r_class c,fun e=>absurd e h2,fun _=>⟨fun _=>⟨_,_,_,_,_,hn,by rw[ho'];exact big,rfl,rfl,rfl,rfl⟩,fun e=>absurd hc e⟩⟩⟩
  exact Q98_tree _ _ _ _ _ _ _ ⟨c,hd,_,r_class c,fun e=>absurd e h2,fun _=>⟨fun _=>⟨_,_,_,_,_,hn,big,rfl,rfl,rfl,rfl⟩,fun e=>absurd hc e⟩⟩
 | text u q hq =>
  have hd:t.text.left[0]?=some 34:=by rw[hl];rfl
  have hn:=r_quoted t g z h hl hq
  have h4:clsS 34=4:=(cls4 34).2 rfl
  cases q with
  | none =>
   obtain⟨t',ho',hn⟩:=hn
   exact⟨_,Q98_tree _ _ _ _ _ _ _ ⟨34,hd,_,r_class 34,fun e=>by omega,fun _=>⟨fun e=>by omega,fun _=>⟨fun _=>⟨_,_,_,_,_,hn,by rw[ho'];exact big,rfl,rfl,rfl,rfl⟩,fun e=>absurd h4 e⟩⟩⟩⟩
  | some p =>
   obtain⟨ps,n⟩:=p
   exact Q98_tree _ _ _ _ _ _ _ ⟨34,hd,_,r_class 34,fun e=>by omega,fun _=>⟨fun e=>by omega,fun _=>⟨fun _=>⟨_,_,_,_,_,hn.2,big,rfl,rfl,rfl,rfl⟩,fun e=>absurd h4 e⟩⟩⟩
 | sign c u h2 h3 h4 =>
  have hd:t.text.left[0]?=some c:=by rw[hl];rfl
  have hn:=r_sign t g z h (by rw[hl];simp)
  rw[hl] at hn
  by_cases he:signS (c::u)=[]
  ·rw[if_pos he]
   rw[if_pos he,if_pos he,decide_eq_false (fun e=>e he)] at hn
   exact⟨_,Q98_tree _ _ _ _ _ _ _ ⟨c,hd,_,r_class c,fun e=>absurd e h2,fun _=>⟨fun e=>absurd e h3,fun _=>⟨fun e=>absurd e h4,fun _=>⟨_,_,_,_,_,hn,big,rfl,rfl,rfl,rfl⟩⟩⟩⟩⟩
  rw[if_neg he]
  rw[if_neg he,if_neg he,decide_eq_true he] at hn
  exact Q98_tree _ _ _ _ _ _ _ ⟨c,hd,_,r_class c,fun e=>absurd e h2,fun _=>⟨fun e=>absurd e h3,fun _=>⟨fun e=>absurd e h4,fun _=>⟨_,_,_,_,_,hn,big,rfl,rfl,rfl,rfl⟩⟩⟩⟩
inductive Lx:List UInt8→Int→Option (List Token)→Prop
 | nil (p:Int):Lx [] p (some [Token.mk 0 [] 0 [] p])
 | gap (c:UInt8) (t:List UInt8) (p:Int) (r:Option (List Token)) (hc:clsS c=1) (h:Lx t (p+1) r):Lx (c::t) p r
 | remark (t:List UInt8) (p:Int) (r:Option (List Token)) (h:Lx (t.dropWhile (· != 10)) (p+((t.takeWhile (· != 10)).length+1:Nat)) r):Lx (35::t) p r
 | bad (c:UInt8) (t:List UInt8) (p:Int) (h1:clsS c≠1) (h2:clsS c≠5) (h:Tok (c::t) none):Lx (c::t) p none
 | tok (c:UInt8) (t:List UInt8) (p:Int) (x:Token) (n:Nat) (r:Option (List Token)) (h1:clsS c≠1) (h2:clsS c≠5) (h:Tok (c::t) (some (x,n))) (h':Lx ((c::t).drop n) (p+n) r):Lx (c::t) p (r.map (atT x p::·))
def stands:List UInt8→Prop
 | []=>True
 | c::_=>clsS c≠1∧clsS c≠5
theorem take0 (t:LText):takeT t 0=t:=by
 unfold takeT
 simp
theorem takeWhile_all (p:UInt8→Bool):∀ l:List UInt8,(∀ x ∈ l,p x=true)→l.takeWhile p=l
 | [],_=>rfl
 | c::l,h=>by rw[List.takeWhile_cons,if_pos (h c (by simp)),takeWhile_all p l (fun x hx=>h x (by simp[hx]))]
theorem cut_line (s:List UInt8):(Lib.cut s [10]).1=s.takeWhile (· != 10):=by
 rw[cut1]
 split
 ·rfl
 rename_i h
 exact (takeWhile_all _ _ fun x hx=>by
  simp only[bne_iff_ne,ne_eq]
  intro e
  exact h (e ▸ hx)).symm
theorem drop_line (t:List UInt8):(35::t:List UInt8).drop ((t.takeWhile (· != 10)).length+1)=t.dropWhile (· != 10):=by
 rw[List.drop_succ_cons]
 exact drop_while_len _ _
theorem line_len (t:List UInt8):(t.takeWhile (· != 10)).length≤t.length:=by
 have:=congrArg List.length (List.takeWhile_append_dropWhile (p:=(· != (10:UInt8))) (l:=t))
 rw[List.length_append] at this
 omega
theorem span1 {c:UInt8} (t:List UInt8) (h:clsS c=1):spanS [1] (c::t)=spanS [1] t+1:=by
 unfold spanS
 rw[List.takeWhile_cons,if_pos (by unfold inC;simp[h])]
 rfl
theorem span0 {c:UInt8} (t:List UInt8) (h:clsS c≠1):spanS [1] (c::t)=0:=by
 unfold spanS
 rw[List.takeWhile_cons,if_neg (by unfold inC;simp[h])]
 rfl
theorem r_skip_loop {l:List UInt8} {p:Int} {r:Option (List Token)} (h:Lx l p r):∀ (t:LTokens) (g:Nat) (z:Bool),t.text.left=l→t.text.pos=p→TI t.text →
  ∃ n,n≤l.length∧At_Q97_1 (LTokens.mk (takeT t.text (spanS [1] l)) t.out) g z (LTokens.mk (takeT t.text n) t.out) g z∧Lx (l.drop n) (p+n) r∧stands (l.drop n):=by
 induction h with
 | nil p =>
  intro t g z e ep hT
  refine⟨0,Nat.le_refl _,?_,by simpa using Lx.nil p,trivial⟩
  apply At_Q97_1_step
  refine⟨_,r_HasPrefix _ _,fun h=>?_,fun _=>⟨rfl,rfl,rfl⟩⟩
  rw[show spanS [1] []=0 from rfl,take0,e] at h
  exact absurd h (by decide)
 | gap c t' p r hc _ ih =>
  intro t g z e ep hT
  have h1:1≤t.text.left.length:=by rw[e];simp
  obtain⟨n,hn,hA,hL,hs⟩:=ih (LTokens.mk (takeT t.text 1) t.out) g z (by simp only[takeT,e];rfl) (by simp only[takeT,ep];rfl) (hT.take h1)
  simp only[takeT_takeT] at hA
  refine⟨n+1,by simp;omega,?_,?_,by rw[List.drop_succ_cons];exact hs⟩
  ·rw[span1 t' hc,Nat.add_comm (spanS [1] t') 1,Nat.add_comm n 1]
   exact hA
  rw[List.drop_succ_cons,show p+((n+1:Nat):Int)=p+1+(n:Int) by omega]
  exact hL
 | remark t' p r _ ih =>
  intro t g z e ep hT
  have hll:=line_len t'
  have h1:(t'.takeWhile (· != 10)).length+1≤t.text.left.length:=by rw[e];simp;omega
  have hT1:=hT.1
  obtain⟨n,hn,hA,hL,hs⟩:=ih (LTokens.mk (takeT t.text ((t'.takeWhile (· != 10)).length+1)) t.out) g z (by simp only[takeT,e];exact drop_line t') (by simp only[takeT,ep]) (hT.take h1)
  simp only[takeT_takeT] at hA
  have hdl:(t'.dropWhile (· != 10)).length=t'.length - (t'.takeWhile (· != 10)).length:=by rw[←drop_while_len,List.length_drop]
  have hsp:spanS [1] (35::t')=0:=span0 t' (by decide)
  refine⟨(t'.takeWhile (· != 10)).length+1+n,by simp;omega,?_,?_,?_⟩
  ·rw[hsp,take0]
   apply At_Q97_1_step
   have hcut:(Lib.cut t.text.left [10]).1=35::t'.takeWhile (· != 10):=by
    rw[cut_line,e,List.takeWhile_cons,if_pos (by decide)]
   have hR:=r_Cut t.text.left [10] (by omega)
   have hTk:=r_take hT (n:=(35::t'.takeWhile (· != 10)).length) (by simpa using h1)
   have hT2:TI (takeT t.text (35::t'.takeWhile (· != 10)).length):=hT.take (by simpa using h1)
   have hW:=r_word hT2 [1] (by decide)
   rw[hcut] at hR
   refine⟨_,r_HasPrefix _ _,fun _=>⟨_,_,_,hR,_,_,hTk,_,_,hW,?_⟩,fun h=>absurd (by rw[e];rfl) h⟩
   have hle:(takeT t.text (35::t'.takeWhile (· != 10)).length).left=t'.dropWhile (· != 10):=by
    simp only[takeT,e,List.length_cons];exact drop_line t'
   rw[hle,takeT_takeT]
   exact hA
  ·rw[←List.drop_drop,drop_line,show p+(((t'.takeWhile (· != 10)).length+1+n:Nat):Int)=p+(((t'.takeWhile (· != 10)).length+1:Nat):Int)+(n:Int) by omega]
   exact hL
  rw[←List.drop_drop,drop_line]
  exact hs
 | bad c t' p c1 c2 hk =>
  intro t g z e ep hT
  refine⟨0,Nat.zero_le _,?_,by simpa using Lx.bad c t' p c1 c2 hk,⟨c1,c2⟩⟩
  rw[span0 t' c1]
  apply At_Q97_1_step
  refine⟨_,r_HasPrefix _ _,fun h=>?_,fun _=>⟨rfl,rfl,rfl⟩⟩
  rw[take0,e] at h
  exfalso
  apply c2
  rw[cls5]
  symm
  simpa [Lib.hasPrefix] using h
 | tok c t' p x n r c1 c2 hk h' _ =>
  intro t g z e ep hT
  refine⟨0,Nat.zero_le _,?_,by simpa using Lx.tok c t' p x n r c1 c2 hk h',⟨c1,c2⟩⟩
  rw[span0 t' c1]
  apply At_Q97_1_step
  refine⟨_,r_HasPrefix _ _,fun h=>?_,fun _=>⟨rfl,rfl,rfl⟩⟩
  rw[take0,e] at h
  exfalso
  apply c2
  rw[cls5]
  symm
  simpa [Lib.hasPrefix] using h
theorem r_skip {l:List UInt8} {p:Int} {r:Option (List Token)} (h:Lx l p r) (t:LTokens) (g:Nat) (z:Bool) (e:t.text.left=l) (ep:t.text.pos=p) (hT:TI t.text) :
  ∃ n,n≤l.length∧R_Q97 t g z (LTokens.mk (takeT t.text n) t.out) g z∧Lx (l.drop n) (p+n) r∧stands (l.drop n):=by
 obtain⟨n,hn,hA,hL,hs⟩:=r_skip_loop h t g z e ep hT
 refine⟨n,hn,Q97_tree _ _ _ _ _ _ ⟨_,_,r_word hT [1] (by decide),?_⟩,hL,hs⟩
 rw[e]
 exact hA
def lexL:Option (List Token)→List Token
 | none=>[]
 | some l=>l
def lexE:Option (List Token)→Int
 | none=>5
 | some _=>0
def lexP (out:List Token):Option (List Token)→List Token
 | none=>[]
 | some l=>out++l
theorem r_Lex_loop:∀ (m:Nat) (l:List UInt8) (p:Int) (r:Option (List Token)),Lx l p r→stands l→l.length≤m→∀ (out:List Token) (g:Nat) (z:Bool),TI ⟨l,p⟩→(out.length:Int)≤p→At_Q60_1 l p out g z (lexP out r) (lexE r):=by
 intro m
 induction m with
 | zero =>
  intro l p r h hs hm out g z hT ho
  have:l=[]:=List.length_eq_zero_iff.1 (by omega)
  subst this
  cases h
  have h3:=hT.2.2
  simp only[List.length_nil] at h3
  apply At_Q60_1_step
  exact⟨fun _=>⟨⟨by omega,by omega,by decide⟩,rfl,rfl⟩,fun h=>absurd rfl h⟩
 | succ m ih =>
  intro l p r h hs hm out g z hT ho
  have h3:=hT.2.2
  cases h with
  | nil =>
   simp only[List.length_nil] at h3
   apply At_Q60_1_step
   exact⟨fun _=>⟨⟨by omega,by omega,by decide⟩,rfl,rfl⟩,fun h=>absurd rfl h⟩
  | gap c t _ _ hc h=>exact absurd hc hs.1
  | remark t _ _ h=>exact absurd ((cls5 35).2 rfl) hs.2
  | bad c t _ c1 c2 hk =>
   have hl0:=hT.1
   simp only at hl0 h3
   obtain⟨t',hn⟩:=r_next (LTokens.mk ⟨c::t,p⟩ out) g z hT (by simp only;omega) rfl hk
   apply At_Q60_1_step
   exact⟨fun h=>by simp at h,fun _=>⟨_,_,_,_,hn,fun h=>(by cases h),fun _=>⟨rfl,rfl⟩⟩⟩
  | tok c t _ x n r' c1 c2 hk h' =>
   have hl0:=hT.1
   simp only at hl0 h3
   have hn:=r_next (LTokens.mk ⟨c::t,p⟩ out) g z hT (by simp only;omega) rfl hk
   obtain⟨n0,n1⟩:=Tok_len hk _ rfl
   simp only at n0 n1
   simp only[NextP] at hn
   have hT2:TI (takeT ⟨c::t,p⟩ n):=hT.take n1
   obtain⟨k,hk1,hS,hL,hst⟩:=r_skip h' (LTokens.mk (takeT ⟨c::t,p⟩ n) (out++[atT x p])) g z rfl rfl hT2
   have hT3:TI (takeT (takeT ⟨c::t,p⟩ n) k):=hT2.take hk1
   have hlen:((c::t).drop n).length=(c::t).length - n:=List.length_drop
   have hlen2:(((c::t).drop n).drop k).length=(c::t).length - n - k:=by rw[List.length_drop,hlen]
   have key:=ih _ _ _ hL hst (by omega) (out++[atT x p]) g z hT3 (by simp;omega)
   apply At_Q60_1_step
   refine⟨fun h=>by simp at h,fun _=>⟨_,_,_,_,hn,fun _=>⟨_,_,_,hS,?_⟩,fun h=>absurd rfl h⟩⟩
   cases r' with
   | none=>exact key
   | some l' =>
    have e:lexP (out++[atT x p]) (some l')=lexP out ((some l').map (atT x p::·)):=by simp[lexP]
    rw[e] at key
    exact key
theorem r_Lex {s:List UInt8} (hs:s.length≤6000) {r:Option (List Token)} (h:Lx s 0 r):R_Q60 s (lexL r) (lexE r):=by
 have hT:TI ⟨s,0⟩:=⟨hs,Int.le_refl _,by simp only;omega⟩
 obtain⟨k,hk1,hS,hL,hst⟩:=r_skip h (LTokens.mk ⟨s,0⟩ []) 0 false rfl rfl hT
 have hT2:TI (takeT ⟨s,0⟩ k):=hT.take hk1
 have key:=r_Lex_loop _ _ _ _ hL hst (Nat.le_refl _) [] 0 false hT2 (by simp)
 have e:lexP [] r=lexL r:=by cases r <;> rfl
 rw[e] at key
 apply Q60_tree
 exact⟨fun h=>by omega,fun _=>⟨_,_,_,hS,key⟩⟩
def quoF:Nat→List UInt8→List Part→List UInt8→Option (List Part × Nat)
 | 0,_,_,_=>none
 | _+1,[],_,_=>none
 | n+1,c::t,l,b =>
  if c=34 then some (joinP l b,1)
  else if c.toNat < 32 then none
  else if c=92 then
   match t with
   | []=>none
   | x::t=>match escS x with | none=>none | some y=>(quoF n t l (b++[y])).map fun q=>(q.1,q.2+2)
  else if c=36∧t.head?=some 123 then
   if (refS t.tail).2=true then (quoF n (t.tail.drop ((refS t.tail).1.length+1)) (joinP l b++[Part.mk true (refS t.tail).1]) []).map fun q=>(q.1,q.2+(3+(refS t.tail).1.length)) else none
  else (quoF n t l (b++[c])).map fun q=>(q.1,q.2+1)
theorem quoF_ok:∀ (n:Nat) (t:List UInt8) (l:List Part) (b:List UInt8),t.length < n→Qx t l b (quoF n t l b)
 | 0,t,l,b,h=>by omega
 | n+1,[],l,b,h=>.nil l b
 | n+1,c::t,l,b,h=>by
  simp only[List.length_cons] at h
  unfold quoF
  split
  ·rename_i c1;subst c1;exact .shut t l b
  rename_i c1
  split
  ·rename_i c2;exact .low c t l b c1 c2
  rename_i c2
  split
  ·rename_i c3
   subst c3
   cases t with
   | nil=>exact .esc0 l b
   | cons x t =>
    dsimp only
    cases hx:escS x with
    | none=>exact .escbad x t l b hx
    | some y=>exact .esc x y t l b _ hx (quoF_ok n t l (b++[y]) (by simp only[List.length_cons] at h;omega))
  rename_i c3
  split
  ·rename_i c4
   obtain⟨rfl,h5⟩:=c4
   cases t with
   | nil=>cases h5
   | cons x t =>
    obtain rfl:x=123:=Option.some.inj h5
    simp only[List.length_cons] at h
    split
    ·rename_i hx;exact .ref t l b _ hx (quoF_ok n _ _ _ (by simp;omega))
    rename_i hx;exact .refbad t l b (by simpa using hx)
  rename_i c4
  exact .plain c t l b _ c1 c2 c3 (fun e e2=>c4 ⟨e,e2⟩) (quoF_ok n t l (b++[c]) (by omega))
def tokF:List UInt8→Option (Token × Nat)
 | []=>none
 | c::u =>
  if clsS c=2 then (if ((c::u).takeWhile (inC [2,3])).length≤24 then some (Token.mk 3 ((c::u).takeWhile (inC [2,3])) 0 [] 0,spanS [2,3] (c::u)) else none)
  else if clsS c=3 then numS (c::u)
  else if clsS c=4 then (quoF (u.length+1) u [] []).map fun q=>(Token.mk 2 [] 0 q.1 0,q.2+1)
  else if signS (c::u)=[] then none else some (Token.mk 4 (signS (c::u)) 0 [] 0,(signS (c::u)).length)
theorem tokF_ok (c:UInt8) (u:List UInt8):Tok (c::u) (tokF (c::u)):=by
 simp only[tokF]
 split
 ·rename_i h;exact .name c u h
 rename_i h2
 split
 ·rename_i h;exact .num c u h
 rename_i h3
 split
 ·rename_i h4
  obtain rfl:=(cls4 c).1 h4
  exact .text u _ (quoF_ok _ u [] [] (by omega))
 rename_i h4;exact .sign c u h2 h3 h4
def lexF:Nat→List UInt8→Int→Option (List Token)
 | 0,_,_=>none
 | _+1,[],p=>some [Token.mk 0 [] 0 [] p]
 | n+1,c::t,p =>
  if clsS c=1 then lexF n t (p+1)
  else if clsS c=5 then lexF n (t.dropWhile (· != 10)) (p+((t.takeWhile (· != 10)).length+1:Nat))
  else match tokF (c::t) with
   | none=>none
   | some (x,k)=>(lexF n ((c::t).drop k) (p+k)).map (atT x p::·)
theorem lexF_ok:∀ (n:Nat) (t:List UInt8) (p:Int),t.length < n→Lx t p (lexF n t p)
 | 0,t,p,h=>by omega
 | n+1,[],p,h=>.nil p
 | n+1,c::t,p,h=>by
  simp only[List.length_cons] at h
  have ht:=tokF_ok c t
  unfold lexF
  split
  ·rename_i c1;exact .gap c t p _ c1 (lexF_ok n t _ (by omega))
  rename_i c1
  split
  ·rename_i c2
   obtain rfl:=(cls5 c).1 c2
   have:=line_len t
   have hdl:(t.dropWhile (· != 10)).length=t.length - (t.takeWhile (· != 10)).length:=by rw[←drop_while_len,List.length_drop]
   exact .remark t p _ (lexF_ok n _ _ (by omega))
  rename_i c2
  split
  ·rename_i hk
   rw[hk] at ht
   exact .bad c t p c1 c2 ht
  rename_i x k hk
  rw[hk] at ht
  have:=Tok_len ht _ rfl
  exact .tok c t p x k _ c1 c2 ht (lexF_ok n _ _ (by simp only[List.length_drop,List.length_cons] at this ⊢;omega))
def lexS (s:List UInt8):Option (List Token):=lexF (s.length+1) s 0
theorem lexS_ok (s:List UInt8):Lx s 0 (lexS s):=lexF_ok _ s 0 (Nat.lt_succ_self _)
end Go.Proofs.YtfbcnpbhhooapaaGreatDoor.M

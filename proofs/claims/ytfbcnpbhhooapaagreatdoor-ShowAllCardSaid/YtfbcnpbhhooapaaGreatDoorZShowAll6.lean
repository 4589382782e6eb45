/- Parts of a proof, one behind another: WlL, Wp6, Sc7, Lt7, Wp7, Wt5, Wt6, Wu5, Wu6, Wu7, Shelf, XE, SpecShowAll. -/
import Derived.Test.YtfbcnpbhhooapaaGreatDoorZShowAll5
import Derived.Test.YtfbcnpbhhooapaaGreatDoorProg
import Derived.KernelRfl
import Derived.Shelf.Strings.Builder1
import Derived.Shelf.Strings.Builder2
import Derived.Shelf.Small.Strs
import Derived.Shelf.Small.Wraps
import Derived.Shelf.Strings.BuilderF
import Derived.Shelf.Strings.BuilderK
import Derived.Shelf.Utf8.RuneCount
import Derived.Shelf.Strings.Builder2Cap
import Derived.Shelf.Strconv.Atoi
import Derived.Shelf.Strconv.Itoa0
import Derived.Shelf.Strconv.Itoa1
import Derived.Shelf.LaysM
import Derived.Shelf.Strconv.Itoa2
import Derived.Shelf.Strconv.Itoa3
import Derived.Shelf.Strconv.AtoiErrFast
import Derived.Shelf.Strconv.ParseIntEmpty
import Derived.Shelf.Strconv.AtoiFail
import Derived.Shelf.Strconv.Clone
import Derived.Shelf.Strconv.SyntaxError
import Derived.Shelf.LaysC
import Derived.Shelf.Strconv.ToError
import Derived.Shelf.Strconv.AtoiErr
import Derived.Shelf.Strconv.Lower
import Derived.Shelf.Strconv.ParseUint10
import Derived.Shelf.Strconv.ParseUint10Empty
import Derived.Shelf.Strconv.ParseUint10Any
import Derived.Shelf.Strconv.ParseInt10
import Derived.Shelf.Strconv.AtoiLong
import Derived.Shelf.Strconv.AtoiInnerAll
import Derived.Shelf.Strconv.RangeError
import Derived.Shelf.Strconv.ToErrorRange
import Derived.Shelf.Strconv.AtoiAll
import Derived.Shelf.Strconv.ErrVarAll
import Derived.Shelf.Strings.Search1
import Derived.Shelf.Strings.Search2
import Derived.Shelf.Strings.Search3
import Derived.Shelf.Strings.Cut
import Derived.Shelf.Strings.Count
import Derived.Shelf.Strings.Shaped
import Derived.Shelf.Strings.Prefix
import Derived.Shelf.Strings.Split
import Derived.Shelf.Strings.Replace
import Derived.Shelf.Strings.SplitShaped
import Derived.Shelf.Unicode.Decode
import Derived.Shelf.Strings.RuneCount
import Derived.Shelf.Bits.Mul64
import Derived.Shelf.Strings.Repeat
import Derived.Shelf.Unicode.DecodeSlow
import Derived.Shelf.Unicode.DecodeAny
import Derived.Ground.Names2Prog
import Derived.Shelf.Slices.Clone
import Derived.Ground.SlgnProg
import Derived.Shelf.SlicesE.Clone
namespace Go.Proofs.YtfbcnpbhhooapaaGreatDoor.M
set_option linter.unusedSimpArgs false
set_option linter.unusedVariables false
open Go Classical
theorem rep1 (a b:UInt8):∀ (n:Nat) (s:List UInt8),s.length≤n→Lib.replaceK [a] [b] (s.count a) s=s.map (fun c=>if c=a then b else c)
 | 0,s,h=>by
  have:s=[]:=List.length_eq_zero_iff.1 (by omega)
  subst this
  rfl
 | n+1,s,h=>by
  by_cases hm:a ∈ s
  ·obtain⟨u,v,rfl,hu⟩:=splitAt_first a s hm
   have h1:(u++a::v).takeWhile (· != a)=u:=takeWhile_stop _ u a v (fun x hx=>by simp;intro e;exact hu (e ▸ hx)) (by simp)
   have hi:Lib.index (u++a::v) [a]=(u.length:Nat):=by rw[index1,if_pos hm,h1]
   have hc:(u++a::v).count a=v.count a+1:=by
    rw[List.count_append,List.count_cons_self,List.count_eq_zero_of_not_mem hu]
    omega
   simp only[List.length_append,List.length_cons] at h
   rw[hc,Lib.replaceK_hit _ _ _ _ _ hi,List.take_left]
   have hd:(u++a::v).drop (u.length+[a].length)=v:=drop_mid a u v
   rw[hd,rep1 a b n v (by omega)]
   have hmu:u.map (fun c=>if c=a then b else c)=u:=by
    conv=>rhs;rw[←List.map_id u]
    refine List.map_congr_left fun x hx=>?_
    rw[if_neg (show ¬ x=a from fun e=>hu (e ▸ hx))]
    rfl
   simp[hmu]
  rw[List.count_eq_zero_of_not_mem hm]
  show s=_
  conv=>lhs;rw[←List.map_id s]
  refine List.map_congr_left fun x hx=>?_
  rw[if_neg (show ¬ x=a from fun e=>hm (e ▸ hx))]
  rfl
def lblS (c:UInt8):UInt8:=if c=45 then 95 else c
theorem r_ReplaceAll (s:List UInt8) (hs:s.length≤1000000):R_strings_ReplaceAll s [45] [95] (s.map lblS):=by
 intro S
 refine call_ext sp_strings_ReplaceAll S ?_
 have hc:Lib.countB ⟨s.toArray⟩ ⟨([45]:List UInt8).toArray⟩=s.count 45:=Lib.count_one 45 s
 have hle:s.count 45≤s.length:=List.count_le_length
 have hr:Lib.replaceAll s [45] [95]=s.map lblS:=by
  unfold Lib.replaceAll Lib.replace Lib.replaceNum
  rw[if_neg (by decide),if_pos (.inl (by decide)),Lib.count_one,rep1 45 95 s.length s (Nat.le_refl _)]
  rfl
 simp only[replaceX,hc,hr]
 rw[if_pos]
 simp only[List.length_cons,List.length_nil]
 omega
def lblC (c:UInt8):Bool:=decide ((97≤c.toNat∧c.toNat≤122)∨(48≤c.toNat∧c.toNat≤57)∨c.toNat=45∨c.toNat=95)
def labelS:List UInt8→Bool
 | []=>false
 | c::u=>decide (97≤c.toNat∧c.toNat≤122) && u.all lblC && decide (u.length+1≤24)
theorem cls3 (c:UInt8):clsS c=3↔48≤c.toNat∧c.toNat≤57:=by
 have:=inC3 c
 unfold inC at this
 simpa using this
theorem cls2 (c:UInt8):clsS c=2↔c.toNat=95∨(97≤c.toNat∧c.toNat≤122):=by
 unfold clsS
 repeat' split
 all_goals (first | omega | (constructor <;> intro h <;> first | omega | exact absurd h (by decide)))
theorem lblC_in (c:UInt8):inC [2,3] (lblS c)=lblC c:=by
 have h:inC [2,3] (lblS c)=true↔lblC c=true:=by
  rw[inC23,cls2,cls3]
  unfold lblS lblC
  rw[decide_eq_true_eq]
  by_cases h:c=45
  ·rw[if_pos h,h];decide
  have h':c.toNat≠45:=fun e=>h (UInt8.toNat_inj.1 e)
  rw[if_neg h]
  omega
 cases h1:inC [2,3] (lblS c) <;> cases h2:lblC c <;> simp_all
theorem span_all (cl:List Int):∀ l:List UInt8,spanS cl l=l.length↔∀ c ∈ l,inC cl c=true
 | []=>by simp[spanS]
 | c::l=>by
  have ih:=span_all cl l
  unfold spanS at ih ⊢
  rw[List.takeWhile_cons]
  by_cases h:inC cl c=true
  ·rw[if_pos h]
   simp[h,ih]
  rw[if_neg h]
  simp[h]
theorem name_map (c:UInt8) (u:List UInt8):nameS ((c::u).map lblS)=decide (clsS (lblS c)=2∧u.length+1≤24∧u.all lblC=true):=by
 unfold nameS
 refine decide_eq_decide.2 ?_
 simp only[List.map_cons,ne_eq,reduceCtorEq,not_false_eq_true,true_and,List.length_cons,List.length_map]
 rw[endS]
 by_cases h:clsS (lblS c)=2
 ·rw[if_pos h]
  have e:spanS [2,3] (lblS c::u.map lblS)=u.length+1↔∀ x ∈ lblS c::u.map lblS,inC [2,3] x=true:=by
   have:=span_all [2,3] (lblS c::u.map lblS)
   simpa using this
  rw[e]
  simp only[h,true_and,List.mem_cons,List.mem_map,List.all_eq_true]
  constructor
  ·intro ⟨h1,h2⟩
   refine⟨h1,fun x hx=>?_⟩
   rw[←lblC_in]
   exact h2 _ (.inr ⟨x,hx,rfl⟩)
  intro ⟨h1,h2⟩
  refine⟨h1,fun x hx=>?_⟩
  rcases hx with rfl | ⟨y,hy,rfl⟩
  ·rw[inC23];exact .inl h
  rw[lblC_in];exact h2 y hy
 rw[if_neg h]
 simp[h]
theorem r_lexLabel (s:List UInt8) (hs:s.length≤1000000):R_Q81 s (labelS s):=by
 apply Q81_tree
 refine⟨_,r_ReplaceAll s hs,_,r_lexName _ (by simpa using hs),?_⟩
 cases s with
 | nil=>exact⟨fun h=>absurd h (by decide),fun _=>rfl⟩
 | cons c u =>
  rw[name_map]
  refine⟨fun h=>⟨c,rfl,fun h45=>?_,fun h45=>?_⟩,fun h=>?_⟩
  ·simp only[labelS]
   rw[decide_eq_false (by omega)]
   rfl
  ·obtain⟨h1,h2,h3⟩:=of_decide_eq_true h
   have hc:¬ c=45:=fun e=>h45 (by rw[e];rfl)
   unfold lblS at h1
   rw[if_neg hc,cls2] at h1
   simp only[labelS]
   rw[h3,decide_eq_true h2,Bool.and_true,Bool.and_true]
   rw[←decide_not]
   exact decide_eq_decide.2 (by omega)
  simp only[labelS]
  symm
  rw[←Bool.not_eq_true]
  intro h2
  apply h
  simp only[Bool.and_eq_true,decide_eq_true_eq] at h2
  refine decide_eq_true ⟨?_,h2.2,h2.1.2⟩
  rw[cls2]
  unfold lblS
  rw[if_neg (fun e=>by have:=h2.1.1;rw[e] at this;revert this;decide)]
  exact .inr h2.1.1
theorem joinP_mem {l:List Part} {b:List UInt8} {p:Part} (h:p ∈ joinP l b):p ∈ l∨p.Text=b:=by
 unfold joinP at h
 rcases List.mem_append.1 h with h | h
 ·exact .inl h
 split at h
 ·cases h
 simp at h
 subst h
 exact .inr rfl
theorem Qx_parts {t:List UInt8} {l:List Part} {b:List UInt8} {r:Option (List Part × Nat)} (h:Qx t l b r):∀ q,r=some q→∀ p ∈ q.1,p ∈ l∨p.Text.length≤b.length+t.length:=by
 induction h with
 | nil | low | esc0 | escbad | refbad=>intro q hq;cases hq
 | shut t l b =>
  intro q hq p hp
  obtain rfl:=Option.some.inj hq
  rcases joinP_mem hp with h | h
  ·exact .inl h
  right;rw[h];omega
 | esc x y t l b r hx _ ih =>
  intro q hq p hp
  obtain⟨q0,h0,rfl⟩:=Option.map_eq_some_iff.1 hq
  rcases ih q0 h0 p hp with h | h
  ·exact .inl h
  right;simp at h ⊢;omega
 | ref t l b r hr _ ih =>
  intro q hq p hp
  obtain⟨q0,h0,rfl⟩:=Option.map_eq_some_iff.1 hq
  have h1:=refS_len hr
  rcases ih q0 h0 p hp with h | h
  ·rcases List.mem_append.1 h with h | h
   ·rcases joinP_mem h with h | h
    ·exact .inl h
    right;rw[h];omega
   simp at h
   subst h
   right
   simp
   omega
  right;simp at h ⊢;omega
 | plain c t l b r c1 c2 c3 c4 _ ih =>
  intro q hq p hp
  obtain⟨q0,h0,rfl⟩:=Option.map_eq_some_iff.1 hq
  rcases ih q0 h0 p hp with h | h
  ·exact .inl h
  right;simp at h ⊢;omega
theorem takeW_len (p:UInt8→Bool) (l:List UInt8):(l.takeWhile p).length≤l.length:=(List.takeWhile_sublist p).length_le
theorem Tok_good {t:List UInt8} {r:Option (Token × Nat)} (h:Tok t r):∀ x n,r=some (x,n)→x.Kind≠0∧x.Text.length≤t.length∧∀ p ∈ x.Parts,p.Text.length≤t.length:=by
 cases h with
 | name c u h =>
  intro x n hx
  split at hx
  ·cases hx
   exact⟨by simp,takeW_len _ _,by simp⟩
  cases hx
 | num c u h =>
  intro x n hx
  unfold numS at hx
  split at hx
  ·cases hx
   exact⟨by simp,by simp,by simp⟩
  cases hx
 | text u r h =>
  intro x n hx
  obtain⟨q,hq,e⟩:=Option.map_eq_some_iff.1 hx
  cases e
  refine⟨by simp,by simp,fun p hp=>?_⟩
  rcases Qx_parts h q hq p hp with h | h
  ·cases h
  simp at h ⊢;omega
 | sign c u h2 h3 h4 =>
  intro x n hx
  split at hx
  ·cases hx
  cases hx
  exact⟨by simp,signS_len c u,by simp⟩
theorem Lx_good {l:List UInt8} {p:Int} {r:Option (List Token)} (h:Lx l p r):∀ L,r=some L→W L∧L.length≤l.length+1∧∀ t ∈ L,t.Text.length≤l.length∧∀ q ∈ t.Parts,q.Text.length≤l.length:=by
 induction h with
 | nil p =>
  intro L hL
  cases hL
  exact⟨rfl,by simp,fun t ht=>by simp at ht;subst ht;simp⟩
 | gap c t p r hc _ ih =>
  intro L hL
  obtain⟨h1,h2,h3⟩:=ih L hL
  refine⟨h1,by simp;omega,fun x hx=>?_⟩
  obtain⟨h4,h5⟩:=h3 x hx
  exact⟨by simp;omega,fun q hq=>by have:=h5 q hq;simp;omega⟩
 | remark t p r _ ih =>
  intro L hL
  obtain⟨h1,h2,h3⟩:=ih L hL
  have hd:(t.dropWhile (· != 10)).length≤t.length:=(List.dropWhile_sublist _).length_le
  refine⟨h1,by simp;omega,fun x hx=>?_⟩
  obtain⟨h4,h5⟩:=h3 x hx
  exact⟨by simp;omega,fun q hq=>by have:=h5 q hq;simp;omega⟩
 | bad=>intro L hL;cases hL
 | tok c t p x n r h1 h2 hk _ ih =>
  intro L hL
  obtain⟨L0,h0,rfl⟩:=Option.map_eq_some_iff.1 hL
  obtain⟨g1,g2,g3⟩:=Tok_good hk x n rfl
  obtain⟨l1,l2⟩:=Tok_len hk (x,n) rfl
  obtain⟨i1,i2,i3⟩:=ih L0 h0
  simp only[List.length_drop] at i2 i3
  simp only at l1 l2
  refine⟨?_,by simp only[List.length_cons] at *;omega,fun y hy=>?_⟩
  ·cases L0 with
   | nil=>exact i1.elim
   | cons a L0=>exact⟨g1,i1⟩
  rcases List.mem_cons.1 hy with rfl | hy
  ·exact⟨g2,g3⟩
  obtain⟨h4,h5⟩:=i3 y hy
  exact⟨by omega,fun q hq=>by have:=h5 q hq;omega⟩
theorem TL_of {s:List UInt8} {L:List Token} (hs:s.length≤6000) (h:lexS s=some L):TL L∧W L:=by
 obtain⟨h1,h2,h3⟩:=Lx_good (lexS_ok s) L h
 exact⟨⟨by omega,fun t ht=>by have:=(h3 t ht).1;omega,fun t ht p hp=>by have:=(h3 t ht).2 p hp;omega⟩,h1⟩
def expS (s:List UInt8):PR (List Node):=match lexS s with | none=>.er 5 | some L=>exprT L
theorem r_ExprS (s:List UInt8) (hs:s.length≤6000):match expS s with
  | .ok l _ _=>R_Q20 s l 0
  | .er e=>e≠0→R_Q20 s [] e
  | .no=>False:=by
 have hx:=r_Lex hs (lexS_ok s)
 unfold expS
 cases hl:lexS s with
 | none=>rw[hl] at hx;exact fun he=>r_Expr_no hx he
 | some L =>
  rw[hl] at hx
  obtain⟨h1,h2⟩:=TL_of hs hl
  exact r_ExprT hx h1 h2
end Go.Proofs.YtfbcnpbhhooapaaGreatDoor.M
namespace Go.Proofs.YtfbcnpbhhooapaaGreatDoor.M
open Go
set_option linter.unusedVariables false
end Go.Proofs.YtfbcnpbhhooapaaGreatDoor.M
namespace Go.Proofs.YtfbcnpbhhooapaaGreatDoor.M
set_option linter.unusedSimpArgs false
set_option linter.unusedVariables false
open Go Classical
end Go.Proofs.YtfbcnpbhhooapaaGreatDoor.M
namespace Go.Proofs.YtfbcnpbhhooapaaGreatDoor.M
set_option linter.unusedSimpArgs false
set_option linter.unusedVariables false
set_option linter.unusedSectionVars false
open Go Classical
theorem r_refLabel_loop (s:List UInt8) (hs:s.length≤1000000):∀ (m i:Nat),i+m=s.length→0 < i→At_Q122_1 s i ((s.drop i).all lblC && decide (s.length≤24)):=by
 intro m
 induction m with
 | zero =>
  intro i hi hp
  rw[List.drop_eq_nil_of_le (by omega)]
  apply At_Q122_1_step
  refine⟨fun h=>by omega,fun _=>⟨fun _=>?_,fun h=>by omega⟩⟩
  simp only[List.all_nil,Bool.true_and]
  exact decide_eq_decide.2 (by omega)
 | succ m ih =>
  intro i hi hp
  have hlt:i < s.length:=by omega
  have hg:s[((i:Nat):Int).toNat]?=some s[i]:=by rw[Int.toNat_natCast];exact List.getElem?_eq_getElem hlt
  have hd:s.drop i=s[i]::s.drop (i+1):=List.drop_eq_getElem_cons hlt
  have key:=ih (i+1) (by omega) (by omega)
  rw[hd,List.all_cons]
  generalize s[i]=c at hg
  have next:lblC c=true→At_Q122_1 s ((i:Nat)+1:Int) ((lblC c && (s.drop (i+1)).all lblC) && decide (s.length≤24)):=fun h=>by
   rw[h,Bool.true_and];exact key
  have stop:¬ lblC c=true→false=((lblC c && (s.drop (i+1)).all lblC) && decide (s.length≤24)):=fun h=>by simp[h]
  have o1:I64 ((i:Nat)+1:Int):=⟨by omega,by omega⟩
  have D:=r_digit c
  have hdc:clsS c=3↔48≤c.toNat∧c.toNat≤57:=cls3 c
  apply At_Q122_1_step
  refine⟨fun _=>⟨by omega,c,hg,fun h1=>⟨fun h2=>⟨o1,next (decide_eq_true (by omega))⟩,fun h2=>⟨fun _=>⟨_,D,fun h3=>⟨o1,next (decide_eq_true (by have:=of_decide_eq_true h3;omega))⟩,fun h3=>⟨fun h4=>⟨o1,next (decide_eq_true (by omega))⟩,fun h4=>⟨fun h5=>⟨o1,next (decide_eq_true (by omega))⟩,fun h5=>stop fun h6=>?_⟩⟩⟩,fun h=>absurd (by omega) h⟩⟩,fun h1=>⟨fun _=>⟨_,D,fun h3=>⟨o1,next (decide_eq_true (by have:=of_decide_eq_true h3;omega))⟩,fun h3=>⟨fun h4=>⟨o1,next (decide_eq_true (by omega))⟩,fun h4=>⟨fun h5=>⟨o1,next (decide_eq_true (by omega))⟩,fun h5=>stop fun h6=>?_⟩⟩⟩,fun h=>absurd (by omega) h⟩⟩,fun h=>by omega⟩
  ·have h6:=of_decide_eq_true h6
   have h3:¬ clsS c=3:=fun e=>h3 (decide_eq_true e)
   omega
  have h6:=of_decide_eq_true h6
  have h3:¬ clsS c=3:=fun e=>h3 (decide_eq_true e)
  omega
theorem r_refLabel (s:List UInt8) (hs:s.length≤1000000):R_Q122 s (labelS s):=by
 apply Q122_tree
 cases s with
 | nil =>
  apply At_Q122_1_step
  exact⟨fun h=>absurd h (by decide),fun _=>⟨fun h=>absurd h (by decide),fun _=>rfl⟩⟩
 | cons c u =>
  have key:=r_refLabel_loop (c::u) hs u.length 1 (by simp;omega) (by omega)
  apply At_Q122_1_step
  refine⟨fun _=>⟨by omega,c,rfl,fun h1=>⟨fun h2=>⟨⟨by omega,by omega⟩,?_⟩,fun h2=>⟨fun h=>by omega,fun _=>?_⟩⟩,fun h1=>⟨fun h=>by omega,fun _=>?_⟩⟩,fun h=>by simp only[List.length_cons] at h;omega⟩
  ·have e:labelS (c::u)=(((c::u).drop 1).all lblC && decide ((c::u).length≤24)):=by
    simp only[labelS,List.drop_succ_cons,List.drop_zero,List.length_cons]
    rw[decide_eq_true (by omega),Bool.true_and]
   rw[e]
   exact key
  ·simp only[labelS]
   rw[decide_eq_false (by omega)]
   rfl
  simp only[labelS]
  rw[decide_eq_false (by omega)]
  rfl
theorem r_arms (k:Int):R_Q48 k (kdS k):=by
 apply Q48_tree
 repeat' (first | apply aI | intro _)
 all_goals
  unfold kdS
  repeat' split
  all_goals omega
theorem r_mayParts (l:List Part) (hl:plP l):R_Q76 l (partsS false l):=by
 obtain⟨hl,ht⟩:=hl
 have inner:∀ (i:Nat) (hi:i < l.length) (q:Bool),At_Q76_1 l ((i:Int)+1) q→∀ (m j:Nat),j+m=l[i].Text.length→At_Q76_2 l i j ((l[i].Text.drop j).all printC && q):=by
  intro i hi q hq m
  have hg:l[((i:Nat):Int).toNat]?=some l[i]:=by rw[Int.toNat_natCast];exact List.getElem?_eq_getElem hi
  have htx:=ht _ (List.getElem_mem hi)
  induction m with
  | zero =>
   intro j hj
   apply At_Q76_2_step
   refine⟨by omega,_,hg,fun h=>by omega,fun _=>⟨⟨by omega,by omega⟩,?_⟩⟩
   rw[List.drop_of_length_le (by omega)]
   exact hq
  | succ m ih =>
   intro j hj
   have hlt:j < l[i].Text.length:=by omega
   have hgj:l[i].Text[((j:Nat):Int).toNat]?=some l[i].Text[j]:=by rw[Int.toNat_natCast];exact List.getElem?_eq_getElem hlt
   have hd:l[i].Text.drop j=l[i].Text[j]::l[i].Text.drop (j+1):=List.drop_eq_getElem_cons hlt
   have ih:=ih (j+1) (by omega)
   apply At_Q76_2_step
   refine⟨by omega,_,hg,fun _=>⟨by omega,_,hgj,fun h=>⟨fun h'=>⟨⟨by omega,by omega⟩,?_⟩,fun h'=>?_⟩,fun h=>⟨⟨by omega,by omega⟩,?_⟩⟩,fun h=>by omega⟩
   ·rw[hd,List.all_cons,show printC l[i].Text[j]=true by simp[printC];omega,Bool.true_and]
    exact ih
   ·rw[hd,List.all_cons,show printC l[i].Text[j]=false by simp[printC];omega,Bool.false_and,Bool.false_and]
   rw[hd,List.all_cons,show printC l[i].Text[j]=true by simp[printC];omega,Bool.true_and]
   exact ih
 have loop:∀ (m i:Nat),i+m=l.length→At_Q76_1 l i (partsS (decide (∃ p,0 < i∧l[i - 1]?=some p∧p.Ref=false)) (l.drop i)):=by
  intro m
  induction m with
  | zero =>
   intro i hi
   apply At_Q76_1_step
   exact⟨fun h=>by omega,fun _=>by rw[List.drop_of_length_le (by omega)];rfl⟩
  | succ m ih =>
   intro i hi
   have hlt:i < l.length:=by omega
   have hg:l[((i:Nat):Int).toNat]?=some l[i]:=by rw[Int.toNat_natCast];exact List.getElem?_eq_getElem hlt
   have hd:l.drop i=l[i]::l.drop (i+1):=List.drop_eq_getElem_cons hlt
   have htx:=ht _ (List.getElem_mem hlt)
   have ih:=ih (i+1) (by omega)
   have hnext:decide (∃ p,0 < i+1∧l[i+1 - 1]?=some p∧p.Ref=false)=!l[i].Ref:=by
    rw[show i+1 - 1=i by omega,List.getElem?_eq_getElem hlt]
    cases h:l[i].Ref <;> simp[h]
   rw[hnext] at ih
   rw[hd]
   generalize hb:decide (∃ p,0 < i∧l[i - 1]?=some p∧p.Ref=false)=b
   apply At_Q76_1_step
   refine⟨fun _=>⟨by omega,_,hg,fun hr=>⟨_,r_Dotted _ htx,fun h=>⟨⟨by omega,by omega⟩,?_⟩,fun h=>?_⟩,fun hr=>⟨fun h=>?_,fun h=>⟨fun h0=>?_,fun h0=>?_⟩⟩⟩,fun h=>by omega⟩
   ·rw[partsS,if_pos hr,h,Bool.true_and]
    rw[hr] at ih
    exact ih
   ·rw[partsS,if_pos hr,show dottedS l[i].Text=false by simpa using h,Bool.false_and]
   ·rw[partsS,if_neg hr,decide_eq_true h]
    rfl
   ·have hlt':i - 1 < l.length:=by omega
    have hg':l[((i:Int) - 1).toNat]?=some l[i - 1]:=by rw[show ((i:Int) - 1).toNat=i - 1 by omega];exact List.getElem?_eq_getElem hlt'
    refine⟨⟨by omega,by omega⟩,by omega,_,hg',fun hp=>?_,fun hp=>?_⟩
    ·have hb':b=false:=by
      rw[←hb,List.getElem?_eq_getElem hlt']
      simp[hp]
     rw[show l[i].Ref=false by simpa using hr] at ih
     have:=inner i hlt _ ih l[i].Text.length 0 (by omega)
     rw[partsS,if_neg hr,decide_eq_false h,hb']
     exact this
    have hb':b=true:=by
     rw[←hb,List.getElem?_eq_getElem hlt']
     simp[hp]
     omega
    rw[partsS,if_neg hr,decide_eq_false h,hb']
    rfl
   have hb':b=false:=by
    rw[←hb]
    simp
    omega
   rw[show l[i].Ref=false by simpa using hr] at ih
   have:=inner i hlt _ ih l[i].Text.length 0 (by omega)
   rw[partsS,if_neg hr,decide_eq_false h,hb']
   exact this
 have:=loop l.length 0 (by omega)
 have e:decide (∃ p,0 < 0∧l[0 - 1]?=some p∧p.Ref=false)=false:=by simp
 rw[e] at this
 exact Q76_tree _ _ this
theorem dotted_first {s:List UInt8} (h:dottedS s=true):(Lib.cut s [46]).1=s.take (endS s):=by
 by_cases hm:(46:UInt8) ∈ s
 ·obtain⟨u,v,rfl,hu⟩:=splitAt_first 46 s hm
  unfold dottedS at h
  rw[cut_split 46 u v hu] at h ⊢
  simp only[Bool.true_and,Bool.and_eq_true] at h
  rw[endS_app h.1 46 v in46]
  simp
 unfold dottedS at h
 rw[cut_none 46 s hm] at h
 simp at h
theorem parts0 (l:List Part):(0 < (l.length:Int))↔l≠[]:=by
 cases l with
 | nil=>simp
 | cons a l=>simp
theorem r_leaf (n:Node) (h:NB n):R_Q49 n (plS n):=by
 apply Q49_tree
 unfold plS
 simp only[parts0]
 refine⟨fun k=>?_,fun k=>⟨fun k3=>?_,fun k3=>⟨fun hn=>⟨fun k4=>?_,fun k4=>⟨fun k5=>?_,fun k5=>?_⟩⟩,fun hn=>?_⟩⟩⟩
 ·rw[if_pos k]
  exact⟨fun a=>⟨fun b=>by simp[b],fun b=>by simp at b;simp[a,b]⟩,fun a=>by simp[a]⟩
 ·rw[if_neg k,if_pos k3]
  exact⟨fun a=>⟨fun b=>by simp[b],fun b=>⟨fun c=>by simp at b;simp[a,b,c],fun c=>by simp at b;simp[a,b,c]⟩⟩,fun a=>by simp[a]⟩
 ·rw[if_neg k,if_neg k3,if_pos k4]
  refine⟨fun b=>by simp[b],fun b=>?_⟩
  have hb:n.Parts=[]:=by simpa using b
  have hle:=endS_le n.Text
  have hne:=r_nameEnd n.Text h.text 0
  rw[List.drop_zero] at hne
  have et:(((0:Nat):Int)+((endS n.Text:Nat):Int)).toNat=endS n.Text:=by omega
  refine⟨_,hne,by omega,by omega,_,r_Dotted _ h.text,fun hd=>?_,fun hd=>by simp[hd]⟩
  have hf:=dotted_first hd
  rw[et]
  refine⟨fun c=>?_,fun c=>?_⟩
  ·rw[hf,c];simp[truthS]
  rw[hf];simp[truthS,hd,hn,hb,c]
 ·rw[if_neg k,if_neg k3,if_neg k4,if_pos k5]
  refine⟨fun b=>by simp[b],fun b=>?_⟩
  have hb:n.Parts=[]:=by simpa using b
  refine⟨_,r_refName _ h.text,fun hd=>⟨fun c=>by rw[c];simp[truthS],fun c=>by simp[truthS,hd,hn,hb,c]⟩,fun hd=>by simp[hd]⟩
 ·rw[if_neg k,if_neg k3,if_neg k4,if_neg k5]
  refine⟨fun ht=>⟨fun k2=>⟨_,r_mayParts _ h.parts,by rw[if_pos k2];simp[hn,ht]⟩,fun k2=>⟨fun b=>by rw[if_neg k2];simp[b],fun b=>by rw[if_neg k2];simp at b;simp[hn,ht,b]⟩⟩,fun ht=>?_⟩
  split <;> simp[ht]
 rw[if_neg k,if_neg k3]
 repeat' split
 all_goals simp[hn]
theorem At_Q29_2_in {l:List Node} {i:Nat} {l2:List Int} {n:Node} {r:Bool} (hi:i≤1000000) (h2:l2.length≤1000000) (hk:n.Kids.length≤l2.length) (hy:l2.drop (l2.length - n.Kids.length)=n.Kids→At_Q29_1b l ((i:Int)+1) (l2.take (l2.length - n.Kids.length)++[(i:Int)]) r) (hno:¬ l2.drop (l2.length - n.Kids.length)=n.Kids→false=r):∀ (m j:Nat),j+m=n.Kids.length→(l2.drop (l2.length - n.Kids.length)).take j=n.Kids.take j→At_Q29_2 l i l2 n j r
 | 0,j,hj,he=>by
  have e:((l2.length:Int) - (n.Kids.length:Int)).toNat=l2.length - n.Kids.length:=by omega
  apply At_Q29_2_step
  refine⟨fun h=>by omega,fun _=>⟨⟨by omega,by omega⟩,⟨by omega,by omega⟩,by omega,by omega,by simp only[bigRow];omega,⟨by omega,by omega⟩,?_⟩⟩
  rw[e]
  refine hy ?_
  rwa [List.take_of_length_le (by rw[List.length_drop];omega),List.take_of_length_le (by omega)] at he
 | m+1,j,hj,he=>by
  have hjk:j < n.Kids.length:=by omega
  have hlt:l2.length - n.Kids.length+j < l2.length:=by omega
  have e:(((l2.length:Int) - (n.Kids.length:Int))+(j:Int)).toNat=l2.length - n.Kids.length+j:=by omega
  have hg1:l2[l2.length - n.Kids.length+j]?=some l2[l2.length - n.Kids.length+j]:=List.getElem?_eq_getElem hlt
  have hg2:n.Kids[((j:Nat):Int).toNat]?=some n.Kids[j]:=by rw[Int.toNat_natCast];exact List.getElem?_eq_getElem hjk
  have hdl:(l2.drop (l2.length - n.Kids.length))[j]?=some l2[l2.length - n.Kids.length+j]:=by rw[List.getElem?_drop,hg1]
  apply At_Q29_2_step
  refine⟨fun _=>⟨⟨by omega,by omega⟩,⟨by omega,by omega⟩,by omega,by omega,_,by rw[e];exact hg1,by omega,_,hg2,fun h=>⟨⟨by omega,by omega⟩,?_⟩,fun h=>hno fun hf=>?_⟩,fun h=>by omega⟩
  ·refine At_Q29_2_in hi h2 hk hy hno m (j+1) (by omega) ?_
   rw[List.take_add_one,List.take_add_one,he,hdl,List.getElem?_eq_getElem hjk,h]
  rw[hf,List.getElem?_eq_getElem hjk] at hdl
  exact h (Option.some.inj hdl).symm
theorem At_Q29_2b_in {l:List Node} {i:Nat} {l2:List Int} {n:Node} {r:Bool} (hi:i≤1000000) (h2:l2.length≤1000000) (hk:n.Kids.length≤l2.length) (hy:l2.drop (l2.length - n.Kids.length)=n.Kids→At_Q29_1b l ((i:Int)+1) (l2.take (l2.length - n.Kids.length)++[(i:Int)]) r) (hno:¬ l2.drop (l2.length - n.Kids.length)=n.Kids→false=r):∀ (m j:Nat),j+m=n.Kids.length→(l2.drop (l2.length - n.Kids.length)).take j=n.Kids.take j→At_Q29_2b l i l2 n (n.Kids.length:Int) j r
 | 0,j,hj,he=>by
  have e:((l2.length:Int) - (n.Kids.length:Int)).toNat=l2.length - n.Kids.length:=by omega
  apply At_Q29_2b_step
  refine⟨fun h=>by omega,fun _=>⟨⟨by omega,by omega⟩,⟨by omega,by omega⟩,by omega,by omega,by simp only[bigRow];omega,⟨by omega,by omega⟩,?_⟩⟩
  rw[e]
  refine hy ?_
  rwa [List.take_of_length_le (by rw[List.length_drop];omega),List.take_of_length_le (by omega)] at he
 | m+1,j,hj,he=>by
  have hjk:j < n.Kids.length:=by omega
  have hlt:l2.length - n.Kids.length+j < l2.length:=by omega
  have e:(((l2.length:Int) - (n.Kids.length:Int))+(j:Int)).toNat=l2.length - n.Kids.length+j:=by omega
  have hg1:l2[l2.length - n.Kids.length+j]?=some l2[l2.length - n.Kids.length+j]:=List.getElem?_eq_getElem hlt
  have hg2:n.Kids[((j:Nat):Int).toNat]?=some n.Kids[j]:=by rw[Int.toNat_natCast];exact List.getElem?_eq_getElem hjk
  have hdl:(l2.drop (l2.length - n.Kids.length))[j]?=some l2[l2.length - n.Kids.length+j]:=by rw[List.getElem?_drop,hg1]
  apply At_Q29_2b_step
  refine⟨fun _=>⟨⟨by omega,by omega⟩,⟨by omega,by omega⟩,by omega,by omega,_,by rw[e];exact hg1,by omega,_,hg2,fun h=>⟨⟨by omega,by omega⟩,?_⟩,fun h=>hno fun hf=>?_⟩,fun h=>by omega⟩
  ·refine At_Q29_2b_in hi h2 hk hy hno m (j+1) (by omega) ?_
   rw[List.take_add_one,List.take_add_one,he,hdl,List.getElem?_eq_getElem hjk,h]
  rw[hf,List.getElem?_eq_getElem hjk] at hdl
  exact h (Option.some.inj hdl).symm
theorem At_Q29_2c_in {l:List Node} {i:Nat} {l2:List Int} {n:Node} {r:Bool} (hi:i≤1000000) (h2:l2.length≤1000000) (hk:n.Kids.length≤l2.length) (hy:l2.drop (l2.length - n.Kids.length)=n.Kids→At_Q29_1b l ((i:Int)+1) (l2.take (l2.length - n.Kids.length)++[(i:Int)]) r) (hno:¬ l2.drop (l2.length - n.Kids.length)=n.Kids→false=r):∀ (m j:Nat),j+m=n.Kids.length→(l2.drop (l2.length - n.Kids.length)).take j=n.Kids.take j→At_Q29_2c l i l2 n j r
 | 0,j,hj,he=>by
  have e:((l2.length:Int) - (n.Kids.length:Int)).toNat=l2.length - n.Kids.length:=by omega
  apply At_Q29_2c_step
  refine⟨fun h=>by omega,fun _=>⟨⟨by omega,by omega⟩,⟨by omega,by omega⟩,by omega,by omega,by simp only[bigRow];omega,⟨by omega,by omega⟩,?_⟩⟩
  rw[e]
  refine hy ?_
  rwa [List.take_of_length_le (by rw[List.length_drop];omega),List.take_of_length_le (by omega)] at he
 | m+1,j,hj,he=>by
  have hjk:j < n.Kids.length:=by omega
  have hlt:l2.length - n.Kids.length+j < l2.length:=by omega
  have e:(((l2.length:Int) - (n.Kids.length:Int))+(j:Int)).toNat=l2.length - n.Kids.length+j:=by omega
  have hg1:l2[l2.length - n.Kids.length+j]?=some l2[l2.length - n.Kids.length+j]:=List.getElem?_eq_getElem hlt
  have hg2:n.Kids[((j:Nat):Int).toNat]?=some n.Kids[j]:=by rw[Int.toNat_natCast];exact List.getElem?_eq_getElem hjk
  have hdl:(l2.drop (l2.length - n.Kids.length))[j]?=some l2[l2.length - n.Kids.length+j]:=by rw[List.getElem?_drop,hg1]
  apply At_Q29_2c_step
  refine⟨fun _=>⟨⟨by omega,by omega⟩,⟨by omega,by omega⟩,by omega,by omega,_,by rw[e];exact hg1,by omega,_,hg2,fun h=>⟨⟨by omega,by omega⟩,?_⟩,fun h=>hno fun hf=>?_⟩,fun h=>by omega⟩
  ·refine At_Q29_2c_in hi h2 hk hy hno m (j+1) (by omega) ?_
   rw[List.take_add_one,List.take_add_one,he,hdl,List.getElem?_eq_getElem hjk,h]
  rw[hf,List.getElem?_eq_getElem hjk] at hdl
  exact h (Option.some.inj hdl).symm
theorem At_Q29_2d_in {l:List Node} {i:Nat} {l2:List Int} {n:Node} {r:Bool} (hi:i≤1000000) (h2:l2.length≤1000000) (hk:n.Kids.length≤l2.length) (hy:l2.drop (l2.length - n.Kids.length)=n.Kids→At_Q29_1b l ((i:Int)+1) (l2.take (l2.length - n.Kids.length)++[(i:Int)]) r) (hno:¬ l2.drop (l2.length - n.Kids.length)=n.Kids→false=r):∀ (m j:Nat),j+m=n.Kids.length→(l2.drop (l2.length - n.Kids.length)).take j=n.Kids.take j→At_Q29_2d l i l2 n (n.Kids.length:Int) j r
 | 0,j,hj,he=>by
  have e:((l2.length:Int) - (n.Kids.length:Int)).toNat=l2.length - n.Kids.length:=by omega
  apply At_Q29_2d_step
  refine⟨fun h=>by omega,fun _=>⟨⟨by omega,by omega⟩,⟨by omega,by omega⟩,by omega,by omega,by simp only[bigRow];omega,⟨by omega,by omega⟩,?_⟩⟩
  rw[e]
  refine hy ?_
  rwa [List.take_of_length_le (by rw[List.length_drop];omega),List.take_of_length_le (by omega)] at he
 | m+1,j,hj,he=>by
  have hjk:j < n.Kids.length:=by omega
  have hlt:l2.length - n.Kids.length+j < l2.length:=by omega
  have e:(((l2.length:Int) - (n.Kids.length:Int))+(j:Int)).toNat=l2.length - n.Kids.length+j:=by omega
  have hg1:l2[l2.length - n.Kids.length+j]?=some l2[l2.length - n.Kids.length+j]:=List.getElem?_eq_getElem hlt
  have hg2:n.Kids[((j:Nat):Int).toNat]?=some n.Kids[j]:=by rw[Int.toNat_natCast];exact List.getElem?_eq_getElem hjk
  have hdl:(l2.drop (l2.length - n.Kids.length))[j]?=some l2[l2.length - n.Kids.length+j]:=by rw[List.getElem?_drop,hg1]
  apply At_Q29_2d_step
  refine⟨fun _=>⟨⟨by omega,by omega⟩,⟨by omega,by omega⟩,by omega,by omega,_,by rw[e];exact hg1,by omega,_,hg2,fun h=>⟨⟨by omega,by omega⟩,?_⟩,fun h=>hno fun hf=>?_⟩,fun h=>by omega⟩
  ·refine At_Q29_2d_in hi h2 hk hy hno m (j+1) (by omega) ?_
   rw[List.take_add_one,List.take_add_one,he,hdl,List.getElem?_eq_getElem hjk,h]
  rw[hf,List.getElem?_eq_getElem hjk] at hdl
  exact h (Option.some.inj hdl).symm
theorem refTree_1b {l:List Node} (hl:l.length≤1000000) (hn:∀ n ∈ l,NB n) (m i:Nat) (hi:i+m=l.length) (l2:List Int) (h2:l2.length≤i) (ih:∀ (hlt:i < l.length) (l3:List Int),l3.length≤i+1→At_Q29_1b l ((i:Int)+1) l3 (stk (i+1) l3.reverse (l.drop (i+1)))):At_Q29_1b l i l2 (stk i l2.reverse (l.drop i)):=by
 apply At_Q29_1b_step
 refine⟨fun h=>?_,fun h=>?_⟩
 ·have hlt:i < l.length:=by omega
  have hg:l[((i:Nat):Int).toNat]?=some l[i]:=by rw[Int.toNat_natCast];exact List.getElem?_eq_getElem hlt
  have hb:=hn _ (List.getElem_mem hlt)
  have hkl:=hb.kids
  have hrev:l2.length < l[i].Kids.length→¬ l2.reverse.take l[i].Kids.length=l[i].Kids.reverse:=fun h e=>by
   have:=congrArg List.length e
   simp at this
   omega
  have hiff:l[i].Kids.length≤l2.length→(l2.reverse.take l[i].Kids.length=l[i].Kids.reverse↔l2.drop (l2.length - l[i].Kids.length)=l[i].Kids):=fun h=>by
   rw[List.take_reverse]
   exact⟨fun e=>List.reverse_inj.1 e,fun e=>by rw[e]⟩
  have hdrop:l[i].Kids.length≤l2.length→(i:Int)::l2.reverse.drop l[i].Kids.length=(l2.take (l2.length - l[i].Kids.length)++[(i:Int)]).reverse:=fun h=>by
   rw[List.reverse_append,List.drop_reverse]
   rfl
  rw[List.drop_eq_getElem_cons hlt,stk]
  have next:l[i].Kids.length≤l2.length→At_Q29_1b l ((i:Int)+1) (l2.take (l2.length - l[i].Kids.length)++[(i:Int)]) (stk (i+1) ((i:Int)::l2.reverse.drop l[i].Kids.length) (l.drop (i+1))):=fun h=>by
   rw[hdrop h]
   exact ih (by omega) _ (by simp;omega)
  have hko:nodeOk l[i]=((decide (kdS l[i].Kind=(l[i].Kids.length:Nat)) || decide (kdS l[i].Kind=-1)) && plS l[i]):=rfl
  refine⟨by omega,_,hg,_,r_arms _,fun ka=>⟨fun h=>by omega,fun _=>⟨fun hs=>?_,fun hs=>?_⟩⟩,fun ka=>⟨fun h=>?_,fun h=>⟨fun he=>?_,fun he=>?_⟩⟩⟩
  ·rw[if_neg fun e=>hrev (by omega) e.2]
  ·have hs':l[i].Kids.length≤l2.length:=by omega
   refine⟨_,r_leaf _ hb,fun hp=>?_,fun hp=>?_⟩
   ·have ho:nodeOk l[i]=true:=by rw[hko,hp,ka];simp
    refine At_Q29_2c_in (by omega) (by omega) hs' (fun e=>?_) (fun e=>?_) l[i].Kids.length 0 (by omega) rfl
    ·rw[if_pos ⟨ho,(hiff hs').2 e⟩]
     exact next hs'
    rw[if_neg fun e'=>e ((hiff hs').1 e'.2)]
   rw[if_neg fun e=>by have:=e.1;rw[hko] at this;simp[hp] at this]
  ·rw[if_neg fun e=>by
    have:=e.1
    rw[hko] at this
    simp only[Bool.and_eq_true,Bool.or_eq_true,decide_eq_true_eq] at this
    rcases this.1 with h' | h'
    ·omega
    exact ka h']
  ·rw[he]
   refine⟨fun hs=>?_,fun hs=>?_⟩
   ·rw[if_neg fun e=>hrev (by omega) e.2]
   have hs':l[i].Kids.length≤l2.length:=by omega
   refine⟨_,r_leaf _ hb,fun hp=>?_,fun hp=>?_⟩
   ·have ho:nodeOk l[i]=true:=by rw[hko,hp,he];simp
    refine At_Q29_2d_in (by omega) (by omega) hs' (fun e=>?_) (fun e=>?_) l[i].Kids.length 0 (by omega) rfl
    ·rw[if_pos ⟨ho,(hiff hs').2 e⟩]
     exact next hs'
    rw[if_neg fun e'=>e ((hiff hs').1 e'.2)]
   rw[if_neg fun e=>by have:=e.1;rw[hko] at this;simp[hp] at this]
  rw[if_neg fun e=>by
   have:=e.1
   rw[hko] at this
   simp only[Bool.and_eq_true,Bool.or_eq_true,decide_eq_true_eq] at this
   rcases this.1 with h' | h'
   ·exact he h'
   exact ka h']
 rw[List.drop_of_length_le (by omega),stk,List.length_reverse]
 exact decide_eq_decide.2 (by omega)
theorem refTree_1 {l:List Node} (hl:l.length≤1000000) (hn:∀ n ∈ l,NB n) (m i:Nat) (hi:i+m=l.length) (l2:List Int) (h2:l2.length≤i) (ih:∀ (hlt:i < l.length) (l3:List Int),l3.length≤i+1→At_Q29_1b l ((i:Int)+1) l3 (stk (i+1) l3.reverse (l.drop (i+1)))):At_Q29_1 l i l2 (stk i l2.reverse (l.drop i)):=by
 apply At_Q29_1_step
 refine⟨fun h=>?_,fun h=>?_⟩
 ·have hlt:i < l.length:=by omega
  have hg:l[((i:Nat):Int).toNat]?=some l[i]:=by rw[Int.toNat_natCast];exact List.getElem?_eq_getElem hlt
  have hb:=hn _ (List.getElem_mem hlt)
  have hkl:=hb.kids
  have hrev:l2.length < l[i].Kids.length→¬ l2.reverse.take l[i].Kids.length=l[i].Kids.reverse:=fun h e=>by
   have:=congrArg List.length e
   simp at this
   omega
  have hiff:l[i].Kids.length≤l2.length→(l2.reverse.take l[i].Kids.length=l[i].Kids.reverse↔l2.drop (l2.length - l[i].Kids.length)=l[i].Kids):=fun h=>by
   rw[List.take_reverse]
   exact⟨fun e=>List.reverse_inj.1 e,fun e=>by rw[e]⟩
  have hdrop:l[i].Kids.length≤l2.length→(i:Int)::l2.reverse.drop l[i].Kids.length=(l2.take (l2.length - l[i].Kids.length)++[(i:Int)]).reverse:=fun h=>by
   rw[List.reverse_append,List.drop_reverse]
   rfl
  rw[List.drop_eq_getElem_cons hlt,stk]
  have next:l[i].Kids.length≤l2.length→At_Q29_1b l ((i:Int)+1) (l2.take (l2.length - l[i].Kids.length)++[(i:Int)]) (stk (i+1) ((i:Int)::l2.reverse.drop l[i].Kids.length) (l.drop (i+1))):=fun h=>by
   rw[hdrop h]
   exact ih (by omega) _ (by simp;omega)
  have hko:nodeOk l[i]=((decide (kdS l[i].Kind=(l[i].Kids.length:Nat)) || decide (kdS l[i].Kind=-1)) && plS l[i]):=rfl
  refine⟨by omega,_,hg,_,r_arms _,fun ka=>⟨fun h=>by omega,fun _=>⟨fun hs=>?_,fun hs=>?_⟩⟩,fun ka=>⟨fun h=>?_,fun h=>⟨fun he=>?_,fun he=>?_⟩⟩⟩
  ·rw[if_neg fun e=>hrev (by omega) e.2]
  ·have hs':l[i].Kids.length≤l2.length:=by omega
   refine⟨_,r_leaf _ hb,fun hp=>?_,fun hp=>?_⟩
   ·have ho:nodeOk l[i]=true:=by rw[hko,hp,ka];simp
    refine At_Q29_2_in (by omega) (by omega) hs' (fun e=>?_) (fun e=>?_) l[i].Kids.length 0 (by omega) rfl
    ·rw[if_pos ⟨ho,(hiff hs').2 e⟩]
     exact next hs'
    rw[if_neg fun e'=>e ((hiff hs').1 e'.2)]
   rw[if_neg fun e=>by have:=e.1;rw[hko] at this;simp[hp] at this]
  ·rw[if_neg fun e=>by
    have:=e.1
    rw[hko] at this
    simp only[Bool.and_eq_true,Bool.or_eq_true,decide_eq_true_eq] at this
    rcases this.1 with h' | h'
    ·omega
    exact ka h']
  ·rw[he]
   refine⟨fun hs=>?_,fun hs=>?_⟩
   ·rw[if_neg fun e=>hrev (by omega) e.2]
   have hs':l[i].Kids.length≤l2.length:=by omega
   refine⟨_,r_leaf _ hb,fun hp=>?_,fun hp=>?_⟩
   ·have ho:nodeOk l[i]=true:=by rw[hko,hp,he];simp
    refine At_Q29_2b_in (by omega) (by omega) hs' (fun e=>?_) (fun e=>?_) l[i].Kids.length 0 (by omega) rfl
    ·rw[if_pos ⟨ho,(hiff hs').2 e⟩]
     exact next hs'
    rw[if_neg fun e'=>e ((hiff hs').1 e'.2)]
   rw[if_neg fun e=>by have:=e.1;rw[hko] at this;simp[hp] at this]
  rw[if_neg fun e=>by
   have:=e.1
   rw[hko] at this
   simp only[Bool.and_eq_true,Bool.or_eq_true,decide_eq_true_eq] at this
   rcases this.1 with h' | h'
   ·exact he h'
   exact ka h']
 rw[List.drop_of_length_le (by omega),stk,List.length_reverse]
 exact decide_eq_decide.2 (by omega)
theorem refTree_all {l:List Node} (hl:l.length≤1000000) (hn:∀ n ∈ l,NB n):∀ (m i:Nat),i+m=l.length→∀ (l2:List Int),l2.length≤i→At_Q29_1b l i l2 (stk i l2.reverse (l.drop i))
 | 0,i,hi,l2,h2=>refTree_1b hl hn 0 i hi l2 h2 fun h=>by omega
 | m+1,i,hi,l2,h2=>refTree_1b hl hn (m+1) i hi l2 h2 fun h l3 h3=>by
  have:=refTree_all hl hn m (i+1) (by omega) l3 h3
  exact this
theorem r_refTree (l:List Node) (hl:l.length≤1000000) (hn:∀ n ∈ l,NB n):R_Q29 l (treeS l):=by
 rw[tree_stk]
 apply Q29_tree
 exact refTree_1 hl hn l.length 0 (by omega) [] (by simp) fun h l3 h3=>by
  have:=refTree_all hl hn (l.length - 1) 1 (by omega) l3 h3
  exact this
def bigN (n:Node):Bool:=decide (100 < n.Kids.length) || (decide (300 < n.Text.length) || (decide (60 < n.Parts.length) || n.Parts.any fun p=>decide (300 < p.Text.length)))
def greatS (l:List Node):Bool:=(l.take 100).any bigN || decide (80 < l.length)
theorem r_Great (l:List Node):R_Q27 l (greatS l):=by
 have fin:∀ (i:Nat),(l.take 100).length≤i→(decide (80 < (l.length:Int)))=(((l.take 100).drop i).any bigN || decide (80 < l.length)):=fun i hi=>by
  rw[List.drop_of_length_le hi,List.any_nil,Bool.false_or]
  exact decide_eq_decide.2 (by omega)
 have loop:∀ (m i:Nat),i+m=(l.take 100).length→At_Q27_1 l i (((l.take 100).drop i).any bigN || decide (80 < l.length)):=by
  intro m
  induction m with
  | zero =>
   intro i hi
   have hl:(l.take 100).length=min 100 l.length:=List.length_take
   apply At_Q27_1_step
   exact⟨fun h=>⟨fun h'=>by omega,fun h'=>fin i (by omega)⟩,fun h=>fin i (by omega)⟩
  | succ m ih =>
   intro i hi
   have hl:(l.take 100).length=min 100 l.length:=List.length_take
   have hlt:i < l.length:=by omega
   have hg:l[((i:Nat):Int).toNat]?=some l[i]:=by rw[Int.toNat_natCast];exact List.getElem?_eq_getElem hlt
   have hd:(l.take 100).drop i=l[i]::(l.take 100).drop (i+1):=by
    rw[List.drop_eq_getElem_cons (by omega)]
    simp
   have ih:=ih (i+1) (by omega)
   have inner:∀ (m j:Nat),j+m=l[i].Parts.length→l[i].Parts.length≤60→At_Q27_2 l i j ((l[i].Parts.drop j).any (fun p=>decide (300 < p.Text.length)) || (((l.take 100).drop (i+1)).any bigN || decide (80 < l.length))):=by
    intro m
    induction m with
    | zero =>
     intro j hj h60
     apply At_Q27_2_step
     refine⟨by omega,_,hg,fun h=>by omega,fun _=>⟨⟨by omega,by omega⟩,?_⟩⟩
     rw[List.drop_of_length_le (by omega)]
     exact ih
    | succ m ihm =>
     intro j hj h60
     have hjl:j < l[i].Parts.length:=by omega
     have hgj:l[i].Parts[((j:Nat):Int).toNat]?=some l[i].Parts[j]:=by rw[Int.toNat_natCast];exact List.getElem?_eq_getElem hjl
     have hdj:l[i].Parts.drop j=l[i].Parts[j]::l[i].Parts.drop (j+1):=List.drop_eq_getElem_cons hjl
     have ihm:=ihm (j+1) (by omega) h60
     apply At_Q27_2_step
     refine⟨by omega,_,hg,fun _=>⟨by omega,_,hgj,fun h=>?_,fun h=>⟨⟨by omega,by omega⟩,?_⟩⟩,fun h=>by omega⟩
     ·rw[hdj,List.any_cons,decide_eq_true (by omega),Bool.true_or,Bool.true_or]
     rw[hdj,List.any_cons,decide_eq_false (by omega),Bool.false_or]
     exact ihm
   apply At_Q27_1_step
   rw[hd,List.any_cons]
   refine⟨fun _=>⟨fun _=>⟨by omega,_,hg,fun h=>?_,fun h=>⟨fun h'=>?_,fun h'=>⟨fun h''=>?_,fun h''=>?_⟩⟩⟩,fun h=>by omega⟩,fun h=>by omega⟩
   ·rw[show bigN l[i]=true by simp[bigN];omega];rfl
   ·rw[show bigN l[i]=true by simp[bigN];omega];rfl
   ·rw[show bigN l[i]=true by simp[bigN];omega];rfl
   have hb:bigN l[i]=l[i].Parts.any fun p=>decide (300 < p.Text.length):=by
    rw[bigN,decide_eq_false (by omega),decide_eq_false (by omega),decide_eq_false (by omega)]
    rfl
   rw[hb,Bool.or_assoc]
   exact inner l[i].Parts.length 0 (by omega) (by omega)
 apply Q27_tree
 exact loop (l.take 100).length 0 (by omega)
theorem great_ok {l:List Node} (h:greatS l=false):l.length≤80∧∀ n ∈ l,NB n:=by
 simp only[greatS,Bool.or_eq_false_iff,decide_eq_false_iff_not] at h
 obtain⟨h1,h2⟩:=h
 refine⟨by omega,fun n hn=>?_⟩
 rw[List.take_of_length_le (by omega)] at h1
 have hb:=List.any_eq_false.1 h1 n hn
 simp only[bigN,Bool.or_eq_true,decide_eq_true_eq,not_or,List.any_eq_true,not_exists,not_and] at hb
 obtain⟨b1,b2,b3,b4⟩:=hb
 exact⟨by omega,⟨by omega,fun p hp=>by have:=b4 p hp;omega⟩,by omega⟩
def bigA (a:Attr):Bool:=decide (100 < a.Name.length) || greatS a.Expr
def wideS:Nat→List Block→Bool
 | 0,_=>true
 | m+1,l=>decide (20 < l.length) || l.any fun b=>decide (100 < b.Label.length) || (decide (30 < b.Attrs.length) || (wideS m b.Blocks || b.Attrs.any bigA))
theorem r_Wide:∀ (m d:Nat),d+m=7→∀ (l:List Block),R_Q28 l (d:Nat) (wideS m l)
 | 0,d,hd,l=>by
  apply Q28_tree
  exact⟨fun _=>rfl,fun _=>⟨fun _=>rfl,fun h=>by omega⟩⟩
 | m+1,d,hd,l=>by
  have ihW:=r_Wide m (d+1) (by omega)
  apply Q28_tree
  refine⟨fun h=>by rw[wideS,decide_eq_true (by omega),Bool.true_or],fun h=>⟨fun h=>by omega,fun _=>?_⟩⟩
  rw[wideS,decide_eq_false (by omega),Bool.false_or]
  have hl:l.length≤20:=by omega
  generalize hq:(fun b:Block=>decide (100 < b.Label.length) || (decide (30 < b.Attrs.length) || (wideS m b.Blocks || b.Attrs.any bigA)))=q
  have loop:∀ (k i:Nat),i+k=l.length→At_Q28_1 l (d:Nat) i ((l.drop i).any q):=by
   intro k
   induction k with
   | zero =>
    intro i hi
    apply At_Q28_1_step
    exact⟨fun h=>by omega,fun _=>by rw[List.drop_of_length_le (by omega)];rfl⟩
   | succ k ih =>
    intro i hi
    have hlt:i < l.length:=by omega
    have hg:l[((i:Nat):Int).toNat]?=some l[i]:=by rw[Int.toNat_natCast];exact List.getElem?_eq_getElem hlt
    have hdr:l.drop i=l[i]::l.drop (i+1):=List.drop_eq_getElem_cons hlt
    have ih:=ih (i+1) (by omega)
    have inner:∀ (m' j:Nat),j+m'=l[i].Attrs.length→l[i].Attrs.length≤30→At_Q28_2 l (d:Nat) i j ((l[i].Attrs.drop j).any bigA || (l.drop (i+1)).any q):=by
     intro m'
     induction m' with
     | zero =>
      intro j hj h30
      apply At_Q28_2_step
      refine⟨by omega,_,hg,fun h=>by omega,fun _=>⟨⟨by omega,by omega⟩,?_⟩⟩
      rw[List.drop_of_length_le (by omega)]
      exact ih
     | succ m' ihm =>
      intro j hj h30
      have hjl:j < l[i].Attrs.length:=by omega
      have hgj:l[i].Attrs[((j:Nat):Int).toNat]?=some l[i].Attrs[j]:=by rw[Int.toNat_natCast];exact List.getElem?_eq_getElem hjl
      have hdj:l[i].Attrs.drop j=l[i].Attrs[j]::l[i].Attrs.drop (j+1):=List.drop_eq_getElem_cons hjl
      have ihm:=ihm (j+1) (by omega) h30
      apply At_Q28_2_step
      refine⟨by omega,_,hg,fun _=>⟨by omega,_,hgj,fun h=>?_,fun h=>⟨_,r_Great _,fun h'=>?_,fun h'=>⟨⟨by omega,by omega⟩,?_⟩⟩⟩,fun h=>by omega⟩
      ·rw[hdj,List.any_cons,show bigA l[i].Attrs[j]=true by simp[bigA];omega,Bool.true_or,Bool.true_or]
      ·rw[hdj,List.any_cons,show bigA l[i].Attrs[j]=true by simp[bigA,h'],Bool.true_or,Bool.true_or]
      rw[hdj,List.any_cons,show bigA l[i].Attrs[j]=false by rw[bigA,decide_eq_false (by omega),Bool.false_or];simpa using h',Bool.false_or]
      exact ihm
    have hW:=ihW l[i].Blocks
    rw[show ((d+1:Nat):Int)=(d:Int)+1 by omega] at hW
    apply At_Q28_1_step
    rw[hdr,List.any_cons]
    have hqi:q l[i]=(decide (100 < l[i].Label.length) || (decide (30 < l[i].Attrs.length) || (wideS m l[i].Blocks || l[i].Attrs.any bigA))):=by rw[←hq]
    rw[hqi]
    refine⟨fun _=>⟨by omega,_,hg,fun h=>?_,fun h=>⟨fun h'=>?_,fun h'=>⟨⟨by omega,by omega⟩,_,hW,fun h''=>?_,fun h''=>?_⟩⟩⟩,fun h=>by omega⟩
    ·rw[decide_eq_true (by omega)];rfl
    ·rw[decide_eq_false (by omega),decide_eq_true (by omega)];rfl
    ·rw[decide_eq_false (by omega),decide_eq_false (by omega),h''];rfl
    rw[decide_eq_false (by omega),decide_eq_false (by omega),show wideS m l[i].Blocks=false by simpa using h'',Bool.false_or,Bool.false_or,Bool.false_or]
    exact inner l[i].Attrs.length 0 (by omega) (by omega)
  exact loop l.length 0 (by omega)
structure AB (a:Attr):Prop where
 name:a.Name.length≤1000000
 expr:a.Expr.length≤1000000
 nodes:∀ n ∈ a.Expr,NB n
structure BB (b:Block):Prop where
 label:b.Label.length≤1000000
 attrs:b.Attrs.length≤1000000
 each:∀ a ∈ b.Attrs,AB a
 blocks:b.Blocks.length≤1000000
theorem wide_ok {m:Nat} {l:List Block} (h:wideS m l=false):l.length≤1000000∧∀ b ∈ l,BB b∧∃ m',wideS m' b.Blocks=false:=by
 cases m with
 | zero=>cases h
 | succ m =>
  simp only[wideS,Bool.or_eq_false_iff,decide_eq_false_iff_not] at h
  obtain⟨h1,h2⟩:=h
  refine⟨by omega,fun b hb=>?_⟩
  have hq:=List.any_eq_false.1 h2 b hb
  simp only[Bool.or_eq_true,decide_eq_true_eq,not_or,Bool.not_eq_true] at hq
  obtain⟨q1,q2,q3,q4⟩:=hq
  have hbl:b.Blocks.length≤1000000:=by
   cases m with
   | zero=>cases q3
   | succ m =>
    simp only[wideS,Bool.or_eq_false_iff,decide_eq_false_iff_not] at q3
    omega
  refine⟨⟨by omega,by omega,fun a ha=>?_,hbl⟩,m,q3⟩
  have:=List.any_eq_false.1 q4 a ha
  simp only[bigA,Bool.or_eq_true,decide_eq_true_eq,not_or,Bool.not_eq_true] at this
  obtain⟨g1,g2⟩:=great_ok this.2
  exact⟨by omega,by omega,g2⟩
def atOk (seen:List Attr):List Attr→Bool
 | []=>true
 | a::l=>nameS a.Name && treeS a.Expr && !(seen.any fun x=>decide (x.Name=a.Name)) && atOk (seen++[a]) l
theorem r_attrsM (l:List Attr) (hl:l.length≤1000000) (ha:∀ a ∈ l,AB a):R_Q82 l (atOk [] l):=by
 have loop:∀ (m i:Nat),i+m=l.length→At_Q121 l i (atOk (l.take i) (l.drop i)):=by
  intro m
  induction m with
  | zero =>
   intro i hi
   apply At_Q121_step
   exact⟨fun h=>by omega,fun _=>by rw[List.drop_of_length_le (by omega)];rfl⟩
  | succ m ih =>
   intro i hi
   have hlt:i < l.length:=by omega
   have hg:l[((i:Nat):Int).toNat]?=some l[i]:=by rw[Int.toNat_natCast];exact List.getElem?_eq_getElem hlt
   have hd:l.drop i=l[i]::l.drop (i+1):=List.drop_eq_getElem_cons hlt
   have hA:=ha _ (List.getElem_mem hlt)
   have ih:=ih (i+1) (by omega)
   rw[show l.take (i+1)=l.take i++[l[i]] by rw[List.take_add_one,List.getElem?_eq_getElem hlt];rfl] at ih
   apply At_Q121_step
   rw[hd,atOk]
   refine⟨fun _=>⟨by omega,_,hg,_,r_lexName _ hA.name,fun h1=>⟨_,r_Tree _ hA.expr hA.nodes,fun h2=>⟨by omega,by omega,?_,fun x=>decide (x.Name=l[i].Name),fun x _=>Q121_tree _ _ _ rfl,fun h3=>?_,fun h3=>⟨⟨by omega,by omega⟩,?_⟩⟩,fun h2=>?_⟩,fun h1=>?_⟩,fun h=>by omega⟩
   ·rw[Int.toNat_natCast,List.length_take];omega
   ·rw[Int.toNat_natCast] at h3
    rw[h1,h2,h3]
    rfl
   ·rw[Int.toNat_natCast] at h3
    rw[h1,h2,show (l.take i).any (fun x=>decide (x.Name=l[i].Name))=false by simpa using h3]
    exact ih
   ·rw[show treeS l[i].Expr=false by simpa using h2,Bool.and_false];rfl
   rw[show nameS l[i].Name=false by simpa using h1];rfl
 have:=loop l.length 0 (by omega)
 exact Q82_tree _ _ this
theorem r_refMayA (b:Block) (hb:BB b):At_Q84_1 b 0 (atOk [] b.Attrs && decide (b.Blocks=[])):=by
 have hl:=hb.attrs
 have loop:∀ (m i:Nat),i+m=b.Attrs.length→At_Q84_1 b i (atOk (b.Attrs.take i) (b.Attrs.drop i) && decide (b.Blocks=[])):=by
  intro m
  induction m with
  | zero =>
   intro i hi
   apply At_Q84_1_step
   exact⟨fun h=>by omega,fun _=>by rw[List.drop_of_length_le (by omega),len0];rfl⟩
  | succ m ih =>
   intro i hi
   have hlt:i < b.Attrs.length:=by omega
   have hg:b.Attrs[((i:Nat):Int).toNat]?=some b.Attrs[i]:=by rw[Int.toNat_natCast];exact List.getElem?_eq_getElem hlt
   have hd:b.Attrs.drop i=b.Attrs[i]::b.Attrs.drop (i+1):=List.drop_eq_getElem_cons hlt
   have hA:=hb.each _ (List.getElem_mem hlt)
   have ih:=ih (i+1) (by omega)
   rw[show b.Attrs.take (i+1)=b.Attrs.take i++[b.Attrs[i]] by rw[List.take_add_one,List.getElem?_eq_getElem hlt];rfl] at ih
   have inner:∀ (k j:Nat),j+k=i→At_Q84_2 b i j (!(((b.Attrs.take i).drop j).any fun x=>decide (x.Name=b.Attrs[i].Name)) && (atOk (b.Attrs.take i++[b.Attrs[i]]) (b.Attrs.drop (i+1)) && decide (b.Blocks=[]))):=by
    intro k
    induction k with
    | zero =>
     intro j hj
     apply At_Q84_2_step
     refine⟨fun h=>by omega,fun _=>⟨⟨by omega,by omega⟩,?_⟩⟩
     rw[List.drop_of_length_le (by rw[List.length_take];omega)]
     exact ih
    | succ k ihk =>
     intro j hj
     have hjl:j < b.Attrs.length:=by omega
     have hgj:b.Attrs[((j:Nat):Int).toNat]?=some b.Attrs[j]:=by rw[Int.toNat_natCast];exact List.getElem?_eq_getElem hjl
     have hdj:(b.Attrs.take i).drop j=b.Attrs[j]::(b.Attrs.take i).drop (j+1):=by
      rw[List.drop_eq_getElem_cons (by rw[List.length_take];omega)]
      simp
     have ihk:=ihk (j+1) (by omega)
     apply At_Q84_2_step
     rw[hdj,List.any_cons]
     refine⟨fun _=>⟨by omega,_,hgj,by omega,_,hg,fun h=>?_,fun h=>⟨⟨by omega,by omega⟩,?_⟩⟩,fun h=>by omega⟩
     ·rw[decide_eq_true h];rfl
     rw[decide_eq_false h,Bool.false_or]
     exact ihk
   apply At_Q84_1_step
   rw[hd,atOk]
   refine⟨fun _=>⟨by omega,_,hg,_,r_refName _ hA.name,fun h1=>⟨_,r_refTree _ hA.expr hA.nodes,fun h2=>?_,fun h2=>?_⟩,fun h1=>?_⟩,fun h=>by omega⟩
   ·rw[h1,h2,Bool.true_and,Bool.true_and,Bool.and_assoc]
    exact inner i 0 (by omega)
   ·rw[show treeS b.Attrs[i].Expr=false by simpa using h2,Bool.and_false];rfl
   rw[show nameS b.Attrs[i].Name=false by simpa using h1];rfl
 exact loop b.Attrs.length 0 (by omega)
def kindOk (b:Block):Bool:=decide (1≤b.Kind) && decide (b.Kind≤5) && (if b.Kind=2 then decide (b.Label=[]) else labelS b.Label)
def mayT (b:Block):Bool:=kindOk b && (if b.Kind=5 then false else decide (b.Blocks=[]) && atOk [] b.Attrs)
def mayF (b:Block):Bool:=kindOk b && (if b.Kind=5 then decide (b.Attrs=[]) && b.Blocks.all mayT else decide (b.Blocks=[]) && atOk [] b.Attrs)
theorem r_may (b:Block) (hb:BB b) (within:Bool) (hin:within=false→∀ x ∈ b.Blocks,R_Q52 x true (mayT x)):R_Q52 b within (if within=true then mayT b else mayF b):=by
 have hA:=r_attrsM b.Attrs hb.attrs hb.each
 have hbl:=hb.blocks
 have rest:b.Kind≠5→(if within=true then mayT b else mayF b)=(kindOk b && (decide (b.Blocks=[]) && atOk [] b.Attrs)):=fun h=>by
  unfold mayT mayF
  rw[if_neg h,if_neg h]
  split <;> rfl
 have no:kindOk b=false→(if within=true then mayT b else mayF b)=false:=fun h=>by
  unfold mayT mayF
  rw[h]
  split <;> rfl
 apply Q52_tree
 refine⟨_,r_lexLabel _ hb.label,fun k=>⟨fun h=>?_,fun h=>⟨fun h'=>?_,fun h'=>⟨fun hl=>⟨fun h0=>⟨_,hA,?_⟩,fun h0=>?_⟩,fun hl=>?_⟩⟩⟩,fun k=>⟨fun h=>?_,fun h=>⟨fun h'=>?_,fun h'=>⟨fun hl=>⟨fun k5=>⟨fun hw=>?_,fun hw=>⟨fun h0=>⟨by omega,?_⟩,fun h0=>?_⟩⟩,fun k5=>⟨fun h0=>⟨_,hA,?_⟩,fun h0=>?_⟩⟩,fun hl=>?_⟩⟩⟩⟩
 ·omega
 ·omega
 ·have e:kindOk b=true:=by simp[kindOk,k,hl]
  rw[rest (by omega),e,show b.Blocks=[] from List.length_eq_zero_iff.1 (by omega)]
  simp
 ·rw[rest (by omega),decide_eq_false (show ¬ b.Blocks=[] from fun e=>h0 (by rw[e];rfl))]
  simp
 ·rw[no (by simp[kindOk,k,hl])]
 ·rw[no (by simp[kindOk];intros;omega)]
 ·rw[no (by simp[kindOk];intros;omega)]
 ·subst hw
  rw[if_pos rfl,mayT,if_pos k5,Bool.and_false]
 ·have hw':within=false:=by simpa using hw
  subst hw'
  have e:kindOk b=true:=by simp[kindOk,k5,hl]
  refine⟨fun x=>!mayT x,fun x hx=>Q83_tree _ _ ⟨_,hin rfl x hx,rfl⟩,?_⟩
  rw[if_neg (by decide),mayF,if_pos k5,e,show b.Attrs=[] from List.length_eq_zero_iff.1 (by omega)]
  rw[List.all_eq_not_any_not]
  simp
 ·have hw':within=false:=by simpa using hw
  subst hw'
  rw[if_neg (by decide),mayF,if_pos k5,decide_eq_false (show ¬ b.Attrs=[] from fun e=>h0 (by rw[e];rfl))]
  simp
 ·have e:kindOk b=true:=by simp[kindOk,k,hl];omega
  rw[rest k5,e,show b.Blocks=[] from List.length_eq_zero_iff.1 (by omega)]
  simp
 ·rw[rest k5,decide_eq_false (show ¬ b.Blocks=[] from fun e=>h0 (by rw[e];rfl))]
  simp
 rw[no (by simp[kindOk,k];intros;simpa using hl)]
theorem r_refMay (b:Block) (hb:BB b) (within:Bool) (hin:within=false→R_Q53 b.Blocks true (b.Blocks.all mayT)):R_Q84 b within (if within=true then mayT b else mayF b):=by
 have hA:=r_refMayA b hb
 rw[Bool.and_comm] at hA
 have rest:b.Kind≠5→(if within=true then mayT b else mayF b)=(kindOk b && (decide (b.Blocks=[]) && atOk [] b.Attrs)):=fun h=>by
  unfold mayT mayF
  rw[if_neg h,if_neg h]
  split <;> rfl
 have no:kindOk b=false→(if within=true then mayT b else mayF b)=false:=fun h=>by
  unfold mayT mayF
  rw[h]
  split <;> rfl
 apply Q84_tree
 refine⟨fun h=>?_,fun h=>⟨fun h'=>?_,fun h'=>⟨fun k=>⟨fun hl=>?_,fun hl=>?_⟩,fun k=>⟨_,r_refLabel _ hb.label,fun hl=>⟨fun k5=>⟨fun hw=>?_,fun hw=>⟨fun h0=>?_,fun h0=>?_⟩⟩,fun k5=>?_⟩,fun hl=>?_⟩⟩⟩⟩
 ·rw[no (by simp[kindOk];intros;omega)]
 ·rw[no (by simp[kindOk];intros;omega)]
 ·have e:kindOk b=true:=by simp[kindOk,k,hl]
  rw[rest (by omega),e,Bool.true_and]
  exact hA
 ·rw[no (by simp[kindOk,k,hl])]
 ·subst hw
  rw[if_pos rfl,mayT,if_pos k5,Bool.and_false]
 ·have hw':within=false:=by simpa using hw
  subst hw'
  have e:kindOk b=true:=by simp[kindOk,k5,hl]
  refine⟨_,hin rfl,?_⟩
  rw[if_neg (by decide),mayF,if_pos k5,e,show b.Attrs=[] from List.length_eq_zero_iff.1 (by omega)]
  simp
 ·have hw':within=false:=by simpa using hw
  subst hw'
  rw[if_neg (by decide),mayF,if_pos k5,decide_eq_false (show ¬ b.Attrs=[] from fun e=>h0 (by rw[e];rfl))]
  simp
 ·have e:kindOk b=true:=by simp[kindOk,k,hl];omega
  rw[rest k5,e,Bool.true_and]
  exact hA
 rw[no (by simp[kindOk,k];intros;simpa using hl)]
theorem r_refAll (within:Bool) (f:Block→Bool) (l:List Block) (hl:l.length≤1000000) (h:∀ b ∈ l,R_Q84 b within (f b)):R_Q53 l within (l.all f):=by
 have loop:∀ (m i:Nat),i+m=l.length→At_Q53_1 l within i ((l.drop i).all f):=by
  intro m
  induction m with
  | zero =>
   intro i hi
   apply At_Q53_1_step
   exact⟨fun h=>by omega,fun _=>by rw[List.drop_of_length_le (by omega)];rfl⟩
  | succ m ih =>
   intro i hi
   have hlt:i < l.length:=by omega
   have hg:l[((i:Nat):Int).toNat]?=some l[i]:=by rw[Int.toNat_natCast];exact List.getElem?_eq_getElem hlt
   have hd:l.drop i=l[i]::l.drop (i+1):=List.drop_eq_getElem_cons hlt
   have ih:=ih (i+1) (by omega)
   apply At_Q53_1_step
   rw[hd,List.all_cons]
   refine⟨fun _=>⟨by omega,_,hg,_,h _ (List.getElem_mem hlt),fun h1=>⟨⟨by omega,by omega⟩,?_⟩,fun h1=>?_⟩,fun h=>by omega⟩
   ·rw[h1,Bool.true_and];exact ih
   rw[show f l[i]=false by simpa using h1];rfl
 apply Q53_tree
 exact loop l.length 0 (by omega)
theorem r_Mays {m:Nat} {l:List Block} (h:wideS m l=false):R_Q30 l (l.all mayF)∧R_Q31 l (l.all mayF):=by
 obtain⟨hl,hb⟩:=wide_ok h
 have inT:∀ b ∈ l,(∀ x ∈ b.Blocks,R_Q52 x true (mayT x))∧R_Q53 b.Blocks true (b.Blocks.all mayT):=fun b hbl=>by
  obtain⟨_,m',h'⟩:=hb b hbl
  obtain⟨hl',hb'⟩:=wide_ok h'
  refine⟨fun x hx=>?_,r_refAll true mayT _ hl' fun x hx=>?_⟩
  ·have:=r_may x (hb' x hx).1 true (fun h=>by cases h)
   rwa [if_pos rfl] at this
  have:=r_refMay x (hb' x hx).1 true (fun h=>by cases h)
  rwa [if_pos rfl] at this
 constructor
 ·apply Q30_tree
  refine⟨by omega,fun x=>!mayF x,fun x hx=>Q51_tree _ _ ⟨mayF x,?_,rfl⟩,?_⟩
  ·have:=r_may x (hb x hx).1 false (fun _=>(inT x hx).1)
   rwa [if_neg (by decide)] at this
  rw[List.all_eq_not_any_not]
 apply Q31_tree
 refine⟨_,r_refAll false mayF l hl fun x hx=>?_,rfl⟩
 have:=r_refMay x (hb x hx).1 false (fun _=>(inT x hx).2)
 rwa [if_neg (by decide)] at this
theorem r_operand {l:List Node} {o:Int→List UInt8} {k:Int} {v:Node} (least:Int) (w:SWriter) (g:Nat) (z:Bool) (h0:0≤k) (hv:l[k.toNat]?=some v) (hr:rkK l k=rkS v.Kind) (hw:w.out.length≤600000000000) (ho:(o k).length≤3300000)
  (hn:∀ w':SWriter,w'.out.length≤w.out.length+1→R_Q69 w' g z l k ⟨w'.out++o k⟩ g z):R_Q110 w g z l k least ⟨w.out++wrS l o k least⟩ g z:=by
 apply Q110_tree
 refine⟨h0,v,hv,_,r_showRank _,fun h=>⟨_,_,_,hn w (by omega),?_,rfl,rfl⟩,fun h=>⟨_,_,_,r_putW w g z [[40]] (by decide) (by simp;omega),_,_,_,hn ⟨w.out++[[40]].flatten⟩ (by simp),_,_,_,r_putW _ g z [[41]] (by decide) (by simp;omega),?_,rfl,rfl⟩⟩
 ·rw[wrS,if_neg (by omega)]
 rw[wrS,if_pos (by omega)]
 simp
theorem r_alls {l:List Node} {o:Int→List UInt8} (ks:List Int) (h100:ks.length≤100) (g:Nat) (z:Bool) (w:SWriter) (hw:w.out.length≤500000000000) (hk:∀ k ∈ ks,(o k).length≤3300000∧∀ w':SWriter,w'.out.length≤w.out.length+400000000→R_Q69 w' g z l k ⟨w'.out++o k⟩ g z):R_Q109 w g z l ks ⟨w.out++comS o ks⟩ g z:=by
 have loop:∀ (m i:Nat) (w2:SWriter),0 < i→i+m=ks.length→w2.out.length+3300002*m≤w.out.length+350000000→At_Q109_1 l ks i w2 g z ⟨w2.out++comG o (ks.drop i)⟩ g z:=by
  intro m
  induction m with
  | zero =>
   intro i w2 h0 hi hs
   rw[List.drop_of_length_le (by omega),comG,List.append_nil]
   apply At_Q109_1_step
   exact⟨fun h=>by omega,fun _=>⟨rfl,rfl,rfl⟩⟩
  | succ m ih =>
   intro i w2 h0 hi hs
   have hlt:i < ks.length:=by omega
   have hg:ks[((i:Nat):Int).toNat]?=some ks[i]:=by rw[Int.toNat_natCast];exact List.getElem?_eq_getElem hlt
   have hd:ks.drop i=ks[i]::ks.drop (i+1):=List.drop_eq_getElem_cons hlt
   obtain⟨k1,k2⟩:=hk _ (List.getElem_mem hlt)
   have:=ih (i+1) ⟨w2.out++[44,32]++o ks[i]⟩ (by omega) (by omega) (by simp only[List.length_append,List.length_cons,List.length_nil];omega)
   apply At_Q109_1_step
   refine⟨fun _=>⟨by omega,_,hg,fun _=>⟨_,_,_,r_putW w2 g z [[44,32]] (by decide) (by simp;omega),_,_,_,k2 ⟨w2.out++[44,32]⟩ (by simp;omega),⟨by omega,by omega⟩,?_⟩,fun h=>by omega⟩,fun h=>by omega⟩
   rw[hd,comG]
   simpa [List.append_assoc] using this
 apply Q109_tree
 apply At_Q109_1_step
 refine⟨fun h0=>?_,fun h0=>?_⟩
 ·have hlt:0 < ks.length:=by omega
  have hg:ks[((0:Int)).toNat]?=some ks[0]:=List.getElem?_eq_getElem hlt
  have hd:ks=ks[0]::ks.drop 1:=List.drop_eq_getElem_cons hlt
  obtain⟨k1,k2⟩:=hk _ (List.getElem_mem hlt)
  have:=loop (ks.length - 1) 1 ⟨w.out++o ks[0]⟩ (by omega) (by omega) (by simp only[List.length_append];omega)
  have e:comS o ks=o ks[0]++comG o (ks.drop 1):=by
   conv=>lhs;rw[hd]
   rw[comS]
  refine⟨by omega,_,hg,fun h=>by omega,fun _=>⟨_,_,_,k2 w (by omega),⟨by omega,by omega⟩,?_⟩⟩
  rw[e,←List.append_assoc]
  exact this
 have h0:ks=[]:=List.length_eq_zero_iff.1 (by omega)
 rw[h0,comS,List.append_nil]
 exact⟨rfl,rfl,rfl⟩
theorem sumO_le {o:Int→List UInt8}:∀ {ks:List Int},(∀ k ∈ ks,(o k).length≤3300000)→sumO o ks≤3300000*ks.length
 | [],_=>Nat.le_refl _
 | k::r,h=>by
  have:=h k (List.mem_cons_self ..)
  have:=sumO_le (ks:=r) fun q hq=>h q (List.mem_cons_of_mem _ hq)
  rw[sumO,List.length_cons]
  omega
theorem r_node {l:List Node} (h:TR l):∀ (e:Nat),e < l.length→∀ (w:SWriter) (g:Nat) (z:Bool),w.out.length+1000000000*e≤480000000000→R_Q69 w g z l (e:Int) ⟨w.out++txS l e⟩ g z:=by
 intro e
 induction e using Nat.strongRecOn with
 | _ e ih =>
  intro he w g z hw
  obtain⟨hok,hk,hlen⟩:=h.node e he
  have hs:=h.ns _ (List.getElem_mem he)
  have hg:l[((e:Nat):Int).toNat]?=some l[e]:=by rw[Int.toNat_natCast];exact List.getElem?_eq_getElem he
  have sh:∀ k ∈ l[e].Kids,(txS l k.toNat).length≤3300000∧∀ w':SWriter,w'.out.length≤w.out.length+500000000→R_Q69 w' g z l k ⟨w'.out++txS l k.toNat⟩ g z:=fun k hk'=>by
   have h1:=hk k hk'
   refine⟨(h.node k.toNat (by omega)).2.2,fun w' hw'=>?_⟩
   have h2:=ih k.toNat (by omega) (by omega) w' g z (by omega)
   rwa [show ((k.toNat:Nat):Int)=k by omega] at h2
  have kd:=fun i (hi:i < l[e].Kids.length)=>kid_ok h he (i:=i) hi
  rw[txS_eq he hok hk]
  generalize l[e]=n at *
  have hkl:=kd_len hok
  have t1:=hs.text
  have t3:=itoa_len hs.num
  have t4:=fb_len (decide (n.Num=1))
  have t6:=hs.kids
  have opd:∀ (i:Nat),i < n.Kids.length→∀ (least:Int) (w':SWriter),w'.out.length≤w.out.length+400000000→R_Q110 w' g z l (kid n i) least ⟨w'.out++wrS l (fun k=>txS l k.toNat) (kid n i) least⟩ g z:=fun i hi least w' hw'=>by
   obtain⟨v,a1,a2,a3,a4,a5,a6,a7⟩:=kd i hi
   exact r_operand (o:=fun k=>txS l k.toNat) least w' g z a2 a4 a5 (by omega) a7 fun w2 h2=>(sh _ (kid_mem hi)).2 w2 (by omega)
  have cl:=comS_len (fun k=>txS l k.toNat) n.Kids
  have sb:=sumO_le (o:=fun k=>txS l k.toNat) (fun k hk=>(sh k hk).1)
  have hfb:R_strconv_FormatBool (decide (n.Num=1)) (Lib.formatBool (decide (n.Num=1))):=fun S=>call_ext sp_strconv_FormatBool S rfl
  generalize ho:(fun k:Int=>txS l k.toNat)=o at *
  have sh:∀ k ∈ n.Kids,(o k).length≤3300000∧∀ w':SWriter,w'.out.length≤w.out.length+500000000→R_Q69 w' g z l k ⟨w'.out++o k⟩ g z:=by rw[←ho];exact sh
  have wl:=wrS_len l o
  apply Q69_tree
  refine⟨by omega,n,hg,fun k1=>⟨_,r_Itoa _ hs.num,_,_,_,r_putW w g z [Lib.itoa n.Num] (by simp) (by simp;omega),by rw[nd1 k1];simp,rfl,rfl⟩,fun k1=>⟨fun k2=>⟨_,_,_,r_showText w g z l n.Parts hs.parts (by omega),by rw[nd2 k2],rfl,rfl⟩,fun k2=>⟨fun k3=>⟨_,hfb,_,_,_,r_putW w g z [Lib.formatBool (decide (n.Num=1))] (by simp) (by simp;omega),by rw[nd3 k3];simp,rfl,rfl⟩,fun k3=>⟨fun k4=>⟨_,_,_,r_putW w g z [n.Text] (by simp) (by simp;omega),by rw[nd4 k4];simp,rfl,rfl⟩,fun k4=>⟨fun k5=>?_,fun k5=>⟨fun k6=>?_,fun k6=>⟨fun k7=>?_,fun k7=>⟨fun k8=>?_,fun k8=>⟨fun k9=>?_,fun k9=>⟨fun k10=>?_,fun k10=>?_⟩⟩⟩⟩⟩⟩⟩⟩⟩⟩
  ·refine⟨_,_,_,r_putW w g z [n.Text,[40]] (by simp) (by simp;omega),_,_,_,r_alls (o:=o) n.Kids t6 g z ⟨w.out++[n.Text,[40]].flatten⟩ (by simp;omega) (fun k hk=>⟨(sh k hk).1,fun w' hw'=>(sh k hk).2 w' (by simp at hw';omega)⟩),_,_,_,r_putW _ g z [[41]] (by decide) (by simp;omega),?_,rfl,rfl⟩
   rw[nd5 k5];simp
  ·refine⟨_,_,_,r_putW w g z [[91]] (by simp) (by simp;omega),_,_,_,r_alls (o:=o) n.Kids t6 g z ⟨w.out++[[91]].flatten⟩ (by simp;omega) (fun k hk=>⟨(sh k hk).1,fun w' hw'=>(sh k hk).2 w' (by simp at hw';omega)⟩),_,_,_,r_putW _ g z [[93]] (by decide) (by simp;omega),?_,rfl,rfl⟩
   rw[nd6 k6];simp
  ·have hc:=kdk hok 7 2 k7 (by decide) (by decide) (by decide)
   have w0:=wl (kid n 0) 7
   have l0:=(sh _ (kid_mem (n:=n) (i:=0) (by omega))).1
   have l1:=(sh _ (kid_mem (n:=n) (i:=1) (by omega))).1
   refine⟨_,kid_get (by omega),_,_,_,opd 0 (by omega) 7 w (by omega),_,_,_,r_putW _ g z [[91]] (by decide) (by simp;omega),_,kid_get (by omega),_,_,_,(sh _ (kid_mem (n:=n) (i:=1) (by omega))).2 _ (by simp;omega),_,_,_,r_putW _ g z [[93]] (by decide) (by simp;omega),?_,rfl,rfl⟩
   rw[nd7 k7];simp
  ·have hc:=kdk hok 8 1 k8 (by decide) (by decide) (by decide)
   refine⟨_,_,_,r_putW w g z [[33]] (by decide) (by simp;omega),_,kid_get (by omega),_,_,_,opd 0 (by omega) 6 _ (by simp),?_,rfl,rfl⟩
   rw[nd8 k8];simp
  ·have hc:=kdk hok 9 1 k9 (by decide) (by decide) (by decide)
   refine⟨_,_,_,r_putW w g z [[45]] (by decide) (by simp;omega),_,kid_get (by omega),_,_,_,opd 0 (by omega) 6 _ (by simp),?_,rfl,rfl⟩
   rw[nd9 k9];simp
  ·have hc:=kdk hok 10 3 k10 (by decide) (by decide) (by decide)
   have w0:=wl (kid n 0) 1
   have l0:=(sh _ (kid_mem (n:=n) (i:=0) (by omega))).1
   have l1:=(sh _ (kid_mem (n:=n) (i:=1) (by omega))).1
   have l2:=(sh _ (kid_mem (n:=n) (i:=2) (by omega))).1
   refine⟨_,kid_get (by omega),_,_,_,opd 0 (by omega) 1 w (by omega),_,_,_,r_putW _ g z [[32,63,32]] (by decide) (by simp;omega),_,kid_get (by omega),_,_,_,(sh _ (kid_mem (n:=n) (i:=1) (by omega))).2 _ (by simp;omega),_,_,_,r_putW _ g z [[32,58,32]] (by decide) (by simp;omega),_,kid_get (by omega),_,_,_,(sh _ (kid_mem (n:=n) (i:=2) (by omega))).2 _ (by simp;omega),?_,rfl,rfl⟩
   rw[nd10 k10];simp
  have hc:=kd2 hok (by omega)
  have l0:=(sh _ (kid_mem (n:=n) (i:=0) (by omega))).1
  have l1:=(sh _ (kid_mem (n:=n) (i:=1) (by omega))).1
  have sg:=sgn_len n.Kind
  have rr:=rk_range n.Kind
  refine⟨_,_,_,Q111_tree _ _ _ _ _ ⟨w.out++ndS l o n⟩ g z ⟨_,r_showRank _,fun q=>?_,fun q=>?_⟩,rfl,rfl,rfl⟩
  ·have w0:=wl (kid n 0) (rkS n.Kind+1)
   refine⟨⟨by omega,by omega⟩,_,kid_get (by omega),_,_,_,opd 0 (by omega) _ w (by omega),_,r_showSign (by omega) (by omega),_,_,_,r_putW _ g z [[32],sgnS n.Kind,[32]] (by simp) (by simp;omega),_,kid_get (by omega),⟨by omega,by omega⟩,_,_,_,opd 1 (by omega) _ _ (by simp;omega),?_,rfl,rfl⟩
   rw[nd11 (by omega),if_pos q];simp
  have w0:=wl (kid n 0) (rkS n.Kind)
  refine⟨_,kid_get (by omega),_,_,_,opd 0 (by omega) _ w (by omega),_,r_showSign (by omega) (by omega),_,_,_,r_putW _ g z [[32],sgnS n.Kind,[32]] (by simp) (by simp;omega),_,kid_get (by omega),⟨by omega,by omega⟩,_,_,_,opd 1 (by omega) _ _ (by simp;omega),?_,rfl,rfl⟩
  rw[nd11 (by omega),if_neg q];simp
def exS (l:List Node):List UInt8:=if treeS l=true then txS l (l.length - 1) else []
theorem tree_ne {l:List Node} (h:treeS l=true):0 < l.length:=by
 simp only[treeS,Bool.and_eq_true,decide_eq_true_eq] at h
 exact h.1
theorem r_exprW {l:List Node} (h:TR l) (w:SWriter) (g:Nat) (z:Bool) (hw:w.out.length≤400000000000):R_Q45 w g z l ⟨w.out++exS l⟩ g z:=by
 have h0:=tree_ne h.tree
 have h80:=h.len
 have e:((l.length:Nat):Int) - 1=((l.length - 1:Nat):Int):=by omega
 refine Q45_tree _ _ _ _ _ _ _ ⟨⟨by omega,by omega⟩,_,_,_,?_,rfl,rfl,rfl⟩
 rw[e,exS,if_pos h.tree]
 exact r_node h _ (by omega) w g z (by omega)
theorem exS_len {l:List Node} (h:TR l):(exS l).length≤3300000:=by
 rw[exS,if_pos h.tree]
 exact (h.node _ (by have:=tree_ne h.tree;omega)).2.2
theorem ns_nb {n:Node} (h:NS n):NB n:=by
 have h1:=h.text
 have h2:=h.parts
 have h3:=h.kids
 exact⟨by omega,⟨by have:=h2.1;omega,fun p hp=>by have:=h2.2 p hp;omega⟩,by omega⟩
theorem r_showExpr (l:List Node) (hl:l.length≤80) (hn:∀ n ∈ l,NS n):R_Q23 l (exS l):=by
 refine Q23_tree _ _ ⟨_,r_Tree l (by omega) fun n h=>ns_nb (hn n h),fun h=>⟨_,_,_,r_exprW ⟨h,hn,hl⟩ ⟨[]⟩ 0 false (by simp),by simp⟩,fun h=>by rw[exS,if_neg h]⟩
theorem r_refShowExpr (l:List Node) (hl:l.length≤80) (hn:∀ n ∈ l,NS n):R_Q24 l (exS l):=by
 refine Q24_tree _ _ ⟨_,r_refTree l (by omega) fun n h=>ns_nb (hn n h),fun h=>?_,fun h=>by rw[exS,if_neg h]⟩
 have h0:=tree_ne h
 have e:((l.length:Nat):Int) - 1=((l.length - 1:Nat):Int):=by omega
 refine⟨⟨by omega,by omega⟩,_,by rw[e];exact r_shown ⟨h,hn,hl⟩ _ (by omega),by rw[exS,if_pos h]⟩
def wordsL:List (List UInt8):=[[],[118,97,114,105,97,98,108,101],[108,111,99,97,108,115],[110,111,100,101],[109,111,100,117,108,101],[100,101,102,105,110,101]]
def wdS (k:Int):List UInt8:=(wordsL[k.toNat]?).getD []
theorem wd_get {k:Int} (h0:0≤k) (h1:k≤5):wordsL[k.toNat]?=some (wdS k):=by
 have h:k.toNat < wordsL.length:=by simp[wordsL];omega
 rw[wdS,List.getElem?_eq_getElem h]
 rfl
theorem wd_len (k:Int):(wdS k).length≤8:=by
 unfold wdS
 have h:∀ x ∈ wordsL,x.length≤8:=by decide
 cases e:wordsL[k.toNat]? with
 | none=>simp
 | some v=>exact h v (List.mem_of_getElem? e)
def lbS (b:Block):List UInt8:=if b.Kind=2 then [] else [34]++b.Label++[34,32]
def headS (far:List UInt8) (b:Block):List UInt8:=far++wdS b.Kind++[32]++lbS b++[123,10]
def attrS (far:List UInt8) (a:Attr):List UInt8:=far++[32,32]++a.Name++[32,61,32]++exS a.Expr++[10]
def bdyS (far:List UInt8) (b:Block) (sub:List UInt8):List UInt8:=headS far b++(b.Attrs.flatMap (attrS far)++(sub++(far++[125,10])))
structure AG (a:Attr):Prop where
 name:a.Name.length≤100
 tree:TR a.Expr
structure BG (b:Block):Prop where
 k0:0≤b.Kind
 k1:b.Kind≤5
 label:b.Label.length≤100
 attrs:b.Attrs.length≤30
 each:∀ a ∈ b.Attrs,AG a
theorem attrS_len {far:List UInt8} {a:Attr} (hf:far.length≤10) (h:AG a):(attrS far a).length≤3300200:=by
 have h1:=h.name
 have h2:=exS_len h.tree
 simp only[attrS,List.length_append,List.length_cons,List.length_nil]
 omega
theorem attrs_len {far:List UInt8} (hf:far.length≤10):∀ {l:List Attr},(∀ a ∈ l,AG a)→(l.flatMap (attrS far)).length≤3300200*l.length
 | [],_=>Nat.le_refl _
 | a::l,h=>by
  have h1:=attrs_len hf (l:=l) fun q hq=>h q (List.mem_cons_of_mem _ hq)
  have h2:=attrS_len hf (h a (List.mem_cons_self ..))
  rw[List.flatMap_cons,List.length_append,List.length_cons]
  omega
theorem bdyS_len {far:List UInt8} {b:Block} {sub:List UInt8} (hf:far.length≤10) (h:BG b):(bdyS far b sub).length≤99100000+sub.length:=by
 have h1:=attrs_len hf h.each
 have h2:=h.attrs
 have h3:=h.label
 have h4:=wd_len b.Kind
 have h5:(lbS b).length≤103:=by
  unfold lbS
  split
  ·simp
  simp;omega
 simp only[bdyS,headS,List.length_append,List.length_cons,List.length_nil]
 omega
theorem r_wordsK {k:Int} (h0:0≤k) (h1:k≤5):R_Q96 k (wdS k):=Q96_tree _ _ ⟨h0,_,wd_get h0 h1,rfl⟩
theorem ag_ref {a:Attr} (h:AG a):R_Q24 a.Expr (exS a.Expr):=r_refShowExpr _ h.tree.len h.tree.ns
theorem r_lines (l:List Block) (far:List UInt8) (f:Block→List UInt8) (hf:far.length≤10) (hl:l.length≤20) (h:∀ b ∈ l,BG b∧(f b).length≤3000000000∧∃ sub,f b=bdyS far b sub∧R_Q59 b.Blocks (far++[32,32]) sub):R_Q59 l far (l.flatMap f):=by
 have loop:∀ (m i:Nat) (s:List UInt8),i+m=l.length→s.length+3000000000*m≤100000000000→At_Q59_1 l far s i (s++(l.drop i).flatMap f):=by
  intro m
  induction m with
  | zero =>
   intro i s hi hs
   apply At_Q59_1_step
   exact⟨fun h=>by omega,fun _=>by rw[List.drop_of_length_le (by omega)];simp⟩
  | succ m ih =>
   intro i s hi hs
   have hlt:i < l.length:=by omega
   have hg:l[((i:Nat):Int).toNat]?=some l[i]:=by rw[Int.toNat_natCast];exact List.getElem?_eq_getElem hlt
   have hd:l.drop i=l[i]::l.drop (i+1):=List.drop_eq_getElem_cons hlt
   obtain⟨hb,hfl,sub,hfb,hsub⟩:=h _ (List.getElem_mem hlt)
   generalize l[i]=b at *
   have hwd:=wd_len b.Kind
   have hlb:=hb.label
   have inner:∀ (m' k:Nat) (s':List UInt8),k+m'=b.Attrs.length→s'.length+3300200*m'≤s.length+100000000→s'++((b.Attrs.drop k).flatMap (attrS far)++(sub++(far++[125,10])))=s++f b→At_Q59_2 l far i b s' k (s++f b++(l.drop (i+1)).flatMap f):=by
    intro m'
    induction m' with
    | zero =>
     intro k s' hk hs' he
     rw[List.drop_of_length_le (by omega),List.flatMap_nil,List.nil_append] at he
     have hle:=congrArg List.length he
     simp only[List.length_append,List.length_cons,List.length_nil] at hle
     have:=ih (i+1) (s++f b) (by omega) (by simp only[List.length_append];omega)
     apply At_Q59_2_step
     refine⟨fun h=>by omega,fun _=>⟨by simp only[maxInt];omega,_,hsub,by simp only[maxInt];omega,by simp only[maxInt];omega,by simp only[maxInt];omega,⟨by omega,by omega⟩,?_⟩⟩
     rw[show s'++sub++far++[125,10]=s++f b by rw[←he];simp]
     exact this
    | succ m' ih' =>
     intro k s' hk hs' he
     have hkt:k < b.Attrs.length:=by omega
     have hgk:b.Attrs[((k:Nat):Int).toNat]?=some b.Attrs[k]:=by rw[Int.toNat_natCast];exact List.getElem?_eq_getElem hkt
     have hdk:b.Attrs.drop k=b.Attrs[k]::b.Attrs.drop (k+1):=List.drop_eq_getElem_cons hkt
     have ha:=hb.each _ (List.getElem_mem hkt)
     have h30:=hb.attrs
     rw[hdk,List.flatMap_cons] at he
     generalize b.Attrs[k]=a at *
     have hal:=attrS_len hf ha
     have hn:=ha.name
     have hx:=exS_len ha.tree
     have:=ih' (k+1) (s'++attrS far a) (by omega) (by simp only[List.length_append];omega) (by rw[←he];simp)
     apply At_Q59_2_step
     refine⟨fun _=>⟨by simp only[maxInt];omega,by simp only[maxInt];omega,by omega,_,hgk,by simp only[maxInt];omega,by simp only[maxInt];omega,_,ag_ref ha,by simp only[maxInt];omega,by simp only[maxInt];omega,⟨by omega,by omega⟩,?_⟩,fun h=>by omega⟩
     simpa [attrS,List.append_assoc] using this
   have h30:=hb.attrs
   have start:=inner b.Attrs.length 0 (s++headS far b) (by omega) (by
    have:(lbS b).length≤103:=by
     unfold lbS
     split
     ·simp
     simp;omega
    simp only[headS,List.length_append,List.length_cons,List.length_nil];omega) (by rw[hfb,bdyS,List.drop_zero];simp)
   rw[hd,List.flatMap_cons,←List.append_assoc]
   apply At_Q59_1_step
   refine⟨fun _=>⟨by omega,_,hg,by simp only[maxInt];omega,_,r_wordsK hb.k0 hb.k1,by simp only[maxInt];omega,by simp only[maxInt];omega,fun k2=>⟨by simp only[maxInt];omega,?_⟩,fun k2=>⟨by simp only[maxInt];omega,by simp only[maxInt];omega,by simp only[maxInt];omega,by simp only[maxInt];omega,?_⟩⟩,fun h=>by omega⟩
   ·rw[headS,lbS,if_pos k2] at start
    simpa [List.append_assoc] using start
   rw[headS,lbS,if_neg k2] at start
   simpa [List.append_assoc] using start
 have:=loop l.length 0 [] (by omega) (by simp;omega)
 exact Q59_tree _ _ _ this
theorem ag_show {a:Attr} (h:AG a) (w:SWriter) (g:Nat) (z:Bool) (hw:w.out.length≤400000000000):R_Q45 w g z a.Expr ⟨w.out++exS a.Expr⟩ g z:=r_exprW h.tree w g z hw
theorem r_block (x:Block) (deep:Nat) (far sub:List UInt8) (hfar:Lib.repeatL [32,32] deep=far) (hdeep:deep≤5) (hb:BG x) (w:SWriter) (g:Nat) (z:Bool) (hw:w.out.length≤200000000000)
  (hsub:∀ w':SWriter,w'.out.length≤w.out.length+100000000→At_Q58_1 x deep far 0 ⟨w'⟩ g z ⟨⟨w'.out++(sub++(far++[125,10]))⟩⟩ g z):R_Q58 ⟨w⟩ g z x deep ⟨⟨w.out++bdyS far x sub⟩⟩ g z:=by
 have hf:far.length≤10:=by rw[←hfar,Lib.repeatL_length];simp;omega
 have hwd:=wd_len x.Kind
 have hlb:=hb.label
 have h30:=hb.attrs
 have hll:(lbS x).length≤103:=by
  unfold lbS
  split
  ·simp
  simp;omega
 have loop:∀ (m k:Nat) (w':SWriter),k+m=x.Attrs.length→w'.out.length+3300200*m≤w.out.length+99100000→At_Q58_2 x deep far k ⟨w'⟩ g z ⟨⟨w'.out++((x.Attrs.drop k).flatMap (attrS far)++(sub++(far++[125,10])))⟩⟩ g z:=by
  intro m
  induction m with
  | zero =>
   intro k w' hk hw'
   apply At_Q58_2_step
   refine⟨fun h=>by omega,fun _=>?_⟩
   rw[List.drop_of_length_le (by omega),List.flatMap_nil,List.nil_append]
   exact hsub w' (by omega)
  | succ m ih =>
   intro k w' hk hw'
   have hkt:k < x.Attrs.length:=by omega
   have hgk:x.Attrs[((k:Nat):Int).toNat]?=some x.Attrs[k]:=by rw[Int.toNat_natCast];exact List.getElem?_eq_getElem hkt
   have hdk:x.Attrs.drop k=x.Attrs[k]::x.Attrs.drop (k+1):=List.drop_eq_getElem_cons hkt
   have ha:=hb.each _ (List.getElem_mem hkt)
   rw[hdk,List.flatMap_cons]
   generalize x.Attrs[k]=a at *
   have hal:=attrS_len hf ha
   have hn:=ha.name
   have hx:=exS_len ha.tree
   have:=ih (k+1) ⟨w'.out++attrS far a⟩ (by omega) (by simp only[List.length_append];omega)
   apply At_Q58_2_step
   refine⟨fun _=>⟨by omega,_,hgk,_,_,_,r_putW w' g z [far,[32,32],a.Name,[32,61,32]] (by simp) (by simp;omega),_,_,_,ag_show ha _ g z (by simp;omega),_,_,_,r_putW _ g z [[10]] (by simp) (by simp;omega),⟨by omega,by omega⟩,?_⟩,fun h=>by omega⟩
   simpa [attrS,List.append_assoc] using this
 have start:=loop x.Attrs.length 0 ⟨w.out++headS far x⟩ (by omega) (by simp only[headS,List.length_append,List.length_cons,List.length_nil];omega)
 apply Q58_tree
 have rep:R_strings_Repeat [32,32] (deep:Int) far:=fun S=>by
  rw[call_ext sp_strings_Repeat S (show repeatX [.str [32,32],.int .i64 (deep:Int)]=some (.str far) from ?_)]
  rw[repeatX,if_pos ⟨by omega,by omega,by simp;omega⟩,Int.toNat_natCast,hfar]
 refine⟨_,rep,hb.k0,_,wd_get hb.k0 hb.k1,_,_,_,r_putW w g z [far,wdS x.Kind,[32]] (by simp) (by simp;omega),fun k2=>⟨_,_,_,r_putW _ g z [[123,10]] (by simp) (by simp;omega),?_⟩,fun k2=>⟨_,_,_,r_putW _ g z [[34],x.Label,[34,32]] (by simp) (by simp;omega),_,_,_,r_putW _ g z [[123,10]] (by simp) (by simp;omega),?_⟩⟩
 ·rw[headS,lbS,if_pos k2] at start
  rw[bdyS,headS,lbS,if_pos k2]
  simpa [List.append_assoc] using start
 rw[headS,lbS,if_neg k2] at start
 rw[bdyS,headS,lbS,if_neg k2]
 simpa [List.append_assoc] using start
theorem great_ns {l:List Node} (h:greatS l=false) (hi:∀ n ∈ l,I64 n.Num):l.length≤80∧∀ n ∈ l,NS n:=by
 simp only[greatS,Bool.or_eq_false_iff,decide_eq_false_iff_not] at h
 obtain⟨h1,h2⟩:=h
 refine⟨by omega,fun n hn=>?_⟩
 rw[List.take_of_length_le (by omega)] at h1
 have hb:=List.any_eq_false.1 h1 n hn
 simp only[bigN,Bool.or_eq_true,decide_eq_true_eq,not_or,List.any_eq_true,not_exists,not_and] at hb
 obtain⟨b1,b2,b3,b4⟩:=hb
 exact⟨hi n hn,by omega,⟨by omega,fun p hp=>by have:=b4 p hp;omega⟩,by omega⟩
theorem wide_fine {m:Nat} {l:List Block} (h:wideS (m+1) l=false):l.length≤20∧∀ b ∈ l,b.Label.length≤100∧b.Attrs.length≤30∧wideS m b.Blocks=false∧∀ a ∈ b.Attrs,a.Name.length≤100∧greatS a.Expr=false:=by
 simp only[wideS,Bool.or_eq_false_iff,decide_eq_false_iff_not] at h
 obtain⟨h1,h2⟩:=h
 refine⟨by omega,fun b hb=>?_⟩
 have hq:=List.any_eq_false.1 h2 b hb
 simp only[Bool.or_eq_true,decide_eq_true_eq,not_or,Bool.not_eq_true] at hq
 obtain⟨q1,q2,q3,q4⟩:=hq
 refine⟨by omega,by omega,q3,fun a ha=>?_⟩
 have:=List.any_eq_false.1 q4 a ha
 simp only[bigA,Bool.or_eq_true,decide_eq_true_eq,not_or,Bool.not_eq_true] at this
 exact⟨by omega,this.2⟩
inductive OkBl:Block→Prop
 | mk {b:Block}:(∀ a ∈ b.Attrs,∀ n ∈ a.Expr,I64 n.Num)→(∀ y ∈ b.Blocks,OkBl y)→OkBl b
theorem OkBl.attrs {b:Block}:OkBl b→∀ a ∈ b.Attrs,∀ n ∈ a.Expr,I64 n.Num
 | .mk h _=>h
theorem OkBl.blocks {b:Block}:OkBl b→∀ y ∈ b.Blocks,OkBl y
 | .mk _ h=>h
theorem atOk_tree:∀ {l seen:List Attr},atOk seen l=true→∀ a ∈ l,treeS a.Expr=true
 | x::l,seen,h,a,ha=>by
  simp only[atOk,Bool.and_eq_true] at h
  rcases List.mem_cons.1 ha with rfl | ha
  ·exact h.1.1.2
  exact atOk_tree h.2 a ha
theorem bg_of {b:Block} {m:Nat} {l:List Block} (hw:wideS (m+1) l=false) (hb:b ∈ l) (hi:OkBl b) (hk:kindOk b=true) (ha:atOk [] b.Attrs=true):BG b:=by
 obtain⟨q1,q2,q3,q4⟩:=(wide_fine hw).2 b hb
 simp only[kindOk,Bool.and_eq_true,decide_eq_true_eq] at hk
 refine⟨by omega,by omega,q1,q2,fun a h=>?_⟩
 obtain⟨g1,g2⟩:=great_ns (q4 a h).2 (hi.attrs a h)
 exact⟨(q4 a h).1,atOk_tree ha a h,g2,g1⟩
def inT (b:Block):List UInt8:=bdyS [32,32] b []
def outT (b:Block):List UInt8:=bdyS [] b (b.Blocks.flatMap inT)
def prS (l:List Block):List UInt8:=if l.all mayF=true then l.flatMap outT else []
structure OG (b:Block):Prop where
 bg:BG b
 few:b.Blocks.length≤20
 each:∀ y ∈ b.Blocks,BG y∧y.Blocks=[]
theorem og_of {l:List Block} (hw:wideS 7 l=false) (hi:∀ b ∈ l,OkBl b) {b:Block} (hb:b ∈ l) (hm:mayF b=true):OG b:=by
 obtain⟨q1,q2,q3,q4⟩:=(wide_fine (m:=6) hw).2 b hb
 simp only[mayF,Bool.and_eq_true] at hm
 obtain⟨hk,hm⟩:=hm
 by_cases h5:b.Kind=5
 ·rw[if_pos h5] at hm
  simp only[Bool.and_eq_true,decide_eq_true_eq] at hm
  refine⟨bg_of (m:=6) hw hb (hi b hb) hk (by rw[hm.1];rfl),(wide_fine (m:=5) q3).1,fun y hy=>?_⟩
  have hy2:=List.all_eq_true.1 hm.2 y hy
  simp only[mayT,Bool.and_eq_true] at hy2
  obtain⟨k1,k2⟩:=hy2
  by_cases y5:y.Kind=5
  ·rw[if_pos y5] at k2;cases k2
  rw[if_neg y5] at k2
  simp only[Bool.and_eq_true,decide_eq_true_eq] at k2
  exact⟨bg_of (m:=5) q3 hy ((hi b hb).blocks y hy) k1 k2.2,k2.1⟩
 rw[if_neg h5] at hm
 simp only[Bool.and_eq_true,decide_eq_true_eq] at hm
 refine⟨bg_of (m:=6) hw hb (hi b hb) hk hm.2,by rw[hm.1];decide,fun y hy=>by rw[hm.1] at hy;cases hy⟩
theorem inT_len {b:Block} (h:BG b):(inT b).length≤99100000:=bdyS_len (sub:=[]) (by decide) h
theorem ins_len:∀ {l:List Block},(∀ y ∈ l,BG y)→(l.flatMap inT).length≤99100000*l.length
 | [],_=>Nat.le_refl _
 | y::l,h=>by
  have h1:=ins_len (l:=l) fun q hq=>h q (List.mem_cons_of_mem _ hq)
  have h2:=inT_len (h y (List.mem_cons_self ..))
  rw[List.flatMap_cons,List.length_append,List.length_cons]
  omega
theorem outT_len {b:Block} (h:OG b):(outT b).length≤2100000000:=by
 have h1:=ins_len fun y hy=>(h.each y hy).1
 have h2:=bdyS_len (far:=[]) (sub:=b.Blocks.flatMap inT) (by decide) h.bg
 have h3:=h.few
 unfold outT
 omega
theorem r_refPrint {l:List Block} (hw:wideS 7 l=false) (hi:∀ b ∈ l,OkBl b):R_Q35 l (prS l):=by
 obtain⟨m1,m2⟩:=r_Mays hw
 refine Q35_tree _ _ ⟨_,m2,fun h=>⟨_,?_,rfl⟩,fun h=>by rw[prS,if_neg h]⟩
 rw[prS,if_pos h]
 refine r_lines l [] outT (by decide) (wide_fine (m:=6) hw).1 fun b hb=>?_
 have og:=og_of hw hi hb (List.all_eq_true.1 h b hb)
 refine⟨og.bg,by have:=outT_len og;omega,_,rfl,?_⟩
 refine r_lines b.Blocks [32,32] inT (by decide) og.few fun y hy=>?_
 obtain⟨h1,h2⟩:=og.each y hy
 refine⟨h1,by have:=inT_len h1;omega,[],rfl,?_⟩
 rw[h2]
 exact r_lines [] _ inT (by decide) (by decide) fun _ h=>by cases h
theorem At_block_nil {x:Block} {deep:Nat} {far:List UInt8} (hx:x.Blocks=[]) (hf:far.length≤10) (w:SWriter) (g:Nat) (z:Bool) (hw:w.out.length≤900000000000):At_Q58_1 x deep far 0 ⟨w⟩ g z ⟨⟨w.out++([]++(far++[125,10]))⟩⟩ g z:=by
 apply At_Q58_1_step
 rw[hx]
 refine⟨fun h=>by simp at h,fun _=>⟨_,_,_,r_putW w g z [far,[125,10]] (by simp) (by simp;omega),by simp,rfl,rfl⟩⟩
theorem r_inBlock {y:Block} (h1:BG y) (h2:y.Blocks=[]) (w:SWriter) (g:Nat) (z:Bool) (hw:w.out.length≤200000000000):R_Q58 ⟨w⟩ g z y 1 ⟨⟨w.out++inT y⟩⟩ g z :=
 r_block y 1 [32,32] [] rfl (by decide) h1 w g z hw fun w' hw'=>At_block_nil h2 (by decide) w' g z (by omega)
theorem r_outBlock {b:Block} (h:OG b) (w:SWriter) (g:Nat) (z:Bool) (hw:w.out.length≤100000000000):R_Q58 ⟨w⟩ g z b 0 ⟨⟨w.out++outT b⟩⟩ g z:=by
 refine r_block b 0 [] (b.Blocks.flatMap inT) rfl (by decide) h.bg w g z (by omega) fun w' hw'=>?_
 have h20:=h.few
 have loop:∀ (m i:Nat) (w2:SWriter),i+m=b.Blocks.length→w2.out.length+99100000*m≤110000000000→At_Q58_1 b ((0:Nat):Int) [] i ⟨w2⟩ g z ⟨⟨w2.out++((b.Blocks.drop i).flatMap inT++([]++[125,10]))⟩⟩ g z:=by
  intro m
  induction m with
  | zero =>
   intro i w2 hi h2
   apply At_Q58_1_step
   refine⟨fun h=>by omega,fun _=>⟨_,_,_,r_putW w2 g z [[],[125,10]] (by simp) (by simp;omega),?_,rfl,rfl⟩⟩
   rw[List.drop_of_length_le (by omega)]
   simp
  | succ m ih =>
   intro i w2 hi h2
   have hlt:i < b.Blocks.length:=by omega
   have hg:b.Blocks[((i:Nat):Int).toNat]?=some b.Blocks[i]:=by rw[Int.toNat_natCast];exact List.getElem?_eq_getElem hlt
   have hd:b.Blocks.drop i=b.Blocks[i]::b.Blocks.drop (i+1):=List.drop_eq_getElem_cons hlt
   obtain⟨k1,k2⟩:=h.each _ (List.getElem_mem hlt)
   have hl:=inT_len k1
   have:=ih (i+1) ⟨w2.out++inT b.Blocks[i]⟩ (by omega) (by simp only[List.length_append];omega)
   apply At_Q58_1_step
   refine⟨fun _=>⟨by omega,_,hg,⟨by omega,by omega⟩,_,_,_,r_inBlock k1 k2 w2 g z (by omega),⟨by omega,by omega⟩,?_⟩,fun h=>by omega⟩
   rw[hd,List.flatMap_cons]
   simpa [List.append_assoc] using this
 exact loop b.Blocks.length 0 w' (by omega) (by omega)
theorem r_showPrint {l:List Block} (hw:wideS 7 l=false) (hi:∀ b ∈ l,OkBl b):R_Q34 l (prS l):=by
 obtain⟨m1,m2⟩:=r_Mays hw
 refine Q34_tree _ _ ⟨_,m1,fun h=>?_,fun h=>by rw[prS,if_neg h]⟩
 rw[prS,if_pos h]
 have h20:=(wide_fine (m:=6) hw).1
 have loop:∀ (m i:Nat) (o:List UInt8),i+m=l.length→o.length+2100000000*m≤50000000000→At_Q34_1 l i o 0 false (o++(l.drop i).flatMap outT):=by
  intro m
  induction m with
  | zero =>
   intro i o hi h2
   apply At_Q34_1_step
   exact⟨fun h=>by omega,fun _=>by rw[List.drop_of_length_le (by omega)];simp⟩
  | succ m ih =>
   intro i o hi' h2
   have hlt:i < l.length:=by omega
   have hg:l[((i:Nat):Int).toNat]?=some l[i]:=by rw[Int.toNat_natCast];exact List.getElem?_eq_getElem hlt
   have hd:l.drop i=l[i]::l.drop (i+1):=List.drop_eq_getElem_cons hlt
   have og:=og_of hw hi (List.getElem_mem hlt) (List.all_eq_true.1 h _ (List.getElem_mem hlt))
   have hl:=outT_len og
   have:=ih (i+1) (o++outT l[i]) (by omega) (by simp only[List.length_append];omega)
   apply At_Q34_1_step
   refine⟨fun _=>⟨by omega,_,hg,_,_,_,r_outBlock og ⟨o⟩ 0 false (by simp only;omega),⟨by omega,by omega⟩,?_⟩,fun h=>by omega⟩
   rw[hd,List.flatMap_cons,←List.append_assoc]
   exact this
 exact loop l.length 0 [] (by omega) (by simp;omega)
def awT:List UInt8:=[40,32,49,43,32,50,41,32,42,51]
def awL:List Node:=[⟨1,1,[],[],[]⟩,⟨1,2,[],[],[]⟩,⟨19,0,[],[],[0,1]⟩,⟨1,3,[],[],[]⟩,⟨21,0,[],[],[2,3]⟩]
def prN:PR (List Node)→Option (List Node)
 | .ok l _ _=>some l
 | _=>none
theorem aw_parse:prN (expS awT)=some awL:=by kernel_rfl
theorem aw_show:exS awL=[40,49,32,43,32,50,41,32,42,32,51]:=by kernel_rfl
theorem r_awake3:R_Q25 true:=by
 have h:=r_ExprS awT (by decide)
 have e:=aw_parse
 have hp:R_Q20 awT awL 0:=by
  cases hq:expS awT with
  | ok l ts o =>
   rw[hq] at h e
   obtain rfl:=Option.some.inj e
   exact h
  | er x=>rw[hq] at e;cases e
  | no=>rw[hq] at e;cases e
 have hs:R_Q23 awL (exS awL):=r_showExpr awL (by decide) fun n hn=>by
  simp only[awL,List.mem_cons,List.not_mem_nil,or_false] at hn
  rcases hn with rfl | rfl | rfl | rfl | rfl <;> exact⟨⟨by decide,by decide⟩,by decide,⟨by decide,fun p hp=>by cases hp⟩,by decide⟩
 exact Q25_tree _ ⟨_,_,hp,_,hs,decide_eq_true aw_show⟩
theorem r_ShowAll (l:List Node) (b:List Block) (hl:∀ n ∈ l,I64 n.Num) (hb:∀ x ∈ b,OkBl x):R_Q12 l b true:=by
 refine Q12_tree _ _ _ ⟨_,r_Great l,fun _=>⟨true,r_awake3,rfl⟩,fun hg=>⟨_,r_Wide 7 0 rfl b,fun _=>⟨true,r_awake3,rfl⟩,fun hw=>?_⟩⟩
 have hw:wideS 7 b=false:=by simpa using hw
 obtain⟨g1,g2⟩:=great_ns (show greatS l=false by simpa using hg) hl
 exact⟨_,r_showExpr l g1 g2,_,r_refShowExpr l g1 g2,fun _=>⟨_,r_showPrint hw hb,_,r_refPrint hw hb,fun _=>⟨true,r_awake3,rfl⟩,fun hf=>absurd rfl hf⟩,fun hf=>absurd rfl hf⟩
end Go.Proofs.YtfbcnpbhhooapaaGreatDoor.M
namespace Go.Proofs
open Go.Shelf
def Tryz.lays137_ren:Go.Shelf.Ren:=⟨fun | 137=>179 | 217=>186 | 266=>209 | n=>n,fun | 9=>9 | 5=>5 | 3=>3 | n=>n,fun | n=>n⟩
theorem Tryz.lays137:Go.Proofs.Lays.n137 Tryz.prog Tryz.lays137_ren:={
  mixed:=by kernel_rfl
  f137:=Tryz.func179.trans (congrArg some (by kernel_rfl))
  f217:=Tryz.func186.trans (congrArg some (by kernel_rfl))
  f266:=Tryz.func209.trans (congrArg some (by kernel_rfl))
  t3:=Tryz.underlying3
  a3:=Tryz.isAgg3
  z3:=Tryz.sizeOf3
  v3:=Tryz.zeroValue3
  t5:=Tryz.underlying5
  a5:=Tryz.isAgg5
  z5:=Tryz.sizeOf5
  v5:=Tryz.zeroValue5
  t9:=Tryz.underlying9
  a9:=Tryz.isAgg9
  z9:=Tryz.sizeOf9
  v9:=Tryz.zeroValue9 }
open Go.RowKit in
theorem Tryz.strings_IndexByte (s:ByteArray) (c:Int) (w:World) :
    Calls Tryz.prog 179 #[.string s,.int .u8 c] w fun e w'=>e=.returned (.int .i64 (Lib.indexByte s.data.toList c.toNat.toUInt8))∧w'=w:=Any.strings_IndexByte Tryz.lays137 s c w
def Tryz.lays121_ren:Go.Shelf.Ren:=⟨fun | 121=>108 | 214=>147 | n=>n,fun | 4=>4 | 9=>9 | n=>n,fun | n=>n⟩
theorem Tryz.lays121:Go.Proofs.Lays.n121 Tryz.prog Tryz.lays121_ren:={
  mixed:=by kernel_rfl
  f121:=Tryz.func108.trans (congrArg some (by kernel_rfl))
  f214:=Tryz.func147.trans (congrArg some (by kernel_rfl))
  t4:=Tryz.underlying4
  a4:=Tryz.isAgg4
  z4:=Tryz.sizeOf4
  v4:=Tryz.zeroValue4
  t9:=Tryz.underlying9
  a9:=Tryz.isAgg9
  z9:=Tryz.sizeOf9
  v9:=Tryz.zeroValue9 }
open Go.RowKit in
theorem Tryz.strconv_FormatBool (b:Bool) (w:World) :
    Calls Tryz.prog 108 #[.bool b] w fun e w'=>e=.returned (.string ⟨(Lib.formatBool b).toArray⟩)∧w'=w:=Any.strconv_FormatBool Tryz.lays121 b w
def Tryz.laysM171_ren:Go.Shelf.Ren:=⟨fun | 171=>106 | 243=>145 | 246=>168 | 283=>182 | 284=>183 | 285=>184 | 286=>185 | 129=>205 | 317=>204 | 318=>206 | 319=>207 | 320=>208 | 337=>214 | 338=>215 | n=>n,fun | 3=>3 | 9=>9 | 2=>2 | 4=>4 | 171=>208 | 0=>0 | 53=>66 | 37=>22 | 5=>5 | 173=>211 | 212=>223 | 51=>182 | 20=>20 | 213=>224 | 46=>161 | 232=>243 | 233=>244 | n=>n,fun | 17=>1 | 18=>6 | 19=>7 | n=>n⟩
theorem Tryz.laysM171:Go.Proofs.LaysM.n171 Tryz.prog Tryz.laysM171_ren:={
  mixed:=by kernel_rfl
  f129:=Tryz.func205.trans (congrArg some (by kernel_rfl))
  f171:=Tryz.func106.trans (congrArg some (by kernel_rfl))
  f243:=Tryz.func145.trans (congrArg some (by kernel_rfl))
  f246:=Tryz.func168.trans (congrArg some (by kernel_rfl))
  f283:=Tryz.func182.trans (congrArg some (by kernel_rfl))
  f284:=Tryz.func183.trans (congrArg some (by kernel_rfl))
  f285:=Tryz.func184.trans (congrArg some (by kernel_rfl))
  f286:=Tryz.func185.trans (congrArg some (by kernel_rfl))
  f317:=Tryz.func204.trans (congrArg some (by kernel_rfl))
  f318:=Tryz.func206.trans (congrArg some (by kernel_rfl))
  f319:=Tryz.func207.trans (congrArg some (by kernel_rfl))
  f320:=Tryz.func208.trans (congrArg some (by kernel_rfl))
  f337:=Tryz.func214.trans (congrArg some (by kernel_rfl))
  f338:=Tryz.func215.trans (congrArg some (by kernel_rfl))
  t0:=Tryz.underlying0
  a0:=Tryz.isAgg0
  z0:=Tryz.sizeOf0
  v0:=Tryz.zeroValue0
  t2:=Tryz.underlying2
  a2:=Tryz.isAgg2
  z2:=Tryz.sizeOf2
  v2:=Tryz.zeroValue2
  t3:=Tryz.underlying3
  a3:=Tryz.isAgg3
  z3:=Tryz.sizeOf3
  v3:=Tryz.zeroValue3
  t4:=Tryz.underlying4
  a4:=Tryz.isAgg4
  z4:=Tryz.sizeOf4
  v4:=Tryz.zeroValue4
  t5:=Tryz.underlying5
  a5:=Tryz.isAgg5
  z5:=Tryz.sizeOf5
  v5:=Tryz.zeroValue5
  t9:=Tryz.underlying9
  a9:=Tryz.isAgg9
  z9:=Tryz.sizeOf9
  v9:=Tryz.zeroValue9
  t20:=Tryz.underlying20
  a20:=Tryz.isAgg20
  z20:=Tryz.sizeOf20
  v20:=Tryz.zeroValue20
  t37:=Tryz.underlying22
  a37:=Tryz.isAgg22
  z37:=Tryz.sizeOf22
  v37:=Tryz.zeroValue22
  t46:=Tryz.underlying161
  a46:=Tryz.isAgg161
  z46:=Tryz.sizeOf161
  v46:=Tryz.zeroValue161
  t51:=Tryz.underlying182
  a51:=Tryz.isAgg182
  z51:=Tryz.sizeOf182
  v51:=Tryz.zeroValue182
  t53:=Tryz.underlying66
  a53:=Tryz.isAgg66
  z53:=Tryz.sizeOf66
  v53:=Tryz.zeroValue66
  t171:=Tryz.underlying208
  a171:=Tryz.isAgg208
  z171:=Tryz.sizeOf208
  v171:=Tryz.zeroValue208
  t173:=Tryz.underlying211
  a173:=Tryz.isAgg211
  z173:=Tryz.sizeOf211
  v173:=Tryz.zeroValue211
  t212:=Tryz.underlying223
  a212:=Tryz.isAgg223
  z212:=Tryz.sizeOf223
  v212:=Tryz.zeroValue223
  t213:=Tryz.underlying224
  a213:=Tryz.isAgg224
  z213:=Tryz.sizeOf224
  t232:=Tryz.underlying243
  a232:=Tryz.isAgg243
  z232:=Tryz.sizeOf243
  v232:=Tryz.zeroValue243
  t233:=Tryz.underlying244
  a233:=Tryz.isAgg244
  z233:=Tryz.sizeOf244
  v233:=Tryz.zeroValue244
  g17:=by kernel_rfl
  g18:=by kernel_rfl
  g19:=by kernel_rfl
  i0:=by kernel_rfl
  i2:=by kernel_rfl
  i3:=by kernel_rfl
  i4:=by kernel_rfl
  i5:=by kernel_rfl
  i9:=by kernel_rfl
  i20:=by kernel_rfl
  i37:=by kernel_rfl
  i46:=by kernel_rfl
  i51:=by kernel_rfl
  i53:=by kernel_rfl
  i171:=by kernel_rfl
  i173:=by kernel_rfl
  i212:=by kernel_rfl
  i232:=by kernel_rfl
  i233:=by kernel_rfl
  m17:=by kernel_rfl
  m18:=by kernel_rfl
  m19:=by kernel_rfl }
open Go.RowKit Go.Sort Go.Lib in
theorem Tryz.strconv_Itoa (n:Int) (h0:-9223372036854775808≤n) (h1:n≤9223372036854775807) (w:World) (htab:Lib.TabIs Tryz.prog w "internal/strconv.uint64pow10" .u64 Lib.pow10Tab) :
    Calls Tryz.prog 106 #[.int .i64 n] w fun e w'=>e=.returned (.string ⟨(Lib.itoa n).toArray⟩)∧∃ k os,w'=grow (w.drewN k) os:=Any.strconv_Itoa Tryz.laysM171 n h0 h1 w htab
def Tryz.laysC172_ren:Go.Shelf.Ren:=⟨fun | 172=>163 | 244=>177 | 245=>178 | 247=>196 | 279=>197 | 280=>198 | 281=>199 | 282=>200 | 287=>211 | 316=>212 | 171=>106 | 205=>213 | 321=>216 | 322=>217 | 243=>145 | 246=>168 | 283=>182 | 284=>183 | 285=>184 | 286=>185 | 129=>205 | 317=>204 | 318=>206 | 319=>207 | 320=>208 | 337=>214 | 338=>215 | n=>n,fun | 9=>9 | 3=>3 | 75=>169 | 76=>170 | 4=>4 | 5=>5 | 167=>215 | 37=>22 | 0=>0 | 85=>216 | 2=>2 | 168=>218 | 53=>66 | 175=>232 | 46=>161 | 210=>236 | 127=>187 | 145=>242 | 143=>240 | 21=>21 | 171=>208 | 173=>211 | 212=>223 | 51=>182 | 20=>20 | 213=>224 | 232=>243 | 233=>244 | 80=>121 | n=>n,fun | 15=>4 | 16=>5 | 17=>1 | 18=>6 | 19=>7 | n=>n⟩
theorem Tryz.laysC172:Go.Proofs.LaysC.n172 Tryz.prog Tryz.laysC172_ren:={
  mixed:=by kernel_rfl
  f129:=Tryz.func205.trans (congrArg some (by kernel_rfl))
  f171:=Tryz.func106.trans (congrArg some (by kernel_rfl))
  f172:=Tryz.func163.trans (congrArg some (by kernel_rfl))
  f205:=Tryz.func213.trans (congrArg some (by kernel_rfl))
  f243:=Tryz.func145.trans (congrArg some (by kernel_rfl))
  f244:=Tryz.func177.trans (congrArg some (by kernel_rfl))
  f245:=Tryz.func178.trans (congrArg some (by kernel_rfl))
  f246:=Tryz.func168.trans (congrArg some (by kernel_rfl))
  f247:=Tryz.func196.trans (congrArg some (by kernel_rfl))
  f279:=Tryz.func197.trans (congrArg some (by kernel_rfl))
  f280:=Tryz.func198.trans (congrArg some (by kernel_rfl))
  f281:=Tryz.func199.trans (congrArg some (by kernel_rfl))
  f282:=Tryz.func200.trans (congrArg some (by kernel_rfl))
  f283:=Tryz.func182.trans (congrArg some (by kernel_rfl))
  f284:=Tryz.func183.trans (congrArg some (by kernel_rfl))
  f285:=Tryz.func184.trans (congrArg some (by kernel_rfl))
  f286:=Tryz.func185.trans (congrArg some (by kernel_rfl))
  f287:=Tryz.func211.trans (congrArg some (by kernel_rfl))
  f316:=Tryz.func212.trans (congrArg some (by kernel_rfl))
  f317:=Tryz.func204.trans (congrArg some (by kernel_rfl))
  f318:=Tryz.func206.trans (congrArg some (by kernel_rfl))
  f319:=Tryz.func207.trans (congrArg some (by kernel_rfl))
  f320:=Tryz.func208.trans (congrArg some (by kernel_rfl))
  f321:=Tryz.func216.trans (congrArg some (by kernel_rfl))
  f322:=Tryz.func217.trans (congrArg some (by kernel_rfl))
  f337:=Tryz.func214.trans (congrArg some (by kernel_rfl))
  f338:=Tryz.func215.trans (congrArg some (by kernel_rfl))
  t0:=Tryz.underlying0
  a0:=Tryz.isAgg0
  z0:=Tryz.sizeOf0
  v0:=Tryz.zeroValue0
  t2:=Tryz.underlying2
  a2:=Tryz.isAgg2
  z2:=Tryz.sizeOf2
  v2:=Tryz.zeroValue2
  t3:=Tryz.underlying3
  a3:=Tryz.isAgg3
  z3:=Tryz.sizeOf3
  v3:=Tryz.zeroValue3
  t4:=Tryz.underlying4
  a4:=Tryz.isAgg4
  z4:=Tryz.sizeOf4
  v4:=Tryz.zeroValue4
  t5:=Tryz.underlying5
  a5:=Tryz.isAgg5
  z5:=Tryz.sizeOf5
  v5:=Tryz.zeroValue5
  t9:=Tryz.underlying9
  a9:=Tryz.isAgg9
  z9:=Tryz.sizeOf9
  v9:=Tryz.zeroValue9
  t20:=Tryz.underlying20
  a20:=Tryz.isAgg20
  z20:=Tryz.sizeOf20
  v20:=Tryz.zeroValue20
  t21:=Tryz.underlying21
  a21:=Tryz.isAgg21
  z21:=Tryz.sizeOf21
  v21:=Tryz.zeroValue21
  t37:=Tryz.underlying22
  a37:=Tryz.isAgg22
  z37:=Tryz.sizeOf22
  v37:=Tryz.zeroValue22
  t46:=Tryz.underlying161
  a46:=Tryz.isAgg161
  z46:=Tryz.sizeOf161
  v46:=Tryz.zeroValue161
  t51:=Tryz.underlying182
  a51:=Tryz.isAgg182
  z51:=Tryz.sizeOf182
  v51:=Tryz.zeroValue182
  t53:=Tryz.underlying66
  a53:=Tryz.isAgg66
  z53:=Tryz.sizeOf66
  v53:=Tryz.zeroValue66
  t75:=Tryz.underlying169
  a75:=Tryz.isAgg169
  z75:=Tryz.sizeOf169
  v75:=Tryz.zeroValue169
  t76:=Tryz.underlying170
  a76:=Tryz.isAgg170
  z76:=Tryz.sizeOf170
  v76:=Tryz.zeroValue170
  t85:=Tryz.underlying216
  a85:=Tryz.isAgg216
  z85:=Tryz.sizeOf216
  v85:=Tryz.zeroValue216
  t127:=Tryz.underlying187
  a127:=Tryz.isAgg187
  z127:=Tryz.sizeOf187
  v127:=Tryz.zeroValue187
  t143:=Tryz.underlying240
  a143:=Tryz.isAgg240
  z143:=Tryz.sizeOf240
  v143:=Tryz.zeroValue240
  t145:=Tryz.underlying242
  a145:=Tryz.isAgg242
  z145:=Tryz.sizeOf242
  v145:=Tryz.zeroValue242
  t167:=Tryz.underlying215
  a167:=Tryz.isAgg215
  z167:=Tryz.sizeOf215
  v167:=Tryz.zeroValue215
  t168:=Tryz.underlying218
  a168:=Tryz.isAgg218
  z168:=Tryz.sizeOf218
  v168:=Tryz.zeroValue218
  t171:=Tryz.underlying208
  a171:=Tryz.isAgg208
  z171:=Tryz.sizeOf208
  v171:=Tryz.zeroValue208
  t173:=Tryz.underlying211
  a173:=Tryz.isAgg211
  z173:=Tryz.sizeOf211
  v173:=Tryz.zeroValue211
  t175:=Tryz.underlying232
  a175:=Tryz.isAgg232
  z175:=Tryz.sizeOf232
  v175:=Tryz.zeroValue232
  t210:=Tryz.underlying236
  a210:=Tryz.isAgg236
  z210:=Tryz.sizeOf236
  v210:=Tryz.zeroValue236
  t212:=Tryz.underlying223
  a212:=Tryz.isAgg223
  z212:=Tryz.sizeOf223
  v212:=Tryz.zeroValue223
  t213:=Tryz.underlying224
  a213:=Tryz.isAgg224
  z213:=Tryz.sizeOf224
  t232:=Tryz.underlying243
  a232:=Tryz.isAgg243
  z232:=Tryz.sizeOf243
  v232:=Tryz.zeroValue243
  t233:=Tryz.underlying244
  a233:=Tryz.isAgg244
  z233:=Tryz.sizeOf244
  v233:=Tryz.zeroValue244
  g15:=by kernel_rfl
  g16:=by kernel_rfl
  g17:=by kernel_rfl
  g18:=by kernel_rfl
  g19:=by kernel_rfl
  t80:=Tryz.underlying121
  a80:=Tryz.isAgg121
  z80:=Tryz.sizeOf121
  v80:=Tryz.zeroValue121
  i0:=by kernel_rfl
  i2:=by kernel_rfl
  i3:=by kernel_rfl
  i4:=by kernel_rfl
  i5:=by kernel_rfl
  i9:=by kernel_rfl
  i20:=by kernel_rfl
  i21:=by kernel_rfl
  i37:=by kernel_rfl
  i46:=by kernel_rfl
  i51:=by kernel_rfl
  i53:=by kernel_rfl
  i75:=by kernel_rfl
  i76:=by kernel_rfl
  i80:=by kernel_rfl
  i85:=by kernel_rfl
  i127:=by kernel_rfl
  i143:=by kernel_rfl
  i145:=by kernel_rfl
  i167:=by kernel_rfl
  i168:=by kernel_rfl
  i171:=by kernel_rfl
  i173:=by kernel_rfl
  i175:=by kernel_rfl
  i210:=by kernel_rfl
  i212:=by kernel_rfl
  i232:=by kernel_rfl
  i233:=by kernel_rfl
  m15:=by kernel_rfl
  m16:=by kernel_rfl
  m17:=by kernel_rfl
  m18:=by kernel_rfl
  m19:=by kernel_rfl
  c0:=by kernel_rfl
  c2:=by kernel_rfl
  c3:=by kernel_rfl
  c4:=by kernel_rfl
  c5:=by kernel_rfl
  c9:=by kernel_rfl
  c20:=by kernel_rfl
  c21:=by kernel_rfl
  c37:=by kernel_rfl
  c46:=by kernel_rfl
  c51:=by kernel_rfl
  c53:=by kernel_rfl
  c75:=by kernel_rfl
  c76:=by kernel_rfl
  c80:=by kernel_rfl
  c85:=by kernel_rfl
  c127:=by kernel_rfl
  c143:=by kernel_rfl
  c145:=by kernel_rfl
  c167:=by kernel_rfl
  c168:=by kernel_rfl
  c171:=by kernel_rfl
  c173:=by kernel_rfl
  c175:=by kernel_rfl
  c210:=by kernel_rfl
  c212:=by kernel_rfl
  c213:=by kernel_rfl
  c232:=by kernel_rfl
  c233:=by kernel_rfl }
open Go.RowKit in
theorem Tryz.strconv_Atoi_ok (s:ByteArray) (hmax:s.size≤9223372036854775806) (v:Int) (h:Lib.atoiAll s.data.toList=.ok v) (w:World) :
    Calls Tryz.prog 163 #[.string s] w fun e w'=>e=.returned (.tuple #[.int .i64 v,.nilIface])∧(w'=w∨∃ t,w'=Lib.bytesWorld w 5 t):=Any.strconv_Atoi_ok Tryz.laysC172 s hmax v h w
open Go.RowKit in
theorem Tryz.strconv_Atoi_syntax (s:ByteArray) (hlim:s.size≤281474976710656) (h:Lib.atoiAll s.data.toList=.syntax) (ev:Value) (w:World) (hv:w.cell? ⟨4,0,none⟩=some ev) (hev:ev=.nilIface∨∃ te pe,ev=.iface te pe) :
    Calls Tryz.prog 163 #[.string s] w fun e w'=>∃ N,e=.returned (.tuple #[.int .i64 (0),.iface 218 (.pointer (some ⟨N,0,none⟩))])∧w.heap.size≤N∧w'.heap[N]?=some (.cells #[.string ⟨#[65,116,111,105]⟩,.string s,ev] 236 (0,0))∧Below w.heap.size w w':=Any.strconv_Atoi_syntax Tryz.laysC172 s hlim h ev w hv hev
open Go.RowKit in
theorem Tryz.strconv_Atoi_range (s:ByteArray) (hlim:s.size≤281474976710656) (h:Lib.atoiAll s.data.toList=.range) (ev:Value) (w:World) (hv:w.cell? ⟨5,0,none⟩=some ev) (hev:ev=.nilIface∨∃ te pe,ev=.iface te pe) :
    Calls Tryz.prog 163 #[.string s] w fun e w'=>∃ N,e=.returned (.tuple #[.int .i64 (Lib.atoiSat s.data.toList),.iface 218 (.pointer (some ⟨N,0,none⟩))])∧w.heap.size≤N∧w'.heap[N]?=some (.cells #[.string ⟨#[65,116,111,105]⟩,.string s,ev] 236 (0,0))∧Below w.heap.size w w':=Any.strconv_Atoi_range Tryz.laysC172 s hlim h ev w hv hev
def Tryz.lays144_ren:Go.Shelf.Ren:=⟨fun | 144=>162 | 143=>172 | 219=>169 | 217=>186 | 225=>187 | 224=>188 | 267=>189 | 266=>209 | 314=>210 | n=>n,fun | 9=>9 | 4=>4 | 3=>3 | 5=>5 | 46=>161 | 146=>183 | 51=>182 | n=>n,fun | 1=>0 | n=>n⟩
theorem Tryz.lays144:Go.Proofs.Lays.n144 Tryz.prog Tryz.lays144_ren:={
  mixed:=by kernel_rfl
  f143:=Tryz.func172.trans (congrArg some (by kernel_rfl))
  f144:=Tryz.func162.trans (congrArg some (by kernel_rfl))
  f217:=Tryz.func186.trans (congrArg some (by kernel_rfl))
  f219:=Tryz.func169.trans (congrArg some (by kernel_rfl))
  f224:=Tryz.func188.trans (congrArg some (by kernel_rfl))
  f225:=Tryz.func187.trans (congrArg some (by kernel_rfl))
  f266:=Tryz.func209.trans (congrArg some (by kernel_rfl))
  f267:=Tryz.func189.trans (congrArg some (by kernel_rfl))
  f314:=Tryz.func210.trans (congrArg some (by kernel_rfl))
  t3:=Tryz.underlying3
  a3:=Tryz.isAgg3
  z3:=Tryz.sizeOf3
  v3:=Tryz.zeroValue3
  t4:=Tryz.underlying4
  a4:=Tryz.isAgg4
  z4:=Tryz.sizeOf4
  v4:=Tryz.zeroValue4
  t5:=Tryz.underlying5
  a5:=Tryz.isAgg5
  z5:=Tryz.sizeOf5
  v5:=Tryz.zeroValue5
  t9:=Tryz.underlying9
  a9:=Tryz.isAgg9
  z9:=Tryz.sizeOf9
  v9:=Tryz.zeroValue9
  t46:=Tryz.underlying161
  a46:=Tryz.isAgg161
  z46:=Tryz.sizeOf161
  v46:=Tryz.zeroValue161
  t51:=Tryz.underlying182
  a51:=Tryz.isAgg182
  z51:=Tryz.sizeOf182
  v51:=Tryz.zeroValue182
  t146:=Tryz.underlying183
  a146:=Tryz.isAgg183
  z146:=Tryz.sizeOf183
  v146:=Tryz.zeroValue183
  g1:=by kernel_rfl }
open Go.RowKit Go.Lib in
theorem Tryz.strings_Contains (s sub:ByteArray) (m:Int) (w:World) (hs:s.size < 4294967281) (hm:w.cell? ⟨0,0,none⟩=some (.int .i64 m)) :
    Calls Tryz.prog 162 #[.string s,.string sub] w fun e w'=>e=.returned (.bool (Lib.contains s.data.toList sub.data.toList))∧w'=w:=Any.strings_Contains Tryz.lays144 s sub m w hs hm
def Tryz.lays145_ren:Go.Shelf.Ren:=⟨fun | 145=>112 | 220=>150 | 219=>169 | 217=>186 | 225=>187 | 224=>188 | 267=>189 | 266=>209 | 314=>210 | n=>n,fun | 9=>9 | 4=>4 | 59=>155 | 3=>3 | 5=>5 | 46=>161 | 146=>183 | 51=>182 | n=>n,fun | 1=>0 | n=>n⟩
theorem Tryz.lays145:Go.Proofs.Lays.n145 Tryz.prog Tryz.lays145_ren:={
  mixed:=by kernel_rfl
  f145:=Tryz.func112.trans (congrArg some (by kernel_rfl))
  f217:=Tryz.func186.trans (congrArg some (by kernel_rfl))
  f219:=Tryz.func169.trans (congrArg some (by kernel_rfl))
  f220:=Tryz.func150.trans (congrArg some (by kernel_rfl))
  f224:=Tryz.func188.trans (congrArg some (by kernel_rfl))
  f225:=Tryz.func187.trans (congrArg some (by kernel_rfl))
  f266:=Tryz.func209.trans (congrArg some (by kernel_rfl))
  f267:=Tryz.func189.trans (congrArg some (by kernel_rfl))
  f314:=Tryz.func210.trans (congrArg some (by kernel_rfl))
  t3:=Tryz.underlying3
  a3:=Tryz.isAgg3
  z3:=Tryz.sizeOf3
  v3:=Tryz.zeroValue3
  t4:=Tryz.underlying4
  a4:=Tryz.isAgg4
  z4:=Tryz.sizeOf4
  v4:=Tryz.zeroValue4
  t5:=Tryz.underlying5
  a5:=Tryz.isAgg5
  z5:=Tryz.sizeOf5
  v5:=Tryz.zeroValue5
  t9:=Tryz.underlying9
  a9:=Tryz.isAgg9
  z9:=Tryz.sizeOf9
  v9:=Tryz.zeroValue9
  t46:=Tryz.underlying161
  a46:=Tryz.isAgg161
  z46:=Tryz.sizeOf161
  v46:=Tryz.zeroValue161
  t51:=Tryz.underlying182
  a51:=Tryz.isAgg182
  z51:=Tryz.sizeOf182
  v51:=Tryz.zeroValue182
  t59:=Tryz.underlying155
  a59:=Tryz.isAgg155
  z59:=Tryz.sizeOf155
  v59:=Tryz.zeroValue155
  t146:=Tryz.underlying183
  a146:=Tryz.isAgg183
  z146:=Tryz.sizeOf183
  v146:=Tryz.zeroValue183
  g1:=by kernel_rfl }
open Go.RowKit Go.Lib in
theorem Tryz.strings_Cut (s sep:ByteArray) (m:Int) (w:World) (hs:s.size < 4294967281) (hm:w.cell? ⟨0,0,none⟩=some (.int .i64 m)) :
    Calls Tryz.prog 112 #[.string s,.string sep] w fun e w'=>e=.returned (.tuple #[.string ⟨(Lib.cut s.data.toList sep.data.toList).1.toArray⟩,.string ⟨(Lib.cut s.data.toList sep.data.toList).2.1.toArray⟩,.bool (Lib.cut s.data.toList sep.data.toList).2.2])∧∃ n,w'=w.drewN n:=Any.strings_Cut Tryz.lays145 s sep m w hs hm
def Tryz.lays99_ren:Go.Shelf.Ren:=⟨fun | 99=>129 | 206=>158 | n=>n,fun | 9=>9 | 4=>4 | 3=>3 | n=>n,fun | n=>n⟩
theorem Tryz.lays99:Go.Proofs.Lays.n99 Tryz.prog Tryz.lays99_ren:={
  mixed:=by kernel_rfl
  f99:=Tryz.func129.trans (congrArg some (by kernel_rfl))
  f206:=Tryz.func158.trans (congrArg some (by kernel_rfl))
  t3:=Tryz.underlying3
  a3:=Tryz.isAgg3
  z3:=Tryz.sizeOf3
  v3:=Tryz.zeroValue3
  t4:=Tryz.underlying4
  a4:=Tryz.isAgg4
  z4:=Tryz.sizeOf4
  v4:=Tryz.zeroValue4
  t9:=Tryz.underlying9
  a9:=Tryz.isAgg9
  z9:=Tryz.sizeOf9
  v9:=Tryz.zeroValue9 }
open Go.RowKit Go.Lib in
theorem Tryz.strings_HasPrefix (s p:ByteArray) (w:World) :
    Calls Tryz.prog 129 #[.string s,.string p] w fun e w'=>e=.returned (.bool (Lib.hasPrefix s.data.toList p.data.toList))∧w'=w:=Any.strings_HasPrefix Tryz.lays99 s p w
def Tryz.lays155_ren:Go.Shelf.Ren:=⟨fun | 155=>120 | 154=>153 | 138=>171 | 165=>130 | 143=>172 | 166=>131 | 197=>173 | 169=>133 | 195=>191 | 218=>192 | 240=>159 | 241=>160 | 219=>169 | 260=>193 | 276=>175 | 277=>176 | 217=>186 | 225=>187 | 224=>188 | 267=>189 | 266=>209 | 314=>210 | n=>n,fun | 9=>9 | 3=>3 | 4=>4 | 72=>167 | 0=>0 | 76=>170 | 105=>200 | 21=>21 | 5=>5 | 70=>165 | 20=>20 | 37=>22 | 75=>169 | 127=>187 | 164=>202 | 46=>161 | 119=>228 | 139=>231 | 138=>230 | 146=>183 | 51=>182 | 80=>121 | n=>n,fun | 1=>0 | 3=>2 | 4=>3 | n=>n⟩
theorem Tryz.lays155:Go.Proofs.Lays.n155 Tryz.prog Tryz.lays155_ren:={
  mixed:=by kernel_rfl
  f138:=Tryz.func171.trans (congrArg some (by kernel_rfl))
  f143:=Tryz.func172.trans (congrArg some (by kernel_rfl))
  f154:=Tryz.func153.trans (congrArg some (by kernel_rfl))
  f155:=Tryz.func120.trans (congrArg some (by kernel_rfl))
  f165:=Tryz.func130.trans (congrArg some (by kernel_rfl))
  f166:=Tryz.func131.trans (congrArg some (by kernel_rfl))
  f169:=Tryz.func133.trans (congrArg some (by kernel_rfl))
  f195:=Tryz.func191.trans (congrArg some (by kernel_rfl))
  f197:=Tryz.func173.trans (congrArg some (by kernel_rfl))
  f217:=Tryz.func186.trans (congrArg some (by kernel_rfl))
  f218:=Tryz.func192.trans (congrArg some (by kernel_rfl))
  f219:=Tryz.func169.trans (congrArg some (by kernel_rfl))
  f224:=Tryz.func188.trans (congrArg some (by kernel_rfl))
  f225:=Tryz.func187.trans (congrArg some (by kernel_rfl))
  f240:=Tryz.func159.trans (congrArg some (by kernel_rfl))
  f241:=Tryz.func160.trans (congrArg some (by kernel_rfl))
  f260:=Tryz.func193.trans (congrArg some (by kernel_rfl))
  f266:=Tryz.func209.trans (congrArg some (by kernel_rfl))
  f267:=Tryz.func189.trans (congrArg some (by kernel_rfl))
  f276:=Tryz.func175.trans (congrArg some (by kernel_rfl))
  f277:=Tryz.func176.trans (congrArg some (by kernel_rfl))
  f314:=Tryz.func210.trans (congrArg some (by kernel_rfl))
  t0:=Tryz.underlying0
  a0:=Tryz.isAgg0
  z0:=Tryz.sizeOf0
  v0:=Tryz.zeroValue0
  t3:=Tryz.underlying3
  a3:=Tryz.isAgg3
  z3:=Tryz.sizeOf3
  v3:=Tryz.zeroValue3
  t4:=Tryz.underlying4
  a4:=Tryz.isAgg4
  z4:=Tryz.sizeOf4
  v4:=Tryz.zeroValue4
  t5:=Tryz.underlying5
  a5:=Tryz.isAgg5
  z5:=Tryz.sizeOf5
  v5:=Tryz.zeroValue5
  t9:=Tryz.underlying9
  a9:=Tryz.isAgg9
  z9:=Tryz.sizeOf9
  v9:=Tryz.zeroValue9
  t20:=Tryz.underlying20
  a20:=Tryz.isAgg20
  z20:=Tryz.sizeOf20
  v20:=Tryz.zeroValue20
  t21:=Tryz.underlying21
  a21:=Tryz.isAgg21
  z21:=Tryz.sizeOf21
  v21:=Tryz.zeroValue21
  t37:=Tryz.underlying22
  a37:=Tryz.isAgg22
  z37:=Tryz.sizeOf22
  v37:=Tryz.zeroValue22
  t46:=Tryz.underlying161
  a46:=Tryz.isAgg161
  z46:=Tryz.sizeOf161
  v46:=Tryz.zeroValue161
  t51:=Tryz.underlying182
  a51:=Tryz.isAgg182
  z51:=Tryz.sizeOf182
  v51:=Tryz.zeroValue182
  t70:=Tryz.underlying165
  a70:=Tryz.isAgg165
  z70:=Tryz.sizeOf165
  v70:=Tryz.zeroValue165
  t72:=Tryz.underlying167
  a72:=Tryz.isAgg167
  z72:=Tryz.sizeOf167
  v72:=Tryz.zeroValue167
  t75:=Tryz.underlying169
  a75:=Tryz.isAgg169
  z75:=Tryz.sizeOf169
  v75:=Tryz.zeroValue169
  t76:=Tryz.underlying170
  a76:=Tryz.isAgg170
  z76:=Tryz.sizeOf170
  v76:=Tryz.zeroValue170
  t105:=Tryz.underlying200
  a105:=Tryz.isAgg200
  z105:=Tryz.sizeOf200
  v105:=Tryz.zeroValue200
  t119:=Tryz.underlying228
  a119:=Tryz.isAgg228
  z119:=Tryz.sizeOf228
  t127:=Tryz.underlying187
  a127:=Tryz.isAgg187
  z127:=Tryz.sizeOf187
  v127:=Tryz.zeroValue187
  t138:=Tryz.underlying230
  a138:=Tryz.isAgg230
  z138:=Tryz.sizeOf230
  v138:=Tryz.zeroValue230
  t139:=Tryz.underlying231
  a139:=Tryz.isAgg231
  z139:=Tryz.sizeOf231
  v139:=Tryz.zeroValue231
  t146:=Tryz.underlying183
  a146:=Tryz.isAgg183
  z146:=Tryz.sizeOf183
  v146:=Tryz.zeroValue183
  t164:=Tryz.underlying202
  a164:=Tryz.isAgg202
  z164:=Tryz.sizeOf202
  v164:=Tryz.zeroValue202
  g1:=by kernel_rfl
  g3:=by kernel_rfl
  g4:=by kernel_rfl }
theorem Tryz.Builder_Extra_155:Builder.Extra Tryz.prog Tryz.lays155_ren:={
  sizeBuilder:=by kernel_rfl
  liesBuilder:=by kernel_rfl
  t5:=Tryz.underlying5
  a5:=Tryz.isAgg5
  z5:=Tryz.sizeOf5
  v5:=Tryz.zeroValue5
  infoByte:=by kernel_rfl
  cellsByte:=by kernel_rfl
  sizeByte:=by kernel_rfl
  neB5:=by decide }
open Go.RowKit Go.Lib in
theorem Tryz.strings_ReplaceAll (s old new:ByteArray) (m:Int) (w:World) (hs:s.size < 4294967281) (hm:w.cell? ⟨0,0,none⟩=some (.int .i64 m)) (h1:1≤old.size) (hlen:s.size+Lib.countB s old*new.size≤140737488355328) :
    Calls Tryz.prog 120 #[.string s,.string old,.string new] w fun e w' =>
      e=.returned (.string ⟨(Lib.replaceAll s.data.toList old.data.toList new.data.toList).toArray⟩)∧Below w.heap.size w w':=Any.strings_ReplaceAll Tryz.lays155 Tryz.Builder_Extra_155 s old new m w hs hm h1 hlen
def Tryz.lays105_ren:Go.Shelf.Ren:=⟨fun | 105=>94 | 212=>128 | 99=>129 | 165=>130 | 166=>131 | 170=>132 | 169=>133 | 263=>156 | 264=>157 | 206=>158 | 240=>159 | 241=>160 | 276=>175 | 277=>176 | n=>n,fun | 9=>9 | 3=>3 | 4=>4 | 20=>20 | 0=>0 | 46=>161 | 109=>162 | 5=>5 | 72=>167 | 76=>170 | 51=>182 | 146=>183 | 53=>66 | 148=>185 | 70=>165 | 37=>22 | 75=>169 | 127=>187 | 164=>202 | 80=>121 | n=>n,fun | n=>n⟩
theorem Tryz.lays105:Go.Proofs.Lays.n105 Tryz.prog Tryz.lays105_ren:={
  mixed:=by kernel_rfl
  f99:=Tryz.func129.trans (congrArg some (by kernel_rfl))
  f105:=Tryz.func94.trans (congrArg some (by kernel_rfl))
  f165:=Tryz.func130.trans (congrArg some (by kernel_rfl))
  f166:=Tryz.func131.trans (congrArg some (by kernel_rfl))
  f169:=Tryz.func133.trans (congrArg some (by kernel_rfl))
  f170:=Tryz.func132.trans (congrArg some (by kernel_rfl))
  f206:=Tryz.func158.trans (congrArg some (by kernel_rfl))
  f212:=Tryz.func128.trans (congrArg some (by kernel_rfl))
  f240:=Tryz.func159.trans (congrArg some (by kernel_rfl))
  f241:=Tryz.func160.trans (congrArg some (by kernel_rfl))
  f263:=Tryz.func156.trans (congrArg some (by kernel_rfl))
  f264:=Tryz.func157.trans (congrArg some (by kernel_rfl))
  f276:=Tryz.func175.trans (congrArg some (by kernel_rfl))
  f277:=Tryz.func176.trans (congrArg some (by kernel_rfl))
  t0:=Tryz.underlying0
  a0:=Tryz.isAgg0
  z0:=Tryz.sizeOf0
  v0:=Tryz.zeroValue0
  t3:=Tryz.underlying3
  a3:=Tryz.isAgg3
  z3:=Tryz.sizeOf3
  v3:=Tryz.zeroValue3
  t4:=Tryz.underlying4
  a4:=Tryz.isAgg4
  z4:=Tryz.sizeOf4
  v4:=Tryz.zeroValue4
  t5:=Tryz.underlying5
  a5:=Tryz.isAgg5
  z5:=Tryz.sizeOf5
  v5:=Tryz.zeroValue5
  t9:=Tryz.underlying9
  a9:=Tryz.isAgg9
  z9:=Tryz.sizeOf9
  v9:=Tryz.zeroValue9
  t20:=Tryz.underlying20
  a20:=Tryz.isAgg20
  z20:=Tryz.sizeOf20
  v20:=Tryz.zeroValue20
  t37:=Tryz.underlying22
  a37:=Tryz.isAgg22
  z37:=Tryz.sizeOf22
  v37:=Tryz.zeroValue22
  t46:=Tryz.underlying161
  a46:=Tryz.isAgg161
  z46:=Tryz.sizeOf161
  v46:=Tryz.zeroValue161
  t51:=Tryz.underlying182
  a51:=Tryz.isAgg182
  z51:=Tryz.sizeOf182
  v51:=Tryz.zeroValue182
  t53:=Tryz.underlying66
  a53:=Tryz.isAgg66
  z53:=Tryz.sizeOf66
  v53:=Tryz.zeroValue66
  t70:=Tryz.underlying165
  a70:=Tryz.isAgg165
  z70:=Tryz.sizeOf165
  v70:=Tryz.zeroValue165
  t72:=Tryz.underlying167
  a72:=Tryz.isAgg167
  z72:=Tryz.sizeOf167
  v72:=Tryz.zeroValue167
  t75:=Tryz.underlying169
  a75:=Tryz.isAgg169
  z75:=Tryz.sizeOf169
  v75:=Tryz.zeroValue169
  t76:=Tryz.underlying170
  a76:=Tryz.isAgg170
  z76:=Tryz.sizeOf170
  v76:=Tryz.zeroValue170
  t109:=Tryz.underlying162
  a109:=Tryz.isAgg162
  z109:=Tryz.sizeOf162
  v109:=Tryz.zeroValue162
  t127:=Tryz.underlying187
  a127:=Tryz.isAgg187
  z127:=Tryz.sizeOf187
  v127:=Tryz.zeroValue187
  t146:=Tryz.underlying183
  a146:=Tryz.isAgg183
  z146:=Tryz.sizeOf183
  v146:=Tryz.zeroValue183
  t148:=Tryz.underlying185
  a148:=Tryz.isAgg185
  z148:=Tryz.sizeOf185
  v148:=Tryz.zeroValue185
  t164:=Tryz.underlying202
  a164:=Tryz.isAgg202
  z164:=Tryz.sizeOf202
  v164:=Tryz.zeroValue202 }
theorem Tryz.Builder_Extra_105:Builder.Extra Tryz.prog Tryz.lays105_ren:={
  sizeBuilder:=by kernel_rfl
  liesBuilder:=by kernel_rfl
  t5:=Tryz.underlying5
  a5:=Tryz.isAgg5
  z5:=Tryz.sizeOf5
  v5:=Tryz.zeroValue5
  infoByte:=by kernel_rfl
  cellsByte:=by kernel_rfl
  sizeByte:=by kernel_rfl
  neB5:=by decide }
open Go.RowKit Go.Lib in
theorem Tryz.strings_Repeat (s:ByteArray) (c:Nat) (w:World) (hc:c≤9223372036854775807) (hlen:s.size*c≤140737488355328) :
    Calls Tryz.prog 94 #[.string s,.int .i64 c] w fun e w'=>e=.returned (.string ⟨(Lib.repeatL s.data.toList c).toArray⟩)∧Below w.heap.size w w':=Any.strings_Repeat Tryz.lays105 Tryz.Builder_Extra_105 s c w hc hlen
end Go.Proofs
namespace Go.Proofs.YtfbcnpbhhooapaaGreatDoor.M
set_option linter.unusedVariables false
open Go Classical
theorem compC_slices_Clone_int_int:comp Tryz.prog Tryz.f144=some ⟨1,8,cloneC 1 8 [.int .i64 0],[.t 2]⟩:=by kernel_rfl
theorem extsOk [Base] (hT:Lib.TabIs Tryz.prog Base.base "internal/strconv.uint64pow10" .u64 Lib.pow10Tab) (hM:∃ m,Base.base.cell? ⟨0,0,none⟩=some (.int .i64 m)) (hS:∃ te pe,Base.base.cell? ⟨4,0,none⟩=some (.iface te pe)) (hR:∃ te pe,Base.base.cell? ⟨5,0,none⟩=some (.iface te pe)):∀ (f:Nat) (y:XF),exts f=some y→XOk Tryz.prog f y:=fun f y h=>by
  unfold exts at h
  by_cases e106:f=106
  ·subst e106
   rw[if_pos rfl] at h
   obtain rfl:=Option.some.inj h
   exact itoa_ext Tryz.func106 rfl (by decide) hT (fun n h0 h1 w hT=>Tryz.strconv_Itoa n h0 h1 w hT)
  rw[if_neg e106] at h
  by_cases e108:f=108
  ·subst e108
   rw[if_pos rfl] at h
   obtain rfl:=Option.some.inj h
   exact bool_ext Tryz.func108 rfl (by decide) (fun b w=>Tryz.strconv_FormatBool b w)
  rw[if_neg e108] at h
  by_cases e94:f=94
  ·subst e94
   rw[if_pos rfl] at h
   obtain rfl:=Option.some.inj h
   exact repeat_ext Tryz.func94 rfl (by decide) (fun s c w h1 h2=>Tryz.strings_Repeat s c w h1 h2)
  rw[if_neg e94] at h
  by_cases e112:f=112
  ·subst e112
   rw[if_pos rfl] at h
   obtain rfl:=Option.some.inj h
   exact cut_ext Tryz.func112 rfl (by decide) hM (fun s p m w h1 h2=>Tryz.strings_Cut s p m w h1 h2)
  rw[if_neg e112] at h
  by_cases e179:f=179
  ·subst e179
   rw[if_pos rfl] at h
   obtain rfl:=Option.some.inj h
   exact index_ext Tryz.func179 rfl (by decide) (fun s c w=>Tryz.strings_IndexByte s c w)
  rw[if_neg e179] at h
  by_cases e129:f=129
  ·subst e129
   rw[if_pos rfl] at h
   obtain rfl:=Option.some.inj h
   exact prefix_ext Tryz.func129 rfl (by decide) (fun s p w=>Tryz.strings_HasPrefix s p w)
  rw[if_neg e129] at h
  by_cases e162:f=162
  ·subst e162
   rw[if_pos rfl] at h
   obtain rfl:=Option.some.inj h
   exact contains_ext Tryz.func162 rfl (by decide) hM (fun s p m w h1 h2=>Tryz.strings_Contains s p m w h1 h2)
  rw[if_neg e162] at h
  by_cases e120:f=120
  ·subst e120
   rw[if_pos rfl] at h
   obtain rfl:=Option.some.inj h
   exact replace_ext Tryz.func120 rfl (by decide) hM (fun s o n m w h1 h2 h3 h4=>Tryz.strings_ReplaceAll s o n m w h1 h2 h3 h4)
  rw[if_neg e120] at h
  by_cases e163:f=163
  ·subst e163
   rw[if_pos rfl] at h
   obtain rfl:=Option.some.inj h
   exact atoi_ext Tryz.func163 rfl (by decide) hS hR (fun s v w h1 h2=>Tryz.strconv_Atoi_ok s h1 v h2 w) (fun s te pe w h1 h2 h3=>(Tryz.strconv_Atoi_syntax s h1 h2 _ w h3 (.inr ⟨_,_,rfl⟩)).mono fun e w' ⟨N,he,_,_,hb⟩=>⟨_,he,hb⟩) (fun s te pe w h1 h2 h3=>(Tryz.strconv_Atoi_range s h1 h2 _ w h3 (.inr ⟨_,_,rfl⟩)).mono fun e w' ⟨N,he,_,_,hb⟩=>⟨_,he,hb⟩)
  rw[if_neg e163] at h
  by_cases e144:f=144
  ·subst e144
   rw[if_pos rfl] at h
   obtain rfl:=Option.some.inj h
   exact clone_ext (by kernel_rfl) Tryz.func144 compC_slices_Clone_int_int (by decide)
  rw[if_neg e144] at h
  by_cases e36:f=36
  ·subst e36
   rw[if_pos rfl] at h
   obtain rfl:=Option.some.inj h
   exact rcvOk_Q36
  rw[if_neg e36] at h
  by_cases e47:f=47
  ·subst e47
   rw[if_pos rfl] at h
   obtain rfl:=Option.some.inj h
   exact begin_orc
  rw[if_neg e47] at h
  cases h
end Go.Proofs.YtfbcnpbhhooapaaGreatDoor.M
namespace Go.Proofs.YtfbcnpbhhooapaaGreatDoor.M
set_option linter.unusedSimpArgs false
set_option linter.unusedVariables false
set_option linter.constructorNameAsVariable false
open Go Classical
theorem ht3:∀ (n:Nat) (vs:List PV),Has Tryz.prog n 3 vs→∃ x:Int,vs=[.int .i64 x]∧I64 x:=fun n vs h=>by
  obtain⟨x,rfl,w⟩:=h.int Tryz.underlying3
  have r:=range w
  simp[IntKind.min,IntKind.max,IntKind.signed,IntKind.bits] at r
  exact⟨x,rfl,r⟩
theorem ht9:∀ (n:Nat) (vs:List PV),Has Tryz.prog n 9 vs→∃ x:List UInt8,vs=[.str x]∧x.length≤maxLen:=fun n vs h=>by
  obtain⟨x,rfl,w⟩:=h.str Tryz.underlying9
  exact⟨x,rfl,w⟩
theorem ht4:∀ (n:Nat) (vs:List PV),Has Tryz.prog n 4 vs→∃ x:Bool,vs=[.bool x]∧True:=fun n vs h=>by
  obtain⟨x,rfl⟩:=h.bool Tryz.underlying4
  exact⟨x,rfl,trivial⟩
def OkPart (x:Part):Prop:=True∧x.Text.length≤maxLen
theorem ht86:∀ (n:Nat) (vs:List PV),Has Tryz.prog n 86 vs→∃ x:Part,vs=ePart x∧OkPart x:=fun n vs h=>by
  cases n with
  | zero=>exact h.zero.elim
  | succ n =>
    obtain⟨a0,b0,rfl,h0,h⟩:=h.struct Tryz.underlying86
    obtain⟨a1,b1,rfl,h1,h⟩:=h
    obtain rfl:b1=[]:=h
    obtain⟨x0,rfl,k0⟩:=ht4 n _ h0
    obtain⟨x1,rfl,k1⟩:=ht9 n _ h1
    exact⟨⟨x0,x1⟩,by simp[ePart],⟨k0,k1⟩⟩
theorem hr38 (n:Nat):∀ rows:List (List PV),(∀ r ∈ rows,Has Tryz.prog n 86 r)→∃ xs:List Part,rows=xs.map ePart∧∀ y ∈ xs,OkPart y
  | [],_=>⟨[],by simp[eI],fun y h=>by cases h⟩
  | r::rows,h=>by
    obtain⟨x,rfl,hx⟩:=ht86 n r (h r (by simp))
    obtain⟨xs,rfl,hxs⟩:=hr38 n rows fun r hr=>h r (by simp[hr])
    exact⟨x::xs,by simp[eI,eK,eB,eS,eO],fun y hy=>(List.mem_cons.1 hy).elim (fun e=>e ▸ hx) (hxs y)⟩
theorem cz86:Tryz.prog.cellsOf 86=2:=by kernel_rfl
theorem ht38:∀ (n:Nat) (vs:List PV),Has Tryz.prog n 38 vs→∃ x:List Part,vs=[.list 2 (x.map ePart) false]∧(x.length≤maxLen∧∀ y ∈ x,OkPart y):=fun n vs h=>by
  cases n with
  | zero=>exact h.zero.elim
  | succ n =>
    obtain⟨rows,rfl,hl,hr⟩:=h.slice Tryz.underlying38
    obtain⟨xs,rfl,hx⟩:=hr38 n rows hr
    rw[cz86]
    exact⟨xs,rfl,by rw[List.length_map] at hl;exact hl,hx⟩
theorem hr39 (n:Nat):∀ rows:List (List PV),(∀ r ∈ rows,Has Tryz.prog n 3 r)→∃ xs:List Int,rows=xs.map eI∧∀ y ∈ xs,I64 y
  | [],_=>⟨[],by simp[eI],fun y h=>by cases h⟩
  | r::rows,h=>by
    obtain⟨x,rfl,hx⟩:=ht3 n r (h r (by simp))
    obtain⟨xs,rfl,hxs⟩:=hr39 n rows fun r hr=>h r (by simp[hr])
    exact⟨x::xs,by simp[eI,eK,eB,eS,eO],fun y hy=>(List.mem_cons.1 hy).elim (fun e=>e ▸ hx) (hxs y)⟩
theorem cz3:Tryz.prog.cellsOf 3=1:=by kernel_rfl
theorem ht39:∀ (n:Nat) (vs:List PV),Has Tryz.prog n 39 vs→∃ x:List Int,vs=[.list 1 (x.map eI) false]∧(x.length≤maxLen∧∀ y ∈ x,I64 y):=fun n vs h=>by
  cases n with
  | zero=>exact h.zero.elim
  | succ n =>
    obtain⟨rows,rfl,hl,hr⟩:=h.slice Tryz.underlying39
    obtain⟨xs,rfl,hx⟩:=hr39 n rows hr
    rw[cz3]
    exact⟨xs,rfl,by rw[List.length_map] at hl;exact hl,hx⟩
def OkNode (x:Node):Prop:=I64 x.Kind∧I64 x.Num∧x.Text.length≤maxLen∧(x.Parts.length≤maxLen∧∀ y ∈ x.Parts,OkPart y)∧(x.Kids.length≤maxLen∧∀ y ∈ x.Kids,I64 y)
theorem ht41:∀ (n:Nat) (vs:List PV),Has Tryz.prog n 41 vs→∃ x:Node,vs=eNode x∧OkNode x:=fun n vs h=>by
  cases n with
  | zero=>exact h.zero.elim
  | succ n =>
    obtain⟨a0,b0,rfl,h0,h⟩:=h.struct Tryz.underlying41
    obtain⟨a1,b1,rfl,h1,h⟩:=h
    obtain⟨a2,b2,rfl,h2,h⟩:=h
    obtain⟨a3,b3,rfl,h3,h⟩:=h
    obtain⟨a4,b4,rfl,h4,h⟩:=h
    obtain rfl:b4=[]:=h
    obtain⟨x0,rfl,k0⟩:=ht3 n _ h0
    obtain⟨x1,rfl,k1⟩:=ht3 n _ h1
    obtain⟨x2,rfl,k2⟩:=ht9 n _ h2
    obtain⟨x3,rfl,k3⟩:=ht38 n _ h3
    obtain⟨x4,rfl,k4⟩:=ht39 n _ h4
    exact⟨⟨x0,x1,x2,x3,x4⟩,by simp[eNode],⟨k0,k1,k2,k3,k4⟩⟩
theorem hr35 (n:Nat):∀ rows:List (List PV),(∀ r ∈ rows,Has Tryz.prog n 41 r)→∃ xs:List Node,rows=xs.map eNode∧∀ y ∈ xs,OkNode y
  | [],_=>⟨[],by simp[eI],fun y h=>by cases h⟩
  | r::rows,h=>by
    obtain⟨x,rfl,hx⟩:=ht41 n r (h r (by simp))
    obtain⟨xs,rfl,hxs⟩:=hr35 n rows fun r hr=>h r (by simp[hr])
    exact⟨x::xs,by simp[eI,eK,eB,eS,eO],fun y hy=>(List.mem_cons.1 hy).elim (fun e=>e ▸ hx) (hxs y)⟩
theorem cz41:Tryz.prog.cellsOf 41=5:=by kernel_rfl
theorem ht35:∀ (n:Nat) (vs:List PV),Has Tryz.prog n 35 vs→∃ x:List Node,vs=[.list 5 (x.map eNode) false]∧(x.length≤maxLen∧∀ y ∈ x,OkNode y):=fun n vs h=>by
  cases n with
  | zero=>exact h.zero.elim
  | succ n =>
    obtain⟨rows,rfl,hl,hr⟩:=h.slice Tryz.underlying35
    obtain⟨xs,rfl,hx⟩:=hr35 n rows hr
    rw[cz41]
    exact⟨xs,rfl,by rw[List.length_map] at hl;exact hl,hx⟩
def OkAttr (x:Attr):Prop:=x.Name.length≤maxLen∧(x.Expr.length≤maxLen∧∀ y ∈ x.Expr,OkNode y)
theorem ht37:∀ (n:Nat) (vs:List PV),Has Tryz.prog n 37 vs→∃ x:Attr,vs=eAttr x∧OkAttr x:=fun n vs h=>by
  cases n with
  | zero=>exact h.zero.elim
  | succ n =>
    obtain⟨a0,b0,rfl,h0,h⟩:=h.struct Tryz.underlying37
    obtain⟨a1,b1,rfl,h1,h⟩:=h
    obtain rfl:b1=[]:=h
    obtain⟨x0,rfl,k0⟩:=ht9 n _ h0
    obtain⟨x1,rfl,k1⟩:=ht35 n _ h1
    exact⟨⟨x0,x1⟩,by simp[eAttr],⟨k0,k1⟩⟩
theorem hr31 (n:Nat):∀ rows:List (List PV),(∀ r ∈ rows,Has Tryz.prog n 37 r)→∃ xs:List Attr,rows=xs.map eAttr∧∀ y ∈ xs,OkAttr y
  | [],_=>⟨[],by simp[eI],fun y h=>by cases h⟩
  | r::rows,h=>by
    obtain⟨x,rfl,hx⟩:=ht37 n r (h r (by simp))
    obtain⟨xs,rfl,hxs⟩:=hr31 n rows fun r hr=>h r (by simp[hr])
    exact⟨x::xs,by simp[eI,eK,eB,eS,eO],fun y hy=>(List.mem_cons.1 hy).elim (fun e=>e ▸ hx) (hxs y)⟩
theorem cz37:Tryz.prog.cellsOf 37=2:=by kernel_rfl
theorem ht31:∀ (n:Nat) (vs:List PV),Has Tryz.prog n 31 vs→∃ x:List Attr,vs=[.list 2 (x.map eAttr) false]∧(x.length≤maxLen∧∀ y ∈ x,OkAttr y):=fun n vs h=>by
  cases n with
  | zero=>exact h.zero.elim
  | succ n =>
    obtain⟨rows,rfl,hl,hr⟩:=h.slice Tryz.underlying31
    obtain⟨xs,rfl,hx⟩:=hr31 n rows hr
    rw[cz37]
    exact⟨xs,rfl,by rw[List.length_map] at hl;exact hl,hx⟩
def OkBlock (x:Block):Prop:=OkBl x
theorem mapE {α:Type} (e:α→List PV) (q:α→Prop):∀ rows:List (List PV),(∀ r ∈ rows,∃ x,r=e x∧q x)→∃ xs:List α,rows=xs.map e∧∀ y ∈ xs,q y
  | [],_=>⟨[],rfl,fun y h=>by cases h⟩
  | r::rows,h=>by
    obtain⟨x,rfl,hx⟩:=h r (by simp)
    obtain⟨xs,rfl,hxs⟩:=mapE e q rows fun r hr=>h r (by simp[hr])
    exact⟨x::xs,rfl,fun y hy=>(List.mem_cons.1 hy).elim (fun e=>e ▸ hx) (hxs y)⟩
theorem czR33:Tryz.prog.cellsOf 33=4:=by kernel_rfl
theorem ht33:∀ (n:Nat) (vs:List PV),Has Tryz.prog n 33 vs→∃ x:Block,vs=eBlock x∧OkBlock x:=by
  intro n
  induction n using Nat.strongRecOn with
  | _ n ih =>
  intro vs h
  cases n with
  | zero=>exact h.zero.elim
  | succ n =>
    obtain⟨a0,b0,rfl,h0,h⟩:=h.struct Tryz.underlying33
    obtain⟨a1,b1,rfl,h1,h⟩:=h
    obtain⟨a2,b2,rfl,h2,h⟩:=h
    obtain⟨a3,b3,rfl,h3,h⟩:=h
    obtain rfl:b3=[]:=h
    obtain⟨x0,rfl,k0⟩:=ht3 n _ h0
    obtain⟨x1,rfl,k1⟩:=ht9 n _ h1
    obtain⟨x2,rfl,k2⟩:=ht31 n _ h2
    have hx3:∃ x3:List Block,a3=[.list 4 (x3.map eBlock) false]∧∀ y ∈ x3,OkBl y:=by
      cases n with
      | zero=>exact h3.zero.elim
      | succ n =>
        obtain⟨rows,e3,hl,hr⟩:=h3.slice Tryz.underlying26
        obtain⟨xs,rfl,hxs⟩:=mapE eBlock OkBl rows fun r hr'=>ih n (by omega) r (hr r hr')
        rw[czR33] at e3
        exact⟨xs,e3,hxs⟩
    obtain⟨x3,rfl,k3⟩:=hx3
    exact⟨⟨x0,x1,x2,x3⟩,by rw[eBlock_eq];rfl,.mk (fun a ha n hn=>((k2.2 a ha).2.2 n hn).2.1) k3⟩
theorem hr26 (n:Nat):∀ rows:List (List PV),(∀ r ∈ rows,Has Tryz.prog n 33 r)→∃ xs:List Block,rows=xs.map eBlock∧∀ y ∈ xs,OkBlock y
  | [],_=>⟨[],by simp[eI],fun y h=>by cases h⟩
  | r::rows,h=>by
    obtain⟨x,rfl,hx⟩:=ht33 n r (h r (by simp))
    obtain⟨xs,rfl,hxs⟩:=hr26 n rows fun r hr=>h r (by simp[hr])
    exact⟨x::xs,by simp[eI,eK,eB,eS,eO],fun y hy=>(List.mem_cons.1 hy).elim (fun e=>e ▸ hx) (hxs y)⟩
theorem cz33:Tryz.prog.cellsOf 33=4:=by kernel_rfl
theorem ht26:∀ (n:Nat) (vs:List PV),Has Tryz.prog n 26 vs→∃ x:List Block,vs=[.list 4 (x.map eBlock) false]∧(x.length≤maxLen∧∀ y ∈ x,OkBlock y):=fun n vs h=>by
  cases n with
  | zero=>exact h.zero.elim
  | succ n =>
    obtain⟨rows,rfl,hl,hr⟩:=h.slice Tryz.underlying26
    obtain⟨xs,rfl,hx⟩:=hr26 n rows hr
    rw[cz33]
    exact⟨xs,rfl,by rw[List.length_map] at hl;exact hl,hx⟩
theorem specShowAll:∀ pvs,HasAll Tryz.prog [35,26] pvs→call (SPof Tryz.prog exts) 12 pvs []=.ok (.v (.bool true)) []:=by
  intro pvs h
  obtain⟨v0,r0,rfl,g0,h⟩:=h.cons_inv
  obtain⟨v1,r1,rfl,g1,h⟩:=h.cons_inv
  obtain rfl:=h.nil_inv
  obtain⟨n0,g0⟩:=g0.one Tryz.underlying35 (fun fs h=>by cases h)
  obtain⟨x0,e0,h0⟩:=ht35 _ _ g0
  obtain rfl:=List.cons.inj e0 |>.1
  obtain⟨n1,g1⟩:=g1.one Tryz.underlying26 (fun fs h=>by cases h)
  obtain⟨x1,e1,h1⟩:=ht26 _ _ g1
  obtain rfl:=List.cons.inj e1 |>.1
  exact (r_ShowAll x0 x1 (fun n hn=>(h0.2 n hn).2.1) h1.2:R_Q12 x0 x1 true) []
end Go.Proofs.YtfbcnpbhhooapaaGreatDoor.M

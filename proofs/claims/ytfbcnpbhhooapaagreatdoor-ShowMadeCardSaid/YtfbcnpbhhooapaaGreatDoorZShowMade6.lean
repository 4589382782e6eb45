/- Parts of a proof, one behind another: Lt8, Wp10, Wx12, Shelf, XE, SpecShowMade. -/
import Derived.Test.YtfbcnpbhhooapaaGreatDoorZShowMade5
import Derived.Shelf.Strings.Builder1
import Derived.Shelf.Strings.Builder2
import Derived.Shelf.Small.Strs
import Derived.Shelf.Small.Wraps
import Derived.Shelf.Strings.BuilderF
import Derived.Shelf.Strings.BuilderK
import Derived.Shelf.Utf8.RuneCount
import Derived.Shelf.Strings.Builder2Cap
import Derived.Shelf.Strconv.Atoi
import Derived.Shelf.Strconv.Itoa0
import Derived.Shelf.Strconv.Itoa1
import Derived.Shelf.LaysM
import Derived.Shelf.Strconv.Itoa2
import Derived.Shelf.Strconv.Itoa3
import Derived.Shelf.Strconv.AtoiErrFast
import Derived.Shelf.Strconv.ParseIntEmpty
import Derived.Shelf.Strconv.AtoiFail
import Derived.Shelf.Strconv.Clone
import Derived.Shelf.Strconv.SyntaxError
import Derived.Shelf.LaysC
import Derived.Shelf.Strconv.ToError
import Derived.Shelf.Strconv.AtoiErr
import Derived.Shelf.Strconv.Lower
import Derived.Shelf.Strconv.ParseUint10
import Derived.Shelf.Strconv.ParseUint10Empty
import Derived.Shelf.Strconv.ParseUint10Any
import Derived.Shelf.Strconv.ParseInt10
import Derived.Shelf.Strconv.AtoiLong
import Derived.Shelf.Strconv.AtoiInnerAll
import Derived.Shelf.Strconv.RangeError
import Derived.Shelf.Strconv.ToErrorRange
import Derived.Shelf.Strconv.AtoiAll
import Derived.Shelf.Strconv.ErrVarAll
import Derived.Shelf.Strings.Search1
import Derived.Shelf.Strings.Search2
import Derived.Shelf.Strings.Search3
import Derived.Shelf.Strings.Cut
import Derived.Shelf.Strings.Count
import Derived.Shelf.Strings.Shaped
import Derived.Shelf.Strings.Prefix
import Derived.Shelf.Strings.Split
import Derived.Shelf.Strings.Replace
import Derived.Shelf.Bits.Mul64
import Derived.Shelf.Strings.Repeat
import Derived.Shelf.Unicode.DecodeSlow
import Derived.Test.YtfbcnpbhhooapaaGreatDoorProg
set_option linter.unusedSimpArgs false
set_option linter.unusedVariables false
set_option linter.unusedSectionVars false
set_option maxHeartbeats 4000000
namespace Go.Proofs.YtfbcnpbhhooapaaGreatDoor.M
open Go Classical
theorem zxA:SP 44=some (.code sc_Q44):=zb rfl Tryz.func44 comp_Q44
def zfU (a:List Int) (b:List Int) (i1:Int) (r:Bool):Prop:=∀ (S:Sto) (e:Nat→PV) (f:Fr),e 0=.list 1 (a.map eI) false∧e 1=.list 1 (b.map eI) false∧e 5=.int .i64 i1→zpQ SP (E SP (.loop b_Q44_1) ⟨e,f::S⟩)=.ok (.v (.bool r)) S
theorem zgw (a:List Int) (b:List Int) (i1:Int) (r:Bool) (T :
  ((i1 < (a.length:Int)) →
  (0≤i1) ∧
  ∃ (v2:Int),(a[i1.toNat]?=some v2) ∧
  (0≤i1) ∧
  ∃ (v3:Int),(b[i1.toNat]?=some v3) ∧
  ((v2=v3) →
   (I64 (i1+1)) ∧
   zfU a b (i1+1) r) ∧
  (¬ (v2=v3) →
   false=r)) ∧
 (¬ (i1 < (a.length:Int)) →
  true=r)):zfU a b i1 r:=by
 intro S e f h
 unfold zpQ
 rw[zo]
 have F:=zvm
 exact rn (aa h<|F) T
theorem zub (a:List Int) (b:List Int) (r:Bool) (T :
  (((a.length:Int)=(b.length:Int)) →
  zfU a b 0 r) ∧
 (¬ ((a.length:Int)=(b.length:Int)) →
  false=r)):zqx a b r:=by
 intro S
 rw[za zxA _ _ rfl]
 have F:=zvm
 exact rn F T
theorem zxQ:SP 21=some (.code sc_Q21):=zb rfl Tryz.func21 comp_Q21
def zgl (a:List Node) (b:List Node) (i1:Int) (r:Bool):Prop:=∀ (S:Sto) (e:Nat→PV) (f:Fr),e 0=.list 5 (a.map eNode) false∧e 1=.list 5 (b.map eNode) false∧e 5=.int .i64 i1→zpn SP (E SP (.loop b_Q21_1) ⟨e,f::S⟩)=.ok (.v (.bool r)) S
theorem zgA (a:List Node) (b:List Node) (i1:Int) (r:Bool) (T :
  ((i1 < (a.length:Int)) →
  (0≤i1) ∧
  ∃ (v2:Node),(a[i1.toNat]?=some v2) ∧
  (0≤i1) ∧
  ∃ (v3:Node),(b[i1.toNat]?=some v3) ∧
  ((v2.Kind=v3.Kind) →
   ((v2.Num=v3.Num) →
    ((v2.Text=v3.Text) →
     ∃ (r4:Bool),(zq7 v2.Parts v3.Parts r4) ∧
     ((r4=true) →
      ∃ (r5:Bool),(zqx v2.Kids v3.Kids r5) ∧
      ((r5=true) →
       (I64 (i1+1)) ∧
       zgl a b (i1+1) r) ∧
      (¬ (r5=true) →
       false=r)) ∧
     (¬ (r4=true) →
      false=r)) ∧
    (¬ (v2.Text=v3.Text) →
     false=r)) ∧
   (¬ (v2.Num=v3.Num) →
    false=r)) ∧
  (¬ (v2.Kind=v3.Kind) →
   false=r)) ∧
 (¬ (i1 < (a.length:Int)) →
  true=r)):zgl a b i1 r:=by
 intro S e f h
 unfold zpn
 rw[zo]
 have F:=zvG
 exact rn (aa h<|F) T
theorem zuV (a:List Node) (b:List Node) (r:Bool) (T :
  (((a.length:Int)=(b.length:Int)) →
  zgl a b 0 r) ∧
 (¬ ((a.length:Int)=(b.length:Int)) →
  false=r)):zmv a b r:=by
 intro S
 rw[za zxQ _ _ rfl]
 have F:=zvG
 exact rn F T
end Go.Proofs.YtfbcnpbhhooapaaGreatDoor.M
namespace Go.Proofs.YtfbcnpbhhooapaaGreatDoor.M
open Go Classical
def Gt (K:Nat) (ts:List Token):Prop:=ts.length≤K∧∀ t ∈ ts,t.Parts.length≤K
def Gn (K:Nat) (out:List Node):Prop:=∀ n ∈ out,n.Kids.length≤K∧n.Parts.length≤K
theorem Gt.tail {K:Nat} {ts:List Token} (h:Gt K ts):Gt K ts.tail:=⟨by have:=h.1;simp;omega,fun t ht=>h.2 t (List.mem_of_mem_tail ht)⟩
theorem Gn.snoc {K:Nat} {out:List Node} (h:Gn K out) {n:Node} (h1:n.Kids.length≤K) (h2:n.Parts.length≤K):Gn K (out++[n]):=by
 intro m hm
 rcases List.mem_append.1 hm with hm | hm
 ·exact h m hm
 rw[List.mem_singleton] at hm
 subst hm
 exact⟨h1,h2⟩
structure Pq (K:Nat) (lt lm:Nat) (ts:List Token) (out:List Node):Prop where
 len:ts.length≤lt
 sum:ts.length+out.length≤lm
 toks:Gt K ts
 nodes:Gn K out
def Po {α:Type} (K:Nat) (lt lm:Nat) (S:α→Nat→Prop) (p:PR α):Prop:=∀ a ts out,p=.ok a ts out→Pq K lt lm ts out∧S a ts.length
section
variable {K lt lm lt' lm':Nat} {α β:Type}
theorem Po.er {S:α→Nat→Prop} {e:Int}:Po K lt lm S (.er e:PR α):=fun _ _ _ h=>by cases h
theorem Po.no {S:α→Nat→Prop}:Po K lt lm S (.no:PR α):=fun _ _ _ h=>by cases h
theorem Po.ok {S:α→Nat→Prop} {a:α} {ts:List Token} {out:List Node} (h:Pq K lt lm ts out) (hs:S a ts.length):Po K lt lm S (.ok a ts out):=fun _ _ _ e=>by cases e;exact⟨h,hs⟩
theorem Po.bind {S:α→Nat→Prop} {S':β→Nat→Prop} {p:PR α} {f:α→List Token→List Node→PR β} (hp:Po K lt lm S p) (hf:∀ a ts out,Pq K lt lm ts out→S a ts.length→Po K lt' lm' S' (f a ts out)):Po K lt' lm' S' (p.bind f):=by
 cases p with
 | ok a ts out=>obtain⟨h1,h2⟩:=hp a ts out rfl;exact hf a ts out h1 h2
 | er e=>exact Po.er
 | no=>exact Po.no
theorem Po.ite {S:α→Nat→Prop} {c:Prop} [Decidable c] {p q:PR α} (h1:c→Po K lt lm S p) (h2:¬ c→Po K lt lm S q):Po K lt lm S (if c then p else q):=by
 split
 ·exact h1 ‹_›
 exact h2 ‹_›
theorem Po.mono {S S':α→Nat→Prop} {p:PR α} (h:Po K lt lm S p) (h1:lt≤lt') (h2:lm≤lm') (hS:∀ a n,n≤lt→S a n→S' a n):Po K lt' lm' S' p:=fun a ts out e=>by
 obtain⟨q,s⟩:=h a ts out e
 exact⟨⟨Nat.le_trans q.len h1,Nat.le_trans q.sum h2,q.toks,q.nodes⟩,hS _ _ q.len s⟩
theorem Pq.shift {ts:List Token} {out:List Node} (h:Pq K lt lm ts out) {s:List UInt8} (hi:isS s ts=true):1≤lt∧1≤lm∧Pq K (lt - 1) (lm - 1) ts.tail out:=by
 cases ts with
 | nil=>cases hi
 | cons t ts =>
  have h1:=h.len
  have h2:=h.sum
  simp only[List.length_cons] at h1 h2
  exact⟨by omega,by omega,by simp only[List.tail_cons];omega,by simp only[List.tail_cons];omega,h.toks.tail,h.nodes⟩
theorem Po.need {S:α→Nat→Prop} {s:List UInt8} {ts:List Token} {out:List Node} {k:List Token→PR α} (h:Pq K lt lm ts out) (hk:∀ ts,1≤lt→1≤lm→Pq K (lt - 1) (lm - 1) ts out→Po K lt' lm' S (k ts)):Po K lt' lm' S (zal s ts k) :=
 Po.ite (fun hi=>by obtain⟨h1,h2,h3⟩:=h.shift hi;exact hk _ h1 h2 h3) fun _=>Po.er
theorem Po.opn {S:α→Nat→Prop} {s:List UInt8} {d:Nat} {ts:List Token} {out:List Node} {k:List Token→PR α} (h:Pq K lt lm ts out) (hk:∀ ts,1≤lt→1≤lm→Pq K (lt - 1) (lm - 1) ts out→Po K lt' lm' S (k ts)):Po K lt' lm' S (zW s d ts k) :=
 Po.ite (fun hi=>Po.ite (fun _=>Po.er) fun _=>by obtain⟨h1,h2,h3⟩:=h.shift hi;exact hk _ h1 h2 h3) fun _=>Po.er
theorem Pq.snoc {ts:List Token} {out:List Node} (h:Pq K lt lm ts out) {n:Node} (h1:n.Kids.length≤K) (h2:n.Parts.length≤K):Pq K lt (lm+1) ts (out++[n]):=⟨h.len,by have:=h.sum;simp;omega,h.toks,h.nodes.snoc h1 h2⟩
theorem Pq.mono {ts:List Token} {out:List Node} (h:Pq K lt lm ts out) (h1:lt≤lt') (h2:lm≤lm'):Pq K lt' lm' ts out:=⟨Nat.le_trans h.len h1,Nat.le_trans h.sum h2,h.toks,h.nodes⟩
end
theorem zi7 (a:List Part) (h:a.length≤1000000):zq7 a a true:=by
 have loop:∀ (m i:Nat),i+m=a.length→zfW a a i true:=by
  intro m
  induction m with
  | zero =>
   intro i hi
   apply zgy
   exact⟨fun h=>by omega,fun _=>rfl⟩
  | succ m ih =>
   intro i hi
   have hg:a[((i:Nat):Int).toNat]?=some a[i]:=by rw[Int.toNat_natCast];exact List.getElem?_eq_getElem (by omega)
   apply zgy
   exact⟨fun _=>⟨by omega,_,hg,by omega,_,hg,fun _=>⟨⟨by omega,by omega⟩,ih (i+1) (by omega)⟩,fun h=>absurd ⟨rfl,rfl⟩ h⟩,fun h=>by omega⟩
 apply ztx
 exact⟨fun _=>loop a.length 0 (by omega),fun h=>absurd rfl h⟩
theorem zoy (a:List Int) (h:a.length≤1000000):zqx a a true:=by
 have loop:∀ (m i:Nat),i+m=a.length→zfU a a i true:=by
  intro m
  induction m with
  | zero =>
   intro i hi
   apply zgw
   exact⟨fun h=>by omega,fun _=>rfl⟩
  | succ m ih =>
   intro i hi
   have hg:a[((i:Nat):Int).toNat]?=some a[i]:=by rw[Int.toNat_natCast];exact List.getElem?_eq_getElem (by omega)
   apply zgw
   exact⟨fun _=>⟨by omega,_,hg,by omega,_,hg,fun _=>⟨⟨by omega,by omega⟩,ih (i+1) (by omega)⟩,fun h=>absurd rfl h⟩,fun h=>by omega⟩
 apply zub
 exact⟨fun _=>loop a.length 0 (by omega),fun h=>absurd rfl h⟩
theorem ziW (a:List Node) (h:a.length≤1000000) (hp:Gn 1000000 a):zmv a a true:=by
 have loop:∀ (m i:Nat),i+m=a.length→zgl a a i true:=by
  intro m
  induction m with
  | zero =>
   intro i hi
   apply zgA
   exact⟨fun h=>by omega,fun _=>rfl⟩
  | succ m ih =>
   intro i hi
   have hg:a[((i:Nat):Int).toNat]?=some a[i]:=by rw[Int.toNat_natCast];exact List.getElem?_eq_getElem (by omega)
   obtain⟨h1,h2⟩:=hp _ (List.getElem_mem (l:=a) (n:=i) (by omega))
   have hs:=zi7 a[i].Parts h2
   have hk:=zoy a[i].Kids h1
   apply zgA
   exact⟨fun _=>⟨by omega,_,hg,by omega,_,hg,fun _=>⟨fun _=>⟨fun _=>⟨_,hs,fun _=>⟨_,hk,fun _=>⟨⟨by omega,by omega⟩,ih (i+1) (by omega)⟩,fun h=>absurd rfl h⟩,fun h=>absurd rfl h⟩,fun h=>absurd rfl h⟩,fun h=>absurd rfl h⟩,fun h=>absurd rfl h⟩,fun h=>by omega⟩
 apply zuV
 exact⟨fun _=>loop a.length 0 (by omega),fun h=>absurd rfl h⟩
theorem ztH:prN (ziE [])=none∧(∃ e,ziE []=.er e∧e≠0):=by
 have h:ziE []=.er 5:=by kernel_rfl
 rw[h]
 exact⟨rfl,5,rfl,by decide⟩
theorem zpi:exS []=[]:=by
 rw[exS,if_neg]
 simp[zaY]
theorem zyh {l:List Node} (h:TR l):exS l≠[]:=by
 have h0:=zdI h.tree
 rw[exS,if_pos h.tree]
 obtain⟨c,u,e,_⟩:=(zsu h (l.length - 1) (by omega)).1
 rw[e]
 simp
theorem zl6 {ns:List UInt8} {l:List Node} (hm:zjw ns l) (hl:l=[]∨TR l∧(exS l).length≤6000):zqX ns true:=by
 rcases hl with rfl | ⟨h,h6⟩
 ·obtain⟨_,e,he,h0⟩:=ztH
  have hp:zbb [] [] e:=by
   have:=zqa [] (by decide)
   rw[he] at this
   exact this h0
  refine zpF _ _ ⟨_,hm,_,zfT [] (by decide) (fun n hn=>by cases hn),_,zgx [] (by decide) (fun n hn=>by cases hn),fun _=>⟨fun _=>⟨_,_,by rw[zpi];exact hp,fun _=>⟨true,zi6,rfl⟩,fun hf=>absurd rfl hf⟩,fun hf=>absurd (by rw[zpi];simp) hf⟩,fun hf=>absurd rfl hf⟩
 have h0:=zdI h.tree
 have h80:=h.len
 have hne:=zyh h
 have hg:Gn 1000000 l:=fun n hn=>⟨by have:=(h.ns n hn).kids;omega,by have:=(h.ns n hn).parts.1;omega⟩
 refine zpF _ _ ⟨_,hm,_,zfT l h.len h.ns,_,zgx l h.len h.ns,fun _=>⟨fun _=>?_,fun hf=>absurd (by rw[decide_eq_false hne,decide_eq_false (by omega)]) hf⟩,fun hf=>absurd rfl hf⟩
 rcases ztL h h6 with hp | hp
 ·exact⟨l,0,hp,fun hf=>by omega,fun _=>⟨0,zsw 0,fun _=>⟨true,ziW l (by omega) hg,fun _=>⟨true,zi6,rfl⟩,fun hf=>absurd rfl hf⟩,fun hf=>absurd rfl hf⟩⟩
 exact⟨[],6,hp,fun hf=>by omega,fun _=>⟨6,zsw 6,fun hf=>absurd hf (by decide),fun _=>⟨fun _=>⟨true,zi6,rfl⟩,fun hf=>absurd rfl hf⟩⟩⟩
theorem zq3 (ns:List UInt8):zqX ns true:=by
 obtain⟨l,hm,hl⟩:=zyq ns
 exact zl6 hm (hl.imp id fun h=>⟨h.1,h.2.1⟩)
end Go.Proofs.YtfbcnpbhhooapaaGreatDoor.M
namespace Go.Proofs
open Go.Shelf
def Tryz.lays137_ren:Go.Shelf.Ren:=⟨fun | 137=>179 | 217=>186 | 266=>209 | n=>n,fun | 9=>9 | 5=>5 | 3=>3 | n=>n,fun | n=>n⟩
theorem Tryz.lays137:Go.Proofs.Lays.n137 Tryz.prog Tryz.lays137_ren:={
  mixed:=by kernel_rfl
  f137:=Tryz.func179.trans (congrArg some (by kernel_rfl))
  f217:=Tryz.func186.trans (congrArg some (by kernel_rfl))
  f266:=Tryz.func209.trans (congrArg some (by kernel_rfl))
  t3:=Tryz.underlying3
  a3:=Tryz.isAgg3
  z3:=Tryz.sizeOf3
  v3:=Tryz.zeroValue3
  t5:=Tryz.underlying5
  a5:=Tryz.isAgg5
  z5:=Tryz.sizeOf5
  v5:=Tryz.zeroValue5
  t9:=Tryz.underlying9
  a9:=Tryz.isAgg9
  z9:=Tryz.sizeOf9
  v9:=Tryz.zeroValue9 }
open Go.RowKit in
theorem Tryz.strings_IndexByte (s:ByteArray) (c:Int) (w:World) :
    Calls Tryz.prog 179 #[.string s,.int .u8 c] w fun e w'=>e=.returned (.int .i64 (Lib.indexByte s.data.toList c.toNat.toUInt8))∧w'=w:=Any.strings_IndexByte Tryz.lays137 s c w
def Tryz.lays121_ren:Go.Shelf.Ren:=⟨fun | 121=>108 | 214=>147 | n=>n,fun | 4=>4 | 9=>9 | n=>n,fun | n=>n⟩
theorem Tryz.lays121:Go.Proofs.Lays.n121 Tryz.prog Tryz.lays121_ren:={
  mixed:=by kernel_rfl
  f121:=Tryz.func108.trans (congrArg some (by kernel_rfl))
  f214:=Tryz.func147.trans (congrArg some (by kernel_rfl))
  t4:=Tryz.underlying4
  a4:=Tryz.isAgg4
  z4:=Tryz.sizeOf4
  v4:=Tryz.zeroValue4
  t9:=Tryz.underlying9
  a9:=Tryz.isAgg9
  z9:=Tryz.sizeOf9
  v9:=Tryz.zeroValue9 }
open Go.RowKit in
theorem Tryz.strconv_FormatBool (b:Bool) (w:World) :
    Calls Tryz.prog 108 #[.bool b] w fun e w'=>e=.returned (.string ⟨(Lib.formatBool b).toArray⟩)∧w'=w:=Any.strconv_FormatBool Tryz.lays121 b w
def Tryz.laysM171_ren:Go.Shelf.Ren:=⟨fun | 171=>106 | 243=>145 | 246=>168 | 283=>182 | 284=>183 | 285=>184 | 286=>185 | 129=>205 | 317=>204 | 318=>206 | 319=>207 | 320=>208 | 337=>214 | 338=>215 | n=>n,fun | 3=>3 | 9=>9 | 2=>2 | 4=>4 | 171=>208 | 0=>0 | 53=>66 | 37=>22 | 5=>5 | 173=>211 | 212=>223 | 51=>182 | 20=>20 | 213=>224 | 46=>161 | 232=>243 | 233=>244 | n=>n,fun | 17=>1 | 18=>6 | 19=>7 | n=>n⟩
theorem Tryz.laysM171:Go.Proofs.LaysM.n171 Tryz.prog Tryz.laysM171_ren:={
  mixed:=by kernel_rfl
  f129:=Tryz.func205.trans (congrArg some (by kernel_rfl))
  f171:=Tryz.func106.trans (congrArg some (by kernel_rfl))
  f243:=Tryz.func145.trans (congrArg some (by kernel_rfl))
  f246:=Tryz.func168.trans (congrArg some (by kernel_rfl))
  f283:=Tryz.func182.trans (congrArg some (by kernel_rfl))
  f284:=Tryz.func183.trans (congrArg some (by kernel_rfl))
  f285:=Tryz.func184.trans (congrArg some (by kernel_rfl))
  f286:=Tryz.func185.trans (congrArg some (by kernel_rfl))
  f317:=Tryz.func204.trans (congrArg some (by kernel_rfl))
  f318:=Tryz.func206.trans (congrArg some (by kernel_rfl))
  f319:=Tryz.func207.trans (congrArg some (by kernel_rfl))
  f320:=Tryz.func208.trans (congrArg some (by kernel_rfl))
  f337:=Tryz.func214.trans (congrArg some (by kernel_rfl))
  f338:=Tryz.func215.trans (congrArg some (by kernel_rfl))
  t0:=Tryz.underlying0
  a0:=Tryz.isAgg0
  z0:=Tryz.sizeOf0
  v0:=Tryz.zeroValue0
  t2:=Tryz.underlying2
  a2:=Tryz.isAgg2
  z2:=Tryz.sizeOf2
  v2:=Tryz.zeroValue2
  t3:=Tryz.underlying3
  a3:=Tryz.isAgg3
  z3:=Tryz.sizeOf3
  v3:=Tryz.zeroValue3
  t4:=Tryz.underlying4
  a4:=Tryz.isAgg4
  z4:=Tryz.sizeOf4
  v4:=Tryz.zeroValue4
  t5:=Tryz.underlying5
  a5:=Tryz.isAgg5
  z5:=Tryz.sizeOf5
  v5:=Tryz.zeroValue5
  t9:=Tryz.underlying9
  a9:=Tryz.isAgg9
  z9:=Tryz.sizeOf9
  v9:=Tryz.zeroValue9
  t20:=Tryz.underlying20
  a20:=Tryz.isAgg20
  z20:=Tryz.sizeOf20
  v20:=Tryz.zeroValue20
  t37:=Tryz.underlying22
  a37:=Tryz.isAgg22
  z37:=Tryz.sizeOf22
  v37:=Tryz.zeroValue22
  t46:=Tryz.underlying161
  a46:=Tryz.isAgg161
  z46:=Tryz.sizeOf161
  v46:=Tryz.zeroValue161
  t51:=Tryz.underlying182
  a51:=Tryz.isAgg182
  z51:=Tryz.sizeOf182
  v51:=Tryz.zeroValue182
  t53:=Tryz.underlying66
  a53:=Tryz.isAgg66
  z53:=Tryz.sizeOf66
  v53:=Tryz.zeroValue66
  t171:=Tryz.underlying208
  a171:=Tryz.isAgg208
  z171:=Tryz.sizeOf208
  v171:=Tryz.zeroValue208
  t173:=Tryz.underlying211
  a173:=Tryz.isAgg211
  z173:=Tryz.sizeOf211
  v173:=Tryz.zeroValue211
  t212:=Tryz.underlying223
  a212:=Tryz.isAgg223
  z212:=Tryz.sizeOf223
  v212:=Tryz.zeroValue223
  t213:=Tryz.underlying224
  a213:=Tryz.isAgg224
  z213:=Tryz.sizeOf224
  t232:=Tryz.underlying243
  a232:=Tryz.isAgg243
  z232:=Tryz.sizeOf243
  v232:=Tryz.zeroValue243
  t233:=Tryz.underlying244
  a233:=Tryz.isAgg244
  z233:=Tryz.sizeOf244
  v233:=Tryz.zeroValue244
  g17:=by kernel_rfl
  g18:=by kernel_rfl
  g19:=by kernel_rfl
  i0:=by kernel_rfl
  i2:=by kernel_rfl
  i3:=by kernel_rfl
  i4:=by kernel_rfl
  i5:=by kernel_rfl
  i9:=by kernel_rfl
  i20:=by kernel_rfl
  i37:=by kernel_rfl
  i46:=by kernel_rfl
  i51:=by kernel_rfl
  i53:=by kernel_rfl
  i171:=by kernel_rfl
  i173:=by kernel_rfl
  i212:=by kernel_rfl
  i232:=by kernel_rfl
  i233:=by kernel_rfl
  m17:=by kernel_rfl
  m18:=by kernel_rfl
  m19:=by kernel_rfl }
open Go.RowKit Go.Sort Go.Lib in
theorem Tryz.strconv_Itoa (n:Int) (h0:-9223372036854775808≤n) (h1:n≤9223372036854775807) (w:World) (htab:Lib.TabIs Tryz.prog w "internal/strconv.uint64pow10" .u64 Lib.pow10Tab) :
    Calls Tryz.prog 106 #[.int .i64 n] w fun e w'=>e=.returned (.string ⟨(Lib.itoa n).toArray⟩)∧∃ k os,w'=grow (w.drewN k) os:=Any.strconv_Itoa Tryz.laysM171 n h0 h1 w htab
def Tryz.laysC172_ren:Go.Shelf.Ren:=⟨fun | 172=>163 | 244=>177 | 245=>178 | 247=>196 | 279=>197 | 280=>198 | 281=>199 | 282=>200 | 287=>211 | 316=>212 | 171=>106 | 205=>213 | 321=>216 | 322=>217 | 243=>145 | 246=>168 | 283=>182 | 284=>183 | 285=>184 | 286=>185 | 129=>205 | 317=>204 | 318=>206 | 319=>207 | 320=>208 | 337=>214 | 338=>215 | n=>n,fun | 9=>9 | 3=>3 | 75=>169 | 76=>170 | 4=>4 | 5=>5 | 167=>215 | 37=>22 | 0=>0 | 85=>216 | 2=>2 | 168=>218 | 53=>66 | 175=>232 | 46=>161 | 210=>236 | 127=>187 | 145=>242 | 143=>240 | 21=>21 | 171=>208 | 173=>211 | 212=>223 | 51=>182 | 20=>20 | 213=>224 | 232=>243 | 233=>244 | 80=>121 | n=>n,fun | 15=>4 | 16=>5 | 17=>1 | 18=>6 | 19=>7 | n=>n⟩
theorem Tryz.laysC172:Go.Proofs.LaysC.n172 Tryz.prog Tryz.laysC172_ren:={
  mixed:=by kernel_rfl
  f129:=Tryz.func205.trans (congrArg some (by kernel_rfl))
  f171:=Tryz.func106.trans (congrArg some (by kernel_rfl))
  f172:=Tryz.func163.trans (congrArg some (by kernel_rfl))
  f205:=Tryz.func213.trans (congrArg some (by kernel_rfl))
  f243:=Tryz.func145.trans (congrArg some (by kernel_rfl))
  f244:=Tryz.func177.trans (congrArg some (by kernel_rfl))
  f245:=Tryz.func178.trans (congrArg some (by kernel_rfl))
  f246:=Tryz.func168.trans (congrArg some (by kernel_rfl))
  f247:=Tryz.func196.trans (congrArg some (by kernel_rfl))
  f279:=Tryz.func197.trans (congrArg some (by kernel_rfl))
  f280:=Tryz.func198.trans (congrArg some (by kernel_rfl))
  f281:=Tryz.func199.trans (congrArg some (by kernel_rfl))
  f282:=Tryz.func200.trans (congrArg some (by kernel_rfl))
  f283:=Tryz.func182.trans (congrArg some (by kernel_rfl))
  f284:=Tryz.func183.trans (congrArg some (by kernel_rfl))
  f285:=Tryz.func184.trans (congrArg some (by kernel_rfl))
  f286:=Tryz.func185.trans (congrArg some (by kernel_rfl))
  f287:=Tryz.func211.trans (congrArg some (by kernel_rfl))
  f316:=Tryz.func212.trans (congrArg some (by kernel_rfl))
  f317:=Tryz.func204.trans (congrArg some (by kernel_rfl))
  f318:=Tryz.func206.trans (congrArg some (by kernel_rfl))
  f319:=Tryz.func207.trans (congrArg some (by kernel_rfl))
  f320:=Tryz.func208.trans (congrArg some (by kernel_rfl))
  f321:=Tryz.func216.trans (congrArg some (by kernel_rfl))
  f322:=Tryz.func217.trans (congrArg some (by kernel_rfl))
  f337:=Tryz.func214.trans (congrArg some (by kernel_rfl))
  f338:=Tryz.func215.trans (congrArg some (by kernel_rfl))
  t0:=Tryz.underlying0
  a0:=Tryz.isAgg0
  z0:=Tryz.sizeOf0
  v0:=Tryz.zeroValue0
  t2:=Tryz.underlying2
  a2:=Tryz.isAgg2
  z2:=Tryz.sizeOf2
  v2:=Tryz.zeroValue2
  t3:=Tryz.underlying3
  a3:=Tryz.isAgg3
  z3:=Tryz.sizeOf3
  v3:=Tryz.zeroValue3
  t4:=Tryz.underlying4
  a4:=Tryz.isAgg4
  z4:=Tryz.sizeOf4
  v4:=Tryz.zeroValue4
  t5:=Tryz.underlying5
  a5:=Tryz.isAgg5
  z5:=Tryz.sizeOf5
  v5:=Tryz.zeroValue5
  t9:=Tryz.underlying9
  a9:=Tryz.isAgg9
  z9:=Tryz.sizeOf9
  v9:=Tryz.zeroValue9
  t20:=Tryz.underlying20
  a20:=Tryz.isAgg20
  z20:=Tryz.sizeOf20
  v20:=Tryz.zeroValue20
  t21:=Tryz.underlying21
  a21:=Tryz.isAgg21
  z21:=Tryz.sizeOf21
  v21:=Tryz.zeroValue21
  t37:=Tryz.underlying22
  a37:=Tryz.isAgg22
  z37:=Tryz.sizeOf22
  v37:=Tryz.zeroValue22
  t46:=Tryz.underlying161
  a46:=Tryz.isAgg161
  z46:=Tryz.sizeOf161
  v46:=Tryz.zeroValue161
  t51:=Tryz.underlying182
  a51:=Tryz.isAgg182
  z51:=Tryz.sizeOf182
  v51:=Tryz.zeroValue182
  t53:=Tryz.underlying66
  a53:=Tryz.isAgg66
  z53:=Tryz.sizeOf66
  v53:=Tryz.zeroValue66
  t75:=Tryz.underlying169
  a75:=Tryz.isAgg169
  z75:=Tryz.sizeOf169
  v75:=Tryz.zeroValue169
  t76:=Tryz.underlying170
  a76:=Tryz.isAgg170
  z76:=Tryz.sizeOf170
  v76:=Tryz.zeroValue170
  t85:=Tryz.underlying216
  a85:=Tryz.isAgg216
  z85:=Tryz.sizeOf216
  v85:=Tryz.zeroValue216
  t127:=Tryz.underlying187
  a127:=Tryz.isAgg187
  z127:=Tryz.sizeOf187
  v127:=Tryz.zeroValue187
  t143:=Tryz.underlying240
  a143:=Tryz.isAgg240
  z143:=Tryz.sizeOf240
  v143:=Tryz.zeroValue240
  t145:=Tryz.underlying242
  a145:=Tryz.isAgg242
  z145:=Tryz.sizeOf242
  v145:=Tryz.zeroValue242
  t167:=Tryz.underlying215
  a167:=Tryz.isAgg215
  z167:=Tryz.sizeOf215
  v167:=Tryz.zeroValue215
  t168:=Tryz.underlying218
  a168:=Tryz.isAgg218
  z168:=Tryz.sizeOf218
  v168:=Tryz.zeroValue218
  t171:=Tryz.underlying208
  a171:=Tryz.isAgg208
  z171:=Tryz.sizeOf208
  v171:=Tryz.zeroValue208
  t173:=Tryz.underlying211
  a173:=Tryz.isAgg211
  z173:=Tryz.sizeOf211
  v173:=Tryz.zeroValue211
  t175:=Tryz.underlying232
  a175:=Tryz.isAgg232
  z175:=Tryz.sizeOf232
  v175:=Tryz.zeroValue232
  t210:=Tryz.underlying236
  a210:=Tryz.isAgg236
  z210:=Tryz.sizeOf236
  v210:=Tryz.zeroValue236
  t212:=Tryz.underlying223
  a212:=Tryz.isAgg223
  z212:=Tryz.sizeOf223
  v212:=Tryz.zeroValue223
  t213:=Tryz.underlying224
  a213:=Tryz.isAgg224
  z213:=Tryz.sizeOf224
  t232:=Tryz.underlying243
  a232:=Tryz.isAgg243
  z232:=Tryz.sizeOf243
  v232:=Tryz.zeroValue243
  t233:=Tryz.underlying244
  a233:=Tryz.isAgg244
  z233:=Tryz.sizeOf244
  v233:=Tryz.zeroValue244
  g15:=by kernel_rfl
  g16:=by kernel_rfl
  g17:=by kernel_rfl
  g18:=by kernel_rfl
  g19:=by kernel_rfl
  t80:=Tryz.underlying121
  a80:=Tryz.isAgg121
  z80:=Tryz.sizeOf121
  v80:=Tryz.zeroValue121
  i0:=by kernel_rfl
  i2:=by kernel_rfl
  i3:=by kernel_rfl
  i4:=by kernel_rfl
  i5:=by kernel_rfl
  i9:=by kernel_rfl
  i20:=by kernel_rfl
  i21:=by kernel_rfl
  i37:=by kernel_rfl
  i46:=by kernel_rfl
  i51:=by kernel_rfl
  i53:=by kernel_rfl
  i75:=by kernel_rfl
  i76:=by kernel_rfl
  i80:=by kernel_rfl
  i85:=by kernel_rfl
  i127:=by kernel_rfl
  i143:=by kernel_rfl
  i145:=by kernel_rfl
  i167:=by kernel_rfl
  i168:=by kernel_rfl
  i171:=by kernel_rfl
  i173:=by kernel_rfl
  i175:=by kernel_rfl
  i210:=by kernel_rfl
  i212:=by kernel_rfl
  i232:=by kernel_rfl
  i233:=by kernel_rfl
  m15:=by kernel_rfl
  m16:=by kernel_rfl
  m17:=by kernel_rfl
  m18:=by kernel_rfl
  m19:=by kernel_rfl
  c0:=by kernel_rfl
  c2:=by kernel_rfl
  c3:=by kernel_rfl
  c4:=by kernel_rfl
  c5:=by kernel_rfl
  c9:=by kernel_rfl
  c20:=by kernel_rfl
  c21:=by kernel_rfl
  c37:=by kernel_rfl
  c46:=by kernel_rfl
  c51:=by kernel_rfl
  c53:=by kernel_rfl
  c75:=by kernel_rfl
  c76:=by kernel_rfl
  c80:=by kernel_rfl
  c85:=by kernel_rfl
  c127:=by kernel_rfl
  c143:=by kernel_rfl
  c145:=by kernel_rfl
  c167:=by kernel_rfl
  c168:=by kernel_rfl
  c171:=by kernel_rfl
  c173:=by kernel_rfl
  c175:=by kernel_rfl
  c210:=by kernel_rfl
  c212:=by kernel_rfl
  c213:=by kernel_rfl
  c232:=by kernel_rfl
  c233:=by kernel_rfl }
open Go.RowKit in
theorem Tryz.strconv_Atoi_ok (s:ByteArray) (hmax:s.size≤9223372036854775806) (v:Int) (h:Lib.atoiAll s.data.toList=.ok v) (w:World) :
    Calls Tryz.prog 163 #[.string s] w fun e w'=>e=.returned (.tuple #[.int .i64 v,.nilIface])∧(w'=w∨∃ t,w'=Lib.bytesWorld w 5 t):=Any.strconv_Atoi_ok Tryz.laysC172 s hmax v h w
open Go.RowKit in
theorem Tryz.strconv_Atoi_syntax (s:ByteArray) (hlim:s.size≤281474976710656) (h:Lib.atoiAll s.data.toList=.syntax) (ev:Value) (w:World) (hv:w.cell? ⟨4,0,none⟩=some ev) (hev:ev=.nilIface∨∃ te pe,ev=.iface te pe) :
    Calls Tryz.prog 163 #[.string s] w fun e w'=>∃ N,e=.returned (.tuple #[.int .i64 (0),.iface 218 (.pointer (some ⟨N,0,none⟩))])∧w.heap.size≤N∧w'.heap[N]?=some (.cells #[.string ⟨#[65,116,111,105]⟩,.string s,ev] 236 (0,0))∧Below w.heap.size w w':=Any.strconv_Atoi_syntax Tryz.laysC172 s hlim h ev w hv hev
open Go.RowKit in
theorem Tryz.strconv_Atoi_range (s:ByteArray) (hlim:s.size≤281474976710656) (h:Lib.atoiAll s.data.toList=.range) (ev:Value) (w:World) (hv:w.cell? ⟨5,0,none⟩=some ev) (hev:ev=.nilIface∨∃ te pe,ev=.iface te pe) :
    Calls Tryz.prog 163 #[.string s] w fun e w'=>∃ N,e=.returned (.tuple #[.int .i64 (Lib.atoiSat s.data.toList),.iface 218 (.pointer (some ⟨N,0,none⟩))])∧w.heap.size≤N∧w'.heap[N]?=some (.cells #[.string ⟨#[65,116,111,105]⟩,.string s,ev] 236 (0,0))∧Below w.heap.size w w':=Any.strconv_Atoi_range Tryz.laysC172 s hlim h ev w hv hev
def Tryz.lays144_ren:Go.Shelf.Ren:=⟨fun | 144=>162 | 143=>172 | 219=>169 | 217=>186 | 225=>187 | 224=>188 | 267=>189 | 266=>209 | 314=>210 | n=>n,fun | 9=>9 | 4=>4 | 3=>3 | 5=>5 | 46=>161 | 146=>183 | 51=>182 | n=>n,fun | 1=>0 | n=>n⟩
theorem Tryz.lays144:Go.Proofs.Lays.n144 Tryz.prog Tryz.lays144_ren:={
  mixed:=by kernel_rfl
  f143:=Tryz.func172.trans (congrArg some (by kernel_rfl))
  f144:=Tryz.func162.trans (congrArg some (by kernel_rfl))
  f217:=Tryz.func186.trans (congrArg some (by kernel_rfl))
  f219:=Tryz.func169.trans (congrArg some (by kernel_rfl))
  f224:=Tryz.func188.trans (congrArg some (by kernel_rfl))
  f225:=Tryz.func187.trans (congrArg some (by kernel_rfl))
  f266:=Tryz.func209.trans (congrArg some (by kernel_rfl))
  f267:=Tryz.func189.trans (congrArg some (by kernel_rfl))
  f314:=Tryz.func210.trans (congrArg some (by kernel_rfl))
  t3:=Tryz.underlying3
  a3:=Tryz.isAgg3
  z3:=Tryz.sizeOf3
  v3:=Tryz.zeroValue3
  t4:=Tryz.underlying4
  a4:=Tryz.isAgg4
  z4:=Tryz.sizeOf4
  v4:=Tryz.zeroValue4
  t5:=Tryz.underlying5
  a5:=Tryz.isAgg5
  z5:=Tryz.sizeOf5
  v5:=Tryz.zeroValue5
  t9:=Tryz.underlying9
  a9:=Tryz.isAgg9
  z9:=Tryz.sizeOf9
  v9:=Tryz.zeroValue9
  t46:=Tryz.underlying161
  a46:=Tryz.isAgg161
  z46:=Tryz.sizeOf161
  v46:=Tryz.zeroValue161
  t51:=Tryz.underlying182
  a51:=Tryz.isAgg182
  z51:=Tryz.sizeOf182
  v51:=Tryz.zeroValue182
  t146:=Tryz.underlying183
  a146:=Tryz.isAgg183
  z146:=Tryz.sizeOf183
  v146:=Tryz.zeroValue183
  g1:=by kernel_rfl }
open Go.RowKit Go.Lib in
theorem Tryz.strings_Contains (s sub:ByteArray) (m:Int) (w:World) (hs:s.size < 4294967281) (hm:w.cell? ⟨0,0,none⟩=some (.int .i64 m)) :
    Calls Tryz.prog 162 #[.string s,.string sub] w fun e w'=>e=.returned (.bool (Lib.contains s.data.toList sub.data.toList))∧w'=w:=Any.strings_Contains Tryz.lays144 s sub m w hs hm
def Tryz.lays145_ren:Go.Shelf.Ren:=⟨fun | 145=>112 | 220=>150 | 219=>169 | 217=>186 | 225=>187 | 224=>188 | 267=>189 | 266=>209 | 314=>210 | n=>n,fun | 9=>9 | 4=>4 | 59=>155 | 3=>3 | 5=>5 | 46=>161 | 146=>183 | 51=>182 | n=>n,fun | 1=>0 | n=>n⟩
theorem Tryz.lays145:Go.Proofs.Lays.n145 Tryz.prog Tryz.lays145_ren:={
  mixed:=by kernel_rfl
  f145:=Tryz.func112.trans (congrArg some (by kernel_rfl))
  f217:=Tryz.func186.trans (congrArg some (by kernel_rfl))
  f219:=Tryz.func169.trans (congrArg some (by kernel_rfl))
  f220:=Tryz.func150.trans (congrArg some (by kernel_rfl))
  f224:=Tryz.func188.trans (congrArg some (by kernel_rfl))
  f225:=Tryz.func187.trans (congrArg some (by kernel_rfl))
  f266:=Tryz.func209.trans (congrArg some (by kernel_rfl))
  f267:=Tryz.func189.trans (congrArg some (by kernel_rfl))
  f314:=Tryz.func210.trans (congrArg some (by kernel_rfl))
  t3:=Tryz.underlying3
  a3:=Tryz.isAgg3
  z3:=Tryz.sizeOf3
  v3:=Tryz.zeroValue3
  t4:=Tryz.underlying4
  a4:=Tryz.isAgg4
  z4:=Tryz.sizeOf4
  v4:=Tryz.zeroValue4
  t5:=Tryz.underlying5
  a5:=Tryz.isAgg5
  z5:=Tryz.sizeOf5
  v5:=Tryz.zeroValue5
  t9:=Tryz.underlying9
  a9:=Tryz.isAgg9
  z9:=Tryz.sizeOf9
  v9:=Tryz.zeroValue9
  t46:=Tryz.underlying161
  a46:=Tryz.isAgg161
  z46:=Tryz.sizeOf161
  v46:=Tryz.zeroValue161
  t51:=Tryz.underlying182
  a51:=Tryz.isAgg182
  z51:=Tryz.sizeOf182
  v51:=Tryz.zeroValue182
  t59:=Tryz.underlying155
  a59:=Tryz.isAgg155
  z59:=Tryz.sizeOf155
  v59:=Tryz.zeroValue155
  t146:=Tryz.underlying183
  a146:=Tryz.isAgg183
  z146:=Tryz.sizeOf183
  v146:=Tryz.zeroValue183
  g1:=by kernel_rfl }
open Go.RowKit Go.Lib in
theorem Tryz.strings_Cut (s sep:ByteArray) (m:Int) (w:World) (hs:s.size < 4294967281) (hm:w.cell? ⟨0,0,none⟩=some (.int .i64 m)) :
    Calls Tryz.prog 112 #[.string s,.string sep] w fun e w'=>e=.returned (.tuple #[.string ⟨(Lib.cut s.data.toList sep.data.toList).1.toArray⟩,.string ⟨(Lib.cut s.data.toList sep.data.toList).2.1.toArray⟩,.bool (Lib.cut s.data.toList sep.data.toList).2.2])∧∃ n,w'=w.drewN n:=Any.strings_Cut Tryz.lays145 s sep m w hs hm
def Tryz.lays99_ren:Go.Shelf.Ren:=⟨fun | 99=>129 | 206=>158 | n=>n,fun | 9=>9 | 4=>4 | 3=>3 | n=>n,fun | n=>n⟩
theorem Tryz.lays99:Go.Proofs.Lays.n99 Tryz.prog Tryz.lays99_ren:={
  mixed:=by kernel_rfl
  f99:=Tryz.func129.trans (congrArg some (by kernel_rfl))
  f206:=Tryz.func158.trans (congrArg some (by kernel_rfl))
  t3:=Tryz.underlying3
  a3:=Tryz.isAgg3
  z3:=Tryz.sizeOf3
  v3:=Tryz.zeroValue3
  t4:=Tryz.underlying4
  a4:=Tryz.isAgg4
  z4:=Tryz.sizeOf4
  v4:=Tryz.zeroValue4
  t9:=Tryz.underlying9
  a9:=Tryz.isAgg9
  z9:=Tryz.sizeOf9
  v9:=Tryz.zeroValue9 }
open Go.RowKit Go.Lib in
theorem Tryz.strings_HasPrefix (s p:ByteArray) (w:World) :
    Calls Tryz.prog 129 #[.string s,.string p] w fun e w'=>e=.returned (.bool (Lib.hasPrefix s.data.toList p.data.toList))∧w'=w:=Any.strings_HasPrefix Tryz.lays99 s p w
def Tryz.lays155_ren:Go.Shelf.Ren:=⟨fun | 155=>120 | 154=>153 | 138=>171 | 165=>130 | 143=>172 | 166=>131 | 197=>173 | 169=>133 | 195=>191 | 218=>192 | 240=>159 | 241=>160 | 219=>169 | 260=>193 | 276=>175 | 277=>176 | 217=>186 | 225=>187 | 224=>188 | 267=>189 | 266=>209 | 314=>210 | n=>n,fun | 9=>9 | 3=>3 | 4=>4 | 72=>167 | 0=>0 | 76=>170 | 105=>200 | 21=>21 | 5=>5 | 70=>165 | 20=>20 | 37=>22 | 75=>169 | 127=>187 | 164=>202 | 46=>161 | 119=>228 | 139=>231 | 138=>230 | 146=>183 | 51=>182 | 80=>121 | n=>n,fun | 1=>0 | 3=>2 | 4=>3 | n=>n⟩
theorem Tryz.lays155:Go.Proofs.Lays.n155 Tryz.prog Tryz.lays155_ren:={
  mixed:=by kernel_rfl
  f138:=Tryz.func171.trans (congrArg some (by kernel_rfl))
  f143:=Tryz.func172.trans (congrArg some (by kernel_rfl))
  f154:=Tryz.func153.trans (congrArg some (by kernel_rfl))
  f155:=Tryz.func120.trans (congrArg some (by kernel_rfl))
  f165:=Tryz.func130.trans (congrArg some (by kernel_rfl))
  f166:=Tryz.func131.trans (congrArg some (by kernel_rfl))
  f169:=Tryz.func133.trans (congrArg some (by kernel_rfl))
  f195:=Tryz.func191.trans (congrArg some (by kernel_rfl))
  f197:=Tryz.func173.trans (congrArg some (by kernel_rfl))
  f217:=Tryz.func186.trans (congrArg some (by kernel_rfl))
  f218:=Tryz.func192.trans (congrArg some (by kernel_rfl))
  f219:=Tryz.func169.trans (congrArg some (by kernel_rfl))
  f224:=Tryz.func188.trans (congrArg some (by kernel_rfl))
  f225:=Tryz.func187.trans (congrArg some (by kernel_rfl))
  f240:=Tryz.func159.trans (congrArg some (by kernel_rfl))
  f241:=Tryz.func160.trans (congrArg some (by kernel_rfl))
  f260:=Tryz.func193.trans (congrArg some (by kernel_rfl))
  f266:=Tryz.func209.trans (congrArg some (by kernel_rfl))
  f267:=Tryz.func189.trans (congrArg some (by kernel_rfl))
  f276:=Tryz.func175.trans (congrArg some (by kernel_rfl))
  f277:=Tryz.func176.trans (congrArg some (by kernel_rfl))
  f314:=Tryz.func210.trans (congrArg some (by kernel_rfl))
  t0:=Tryz.underlying0
  a0:=Tryz.isAgg0
  z0:=Tryz.sizeOf0
  v0:=Tryz.zeroValue0
  t3:=Tryz.underlying3
  a3:=Tryz.isAgg3
  z3:=Tryz.sizeOf3
  v3:=Tryz.zeroValue3
  t4:=Tryz.underlying4
  a4:=Tryz.isAgg4
  z4:=Tryz.sizeOf4
  v4:=Tryz.zeroValue4
  t5:=Tryz.underlying5
  a5:=Tryz.isAgg5
  z5:=Tryz.sizeOf5
  v5:=Tryz.zeroValue5
  t9:=Tryz.underlying9
  a9:=Tryz.isAgg9
  z9:=Tryz.sizeOf9
  v9:=Tryz.zeroValue9
  t20:=Tryz.underlying20
  a20:=Tryz.isAgg20
  z20:=Tryz.sizeOf20
  v20:=Tryz.zeroValue20
  t21:=Tryz.underlying21
  a21:=Tryz.isAgg21
  z21:=Tryz.sizeOf21
  v21:=Tryz.zeroValue21
  t37:=Tryz.underlying22
  a37:=Tryz.isAgg22
  z37:=Tryz.sizeOf22
  v37:=Tryz.zeroValue22
  t46:=Tryz.underlying161
  a46:=Tryz.isAgg161
  z46:=Tryz.sizeOf161
  v46:=Tryz.zeroValue161
  t51:=Tryz.underlying182
  a51:=Tryz.isAgg182
  z51:=Tryz.sizeOf182
  v51:=Tryz.zeroValue182
  t70:=Tryz.underlying165
  a70:=Tryz.isAgg165
  z70:=Tryz.sizeOf165
  v70:=Tryz.zeroValue165
  t72:=Tryz.underlying167
  a72:=Tryz.isAgg167
  z72:=Tryz.sizeOf167
  v72:=Tryz.zeroValue167
  t75:=Tryz.underlying169
  a75:=Tryz.isAgg169
  z75:=Tryz.sizeOf169
  v75:=Tryz.zeroValue169
  t76:=Tryz.underlying170
  a76:=Tryz.isAgg170
  z76:=Tryz.sizeOf170
  v76:=Tryz.zeroValue170
  t105:=Tryz.underlying200
  a105:=Tryz.isAgg200
  z105:=Tryz.sizeOf200
  v105:=Tryz.zeroValue200
  t119:=Tryz.underlying228
  a119:=Tryz.isAgg228
  z119:=Tryz.sizeOf228
  t127:=Tryz.underlying187
  a127:=Tryz.isAgg187
  z127:=Tryz.sizeOf187
  v127:=Tryz.zeroValue187
  t138:=Tryz.underlying230
  a138:=Tryz.isAgg230
  z138:=Tryz.sizeOf230
  v138:=Tryz.zeroValue230
  t139:=Tryz.underlying231
  a139:=Tryz.isAgg231
  z139:=Tryz.sizeOf231
  v139:=Tryz.zeroValue231
  t146:=Tryz.underlying183
  a146:=Tryz.isAgg183
  z146:=Tryz.sizeOf183
  v146:=Tryz.zeroValue183
  t164:=Tryz.underlying202
  a164:=Tryz.isAgg202
  z164:=Tryz.sizeOf202
  v164:=Tryz.zeroValue202
  g1:=by kernel_rfl
  g3:=by kernel_rfl
  g4:=by kernel_rfl }
theorem Tryz.Builder_Extra_155:Builder.Extra Tryz.prog Tryz.lays155_ren:={
  sizeBuilder:=by kernel_rfl
  liesBuilder:=by kernel_rfl
  t5:=Tryz.underlying5
  a5:=Tryz.isAgg5
  z5:=Tryz.sizeOf5
  v5:=Tryz.zeroValue5
  infoByte:=by kernel_rfl
  cellsByte:=by kernel_rfl
  sizeByte:=by kernel_rfl
  neB5:=by decide }
open Go.RowKit Go.Lib in
theorem Tryz.strings_ReplaceAll (s old new:ByteArray) (m:Int) (w:World) (hs:s.size < 4294967281) (hm:w.cell? ⟨0,0,none⟩=some (.int .i64 m)) (h1:1≤old.size) (hlen:s.size+Lib.countB s old*new.size≤140737488355328) :
    Calls Tryz.prog 120 #[.string s,.string old,.string new] w fun e w' =>
      e=.returned (.string ⟨(Lib.replaceAll s.data.toList old.data.toList new.data.toList).toArray⟩)∧Below w.heap.size w w':=Any.strings_ReplaceAll Tryz.lays155 Tryz.Builder_Extra_155 s old new m w hs hm h1 hlen
def Tryz.lays105_ren:Go.Shelf.Ren:=⟨fun | 105=>94 | 212=>128 | 99=>129 | 165=>130 | 166=>131 | 170=>132 | 169=>133 | 263=>156 | 264=>157 | 206=>158 | 240=>159 | 241=>160 | 276=>175 | 277=>176 | n=>n,fun | 9=>9 | 3=>3 | 4=>4 | 20=>20 | 0=>0 | 46=>161 | 109=>162 | 5=>5 | 72=>167 | 76=>170 | 51=>182 | 146=>183 | 53=>66 | 148=>185 | 70=>165 | 37=>22 | 75=>169 | 127=>187 | 164=>202 | 80=>121 | n=>n,fun | n=>n⟩
theorem Tryz.lays105:Go.Proofs.Lays.n105 Tryz.prog Tryz.lays105_ren:={
  mixed:=by kernel_rfl
  f99:=Tryz.func129.trans (congrArg some (by kernel_rfl))
  f105:=Tryz.func94.trans (congrArg some (by kernel_rfl))
  f165:=Tryz.func130.trans (congrArg some (by kernel_rfl))
  f166:=Tryz.func131.trans (congrArg some (by kernel_rfl))
  f169:=Tryz.func133.trans (congrArg some (by kernel_rfl))
  f170:=Tryz.func132.trans (congrArg some (by kernel_rfl))
  f206:=Tryz.func158.trans (congrArg some (by kernel_rfl))
  f212:=Tryz.func128.trans (congrArg some (by kernel_rfl))
  f240:=Tryz.func159.trans (congrArg some (by kernel_rfl))
  f241:=Tryz.func160.trans (congrArg some (by kernel_rfl))
  f263:=Tryz.func156.trans (congrArg some (by kernel_rfl))
  f264:=Tryz.func157.trans (congrArg some (by kernel_rfl))
  f276:=Tryz.func175.trans (congrArg some (by kernel_rfl))
  f277:=Tryz.func176.trans (congrArg some (by kernel_rfl))
  t0:=Tryz.underlying0
  a0:=Tryz.isAgg0
  z0:=Tryz.sizeOf0
  v0:=Tryz.zeroValue0
  t3:=Tryz.underlying3
  a3:=Tryz.isAgg3
  z3:=Tryz.sizeOf3
  v3:=Tryz.zeroValue3
  t4:=Tryz.underlying4
  a4:=Tryz.isAgg4
  z4:=Tryz.sizeOf4
  v4:=Tryz.zeroValue4
  t5:=Tryz.underlying5
  a5:=Tryz.isAgg5
  z5:=Tryz.sizeOf5
  v5:=Tryz.zeroValue5
  t9:=Tryz.underlying9
  a9:=Tryz.isAgg9
  z9:=Tryz.sizeOf9
  v9:=Tryz.zeroValue9
  t20:=Tryz.underlying20
  a20:=Tryz.isAgg20
  z20:=Tryz.sizeOf20
  v20:=Tryz.zeroValue20
  t37:=Tryz.underlying22
  a37:=Tryz.isAgg22
  z37:=Tryz.sizeOf22
  v37:=Tryz.zeroValue22
  t46:=Tryz.underlying161
  a46:=Tryz.isAgg161
  z46:=Tryz.sizeOf161
  v46:=Tryz.zeroValue161
  t51:=Tryz.underlying182
  a51:=Tryz.isAgg182
  z51:=Tryz.sizeOf182
  v51:=Tryz.zeroValue182
  t53:=Tryz.underlying66
  a53:=Tryz.isAgg66
  z53:=Tryz.sizeOf66
  v53:=Tryz.zeroValue66
  t70:=Tryz.underlying165
  a70:=Tryz.isAgg165
  z70:=Tryz.sizeOf165
  v70:=Tryz.zeroValue165
  t72:=Tryz.underlying167
  a72:=Tryz.isAgg167
  z72:=Tryz.sizeOf167
  v72:=Tryz.zeroValue167
  t75:=Tryz.underlying169
  a75:=Tryz.isAgg169
  z75:=Tryz.sizeOf169
  v75:=Tryz.zeroValue169
  t76:=Tryz.underlying170
  a76:=Tryz.isAgg170
  z76:=Tryz.sizeOf170
  v76:=Tryz.zeroValue170
  t109:=Tryz.underlying162
  a109:=Tryz.isAgg162
  z109:=Tryz.sizeOf162
  v109:=Tryz.zeroValue162
  t127:=Tryz.underlying187
  a127:=Tryz.isAgg187
  z127:=Tryz.sizeOf187
  v127:=Tryz.zeroValue187
  t146:=Tryz.underlying183
  a146:=Tryz.isAgg183
  z146:=Tryz.sizeOf183
  v146:=Tryz.zeroValue183
  t148:=Tryz.underlying185
  a148:=Tryz.isAgg185
  z148:=Tryz.sizeOf185
  v148:=Tryz.zeroValue185
  t164:=Tryz.underlying202
  a164:=Tryz.isAgg202
  z164:=Tryz.sizeOf202
  v164:=Tryz.zeroValue202 }
theorem Tryz.Builder_Extra_105:Builder.Extra Tryz.prog Tryz.lays105_ren:={
  sizeBuilder:=by kernel_rfl
  liesBuilder:=by kernel_rfl
  t5:=Tryz.underlying5
  a5:=Tryz.isAgg5
  z5:=Tryz.sizeOf5
  v5:=Tryz.zeroValue5
  infoByte:=by kernel_rfl
  cellsByte:=by kernel_rfl
  sizeByte:=by kernel_rfl
  neB5:=by decide }
open Go.RowKit Go.Lib in
theorem Tryz.strings_Repeat (s:ByteArray) (c:Nat) (w:World) (hc:c≤9223372036854775807) (hlen:s.size*c≤140737488355328) :
    Calls Tryz.prog 94 #[.string s,.int .i64 c] w fun e w'=>e=.returned (.string ⟨(Lib.repeatL s.data.toList c).toArray⟩)∧Below w.heap.size w w':=Any.strings_Repeat Tryz.lays105 Tryz.Builder_Extra_105 s c w hc hlen
end Go.Proofs
namespace Go.Proofs.YtfbcnpbhhooapaaGreatDoor.M
open Go Classical
theorem compC_slices_Clone_int_int:comp Tryz.prog Tryz.f144=some ⟨1,8,zrp 1 8 [.int .i64 0],[.t 2]⟩:=by kernel_rfl
theorem extsOk [Base] (hT:Lib.TabIs Tryz.prog Base.base "internal/strconv.uint64pow10" .u64 Lib.pow10Tab) (hM:∃ m,Base.base.cell? ⟨0,0,none⟩=some (.int .i64 m)) (hS:∃ te pe,Base.base.cell? ⟨4,0,none⟩=some (.iface te pe)) (hR:∃ te pe,Base.base.cell? ⟨5,0,none⟩=some (.iface te pe)):∀ (f:Nat) (y:XF),zqk f=some y→XOk Tryz.prog f y:=fun f y h=>by
  unfold zqk at h
  by_cases e106:f=106
  ·subst e106
   rw[if_pos rfl] at h
   obtain rfl:=Option.some.inj h
   exact zuW Tryz.func106 rfl (by decide) hT (fun n h0 h1 w hT=>Tryz.strconv_Itoa n h0 h1 w hT)
  rw[if_neg e106] at h
  by_cases e108:f=108
  ·subst e108
   rw[if_pos rfl] at h
   obtain rfl:=Option.some.inj h
   exact zud Tryz.func108 rfl (by decide) (fun b w=>Tryz.strconv_FormatBool b w)
  rw[if_neg e108] at h
  by_cases e94:f=94
  ·subst e94
   rw[if_pos rfl] at h
   obtain rfl:=Option.some.inj h
   exact zqv Tryz.func94 rfl (by decide) (fun s c w h1 h2=>Tryz.strings_Repeat s c w h1 h2)
  rw[if_neg e94] at h
  by_cases e112:f=112
  ·subst e112
   rw[if_pos rfl] at h
   obtain rfl:=Option.some.inj h
   exact zwl Tryz.func112 rfl (by decide) hM (fun s p m w h1 h2=>Tryz.strings_Cut s p m w h1 h2)
  rw[if_neg e112] at h
  by_cases e179:f=179
  ·subst e179
   rw[if_pos rfl] at h
   obtain rfl:=Option.some.inj h
   exact zs2 Tryz.func179 rfl (by decide) (fun s c w=>Tryz.strings_IndexByte s c w)
  rw[if_neg e179] at h
  by_cases e129:f=129
  ·subst e129
   rw[if_pos rfl] at h
   obtain rfl:=Option.some.inj h
   exact zqz Tryz.func129 rfl (by decide) (fun s p w=>Tryz.strings_HasPrefix s p w)
  rw[if_neg e129] at h
  by_cases e162:f=162
  ·subst e162
   rw[if_pos rfl] at h
   obtain rfl:=Option.some.inj h
   exact zok Tryz.func162 rfl (by decide) hM (fun s p m w h1 h2=>Tryz.strings_Contains s p m w h1 h2)
  rw[if_neg e162] at h
  by_cases e120:f=120
  ·subst e120
   rw[if_pos rfl] at h
   obtain rfl:=Option.some.inj h
   exact zoP Tryz.func120 rfl (by decide) hM (fun s o n m w h1 h2 h3 h4=>Tryz.strings_ReplaceAll s o n m w h1 h2 h3 h4)
  rw[if_neg e120] at h
  by_cases e163:f=163
  ·subst e163
   rw[if_pos rfl] at h
   obtain rfl:=Option.some.inj h
   exact zuA Tryz.func163 rfl (by decide) hS hR (fun s v w h1 h2=>Tryz.strconv_Atoi_ok s h1 v h2 w) (fun s te pe w h1 h2 h3=>(Tryz.strconv_Atoi_syntax s h1 h2 _ w h3 (.inr ⟨_,_,rfl⟩)).mono fun e w' ⟨N,he,_,_,hb⟩=>⟨_,he,hb⟩) (fun s te pe w h1 h2 h3=>(Tryz.strconv_Atoi_range s h1 h2 _ w h3 (.inr ⟨_,_,rfl⟩)).mono fun e w' ⟨N,he,_,_,hb⟩=>⟨_,he,hb⟩)
  rw[if_neg e163] at h
  by_cases e144:f=144
  ·subst e144
   rw[if_pos rfl] at h
   obtain rfl:=Option.some.inj h
   exact zr5 (by kernel_rfl) Tryz.func144 compC_slices_Clone_int_int (by decide)
  rw[if_neg e144] at h
  by_cases e36:f=36
  ·subst e36
   rw[if_pos rfl] at h
   obtain rfl:=Option.some.inj h
   exact zrO
  rw[if_neg e36] at h
  by_cases e47:f=47
  ·subst e47
   rw[if_pos rfl] at h
   obtain rfl:=Option.some.inj h
   exact zsC
  rw[if_neg e47] at h
  cases h
end Go.Proofs.YtfbcnpbhhooapaaGreatDoor.M
namespace Go.Proofs.YtfbcnpbhhooapaaGreatDoor.M
set_option linter.constructorNameAsVariable false
open Go Classical
theorem zvL {x:Int} (h:(Lit.int .u8 x).wf=true):∃ b:UInt8,x=((b.toNat:Nat):Int):=by
  have r:=range h
  simp[IntKind.min,IntKind.max,IntKind.signed,IntKind.bits] at r
  refine⟨UInt8.ofNat x.toNat,?_⟩
  simp
  omega
theorem ht5:∀ (n:Nat) (vs:List PV),Has Tryz.prog n 5 vs→∃ x:UInt8,vs=[.int .u8 ((x.toNat:Nat):Int)]∧True:=fun n vs h=>by
  obtain⟨x,rfl,w⟩:=h.int Tryz.underlying5
  obtain⟨b,rfl⟩:=zvL w
  exact⟨b,rfl,trivial⟩
theorem hr22 (n:Nat):∀ rows:List (List PV),(∀ r ∈ rows,Has Tryz.prog n 5 r)→∃ xs:List UInt8,rows=xs.map eB∧∀ y ∈ xs,True
  | [],_=>⟨[],by simp[eI],fun y h=>by cases h⟩
  | r::rows,h=>by
    obtain⟨x,rfl,hx⟩:=ht5 n r (h r (by simp))
    obtain⟨xs,rfl,hxs⟩:=hr22 n rows fun r hr=>h r (by simp[hr])
    exact⟨x::xs,by simp[eI,eK,eB,eS,eO],fun y hy=>trivial⟩
theorem cz5:Tryz.prog.cellsOf 5=1:=by kernel_rfl
theorem ht22:∀ (n:Nat) (vs:List PV),Has Tryz.prog n 22 vs→∃ x:List UInt8,vs=[.list 1 (x.map eB) false]∧(x.length≤maxLen∧∀ y ∈ x,True):=fun n vs h=>by
  cases n with
  | zero=>exact h.zero.elim
  | succ n =>
    obtain⟨rows,rfl,hl,hr⟩:=h.slice Tryz.underlying22
    obtain⟨xs,rfl,hx⟩:=hr22 n rows hr
    rw[cz5]
    exact⟨xs,rfl,by rw[List.length_map] at hl;exact hl,hx⟩
theorem specShowMade:∀ pvs,HasAll Tryz.prog [22] pvs→call (zeN Tryz.prog zqk) 6 pvs []=.ok (.v (.bool true)) []:=by
  intro pvs h
  obtain⟨v0,r0,rfl,g0,h⟩:=h.cons_inv
  obtain rfl:=h.nil_inv
  obtain⟨n0,g0⟩:=g0.one Tryz.underlying22 (fun fs h=>by cases h)
  obtain⟨x0,e0,h0⟩:=ht22 _ _ g0
  obtain rfl:=List.cons.inj e0 |>.1
  exact (zq3 x0:zqX x0 true) []
end Go.Proofs.YtfbcnpbhhooapaaGreatDoor.M

/- Parts of a proof, one behind another: Wy5, Wy9, Wy6, Sc8, Lt8, Wp10, Sc21, Lt21, Wq8, Shelf, XE, SpecParseTexts. -/
import Derived.Test.YtfbcnpbhhooapaaGreatDoorZParseTexts5
import Derived.Test.YtfbcnpbhhooapaaGreatDoorProg
import Derived.KernelRfl
import Derived.Shelf.Strings.Builder1
import Derived.Shelf.Strings.Builder2
import Derived.Shelf.Small.Strs
import Derived.Shelf.Small.Wraps
import Derived.Shelf.Strings.BuilderF
import Derived.Shelf.Strings.BuilderK
import Derived.Shelf.Utf8.RuneCount
import Derived.Shelf.Strings.Builder2Cap
import Derived.Shelf.Strconv.Atoi
import Derived.Shelf.Strconv.Itoa0
import Derived.Shelf.Strconv.Itoa1
import Derived.Shelf.LaysM
import Derived.Shelf.Strconv.Itoa2
import Derived.Shelf.Strconv.Itoa3
import Derived.Shelf.Strconv.AtoiErrFast
import Derived.Shelf.Strconv.ParseIntEmpty
import Derived.Shelf.Strconv.AtoiFail
import Derived.Shelf.Strconv.Clone
import Derived.Shelf.Strconv.SyntaxError
import Derived.Shelf.LaysC
import Derived.Shelf.Strconv.ToError
import Derived.Shelf.Strconv.AtoiErr
import Derived.Shelf.Strconv.Lower
import Derived.Shelf.Strconv.ParseUint10
import Derived.Shelf.Strconv.ParseUint10Empty
import Derived.Shelf.Strconv.ParseUint10Any
import Derived.Shelf.Strconv.ParseInt10
import Derived.Shelf.Strconv.AtoiLong
import Derived.Shelf.Strconv.AtoiInnerAll
import Derived.Shelf.Strconv.RangeError
import Derived.Shelf.Strconv.ToErrorRange
import Derived.Shelf.Strconv.AtoiAll
import Derived.Shelf.Strconv.ErrVarAll
import Derived.Shelf.Strings.Search1
import Derived.Shelf.Strings.Search2
import Derived.Shelf.Strings.Search3
import Derived.Shelf.Strings.Cut
import Derived.Shelf.Strings.Count
import Derived.Shelf.Strings.Shaped
import Derived.Shelf.Strings.Prefix
import Derived.Shelf.Strings.Split
import Derived.Shelf.Strings.Replace
import Derived.Shelf.Bits.Mul64
import Derived.Shelf.Strings.Repeat
import Derived.Shelf.Unicode.DecodeSlow
set_option linter.unusedSimpArgs false
set_option linter.unusedVariables false
set_option linter.unusedSectionVars false
set_option maxHeartbeats 4000000
namespace Go.Proofs.YtfbcnpbhhooapaaGreatDoor.M
open Go Classical
def zAr (lv:Lv) (out:List Node) (l:List Int) (out':List Node):Prop:=out.length≤out'.length∧match lv with
 | .ma _=>True
 | .ml _ _=>True
 | .lp _ a=>a+1=(out.length:Int)→l.headD 0+1=(out'.length:Int)
 | .pl a=>a+1=(out.length:Int)→l.headD 0+1=(out'.length:Int)
 | _=>l.headD 0+1=(out'.length:Int)
theorem zv4 {lv:Lv} {d:Nat} {ts:List Token} {out:List Node} {l:List Int} {ts':List Token} {out':List Node} (h:Dr lv d ts out l ts' out'):zAr lv out l out':=by
 have app:∀ (o:List Node) (n:Node),(o++[n]).length=o.length+1:=fun o n=>by simp
 have nl:∀ (o:List Node) (n:Node),([((o.length:Nat):Int)]:List Int).headD 0+1=((o++[n]).length:Int):=fun o n=>by rw[app];simp
 induction h with
 | ex0 _ ih=>exact ih
 | ex1 _ _ _ _ _ _ ih1 ih2 ih3=>exact⟨by rw[app];have:=ih1.1;have:=ih2.1;have:=ih3.1;omega,nl _ _⟩
 | ch5 _ ih=>exact ih
 | chr _ _ _ ih1 ih2=>exact⟨Nat.le_trans ih1.1 ih2.1,ih2.2 ih1.2⟩
 | lp0=>exact⟨Nat.le_refl _,fun h=>h⟩
 | lp2 _ _ _ ih=>exact⟨by rw[app];have:=ih.1;omega,fun _=>nl _ _⟩
 | lpr _ _ _ _ _ ih1 ih2=>exact⟨by have:=ih1.1;have:=ih2.1;rw[app] at this;omega,fun _=>ih2.2 (nl _ _)⟩
 | un9 _ _ _ ih=>exact⟨by rw[app];have:=ih.1;omega,nl _ _⟩
 | un8 _ _ _ ih=>exact⟨by rw[app];have:=ih.1;omega,nl _ _⟩
 | un0 _ ih=>exact ih
 | po _ _ ih1 ih2=>exact⟨Nat.le_trans ih1.1 ih2.1,ih2.2 ih1.2⟩
 | pl0=>exact⟨Nat.le_refl _,fun h=>h⟩
 | pl1 _ _ _ _ _ ih1 ih2=>exact⟨by have:=ih1.1;have:=ih2.1;rw[app] at this;omega,fun _=>ih2.2 (nl _ _)⟩
 | ma0=>exact⟨Nat.le_refl _,trivial⟩
 | ma1 _ _ ih1 ih2=>exact⟨Nat.le_trans ih1.1 ih2.1,trivial⟩
 | ml0=>exact⟨Nat.le_refl _,trivial⟩
 | ml1 _ _ _ ih1 ih2=>exact⟨Nat.le_trans ih1.1 ih2.1,trivial⟩
 | prT=>exact⟨by rw[app];omega,nl _ _⟩
 | prF=>exact⟨by rw[app];omega,nl _ _⟩
 | prR=>exact⟨by rw[app];omega,nl _ _⟩
 | prC _ _ _ _ _ _ ih=>exact⟨by rw[app];have:=ih.1;omega,nl _ _⟩
 | prN=>exact⟨by rw[app];omega,nl _ _⟩
 | prS=>exact⟨by rw[app];omega,nl _ _⟩
 | prL _ _ _ ih=>exact⟨by rw[app];have:=ih.1;omega,nl _ _⟩
 | prP _ _ _ _ ih=>exact ih
theorem zv9 {l:List Node} (h:zbX l=true):WF l:=fun e n he=>by
 have hlt:e < l.length:=by
  by_cases hl:e < l.length
  ·exact hl
  rw[List.getElem?_eq_none (by omega)] at he;cases he
 obtain⟨hok,st,hc,h3,h4⟩:=zkW l l.length 0 [] (by omega) rfl (by rw[List.drop_zero,←zhz];exact h) e hlt (Nat.zero_le _)
 rw[List.getElem?_eq_getElem hlt] at he
 obtain rfl:=Option.some.inj he
 refine⟨hok,fun k hk=>?_⟩
 have hm:k ∈ st.take l[e].Kids.length:=by rw[h4];exact List.mem_reverse.2 hk
 have:∀ (st:List Int) (i:Nat),Ch l i st→∀ s ∈ st,0≤s∧s < (i:Int):=by
  intro st
  induction st with
  | nil=>intro i _ s hs;cases hs
  | cons a st ih =>
   intro i ⟨h0,ha,b,hb,hc⟩ s hs
   have hle:=zft l (i - 1)
   rcases List.mem_cons.1 hs with rfl | hs
   ·omega
   have:=ih b hc s hs
   omega
 exact this st e hc k (List.mem_of_mem_take hm)
theorem zuY {μ:Token→Nat} (hμ:Mu μ) {N:Nat} {L:List Token} (ht:∀ t ∈ L,TkG t) {l:List Node} {ts:List Token} {o:List Node} (h:zbp N L=.ok l ts o):zbX l=true∧ts <:+ L∧wt μ ts+wt μ (tkS l (l.length - 1))≤wt μ L∧enI l ((l.length - 1:Nat):Int)≤64:=by
 unfold zbp at h
 cases hc:zu N 0 L [] with
 | no=>rw[hc] at h;cases h
 | er e=>rw[hc] at h;cases h
 | ok a ts1 out1 =>
  rw[hc] at h
  simp only[PR.ok.injEq] at h
  obtain⟨rfl,rfl,_⟩:=h
  have hd:=(drA N).ex hc
  have i:=zAe hμ hd ht WF.nil okI.nil trivial
  have la:a+1=(out1.length:Int):=(zv4 hd).2
  have i0:=i.idx.one
  have ea:a=((out1.length - 1:Nat):Int):=by omega
  have hs:=i.stk [] Stk.nil
  have htr:=Stk.tree hs (by simp)
  have v:wt μ ts1+Wm μ out1 0 a≤wt μ L+0:=i.wt
  have d1:0+We out1 0 a≤64:=i.dp (by decide) (by simp[inE])
  rw[Wm0,ea] at v
  rw[We0,ea] at d1
  refine⟨htr,i.suf,?_,by omega⟩
  unfold tkI at v
  rw[Int.toNat_natCast] at v
  omega
structure CM (c:List UInt8→Nat) (μ:Token→Nat) (l:List Node):Prop where
 app:∀ a b,c (a++b)=c a+c b
 lp:c [40]≤μ (tg [40])
 rp:c [41]≤μ (tg [41])
 sep:c [44,32]≤μ (tg [44])
 lb:c [91]≤μ (tg [91])
 rb:c [93]≤μ (tg [93])
 bang:c [33]≤μ (tg [33])
 neg:c [45]≤μ (tg [45])
 qu:c [32,63,32]≤μ (tg [63])
 col:c [32,58,32]≤μ (tg [58])
 dot:c [46]≤μ (tg [46])
 op:∀ k:Int,11≤k→k≤23→c ([32]++zhx k++[32])≤μ (tg (zhx k))
 num:∀ z:Int,0≤z→c (Lib.itoa z)≤μ (zmS z)
 name:∀ s,zab s=true→c s≤μ (tn s)
 prt:∀ n ∈ l,c (qtS n.Parts)≤μ (znj n.Parts)
section
variable {c:List UInt8→Nat} {μ:Token→Nat} {l:List Node} (h:CM c μ l)
include h
theorem CM.wr {o:Int→List UInt8} {o':Int→List Token} {k:Int} (hk:c (o k)≤wt μ (o' k)) (least:Int):c (wrS l o k least)≤wt μ (wrK l o' k least):=by
 unfold wrS wrK
 have h1:=h.lp
 have h2:=h.rp
 split
 ·rw[h.app,h.app,wt,zcy,wt,wt]
  have e1:μ lpT=μ (tg [40]):=rfl
  have e2:μ rpT=μ (tg [41]):=rfl
  omega
 exact hk
theorem CM.nil:c []=0:=by
 have:=h.app [] []
 simp only[List.append_nil] at this
 omega
theorem CM.comG {o:Int→List UInt8} {o':Int→List Token}:∀ {ks:List Int},(∀ k ∈ ks,c (o k)≤wt μ (o' k))→c (M.comG o ks)≤wt μ (tcG o' ks)
 | [],_=>by rw[M.comG,tcG,h.nil];exact Nat.zero_le _
 | k::r,hk=>by
  have h1:=CM.comG (ks:=r) fun q hq=>hk q (List.mem_cons_of_mem _ hq)
  have h2:=hk k (List.mem_cons_self ..)
  have h3:=h.sep
  rw[M.comG,tcG,h.app,h.app,wt,zcy]
  omega
theorem CM.comS {o:Int→List UInt8} {o':Int→List Token} {ks:List Int} (hk:∀ k ∈ ks,c (o k)≤wt μ (o' k)):c (M.comS o ks)≤wt μ (tcS o' ks):=by
 cases ks with
 | nil=>rw[M.comS,tcS,h.nil];exact Nat.zero_le _
 | cons k r =>
  have h1:=h.comG (ks:=r) fun q hq=>hk q (List.mem_cons_of_mem _ hq)
  have h2:=hk k (List.mem_cons_self ..)
  rw[M.comS,tcS,h.app,zcy]
  omega
end
structure DP (ts:List Token) (out:List Node) (ts':List Token) (out':List Node):Prop where
  len:out'.length+ts'.length≤out.length+ts.length
  sub:∀ t ∈ ts',t ∈ ts
  par:∀ n ∈ out',n ∈ out∨n.Parts=[]∨∃ t ∈ ts,n.Parts=t.Parts
theorem DP.refl (ts:List Token) (out:List Node):DP ts out ts out:=⟨Nat.le_refl _,fun t h=>h,fun n h=>.inl h⟩
theorem DP.trans {a b c:List Token} {x y z:List Node} (h:DP a x b y) (h':DP b y c z):DP a x c z:=⟨by have:=h.len;have:=h'.len;omega,fun t ht=>h.sub t (h'.sub t ht),fun n hn=>by
  rcases h'.par n hn with h1 | h1 | ⟨t,ht,h1⟩
  ·exact h.par n h1
  ·exact .inr (.inl h1)
  exact .inr (.inr ⟨t,h.sub t ht,h1⟩)⟩
theorem DP.drop {t:Token} {a b:List Token} {x y:List Node} (h:DP a x b y):DP (t::a) x b y∧y.length+b.length+1≤x.length+(t::a).length:=⟨⟨by have:=h.len;simp only[List.length_cons];omega,fun u hu=>List.mem_cons_of_mem _ (h.sub u hu),fun n hn=>by
  rcases h.par n hn with h1 | h1 | ⟨t,ht,h1⟩
  ·exact .inl h1
  ·exact .inr (.inl h1)
  exact .inr (.inr ⟨t,List.mem_cons_of_mem _ ht,h1⟩)⟩,by have:=h.len;simp only[List.length_cons];omega⟩
theorem DP.tail {u:Token} {a b:List Token} {x y:List Node} (h:DP a x (u::b) y):DP a x b y∧y.length+b.length+1≤x.length+a.length:=⟨⟨by have:=h.len;simp only[List.length_cons] at this;omega,fun t ht=>h.sub t (List.mem_cons_of_mem _ ht),h.par⟩,by have:=h.len;simp only[List.length_cons] at this;omega⟩
theorem DP.put {a b:List Token} {x y:List Node} (h:DP a x b y) (hl:y.length+b.length+1≤x.length+a.length) {n:Node} (hn:n.Parts=[]∨∃ t ∈ a,n.Parts=t.Parts):DP a x b (y++[n]):=⟨by simp only[List.length_append,List.length_cons,List.length_nil];omega,h.sub,fun m hm=>by
  rcases List.mem_append.1 hm with hm | hm
  ·exact h.par m hm
  rw[List.mem_singleton.1 hm];exact .inr hn⟩
theorem zz2 {lv:Lv} {d:Nat} {ts:List Token} {out:List Node} {l:List Int} {ts':List Token} {out':List Node} (h:Dr lv d ts out l ts' out'):DP ts out ts' out':=by
  induction h with
  | ex0 _ ih=>exact ih
  | ex1 _ _ _ _ _ _ ih1 ih2 ih3 =>
    have a:=ih1.tail
    have b:=ih2.tail
    have c:=a.1.trans (b.1.trans ih3)
    exact c.put (by have:=a.2;have:=b.2;have:=ih3.len;omega) (.inl rfl)
  | ch5 _ ih=>exact ih
  | chr _ _ _ ih1 ih2=>exact ih1.trans ih2
  | lp0=>exact DP.refl _ _
  | lp2 _ _ _ ih=>exact ih.drop.1.put ih.drop.2 (.inl rfl)
  | lpr _ _ _ _ _ ih1 ih2=>exact (ih1.drop.1.put ih1.drop.2 (.inl rfl)).trans ih2
  | un9 _ _ _ ih=>exact ih.drop.1.put ih.drop.2 (.inl rfl)
  | un8 _ _ _ ih=>exact ih.drop.1.put ih.drop.2 (.inl rfl)
  | un0 _ ih=>exact ih
  | po _ _ ih1 ih2=>exact ih1.trans ih2
  | pl0=>exact DP.refl _ _
  | pl1 _ _ _ _ _ ih1 ih2=>exact (ih1.tail.1.drop.1.put ih1.tail.1.drop.2 (.inl rfl)).trans ih2
  | ma0=>exact (DP.refl _ _).drop.1
  | ma1 _ _ ih1 ih2=>exact ih1.trans ih2
  | ml0=>exact (DP.refl _ _).drop.1
  | ml1 _ _ _ ih1 ih2=>exact (ih1.trans ih2).drop.1
  | prT=>exact (DP.refl _ _).drop.1.put (DP.refl _ _).drop.2 (.inl rfl)
  | prF=>exact (DP.refl _ _).drop.1.put (DP.refl _ _).drop.2 (.inl rfl)
  | prR=>exact (DP.refl _ _).drop.1.drop.1.drop.1.put ((DP.refl _ _).drop.1.drop.1.drop.2) (.inl rfl)
  | prC _ _ _ _ _ _ ih=>exact ih.drop.1.drop.1.put ih.drop.1.drop.2 (.inl rfl)
  | prN=>exact (DP.refl _ _).drop.1.put (DP.refl _ _).drop.2 (.inl rfl)
  | @prS d t ts out k=>exact (DP.refl _ _).drop.1.put (DP.refl _ _).drop.2 (.inr ⟨t,by simp,rfl⟩)
  | prL _ _ _ ih=>exact ih.drop.1.put ih.drop.2 (.inl rfl)
  | prP _ _ _ _ ih=>exact ih.tail.1.drop.1
theorem zrf {l:List Node}:∀ (st:List Int) (i:Nat),Ch l i st→st.length≤i
  | [],_,_=>Nat.zero_le _
  | s::st,i,⟨h0,_,b,hb,hc⟩=>by
    have:=zrf st b hc
    have hle:=zft l (i - 1)
    simp only[List.length_cons]
    omega
theorem zlQ {l:List Node} (h:zbX l=true) (n:Node) (hn:n ∈ l):n.Kids.length≤l.length:=by
  obtain⟨e,hlt,rfl⟩:=List.getElem_of_mem hn
  obtain⟨_,st,hc,h3,h4⟩:=zkW l l.length 0 [] (by omega) rfl (by rw[List.drop_zero,←zhz];exact h) e hlt (Nat.zero_le _)
  have:=zrf st e hc
  omega
theorem zs6 {n:Node} (h:zo n=true):n.Text.length≤49:=by
  have hp:=ziC h
  by_cases k4:n.Kind=4
  ·obtain⟨h1,_,_⟩:=zAq h k4
   obtain⟨x,y,hxy,hx,hy⟩:=zik h1
   have a:=(of_decide_eq_true hx).2.1
   have b:=(of_decide_eq_true hy).2.1
   rw[hxy]
   simp only[List.length_append,List.length_cons]
   omega
  by_cases k5:n.Kind=5
  ·obtain⟨h1,_,_⟩:=zAj h k5
   have a:=(of_decide_eq_true h1).2.1
   omega
  have:n.Text=[]:=by
    rw[plS,if_neg k4,if_neg k5] at hp
    repeat' split at hp
    all_goals
      simp only[Bool.and_eq_true,decide_eq_true_eq] at hp
      first | exact hp.1.2 | exact hp.2.1 | (rcases hp with⟨⟨_,h⟩,_⟩;exact h)
  rw[this]
  simp
structure GE (B K:Nat) (l:List Node):Prop where
  tree:zbX l=true
  len:l.length≤K
  par:∀ n ∈ l,n.Parts.length≤B∧∀ p ∈ n.Parts,p.Text.length≤B
  deep:enI l ((l.length - 1:Nat):Int)≤64
def TkB (B:Nat) (L:List Token):Prop:=∀ t ∈ L,t.Parts.length≤B∧∀ p ∈ t.Parts,p.Text.length≤B
theorem GE.ok {B K:Nat} {l:List Node} (h:GE B K l) (n:Node) (hn:n ∈ l):zo n=true:=by
  obtain⟨e,hlt,rfl⟩:=List.getElem_of_mem hn
  exact (zv9 h.tree e _ (List.getElem?_eq_getElem hlt)).1
theorem GE.nb {B K:Nat} {l:List Node} (h:GE B K l) (hB:B≤1000000) (hK:K≤1000000):∀ n ∈ l,NB n:=fun n hn=>by
  have h1:=zs6 (h.ok n hn)
  have h2:=zlQ h.tree n hn
  have h3:=h.len
  obtain⟨h4,h5⟩:=h.par n hn
  exact⟨by omega,⟨by omega,fun p hp=>by have:=h5 p hp;omega⟩,by omega⟩
theorem zm5 {B N:Nat} {L:List Token} (ht:∀ t ∈ L,TkG t) (hB:TkB B L) {l:List Node} {ts:List Token} {o:List Node} (h:zbp N L=.ok l ts o):GE B L.length l∧ts <:+ L:=by
  obtain⟨h1,h2,_,h4⟩:=zuY (μ:=fun _=>0) (fun _ _ _ _ _ _=>rfl) ht h
  refine⟨⟨h1,?_,fun n hn=>?_,h4⟩,h2⟩
  all_goals
    unfold zbp at h
    cases hc:zu N 0 L [] with
    | no=>rw[hc] at h;cases h
    | er e=>rw[hc] at h;cases h
    | ok a ts1 out1 =>
      rw[hc] at h
      simp only[PR.ok.injEq] at h
      obtain⟨rfl,rfl,_⟩:=h
      have d:=zz2 ((drA N).ex hc)
      first
        | (have:=d.len;simp only[List.length_nil] at this;omega)
        | (rcases d.par n hn with h | h | ⟨t,ht',h⟩
           ·cases h
           ·rw[h];exact⟨Nat.zero_le _,fun p hp=>by cases hp⟩
           rw[h];exact hB t ht')
structure GA (B K:Nat) (l:List Attr):Prop where
  len:l.length≤K
  each:∀ a ∈ l,a.Name.length≤24∧GE B K a.Expr
theorem zgZ {ts L:List Token} (h:ts <:+ L) (ht:∀ t ∈ L,TkG t):∀ t ∈ ts,TkG t:=fun t hm=>ht t (h.subset hm)
theorem zgV {B:Nat} {ts L:List Token} (h:ts <:+ L) (ht:TkB B L):TkB B ts:=fun t hm=>ht t (h.subset hm)
section
variable {B K:Nat}
theorem zn5 (N:Nat):∀ (n:Nat) (acc:List Attr) (ts:List Token),(∀ t ∈ ts,TkG t)→TkB B ts→ts.length≤K→∀ {res:List Attr} {ts':List Token} {o:List Node},zaM N n acc ts=.ok res ts' o→ts' <:+ ts∧∃ new,res=acc++new∧zgx acc new=true∧new.length+ts'.length≤ts.length∧∀ a ∈ new,a.Name.length≤24∧GE B K a.Expr
  | 0,_,_,_,_,_,_,_,_,h=>by rw[zaM] at h;cases h
  | n+1,acc,[],_,_,_,_,_,_,h=>by simp only[zaM] at h;cases h
  | n+1,acc,t::ts,hg,hb,hk,res,ts',o,h=>by
    rw[zaM] at h
    split at h
    ·cases h
     exact⟨List.suffix_cons _ _,[],by simp,rfl,by simp,fun a ha=>by cases ha⟩
    split at h
    ·rename_i k3
     split at h
     ·cases h
     rename_i hd
     obtain⟨u,r,rfl,hu,h⟩:=zdC h
     obtain⟨nodes,ts1,o1,hw,h⟩:=zaf h
     simp only[List.length_cons] at hk
     have hg1:∀ x ∈ r,TkG x:=fun x hx=>hg x (by simp[hx])
     have hb1:TkB B r:=fun x hx=>hb x (by simp[hx])
     obtain⟨ge,hs⟩:=zm5 hg1 hb1 hw
     have hl:=hs.length_le
     obtain⟨s2,new,rfl,h3,h4,h5⟩:=zn5 N n (acc++[⟨t.Text,nodes⟩]) ts1 (zgZ hs hg1) (zgV hs hb1) (by omega) h
     have nm:=(hg t (by simp)).name k3
     have ge':GE B K nodes:=⟨ge.tree,by have:=ge.len;omega,ge.par,ge.deep⟩
     refine⟨s2.trans (hs.trans ((List.suffix_cons _ _).trans (List.suffix_cons _ _))),⟨t.Text,nodes⟩::new,by simp,?_,by simp only[List.length_cons];omega,fun a ha=>?_⟩
     ·rw[zgx]
      simp only[nm,ge.tree,h3,Bool.and_true,Bool.true_and,Bool.not_eq_true']
      simpa using hd
     rcases List.mem_cons.1 ha with rfl | ha
     ·exact⟨(of_decide_eq_true nm).2.1,ge'⟩
     exact h5 a ha
    cases h
theorem zpz {N:Nat} {ts:List Token} (hg:∀ t ∈ ts,TkG t) (hb:TkB B ts) (hk:ts.length≤K) {res:List Attr} {ts':List Token} {o:List Node} (h:zdm N ts=.ok res ts' o):ts' <:+ ts∧zgx [] res=true∧GA B K res:=by
  obtain⟨u,r,rfl,hu,h⟩:=zdC h
  simp only[List.length_cons] at hk
  obtain⟨s2,new,rfl,h3,h4,h5⟩:=zn5 (K:=K) N N [] r (fun x hx=>hg x (by simp[hx])) (fun x hx=>hb x (by simp[hx])) (by omega) h
  exact⟨s2.trans (List.suffix_cons _ _),by simpa using h3,by first | omega | (simp;omega),by simpa using h5⟩
theorem zr0 {ts:List Token} {l:List UInt8} {ts':List Token} {o:List Node} (h:zdK zE ts=.ok l ts' o):ts' <:+ ts∧zE l=true:=by
  cases ts with
  | nil=>cases h
  | cons t ts =>
    rw[zdK] at h
    split at h
    ·split at h
     ·split at h
      ·cases h
      split at h
      ·rename_i hl
       cases h
       exact⟨List.suffix_cons _ _,hl⟩
      cases h
     cases h
    cases h
theorem zlJ {l:List UInt8} (h:zE l=true):l.length≤24:=by
  cases l with
  | nil=>cases h
  | cons c u =>
    simp only[zE,Bool.and_eq_true,decide_eq_true_eq] at h
    simp only[List.length_cons]
    omega
structure GB (B K:Nat) (b:Block):Prop where
  may:zd7 b=true
  attrs:GA B K b.Attrs
  none:b.Blocks=[]
  lab:b.Label.length≤24
theorem zn6 {N i:Nat} (hi:i < 4) {ts:List Token} (hg:∀ t ∈ ts,TkG t) (hb:TkB B ts) (hk:ts.length≤K) {b:Block} {ts':List Token} {o:List Node} (h:zdg zE N i ts=.ok b ts' o):ts' <:+ ts∧GB B K b:=by
  unfold zdg at h
  split at h
  ·obtain⟨as',ts1,o1,h1,h⟩:=zaf h
   cases h
   obtain⟨s1,a1,a2⟩:=zpz (K:=K) hg hb hk h1
   exact⟨s1,by simp[zd7,za7,a1],a2,rfl,by simp⟩
  rename_i h1
  obtain⟨l,ts1,o1,h2,h⟩:=zaf h
  obtain⟨as',ts2,o2,h3,h⟩:=zaf h
  cases h
  obtain⟨s1,hl⟩:=zr0 h2
  have:=s1.length_le
  obtain⟨s2,a1,a2⟩:=zpz (K:=K) (zgZ s1 hg) (zgV s1 hb) (by omega) h3
  have hll:=zlJ hl
  refine⟨s2.trans s1,?_,a2,rfl,hll⟩
  have k2:¬ (1+(i:Int))=2:=by omega
  have k5:¬ (1+(i:Int))=5:=by omega
  have k1:1≤1+(i:Int):=by omega
  have k6:1+(i:Int)≤5:=by omega
  simp[zd7,za7,a1,hl,k2,k5,k1,k6]
theorem zpx (N:Nat):∀ (n:Nat) (acc:List Block) (ts:List Token),(∀ t ∈ ts,TkG t)→TkB B ts→ts.length≤K→∀ {res:List Block} {ts':List Token} {o:List Node},zbW zE N n acc ts=.ok res ts' o→ts' <:+ ts∧∃ new,res=acc++new∧new.length+ts'.length≤ts.length∧∀ b ∈ new,GB B K b
  | 0,_,_,_,_,_,_,_,_,h=>by rw[zbW] at h;cases h
  | n+1,acc,ts,hg,hb,hk,res,ts',o,h=>by
    rw[zbW] at h
    split at h
    ·rename_i hi
     obtain⟨t,r,rfl,_⟩:=zgN hi
     cases h
     exact⟨List.suffix_cons _ _,[],by simp,by simp,fun a ha=>by cases ha⟩
    obtain⟨b,ts1,o1,h1,h2⟩:=zaf h
    clear h
    cases ts with
    | nil=>cases h1
    | cons t ts =>
      rw[blkIn] at h1
      split at h1
      ·split at h1
       ·cases h1
       rename_i i hi
       split at h1
       ·cases h1
       rename_i h4
       have hlt:=zdU _ _ _ _ hi
       simp only[zaa,List.length_cons,List.length_nil] at hlt
       simp only[List.length_cons] at hk
       obtain⟨s1,g1⟩:=zn6 (K:=K) (by omega) (fun x hx=>hg x (by simp[hx])) (fun x hx=>hb x (by simp[hx])) (by omega) h1
       have hl:=s1.length_le
       have s1':=s1.trans (List.suffix_cons t ts)
       obtain⟨s2,new,rfl,h3,h5⟩:=zpx N n (acc++[b]) ts1 (zgZ s1' hg) (zgV s1' hb) (by omega) h2
       refine⟨s2.trans s1',b::new,by simp,by simp only[List.length_cons];omega,fun a ha=>?_⟩
       rcases List.mem_cons.1 ha with rfl | ha
       ·exact g1
       exact h5 a ha
      cases h1
structure GF (B K:Nat) (b:Block):Prop where
  may:zeb b=true
  attrs:GA B K b.Attrs
  len:b.Blocks.length≤K
  each:∀ x ∈ b.Blocks,GB B K x
  lab:b.Label.length≤24
theorem GB.gf {b:Block} (h:GB B K b):GF B K b:=by
  refine⟨?_,h.attrs,by rw[h.none];exact Nat.zero_le _,fun x hx=>(by rw[h.none] at hx;cases hx),h.lab⟩
  have:=h.may
  unfold zd7 at this
  unfold zeb
  split
  ·rename_i k5;rw[if_pos k5] at this;simp at this
  rename_i k5;rw[if_neg k5] at this;exact this
theorem zpC (N:Nat):∀ (n:Nat) (acc:List Block) (ts:List Token),(∀ t ∈ ts,TkG t)→TkB B ts→ts.length≤K→∀ {res:List Block} {ts':List Token} {o:List Node},zbL zE N n acc ts=.ok res ts' o→∃ new,res=acc++new∧new.length≤ts.length∧∀ b ∈ new,GF B K b
  | 0,_,_,_,_,_,_,_,_,h=>by rw[zbL] at h;cases h
  | n+1,acc,[],_,_,_,_,_,_,h=>by simp only[zbL] at h;cases h
  | n+1,acc,t::ts,hg,hb,hk,res,ts',o,h=>by
    rw[zbL] at h
    simp only[List.length_cons] at hk
    have hg1:∀ x ∈ ts,TkG x:=fun x hx=>hg x (by simp[hx])
    have hb1:TkB B ts:=fun x hx=>hb x (by simp[hx])
    split at h
    ·cases h
     exact⟨[],by simp,by simp,fun a ha=>by cases ha⟩
    obtain⟨b,ts1,o1,h1,h⟩:=zaf h
    have key:ts1 <:+ ts∧GF B K b:=by
      rw[zix] at h1
      split at h1
      ·split at h1
       ·cases h1
       rename_i i hi
       have hlt:=zdU _ _ _ _ hi
       simp only[zaa,List.length_cons,List.length_nil] at hlt
       split at h1
       ·obtain⟨l,ts2,o2,h2,h1⟩:=zaf h1
        obtain⟨u,r,rfl,hu,h1⟩:=zdC h1
        obtain⟨bs,ts3,o3,h3,h1⟩:=zaf h1
        cases h1
        obtain⟨s1,hl⟩:=zr0 h2
        have s1':r <:+ ts:=(List.suffix_cons _ _).trans s1
        have hle:=s1'.length_le
        obtain⟨s2,new,hn,h4,h5⟩:=zpx (K:=K) N N [] r (zgZ s1' hg1) (zgV s1' hb1) (by omega) h3
        rw[List.nil_append] at hn
        subst hn
        refine⟨s2.trans s1',?_,⟨Nat.zero_le _,fun a ha=>by cases ha⟩,by simp only;omega,h5,zlJ hl⟩
        have:bs.all zd7=true:=List.all_eq_true.2 fun x hx=>(h5 x hx).may
        simp[zeb,za7,hl,this]
       rename_i h4
       obtain⟨s1,g1⟩:=zn6 (K:=K) (by omega) hg1 hb1 (by omega) h1
       exact⟨s1,g1.gf⟩
      cases h1
    have s1':=key.1.trans (List.suffix_cons t ts)
    have hl:=key.1.length_le
    obtain⟨new,rfl,h3,h5⟩:=zpC N n (acc++[b]) ts1 (zgZ s1' hg) (zgV s1' hb) (by omega) h
    refine⟨b::new,by simp,by simp only[List.length_cons];omega,fun a ha=>?_⟩
    rcases List.mem_cons.1 ha with rfl | ha
    ·exact key.2
    exact h5 a ha
end
def zhu (f:Bool):List Part→Bool
 | []=>f
 | [p]=>!p.Ref
 | _::q::l=>zhu f (q::l)
theorem zge (f:Bool) (p:Part):∀ l:List Part,zhu f (p::l)=zhu (!p.Ref) l
 | []=>rfl
 | [q]=>rfl
 | q::r::l=>by
  have h1:=zge f q (r::l)
  have h2:=zge (!p.Ref) q (r::l)
  rw[zhu,h1,h2]
theorem zhb {s:List UInt8} (h:zU s=true):∀ (l:List Part) (f:Bool),zY f l=true→zY f (l++[Part.mk true s])=true
 | [],f,_=>by simp[zY,h]
 | p::l,f,hl=>by
  rw[List.cons_append,zY]
  rw[zY] at hl
  by_cases hr:p.Ref=true
  ·rw[if_pos hr] at hl ⊢
   simp only[Bool.and_eq_true] at hl ⊢
   exact⟨hl.1,zhb h l _ hl.2⟩
  rw[if_neg hr] at hl ⊢
  simp only[Bool.and_eq_true] at hl ⊢
  exact⟨hl.1,zhb h l _ hl.2⟩
theorem zhn {b:List UInt8} (hb:b≠[]) (hp:zbO b=true):∀ (l:List Part) (f:Bool),zY f l=true→zhu f l=false→zY f (l++[Part.mk false b])=true
 | [],f,_,he=>by
  rw[zhu] at he
  simp[zY,hb,hp,he]
 | p::l,f,hl,he=>by
  rw[List.cons_append,zY]
  rw[zY] at hl
  rw[zge] at he
  by_cases hr:p.Ref=true
  ·rw[if_pos hr] at hl ⊢
   simp only[Bool.and_eq_true] at hl ⊢
   exact⟨hl.1,zhn hb hp l _ hl.2 (by rw[hr] at he;exact he)⟩
  rw[if_neg hr] at hl ⊢
  simp only[Bool.and_eq_true] at hl ⊢
  refine⟨hl.1,zhn hb hp l _ hl.2 (by rw[show p.Ref=false by simpa using hr] at he;exact he)⟩
theorem zni {s:List UInt8}:∀ (l:List Part) (f:Bool),zhu f (l++[Part.mk true s])=false
 | [],f=>rfl
 | p::l,f=>by rw[List.cons_append,zge];exact zni l _
theorem znU {l:List Part} {b:List UInt8} (h1:zY false l=true) (h2:zhu false l=false) (h3:zbO b=true):zY false (zag l b)=true:=by
 unfold zag
 by_cases hb:b=[]
 ·rw[if_pos hb,List.append_nil];exact h1
 rw[if_neg hb];exact zhn hb h3 l false h1 h2
theorem ziw {b:List UInt8} {c:UInt8} (h:zbO b=true) (hc:zcN c=true):zbO (b++[c])=true:=by
 unfold zbO at *
 rw[List.all_append,h]
 simp[hc]
theorem zru {x y:UInt8} (h:zek x=some y):zcN y=true:=by
 unfold zek at h
 split at h
 ·rename_i hx
  obtain rfl:=Option.some.inj h
  rcases hx with rfl | rfl | rfl <;> decide
 split at h
 ·obtain rfl:=Option.some.inj h;decide
 cases h
theorem zqZ {t:List UInt8} (h:(zG t).2=true):zU (zG t).1=true:=by
 unfold zG at *
 simp only[Bool.and_eq_true] at h
 exact h.2
theorem zAS {t:List UInt8} {l:List Part} {b:List UInt8} {r:Option (List Part × Nat)} (h:Qx t l b r):zY false l=true→zhu false l=false→zbO b=true→∀ q,r=some q→zY false q.1=true:=by
 induction h with
 | nil | low | esc0 | escbad | refbad=>intro _ _ _ q hq;cases hq
 | shut t l b=>intro h1 h2 h3 q hq;obtain rfl:=Option.some.inj hq;exact znU h1 h2 h3
 | esc x y t l b r hx _ ih =>
  intro h1 h2 h3 q hq
  obtain⟨q0,h0,rfl⟩:=Option.map_eq_some_iff.1 hq
  exact ih h1 h2 (ziw h3 (zru hx)) q0 h0
 | ref t l b r hr _ ih =>
  intro h1 h2 h3 q hq
  obtain⟨q0,h0,rfl⟩:=Option.map_eq_some_iff.1 hq
  exact ih (zhb (zqZ hr) _ _ (znU h1 h2 h3)) (zni _ _) rfl q0 h0
 | plain c t l b r hc1 hc2 _ _ _ ih =>
  intro h1 h2 h3 q hq
  obtain⟨q0,h0,rfl⟩:=Option.map_eq_some_iff.1 hq
  exact ih h1 h2 (ziw h3 (by unfold zcN;rw[decide_eq_true hc2];rfl)) q0 h0
theorem zvz (p:UInt8→Bool):∀ l:List UInt8,(l.takeWhile p).takeWhile p=l.takeWhile p
 | []=>rfl
 | c::l=>by
  rw[List.takeWhile_cons]
  split
  ·rename_i h
   rw[List.takeWhile_cons,if_pos h,zvz p l]
  rfl
theorem zxb {c:UInt8} {u:List UInt8} (h:zz c=2) (hl:((c::u).takeWhile (inC [2,3])).length≤24):zab ((c::u).takeWhile (inC [2,3]))=true:=by
 have hi:inC [2,3] c=true:=by unfold inC;rw[h];decide
 have hc:(c::u).takeWhile (inC [2,3])=c::u.takeWhile (inC [2,3]):=by rw[List.takeWhile_cons,if_pos hi]
 refine decide_eq_true ⟨by rw[hc];simp,hl,?_⟩
 rw[hc,zk,if_pos h,zK,←hc,zvz]
theorem zzG {l:List UInt8} {r:Option (Token × Nat)} (h:Tok l r):∀ x n,r=some (x,n)→TkG x:=by
 cases h with
 | name c u h =>
  intro x n hx
  split at hx
  ·rename_i hl
   cases hx
   exact⟨fun _=>zxb h hl,fun e=>absurd e (by simp),fun e=>absurd e (by simp)⟩
  cases hx
 | num c u h =>
  intro x n hx
  unfold zfb at hx
  split at hx
  ·cases hx
   exact⟨fun e=>absurd e (by simp),fun _=>by simp only;omega,fun e=>absurd e (by simp)⟩
  cases hx
 | text u r h =>
  intro x n hx
  obtain⟨q,hq,e⟩:=Option.map_eq_some_iff.1 hx
  cases e
  exact⟨fun e=>absurd e (by simp),fun e=>absurd e (by simp),fun _=>zAS h rfl rfl rfl q hq⟩
 | sign c u h2 h3 h4 =>
  intro x n hx
  split at hx
  ·cases hx
  cases hx
  exact⟨fun e=>absurd e (by simp),fun e=>absurd e (by simp),fun e=>absurd e (by simp)⟩
theorem zAn {t:List UInt8} {p:Int} {r:Option (List Token)} (h:Lx t p r):∀ L,r=some L→∀ x ∈ L,TkG x:=by
 induction h with
 | nil p =>
  intro L hL x hx
  cases hL
  obtain rfl:=List.mem_singleton.1 hx
  exact⟨fun e=>absurd e (by simp),fun e=>absurd e (by simp),fun e=>absurd e (by simp)⟩
 | gap c t p r hc _ ih=>exact ih
 | remark t p r _ ih=>exact ih
 | bad=>intro L hL;cases hL
 | tok c t p x n r h1 h2 hk _ ih =>
  intro L hL y hy
  obtain⟨L0,h0,rfl⟩:=Option.map_eq_some_iff.1 hL
  rcases List.mem_cons.1 hy with rfl | hy
  ·have:=zzG hk x n rfl
   exact⟨this.1,this.2,this.3⟩
  exact ih L0 h0 y hy
end Go.Proofs.YtfbcnpbhhooapaaGreatDoor.M
namespace Go.Proofs.YtfbcnpbhhooapaaGreatDoor.M
open Go
def c_Q44_1:SC:=.seq (.reg [vO 4 (.mov (.c (.bool true)))]) .ret
def b_Q44_1:SC:=.seq (.seq (.reg [mO 11 5,mO 12 0,vO 13 (.len false (.t 12)),bO 14 .lss 11 13]) (.cond (.t 14) .skip (.exit 0))) (.seq (.block 1 (.seq (.dreg [mO 17 0,mO 18 5,vO 19 (.iaddr 1 (.t 17) (.t 18)),lO 20 19,mO 21 1,mO 22 5,vO 23 (.iaddr 1 (.t 21) (.t 22)),lO 24 23,bO 25 .neq 20 24] [false,false,false,false,false,false,false,false,true]) (.cond (.t 25) (.seq (.reg [vO 4 (.mov (.c (.bool false)))]) .ret) .skip))) (.reg [mO 15 5,bC 16 .add 15 1,mO 5 16]))
def c_Q44_2:SC:=.seq (.seq (.reg [mO 6 0,vO 7 (.len false (.t 6)),mO 8 1,vO 9 (.len false (.t 8)),bO 10 .neq 7 9]) (.cond (.t 10) (.seq (.reg [vO 4 (.mov (.c (.bool false)))]) .ret) .skip)) (.seq (.seq (.reg [vO 5 (.mov (cI 0))]) (.block 0 (.loop b_Q44_1))) c_Q44_1)
def sc_Q44:zh:=⟨2,26,.seq (.reg [vO 4 (.mov (.c (.bool false)))]) c_Q44_2,[(.t 4)]⟩
noncomputable def zo7 (SP:Prg) (x:EO):CO:=fin [(.t 4)] (thC SP (zx 0 (x)) c_Q44_1)
theorem zvx:type_of% (aI (ue c_Q44_1.eq_1)<|aI (ue b_Q44_1.eq_1)<|aI (ue c_Q44_2.eq_1)<|sc_Q44.eq_1):=aI (ue c_Q44_1.eq_1)<|aI (ue b_Q44_1.eq_1)<|aI (ue c_Q44_2.eq_1)<|sc_Q44.eq_1
theorem comp_Q44:comp Tryz.prog Tryz.f44=some sc_Q44:=by kernel_rfl
def c_Q21_1:SC:=.seq (.reg [vO 4 (.mov (.c (.bool true)))]) .ret
def c_Q21_2:SC:=.reg [mO 17 5,bC 18 .add 17 1,mO 5 18]
def c_Q21_3:SC:=.cond (.t 61) (.seq (.reg [vO 4 (.mov (.c (.bool false)))]) .ret) .skip
def c_Q21_4:SC:=.seq (.reg [fO 27 0 6,lO 28 27,fO 29 0 7,lO 30 29,bO 31 .neq 28 30,mO 32 31,gO 33 32 false (.faddr 1 (.t 6)),gO 34 32 false (.load none (.t 33)),gO 35 32 false (.faddr 1 (.t 7)),gO 36 32 false (.load none (.t 35)),gO 37 32 false (.bin .neq (.t 34) (.t 36)),vO 38 (.pick (.t 32) (.c (.bool true)) (.t 37)),mO 39 38,gO 40 39 false (.faddr 2 (.t 6)),gO 41 39 false (.load none (.t 40)),gO 42 39 false (.faddr 2 (.t 7)),gO 43 39 false (.load none (.t 42)),gO 44 39 false (.bin .neq (.t 41) (.t 43)),vO 45 (.pick (.t 39) (.c (.bool true)) (.t 44)),mO 46 45,gO 47 46 false (.faddr 3 (.t 6)),gO 48 46 false (.load none (.t 47)),gO 49 46 false (.faddr 3 (.t 7)),gO 50 46 false (.load none (.t 49)),⟨some 51,some (46,false),.call (.c (.func 43 [])) [(.t 48),(.t 50)]⟩,gO 52 46 false (.un .not (.t 51)),vO 53 (.pick (.t 46) (.c (.bool true)) (.t 52)),mO 54 53,gO 55 54 false (.faddr 4 (.t 6)),gO 56 54 false (.load none (.t 55)),gO 57 54 false (.faddr 4 (.t 7)),gO 58 54 false (.load none (.t 57)),⟨some 59,some (54,false),.call (.c (.func 44 [])) [(.t 56),(.t 58)]⟩,gO 60 54 false (.un .not (.t 59)),vO 61 (.pick (.t 54) (.c (.bool true)) (.t 60))]) c_Q21_3
def c_Q21_5:SC:=.seq (.block 1 (.seq (.sreg [0,5,1] [mO 19 0,mO 20 5,⟨some 21,none,.w (.iaddr 5 (.t 19) (.t 20))⟩,⟨some 22,none,.w (.load (some 5) (.t 21))⟩,mO 23 1,mO 24 5,⟨some 25,none,.w (.iaddr 5 (.t 23) (.t 24))⟩,⟨some 26,none,.w (.load (some 5) (.t 25))⟩,⟨some 6,none,.alloc [(.int .i64 0),(.int .i64 0),(.str []),(.nils 2),(.nils 1)]⟩,⟨some 7,none,.alloc [(.int .i64 0),(.int .i64 0),(.str []),(.nils 2),(.nils 1)]⟩,sO 5 6 22,sO 5 7 26] [false,false,false,false,false,false,false,false,false,false,true,true]) c_Q21_4)) c_Q21_2
def b_Q21_1:SC:=.seq (.seq (.reg [mO 13 5,mO 14 0,vO 15 (.len false (.t 14)),bO 16 .lss 13 15]) (.cond (.t 16) .skip (.exit 0))) c_Q21_5
def c_Q21_6:SC:=.block 0 (.loop b_Q21_1)
def c_Q21_7:SC:=.seq (.seq (.reg [vO 5 (.mov (cI 0))]) c_Q21_6) c_Q21_1
def c_Q21_8:SC:=.seq (.seq (.reg [mO 8 0,vO 9 (.len false (.t 8)),mO 10 1,vO 11 (.len false (.t 10)),bO 12 .neq 9 11]) (.cond (.t 12) (.seq (.reg [vO 4 (.mov (.c (.bool false)))]) .ret) .skip)) c_Q21_7
def sc_Q21:zh:=⟨2,62,.seq (.reg [vO 4 (.mov (.c (.bool false)))]) c_Q21_8,[(.t 4)]⟩
noncomputable def zps (SP:Prg) (x:EO):CO:=fin [(.t 4)] (thC SP (zx 0 (x)) c_Q21_1)
theorem zvm:type_of% (aI (ue c_Q21_1.eq_1)<|aI (ue c_Q21_2.eq_1)<|aI (ue c_Q21_3.eq_1)<|aI (ue c_Q21_4.eq_1)<|aI (ue c_Q21_5.eq_1)<|aI (ue b_Q21_1.eq_1)<|aI (ue c_Q21_6.eq_1)<|aI (ue c_Q21_7.eq_1)<|aI (ue c_Q21_8.eq_1)<|sc_Q21.eq_1):=aI (ue c_Q21_1.eq_1)<|aI (ue c_Q21_2.eq_1)<|aI (ue c_Q21_3.eq_1)<|aI (ue c_Q21_4.eq_1)<|aI (ue c_Q21_5.eq_1)<|aI (ue b_Q21_1.eq_1)<|aI (ue c_Q21_6.eq_1)<|aI (ue c_Q21_7.eq_1)<|aI (ue c_Q21_8.eq_1)<|sc_Q21.eq_1
theorem comp_Q21:comp Tryz.prog Tryz.f21=some sc_Q21:=by kernel_rfl
def c_Q19_1:SC:=.seq (.reg [vO 4 (.mov (.c (.bool true)))]) .ret
def c_Q19_2:SC:=.reg [mO 16 5,bC 17 .add 16 1,mO 5 17]
def c_Q19_3:SC:=.reg [mO 79 6,bC 80 .add 79 1,mO 6 80]
def c_Q19_4:SC:=.cond (.t 121) (.seq (.reg [vO 4 (.mov (.c (.bool false)))]) .ret) .skip
def c_Q19_5:SC:=.seq (.block 3 (.seq (.dreg [mO 81 0,mO 82 5,vO 83 (.iaddr 4 (.t 81) (.t 82)),fO 84 2 83,lO 85 84,mO 86 6,vO 87 (.iaddr 2 (.t 85) (.t 86)),fO 88 0 87,lO 89 88,mO 90 1,mO 91 5,vO 92 (.iaddr 4 (.t 90) (.t 91)),fO 93 2 92,lO 94 93,mO 95 6,vO 96 (.iaddr 2 (.t 94) (.t 95)),fO 97 0 96,lO 98 97,bO 99 .neq 89 98,mO 100 99,gO 101 100 false (.mov (.t 0)),gO 102 100 false (.mov (.t 5)),gO 103 100 false (.iaddr 4 (.t 101) (.t 102)),gO 104 100 false (.faddr 2 (.t 103)),gO 105 100 false (.load none (.t 104)),gO 106 100 false (.mov (.t 6)),gO 107 100 false (.iaddr 2 (.t 105) (.t 106)),gO 108 100 false (.faddr 1 (.t 107)),gO 109 100 false (.load none (.t 108)),gO 110 100 false (.mov (.t 1)),gO 111 100 false (.mov (.t 5)),gO 112 100 false (.iaddr 4 (.t 110) (.t 111)),gO 113 100 false (.faddr 2 (.t 112)),gO 114 100 false (.load none (.t 113)),gO 115 100 false (.mov (.t 6)),gO 116 100 false (.iaddr 2 (.t 114) (.t 115)),gO 117 100 false (.faddr 1 (.t 116)),gO 118 100 false (.load none (.t 117)),⟨some 119,some (100,false),.call (.c (.func 21 [])) [(.t 109),(.t 118)]⟩,gO 120 100 false (.un .not (.t 119)),vO 121 (.pick (.t 100) (.c (.bool true)) (.t 120))] [false,false,false,false,false,false,false,false,false,false,false,false,false,false,false,false,false,false,true,true,false,false,false,false,false,false,false,false,false,false,false,false,false,false,false,false,false,false,true,true,true]) c_Q19_4)) c_Q19_3
def b_Q19_2:SC:=.seq (.seq (.reg [mO 71 6,mO 72 0,mO 73 5,vO 74 (.iaddr 4 (.t 72) (.t 73)),fO 75 2 74,lO 76 75,vO 77 (.len false (.t 76)),bO 78 .lss 71 77]) (.cond (.t 78) .skip (.exit 2))) c_Q19_5
def c_Q19_6:SC:=.block 2 (.loop b_Q19_2)
def c_Q19_7:SC:=.seq (.reg [vO 6 (.mov (cI 0))]) c_Q19_6
def c_Q19_8:SC:=.cond (.t 70) (.seq (.reg [vO 4 (.mov (.c (.bool false)))]) .ret) .skip
def c_Q19_9:SC:=.seq (.block 1 (.seq (.seq (.dreg [mO 18 0,mO 19 5,vO 20 (.iaddr 4 (.t 18) (.t 19)),fO 21 0 20,lO 22 21,mO 23 1,mO 24 5,vO 25 (.iaddr 4 (.t 23) (.t 24)),fO 26 0 25,lO 27 26,bO 28 .neq 22 27,mO 29 28,gO 30 29 false (.mov (.t 0)),gO 31 29 false (.mov (.t 5)),gO 32 29 false (.iaddr 4 (.t 30) (.t 31)),gO 33 29 false (.faddr 1 (.t 32)),gO 34 29 false (.load none (.t 33)),gO 35 29 false (.mov (.t 1)),gO 36 29 false (.mov (.t 5)),gO 37 29 false (.iaddr 4 (.t 35) (.t 36)),gO 38 29 false (.faddr 1 (.t 37)),gO 39 29 false (.load none (.t 38)),gO 40 29 false (.bin .neq (.t 34) (.t 39)),vO 41 (.pick (.t 29) (.c (.bool true)) (.t 40)),mO 42 41,gO 43 42 false (.mov (.t 0)),gO 44 42 false (.mov (.t 5)),gO 45 42 false (.iaddr 4 (.t 43) (.t 44)),gO 46 42 false (.faddr 2 (.t 45)),gO 47 42 false (.load none (.t 46)),gO 48 42 false (.len false (.t 47)),gO 49 42 false (.mov (.t 1)),gO 50 42 false (.mov (.t 5)),gO 51 42 false (.iaddr 4 (.t 49) (.t 50)),gO 52 42 false (.faddr 2 (.t 51)),gO 53 42 false (.load none (.t 52)),gO 54 42 false (.len false (.t 53)),gO 55 42 false (.bin .neq (.t 48) (.t 54)),vO 56 (.pick (.t 42) (.c (.bool true)) (.t 55)),mO 57 56,gO 58 57 false (.mov (.t 0)),gO 59 57 false (.mov (.t 5)),gO 60 57 false (.iaddr 4 (.t 58) (.t 59)),gO 61 57 false (.faddr 3 (.t 60)),gO 62 57 false (.load none (.t 61)),gO 63 57 false (.mov (.t 1)),gO 64 57 false (.mov (.t 5)),gO 65 57 false (.iaddr 4 (.t 63) (.t 64)),gO 66 57 false (.faddr 3 (.t 65)),gO 67 57 false (.load none (.t 66)),⟨some 68,some (57,false),.call (.c (.func 19 [])) [(.t 62),(.t 67)]⟩,gO 69 57 false (.un .not (.t 68)),vO 70 (.pick (.t 57) (.c (.bool true)) (.t 69))] [false,false,false,false,false,false,false,false,false,false,true,true,false,false,false,false,false,false,false,false,false,false,true,true,true,false,false,false,false,false,false,false,false,false,false,false,false,true,true,true,false,false,false,false,false,false,false,false,false,false,true,true,true]) c_Q19_8) c_Q19_7)) c_Q19_2
def b_Q19_1:SC:=.seq (.seq (.reg [mO 12 5,mO 13 0,vO 14 (.len false (.t 13)),bO 15 .lss 12 14]) (.cond (.t 15) .skip (.exit 0))) c_Q19_9
def c_Q19_10:SC:=.block 0 (.loop b_Q19_1)
def c_Q19_11:SC:=.seq (.seq (.reg [vO 5 (.mov (cI 0))]) c_Q19_10) c_Q19_1
def c_Q19_12:SC:=.seq (.seq (.reg [mO 7 0,vO 8 (.len false (.t 7)),mO 9 1,vO 10 (.len false (.t 9)),bO 11 .neq 8 10]) (.cond (.t 11) (.seq (.reg [vO 4 (.mov (.c (.bool false)))]) .ret) .skip)) c_Q19_11
def sc_Q19:zh:=⟨2,122,.seq (.reg [vO 4 (.mov (.c (.bool false)))]) c_Q19_12,[(.t 4)]⟩
noncomputable def zpK (SP:Prg) (x:EO):CO:=fin [(.t 4)] (thC SP (zx 0 (thC SP (thC SP (zx 1 (zx 2 (x))) c_Q19_2) (.loop b_Q19_1))) c_Q19_1)
noncomputable def zpJ (SP:Prg) (x:EO):CO:=fin [(.t 4)] (thC SP (zx 0 (x)) c_Q19_1)
theorem zqw:type_of% (aI (ue c_Q19_1.eq_1)<|aI (ue c_Q19_2.eq_1)<|aI (ue c_Q19_3.eq_1)<|aI (ue c_Q19_4.eq_1)<|aI (ue c_Q19_5.eq_1)<|aI (ue b_Q19_2.eq_1)<|aI (ue c_Q19_6.eq_1)<|aI (ue c_Q19_7.eq_1)<|aI (ue c_Q19_8.eq_1)<|aI (ue c_Q19_9.eq_1)<|aI (ue b_Q19_1.eq_1)<|aI (ue c_Q19_10.eq_1)<|aI (ue c_Q19_11.eq_1)<|aI (ue c_Q19_12.eq_1)<|sc_Q19.eq_1):=aI (ue c_Q19_1.eq_1)<|aI (ue c_Q19_2.eq_1)<|aI (ue c_Q19_3.eq_1)<|aI (ue c_Q19_4.eq_1)<|aI (ue c_Q19_5.eq_1)<|aI (ue b_Q19_2.eq_1)<|aI (ue c_Q19_6.eq_1)<|aI (ue c_Q19_7.eq_1)<|aI (ue c_Q19_8.eq_1)<|aI (ue c_Q19_9.eq_1)<|aI (ue b_Q19_1.eq_1)<|aI (ue c_Q19_10.eq_1)<|aI (ue c_Q19_11.eq_1)<|aI (ue c_Q19_12.eq_1)<|sc_Q19.eq_1
theorem comp_Q19:comp Tryz.prog Tryz.f19=some sc_Q19:=by kernel_rfl
end Go.Proofs.YtfbcnpbhhooapaaGreatDoor.M
namespace Go.Proofs.YtfbcnpbhhooapaaGreatDoor.M
open Go Classical
theorem zx1:SP 44=some (.code sc_Q44):=ze rfl Tryz.func44 comp_Q44
def zhG (a:List Int) (b:List Int) (i1:Int) (r:Bool):Prop:=∀ (S:Sto) (e:Nat→PV) (f:Fr),e 0=.list 1 (a.map eI) false∧e 1=.list 1 (b.map eI) false∧e 5=.int .i64 i1→zo7 SP (E SP (.loop b_Q44_1) ⟨e,f::S⟩)=.ok (.v (.bool r)) S
theorem zhO (a:List Int) (b:List Int) (i1:Int) (r:Bool) (T :
  ((i1 < (a.length:Int)) →
  (0≤i1) ∧
  ∃ (v2:Int),(a[i1.toNat]?=some v2) ∧
  (0≤i1) ∧
  ∃ (v3:Int),(b[i1.toNat]?=some v3) ∧
  ((v2=v3) →
   (I64 (i1+1)) ∧
   zhG a b (i1+1) r) ∧
  (¬ (v2=v3) →
   false=r)) ∧
 (¬ (i1 < (a.length:Int)) →
  true=r)):zhG a b i1 r:=by
 intro S e f h
 unfold zo7
 rw[zm]
 have F:=zvx
 exact rn (aa h<|F) T
theorem zuH (a:List Int) (b:List Int) (r:Bool) (T :
  (((a.length:Int)=(b.length:Int)) →
  zhG a b 0 r) ∧
 (¬ ((a.length:Int)=(b.length:Int)) →
  false=r)):zqt a b r:=by
 intro S
 rw[zd zx1 _ _ rfl]
 have F:=zvx
 exact rn F T
theorem zyw:SP 21=some (.code sc_Q21):=ze rfl Tryz.func21 comp_Q21
def zhg (a:List Node) (b:List Node) (i1:Int) (r:Bool):Prop:=∀ (S:Sto) (e:Nat→PV) (f:Fr),e 0=.list 5 (a.map eNode) false∧e 1=.list 5 (b.map eNode) false∧e 5=.int .i64 i1→zps SP (E SP (.loop b_Q21_1) ⟨e,f::S⟩)=.ok (.v (.bool r)) S
theorem zhJ (a:List Node) (b:List Node) (i1:Int) (r:Bool) (T :
  ((i1 < (a.length:Int)) →
  (0≤i1) ∧
  ∃ (v2:Node),(a[i1.toNat]?=some v2) ∧
  (0≤i1) ∧
  ∃ (v3:Node),(b[i1.toNat]?=some v3) ∧
  ((v2.Kind=v3.Kind) →
   ((v2.Num=v3.Num) →
    ((v2.Text=v3.Text) →
     ∃ (r4:Bool),(zqa v2.Parts v3.Parts r4) ∧
     ((r4=true) →
      ∃ (r5:Bool),(zqt v2.Kids v3.Kids r5) ∧
      ((r5=true) →
       (I64 (i1+1)) ∧
       zhg a b (i1+1) r) ∧
      (¬ (r5=true) →
       false=r)) ∧
     (¬ (r4=true) →
      false=r)) ∧
    (¬ (v2.Text=v3.Text) →
     false=r)) ∧
   (¬ (v2.Num=v3.Num) →
    false=r)) ∧
  (¬ (v2.Kind=v3.Kind) →
   false=r)) ∧
 (¬ (i1 < (a.length:Int)) →
  true=r)):zhg a b i1 r:=by
 intro S e f h
 unfold zps
 rw[zm]
 have F:=zvm
 exact rn (aa h<|F) T
theorem zt5 (a:List Node) (b:List Node) (r:Bool) (T :
  (((a.length:Int)=(b.length:Int)) →
  zhg a b 0 r) ∧
 (¬ ((a.length:Int)=(b.length:Int)) →
  false=r)):zfd a b r:=by
 intro S
 rw[zd zyw _ _ rfl]
 have F:=zvm
 exact rn F T
theorem zzp:SP 19=some (.code sc_Q19):=ze rfl Tryz.func19 comp_Q19
def zhr (a:List Block) (b:List Block) (i1:Int) (r:Bool):Prop:=∀ (S:Sto) (e:Nat→PV) (f:Fr),e 0=.list 4 (a.map zF) false∧e 1=.list 4 (b.map zF) false∧e 5=.int .i64 i1→zpJ SP (E SP (.loop b_Q19_1) ⟨e,f::S⟩)=.ok (.v (.bool r)) S
def zhs (a:List Block) (b:List Block) (i1:Int) (i5:Int) (r:Bool):Prop:=∀ (S:Sto) (e:Nat→PV) (f:Fr),e 0=.list 4 (a.map zF) false∧e 1=.list 4 (b.map zF) false∧e 5=.int .i64 i1∧e 6=.int .i64 i5→zpK SP (E SP (.loop b_Q19_2) ⟨e,f::S⟩)=.ok (.v (.bool r)) S
theorem zhS (a:List Block) (b:List Block) (i1:Int) (r:Bool) (T :
  ((i1 < (a.length:Int)) →
  (0≤i1) ∧
  ∃ (v2:Block),(a[i1.toNat]?=some v2) ∧
  (0≤i1) ∧
  ∃ (v3:Block),(b[i1.toNat]?=some v3) ∧
  ((v2.Kind=v3.Kind) →
   ((v2.Label=v3.Label) →
    (((v2.Attrs.length:Int)=(v3.Attrs.length:Int)) →
     ∃ (r4:Bool),(zdv v2.Blocks v3.Blocks r4) ∧
     ((r4=true) →
      zhs a b i1 0 r) ∧
     (¬ (r4=true) →
      false=r)) ∧
    (¬ ((v2.Attrs.length:Int)=(v3.Attrs.length:Int)) →
     false=r)) ∧
   (¬ (v2.Label=v3.Label) →
    false=r)) ∧
  (¬ (v2.Kind=v3.Kind) →
   false=r)) ∧
 (¬ (i1 < (a.length:Int)) →
  true=r)):zhr a b i1 r:=by
 intro S e f h
 unfold zpJ
 rw[zm]
 have F:=zqw
 exact rn (aa h<|F) T
theorem zhT (a:List Block) (b:List Block) (i1:Int) (i5:Int) (r:Bool) (T :
  (0≤i1) ∧
 ∃ (v6:Block),(a[i1.toNat]?=some v6) ∧
 ((i5 < (v6.Attrs.length:Int)) →
  (0≤i5) ∧
  ∃ (v7:Attr),(v6.Attrs[i5.toNat]?=some v7) ∧
  (0≤i1) ∧
  ∃ (v8:Block),(b[i1.toNat]?=some v8) ∧
  (0≤i5) ∧
  ∃ (v9:Attr),(v8.Attrs[i5.toNat]?=some v9) ∧
  ((v7.Name=v9.Name) →
   ∃ (r10:Bool),(zfd v7.Expr v9.Expr r10) ∧
   ((r10=true) →
    (I64 (i5+1)) ∧
    zhs a b i1 (i5+1) r) ∧
   (¬ (r10=true) →
    false=r)) ∧
  (¬ (v7.Name=v9.Name) →
   false=r)) ∧
 (¬ (i5 < (v6.Attrs.length:Int)) →
  (I64 (i1+1)) ∧
  zhr a b (i1+1) r)):zhs a b i1 i5 r:=by
 intro S e f h
 unfold zpK
 rw[zm]
 have F:=zqw
 exact rn (aa h<|F) T
theorem ztk (a:List Block) (b:List Block) (r:Bool) (T :
  (((a.length:Int)=(b.length:Int)) →
  zhr a b 0 r) ∧
 (¬ ((a.length:Int)=(b.length:Int)) →
  false=r)):zdv a b r:=by
 intro S
 rw[zd zzp _ _ rfl]
 have F:=zqw
 exact rn F T
end Go.Proofs.YtfbcnpbhhooapaaGreatDoor.M
namespace Go.Proofs.YtfbcnpbhhooapaaGreatDoor.M
open Go Classical
def Gt (K:Nat) (ts:List Token):Prop:=ts.length≤K∧∀ t ∈ ts,t.Parts.length≤K
def Gn (K:Nat) (out:List Node):Prop:=∀ n ∈ out,n.Kids.length≤K∧n.Parts.length≤K
theorem Gt.tail {K:Nat} {ts:List Token} (h:Gt K ts):Gt K ts.tail:=⟨by have:=h.1;simp;omega,fun t ht=>h.2 t (List.mem_of_mem_tail ht)⟩
theorem Gn.snoc {K:Nat} {out:List Node} (h:Gn K out) {n:Node} (h1:n.Kids.length≤K) (h2:n.Parts.length≤K):Gn K (out++[n]):=by
 intro m hm
 rcases List.mem_append.1 hm with hm | hm
 ·exact h m hm
 rw[List.mem_singleton] at hm
 subst hm
 exact⟨h1,h2⟩
structure Pq (K:Nat) (lt lm:Nat) (ts:List Token) (out:List Node):Prop where
 len:ts.length≤lt
 sum:ts.length+out.length≤lm
 toks:Gt K ts
 nodes:Gn K out
def Po {α:Type} (K:Nat) (lt lm:Nat) (S:α→Nat→Prop) (p:PR α):Prop:=∀ a ts out,p=.ok a ts out→Pq K lt lm ts out∧S a ts.length
section
variable {K lt lm lt' lm':Nat} {α β:Type}
theorem Po.er {S:α→Nat→Prop} {e:Int}:Po K lt lm S (.er e:PR α):=fun _ _ _ h=>by cases h
theorem Po.no {S:α→Nat→Prop}:Po K lt lm S (.no:PR α):=fun _ _ _ h=>by cases h
theorem Po.ok {S:α→Nat→Prop} {a:α} {ts:List Token} {out:List Node} (h:Pq K lt lm ts out) (hs:S a ts.length):Po K lt lm S (.ok a ts out):=fun _ _ _ e=>by cases e;exact⟨h,hs⟩
theorem Po.bind {S:α→Nat→Prop} {S':β→Nat→Prop} {p:PR α} {f:α→List Token→List Node→PR β} (hp:Po K lt lm S p) (hf:∀ a ts out,Pq K lt lm ts out→S a ts.length→Po K lt' lm' S' (f a ts out)):Po K lt' lm' S' (p.bind f):=by
 cases p with
 | ok a ts out=>obtain⟨h1,h2⟩:=hp a ts out rfl;exact hf a ts out h1 h2
 | er e=>exact Po.er
 | no=>exact Po.no
theorem Po.ite {S:α→Nat→Prop} {c:Prop} [Decidable c] {p q:PR α} (h1:c→Po K lt lm S p) (h2:¬ c→Po K lt lm S q):Po K lt lm S (if c then p else q):=by
 split
 ·exact h1 ‹_›
 exact h2 ‹_›
theorem Po.mono {S S':α→Nat→Prop} {p:PR α} (h:Po K lt lm S p) (h1:lt≤lt') (h2:lm≤lm') (hS:∀ a n,n≤lt→S a n→S' a n):Po K lt' lm' S' p:=fun a ts out e=>by
 obtain⟨q,s⟩:=h a ts out e
 exact⟨⟨Nat.le_trans q.len h1,Nat.le_trans q.sum h2,q.toks,q.nodes⟩,hS _ _ q.len s⟩
theorem Pq.shift {ts:List Token} {out:List Node} (h:Pq K lt lm ts out) {s:List UInt8} (hi:isS s ts=true):1≤lt∧1≤lm∧Pq K (lt - 1) (lm - 1) ts.tail out:=by
 cases ts with
 | nil=>cases hi
 | cons t ts =>
  have h1:=h.len
  have h2:=h.sum
  simp only[List.length_cons] at h1 h2
  exact⟨by omega,by omega,by simp only[List.tail_cons];omega,by simp only[List.tail_cons];omega,h.toks.tail,h.nodes⟩
theorem Po.need {S:α→Nat→Prop} {s:List UInt8} {ts:List Token} {out:List Node} {k:List Token→PR α} (h:Pq K lt lm ts out) (hk:∀ ts,1≤lt→1≤lm→Pq K (lt - 1) (lm - 1) ts out→Po K lt' lm' S (k ts)):Po K lt' lm' S (zah s ts k) :=
 Po.ite (fun hi=>by obtain⟨h1,h2,h3⟩:=h.shift hi;exact hk _ h1 h2 h3) fun _=>Po.er
theorem Po.opn {S:α→Nat→Prop} {s:List UInt8} {d:Nat} {ts:List Token} {out:List Node} {k:List Token→PR α} (h:Pq K lt lm ts out) (hk:∀ ts,1≤lt→1≤lm→Pq K (lt - 1) (lm - 1) ts out→Po K lt' lm' S (k ts)):Po K lt' lm' S (zaq s d ts k) :=
 Po.ite (fun hi=>Po.ite (fun _=>Po.er) fun _=>by obtain⟨h1,h2,h3⟩:=h.shift hi;exact hk _ h1 h2 h3) fun _=>Po.er
theorem Pq.snoc {ts:List Token} {out:List Node} (h:Pq K lt lm ts out) {n:Node} (h1:n.Kids.length≤K) (h2:n.Parts.length≤K):Pq K lt (lm+1) ts (out++[n]):=⟨h.len,by have:=h.sum;simp;omega,h.toks,h.nodes.snoc h1 h2⟩
theorem Pq.mono {ts:List Token} {out:List Node} (h:Pq K lt lm ts out) (h1:lt≤lt') (h2:lm≤lm'):Pq K lt' lm' ts out:=⟨Nat.le_trans h.len h1,Nat.le_trans h.sum h2,h.toks,h.nodes⟩
end
theorem zjV (a:List Part) (h:a.length≤1000000):zqa a a true:=by
 have loop:∀ (m i:Nat),i+m=a.length→zg3 a a i true:=by
  intro m
  induction m with
  | zero =>
   intro i hi
   apply zhK
   exact⟨fun h=>by omega,fun _=>rfl⟩
  | succ m ih =>
   intro i hi
   have hg:a[((i:Nat):Int).toNat]?=some a[i]:=by rw[Int.toNat_natCast];exact List.getElem?_eq_getElem (by omega)
   apply zhK
   exact⟨fun _=>⟨by omega,_,hg,by omega,_,hg,fun _=>⟨⟨by omega,by omega⟩,ih (i+1) (by omega)⟩,fun h=>absurd ⟨rfl,rfl⟩ h⟩,fun h=>by omega⟩
 apply zuF
 exact⟨fun _=>loop a.length 0 (by omega),fun h=>absurd rfl h⟩
theorem zzd {t:List UInt8} {l:List Part} {b:List UInt8} {r:Option (List Part × Nat)} (h:Qx t l b r):∀ q,r=some q→q.1.length≤l.length+1+2*t.length:=by
 induction h with
 | nil | low | esc0 | escbad | refbad=>intro q hq;cases hq
 | shut t l b=>intro q hq;obtain rfl:=Option.some.inj hq;have:=zf2 l b;simp only;omega
 | esc x y t l b r hx _ ih =>
  intro q hq
  obtain⟨q0,h0,rfl⟩:=Option.map_eq_some_iff.1 hq
  have:=ih q0 h0
  simp only[List.length_cons]
  omega
 | ref t l b r hr _ ih =>
  intro q hq
  obtain⟨q0,h0,rfl⟩:=Option.map_eq_some_iff.1 hq
  have:=ih q0 h0
  have h1:=zfC hr
  have:=zf2 l b
  simp only[List.length_cons,List.length_drop,List.length_append,List.length_nil] at *
  omega
 | plain c t l b r c1 c2 c3 c4 _ ih =>
  intro q hq
  obtain⟨q0,h0,rfl⟩:=Option.map_eq_some_iff.1 hq
  have:=ih q0 h0
  simp only[List.length_cons]
  omega
theorem zsi {t:List UInt8} {r:Option (Token × Nat)} (h:Tok t r):∀ q,r=some q→q.1.Parts.length≤2*t.length:=by
 cases h with
 | name c u h =>
  intro q hq
  split at hq
  ·obtain rfl:=Option.some.inj hq;simp
  cases hq
 | num c u h =>
  intro q hq
  unfold zfb at hq
  split at hq
  ·obtain rfl:=Option.some.inj hq;simp
  cases hq
 | text u r h =>
  intro q hq
  obtain⟨q0,h0,rfl⟩:=Option.map_eq_some_iff.1 hq
  have:=zzd h q0 h0
  simp only[List.length_cons,List.length_nil] at this ⊢
  omega
 | sign c u h2 h3 h4 =>
  intro q hq
  split at hq
  ·cases hq
  obtain rfl:=Option.some.inj hq;simp
theorem zxC {t:List UInt8} {p:Int} {r:Option (List Token)} (h:Lx t p r):(zfD r).length≤t.length+1∧∀ x ∈ zfD r,x.Parts.length≤2*t.length:=by
 induction h with
 | nil p=>simp[zfD]
 | gap c t p r hc _ ih =>
  refine⟨by simp only[List.length_cons];omega,fun x hx=>?_⟩
  have:=ih.2 x hx
  simp only[List.length_cons]
  omega
 | remark t p r _ ih =>
  have hdl:(t.dropWhile (· != 10)).length=t.length - (t.takeWhile (· != 10)).length:=by rw[←za3,List.length_drop]
  refine⟨by simp only[List.length_cons];omega,fun x hx=>?_⟩
  have:=ih.2 x hx
  simp only[List.length_cons]
  omega
 | bad c t p c1 c2 hk=>simp[zfD]
 | tok c t p x n r c1 c2 hk _ ih =>
  have hn:=zgO hk _ rfl
  have hp:=zsi hk _ rfl
  simp only[List.length_drop] at ih
  simp only at hn hp
  cases r with
  | none=>simp[zfD]
  | some l =>
   simp only[zfD,Option.map_some,List.length_cons] at ih hn hp ⊢
   refine⟨by omega,fun y hy=>?_⟩
   rcases List.mem_cons.1 hy with rfl | hy
   ·exact hp
   have:=ih.2 y hy
   omega
theorem zoL (a:List Int) (h:a.length≤1000000):zqt a a true:=by
 have loop:∀ (m i:Nat),i+m=a.length→zhG a a i true:=by
  intro m
  induction m with
  | zero =>
   intro i hi
   apply zhO
   exact⟨fun h=>by omega,fun _=>rfl⟩
  | succ m ih =>
   intro i hi
   have hg:a[((i:Nat):Int).toNat]?=some a[i]:=by rw[Int.toNat_natCast];exact List.getElem?_eq_getElem (by omega)
   apply zhO
   exact⟨fun _=>⟨by omega,_,hg,by omega,_,hg,fun _=>⟨⟨by omega,by omega⟩,ih (i+1) (by omega)⟩,fun h=>absurd rfl h⟩,fun h=>by omega⟩
 apply zuH
 exact⟨fun _=>loop a.length 0 (by omega),fun h=>absurd rfl h⟩
theorem zdF (a:List Node) (h:a.length≤1000000) (hp:Gn 1000000 a):zfd a a true:=by
 have loop:∀ (m i:Nat),i+m=a.length→zhg a a i true:=by
  intro m
  induction m with
  | zero =>
   intro i hi
   apply zhJ
   exact⟨fun h=>by omega,fun _=>rfl⟩
  | succ m ih =>
   intro i hi
   have hg:a[((i:Nat):Int).toNat]?=some a[i]:=by rw[Int.toNat_natCast];exact List.getElem?_eq_getElem (by omega)
   obtain⟨h1,h2⟩:=hp _ (List.getElem_mem (l:=a) (n:=i) (by omega))
   have hs:=zjV a[i].Parts h2
   have hk:=zoL a[i].Kids h1
   apply zhJ
   exact⟨fun _=>⟨by omega,_,hg,by omega,_,hg,fun _=>⟨fun _=>⟨fun _=>⟨_,hs,fun _=>⟨_,hk,fun _=>⟨⟨by omega,by omega⟩,ih (i+1) (by omega)⟩,fun h=>absurd rfl h⟩,fun h=>absurd rfl h⟩,fun h=>absurd rfl h⟩,fun h=>absurd rfl h⟩,fun h=>absurd rfl h⟩,fun h=>by omega⟩
 apply zt5
 exact⟨fun _=>loop a.length 0 (by omega),fun h=>absurd rfl h⟩
end Go.Proofs.YtfbcnpbhhooapaaGreatDoor.M
namespace Go.Proofs.YtfbcnpbhhooapaaGreatDoor.M
open Go
def c_Q11_1:SC:=.seq (.dreg [mO 32 3,fO 33 0 5,lO 34 33,kO 35 19 [(.t 32),(.t 34)],mO 36 35,gO 37 36 true (.mov (.t 4)),⟨some 38,some (36,true),.call (.c (.func 18 [])) [(.t 37)]⟩,gO 39 36 true (.faddr 1 (.t 5)),gO 40 36 true (.load none (.t 39)),gO 41 36 true (.bin .eql (.t 38) (.t 40)),vO 42 (.pick (.t 36) (.t 41) (.c (.bool false))),mO 43 42,gO 44 43 true (.mov (.t 6)),gO 45 43 true (.faddr 0 (.t 8)),gO 46 43 true (.load none (.t 45)),⟨some 47,some (43,true),.call (.c (.func 21 [])) [(.t 44),(.t 46)]⟩,vO 48 (.pick (.t 43) (.t 47) (.c (.bool false))),mO 49 48,gO 50 49 true (.mov (.t 7)),⟨some 51,some (49,true),.call (.c (.func 18 [])) [(.t 50)]⟩,gO 52 49 true (.faddr 1 (.t 8)),gO 53 49 true (.load none (.t 52)),gO 54 49 true (.bin .eql (.t 51) (.t 53)),vO 55 (.pick (.t 49) (.t 54) (.c (.bool false))),mO 56 55,gO 57 56 true (.mov (.t 3)),⟨some 58,some (56,true),.call (.c (.func 30 [])) [(.t 57)]⟩,vO 59 (.pick (.t 56) (.t 58) (.c (.bool false))),mO 60 59,gO 61 60 true (.mov (.t 6)),⟨some 62,some (60,true),.call (.c (.func 26 [])) [(.t 61)]⟩,gO 63 60 true (.faddr 1 (.t 8)),gO 64 60 true (.load none (.t 63)),gO 65 60 true (.bin .eql (.t 64) (cI 0)),gO 66 60 true (.binb false (.t 62) (.t 65)),vO 67 (.pick (.t 60) (.t 66) (.c (.bool false))),mO 68 67,⟨some 69,some (68,true),.call (.c (.func 15 [])) []⟩,vO 70 (.pick (.t 68) (.t 69) (.c (.bool false))),mO 2 70] [false,true,true,true,true,false,false,false,false,true,true,true,false,true,true,true,true,true,false,false,false,false,true,true,true,true,true,true,true,false,false,false,false,false,true,true,true,true,true,true]) .ret
def c_Q11_2:SC:=.seq (.reg [mO 30 0,kO 31 33 [(.t 30)],⟨some 8,none,.alloc [(.nils 5),(.int .i64 0)]⟩,sO 2 8 31]) c_Q11_1
def c_Q11_3:SC:=.seq (.reg [mO 26 0,kO 27 20 [(.t 26)],mO 25 27,vO 28 (.extract 0 (.t 25)),vO 29 (.extract 1 (.t 25)),mO 6 28,mO 7 29]) c_Q11_2
def c_Q11_4:SC:=.seq (.reg [mO 23 0,kO 24 32 [(.t 23)],⟨some 5,none,.alloc [(.nils 4),(.int .i64 0)]⟩,sO 2 5 24]) c_Q11_3
def c_Q11_5:SC:=.seq (.reg [mO 19 0,kO 20 17 [(.t 19)],mO 18 20,vO 21 (.extract 0 (.t 18)),vO 22 (.extract 1 (.t 18)),mO 3 21,mO 4 22]) c_Q11_4
def c_Q11_6:SC:=.seq (.seq (.reg [mO 9 0,vO 10 (.len true (.t 9)),bC 11 .gtr 10 1500,mO 12 11,gO 13 12 true (.mov (.t 0)),gO 14 12 true (.len true (.t 13)),gO 15 12 true (.bin .leq (.t 14) (cI 6000)),vO 16 (.pick (.t 12) (.t 15) (.c (.bool false)))]) (.cond (.t 16) (.seq (.reg [kO 17 15 [],mO 2 17]) .ret) .skip)) c_Q11_5
def sc_Q11:zh:=⟨1,71,.seq (.reg [vO 2 (.mov (.c (.bool false)))]) c_Q11_6,[(.t 2)]⟩
theorem zAT:type_of% (aI (ue c_Q11_1.eq_1)<|aI (ue c_Q11_2.eq_1)<|aI (ue c_Q11_3.eq_1)<|aI (ue c_Q11_4.eq_1)<|aI (ue c_Q11_5.eq_1)<|aI (ue c_Q11_6.eq_1)<|sc_Q11.eq_1):=aI (ue c_Q11_1.eq_1)<|aI (ue c_Q11_2.eq_1)<|aI (ue c_Q11_3.eq_1)<|aI (ue c_Q11_4.eq_1)<|aI (ue c_Q11_5.eq_1)<|aI (ue c_Q11_6.eq_1)<|sc_Q11.eq_1
theorem comp_Q11:comp Tryz.prog Tryz.f11=some sc_Q11:=by kernel_rfl
end Go.Proofs.YtfbcnpbhhooapaaGreatDoor.M
namespace Go.Proofs.YtfbcnpbhhooapaaGreatDoor.M
open Go Classical
theorem zye:SP 11=some (.code sc_Q11):=ze rfl Tryz.func11 comp_Q11
theorem zvb (s:List UInt8) (r:Bool) (T :
  ((1500 < (s.length:Int)) →
  (((s.length:Int)≤6000) →
   ∃ (r1:Bool),(zhy r1) ∧
   r1=r) ∧
  (¬ ((s.length:Int)≤6000) →
   ∃ (r2:List Block) (r3:Int),(zc9 s r2 r3) ∧
   ∃ (r4:Parsed),(zf7 s r4) ∧
   ∃ (r5:List Node) (r6:Int),(zeD s r5 r6) ∧
   ∃ (r7:Read),(zgn s r7) ∧
   ∃ (r8:Bool),(zdv r2 r4.L r8) ∧
   ((r8=true) →
    ∃ (r9:Int),(zfk r3 r9) ∧
    ((r9=r4.E) →
     ∃ (r10:Bool),(zfd r5 r7.L r10) ∧
     ((r10=true) →
      ∃ (r11:Int),(zfk r6 r11) ∧
      ((r11=r7.E) →
       ∃ (r12:Bool),(zgm r2 r12) ∧
       ((r12=true) →
        ∃ (r13:Bool),(zeA r5 r13) ∧
        ((r13=(decide (r7.E=0))) →
         ∃ (r14:Bool),(zhy r14) ∧
         r14=r) ∧
        (¬ (r13=(decide (r7.E=0))) →
         false=r)) ∧
       (¬ (r12=true) →
        false=r)) ∧
      (¬ (r11=r7.E) →
       false=r)) ∧
     (¬ (r10=true) →
      false=r)) ∧
    (¬ (r9=r4.E) →
     false=r)) ∧
   (¬ (r8=true) →
    false=r))) ∧
 (¬ (1500 < (s.length:Int)) →
  ∃ (r15:List Block) (r16:Int),(zc9 s r15 r16) ∧
  ∃ (r17:Parsed),(zf7 s r17) ∧
  ∃ (r18:List Node) (r19:Int),(zeD s r18 r19) ∧
  ∃ (r20:Read),(zgn s r20) ∧
  ∃ (r21:Bool),(zdv r15 r17.L r21) ∧
  ((r21=true) →
   ∃ (r22:Int),(zfk r16 r22) ∧
   ((r22=r17.E) →
    ∃ (r23:Bool),(zfd r18 r20.L r23) ∧
    ((r23=true) →
     ∃ (r24:Int),(zfk r19 r24) ∧
     ((r24=r20.E) →
      ∃ (r25:Bool),(zgm r15 r25) ∧
      ((r25=true) →
       ∃ (r26:Bool),(zeA r18 r26) ∧
       ((r26=(decide (r20.E=0))) →
        ∃ (r27:Bool),(zhy r27) ∧
        r27=r) ∧
       (¬ (r26=(decide (r20.E=0))) →
        false=r)) ∧
      (¬ (r25=true) →
       false=r)) ∧
     (¬ (r24=r20.E) →
      false=r)) ∧
    (¬ (r23=true) →
     false=r)) ∧
   (¬ (r22=r17.E) →
    false=r)) ∧
  (¬ (r21=true) →
   false=r))):zpY s r:=by
 intro S
 rw[zd zye _ _ rfl]
 have F:=zAT
 exact rn F T
end Go.Proofs.YtfbcnpbhhooapaaGreatDoor.M
namespace Go.Proofs.YtfbcnpbhhooapaaGreatDoor.M
open Go Classical
theorem zhl (L:List Token):rd L L 0 []=⟨L,0,0,0,[]⟩:=by simp[rd]
theorem zs5 {s:List UInt8} {L:List Token} (hx:zf3 s ⟨L,0⟩) (hT:TL L) (hw:W L):match ziW zE L with
  | .ok l _ _=>zf7 s ⟨l,0⟩
  | .er e=>zf7 s ⟨[],e⟩
  | .no=>True:=by
 have hl:=hT.len
 have h:=zi7 hT.len hT.text hT.part (20*L.length+10) (L.length+1) [] L [] (List.suffix_refl L) hw (by simp;omega) (by simp;omega)
 unfold ziW
 cases hc:zbL zE (20*L.length+10) (L.length+1) [] L with
 | no=>exact True.intro
 | er e =>
  rw[hc] at h
  obtain⟨a,y,g,z,q,bd⟩:=h 0 false
  rw[zhl] at q
  exact zg6 _ _ ⟨_,hx,fun _=>⟨a,y,g,z,zep _ _ _ _ _ _ _ _ q,fun h=>absurd h bd.e0',fun _=>by rw[bd.e0]⟩,fun h=>absurd rfl h⟩
 | ok l ts o =>
  rw[hc] at h
  obtain⟨out',g,z,_,q⟩:=h.2.2.2 0 false
  rw[zhl] at q
  exact zg6 _ _ ⟨_,hx,fun _=>⟨l,_,g,z,zep _ _ _ _ _ _ _ _ q,fun _=>rfl,fun h=>absurd rfl h⟩,fun h=>absurd rfl h⟩
theorem zuI {s:List UInt8} {L:List Token} (hx:zf3 s ⟨L,0⟩) (hT:TL L) (hw:W L):match exprT L with
  | .ok l _ _=>zgn s ⟨l,0⟩
  | .er e=>zgn s ⟨[],e⟩
  | .no=>True:=by
 have hl:=hT.len
 have h:=(rfA hT.len hT.text (20*L.length+10)).1.ex 0 L [] ⟨List.suffix_refl L,hw,by decide,by simp;omega⟩
 unfold exprT zbp
 cases hc:zu (20*L.length+10) 0 L [] with
 | no=>exact True.intro
 | er e =>
  rw[hc] at h
  obtain⟨a,y,g,z,q,bd⟩:=h 0 false
  rw[zhl] at q
  exact zfH _ _ ⟨_,hx,fun _=>⟨a,y,g,z,q,fun h=>absurd h bd.e0',fun _=>by rw[bd.e0]⟩,fun h=>absurd rfl h⟩
 | ok a ts out =>
  rw[hc] at h
  obtain⟨s1,w1,l1,k1,q1⟩:=h
  obtain⟨g,z,q⟩:=q1 0 false
  rw[zhl] at q
  simp only[PR.bind]
  cases ts with
  | nil=>exact w1.elim
  | cons t ts =>
   have hg:=zeG s1 rfl 0 out
   have i0:0≤(rd L (t::ts) 0 out).i:=by simp[rd]
   simp only
   by_cases k0:t.Kind=0
   ·rw[if_pos k0]
    exact zfH _ _ ⟨_,hx,fun _=>⟨a,_,g,z,q,fun _=>⟨i0,t,hg,fun _=>rfl,fun h=>absurd k0 h⟩,fun h=>absurd rfl h⟩,fun h=>absurd rfl h⟩
   rw[if_neg k0]
   exact zfH _ _ ⟨_,hx,fun _=>⟨a,_,g,z,q,fun _=>⟨i0,t,hg,fun h=>absurd h k0,fun _=>⟨_,g,z,za0 0 out g z 5,fun h=>absurd h (show ¬ (5:Int)=0 by decide),fun _=>rfl⟩⟩,fun h=>absurd rfl h⟩,fun h=>absurd rfl h⟩
theorem zii (l:List Block) (hl:l.length≤1000000) (ha:∀ b ∈ l,b.Attrs.length≤1000000∧∀ a ∈ b.Attrs,a.Expr.length≤1000000∧Gn 1000000 a.Expr) (hb:∀ b ∈ l,zdv b.Blocks b.Blocks true):zdv l l true:=by
 refine ztk _ _ _ ⟨fun _=>?_,fun h=>absurd rfl h⟩
 have loop:∀ (m i:Nat),i+m=l.length→zhr l l i true:=by
  intro m
  induction m with
  | zero =>
   intro i hi
   exact zhS _ _ _ _ ⟨fun h=>by omega,fun _=>rfl⟩
  | succ m ih =>
   intro i hi
   have hlt:i < l.length:=by omega
   have hg:l[((i:Nat):Int).toNat]?=some l[i]:=by rw[Int.toNat_natCast];exact List.getElem?_eq_getElem hlt
   have nx:=ih (i+1) (by omega)
   rw[show ((i+1:Nat):Int)=(i:Int)+1 by omega] at nx
   obtain⟨h1,h2⟩:=ha _ (List.getElem_mem hlt)
   have h3:=hb _ (List.getElem_mem hlt)
   have inner:∀ (w k:Nat),k+w=l[i].Attrs.length→zhs l l i k true:=by
    intro w
    induction w with
    | zero =>
     intro k hk
     exact zhT _ _ _ _ _ ⟨by omega,_,hg,fun h=>by omega,fun _=>⟨⟨by omega,by omega⟩,nx⟩⟩
    | succ w ihw =>
     intro k hk
     have hkl:k < l[i].Attrs.length:=by omega
     have hgk:l[i].Attrs[((k:Nat):Int).toNat]?=some l[i].Attrs[k]:=by rw[Int.toNat_natCast];exact List.getElem?_eq_getElem hkl
     have nk:=ihw (k+1) (by omega)
     rw[show ((k+1:Nat):Int)=(k:Int)+1 by omega] at nk
     obtain⟨e1,e2⟩:=h2 _ (List.getElem_mem hkl)
     exact zhT _ _ _ _ _ ⟨by omega,_,hg,fun _=>⟨by omega,_,hgk,by omega,_,hg,by omega,_,hgk,fun _=>⟨true,zdF _ e1 e2,fun _=>⟨⟨by omega,by omega⟩,nk⟩,fun h=>absurd rfl h⟩,fun h=>absurd rfl h⟩,fun h=>by omega⟩
   exact zhS _ _ _ _ ⟨fun _=>⟨by omega,_,hg,by omega,_,hg,fun _=>⟨fun _=>⟨fun _=>⟨true,h3,fun _=>inner l[i].Attrs.length 0 (by omega),fun h=>absurd rfl h⟩,fun h=>absurd rfl h⟩,fun h=>absurd rfl h⟩,fun h=>absurd rfl h⟩,fun h=>by omega⟩
 exact loop l.length 0 (by omega)
theorem zkQ {l:List Block} (hl:l.length≤1000000) (hb:∀ b ∈ l,BB b∧∀ x ∈ b.Blocks,BB x):zgm l (l.all zeb):=by
 apply ztw
 refine⟨by omega,fun x=>!zeb x,fun x hx=>ztA _ _ ⟨zeb x,?_,rfl⟩,?_⟩
 ·have:=zvF x (hb x hx).1 false (fun _ y hy=>by
   have:=zvF y ((hb x hx).2 y hy) true (fun h=>by cases h)
   rwa [if_pos rfl] at this)
  rwa [if_neg (by decide)] at this
 rw[List.all_eq_not_any_not]
section
variable {B K:Nat} (hB:B≤1000000) (hK:K≤1000000)
include hB hK
theorem GE.gn {l:List Node} (h:GE B K l):Gn 1000000 l:=fun n hn=>by
 have h2:=zlQ h.tree n hn
 have h3:=h.len
 have h4:=(h.par n hn).1
 exact⟨by omega,by omega⟩
theorem GA.ab {l:List Attr} (h:GA B K l):l.length≤1000000∧(∀ a ∈ l,AB a)∧∀ a ∈ l,a.Expr.length≤1000000∧Gn 1000000 a.Expr:=by
 refine⟨by have:=h.len;omega,fun a ha=>?_,fun a ha=>?_⟩
 ·obtain⟨h1,h2⟩:=h.each a ha
  exact⟨by omega,by have:=h2.len;omega,h2.nb hB hK⟩
 obtain⟨h1,h2⟩:=h.each a ha
 exact⟨by have:=h2.len;omega,h2.gn hB hK⟩
theorem GF.bb {b:Block} (h:GF B K b):BB b∧∀ x ∈ b.Blocks,BB x:=by
 obtain⟨a1,a2,_⟩:=h.attrs.ab hB hK
 refine⟨⟨by have:=h.lab;omega,a1,a2,by have:=h.len;omega⟩,fun x hx=>?_⟩
 have g:=h.each x hx
 obtain⟨b1,b2,_⟩:=g.attrs.ab hB hK
 exact⟨by have:=g.lab;omega,b1,b2,by rw[g.none];exact Nat.zero_le _⟩
theorem GF.same {l:List Block} (hl:l.length≤1000000) (h:∀ b ∈ l,GF B K b):zdv l l true:=by
 have h0:zdv [] [] true:=zii [] (by simp) (fun b hb=>by cases hb) (fun b hb=>by cases hb)
 refine zii l hl (fun b hb=>?_) (fun b hb=>?_)
 ·obtain⟨a1,_,a3⟩:=(h b hb).attrs.ab hB hK
  exact⟨a1,a3⟩
 have g:=h b hb
 refine zii b.Blocks (by have:=g.len;omega) (fun x hx=>?_) (fun x hx=>?_)
 ·obtain⟨a1,_,a3⟩:=(g.each x hx).attrs.ab hB hK
  exact⟨a1,a3⟩
 rw[(g.each x hx).none];exact h0
end
theorem zxA {s:List UInt8} {L:List Token} (hs:s.length≤6000) (h:zk9 s=some L):TkB 20000 L:=by
 have hx:=zxC (zeu s)
 rw[h] at hx
 obtain⟨h1,h2⟩:=hx
 simp only[zfD] at h1 h2
 obtain⟨_,_,h3⟩:=zpw (zeu s) L h
 exact fun t ht=>⟨by have:=h2 t ht;omega,fun p hp=>by have:=(h3 t ht).2 p hp;omega⟩
theorem zqv (s:List UInt8):∃ (l:List Block) (e:Int) (x:List Node) (f:Int),zc9 s l e∧zf7 s ⟨l,e⟩∧zeD s x f∧zgn s ⟨x,f⟩∧zdv l l true∧zfd x x true∧zgm l true∧zeA x (decide (f=0)):=by
 have b0:zdv [] [] true:=GF.same (B:=0) (K:=0) (by decide) (by decide) (by simp) (fun b hb=>by cases hb)
 have n0:zfd [] [] true:=zdF [] (by simp) (fun n hn=>by cases hn)
 have m0:zgm [] true:=zkQ (l:=[]) (by simp) (fun b hb=>by cases hb)
 have t0:zeA [] false:=zng [] (by simp) (fun n hn=>by cases hn)
 by_cases hs:s.length≤6000
 rotate_left
 ·have h1:=zoE (s:=s) (by omega)
  have h2:=zlt (s:=s) (by omega)
  have e4:(4:Int)≠0:=by decide
  exact⟨[],4,[],4,zhe h1 e4,zg6 _ _ ⟨_,h2,fun h=>absurd h e4,fun _=>rfl⟩,zlz h1 e4,zfH _ _ ⟨_,h2,fun h=>absurd h e4,fun _=>rfl⟩,b0,n0,m0,t0⟩
 have hx:=zvn hs (zeu s)
 have hy:=zuW hs (zeu s)
 cases hl:zk9 s with
 | none =>
  rw[hl] at hx hy
  have e5:(5:Int)≠0:=by decide
  exact⟨[],5,[],5,zhe hx e5,zg6 _ _ ⟨_,hy,fun h=>absurd h e5,fun _=>rfl⟩,zlz hx e5,zfH _ _ ⟨_,hy,fun h=>absurd h e5,fun _=>rfl⟩,b0,n0,m0,t0⟩
 | some L =>
  rw[hl] at hx hy
  have hx:zbI s L 0:=hx
  have hy:zf3 s ⟨L,0⟩:=hy
  obtain⟨hT,hw⟩:=zvu hs hl
  have hg:=zAn (zeu s) L hl
  have hb:=zxA hs hl
  have hLn:=hT.len
  have p1:=znY hx hT hw zha
  have p2:=zs5 hy hT hw
  have q1:=zwo hx hT hw
  have q2:=zuI hy hT hw
  have P:∃ (l:List Block) (e:Int),zc9 s l e∧zf7 s ⟨l,e⟩∧zdv l l true∧zgm l true:=by
   cases hc:ziW zE L with
   | no=>rw[hc] at p1;exact p1.elim
   | er e =>
    rw[hc] at p1 p2
    have:e≠0:=by have:=NE.conf zE (20*L.length+10) (L.length+1) [] L e hc;omega
    exact⟨[],e,p1 this,p2,b0,m0⟩
   | ok l ts o =>
    rw[hc] at p1 p2
    obtain⟨new,hn,h3,h5⟩:=zpC (K:=L.length) (20*L.length+10) (L.length+1) [] L hg hb (Nat.le_refl _) hc
    rw[List.nil_append] at hn
    subst hn
    have hm:l.all zeb=true:=List.all_eq_true.2 fun x hx=>(h5 x hx).may
    have:=zkQ (l:=l) (by omega) (fun b hb=>(h5 b hb).bb (by decide) hLn)
    rw[hm] at this
    exact⟨l,0,p1,p2,GF.same (by decide) hLn (by omega) h5,this⟩
  have Q:∃ (x:List Node) (f:Int),zeD s x f∧zgn s ⟨x,f⟩∧zfd x x true∧zeA x (decide (f=0)):=by
   cases hc:exprT L with
   | no=>rw[hc] at q1;exact q1.elim
   | er e =>
    rw[hc] at q1 q2
    have:e≠0:=by have:=NE.exprT L e hc;omega
    exact⟨[],e,q1 this,q2,n0,by rw[decide_eq_false this];exact t0⟩
   | ok l ts o =>
    rw[hc] at q1 q2
    unfold exprT at hc
    obtain⟨nodes,ts1,o1,hw',he⟩:=zaf hc
    have hln:l=nodes:=by
     cases ts1 with
     | nil=>cases he
     | cons t r =>
      simp only at he
      split at he
      ·cases he;rfl
      cases he
    subst hln
    obtain⟨ge,_⟩:=zm5 hg hb hw'
    have ht:=zng l (by have:=ge.len;omega) (ge.nb (by decide) hLn)
    rw[ge.tree] at ht
    exact⟨l,0,q1,q2,zdF l (by have:=ge.len;omega) (ge.gn (by decide) hLn),ht⟩
  obtain⟨l,e,a1,a2,a3,a4⟩:=P
  obtain⟨x,f,c1,c2,c3,c4⟩:=Q
  exact⟨l,e,x,f,a1,a2,c1,c2,a3,c3,a4,c4⟩
theorem znL (s:List UInt8):zpY s true:=by
 have aw:∃ (r:Bool),zhy r∧r=true:=⟨true,zud,rfl⟩
 obtain⟨l,e,x,f,a1,a2,a3,a4,a5,a6,a7,a8⟩:=zqv s
 have body:∃ (r2:List Block) (r3:Int),(zc9 s r2 r3)∧∃ (r4:Parsed),(zf7 s r4)∧∃ (r5:List Node) (r6:Int),(zeD s r5 r6)∧∃ (r7:Read),(zgn s r7)∧∃ (r8:Bool),(zdv r2 r4.L r8)∧((r8=true)→∃ (r9:Int),(zfk r3 r9)∧((r9=r4.E)→∃ (r10:Bool),(zfd r5 r7.L r10)∧((r10=true)→∃ (r11:Int),(zfk r6 r11)∧((r11=r7.E)→∃ (r12:Bool),(zgm r2 r12)∧((r12=true)→∃ (r13:Bool),(zeA r5 r13)∧((r13=(decide (r7.E=0)))→∃ (r14:Bool),(zhy r14)∧r14=true)∧(¬ (r13=(decide (r7.E=0)))→false=true))∧(¬ (r12=true)→false=true))∧(¬ (r11=r7.E)→false=true))∧(¬ (r10=true)→false=true))∧(¬ (r9=r4.E)→false=true))∧(¬ (r8=true)→false=true) :=
  ⟨l,e,a1,_,a2,x,f,a3,_,a4,true,a5,fun _=>⟨e,zm3 e,fun _=>⟨true,a6,fun _=>⟨f,zm3 f,fun _=>⟨true,a7,fun _=>⟨_,a8,fun _=>aw,fun h=>absurd rfl h⟩,fun h=>absurd rfl h⟩,fun h=>absurd rfl h⟩,fun h=>absurd rfl h⟩,fun h=>absurd rfl h⟩,fun h=>absurd rfl h⟩
 exact zvb _ _ ⟨fun _=>⟨fun _=>aw,fun _=>body⟩,fun _=>body⟩
end Go.Proofs.YtfbcnpbhhooapaaGreatDoor.M
namespace Go.Proofs
open Go.Shelf
def Tryz.lays137_ren:Go.Shelf.Ren:=⟨fun | 137=>179 | 217=>186 | 266=>209 | n=>n,fun | 9=>9 | 5=>5 | 3=>3 | n=>n,fun | n=>n⟩
theorem Tryz.lays137:Go.Proofs.Lays.n137 Tryz.prog Tryz.lays137_ren:={
  mixed:=by kernel_rfl
  f137:=Tryz.func179.trans (congrArg some (by kernel_rfl))
  f217:=Tryz.func186.trans (congrArg some (by kernel_rfl))
  f266:=Tryz.func209.trans (congrArg some (by kernel_rfl))
  t3:=Tryz.underlying3
  a3:=Tryz.isAgg3
  z3:=Tryz.sizeOf3
  v3:=Tryz.zeroValue3
  t5:=Tryz.underlying5
  a5:=Tryz.isAgg5
  z5:=Tryz.sizeOf5
  v5:=Tryz.zeroValue5
  t9:=Tryz.underlying9
  a9:=Tryz.isAgg9
  z9:=Tryz.sizeOf9
  v9:=Tryz.zeroValue9 }
open Go.RowKit in
theorem Tryz.strings_IndexByte (s:ByteArray) (c:Int) (w:World) :
    Calls Tryz.prog 179 #[.string s,.int .u8 c] w fun e w'=>e=.returned (.int .i64 (Lib.indexByte s.data.toList c.toNat.toUInt8))∧w'=w:=Any.strings_IndexByte Tryz.lays137 s c w
def Tryz.lays121_ren:Go.Shelf.Ren:=⟨fun | 121=>108 | 214=>147 | n=>n,fun | 4=>4 | 9=>9 | n=>n,fun | n=>n⟩
theorem Tryz.lays121:Go.Proofs.Lays.n121 Tryz.prog Tryz.lays121_ren:={
  mixed:=by kernel_rfl
  f121:=Tryz.func108.trans (congrArg some (by kernel_rfl))
  f214:=Tryz.func147.trans (congrArg some (by kernel_rfl))
  t4:=Tryz.underlying4
  a4:=Tryz.isAgg4
  z4:=Tryz.sizeOf4
  v4:=Tryz.zeroValue4
  t9:=Tryz.underlying9
  a9:=Tryz.isAgg9
  z9:=Tryz.sizeOf9
  v9:=Tryz.zeroValue9 }
open Go.RowKit in
theorem Tryz.strconv_FormatBool (b:Bool) (w:World) :
    Calls Tryz.prog 108 #[.bool b] w fun e w'=>e=.returned (.string ⟨(Lib.formatBool b).toArray⟩)∧w'=w:=Any.strconv_FormatBool Tryz.lays121 b w
def Tryz.laysM171_ren:Go.Shelf.Ren:=⟨fun | 171=>106 | 243=>145 | 246=>168 | 283=>182 | 284=>183 | 285=>184 | 286=>185 | 129=>205 | 317=>204 | 318=>206 | 319=>207 | 320=>208 | 337=>214 | 338=>215 | n=>n,fun | 3=>3 | 9=>9 | 2=>2 | 4=>4 | 171=>208 | 0=>0 | 53=>66 | 37=>22 | 5=>5 | 173=>211 | 212=>223 | 51=>182 | 20=>20 | 213=>224 | 46=>161 | 232=>243 | 233=>244 | n=>n,fun | 17=>1 | 18=>6 | 19=>7 | n=>n⟩
theorem Tryz.laysM171:Go.Proofs.LaysM.n171 Tryz.prog Tryz.laysM171_ren:={
  mixed:=by kernel_rfl
  f129:=Tryz.func205.trans (congrArg some (by kernel_rfl))
  f171:=Tryz.func106.trans (congrArg some (by kernel_rfl))
  f243:=Tryz.func145.trans (congrArg some (by kernel_rfl))
  f246:=Tryz.func168.trans (congrArg some (by kernel_rfl))
  f283:=Tryz.func182.trans (congrArg some (by kernel_rfl))
  f284:=Tryz.func183.trans (congrArg some (by kernel_rfl))
  f285:=Tryz.func184.trans (congrArg some (by kernel_rfl))
  f286:=Tryz.func185.trans (congrArg some (by kernel_rfl))
  f317:=Tryz.func204.trans (congrArg some (by kernel_rfl))
  f318:=Tryz.func206.trans (congrArg some (by kernel_rfl))
  f319:=Tryz.func207.trans (congrArg some (by kernel_rfl))
  f320:=Tryz.func208.trans (congrArg some (by kernel_rfl))
  f337:=Tryz.func214.trans (congrArg some (by kernel_rfl))
  f338:=Tryz.func215.trans (congrArg some (by kernel_rfl))
  t0:=Tryz.underlying0
  a0:=Tryz.isAgg0
  z0:=Tryz.sizeOf0
  v0:=Tryz.zeroValue0
  t2:=Tryz.underlying2
  a2:=Tryz.isAgg2
  z2:=Tryz.sizeOf2
  v2:=Tryz.zeroValue2
  t3:=Tryz.underlying3
  a3:=Tryz.isAgg3
  z3:=Tryz.sizeOf3
  v3:=Tryz.zeroValue3
  t4:=Tryz.underlying4
  a4:=Tryz.isAgg4
  z4:=Tryz.sizeOf4
  v4:=Tryz.zeroValue4
  t5:=Tryz.underlying5
  a5:=Tryz.isAgg5
  z5:=Tryz.sizeOf5
  v5:=Tryz.zeroValue5
  t9:=Tryz.underlying9
  a9:=Tryz.isAgg9
  z9:=Tryz.sizeOf9
  v9:=Tryz.zeroValue9
  t20:=Tryz.underlying20
  a20:=Tryz.isAgg20
  z20:=Tryz.sizeOf20
  v20:=Tryz.zeroValue20
  t37:=Tryz.underlying22
  a37:=Tryz.isAgg22
  z37:=Tryz.sizeOf22
  v37:=Tryz.zeroValue22
  t46:=Tryz.underlying161
  a46:=Tryz.isAgg161
  z46:=Tryz.sizeOf161
  v46:=Tryz.zeroValue161
  t51:=Tryz.underlying182
  a51:=Tryz.isAgg182
  z51:=Tryz.sizeOf182
  v51:=Tryz.zeroValue182
  t53:=Tryz.underlying66
  a53:=Tryz.isAgg66
  z53:=Tryz.sizeOf66
  v53:=Tryz.zeroValue66
  t171:=Tryz.underlying208
  a171:=Tryz.isAgg208
  z171:=Tryz.sizeOf208
  v171:=Tryz.zeroValue208
  t173:=Tryz.underlying211
  a173:=Tryz.isAgg211
  z173:=Tryz.sizeOf211
  v173:=Tryz.zeroValue211
  t212:=Tryz.underlying223
  a212:=Tryz.isAgg223
  z212:=Tryz.sizeOf223
  v212:=Tryz.zeroValue223
  t213:=Tryz.underlying224
  a213:=Tryz.isAgg224
  z213:=Tryz.sizeOf224
  t232:=Tryz.underlying243
  a232:=Tryz.isAgg243
  z232:=Tryz.sizeOf243
  v232:=Tryz.zeroValue243
  t233:=Tryz.underlying244
  a233:=Tryz.isAgg244
  z233:=Tryz.sizeOf244
  v233:=Tryz.zeroValue244
  g17:=by kernel_rfl
  g18:=by kernel_rfl
  g19:=by kernel_rfl
  i0:=by kernel_rfl
  i2:=by kernel_rfl
  i3:=by kernel_rfl
  i4:=by kernel_rfl
  i5:=by kernel_rfl
  i9:=by kernel_rfl
  i20:=by kernel_rfl
  i37:=by kernel_rfl
  i46:=by kernel_rfl
  i51:=by kernel_rfl
  i53:=by kernel_rfl
  i171:=by kernel_rfl
  i173:=by kernel_rfl
  i212:=by kernel_rfl
  i232:=by kernel_rfl
  i233:=by kernel_rfl
  m17:=by kernel_rfl
  m18:=by kernel_rfl
  m19:=by kernel_rfl }
open Go.RowKit Go.Sort Go.Lib in
theorem Tryz.strconv_Itoa (n:Int) (h0:-9223372036854775808≤n) (h1:n≤9223372036854775807) (w:World) (htab:Lib.TabIs Tryz.prog w "internal/strconv.uint64pow10" .u64 Lib.pow10Tab) :
    Calls Tryz.prog 106 #[.int .i64 n] w fun e w'=>e=.returned (.string ⟨(Lib.itoa n).toArray⟩)∧∃ k os,w'=grow (w.drewN k) os:=Any.strconv_Itoa Tryz.laysM171 n h0 h1 w htab
def Tryz.laysC172_ren:Go.Shelf.Ren:=⟨fun | 172=>163 | 244=>177 | 245=>178 | 247=>196 | 279=>197 | 280=>198 | 281=>199 | 282=>200 | 287=>211 | 316=>212 | 171=>106 | 205=>213 | 321=>216 | 322=>217 | 243=>145 | 246=>168 | 283=>182 | 284=>183 | 285=>184 | 286=>185 | 129=>205 | 317=>204 | 318=>206 | 319=>207 | 320=>208 | 337=>214 | 338=>215 | n=>n,fun | 9=>9 | 3=>3 | 75=>169 | 76=>170 | 4=>4 | 5=>5 | 167=>215 | 37=>22 | 0=>0 | 85=>216 | 2=>2 | 168=>218 | 53=>66 | 175=>232 | 46=>161 | 210=>236 | 127=>187 | 145=>242 | 143=>240 | 21=>21 | 171=>208 | 173=>211 | 212=>223 | 51=>182 | 20=>20 | 213=>224 | 232=>243 | 233=>244 | 80=>121 | n=>n,fun | 15=>4 | 16=>5 | 17=>1 | 18=>6 | 19=>7 | n=>n⟩
theorem Tryz.laysC172:Go.Proofs.LaysC.n172 Tryz.prog Tryz.laysC172_ren:={
  mixed:=by kernel_rfl
  f129:=Tryz.func205.trans (congrArg some (by kernel_rfl))
  f171:=Tryz.func106.trans (congrArg some (by kernel_rfl))
  f172:=Tryz.func163.trans (congrArg some (by kernel_rfl))
  f205:=Tryz.func213.trans (congrArg some (by kernel_rfl))
  f243:=Tryz.func145.trans (congrArg some (by kernel_rfl))
  f244:=Tryz.func177.trans (congrArg some (by kernel_rfl))
  f245:=Tryz.func178.trans (congrArg some (by kernel_rfl))
  f246:=Tryz.func168.trans (congrArg some (by kernel_rfl))
  f247:=Tryz.func196.trans (congrArg some (by kernel_rfl))
  f279:=Tryz.func197.trans (congrArg some (by kernel_rfl))
  f280:=Tryz.func198.trans (congrArg some (by kernel_rfl))
  f281:=Tryz.func199.trans (congrArg some (by kernel_rfl))
  f282:=Tryz.func200.trans (congrArg some (by kernel_rfl))
  f283:=Tryz.func182.trans (congrArg some (by kernel_rfl))
  f284:=Tryz.func183.trans (congrArg some (by kernel_rfl))
  f285:=Tryz.func184.trans (congrArg some (by kernel_rfl))
  f286:=Tryz.func185.trans (congrArg some (by kernel_rfl))
  f287:=Tryz.func211.trans (congrArg some (by kernel_rfl))
  f316:=Tryz.func212.trans (congrArg some (by kernel_rfl))
  f317:=Tryz.func204.trans (congrArg some (by kernel_rfl))
  f318:=Tryz.func206.trans (congrArg some (by kernel_rfl))
  f319:=Tryz.func207.trans (congrArg some (by kernel_rfl))
  f320:=Tryz.func208.trans (congrArg some (by kernel_rfl))
  f321:=Tryz.func216.trans (congrArg some (by kernel_rfl))
  f322:=Tryz.func217.trans (congrArg some (by kernel_rfl))
  f337:=Tryz.func214.trans (congrArg some (by kernel_rfl))
  f338:=Tryz.func215.trans (congrArg some (by kernel_rfl))
  t0:=Tryz.underlying0
  a0:=Tryz.isAgg0
  z0:=Tryz.sizeOf0
  v0:=Tryz.zeroValue0
  t2:=Tryz.underlying2
  a2:=Tryz.isAgg2
  z2:=Tryz.sizeOf2
  v2:=Tryz.zeroValue2
  t3:=Tryz.underlying3
  a3:=Tryz.isAgg3
  z3:=Tryz.sizeOf3
  v3:=Tryz.zeroValue3
  t4:=Tryz.underlying4
  a4:=Tryz.isAgg4
  z4:=Tryz.sizeOf4
  v4:=Tryz.zeroValue4
  t5:=Tryz.underlying5
  a5:=Tryz.isAgg5
  z5:=Tryz.sizeOf5
  v5:=Tryz.zeroValue5
  t9:=Tryz.underlying9
  a9:=Tryz.isAgg9
  z9:=Tryz.sizeOf9
  v9:=Tryz.zeroValue9
  t20:=Tryz.underlying20
  a20:=Tryz.isAgg20
  z20:=Tryz.sizeOf20
  v20:=Tryz.zeroValue20
  t21:=Tryz.underlying21
  a21:=Tryz.isAgg21
  z21:=Tryz.sizeOf21
  v21:=Tryz.zeroValue21
  t37:=Tryz.underlying22
  a37:=Tryz.isAgg22
  z37:=Tryz.sizeOf22
  v37:=Tryz.zeroValue22
  t46:=Tryz.underlying161
  a46:=Tryz.isAgg161
  z46:=Tryz.sizeOf161
  v46:=Tryz.zeroValue161
  t51:=Tryz.underlying182
  a51:=Tryz.isAgg182
  z51:=Tryz.sizeOf182
  v51:=Tryz.zeroValue182
  t53:=Tryz.underlying66
  a53:=Tryz.isAgg66
  z53:=Tryz.sizeOf66
  v53:=Tryz.zeroValue66
  t75:=Tryz.underlying169
  a75:=Tryz.isAgg169
  z75:=Tryz.sizeOf169
  v75:=Tryz.zeroValue169
  t76:=Tryz.underlying170
  a76:=Tryz.isAgg170
  z76:=Tryz.sizeOf170
  v76:=Tryz.zeroValue170
  t85:=Tryz.underlying216
  a85:=Tryz.isAgg216
  z85:=Tryz.sizeOf216
  v85:=Tryz.zeroValue216
  t127:=Tryz.underlying187
  a127:=Tryz.isAgg187
  z127:=Tryz.sizeOf187
  v127:=Tryz.zeroValue187
  t143:=Tryz.underlying240
  a143:=Tryz.isAgg240
  z143:=Tryz.sizeOf240
  v143:=Tryz.zeroValue240
  t145:=Tryz.underlying242
  a145:=Tryz.isAgg242
  z145:=Tryz.sizeOf242
  v145:=Tryz.zeroValue242
  t167:=Tryz.underlying215
  a167:=Tryz.isAgg215
  z167:=Tryz.sizeOf215
  v167:=Tryz.zeroValue215
  t168:=Tryz.underlying218
  a168:=Tryz.isAgg218
  z168:=Tryz.sizeOf218
  v168:=Tryz.zeroValue218
  t171:=Tryz.underlying208
  a171:=Tryz.isAgg208
  z171:=Tryz.sizeOf208
  v171:=Tryz.zeroValue208
  t173:=Tryz.underlying211
  a173:=Tryz.isAgg211
  z173:=Tryz.sizeOf211
  v173:=Tryz.zeroValue211
  t175:=Tryz.underlying232
  a175:=Tryz.isAgg232
  z175:=Tryz.sizeOf232
  v175:=Tryz.zeroValue232
  t210:=Tryz.underlying236
  a210:=Tryz.isAgg236
  z210:=Tryz.sizeOf236
  v210:=Tryz.zeroValue236
  t212:=Tryz.underlying223
  a212:=Tryz.isAgg223
  z212:=Tryz.sizeOf223
  v212:=Tryz.zeroValue223
  t213:=Tryz.underlying224
  a213:=Tryz.isAgg224
  z213:=Tryz.sizeOf224
  t232:=Tryz.underlying243
  a232:=Tryz.isAgg243
  z232:=Tryz.sizeOf243
  v232:=Tryz.zeroValue243
  t233:=Tryz.underlying244
  a233:=Tryz.isAgg244
  z233:=Tryz.sizeOf244
  v233:=Tryz.zeroValue244
  g15:=by kernel_rfl
  g16:=by kernel_rfl
  g17:=by kernel_rfl
  g18:=by kernel_rfl
  g19:=by kernel_rfl
  t80:=Tryz.underlying121
  a80:=Tryz.isAgg121
  z80:=Tryz.sizeOf121
  v80:=Tryz.zeroValue121
  i0:=by kernel_rfl
  i2:=by kernel_rfl
  i3:=by kernel_rfl
  i4:=by kernel_rfl
  i5:=by kernel_rfl
  i9:=by kernel_rfl
  i20:=by kernel_rfl
  i21:=by kernel_rfl
  i37:=by kernel_rfl
  i46:=by kernel_rfl
  i51:=by kernel_rfl
  i53:=by kernel_rfl
  i75:=by kernel_rfl
  i76:=by kernel_rfl
  i80:=by kernel_rfl
  i85:=by kernel_rfl
  i127:=by kernel_rfl
  i143:=by kernel_rfl
  i145:=by kernel_rfl
  i167:=by kernel_rfl
  i168:=by kernel_rfl
  i171:=by kernel_rfl
  i173:=by kernel_rfl
  i175:=by kernel_rfl
  i210:=by kernel_rfl
  i212:=by kernel_rfl
  i232:=by kernel_rfl
  i233:=by kernel_rfl
  m15:=by kernel_rfl
  m16:=by kernel_rfl
  m17:=by kernel_rfl
  m18:=by kernel_rfl
  m19:=by kernel_rfl
  c0:=by kernel_rfl
  c2:=by kernel_rfl
  c3:=by kernel_rfl
  c4:=by kernel_rfl
  c5:=by kernel_rfl
  c9:=by kernel_rfl
  c20:=by kernel_rfl
  c21:=by kernel_rfl
  c37:=by kernel_rfl
  c46:=by kernel_rfl
  c51:=by kernel_rfl
  c53:=by kernel_rfl
  c75:=by kernel_rfl
  c76:=by kernel_rfl
  c80:=by kernel_rfl
  c85:=by kernel_rfl
  c127:=by kernel_rfl
  c143:=by kernel_rfl
  c145:=by kernel_rfl
  c167:=by kernel_rfl
  c168:=by kernel_rfl
  c171:=by kernel_rfl
  c173:=by kernel_rfl
  c175:=by kernel_rfl
  c210:=by kernel_rfl
  c212:=by kernel_rfl
  c213:=by kernel_rfl
  c232:=by kernel_rfl
  c233:=by kernel_rfl }
open Go.RowKit in
theorem Tryz.strconv_Atoi_ok (s:ByteArray) (hmax:s.size≤9223372036854775806) (v:Int) (h:Lib.atoiAll s.data.toList=.ok v) (w:World) :
    Calls Tryz.prog 163 #[.string s] w fun e w'=>e=.returned (.tuple #[.int .i64 v,.nilIface])∧(w'=w∨∃ t,w'=Lib.bytesWorld w 5 t):=Any.strconv_Atoi_ok Tryz.laysC172 s hmax v h w
open Go.RowKit in
theorem Tryz.strconv_Atoi_syntax (s:ByteArray) (hlim:s.size≤281474976710656) (h:Lib.atoiAll s.data.toList=.syntax) (ev:Value) (w:World) (hv:w.cell? ⟨4,0,none⟩=some ev) (hev:ev=.nilIface∨∃ te pe,ev=.iface te pe) :
    Calls Tryz.prog 163 #[.string s] w fun e w'=>∃ N,e=.returned (.tuple #[.int .i64 (0),.iface 218 (.pointer (some ⟨N,0,none⟩))])∧w.heap.size≤N∧w'.heap[N]?=some (.cells #[.string ⟨#[65,116,111,105]⟩,.string s,ev] 236 (0,0))∧Below w.heap.size w w':=Any.strconv_Atoi_syntax Tryz.laysC172 s hlim h ev w hv hev
open Go.RowKit in
theorem Tryz.strconv_Atoi_range (s:ByteArray) (hlim:s.size≤281474976710656) (h:Lib.atoiAll s.data.toList=.range) (ev:Value) (w:World) (hv:w.cell? ⟨5,0,none⟩=some ev) (hev:ev=.nilIface∨∃ te pe,ev=.iface te pe) :
    Calls Tryz.prog 163 #[.string s] w fun e w'=>∃ N,e=.returned (.tuple #[.int .i64 (Lib.atoiSat s.data.toList),.iface 218 (.pointer (some ⟨N,0,none⟩))])∧w.heap.size≤N∧w'.heap[N]?=some (.cells #[.string ⟨#[65,116,111,105]⟩,.string s,ev] 236 (0,0))∧Below w.heap.size w w':=Any.strconv_Atoi_range Tryz.laysC172 s hlim h ev w hv hev
def Tryz.lays144_ren:Go.Shelf.Ren:=⟨fun | 144=>162 | 143=>172 | 219=>169 | 217=>186 | 225=>187 | 224=>188 | 267=>189 | 266=>209 | 314=>210 | n=>n,fun | 9=>9 | 4=>4 | 3=>3 | 5=>5 | 46=>161 | 146=>183 | 51=>182 | n=>n,fun | 1=>0 | n=>n⟩
theorem Tryz.lays144:Go.Proofs.Lays.n144 Tryz.prog Tryz.lays144_ren:={
  mixed:=by kernel_rfl
  f143:=Tryz.func172.trans (congrArg some (by kernel_rfl))
  f144:=Tryz.func162.trans (congrArg some (by kernel_rfl))
  f217:=Tryz.func186.trans (congrArg some (by kernel_rfl))
  f219:=Tryz.func169.trans (congrArg some (by kernel_rfl))
  f224:=Tryz.func188.trans (congrArg some (by kernel_rfl))
  f225:=Tryz.func187.trans (congrArg some (by kernel_rfl))
  f266:=Tryz.func209.trans (congrArg some (by kernel_rfl))
  f267:=Tryz.func189.trans (congrArg some (by kernel_rfl))
  f314:=Tryz.func210.trans (congrArg some (by kernel_rfl))
  t3:=Tryz.underlying3
  a3:=Tryz.isAgg3
  z3:=Tryz.sizeOf3
  v3:=Tryz.zeroValue3
  t4:=Tryz.underlying4
  a4:=Tryz.isAgg4
  z4:=Tryz.sizeOf4
  v4:=Tryz.zeroValue4
  t5:=Tryz.underlying5
  a5:=Tryz.isAgg5
  z5:=Tryz.sizeOf5
  v5:=Tryz.zeroValue5
  t9:=Tryz.underlying9
  a9:=Tryz.isAgg9
  z9:=Tryz.sizeOf9
  v9:=Tryz.zeroValue9
  t46:=Tryz.underlying161
  a46:=Tryz.isAgg161
  z46:=Tryz.sizeOf161
  v46:=Tryz.zeroValue161
  t51:=Tryz.underlying182
  a51:=Tryz.isAgg182
  z51:=Tryz.sizeOf182
  v51:=Tryz.zeroValue182
  t146:=Tryz.underlying183
  a146:=Tryz.isAgg183
  z146:=Tryz.sizeOf183
  v146:=Tryz.zeroValue183
  g1:=by kernel_rfl }
open Go.RowKit Go.Lib in
theorem Tryz.strings_Contains (s sub:ByteArray) (m:Int) (w:World) (hs:s.size < 4294967281) (hm:w.cell? ⟨0,0,none⟩=some (.int .i64 m)) :
    Calls Tryz.prog 162 #[.string s,.string sub] w fun e w'=>e=.returned (.bool (Lib.contains s.data.toList sub.data.toList))∧w'=w:=Any.strings_Contains Tryz.lays144 s sub m w hs hm
def Tryz.lays145_ren:Go.Shelf.Ren:=⟨fun | 145=>112 | 220=>150 | 219=>169 | 217=>186 | 225=>187 | 224=>188 | 267=>189 | 266=>209 | 314=>210 | n=>n,fun | 9=>9 | 4=>4 | 59=>155 | 3=>3 | 5=>5 | 46=>161 | 146=>183 | 51=>182 | n=>n,fun | 1=>0 | n=>n⟩
theorem Tryz.lays145:Go.Proofs.Lays.n145 Tryz.prog Tryz.lays145_ren:={
  mixed:=by kernel_rfl
  f145:=Tryz.func112.trans (congrArg some (by kernel_rfl))
  f217:=Tryz.func186.trans (congrArg some (by kernel_rfl))
  f219:=Tryz.func169.trans (congrArg some (by kernel_rfl))
  f220:=Tryz.func150.trans (congrArg some (by kernel_rfl))
  f224:=Tryz.func188.trans (congrArg some (by kernel_rfl))
  f225:=Tryz.func187.trans (congrArg some (by kernel_rfl))
  f266:=Tryz.func209.trans (congrArg some (by kernel_rfl))
  f267:=Tryz.func189.trans (congrArg some (by kernel_rfl))
  f314:=Tryz.func210.trans (congrArg some (by kernel_rfl))
  t3:=Tryz.underlying3
  a3:=Tryz.isAgg3
  z3:=Tryz.sizeOf3
  v3:=Tryz.zeroValue3
  t4:=Tryz.underlying4
  a4:=Tryz.isAgg4
  z4:=Tryz.sizeOf4
  v4:=Tryz.zeroValue4
  t5:=Tryz.underlying5
  a5:=Tryz.isAgg5
  z5:=Tryz.sizeOf5
  v5:=Tryz.zeroValue5
  t9:=Tryz.underlying9
  a9:=Tryz.isAgg9
  z9:=Tryz.sizeOf9
  v9:=Tryz.zeroValue9
  t46:=Tryz.underlying161
  a46:=Tryz.isAgg161
  z46:=Tryz.sizeOf161
  v46:=Tryz.zeroValue161
  t51:=Tryz.underlying182
  a51:=Tryz.isAgg182
  z51:=Tryz.sizeOf182
  v51:=Tryz.zeroValue182
  t59:=Tryz.underlying155
  a59:=Tryz.isAgg155
  z59:=Tryz.sizeOf155
  v59:=Tryz.zeroValue155
  t146:=Tryz.underlying183
  a146:=Tryz.isAgg183
  z146:=Tryz.sizeOf183
  v146:=Tryz.zeroValue183
  g1:=by kernel_rfl }
open Go.RowKit Go.Lib in
theorem Tryz.strings_Cut (s sep:ByteArray) (m:Int) (w:World) (hs:s.size < 4294967281) (hm:w.cell? ⟨0,0,none⟩=some (.int .i64 m)) :
    Calls Tryz.prog 112 #[.string s,.string sep] w fun e w'=>e=.returned (.tuple #[.string ⟨(Lib.cut s.data.toList sep.data.toList).1.toArray⟩,.string ⟨(Lib.cut s.data.toList sep.data.toList).2.1.toArray⟩,.bool (Lib.cut s.data.toList sep.data.toList).2.2])∧∃ n,w'=w.drewN n:=Any.strings_Cut Tryz.lays145 s sep m w hs hm
def Tryz.lays99_ren:Go.Shelf.Ren:=⟨fun | 99=>129 | 206=>158 | n=>n,fun | 9=>9 | 4=>4 | 3=>3 | n=>n,fun | n=>n⟩
theorem Tryz.lays99:Go.Proofs.Lays.n99 Tryz.prog Tryz.lays99_ren:={
  mixed:=by kernel_rfl
  f99:=Tryz.func129.trans (congrArg some (by kernel_rfl))
  f206:=Tryz.func158.trans (congrArg some (by kernel_rfl))
  t3:=Tryz.underlying3
  a3:=Tryz.isAgg3
  z3:=Tryz.sizeOf3
  v3:=Tryz.zeroValue3
  t4:=Tryz.underlying4
  a4:=Tryz.isAgg4
  z4:=Tryz.sizeOf4
  v4:=Tryz.zeroValue4
  t9:=Tryz.underlying9
  a9:=Tryz.isAgg9
  z9:=Tryz.sizeOf9
  v9:=Tryz.zeroValue9 }
open Go.RowKit Go.Lib in
theorem Tryz.strings_HasPrefix (s p:ByteArray) (w:World) :
    Calls Tryz.prog 129 #[.string s,.string p] w fun e w'=>e=.returned (.bool (Lib.hasPrefix s.data.toList p.data.toList))∧w'=w:=Any.strings_HasPrefix Tryz.lays99 s p w
def Tryz.lays155_ren:Go.Shelf.Ren:=⟨fun | 155=>120 | 154=>153 | 138=>171 | 165=>130 | 143=>172 | 166=>131 | 197=>173 | 169=>133 | 195=>191 | 218=>192 | 240=>159 | 241=>160 | 219=>169 | 260=>193 | 276=>175 | 277=>176 | 217=>186 | 225=>187 | 224=>188 | 267=>189 | 266=>209 | 314=>210 | n=>n,fun | 9=>9 | 3=>3 | 4=>4 | 72=>167 | 0=>0 | 76=>170 | 105=>200 | 21=>21 | 5=>5 | 70=>165 | 20=>20 | 37=>22 | 75=>169 | 127=>187 | 164=>202 | 46=>161 | 119=>228 | 139=>231 | 138=>230 | 146=>183 | 51=>182 | 80=>121 | n=>n,fun | 1=>0 | 3=>2 | 4=>3 | n=>n⟩
theorem Tryz.lays155:Go.Proofs.Lays.n155 Tryz.prog Tryz.lays155_ren:={
  mixed:=by kernel_rfl
  f138:=Tryz.func171.trans (congrArg some (by kernel_rfl))
  f143:=Tryz.func172.trans (congrArg some (by kernel_rfl))
  f154:=Tryz.func153.trans (congrArg some (by kernel_rfl))
  f155:=Tryz.func120.trans (congrArg some (by kernel_rfl))
  f165:=Tryz.func130.trans (congrArg some (by kernel_rfl))
  f166:=Tryz.func131.trans (congrArg some (by kernel_rfl))
  f169:=Tryz.func133.trans (congrArg some (by kernel_rfl))
  f195:=Tryz.func191.trans (congrArg some (by kernel_rfl))
  f197:=Tryz.func173.trans (congrArg some (by kernel_rfl))
  f217:=Tryz.func186.trans (congrArg some (by kernel_rfl))
  f218:=Tryz.func192.trans (congrArg some (by kernel_rfl))
  f219:=Tryz.func169.trans (congrArg some (by kernel_rfl))
  f224:=Tryz.func188.trans (congrArg some (by kernel_rfl))
  f225:=Tryz.func187.trans (congrArg some (by kernel_rfl))
  f240:=Tryz.func159.trans (congrArg some (by kernel_rfl))
  f241:=Tryz.func160.trans (congrArg some (by kernel_rfl))
  f260:=Tryz.func193.trans (congrArg some (by kernel_rfl))
  f266:=Tryz.func209.trans (congrArg some (by kernel_rfl))
  f267:=Tryz.func189.trans (congrArg some (by kernel_rfl))
  f276:=Tryz.func175.trans (congrArg some (by kernel_rfl))
  f277:=Tryz.func176.trans (congrArg some (by kernel_rfl))
  f314:=Tryz.func210.trans (congrArg some (by kernel_rfl))
  t0:=Tryz.underlying0
  a0:=Tryz.isAgg0
  z0:=Tryz.sizeOf0
  v0:=Tryz.zeroValue0
  t3:=Tryz.underlying3
  a3:=Tryz.isAgg3
  z3:=Tryz.sizeOf3
  v3:=Tryz.zeroValue3
  t4:=Tryz.underlying4
  a4:=Tryz.isAgg4
  z4:=Tryz.sizeOf4
  v4:=Tryz.zeroValue4
  t5:=Tryz.underlying5
  a5:=Tryz.isAgg5
  z5:=Tryz.sizeOf5
  v5:=Tryz.zeroValue5
  t9:=Tryz.underlying9
  a9:=Tryz.isAgg9
  z9:=Tryz.sizeOf9
  v9:=Tryz.zeroValue9
  t20:=Tryz.underlying20
  a20:=Tryz.isAgg20
  z20:=Tryz.sizeOf20
  v20:=Tryz.zeroValue20
  t21:=Tryz.underlying21
  a21:=Tryz.isAgg21
  z21:=Tryz.sizeOf21
  v21:=Tryz.zeroValue21
  t37:=Tryz.underlying22
  a37:=Tryz.isAgg22
  z37:=Tryz.sizeOf22
  v37:=Tryz.zeroValue22
  t46:=Tryz.underlying161
  a46:=Tryz.isAgg161
  z46:=Tryz.sizeOf161
  v46:=Tryz.zeroValue161
  t51:=Tryz.underlying182
  a51:=Tryz.isAgg182
  z51:=Tryz.sizeOf182
  v51:=Tryz.zeroValue182
  t70:=Tryz.underlying165
  a70:=Tryz.isAgg165
  z70:=Tryz.sizeOf165
  v70:=Tryz.zeroValue165
  t72:=Tryz.underlying167
  a72:=Tryz.isAgg167
  z72:=Tryz.sizeOf167
  v72:=Tryz.zeroValue167
  t75:=Tryz.underlying169
  a75:=Tryz.isAgg169
  z75:=Tryz.sizeOf169
  v75:=Tryz.zeroValue169
  t76:=Tryz.underlying170
  a76:=Tryz.isAgg170
  z76:=Tryz.sizeOf170
  v76:=Tryz.zeroValue170
  t105:=Tryz.underlying200
  a105:=Tryz.isAgg200
  z105:=Tryz.sizeOf200
  v105:=Tryz.zeroValue200
  t119:=Tryz.underlying228
  a119:=Tryz.isAgg228
  z119:=Tryz.sizeOf228
  t127:=Tryz.underlying187
  a127:=Tryz.isAgg187
  z127:=Tryz.sizeOf187
  v127:=Tryz.zeroValue187
  t138:=Tryz.underlying230
  a138:=Tryz.isAgg230
  z138:=Tryz.sizeOf230
  v138:=Tryz.zeroValue230
  t139:=Tryz.underlying231
  a139:=Tryz.isAgg231
  z139:=Tryz.sizeOf231
  v139:=Tryz.zeroValue231
  t146:=Tryz.underlying183
  a146:=Tryz.isAgg183
  z146:=Tryz.sizeOf183
  v146:=Tryz.zeroValue183
  t164:=Tryz.underlying202
  a164:=Tryz.isAgg202
  z164:=Tryz.sizeOf202
  v164:=Tryz.zeroValue202
  g1:=by kernel_rfl
  g3:=by kernel_rfl
  g4:=by kernel_rfl }
theorem Tryz.Builder_Extra_155:Builder.Extra Tryz.prog Tryz.lays155_ren:={
  sizeBuilder:=by kernel_rfl
  liesBuilder:=by kernel_rfl
  t5:=Tryz.underlying5
  a5:=Tryz.isAgg5
  z5:=Tryz.sizeOf5
  v5:=Tryz.zeroValue5
  infoByte:=by kernel_rfl
  cellsByte:=by kernel_rfl
  sizeByte:=by kernel_rfl
  neB5:=by decide }
open Go.RowKit Go.Lib in
theorem Tryz.strings_ReplaceAll (s old new:ByteArray) (m:Int) (w:World) (hs:s.size < 4294967281) (hm:w.cell? ⟨0,0,none⟩=some (.int .i64 m)) (h1:1≤old.size) (hlen:s.size+Lib.countB s old*new.size≤140737488355328) :
    Calls Tryz.prog 120 #[.string s,.string old,.string new] w fun e w' =>
      e=.returned (.string ⟨(Lib.replaceAll s.data.toList old.data.toList new.data.toList).toArray⟩)∧Below w.heap.size w w':=Any.strings_ReplaceAll Tryz.lays155 Tryz.Builder_Extra_155 s old new m w hs hm h1 hlen
def Tryz.lays105_ren:Go.Shelf.Ren:=⟨fun | 105=>94 | 212=>128 | 99=>129 | 165=>130 | 166=>131 | 170=>132 | 169=>133 | 263=>156 | 264=>157 | 206=>158 | 240=>159 | 241=>160 | 276=>175 | 277=>176 | n=>n,fun | 9=>9 | 3=>3 | 4=>4 | 20=>20 | 0=>0 | 46=>161 | 109=>162 | 5=>5 | 72=>167 | 76=>170 | 51=>182 | 146=>183 | 53=>66 | 148=>185 | 70=>165 | 37=>22 | 75=>169 | 127=>187 | 164=>202 | 80=>121 | n=>n,fun | n=>n⟩
theorem Tryz.lays105:Go.Proofs.Lays.n105 Tryz.prog Tryz.lays105_ren:={
  mixed:=by kernel_rfl
  f99:=Tryz.func129.trans (congrArg some (by kernel_rfl))
  f105:=Tryz.func94.trans (congrArg some (by kernel_rfl))
  f165:=Tryz.func130.trans (congrArg some (by kernel_rfl))
  f166:=Tryz.func131.trans (congrArg some (by kernel_rfl))
  f169:=Tryz.func133.trans (congrArg some (by kernel_rfl))
  f170:=Tryz.func132.trans (congrArg some (by kernel_rfl))
  f206:=Tryz.func158.trans (congrArg some (by kernel_rfl))
  f212:=Tryz.func128.trans (congrArg some (by kernel_rfl))
  f240:=Tryz.func159.trans (congrArg some (by kernel_rfl))
  f241:=Tryz.func160.trans (congrArg some (by kernel_rfl))
  f263:=Tryz.func156.trans (congrArg some (by kernel_rfl))
  f264:=Tryz.func157.trans (congrArg some (by kernel_rfl))
  f276:=Tryz.func175.trans (congrArg some (by kernel_rfl))
  f277:=Tryz.func176.trans (congrArg some (by kernel_rfl))
  t0:=Tryz.underlying0
  a0:=Tryz.isAgg0
  z0:=Tryz.sizeOf0
  v0:=Tryz.zeroValue0
  t3:=Tryz.underlying3
  a3:=Tryz.isAgg3
  z3:=Tryz.sizeOf3
  v3:=Tryz.zeroValue3
  t4:=Tryz.underlying4
  a4:=Tryz.isAgg4
  z4:=Tryz.sizeOf4
  v4:=Tryz.zeroValue4
  t5:=Tryz.underlying5
  a5:=Tryz.isAgg5
  z5:=Tryz.sizeOf5
  v5:=Tryz.zeroValue5
  t9:=Tryz.underlying9
  a9:=Tryz.isAgg9
  z9:=Tryz.sizeOf9
  v9:=Tryz.zeroValue9
  t20:=Tryz.underlying20
  a20:=Tryz.isAgg20
  z20:=Tryz.sizeOf20
  v20:=Tryz.zeroValue20
  t37:=Tryz.underlying22
  a37:=Tryz.isAgg22
  z37:=Tryz.sizeOf22
  v37:=Tryz.zeroValue22
  t46:=Tryz.underlying161
  a46:=Tryz.isAgg161
  z46:=Tryz.sizeOf161
  v46:=Tryz.zeroValue161
  t51:=Tryz.underlying182
  a51:=Tryz.isAgg182
  z51:=Tryz.sizeOf182
  v51:=Tryz.zeroValue182
  t53:=Tryz.underlying66
  a53:=Tryz.isAgg66
  z53:=Tryz.sizeOf66
  v53:=Tryz.zeroValue66
  t70:=Tryz.underlying165
  a70:=Tryz.isAgg165
  z70:=Tryz.sizeOf165
  v70:=Tryz.zeroValue165
  t72:=Tryz.underlying167
  a72:=Tryz.isAgg167
  z72:=Tryz.sizeOf167
  v72:=Tryz.zeroValue167
  t75:=Tryz.underlying169
  a75:=Tryz.isAgg169
  z75:=Tryz.sizeOf169
  v75:=Tryz.zeroValue169
  t76:=Tryz.underlying170
  a76:=Tryz.isAgg170
  z76:=Tryz.sizeOf170
  v76:=Tryz.zeroValue170
  t109:=Tryz.underlying162
  a109:=Tryz.isAgg162
  z109:=Tryz.sizeOf162
  v109:=Tryz.zeroValue162
  t127:=Tryz.underlying187
  a127:=Tryz.isAgg187
  z127:=Tryz.sizeOf187
  v127:=Tryz.zeroValue187
  t146:=Tryz.underlying183
  a146:=Tryz.isAgg183
  z146:=Tryz.sizeOf183
  v146:=Tryz.zeroValue183
  t148:=Tryz.underlying185
  a148:=Tryz.isAgg185
  z148:=Tryz.sizeOf185
  v148:=Tryz.zeroValue185
  t164:=Tryz.underlying202
  a164:=Tryz.isAgg202
  z164:=Tryz.sizeOf202
  v164:=Tryz.zeroValue202 }
theorem Tryz.Builder_Extra_105:Builder.Extra Tryz.prog Tryz.lays105_ren:={
  sizeBuilder:=by kernel_rfl
  liesBuilder:=by kernel_rfl
  t5:=Tryz.underlying5
  a5:=Tryz.isAgg5
  z5:=Tryz.sizeOf5
  v5:=Tryz.zeroValue5
  infoByte:=by kernel_rfl
  cellsByte:=by kernel_rfl
  sizeByte:=by kernel_rfl
  neB5:=by decide }
open Go.RowKit Go.Lib in
theorem Tryz.strings_Repeat (s:ByteArray) (c:Nat) (w:World) (hc:c≤9223372036854775807) (hlen:s.size*c≤140737488355328) :
    Calls Tryz.prog 94 #[.string s,.int .i64 c] w fun e w'=>e=.returned (.string ⟨(Lib.repeatL s.data.toList c).toArray⟩)∧Below w.heap.size w w':=Any.strings_Repeat Tryz.lays105 Tryz.Builder_Extra_105 s c w hc hlen
end Go.Proofs
namespace Go.Proofs.YtfbcnpbhhooapaaGreatDoor.M
open Go Classical
theorem compC_slices_Clone_int_int:comp Tryz.prog Tryz.f144=some ⟨1,8,zri 1 8 [.int .i64 0],[.t 2]⟩:=by kernel_rfl
theorem extsOk [Base] (hT:Lib.TabIs Tryz.prog Base.base "internal/strconv.uint64pow10" .u64 Lib.pow10Tab) (hM:∃ m,Base.base.cell? ⟨0,0,none⟩=some (.int .i64 m)) (hS:∃ te pe,Base.base.cell? ⟨4,0,none⟩=some (.iface te pe)) (hR:∃ te pe,Base.base.cell? ⟨5,0,none⟩=some (.iface te pe)):∀ (f:Nat) (y:XF),zq1 f=some y→XOk Tryz.prog f y:=fun f y h=>by
  unfold zq1 at h
  by_cases e106:f=106
  ·subst e106
   rw[if_pos rfl] at h
   obtain rfl:=Option.some.inj h
   exact ztn Tryz.func106 rfl (by decide) hT (fun n h0 h1 w hT=>Tryz.strconv_Itoa n h0 h1 w hT)
  rw[if_neg e106] at h
  by_cases e108:f=108
  ·subst e108
   rw[if_pos rfl] at h
   obtain rfl:=Option.some.inj h
   exact zt3 Tryz.func108 rfl (by decide) (fun b w=>Tryz.strconv_FormatBool b w)
  rw[if_neg e108] at h
  by_cases e94:f=94
  ·subst e94
   rw[if_pos rfl] at h
   obtain rfl:=Option.some.inj h
   exact zqy Tryz.func94 rfl (by decide) (fun s c w h1 h2=>Tryz.strings_Repeat s c w h1 h2)
  rw[if_neg e94] at h
  by_cases e112:f=112
  ·subst e112
   rw[if_pos rfl] at h
   obtain rfl:=Option.some.inj h
   exact zxi Tryz.func112 rfl (by decide) hM (fun s p m w h1 h2=>Tryz.strings_Cut s p m w h1 h2)
  rw[if_neg e112] at h
  by_cases e179:f=179
  ·subst e179
   rw[if_pos rfl] at h
   obtain rfl:=Option.some.inj h
   exact zs9 Tryz.func179 rfl (by decide) (fun s c w=>Tryz.strings_IndexByte s c w)
  rw[if_neg e179] at h
  by_cases e129:f=129
  ·subst e129
   rw[if_pos rfl] at h
   obtain rfl:=Option.some.inj h
   exact zpS Tryz.func129 rfl (by decide) (fun s p w=>Tryz.strings_HasPrefix s p w)
  rw[if_neg e129] at h
  by_cases e162:f=162
  ·subst e162
   rw[if_pos rfl] at h
   obtain rfl:=Option.some.inj h
   exact znX Tryz.func162 rfl (by decide) hM (fun s p m w h1 h2=>Tryz.strings_Contains s p m w h1 h2)
  rw[if_neg e162] at h
  by_cases e120:f=120
  ·subst e120
   rw[if_pos rfl] at h
   obtain rfl:=Option.some.inj h
   exact zoG Tryz.func120 rfl (by decide) hM (fun s o n m w h1 h2 h3 h4=>Tryz.strings_ReplaceAll s o n m w h1 h2 h3 h4)
  rw[if_neg e120] at h
  by_cases e163:f=163
  ·subst e163
   rw[if_pos rfl] at h
   obtain rfl:=Option.some.inj h
   exact zuP Tryz.func163 rfl (by decide) hS hR (fun s v w h1 h2=>Tryz.strconv_Atoi_ok s h1 v h2 w) (fun s te pe w h1 h2 h3=>(Tryz.strconv_Atoi_syntax s h1 h2 _ w h3 (.inr ⟨_,_,rfl⟩)).mono fun e w' ⟨N,he,_,_,hb⟩=>⟨_,he,hb⟩) (fun s te pe w h1 h2 h3=>(Tryz.strconv_Atoi_range s h1 h2 _ w h3 (.inr ⟨_,_,rfl⟩)).mono fun e w' ⟨N,he,_,_,hb⟩=>⟨_,he,hb⟩)
  rw[if_neg e163] at h
  by_cases e144:f=144
  ·subst e144
   rw[if_pos rfl] at h
   obtain rfl:=Option.some.inj h
   exact zrZ (by kernel_rfl) Tryz.func144 compC_slices_Clone_int_int (by decide)
  rw[if_neg e144] at h
  by_cases e36:f=36
  ·subst e36
   rw[if_pos rfl] at h
   obtain rfl:=Option.some.inj h
   exact zs3
  rw[if_neg e36] at h
  by_cases e47:f=47
  ·subst e47
   rw[if_pos rfl] at h
   obtain rfl:=Option.some.inj h
   exact zso
  rw[if_neg e47] at h
  cases h
end Go.Proofs.YtfbcnpbhhooapaaGreatDoor.M
namespace Go.Proofs.YtfbcnpbhhooapaaGreatDoor.M
set_option linter.constructorNameAsVariable false
open Go Classical
theorem ht9:∀ (n:Nat) (vs:List PV),Has Tryz.prog n 9 vs→∃ x:List UInt8,vs=[.str x]∧x.length≤maxLen:=fun n vs h=>by
  obtain⟨x,rfl,w⟩:=h.str Tryz.underlying9
  exact⟨x,rfl,w⟩
theorem specParseTexts:∀ pvs,HasAll Tryz.prog [9] pvs→call (zfF Tryz.prog zq1) 11 pvs []=.ok (.v (.bool true)) []:=by
  intro pvs h
  obtain⟨v0,r0,rfl,g0,h⟩:=h.cons_inv
  obtain rfl:=h.nil_inv
  obtain⟨n0,g0⟩:=g0.one Tryz.underlying9 (fun fs h=>by cases h)
  obtain⟨x0,e0,h0⟩:=ht9 _ _ g0
  obtain rfl:=List.cons.inj e0 |>.1
  exact (znL x0:zpY x0 true) []
end Go.Proofs.YtfbcnpbhhooapaaGreatDoor.M

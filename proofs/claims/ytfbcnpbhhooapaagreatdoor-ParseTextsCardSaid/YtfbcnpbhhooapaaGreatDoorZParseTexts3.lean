/- Parts of a proof, one behind another: Bk3, X0, R, R2, Lu, Sc4, Lt4, Wp2, Sc20, Lt20, Wq1, Wq2, Wq3, Wq4, Wq5, G4. -/
import Derived.Test.YtfbcnpbhhooapaaGreatDoorZParseTexts2
import Derived.KernelRfl
import Derived.Test.YtfbcnpbhhooapaaGreatDoorProg
set_option linter.unusedSimpArgs false
set_option linter.unusedVariables false
set_option linter.unusedSectionVars false
set_option maxHeartbeats 4000000
namespace Go.Proofs.YtfbcnpbhhooapaaGreatDoor.M
open Go Go.RowKit Classical
section
variable [Base] {g g':Gh} {S S':Sto} {w w':World} {P:Program}
def zmB (g:Gh):Gh:=⟨fun _ _=>none,fun _ _=>none,g.fz⟩
theorem ziJ (g:Gh) (x:Ow):(zmB g).own x=none:=by cases x <;> rfl
theorem ztt {W:World} (hw:WR g S w) (hb:Below w.heap.size w W):WR (zmB g) [] W where
 ok:=⟨Nat.le_trans hw.ok.size hb.size,fun k hk=>(hb.block k (Nat.lt_of_lt_of_le hk hw.ok.size)).trans (hw.ok.keep k hk),fun x k h=>by rw[ziJ] at h;cases h⟩
 fz:=fun b o v h=>by
  have h1:=hw.fz b o v h
  have hlt:=zc6 h1
  unfold World.cell? at h1 ⊢
  rw[hb.block b hlt]
  exact h1
 box:=fun n t b h=>by cases h
 arr:=fun n k ai h=>by cases h
 inj:=fun x y b h=>by rw[ziJ] at h;cases h
theorem zn7 {cl:zi} (hcl:zak P cl) {f:Nat} {args:List PV} {v:PV} (ho:zaR cl f args=some v) {W:World} (hw:WR g S w) (hb:Below w.heap.size w W) {cs:Array Value} (ha:zcG (zmB g) args cs) (he:(callFunc f cs).run P W=.ok (.enter f cs) W) :
  Calls P f cs W fun e W'=>∃ c g',e=.returned c∧VR g' v c∧Below W.heap.size W W':=by
 have h1:=ziy ho
 have h2:=hcl f args [] (by rw[h1];intro e;cases e) (zmB g) W cs (ztt hw hb) ha
 rw[h1] at h2
 rcases h2 with⟨_,h2⟩ | ⟨c,W',h2,_⟩
 ·refine h2.mono fun e W' h=>?_
  cases e with
  | returned c =>
   obtain⟨g',_,_,ht,hv,_⟩:=h
   exact⟨c,g',rfl,hv,ht.os,ht.tape,ht.output,ht.size,fun k hk=>ht.keep k hk fun x=>by rw[ziJ];exact fun e=>by cases e⟩
  | panicked ch=>exact h.elim
  | outgrown=>exact h.elim
 rw[he] at h2
 cases h2
theorem zkP {g:Gh} {k:IntKind} {n:Int} {c:Value} (h:VR g (.int k n) c):c=.int k n:=by
 cases h with
 | data _ _ h=>cases h;rfl
theorem zvO {g:Gh} {b:Bool} {c:Value} (h:VR g (.bool b) c):c=.bool b:=by
 cases h with
 | data _ _ h=>cases h;rfl
def zfR:List (List PV)→Option (List Int)
 | []=>some []
 | [.int .i64 k]::l=>(zfR l).map (k::·)
 | _=>none
def zgR (lv:PV) (k:List Int→Qn):Nat→List Int→Qn
 | 0,acc=>k acc
 | n+1,acc=>.ask 47 [lv,.int .i64 (acc.length:Nat)] fun r=>match r with
  | .int .i64 v=>if v≤(acc.length:Nat) then zgR lv k n (acc++[v]) else .no
  | _=>.no
def znM (lv:PV) (kind num:Int) (text:List UInt8) (l3 l4:PV) (ks:List Int) (e:Int):Qn :=
 .ask 73 [.int .i64 kind] fun kk=>match kk with
  | .int .i64 kk=>if kk≠(ks.length:Nat)∧kk≠-1 then .ret (.int .i64 (-1)) else
   .ask 74 [.agg [.int .i64 kind,.int .i64 num,.str text,l3,l4]] fun pp=>match pp with
    | .bool pp=>if pp=false then .ret (.int .i64 (-1)) else zgR lv (fun rs=>.ret (.int .i64 (Bk.run (fun k=>(rs[k.toNat]?).getD 0) e ks.reverse))) e.toNat []
    | _=>.no
  | _=>.no
def zh2:List PV→Qn
 | [.list 5 rows full,.int .i64 e] =>
  if 0≤e∧e.toNat < rows.length∧rows.length≤1000000000 then
   match rows[e.toNat]? with
   | some [.int .i64 kind,.int .i64 num,.str text,.list z3 r3 f3,.list 1 r4 f4] =>
    match zfR r4 with
    | some ks=>if ks.length≤1000000000 then znM (.list 5 rows full) kind num text (.list z3 r3 f3) (.list 1 r4 f4) ks e else .no
    | none=>.no
   | _=>.no
  else .no
 | _=>.no
theorem zk4:∀ {r:List (List PV)} {ks:List Int},zfR r=some ks→r=ks.map fun k=>[PV.int .i64 k]
 | [],ks,h=>by cases h;rfl
 | a::l,ks,h=>by
  unfold zfR at h
  split at h
  ·rename_i e
   cases e
  ·rename_i k l' e
   obtain⟨q,hq,rfl⟩:=Option.map_eq_some_iff.1 h
   obtain⟨rfl,rfl⟩:=List.cons.inj e
   rw[List.map_cons,←zk4 hq]
  cases h
theorem zq2 {v:PV} {c:Value} (h:VR g v c):zcG g [v] #[c]:=⟨rfl,fun i u hu=>by
 match i,hu with
 | 0,hu=>cases hu;exact h⟩
theorem zya {v u:PV} {c d:Value} (h:VR g v c) (h':VR g u d):zcG g [v,u] #[c,d]:=⟨rfl,fun i x hx=>by
 match i,hx with
 | 0,hx=>cases hx;exact h
 | 1,hx=>cases hx;exact h'⟩
theorem zvI {a0 a1 a2 a3 a4:PV} {u0 u1 u2 u3 u4:Value} (h0:VR g a0 u0) (h1:VR g a1 u1) (h2:VR g a2 u2) (h3:VR g a3 u3) (h4:VR g a4 u4):VR g (.agg [a0,a1,a2,a3,a4]) (.agg #[u0,u1,u2,u3,u4]) :=
 .agg _ _ rfl fun i v hv=>by
  match i,hv with
  | 0,hv=>cases hv;exact h0
  | 1,hv=>cases hv;exact h1
  | 2,hv=>cases hv;exact h2
  | 3,hv=>cases hv;exact h3
  | 4,hv=>cases hv;exact h4
theorem zlY {o:Nat→List PV→Option PV} {lv:PV} {k:List Int→Qn} {v:PV}:∀ (n:Nat) (acc:List Int),(zgR lv k n acc).ev o=some v→∃ rs,rs.length=acc.length+n∧(∀ j,j < acc.length→rs[j]?=acc[j]?)∧(k rs).ev o=some v∧∀ j,acc.length≤j→j < rs.length→∃ u,rs[j]?=some u∧u≤(j:Nat)∧o 47 [lv,.int .i64 (j:Nat)]=some (.int .i64 u)
 | 0,acc,h=>⟨acc,rfl,fun _ _=>rfl,h,fun j h1 h2=>by omega⟩
 | n+1,acc,h=>by
  simp only[zgR,Qn.ev] at h
  cases ho:o 47 [lv,.int .i64 (acc.length:Nat)] with
  | none=>rw[ho] at h;cases h
  | some r =>
   rw[ho] at h
   simp only at h
   split at h
   ·rename_i u
    split at h
    ·rename_i hu
     obtain⟨rs,h1,h2,h3,h4⟩:=zlY n (acc++[u]) h
     simp only[List.length_append,List.length_cons,List.length_nil] at h1 h2 h4
     refine⟨rs,by omega,fun j hj=>(h2 j (by omega)).trans (List.getElem?_append_left hj),h3,fun j hj1 hj2=>?_⟩
     by_cases e:j=acc.length
     ·subst e
      refine⟨u,(h2 acc.length (by omega)).trans (by simp),hu,ho⟩
     exact h4 j (by omega) hj2
    cases h
   cases h
end
theorem zso [Base]:zvf Tryz.prog 47 zh2:=by
 intro cl hcl hm args v hq g S w cs hw ha
 unfold zh2 at hq
 split at hq
 ·rename_i rows full e
  split at hq
  ·rename_i hc
   obtain⟨he0,hel,hrl⟩:=hc
   split at hq
   ·rename_i kind num text z3 r3 f3 r4 f4 hrow
    split at hq
    ·rename_i ks hks
     split at hq
     ·rename_i hkl
      obtain⟨c,d,rfl,h1,h2⟩:=zi3 ha
      obtain rfl:=zkP h2
      cases h1 with
      | data _ _ h1 =>
       have h10:=h1
       cases h1 with
       | list _ _ _ A cap cv hl hf hs hA hcell hv =>
        have hne:rows≠[]:=fun e=>by rw[e] at hel;simp at hel
        obtain⟨ad,rfl,hspot⟩:=hA hne
        obtain⟨bl,ol,sp⟩:=ad
        simp only at hspot
        subst hspot
        have q:∀ (j:Nat) (u:PV),[PV.int .i64 kind,.int .i64 num,.str text,.list z3 r3 f3,.list 1 r4 f4][j]?=some u→w.cell? ⟨bl,ol+(e.toNat*5+j),none⟩=some (cv e.toNat j)∧FR g.fz u (cv e.toNat j):=fun j u hu =>
         ⟨hw.fz _ _ _ (hcell ⟨bl,ol,none⟩ e.toNat j _ u rfl hrow hu),hv e.toNat j _ u hrow hu⟩
        obtain⟨q0,v0⟩:=q 0 _ rfl
        obtain⟨q1,v1⟩:=q 1 _ rfl
        obtain⟨q2,v2⟩:=q 2 _ rfl
        obtain⟨q3,v3⟩:=q 3 _ rfl
        obtain⟨q4,v4⟩:=q 4 _ rfl
        have w3:=v3
        have w4:=v4
        generalize cv e.toNat 0=u0 at *
        generalize cv e.toNat 1=u1 at *
        generalize cv e.toNat 2=u2 at *
        generalize cv e.toNat 3=u3 at *
        generalize cv e.toNat 4=u4 at *
        cases v0
        cases v1
        cases v2
        cases v3 with
        | list _ _ _ A3 c3 _ _ _ _ _ _ _ =>
         cases v4 with
         | list _ _ _ A4 c4 cv4 _ _ _ hA4 hcell4 hv4 =>
          have hbl:bl < w.heap.size:=zc6 q0
          have hr4:=zk4 hks
          have hl4:r4.length=ks.length:=by rw[hr4,List.length_map]
          have hkid:∀ j,j < ks.length→r4[j]?=some [.int .i64 ((ks[j]?).getD 0)]:=fun j hj=>by rw[hr4,List.getElem?_map,List.getElem?_eq_getElem hj];rfl
          have hI:Bk.Ints w.heap.size w (.slice A4 r4.length c4) ks:=by
           by_cases h0:0 < ks.length
           ·have hne4:r4≠[]:=fun e=>by rw[e] at hl4;simp at hl4;omega
            obtain⟨⟨b4,o4,sp4⟩,rfl,hs4⟩:=hA4 hne4
            simp only at hs4
            subst hs4
            have hcell4':∀ j,j < ks.length→w.cell? ⟨b4,o4+j,none⟩=some (.int .i64 ((ks[j]?).getD 0)):=fun j hj=>by
             have h5:=hcell4 ⟨b4,o4,none⟩ j 0 _ _ rfl (hkid j hj) rfl
             have h6:=hv4 j 0 _ _ (hkid j hj) rfl
             have h7:=hw.fz _ _ _ h5
             simp only[Nat.mul_one,Nat.add_zero] at h7
             rw[h7,zkP (g:=g) (.data _ _ h6)]
            exact .inr ⟨h0,b4,o4,c4,by rw[hl4],zc6 (hcell4' 0 h0),hcell4'⟩
           exact .inl ⟨A4,c4,by rw[hl4,show ks.length=0 by omega],List.length_eq_zero_iff.1 (by omega)⟩
          have ee:e=((e.toNat:Nat):Int):=by omega
          unfold znM at hq
          simp only[Qn.ev] at hq
          cases hk73:zaR cl 73 [.int .i64 kind] with
          | none=>rw[hk73] at hq;cases hq
          | some k73 =>
           rw[hk73] at hq
           simp only at hq
           split at hq
           ·rename_i kk
            have hK:∀ W,Below w.heap.size w W→Calls Tryz.prog 73 #[.int .i64 kind] W fun x W'=>x=.returned (.int .i64 kk)∧Below W.heap.size W W':=fun W hb =>
             (zn7 hcl hk73 hw hb (zq2 (.data _ _ (.int _ _))) (enters_of Tryz.func73 (by kernel_rfl) rfl _ _)).mono fun x W' ⟨c,g',h1,h2,h3⟩=>⟨by rw[h1,zkP h2],h3⟩
            have fin:∀ (res:Int) (pp:Bool) (o:Int→Int),
              ((kk=ks.length∨kk=-1)→∀ W,Below w.heap.size w W→Calls Tryz.prog 74 #[.agg #[.int .i64 kind,.int .i64 num,.string ⟨text.toArray⟩,.slice A3 r3.length c3,.slice A4 r4.length c4]] W fun x W'=>x=.returned (.bool pp)∧Below W.heap.size W W') →
              ((kk=ks.length∨kk=-1)→pp=true→∀ k:Int,0≤k→k < e.toNat→o k≤k∧∀ W,Below w.heap.size w W→Calls Tryz.prog 47 #[.slice (some ⟨bl,ol,none⟩) rows.length cap,.int .i64 k] W fun x W'=>x=.returned (.int .i64 (o k))∧Below W.heap.size W W') →
              (res=if (kk≠ks.length∧kk≠-1)∨pp=false then -1 else Bk.run o e.toNat ks.reverse)→v=.int .i64 res →
              Answers Tryz.prog 47 #[.slice (some ⟨bl,ol,none⟩) rows.length cap,.int .i64 e] w (zap g S w (.ok (.v v) S)):=fun res pp o hP hB hr hv=>by
             have key:=Bk.begin_in w bl ol rows.length cap e.toNat kind num ⟨text.toArray⟩ A3 A4 r3.length c3 r4.length c4 ks kk pp o res hbl hel hrl hl q0 q1 q2 q3 q4 hl4 hI hkl hK hP hB hr
             rw[←ee] at key
             subst hv
             left
             refine⟨enters_of Tryz.func47 (by kernel_rfl) rfl _ _,key.mono fun x W' ⟨h1,h2⟩=>?_⟩
             subst h1
             exact znA hw h2 (.data _ _ (.int _ _))
            split at hq
            ·rename_i hkk
             simp only[Qn.ev,Option.some.injEq] at hq
             exact fin (-1) false (fun _=>0) (fun h=>absurd h (by rintro (h | h);exact hkk.1 h;exact hkk.2 h)) (fun _ h=>by cases h) (by rw[if_pos (.inl hkk)]) hq.symm
            rename_i hkk
            simp only[Qn.ev] at hq
            cases hk74:zaR cl 74 [.agg [.int .i64 kind,.int .i64 num,.str text,.list z3 r3 f3,.list 1 r4 f4]] with
            | none=>rw[hk74] at hq;cases hq
            | some k74 =>
             rw[hk74] at hq
             simp only at hq
             split at hq
             ·rename_i pp
              have hP:(kk=ks.length∨kk=-1)→∀ W,Below w.heap.size w W→Calls Tryz.prog 74 #[.agg #[.int .i64 kind,.int .i64 num,.string ⟨text.toArray⟩,.slice A3 r3.length c3,.slice A4 r4.length c4]] W fun x W'=>x=.returned (.bool pp)∧Below W.heap.size W W':=fun _ W hb =>
               (zn7 hcl hk74 hw hb (zq2 (zvI (.data _ _ (.int _ _)) (.data _ _ (.int _ _)) (.data _ _ (.str _)) (.data _ _ w3) (.data _ _ w4))) (enters_of Tryz.func74 (by kernel_rfl) rfl _ _)).mono fun x W' ⟨c,g',h1,h2,h3⟩=>⟨by rw[h1,zvO h2],h3⟩
              split at hq
              ·rename_i hpp
               subst hpp
               simp only[Qn.ev,Option.some.injEq] at hq
               exact fin (-1) false (fun _=>0) hP (fun _ h=>by cases h) (by rw[if_pos (.inr rfl)]) hq.symm
              rename_i hpp
              obtain⟨rs,r1,r2,r3',r4'⟩:=zlY _ _ hq
              simp only[List.length_nil,Nat.zero_add] at r1 r4'
              simp only[Qn.ev,Option.some.injEq] at r3'
              refine fin _ pp (fun k=>(rs[k.toNat]?).getD 0) hP (fun _ _ k k0 k1=>?_) (by rw[if_neg (by rintro (h | h);exact hkk h;exact hpp h)]) (by rw[←r3',←ee])
              obtain⟨u,u1,u2,u3⟩:=r4' k.toNat (by omega) (by omega)
              have ek:((k.toNat:Nat):Int)=k:=by omega
              rw[ek] at u2 u3
              have e1:(rs[k.toNat]?).getD 0=u:=by rw[u1];rfl
              simp only[e1]
              exact⟨u2,fun W hb=>(zn7 hcl u3 hw hb (zya (.data _ _ h10) (.data _ _ (.int _ _))) (enters_of Tryz.func47 (by kernel_rfl) rfl _ _)).mono fun x W' ⟨c,g',h1,h2,h3⟩=>⟨by rw[h1,zkP h2],h3⟩⟩
             cases hq
           cases hq
     cases hq
    cases hq
   cases hq
  cases hq
 cases hq
end Go.Proofs.YtfbcnpbhhooapaaGreatDoor.M
namespace Go.Proofs.YtfbcnpbhhooapaaGreatDoor.M
open Go Classical
noncomputable def zq1:Nat→Option XF:=fun f=>if f=106 then some (.fn (zmG)) else if f=108 then some (.fn (zqk)) else if f=94 then some (.fn (zld)) else if f=112 then some (.fn (zqb)) else if f=179 then some (.fn (zig)) else if f=129 then some (.fn (zjp)) else if f=162 then some (.fn (zgc)) else if f=120 then some (.fn (zfx)) else if f=163 then some (.fn (zi8 218)) else if f=144 then some (.fn (ziI 1 8)) else if f=36 then some (.rcv rcv_Q36) else if f=47 then some (.orc zh2) else  none
noncomputable def SP:Prg:=zfF Tryz.prog zq1
theorem zkG:SP 106=some (.ext (zmG)):=rfl
theorem zlj:SP 112=some (.ext (zqb)):=rfl
theorem zg9:SP 179=some (.ext (zig)):=rfl
theorem zhm:SP 129=some (.ext (zjp)):=rfl
theorem zhX:SP 162=some (.ext (zgc)):=rfl
theorem zgL:SP 120=some (.ext (zfx)):=rfl
theorem zgg:SP 163=some (.ext (zi8 218)):=rfl
theorem zfX:SP 144=some (.ext (ziI 1 8)):=rfl
theorem zod:SP 36=some (.rcv rcv_Q36):=rfl
theorem zxW:SP 47=some (.orc zh2):=rfl
end Go.Proofs.YtfbcnpbhhooapaaGreatDoor.M
namespace Go.Proofs.YtfbcnpbhhooapaaGreatDoor.M
open Go Classical
def zpY (x0:List UInt8) (r0:Bool):Prop:=∀ (S:Sto),call SP 11 [.str x0] S=.ok (.v (.bool r0)) S
def zhy (r0:Bool):Prop:=∀ (S:Sto),call SP 15 [] S=.ok (.v (.bool r0)) S
def zc9 (x0:List UInt8) (r0:List Block) (r1:Int):Prop:=∀ (S:Sto),call SP 17 [.str x0] S=.ok (.v (.tup [.list 4 (r0.map zF) false,.int .i64 r1])) S
def zfk (x0:Int) (r0:Int):Prop:=∀ (S:Sto),call SP 18 [.int .i64 x0] S=.ok (.v (.int .i64 r0)) S
def zdv (x0:List Block) (x1:List Block) (r0:Bool):Prop:=∀ (S:Sto),call SP 19 [.list 4 (x0.map zF) false,.list 4 (x1.map zF) false] S=.ok (.v (.bool r0)) S
def zeD (x0:List UInt8) (r0:List Node) (r1:Int):Prop:=∀ (S:Sto),call SP 20 [.str x0] S=.ok (.v (.tup [.list 5 (r0.map eNode) false,.int .i64 r1])) S
def zfd (x0:List Node) (x1:List Node) (r0:Bool):Prop:=∀ (S:Sto),call SP 21 [.list 5 (x0.map eNode) false,.list 5 (x1.map eNode) false] S=.ok (.v (.bool r0)) S
def zeA (x0:List Node) (r0:Bool):Prop:=∀ (S:Sto),call SP 26 [.list 5 (x0.map eNode) false] S=.ok (.v (.bool r0)) S
def zgm (x0:List Block) (r0:Bool):Prop:=∀ (S:Sto),call SP 30 [.list 4 (x0.map zF) false] S=.ok (.v (.bool r0)) S
def zf7 (x0:List UInt8) (r0:Parsed):Prop:=∀ (S:Sto),call SP 32 [.str x0] S=.ok (.v (.agg [.list 4 (r0.L.map zF) false,.int .i64 r0.E])) S
def zgn (x0:List UInt8) (r0:Read):Prop:=∀ (S:Sto),call SP 33 [.str x0] S=.ok (.v (.agg [.list 5 (r0.L.map eNode) false,.int .i64 r0.E])) S
def zmC (x0:PBlocks) (x0_g2:Nat) (x0_z2:Bool) (x1:List Block) (x1_g0:Nat) (x1_z0:Bool) (o:Option Int) (x0':PBlocks) (x0'_g2:Nat) (x0'_z2:Bool) (x1':List Block) (x1'_g0:Nat) (x1'_z0:Bool):Prop:=∀ (S:Sto) (n0:Nat) (t0:Nat) (n1:Nat) (t1:Nat),(getBox S n0 t0).map (List.take 4)=some [.list 5 (x0.exprs.tokens.l.map eToken) false,.int .i64 x0.exprs.tokens.pos,.sl 0 (.cell t0 2) 0 x0.exprs.out.length x0.exprs.out.length x0_g2 false,.int .i64 x0.exprs.deep]∧getArr S n0 (.cell t0 2)=some ⟨5,x0.exprs.out.map eNode,x0_z2,x0_g2⟩→(getBox S n1 t1).map (List.take 1)=some [.sl 0 (.cell t1 0) 0 x1.length x1.length x1_g0 false]∧getArr S n1 (.cell t1 0)=some ⟨4,x1.map zF,x1_z0,x1_g0⟩→n0≠n1→call SP 37 [.ptr n0 t0 0,.ptr n1 t1 0] S=po 116 o (.v (.tup [])) (setArr (setBox (setArr (setBox S n0 t0 ([.list 5 (x0'.exprs.tokens.l.map eToken) false,.int .i64 x0'.exprs.tokens.pos,.sl 0 (.cell t0 2) 0 x0'.exprs.out.length x0'.exprs.out.length x0'_g2 false,.int .i64 x0'.exprs.deep]++((getBox S n0 t0).getD []).drop 4)) n0 (.cell t0 2) ⟨5,x0'.exprs.out.map eNode,x0'_z2,x0'_g2⟩) n1 t1 ([.sl 0 (.cell t1 0) 0 x1'.length x1'.length x1'_g0 false]++((getBox (setArr (setBox S n0 t0 ([.list 5 (x0'.exprs.tokens.l.map eToken) false,.int .i64 x0'.exprs.tokens.pos,.sl 0 (.cell t0 2) 0 x0'.exprs.out.length x0'.exprs.out.length x0'_g2 false,.int .i64 x0'.exprs.deep]++((getBox S n0 t0).getD []).drop 4)) n0 (.cell t0 2) ⟨5,x0'.exprs.out.map eNode,x0'_z2,x0'_g2⟩) n1 t1).getD []).drop 1)) n1 (.cell t1 0) ⟨4,x1'.map zF,x1'_z0,x1'_g0⟩)
def zkk (x0:PBlocks) (x0_g2:Nat) (x0_z2:Bool) (x1:PV) (o:Option Int) (x0':PBlocks) (x0'_g2:Nat) (x0'_z2:Bool) (x1':PV):Prop:=∀ (S:Sto) (n0:Nat) (t0:Nat) (n1:Nat) (t1:Nat),(getBox S n0 t0).map (List.take 4)=some [.list 5 (x0.exprs.tokens.l.map eToken) false,.int .i64 x0.exprs.tokens.pos,.sl 0 (.cell t0 2) 0 x0.exprs.out.length x0.exprs.out.length x0_g2 false,.int .i64 x0.exprs.deep]∧getArr S n0 (.cell t0 2)=some ⟨5,x0.exprs.out.map eNode,x0_z2,x0_g2⟩→(getBox S n1 t1).map (List.take 1)=some [x1]→n0≠n1→call SP 40 [.ptr n0 t0 0,.ptr n1 t1 0] S=po 116 o (.v (.tup [])) (setBox (setArr (setBox S n0 t0 ([.list 5 (x0'.exprs.tokens.l.map eToken) false,.int .i64 x0'.exprs.tokens.pos,.sl 0 (.cell t0 2) 0 x0'.exprs.out.length x0'.exprs.out.length x0'_g2 false,.int .i64 x0'.exprs.deep]++((getBox S n0 t0).getD []).drop 4)) n0 (.cell t0 2) ⟨5,x0'.exprs.out.map eNode,x0'_z2,x0'_g2⟩) n1 t1 ([x1']++((getBox (setArr (setBox S n0 t0 ([.list 5 (x0'.exprs.tokens.l.map eToken) false,.int .i64 x0'.exprs.tokens.pos,.sl 0 (.cell t0 2) 0 x0'.exprs.out.length x0'.exprs.out.length x0'_g2 false,.int .i64 x0'.exprs.deep]++((getBox S n0 t0).getD []).drop 4)) n0 (.cell t0 2) ⟨5,x0'.exprs.out.map eNode,x0'_z2,x0'_g2⟩) n1 t1).getD []).drop 1))
def zqa (x0:List Part) (x1:List Part) (r0:Bool):Prop:=∀ (S:Sto),call SP 43 [.list 2 (x0.map ePart) false,.list 2 (x1.map ePart) false] S=.ok (.v (.bool r0)) S
def zqt (x0:List Int) (x1:List Int) (r0:Bool):Prop:=∀ (S:Sto),call SP 44 [.list 1 (x0.map eI) false,.list 1 (x1.map eI) false] S=.ok (.v (.bool r0)) S
def zvq (x0:List Node) (x1:Int) (r0:Int):Prop:=∀ (S:Sto),call SP 47 [.list 5 (x0.map eNode) false,.int .i64 x1] S=.ok (.v (.int .i64 r0)) S
def zqQ (x0:Block) (r0:Bool):Prop:=∀ (S:Sto),call SP 51 [.agg (zF x0)] S=.ok (.v (.bool r0)) S
def zkO (x0:Block) (x1:Bool) (r0:Bool):Prop:=∀ (S:Sto),call SP 52 [.agg (zF x0),.bool x1] S=.ok (.v (.bool r0)) S
def zf3 (x0:List UInt8) (r0:Tokens):Prop:=∀ (S:Sto),call SP 54 [.str x0] S=.ok (.v (.agg [.list 5 (r0.L.map eToken) false,.int .i64 r0.E])) S
def zbI (x0:List UInt8) (r0:List Token) (r1:Int):Prop:=∀ (S:Sto),call SP 60 [.str x0] S=.ok (.v (.tup [.list 5 (r0.map eToken) false,.int .i64 r1])) S
def zr (x0:List (List UInt8)) (x1:List UInt8) (r0:Int):Prop:=∀ (S:Sto),call SP 62 [.list 1 (x0.map eS) false,.str x1] S=.ok (.v (.int .i64 r0)) S
def zmJ (r0:List (List UInt8)):Prop:=∀ (S:Sto),call SP 63 [] S=.ok (.v (.list 1 (r0.map eS) false)) S
def zvt (x0:Int) (r0:Int):Prop:=∀ (S:Sto),call SP 73 [.int .i64 x0] S=.ok (.v (.int .i64 r0)) S
def zvw (x0:Node) (r0:Bool):Prop:=∀ (S:Sto),call SP 74 [.agg (eNode x0)] S=.ok (.v (.bool r0)) S
def zfg (x0:List UInt8) (x1:Int) (r0:Int):Prop:=∀ (S:Sto),call SP 77 [.str x0,.int .i64 x1] S=.ok (.v (.int .i64 r0)) S
def zqg (x0:List UInt8) (r0:Bool):Prop:=∀ (S:Sto),call SP 78 [.str x0] S=.ok (.v (.bool r0)) S
def zmF (x0:List UInt8) (r0:Bool):Prop:=∀ (S:Sto),call SP 79 [.str x0] S=.ok (.v (.bool r0)) S
def zds (x0:List UInt8) (r0:Bool):Prop:=∀ (S:Sto),call SP 81 [.str x0] S=.ok (.v (.bool r0)) S
def zjl (x0:List Attr) (r0:Bool):Prop:=∀ (S:Sto),call SP 82 [.list 2 (x0.map eAttr) false] S=.ok (.v (.bool r0)) S
def zp5 (x0:Block) (r0:Bool):Prop:=∀ (S:Sto),call SP 83 [.agg (zF x0)] S=.ok (.v (.bool r0)) S
def zmH (x0:List UInt8) (x1:Int) (r0:Token) (r1:Int):Prop:=∀ (S:Sto),call SP 85 [.str x0,.int .i64 x1] S=.ok (.v (.tup [.agg [.int .i64 r0.Kind,.str r0.Text,.int .i64 r0.Num,.list 2 (r0.Parts.map ePart) false,.int .i64 r0.At],.int .i64 r1])) S
def zi5 (x0:List UInt8) (r0:Int):Prop:=∀ (S:Sto),call SP 87 [.str x0] S=.ok (.v (.int .i64 r0)) S
def zem (x0:Int) (r0:List UInt8):Prop:=∀ (S:Sto),call SP 106 [.int .i64 x0] S=.ok (.v (.str r0)) S
def zbx (x0:List UInt8) (x1:List UInt8) (r0:List UInt8) (r1:List UInt8) (r2:Bool):Prop:=∀ (S:Sto),call SP 112 [.str x0,.str x1] S=.ok (.v (.tup [.str r0,.str r1,.bool r2])) S
def zkK (x0:List UInt8) (r0:Bool):Prop:=∀ (S:Sto),call SP 113 [.str x0] S=.ok (.v (.bool r0)) S
def zkz (x0:List UInt8) (r0:Bool):Prop:=∀ (S:Sto),call SP 114 [.str x0] S=.ok (.v (.bool r0)) S
def zcz (x0:List UInt8) (r0:Bool):Prop:=∀ (S:Sto),call SP 115 [.str x0] S=.ok (.v (.bool r0)) S
def znp (x0:List Part) (r0:Bool):Prop:=∀ (S:Sto),call SP 116 [.list 2 (x0.map ePart) false] S=.ok (.v (.bool r0)) S
def ziN (x0:UInt8) (r0:Bool):Prop:=∀ (S:Sto),call SP 118 [.int .u8 ((x0.toNat:Nat):Int)] S=.ok (.v (.bool r0)) S
def zdi (x0:UInt8) (r0:Bool):Prop:=∀ (S:Sto),call SP 119 [.int .u8 ((x0.toNat:Nat):Int)] S=.ok (.v (.bool r0)) S
def zd1 (x0:List UInt8) (x1:List UInt8) (x2:List UInt8) (r0:List UInt8):Prop:=∀ (S:Sto),call SP 120 [.str x0,.str x1,.str x2] S=.ok (.v (.str r0)) S
def zoo (x0:Attr) (x1:Attr) (r0:Bool):Prop:=∀ (S:Sto) (n1:Nat) (t1:Nat),(getBox S n1 t1).map (List.take 2)=some [.str x1.Name,.list 5 (x1.Expr.map eNode) false]→call SP 121 [.agg (eAttr x0),.ptr n1 t1 0] S=.ok (.v (.bool r0)) S
def zkX (x0:List UInt8) (r0:Bool):Prop:=∀ (S:Sto),call SP 122 [.str x0] S=.ok (.v (.bool r0)) S
def zkT (x0:List UInt8) (x1:Int) (r0:Token) (r1:Int):Prop:=∀ (S:Sto),call SP 123 [.str x0,.int .i64 x1] S=.ok (.v (.tup [.agg [.int .i64 r0.Kind,.str r0.Text,.int .i64 r0.Num,.list 2 (r0.Parts.map ePart) false,.int .i64 r0.At],.int .i64 r1])) S
def zkN (x0:List UInt8) (x1:Int) (r0:Token) (r1:Int):Prop:=∀ (S:Sto),call SP 124 [.str x0,.int .i64 x1] S=.ok (.v (.tup [.agg [.int .i64 r0.Kind,.str r0.Text,.int .i64 r0.Num,.list 2 (r0.Parts.map ePart) false,.int .i64 r0.At],.int .i64 r1])) S
def zof (x0:List UInt8) (x1:Int) (r0:List UInt8):Prop:=∀ (S:Sto),call SP 125 [.str x0,.int .i64 x1] S=.ok (.v (.str r0)) S
def znS (x0:Int) (r0:List (List UInt8)) (r1:List Int):Prop:=∀ (S:Sto),call SP 127 [.int .i64 x0] S=.ok (.v (.tup [.list 1 (r0.map eS) false,.list 1 (r1.map eI) false])) S
def zcC (x0:List UInt8) (x1:List UInt8) (r0:Bool):Prop:=∀ (S:Sto),call SP 129 [.str x0,.str x1] S=.ok (.v (.bool r0)) S
def zfN (x0:UInt8) (r0:Int):Prop:=∀ (S:Sto),call SP 137 [.int .u8 ((x0.toNat:Nat):Int)] S=.ok (.v (.int .i64 r0)) S
def zkS (x0:Int) (x1:List UInt8) (r0:Int) (r1:Bool):Prop:=∀ (S:Sto),call SP 143 [.int .i64 x0,.str x1] S=.ok (.v (.tup [.int .i64 r0,.bool r1])) S
def zdh (x0:List Int) (r0:List Int):Prop:=∀ (S:Sto),call SP 144 [.list 1 (x0.map eI) false] S=.ok (.v (.list 1 (r0.map eI) false)) S
def ziP (x0:List UInt8) (x1:List Int) (r0:Int):Prop:=∀ (S:Sto),call SP 151 [.str x0,.list 1 (x1.map eI) false] S=.ok (.v (.int .i64 r0)) S
def zky (x0:List UInt8) (r0:Bool):Prop:=∀ (S:Sto),call SP 152 [.str x0] S=.ok (.v (.bool r0)) S
def znH (x0:List UInt8) (x1:Int) (r0:Int):Prop:=∀ (S:Sto),call SP 154 [.str x0,.int .i64 x1] S=.ok (.v (.int .i64 r0)) S
def zao (x0:List (List UInt8)) (x1:List UInt8) (r0:Bool):Prop:=∀ (S:Sto),call SP 161 [.list 1 (x0.map eS) false,.str x1] S=.ok (.v (.bool r0)) S
def zcT (x0:List UInt8) (x1:List UInt8) (r0:Bool):Prop:=∀ (S:Sto),call SP 162 [.str x0,.str x1] S=.ok (.v (.bool r0)) S
def zei (x0:List UInt8) (r0:Int) (r1:Bool):Prop:=∀ (S:Sto),call SP 163 [.str x0] S=.ok (.v (.tup [.int .i64 r0,eE 218 r1])) S
def zny (x0:List UInt8) (r0:UInt8) (r1:Bool):Prop:=∀ (S:Sto),call SP 164 [.str x0] S=.ok (.v (.tup [.int .u8 ((r0.toNat:Nat):Int),.bool r1])) S
def ziF (x0:List UInt8) (r0:List UInt8) (r1:Bool):Prop:=∀ (S:Sto),call SP 166 [.str x0] S=.ok (.v (.tup [.str r0,.bool r1])) S
def zbh (x0:List Int) (x1:Int) (r0:Bool):Prop:=∀ (S:Sto),call SP 170 [.list 1 (x0.map eI) false,.int .i64 x1] S=.ok (.v (.bool r0)) S
def zee (x0:List UInt8) (x1:UInt8) (r0:Int):Prop:=∀ (S:Sto),call SP 179 [.str x0,.int .u8 ((x1.toNat:Nat):Int)] S=.ok (.v (.int .i64 r0)) S
def zdf (x0:List Int) (x1:Int) (r0:Int):Prop:=∀ (S:Sto),call SP 190 [.list 1 (x0.map eI) false,.int .i64 x1] S=.ok (.v (.int .i64 r0)) S
def zaX (x0:PTokens) (r0:Token) (x0':PTokens):Prop:=∀ (S:Sto) (n0:Nat) (t0:Nat),(getBox S n0 t0).map (List.take 2)=some [.list 5 (x0.l.map eToken) false,.int .i64 x0.pos]→call SP 38 [.ptr n0 t0 0] S=.ok (.v (.agg [.int .i64 r0.Kind,.str r0.Text,.int .i64 r0.Num,.list 2 (r0.Parts.map ePart) false,.int .i64 r0.At])) (setBox S n0 t0 ([.list 5 (x0'.l.map eToken) false,.int .i64 x0'.pos]++((getBox S n0 t0).getD []).drop 2))
def zgj (x0:PBlocks) (x0_g2:Nat) (x0_z2:Bool) (x1:Bool) (o:Option Int) (r0:Block) (x0':PBlocks) (x0'_g2:Nat) (x0'_z2:Bool):Prop:=∀ (S:Sto) (n0:Nat) (t0:Nat),(getBox S n0 t0).map (List.take 4)=some [.list 5 (x0.exprs.tokens.l.map eToken) false,.int .i64 x0.exprs.tokens.pos,.sl 0 (.cell t0 2) 0 x0.exprs.out.length x0.exprs.out.length x0_g2 false,.int .i64 x0.exprs.deep]∧getArr S n0 (.cell t0 2)=some ⟨5,x0.exprs.out.map eNode,x0_z2,x0_g2⟩→call SP 39 [.ptr n0 t0 0,.bool x1] S=po 116 o (.v (.agg [.int .i64 r0.Kind,.str r0.Label,.list 2 (r0.Attrs.map eAttr) false,.list 4 (r0.Blocks.map zF) false])) (setArr (setBox S n0 t0 ([.list 5 (x0'.exprs.tokens.l.map eToken) false,.int .i64 x0'.exprs.tokens.pos,.sl 0 (.cell t0 2) 0 x0'.exprs.out.length x0'.exprs.out.length x0'_g2 false,.int .i64 x0'.exprs.deep]++((getBox S n0 t0).getD []).drop 4)) n0 (.cell t0 2) ⟨5,x0'.exprs.out.map eNode,x0'_z2,x0'_g2⟩)
def zdr (x0:PExprs) (x0_g2:Nat) (x0_z2:Bool) (o:Option Int) (r0:List Node) (x0':PExprs) (x0'_g2:Nat) (x0'_z2:Bool):Prop:=∀ (S:Sto) (n0:Nat) (t0:Nat),(getBox S n0 t0).map (List.take 4)=some [.list 5 (x0.tokens.l.map eToken) false,.int .i64 x0.tokens.pos,.sl 0 (.cell t0 2) 0 x0.out.length x0.out.length x0_g2 false,.int .i64 x0.deep]∧getArr S n0 (.cell t0 2)=some ⟨5,x0.out.map eNode,x0_z2,x0_g2⟩→call SP 41 [.ptr n0 t0 0] S=po 116 o (.v (.list 5 (r0.map eNode) false)) (setArr (setBox S n0 t0 ([.list 5 (x0'.tokens.l.map eToken) false,.int .i64 x0'.tokens.pos,.sl 0 (.cell t0 2) 0 x0'.out.length x0'.out.length x0'_g2 false,.int .i64 x0'.deep]++((getBox S n0 t0).getD []).drop 4)) n0 (.cell t0 2) ⟨5,x0'.out.map eNode,x0'_z2,x0'_g2⟩)
def zbc (x0:PTokens) (x1:Int) (o:Option Int) (x0':PTokens):Prop:=∀ (S:Sto) (n0:Nat) (t0:Nat),(getBox S n0 t0).map (List.take 2)=some [.list 5 (x0.l.map eToken) false,.int .i64 x0.pos]→call SP 42 [.ptr n0 t0 0,.int .i64 x1] S=po 116 o (.v (.tup [])) (setBox S n0 t0 ([.list 5 (x0'.l.map eToken) false,.int .i64 x0'.pos]++((getBox S n0 t0).getD []).drop 2))
def zmM (x0:reader) (x0_g4:Nat) (x0_z4:Bool) (x1:Bool) (r0:List Block) (x0':reader) (x0'_g4:Nat) (x0'_z4:Bool):Prop:=∀ (S:Sto) (n0:Nat) (t0:Nat),(getBox S n0 t0).map (List.take 5)=some [.list 5 (x0.l.map eToken) false,.int .i64 x0.i,.int .i64 x0.deep,.int .i64 x0.e,.sl 0 (.cell t0 4) 0 x0.out.length x0.out.length x0_g4 false]∧getArr S n0 (.cell t0 4)=some ⟨5,x0.out.map eNode,x0_z4,x0_g4⟩→call SP 55 [.ptr n0 t0 0,.bool x1] S=.ok (.arr 4 (r0.map zF) false) (setArr (setBox S n0 t0 ([.list 5 (x0'.l.map eToken) false,.int .i64 x0'.i,.int .i64 x0'.deep,.int .i64 x0'.e,.sl 0 (.cell t0 4) 0 x0'.out.length x0'.out.length x0'_g4 false]++((getBox S n0 t0).getD []).drop 5)) n0 (.cell t0 4) ⟨5,x0'.out.map eNode,x0'_z4,x0'_g4⟩)
def zcH (x0:reader) (x0_g4:Nat) (x0_z4:Bool) (r0:Int) (x0':reader) (x0'_g4:Nat) (x0'_z4:Bool):Prop:=∀ (S:Sto) (n0:Nat) (t0:Nat),(getBox S n0 t0).map (List.take 5)=some [.list 5 (x0.l.map eToken) false,.int .i64 x0.i,.int .i64 x0.deep,.int .i64 x0.e,.sl 0 (.cell t0 4) 0 x0.out.length x0.out.length x0_g4 false]∧getArr S n0 (.cell t0 4)=some ⟨5,x0.out.map eNode,x0_z4,x0_g4⟩→call SP 56 [.ptr n0 t0 0] S=.ok (.v (.int .i64 r0)) (setArr (setBox S n0 t0 ([.list 5 (x0'.l.map eToken) false,.int .i64 x0'.i,.int .i64 x0'.deep,.int .i64 x0'.e,.sl 0 (.cell t0 4) 0 x0'.out.length x0'.out.length x0'_g4 false]++((getBox S n0 t0).getD []).drop 5)) n0 (.cell t0 4) ⟨5,x0'.out.map eNode,x0'_z4,x0'_g4⟩)
def zaF (x0:reader) (x0_g4:Nat) (x0_z4:Bool) (x1:Int) (x0':reader) (x0'_g4:Nat) (x0'_z4:Bool):Prop:=∀ (S:Sto) (n0:Nat) (t0:Nat),(getBox S n0 t0).map (List.take 5)=some [.list 5 (x0.l.map eToken) false,.int .i64 x0.i,.int .i64 x0.deep,.int .i64 x0.e,.sl 0 (.cell t0 4) 0 x0.out.length x0.out.length x0_g4 false]∧getArr S n0 (.cell t0 4)=some ⟨5,x0.out.map eNode,x0_z4,x0_g4⟩→call SP 57 [.ptr n0 t0 0,.int .i64 x1] S=.ok (.v (.tup [])) (setArr (setBox S n0 t0 ([.list 5 (x0'.l.map eToken) false,.int .i64 x0'.i,.int .i64 x0'.deep,.int .i64 x0'.e,.sl 0 (.cell t0 4) 0 x0'.out.length x0'.out.length x0'_g4 false]++((getBox S n0 t0).getD []).drop 5)) n0 (.cell t0 4) ⟨5,x0'.out.map eNode,x0'_z4,x0'_g4⟩)
def zi0 (x0:PBlocks) (x0_g2:Nat) (x0_z2:Bool) (o:Option Int) (r0:List UInt8) (x0':PBlocks) (x0'_g2:Nat) (x0'_z2:Bool):Prop:=∀ (S:Sto) (n0:Nat) (t0:Nat),(getBox S n0 t0).map (List.take 4)=some [.list 5 (x0.exprs.tokens.l.map eToken) false,.int .i64 x0.exprs.tokens.pos,.sl 0 (.cell t0 2) 0 x0.exprs.out.length x0.exprs.out.length x0_g2 false,.int .i64 x0.exprs.deep]∧getArr S n0 (.cell t0 2)=some ⟨5,x0.exprs.out.map eNode,x0_z2,x0_g2⟩→call SP 64 [.ptr n0 t0 0] S=po 116 o (.v (.str r0)) (setArr (setBox S n0 t0 ([.list 5 (x0'.exprs.tokens.l.map eToken) false,.int .i64 x0'.exprs.tokens.pos,.sl 0 (.cell t0 2) 0 x0'.exprs.out.length x0'.exprs.out.length x0'_g2 false,.int .i64 x0'.exprs.deep]++((getBox S n0 t0).getD []).drop 4)) n0 (.cell t0 2) ⟨5,x0'.exprs.out.map eNode,x0'_z2,x0'_g2⟩)
def zja (x0:PBlocks) (x0_g2:Nat) (x0_z2:Bool) (o:Option Int) (r0:List Attr) (x0':PBlocks) (x0'_g2:Nat) (x0'_z2:Bool):Prop:=(∀ (S:Sto) (n0:Nat) (t0:Nat),(getBox S n0 t0).map (List.take 4)=some [.list 5 (x0.exprs.tokens.l.map eToken) false,.int .i64 x0.exprs.tokens.pos,.sl 0 (.cell t0 2) 0 x0.exprs.out.length x0.exprs.out.length x0_g2 false,.int .i64 x0.exprs.deep]∧getArr S n0 (.cell t0 2)=some ⟨5,x0.exprs.out.map eNode,x0_z2,x0_g2⟩→call SP 65 [.ptr n0 t0 0] S=po 116 o (.v (.list 2 (r0.map eAttr) false)) (setArr (setBox S n0 t0 ([.list 5 (x0'.exprs.tokens.l.map eToken) false,.int .i64 x0'.exprs.tokens.pos,.sl 0 (.cell t0 2) 0 x0'.exprs.out.length x0'.exprs.out.length x0'_g2 false,.int .i64 x0'.exprs.deep]++((getBox S n0 t0).getD []).drop 4)) n0 (.cell t0 2) ⟨5,x0'.exprs.out.map eNode,x0'_z2,x0'_g2⟩))∨(∀ (S:Sto) (n0:Nat) (t0:Nat),(getBox S n0 t0).map (List.take 4)=some [.list 5 (x0.exprs.tokens.l.map eToken) false,.int .i64 x0.exprs.tokens.pos,.sl 0 (.cell t0 2) 0 x0.exprs.out.length x0.exprs.out.length x0_g2 false,.int .i64 x0.exprs.deep]∧getArr S n0 (.cell t0 2)=some ⟨5,x0.exprs.out.map eNode,x0_z2,x0_g2⟩→call SP 65 [.ptr n0 t0 0] S=po 116 o (.arr 2 (r0.map eAttr) false) (setArr (setBox S n0 t0 ([.list 5 (x0'.exprs.tokens.l.map eToken) false,.int .i64 x0'.exprs.tokens.pos,.sl 0 (.cell t0 2) 0 x0'.exprs.out.length x0'.exprs.out.length x0'_g2 false,.int .i64 x0'.exprs.deep]++((getBox S n0 t0).getD []).drop 4)) n0 (.cell t0 2) ⟨5,x0'.exprs.out.map eNode,x0'_z2,x0'_g2⟩))
def zbi (x0:PTokens) (x1:List UInt8) (o:Option Int) (x0':PTokens):Prop:=∀ (S:Sto) (n0:Nat) (t0:Nat),(getBox S n0 t0).map (List.take 2)=some [.list 5 (x0.l.map eToken) false,.int .i64 x0.pos]→call SP 66 [.ptr n0 t0 0,.str x1] S=po 116 o (.v (.tup [])) (setBox S n0 t0 ([.list 5 (x0'.l.map eToken) false,.int .i64 x0'.pos]++((getBox S n0 t0).getD []).drop 2))
def zec (x0:PTokens) (x1:List UInt8) (r0:Bool) (x0':PTokens):Prop:=∀ (S:Sto) (n0:Nat) (t0:Nat),(getBox S n0 t0).map (List.take 2)=some [.list 5 (x0.l.map eToken) false,.int .i64 x0.pos]→call SP 67 [.ptr n0 t0 0,.str x1] S=.ok (.v (.bool r0)) (setBox S n0 t0 ([.list 5 (x0'.l.map eToken) false,.int .i64 x0'.pos]++((getBox S n0 t0).getD []).drop 2))
def zeC (x0:PExprs) (x0_g2:Nat) (x0_z2:Bool) (o:Option Int) (r0:Int) (x0':PExprs) (x0'_g2:Nat) (x0'_z2:Bool):Prop:=∀ (S:Sto) (n0:Nat) (t0:Nat),(getBox S n0 t0).map (List.take 4)=some [.list 5 (x0.tokens.l.map eToken) false,.int .i64 x0.tokens.pos,.sl 0 (.cell t0 2) 0 x0.out.length x0.out.length x0_g2 false,.int .i64 x0.deep]∧getArr S n0 (.cell t0 2)=some ⟨5,x0.out.map eNode,x0_z2,x0_g2⟩→call SP 68 [.ptr n0 t0 0] S=po 116 o (.v (.int .i64 r0)) (setArr (setBox S n0 t0 ([.list 5 (x0'.tokens.l.map eToken) false,.int .i64 x0'.tokens.pos,.sl 0 (.cell t0 2) 0 x0'.out.length x0'.out.length x0'_g2 false,.int .i64 x0'.deep]++((getBox S n0 t0).getD []).drop 4)) n0 (.cell t0 2) ⟨5,x0'.out.map eNode,x0'_z2,x0'_g2⟩)
def zbu (x0:reader) (x0_g4:Nat) (x0_z4:Bool) (x1:List UInt8) (r0:Bool) (x0':reader) (x0'_g4:Nat) (x0'_z4:Bool):Prop:=∀ (S:Sto) (n0:Nat) (t0:Nat),(getBox S n0 t0).map (List.take 5)=some [.list 5 (x0.l.map eToken) false,.int .i64 x0.i,.int .i64 x0.deep,.int .i64 x0.e,.sl 0 (.cell t0 4) 0 x0.out.length x0.out.length x0_g4 false]∧getArr S n0 (.cell t0 4)=some ⟨5,x0.out.map eNode,x0_z4,x0_g4⟩→call SP 86 [.ptr n0 t0 0,.str x1] S=.ok (.v (.bool r0)) (setArr (setBox S n0 t0 ([.list 5 (x0'.l.map eToken) false,.int .i64 x0'.i,.int .i64 x0'.deep,.int .i64 x0'.e,.sl 0 (.cell t0 4) 0 x0'.out.length x0'.out.length x0'_g4 false]++((getBox S n0 t0).getD []).drop 5)) n0 (.cell t0 4) ⟨5,x0'.out.map eNode,x0'_z4,x0'_g4⟩)
def zez (x0:reader) (x0_g4:Nat) (x0_z4:Bool) (r0:List UInt8) (x0':reader) (x0'_g4:Nat) (x0'_z4:Bool):Prop:=∀ (S:Sto) (n0:Nat) (t0:Nat),(getBox S n0 t0).map (List.take 5)=some [.list 5 (x0.l.map eToken) false,.int .i64 x0.i,.int .i64 x0.deep,.int .i64 x0.e,.sl 0 (.cell t0 4) 0 x0.out.length x0.out.length x0_g4 false]∧getArr S n0 (.cell t0 4)=some ⟨5,x0.out.map eNode,x0_z4,x0_g4⟩→call SP 88 [.ptr n0 t0 0] S=.ok (.v (.str r0)) (setArr (setBox S n0 t0 ([.list 5 (x0'.l.map eToken) false,.int .i64 x0'.i,.int .i64 x0'.deep,.int .i64 x0'.e,.sl 0 (.cell t0 4) 0 x0'.out.length x0'.out.length x0'_g4 false]++((getBox S n0 t0).getD []).drop 5)) n0 (.cell t0 4) ⟨5,x0'.out.map eNode,x0'_z4,x0'_g4⟩)
def zaY (x0:reader) (x0_g4:Nat) (x0_z4:Bool) (x1:List UInt8) (x0':reader) (x0'_g4:Nat) (x0'_z4:Bool):Prop:=∀ (S:Sto) (n0:Nat) (t0:Nat),(getBox S n0 t0).map (List.take 5)=some [.list 5 (x0.l.map eToken) false,.int .i64 x0.i,.int .i64 x0.deep,.int .i64 x0.e,.sl 0 (.cell t0 4) 0 x0.out.length x0.out.length x0_g4 false]∧getArr S n0 (.cell t0 4)=some ⟨5,x0.out.map eNode,x0_z4,x0_g4⟩→call SP 89 [.ptr n0 t0 0,.str x1] S=.ok (.v (.tup [])) (setArr (setBox S n0 t0 ([.list 5 (x0'.l.map eToken) false,.int .i64 x0'.i,.int .i64 x0'.deep,.int .i64 x0'.e,.sl 0 (.cell t0 4) 0 x0'.out.length x0'.out.length x0'_g4 false]++((getBox S n0 t0).getD []).drop 5)) n0 (.cell t0 4) ⟨5,x0'.out.map eNode,x0'_z4,x0'_g4⟩)
def zd4 (x0:reader) (x0_g4:Nat) (x0_z4:Bool) (r0:List Attr) (x0':reader) (x0'_g4:Nat) (x0'_z4:Bool):Prop:=∀ (S:Sto) (n0:Nat) (t0:Nat),(getBox S n0 t0).map (List.take 5)=some [.list 5 (x0.l.map eToken) false,.int .i64 x0.i,.int .i64 x0.deep,.int .i64 x0.e,.sl 0 (.cell t0 4) 0 x0.out.length x0.out.length x0_g4 false]∧getArr S n0 (.cell t0 4)=some ⟨5,x0.out.map eNode,x0_z4,x0_g4⟩→call SP 90 [.ptr n0 t0 0] S=.ok (.arr 2 (r0.map eAttr) false) (setArr (setBox S n0 t0 ([.list 5 (x0'.l.map eToken) false,.int .i64 x0'.i,.int .i64 x0'.deep,.int .i64 x0'.e,.sl 0 (.cell t0 4) 0 x0'.out.length x0'.out.length x0'_g4 false]++((getBox S n0 t0).getD []).drop 5)) n0 (.cell t0 4) ⟨5,x0'.out.map eNode,x0'_z4,x0'_g4⟩)
def zgo (x0:reader) (x0_g4:Nat) (x0_z4:Bool) (x1:Int) (r0:Int) (x0':reader) (x0'_g4:Nat) (x0'_z4:Bool):Prop:=∀ (S:Sto) (n0:Nat) (t0:Nat),(getBox S n0 t0).map (List.take 5)=some [.list 5 (x0.l.map eToken) false,.int .i64 x0.i,.int .i64 x0.deep,.int .i64 x0.e,.sl 0 (.cell t0 4) 0 x0.out.length x0.out.length x0_g4 false]∧getArr S n0 (.cell t0 4)=some ⟨5,x0.out.map eNode,x0_z4,x0_g4⟩→call SP 91 [.ptr n0 t0 0,.int .i64 x1] S=.ok (.v (.int .i64 r0)) (setArr (setBox S n0 t0 ([.list 5 (x0'.l.map eToken) false,.int .i64 x0'.i,.int .i64 x0'.deep,.int .i64 x0'.e,.sl 0 (.cell t0 4) 0 x0'.out.length x0'.out.length x0'_g4 false]++((getBox S n0 t0).getD []).drop 5)) n0 (.cell t0 4) ⟨5,x0'.out.map eNode,x0'_z4,x0'_g4⟩)
def zdo (x0:reader) (x0_g4:Nat) (x0_z4:Bool) (x0':reader) (x0'_g4:Nat) (x0'_z4:Bool):Prop:=∀ (S:Sto) (n0:Nat) (t0:Nat),(getBox S n0 t0).map (List.take 5)=some [.list 5 (x0.l.map eToken) false,.int .i64 x0.i,.int .i64 x0.deep,.int .i64 x0.e,.sl 0 (.cell t0 4) 0 x0.out.length x0.out.length x0_g4 false]∧getArr S n0 (.cell t0 4)=some ⟨5,x0.out.map eNode,x0_z4,x0_g4⟩→call SP 92 [.ptr n0 t0 0] S=.ok (.v (.tup [])) (setArr (setBox S n0 t0 ([.list 5 (x0'.l.map eToken) false,.int .i64 x0'.i,.int .i64 x0'.deep,.int .i64 x0'.e,.sl 0 (.cell t0 4) 0 x0'.out.length x0'.out.length x0'_g4 false]++((getBox S n0 t0).getD []).drop 5)) n0 (.cell t0 4) ⟨5,x0'.out.map eNode,x0'_z4,x0'_g4⟩)
def zaN (x0:reader) (x0_g4:Nat) (x0_z4:Bool) (x1:Node) (r0:Int) (x0':reader) (x0'_g4:Nat) (x0'_z4:Bool):Prop:=∀ (S:Sto) (n0:Nat) (t0:Nat),(getBox S n0 t0).map (List.take 5)=some [.list 5 (x0.l.map eToken) false,.int .i64 x0.i,.int .i64 x0.deep,.int .i64 x0.e,.sl 0 (.cell t0 4) 0 x0.out.length x0.out.length x0_g4 false]∧getArr S n0 (.cell t0 4)=some ⟨5,x0.out.map eNode,x0_z4,x0_g4⟩→call SP 93 [.ptr n0 t0 0,.agg (eNode x1)] S=.ok (.v (.int .i64 r0)) (setArr (setBox S n0 t0 ([.list 5 (x0'.l.map eToken) false,.int .i64 x0'.i,.int .i64 x0'.deep,.int .i64 x0'.e,.sl 0 (.cell t0 4) 0 x0'.out.length x0'.out.length x0'_g4 false]++((getBox S n0 t0).getD []).drop 5)) n0 (.cell t0 4) ⟨5,x0'.out.map eNode,x0'_z4,x0'_g4⟩)
def zmK (x0:LTokens) (x0_g2:Nat) (x0_z2:Bool) (x0':LTokens) (x0'_g2:Nat) (x0'_z2:Bool):Prop:=∀ (S:Sto) (n0:Nat) (t0:Nat),(getBox S n0 t0).map (List.take 3)=some [.str x0.text.left,.int .i64 x0.text.pos,.sl 0 (.cell t0 2) 0 x0.out.length x0.out.length x0_g2 false]∧getArr S n0 (.cell t0 2)=some ⟨5,x0.out.map eToken,x0_z2,x0_g2⟩→call SP 97 [.ptr n0 t0 0] S=.ok (.v (.tup [])) (setArr (setBox S n0 t0 ([.str x0'.text.left,.int .i64 x0'.text.pos,.sl 0 (.cell t0 2) 0 x0'.out.length x0'.out.length x0'_g2 false]++((getBox S n0 t0).getD []).drop 3)) n0 (.cell t0 2) ⟨5,x0'.out.map eToken,x0'_z2,x0'_g2⟩)
def zmD (x0:LTokens) (x0_g2:Nat) (x0_z2:Bool) (r0:Bool) (x0':LTokens) (x0'_g2:Nat) (x0'_z2:Bool):Prop:=∀ (S:Sto) (n0:Nat) (t0:Nat),(getBox S n0 t0).map (List.take 3)=some [.str x0.text.left,.int .i64 x0.text.pos,.sl 0 (.cell t0 2) 0 x0.out.length x0.out.length x0_g2 false]∧getArr S n0 (.cell t0 2)=some ⟨5,x0.out.map eToken,x0_z2,x0_g2⟩→call SP 98 [.ptr n0 t0 0] S=.ok (.v (.bool r0)) (setArr (setBox S n0 t0 ([.str x0'.text.left,.int .i64 x0'.text.pos,.sl 0 (.cell t0 2) 0 x0'.out.length x0'.out.length x0'_g2 false]++((getBox S n0 t0).getD []).drop 3)) n0 (.cell t0 2) ⟨5,x0'.out.map eToken,x0'_z2,x0'_g2⟩)
def zgG (x0:Attr) (x1:List UInt8) (r0:Bool):Prop:=∀ (S:Sto) (n1:Nat) (t1:Nat),(getBox S n1 t1).map (List.take 1)=some [.str x1]→call SP 100 [.agg (eAttr x0),.ptr n1 t1 0] S=.ok (.v (.bool r0)) S
def zb4 (x0:PTokens) (o:Option Int) (r0:List UInt8) (x0':PTokens):Prop:=∀ (S:Sto) (n0:Nat) (t0:Nat),(getBox S n0 t0).map (List.take 2)=some [.list 5 (x0.l.map eToken) false,.int .i64 x0.pos]→call SP 101 [.ptr n0 t0 0] S=po 116 o (.v (.str r0)) (setBox S n0 t0 ([.list 5 (x0'.l.map eToken) false,.int .i64 x0'.pos]++((getBox S n0 t0).getD []).drop 2))
def zcx (x0:PTokens) (x1:List UInt8) (r0:Bool) (x0':PTokens):Prop:=∀ (S:Sto) (n0:Nat) (t0:Nat),(getBox S n0 t0).map (List.take 2)=some [.list 5 (x0.l.map eToken) false,.int .i64 x0.pos]→call SP 102 [.ptr n0 t0 0,.str x1] S=.ok (.v (.bool r0)) (setBox S n0 t0 ([.list 5 (x0'.l.map eToken) false,.int .i64 x0'.pos]++((getBox S n0 t0).getD []).drop 2))
def zgP (x0:PExprs) (x0_g2:Nat) (x0_z2:Bool) (x1:Int) (o:Option Int) (r0:Int) (x0':PExprs) (x0'_g2:Nat) (x0'_z2:Bool):Prop:=∀ (S:Sto) (n0:Nat) (t0:Nat),(getBox S n0 t0).map (List.take 4)=some [.list 5 (x0.tokens.l.map eToken) false,.int .i64 x0.tokens.pos,.sl 0 (.cell t0 2) 0 x0.out.length x0.out.length x0_g2 false,.int .i64 x0.deep]∧getArr S n0 (.cell t0 2)=some ⟨5,x0.out.map eNode,x0_z2,x0_g2⟩→call SP 103 [.ptr n0 t0 0,.int .i64 x1] S=po 116 o (.v (.int .i64 r0)) (setArr (setBox S n0 t0 ([.list 5 (x0'.tokens.l.map eToken) false,.int .i64 x0'.tokens.pos,.sl 0 (.cell t0 2) 0 x0'.out.length x0'.out.length x0'_g2 false,.int .i64 x0'.deep]++((getBox S n0 t0).getD []).drop 4)) n0 (.cell t0 2) ⟨5,x0'.out.map eNode,x0'_z2,x0'_g2⟩)
def zc1 (x0:PExprs) (x0_g2:Nat) (x0_z2:Bool) (x1:List UInt8) (o:Option Int) (x0':PExprs) (x0'_g2:Nat) (x0'_z2:Bool):Prop:=∀ (S:Sto) (n0:Nat) (t0:Nat),(getBox S n0 t0).map (List.take 4)=some [.list 5 (x0.tokens.l.map eToken) false,.int .i64 x0.tokens.pos,.sl 0 (.cell t0 2) 0 x0.out.length x0.out.length x0_g2 false,.int .i64 x0.deep]∧getArr S n0 (.cell t0 2)=some ⟨5,x0.out.map eNode,x0_z2,x0_g2⟩→call SP 104 [.ptr n0 t0 0,.str x1] S=po 116 o (.v (.tup [])) (setArr (setBox S n0 t0 ([.list 5 (x0'.tokens.l.map eToken) false,.int .i64 x0'.tokens.pos,.sl 0 (.cell t0 2) 0 x0'.out.length x0'.out.length x0'_g2 false,.int .i64 x0'.deep]++((getBox S n0 t0).getD []).drop 4)) n0 (.cell t0 2) ⟨5,x0'.out.map eNode,x0'_z2,x0'_g2⟩)
def zcw (x0:PExprs) (x0_g2:Nat) (x0_z2:Bool) (x1:Int) (x2:List UInt8) (x3:List Int) (r0:Int) (x0':PExprs) (x0'_g2:Nat) (x0'_z2:Bool):Prop:=∀ (S:Sto) (n0:Nat) (t0:Nat),(getBox S n0 t0).map (List.take 4)=some [.list 5 (x0.tokens.l.map eToken) false,.int .i64 x0.tokens.pos,.sl 0 (.cell t0 2) 0 x0.out.length x0.out.length x0_g2 false,.int .i64 x0.deep]∧getArr S n0 (.cell t0 2)=some ⟨5,x0.out.map eNode,x0_z2,x0_g2⟩→call SP 105 [.ptr n0 t0 0,.int .i64 x1,.str x2,.list 1 (x3.map eI) false] S=.ok (.v (.int .i64 r0)) (setArr (setBox S n0 t0 ([.list 5 (x0'.tokens.l.map eToken) false,.int .i64 x0'.tokens.pos,.sl 0 (.cell t0 2) 0 x0'.out.length x0'.out.length x0'_g2 false,.int .i64 x0'.deep]++((getBox S n0 t0).getD []).drop 4)) n0 (.cell t0 2) ⟨5,x0'.out.map eNode,x0'_z2,x0'_g2⟩)
def zd8 (x0:reader) (x0_g4:Nat) (x0_z4:Bool) (r0:Int) (x0':reader) (x0'_g4:Nat) (x0'_z4:Bool):Prop:=∀ (S:Sto) (n0:Nat) (t0:Nat),(getBox S n0 t0).map (List.take 5)=some [.list 5 (x0.l.map eToken) false,.int .i64 x0.i,.int .i64 x0.deep,.int .i64 x0.e,.sl 0 (.cell t0 4) 0 x0.out.length x0.out.length x0_g4 false]∧getArr S n0 (.cell t0 4)=some ⟨5,x0.out.map eNode,x0_z4,x0_g4⟩→call SP 126 [.ptr n0 t0 0] S=.ok (.v (.int .i64 r0)) (setArr (setBox S n0 t0 ([.list 5 (x0'.l.map eToken) false,.int .i64 x0'.i,.int .i64 x0'.deep,.int .i64 x0'.e,.sl 0 (.cell t0 4) 0 x0'.out.length x0'.out.length x0'_g4 false]++((getBox S n0 t0).getD []).drop 5)) n0 (.cell t0 4) ⟨5,x0'.out.map eNode,x0'_z4,x0'_g4⟩)
def zeX (x0:LText) (x1:List Int) (r0:List UInt8) (x0':LText):Prop:=∀ (S:Sto) (n0:Nat) (t0:Nat),(getBox S n0 t0).map (List.take 2)=some [.str x0.left,.int .i64 x0.pos]→call SP 134 [.ptr n0 t0 0,.list 1 (x1.map eI) false] S=.ok (.v (.str r0)) (setBox S n0 t0 ([.str x0'.left,.int .i64 x0'.pos]++((getBox S n0 t0).getD []).drop 2))
def zbq (x0:LText) (x1:Int) (r0:List UInt8) (x0':LText):Prop:=∀ (S:Sto) (n0:Nat) (t0:Nat),(getBox S n0 t0).map (List.take 2)=some [.str x0.left,.int .i64 x0.pos]→call SP 135 [.ptr n0 t0 0,.int .i64 x1] S=.ok (.v (.str r0)) (setBox S n0 t0 ([.str x0'.left,.int .i64 x0'.pos]++((getBox S n0 t0).getD []).drop 2))
def zkt (x0:LTokens) (x0_g2:Nat) (x0_z2:Bool) (r0:Token) (r1:Bool) (x0':LTokens) (x0'_g2:Nat) (x0'_z2:Bool):Prop:=∀ (S:Sto) (n0:Nat) (t0:Nat),(getBox S n0 t0).map (List.take 3)=some [.str x0.text.left,.int .i64 x0.text.pos,.sl 0 (.cell t0 2) 0 x0.out.length x0.out.length x0_g2 false]∧getArr S n0 (.cell t0 2)=some ⟨5,x0.out.map eToken,x0_z2,x0_g2⟩→call SP 136 [.ptr n0 t0 0] S=.ok (.v (.tup [.agg [.int .i64 r0.Kind,.str r0.Text,.int .i64 r0.Num,.list 2 (r0.Parts.map ePart) false,.int .i64 r0.At],.bool r1])) (setArr (setBox S n0 t0 ([.str x0'.text.left,.int .i64 x0'.text.pos,.sl 0 (.cell t0 2) 0 x0'.out.length x0'.out.length x0'_g2 false]++((getBox S n0 t0).getD []).drop 3)) n0 (.cell t0 2) ⟨5,x0'.out.map eToken,x0'_z2,x0'_g2⟩)
def zkH (x0:LTokens) (x0_g2:Nat) (x0_z2:Bool) (r0:Token) (r1:Bool) (x0':LTokens) (x0'_g2:Nat) (x0'_z2:Bool):Prop:=∀ (S:Sto) (n0:Nat) (t0:Nat),(getBox S n0 t0).map (List.take 3)=some [.str x0.text.left,.int .i64 x0.text.pos,.sl 0 (.cell t0 2) 0 x0.out.length x0.out.length x0_g2 false]∧getArr S n0 (.cell t0 2)=some ⟨5,x0.out.map eToken,x0_z2,x0_g2⟩→call SP 138 [.ptr n0 t0 0] S=.ok (.v (.tup [.agg [.int .i64 r0.Kind,.str r0.Text,.int .i64 r0.Num,.list 2 (r0.Parts.map ePart) false,.int .i64 r0.At],.bool r1])) (setArr (setBox S n0 t0 ([.str x0'.text.left,.int .i64 x0'.text.pos,.sl 0 (.cell t0 2) 0 x0'.out.length x0'.out.length x0'_g2 false]++((getBox S n0 t0).getD []).drop 3)) n0 (.cell t0 2) ⟨5,x0'.out.map eToken,x0'_z2,x0'_g2⟩)
def zh1 (x0:LTokens) (x0_g2:Nat) (x0_z2:Bool) (r0:Token) (r1:Bool) (x0':LTokens) (x0'_g2:Nat) (x0'_z2:Bool):Prop:=∀ (S:Sto) (n0:Nat) (t0:Nat),(getBox S n0 t0).map (List.take 3)=some [.str x0.text.left,.int .i64 x0.text.pos,.sl 0 (.cell t0 2) 0 x0.out.length x0.out.length x0_g2 false]∧getArr S n0 (.cell t0 2)=some ⟨5,x0.out.map eToken,x0_z2,x0_g2⟩→call SP 139 [.ptr n0 t0 0] S=.ok (.v (.tup [.agg [.int .i64 r0.Kind,.str r0.Text,.int .i64 r0.Num,.list 2 (r0.Parts.map ePart) false,.int .i64 r0.At],.bool r1])) (setArr (setBox S n0 t0 ([.str x0'.text.left,.int .i64 x0'.text.pos,.sl 0 (.cell t0 2) 0 x0'.out.length x0'.out.length x0'_g2 false]++((getBox S n0 t0).getD []).drop 3)) n0 (.cell t0 2) ⟨5,x0'.out.map eToken,x0'_z2,x0'_g2⟩)
def zio (x0:LTokens) (x0_g2:Nat) (x0_z2:Bool) (r0:Token) (r1:Bool) (x0':LTokens) (x0'_g2:Nat) (x0'_z2:Bool):Prop:=∀ (S:Sto) (n0:Nat) (t0:Nat),(getBox S n0 t0).map (List.take 3)=some [.str x0.text.left,.int .i64 x0.text.pos,.sl 0 (.cell t0 2) 0 x0.out.length x0.out.length x0_g2 false]∧getArr S n0 (.cell t0 2)=some ⟨5,x0.out.map eToken,x0_z2,x0_g2⟩→call SP 140 [.ptr n0 t0 0] S=.ok (.v (.tup [.agg [.int .i64 r0.Kind,.str r0.Text,.int .i64 r0.Num,.list 2 (r0.Parts.map ePart) false,.int .i64 r0.At],.bool r1])) (setArr (setBox S n0 t0 ([.str x0'.text.left,.int .i64 x0'.text.pos,.sl 0 (.cell t0 2) 0 x0'.out.length x0'.out.length x0'_g2 false]++((getBox S n0 t0).getD []).drop 3)) n0 (.cell t0 2) ⟨5,x0'.out.map eToken,x0'_z2,x0'_g2⟩)
def zgU (x0:PExprs) (x0_g2:Nat) (x0_z2:Bool) (o:Option Int) (r0:Int) (x0':PExprs) (x0'_g2:Nat) (x0'_z2:Bool):Prop:=∀ (S:Sto) (n0:Nat) (t0:Nat),(getBox S n0 t0).map (List.take 4)=some [.list 5 (x0.tokens.l.map eToken) false,.int .i64 x0.tokens.pos,.sl 0 (.cell t0 2) 0 x0.out.length x0.out.length x0_g2 false,.int .i64 x0.deep]∧getArr S n0 (.cell t0 2)=some ⟨5,x0.out.map eNode,x0_z2,x0_g2⟩→call SP 142 [.ptr n0 t0 0] S=po 116 o (.v (.int .i64 r0)) (setArr (setBox S n0 t0 ([.list 5 (x0'.tokens.l.map eToken) false,.int .i64 x0'.tokens.pos,.sl 0 (.cell t0 2) 0 x0'.out.length x0'.out.length x0'_g2 false,.int .i64 x0'.deep]++((getBox S n0 t0).getD []).drop 4)) n0 (.cell t0 2) ⟨5,x0'.out.map eNode,x0'_z2,x0'_g2⟩)
def ziv (x0:reader) (x0_g4:Nat) (x0_z4:Bool) (r0:Int) (x0':reader) (x0'_g4:Nat) (x0'_z4:Bool):Prop:=∀ (S:Sto) (n0:Nat) (t0:Nat),(getBox S n0 t0).map (List.take 5)=some [.list 5 (x0.l.map eToken) false,.int .i64 x0.i,.int .i64 x0.deep,.int .i64 x0.e,.sl 0 (.cell t0 4) 0 x0.out.length x0.out.length x0_g4 false]∧getArr S n0 (.cell t0 4)=some ⟨5,x0.out.map eNode,x0_z4,x0_g4⟩→call SP 155 [.ptr n0 t0 0] S=.ok (.v (.int .i64 r0)) (setArr (setBox S n0 t0 ([.list 5 (x0'.l.map eToken) false,.int .i64 x0'.i,.int .i64 x0'.deep,.int .i64 x0'.e,.sl 0 (.cell t0 4) 0 x0'.out.length x0'.out.length x0'_g4 false]++((getBox S n0 t0).getD []).drop 5)) n0 (.cell t0 4) ⟨5,x0'.out.map eNode,x0'_z4,x0'_g4⟩)
def zk2 (x0:List Part) (x0_g0:Nat) (x0_z0:Bool) (x1:UInt8) (x0':List Part) (x0'_g0:Nat) (x0'_z0:Bool):Prop:=∀ (S:Sto) (n0:Nat) (t0:Nat),(getBox S n0 t0).map (List.take 1)=some [.sl 0 (.cell t0 0) 0 x0.length x0.length x0_g0 false]∧getArr S n0 (.cell t0 0)=some ⟨2,x0.map ePart,x0_z0,x0_g0⟩→call SP 165 [.ptr n0 t0 0,.int .u8 ((x1.toNat:Nat):Int)] S=.ok (.v (.tup [])) (setArr (setBox S n0 t0 ([.sl 0 (.cell t0 0) 0 x0'.length x0'.length x0'_g0 false]++((getBox S n0 t0).getD []).drop 1)) n0 (.cell t0 0) ⟨2,x0'.map ePart,x0'_z0,x0'_g0⟩)
def zkn (x0:PExprs) (x0_g2:Nat) (x0_z2:Bool) (o:Option Int) (r0:Int) (x0':PExprs) (x0'_g2:Nat) (x0'_z2:Bool):Prop:=∀ (S:Sto) (n0:Nat) (t0:Nat),(getBox S n0 t0).map (List.take 4)=some [.list 5 (x0.tokens.l.map eToken) false,.int .i64 x0.tokens.pos,.sl 0 (.cell t0 2) 0 x0.out.length x0.out.length x0_g2 false,.int .i64 x0.deep]∧getArr S n0 (.cell t0 2)=some ⟨5,x0.out.map eNode,x0_z2,x0_g2⟩→call SP 167 [.ptr n0 t0 0] S=po 116 o (.v (.int .i64 r0)) (setArr (setBox S n0 t0 ([.list 5 (x0'.tokens.l.map eToken) false,.int .i64 x0'.tokens.pos,.sl 0 (.cell t0 2) 0 x0'.out.length x0'.out.length x0'_g2 false,.int .i64 x0'.deep]++((getBox S n0 t0).getD []).drop 4)) n0 (.cell t0 2) ⟨5,x0'.out.map eNode,x0'_z2,x0'_g2⟩)
def zcq (x0:reader) (x0_g4:Nat) (x0_z4:Bool) (r0:Int) (x0':reader) (x0'_g4:Nat) (x0'_z4:Bool):Prop:=∀ (S:Sto) (n0:Nat) (t0:Nat),(getBox S n0 t0).map (List.take 5)=some [.list 5 (x0.l.map eToken) false,.int .i64 x0.i,.int .i64 x0.deep,.int .i64 x0.e,.sl 0 (.cell t0 4) 0 x0.out.length x0.out.length x0_g4 false]∧getArr S n0 (.cell t0 4)=some ⟨5,x0.out.map eNode,x0_z4,x0_g4⟩→call SP 174 [.ptr n0 t0 0] S=.ok (.v (.int .i64 r0)) (setArr (setBox S n0 t0 ([.list 5 (x0'.l.map eToken) false,.int .i64 x0'.i,.int .i64 x0'.deep,.int .i64 x0'.e,.sl 0 (.cell t0 4) 0 x0'.out.length x0'.out.length x0'_g4 false]++((getBox S n0 t0).getD []).drop 5)) n0 (.cell t0 4) ⟨5,x0'.out.map eNode,x0'_z4,x0'_g4⟩)
def zke (x0:PExprs) (x0_g2:Nat) (x0_z2:Bool) (o:Option Int) (r0:Int) (x0':PExprs) (x0'_g2:Nat) (x0'_z2:Bool):Prop:=∀ (S:Sto) (n0:Nat) (t0:Nat),(getBox S n0 t0).map (List.take 4)=some [.list 5 (x0.tokens.l.map eToken) false,.int .i64 x0.tokens.pos,.sl 0 (.cell t0 2) 0 x0.out.length x0.out.length x0_g2 false,.int .i64 x0.deep]∧getArr S n0 (.cell t0 2)=some ⟨5,x0.out.map eNode,x0_z2,x0_g2⟩→call SP 180 [.ptr n0 t0 0] S=po 116 o (.v (.int .i64 r0)) (setArr (setBox S n0 t0 ([.list 5 (x0'.tokens.l.map eToken) false,.int .i64 x0'.tokens.pos,.sl 0 (.cell t0 2) 0 x0'.out.length x0'.out.length x0'_g2 false,.int .i64 x0'.deep]++((getBox S n0 t0).getD []).drop 4)) n0 (.cell t0 2) ⟨5,x0'.out.map eNode,x0'_z2,x0'_g2⟩)
def zfQ (x0:PExprs) (x0_g2:Nat) (x0_z2:Bool) (x1:List UInt8) (o:Option Int) (x0':PExprs) (x0'_g2:Nat) (x0'_z2:Bool):Prop:=∀ (S:Sto) (n0:Nat) (t0:Nat),(getBox S n0 t0).map (List.take 4)=some [.list 5 (x0.tokens.l.map eToken) false,.int .i64 x0.tokens.pos,.sl 0 (.cell t0 2) 0 x0.out.length x0.out.length x0_g2 false,.int .i64 x0.deep]∧getArr S n0 (.cell t0 2)=some ⟨5,x0.out.map eNode,x0_z2,x0_g2⟩→call SP 181 [.ptr n0 t0 0,.str x1] S=po 116 o (.v (.tup [])) (setArr (setBox S n0 t0 ([.list 5 (x0'.tokens.l.map eToken) false,.int .i64 x0'.tokens.pos,.sl 0 (.cell t0 2) 0 x0'.out.length x0'.out.length x0'_g2 false,.int .i64 x0'.deep]++((getBox S n0 t0).getD []).drop 4)) n0 (.cell t0 2) ⟨5,x0'.out.map eNode,x0'_z2,x0'_g2⟩)
def zna (x0:reader) (x0_g4:Nat) (x0_z4:Bool) (x1:List UInt8) (r0:Int) (x0':reader) (x0'_g4:Nat) (x0'_z4:Bool):Prop:=∀ (S:Sto) (n0:Nat) (t0:Nat),(getBox S n0 t0).map (List.take 5)=some [.list 5 (x0.l.map eToken) false,.int .i64 x0.i,.int .i64 x0.deep,.int .i64 x0.e,.sl 0 (.cell t0 4) 0 x0.out.length x0.out.length x0_g4 false]∧getArr S n0 (.cell t0 4)=some ⟨5,x0.out.map eNode,x0_z4,x0_g4⟩→call SP 194 [.ptr n0 t0 0,.str x1] S=.ok (.v (.int .i64 r0)) (setArr (setBox S n0 t0 ([.list 5 (x0'.l.map eToken) false,.int .i64 x0'.i,.int .i64 x0'.deep,.int .i64 x0'.e,.sl 0 (.cell t0 4) 0 x0'.out.length x0'.out.length x0'_g4 false]++((getBox S n0 t0).getD []).drop 5)) n0 (.cell t0 4) ⟨5,x0'.out.map eNode,x0'_z4,x0'_g4⟩)
def zdW (x0:reader) (x0_g4:Nat) (x0_z4:Bool) (x1:List UInt8) (r0:List Int) (x0':reader) (x0'_g4:Nat) (x0'_z4:Bool):Prop:=∀ (S:Sto) (n0:Nat) (t0:Nat),(getBox S n0 t0).map (List.take 5)=some [.list 5 (x0.l.map eToken) false,.int .i64 x0.i,.int .i64 x0.deep,.int .i64 x0.e,.sl 0 (.cell t0 4) 0 x0.out.length x0.out.length x0_g4 false]∧getArr S n0 (.cell t0 4)=some ⟨5,x0.out.map eNode,x0_z4,x0_g4⟩→call SP 195 [.ptr n0 t0 0,.str x1] S=.ok (.arr 1 (r0.map eI) false) (setArr (setBox S n0 t0 ([.list 5 (x0'.l.map eToken) false,.int .i64 x0'.i,.int .i64 x0'.deep,.int .i64 x0'.e,.sl 0 (.cell t0 4) 0 x0'.out.length x0'.out.length x0'_g4 false]++((getBox S n0 t0).getD []).drop 5)) n0 (.cell t0 4) ⟨5,x0'.out.map eNode,x0'_z4,x0'_g4⟩)
def znI (x0:PExprs) (x0_g2:Nat) (x0_z2:Bool) (o:Option Int) (r0:Int) (x0':PExprs) (x0'_g2:Nat) (x0'_z2:Bool):Prop:=∀ (S:Sto) (n0:Nat) (t0:Nat),(getBox S n0 t0).map (List.take 4)=some [.list 5 (x0.tokens.l.map eToken) false,.int .i64 x0.tokens.pos,.sl 0 (.cell t0 2) 0 x0.out.length x0.out.length x0_g2 false,.int .i64 x0.deep]∧getArr S n0 (.cell t0 2)=some ⟨5,x0.out.map eNode,x0_z2,x0_g2⟩→call SP 201 [.ptr n0 t0 0] S=po 116 o (.v (.int .i64 r0)) (setArr (setBox S n0 t0 ([.list 5 (x0'.tokens.l.map eToken) false,.int .i64 x0'.tokens.pos,.sl 0 (.cell t0 2) 0 x0'.out.length x0'.out.length x0'_g2 false,.int .i64 x0'.deep]++((getBox S n0 t0).getD []).drop 4)) n0 (.cell t0 2) ⟨5,x0'.out.map eNode,x0'_z2,x0'_g2⟩)
def ziO (x0:PExprs) (x0_g2:Nat) (x0_z2:Bool) (x1:Int) (x2:Int) (r0:Int) (x0':PExprs) (x0'_g2:Nat) (x0'_z2:Bool):Prop:=∀ (S:Sto) (n0:Nat) (t0:Nat),(getBox S n0 t0).map (List.take 4)=some [.list 5 (x0.tokens.l.map eToken) false,.int .i64 x0.tokens.pos,.sl 0 (.cell t0 2) 0 x0.out.length x0.out.length x0_g2 false,.int .i64 x0.deep]∧getArr S n0 (.cell t0 2)=some ⟨5,x0.out.map eNode,x0_z2,x0_g2⟩→call SP 202 [.ptr n0 t0 0,.int .i64 x1,.int .i64 x2] S=.ok (.v (.int .i64 r0)) (setArr (setBox S n0 t0 ([.list 5 (x0'.tokens.l.map eToken) false,.int .i64 x0'.tokens.pos,.sl 0 (.cell t0 2) 0 x0'.out.length x0'.out.length x0'_g2 false,.int .i64 x0'.deep]++((getBox S n0 t0).getD []).drop 4)) n0 (.cell t0 2) ⟨5,x0'.out.map eNode,x0'_z2,x0'_g2⟩)
def zh7 (x0:PExprs) (x0_g2:Nat) (x0_z2:Bool) (x1:List UInt8) (o:Option Int) (r0:List Int) (x0':PExprs) (x0'_g2:Nat) (x0'_z2:Bool):Prop:=∀ (S:Sto) (n0:Nat) (t0:Nat),(getBox S n0 t0).map (List.take 4)=some [.list 5 (x0.tokens.l.map eToken) false,.int .i64 x0.tokens.pos,.sl 0 (.cell t0 2) 0 x0.out.length x0.out.length x0_g2 false,.int .i64 x0.deep]∧getArr S n0 (.cell t0 2)=some ⟨5,x0.out.map eNode,x0_z2,x0_g2⟩→call SP 203 [.ptr n0 t0 0,.str x1] S=po 116 o (.arr 1 (r0.map eI) false) (setArr (setBox S n0 t0 ([.list 5 (x0'.tokens.l.map eToken) false,.int .i64 x0'.tokens.pos,.sl 0 (.cell t0 2) 0 x0'.out.length x0'.out.length x0'_g2 false,.int .i64 x0'.deep]++((getBox S n0 t0).getD []).drop 4)) n0 (.cell t0 2) ⟨5,x0'.out.map eNode,x0'_z2,x0'_g2⟩)
end Go.Proofs.YtfbcnpbhhooapaaGreatDoor.M
namespace Go.Proofs.YtfbcnpbhhooapaaGreatDoor.M
open Go Classical
theorem u8e (a b:UInt8):(a=b)=(a.toNat=b.toNat):=propext UInt8.toNat_inj.symm
theorem sE {α:Sort _} {A:α→Prop} {F G:Prop} (h:∀ x,F→A x→G):F→(∃ x,A x)→G:=fun f ⟨x,a⟩=>h x f a
theorem sOpt {A:Option Int→Prop} {F G:Prop} (h1:F→A none→G) (h2:∀ e,F→A (some e)→G):F→(∃ o,A o)→G:=fun f ⟨o,a⟩=>match o,a with
  | none,a=>h1 f a
  | some e,a=>h2 e f a
theorem sT {b:Bool} {A B F G:Prop} (h1:b=true∧F→A→G) (h2:b=false∧F→B→G):F→(b=true→A)∧(¬ b=true→B)→G:=fun f t=>by
  cases b
  ·exact h2 ⟨rfl,f⟩ (t.2 (by decide))
  exact h1 ⟨rfl,f⟩ (t.1 rfl)
theorem sQ {α:Sort _} {x v:α} {A B F G:Prop} (h1:((x=v)=True∧∀ y,(x=y)=(v=y))∧F→A→G) (h2:(x=v)=False∧F→B→G):F→(x=v→A)∧(¬ x=v→B)→G:=fun f t=>by
  by_cases c:x=v
  ·exact h1 ⟨⟨eq_true c,fun y=>by rw[c]⟩,f⟩ (t.1 c)
  exact h2 ⟨eq_false c,f⟩ (t.2 c)
theorem sC {c A B F G:Prop} (h1:c=True∧F→A→G) (h2:c=False∧F→B→G):F→(c→A)∧(¬ c→B)→G:=fun f t=>by
  by_cases h:c
  ·exact h1 ⟨eq_true h,f⟩ (t.1 h)
  exact h2 ⟨eq_false h,f⟩ (t.2 h)
theorem sW {x:Int} {B F G:Prop} (h:IntKind.i64.wrap x=x∧F→B→G):F→I64 x∧B→G:=fun f t=>h ⟨t.1.wrap,f⟩ t.2
theorem sR {p:Sto→Prop} {B F G:Prop} (h:(∀ S,p S)→F→B→G):F→(∀ S,p S)∧B→G:=fun f t=>h t.1 f t.2
theorem sK {q B F G:Prop} (a:q) (h:q∧F→B→G):F→B→G:=fun f=>h ⟨a,f⟩
theorem sF {p B F G:Prop} (h:p∧F→B→G):F→p∧B→G:=fun f t=>h ⟨t.1,f⟩ t.2
theorem sG {α β:Type} (g:α→β) {a:α} {l:List α} {i:Nat} {v:α} {B F G:Prop} (h:((a::l).map g)[i]?=some (g v)→F→B→G):F→((a::l)[i]?=some v)∧B→G:=fun f t=>h (by rw[List.getElem?_map,t.1];rfl) f t.2
theorem sB {a b:Nat} {p B F G:Prop} (e:bigRow a b=p) (h:p∧F→B→G):F→bigRow a b∧B→G:=fun f t=>h ⟨e ▸ t.1,f⟩ t.2
theorem rn {F T G:Prop} (f:F) (t:T) (h:F→T→G:=by
  repeat' first
    | exact fun _ t=>False.elim t
    | refine sOpt ?_ fun _=>?_
    | refine sE fun _=>?_
    | refine sT ?_ ?_
    | refine sQ ?_ ?_
    | refine sC ?_ ?_
    | refine sW ?_
    | refine sB (bigRow.eq_1 _ _) ?_
    | (refine sR ?_;intro zq;(try simp only[lF] at zq);refine sK zq ?_;clear zq)
    | (rintro zf ⟨rfl,zt⟩;revert zf zt)
    | (refine sG eS ?_;intro zq;simp only[le] at zq;refine sK zq ?_;clear zq)
    | (refine sG eLPart ?_;intro zq;simp only[le] at zq;refine sK zq ?_;clear zq)
    | refine sF ?_
    | (rintro zf rfl;simp only[zf,lw,lx,le,Nat.reduceMul,UInt8.reduceToNat,reduceIte,reduceCtorEq,Nat.reduceEqDiff,Nat.reduceAdd,Nat.reduceLeDiff,Nat.reduceSub,Nat.reduceLT,Int.reduceEq,Int.reduceLT,Int.reduceLE,Int.reduceToNat,Int.reduceAdd,Int.reduceSub,Int.reduceMul,Int.reduceNeg];done)
    | (rintro zf rfl;simp only[zf,lw,lx,le,Nat.reduceMul,UInt8.reduceToNat,reduceIte,reduceCtorEq,Nat.reduceEqDiff,Nat.reduceAdd,Nat.reduceLeDiff,Nat.reduceSub,Nat.reduceLT,Int.reduceEq,Int.reduceLT,Int.reduceLE,Int.reduceToNat,Int.reduceAdd,Int.reduceSub,Int.reduceMul,Int.reduceNeg,List.cons.injEq,u8e,false_and,and_false];done)
    | (intro zf zt;(try simp only[zf,lw,lx,le,Nat.reduceMul,UInt8.reduceToNat,reduceIte,reduceCtorEq,Nat.reduceEqDiff,Nat.reduceAdd,Nat.reduceLeDiff,Nat.reduceSub,Nat.reduceLT,Int.reduceEq,Int.reduceLT,Int.reduceLE,Int.reduceToNat,Int.reduceAdd,Int.reduceSub,Int.reduceMul,Int.reduceNeg]);refine zt _ _ _ ?_;simp only[zf,lw,lx,le,Nat.reduceMul,UInt8.reduceToNat,reduceIte,reduceCtorEq,Nat.reduceEqDiff,Nat.reduceAdd,Nat.reduceLeDiff,Nat.reduceSub,Nat.reduceLT,Int.reduceEq,Int.reduceLT,Int.reduceLE,Int.reduceToNat,Int.reduceAdd,Int.reduceSub,Int.reduceMul,Int.reduceNeg];done)
    | (intro zf zt;(try simp only[zf,lw,lx,le,Nat.reduceMul,UInt8.reduceToNat,reduceIte,reduceCtorEq,Nat.reduceEqDiff,Nat.reduceAdd,Nat.reduceLeDiff,Nat.reduceSub,Nat.reduceLT,Int.reduceEq,Int.reduceLT,Int.reduceLE,Int.reduceToNat,Int.reduceAdd,Int.reduceSub,Int.reduceMul,Int.reduceNeg,List.cons.injEq,u8e,false_and,and_false]);refine zt _ _ _ ?_;simp only[zf,lw,lx,le,Nat.reduceMul,UInt8.reduceToNat,reduceIte,reduceCtorEq,Nat.reduceEqDiff,Nat.reduceAdd,Nat.reduceLeDiff,Nat.reduceSub,Nat.reduceLT,Int.reduceEq,Int.reduceLT,Int.reduceLE,Int.reduceToNat,Int.reduceAdd,Int.reduceSub,Int.reduceMul,Int.reduceNeg,List.cons.injEq,u8e,false_and,and_false];done)):G:=h f t
theorem rp {F T G:Prop} (n0 t0:Nat) (f:F) (t:T) (h:∀ a b,a=n0→b=t0→F→T→G:=by
  intro za zb ze1 ze2;subst ze1;subst ze2
  repeat' first
    | exact fun _ t=>False.elim t
    | refine sOpt ?_ fun _=>?_
    | refine sE fun _=>?_
    | refine sT ?_ ?_
    | refine sQ ?_ ?_
    | refine sC ?_ ?_
    | refine sW ?_
    | refine sB (bigRow.eq_1 _ _) ?_
    | (refine sR ?_;intro zq;(try simp only[lF] at zq);refine sK zq ?_;clear zq)
    | (rintro zf ⟨rfl,zt⟩;revert zf zt)
    | (refine sG eS ?_;intro zq;simp only[le] at zq;refine sK zq ?_;clear zq)
    | (refine sG eLPart ?_;intro zq;simp only[le] at zq;refine sK zq ?_;clear zq)
    | refine sF ?_
    | (rintro zf rfl;simp only[zf,lw,lx,le,Nat.reduceMul,UInt8.reduceToNat,reduceIte,reduceCtorEq,Nat.reduceEqDiff,Nat.reduceAdd,Nat.reduceLeDiff,Nat.reduceSub,Nat.reduceLT,Int.reduceEq,Int.reduceLT,Int.reduceLE,Int.reduceToNat,Int.reduceAdd,Int.reduceSub,Int.reduceMul,Int.reduceNeg];done)
    | (rintro zf rfl;simp only[zf,lw,lx,le,Nat.reduceMul,UInt8.reduceToNat,reduceIte,reduceCtorEq,Nat.reduceEqDiff,Nat.reduceAdd,Nat.reduceLeDiff,Nat.reduceSub,Nat.reduceLT,Int.reduceEq,Int.reduceLT,Int.reduceLE,Int.reduceToNat,Int.reduceAdd,Int.reduceSub,Int.reduceMul,Int.reduceNeg,List.cons.injEq,u8e,false_and,and_false];done)
    | (intro zf zt;(try simp only[zf,lw,lx,le,Nat.reduceMul,UInt8.reduceToNat,reduceIte,reduceCtorEq,Nat.reduceEqDiff,Nat.reduceAdd,Nat.reduceLeDiff,Nat.reduceSub,Nat.reduceLT,Int.reduceEq,Int.reduceLT,Int.reduceLE,Int.reduceToNat,Int.reduceAdd,Int.reduceSub,Int.reduceMul,Int.reduceNeg]);refine (zt _ _ _ za zb ?_ ?_).trans ?_ <;> simp only[zf,lw,lx,le,Nat.reduceMul,UInt8.reduceToNat,reduceIte,reduceCtorEq,Nat.reduceEqDiff,Nat.reduceAdd,Nat.reduceLeDiff,Nat.reduceSub,Nat.reduceLT,Int.reduceEq,Int.reduceLT,Int.reduceLE,Int.reduceToNat,Int.reduceAdd,Int.reduceSub,Int.reduceMul,Int.reduceNeg])
    | (intro zf zt;(try simp only[zf,lw,lx,le,Nat.reduceMul,UInt8.reduceToNat,reduceIte,reduceCtorEq,Nat.reduceEqDiff,Nat.reduceAdd,Nat.reduceLeDiff,Nat.reduceSub,Nat.reduceLT,Int.reduceEq,Int.reduceLT,Int.reduceLE,Int.reduceToNat,Int.reduceAdd,Int.reduceSub,Int.reduceMul,Int.reduceNeg,List.cons.injEq,u8e,false_and,and_false]);refine (zt _ _ _ za zb ?_ ?_).trans ?_ <;> simp only[zf,lw,lx,le,Nat.reduceMul,UInt8.reduceToNat,reduceIte,reduceCtorEq,Nat.reduceEqDiff,Nat.reduceAdd,Nat.reduceLeDiff,Nat.reduceSub,Nat.reduceLT,Int.reduceEq,Int.reduceLT,Int.reduceLE,Int.reduceToNat,Int.reduceAdd,Int.reduceSub,Int.reduceMul,Int.reduceNeg,List.cons.injEq,u8e,false_and,and_false])
    | (intro zf zt;(try simp only[zf,lw,lx,le,Nat.reduceMul,UInt8.reduceToNat,reduceIte,reduceCtorEq,Nat.reduceEqDiff,Nat.reduceAdd,Nat.reduceLeDiff,Nat.reduceSub,Nat.reduceLT,Int.reduceEq,Int.reduceLT,Int.reduceLE,Int.reduceToNat,Int.reduceAdd,Int.reduceSub,Int.reduceMul,Int.reduceNeg]);refine zt _ _ _ ?_;simp only[zf,lw,lx,le,Nat.reduceMul,UInt8.reduceToNat,reduceIte,reduceCtorEq,Nat.reduceEqDiff,Nat.reduceAdd,Nat.reduceLeDiff,Nat.reduceSub,Nat.reduceLT,Int.reduceEq,Int.reduceLT,Int.reduceLE,Int.reduceToNat,Int.reduceAdd,Int.reduceSub,Int.reduceMul,Int.reduceNeg];done)
    | (intro zf zt;(try simp only[zf,lw,lx,le,Nat.reduceMul,UInt8.reduceToNat,reduceIte,reduceCtorEq,Nat.reduceEqDiff,Nat.reduceAdd,Nat.reduceLeDiff,Nat.reduceSub,Nat.reduceLT,Int.reduceEq,Int.reduceLT,Int.reduceLE,Int.reduceToNat,Int.reduceAdd,Int.reduceSub,Int.reduceMul,Int.reduceNeg,List.cons.injEq,u8e,false_and,and_false]);refine zt _ _ _ ?_;simp only[zf,lw,lx,le,Nat.reduceMul,UInt8.reduceToNat,reduceIte,reduceCtorEq,Nat.reduceEqDiff,Nat.reduceAdd,Nat.reduceLeDiff,Nat.reduceSub,Nat.reduceLT,Int.reduceEq,Int.reduceLT,Int.reduceLE,Int.reduceToNat,Int.reduceAdd,Int.reduceSub,Int.reduceMul,Int.reduceNeg,List.cons.injEq,u8e,false_and,and_false];done)):G:=h n0 t0 rfl rfl f t
end Go.Proofs.YtfbcnpbhhooapaaGreatDoor.M
namespace Go.Proofs.YtfbcnpbhhooapaaGreatDoor.M
open Go
def sc_Q38:zh:=⟨1,13,.seq (.reg [⟨some 2,none,.alloc [(.int .i64 0),(.str []),(.int .i64 0),(.nils 2),(.int .i64 0)]⟩]) (.seq (.dreg [mO 3 0,nO 4 3,fO 5 0 4,lO 6 5,mO 7 0,nO 8 7,fO 9 1 8,lO 10 9,vO 11 (.iaddr 5 (.t 6) (.t 10)),vO 12 (.load (some 5) (.t 11)),sO 5 2 12] [false,false,false,false,false,false,false,false,true,true,true]) .ret),[(.cell 2 (some 5))]⟩
theorem zAE:type_of% (sc_Q38.eq_1):=sc_Q38.eq_1
theorem comp_Q38:comp Tryz.prog Tryz.f38=some sc_Q38:=by kernel_rfl
def sc_Q42:zh:=⟨2,6,.reg [mO 4 1,vO 5 (.mkif 116 (.t 4)),⟨none,none,.panic (.t 5)⟩],[]⟩
theorem zAt:type_of% (sc_Q42.eq_1):=sc_Q42.eq_1
theorem comp_Q42:comp Tryz.prog Tryz.f42=some sc_Q42:=by kernel_rfl
def sc_Q102:zh:=⟨2,16,.seq (.reg [vO 4 (.mov (.c (.bool false)))]) (.seq (.reg [mO 5 0,kO 6 38 [(.t 5)],vO 7 (.field 0 none (.t 6)),bC 8 .eql 7 4,mO 9 8,gO 10 9 true (.mov (.t 0)),⟨some 11,some (9,true),.call (.c (.func 38 [])) [(.t 10)]⟩,gO 12 9 true (.field 1 none (.t 11)),gO 13 9 true (.mov (.t 1)),gO 14 9 true (.bin .eql (.t 12) (.t 13)),vO 15 (.pick (.t 9) (.t 14) (.c (.bool false))),mO 4 15]) .ret),[(.t 4)]⟩
theorem zyv:type_of% (sc_Q102.eq_1):=sc_Q102.eq_1
theorem comp_Q102:comp Tryz.prog Tryz.f102=some sc_Q102:=by kernel_rfl
def sc_Q67:zh:=⟨2,16,.seq (.reg [vO 4 (.mov (.c (.bool false)))]) (.seq (.seq (.reg [mO 5 0,mO 6 1,kO 7 102 [(.t 5),(.t 6)],uO 8 7]) (.cond (.t 8) (.seq (.reg [vO 4 (.mov (.c (.bool false)))]) .ret) .skip)) (.seq (.reg [mO 9 0,nO 10 9,fO 11 1 10,lO 12 11,bC 13 .add 12 1,nO 14 9,fO 15 1 14,sO 1 15 13]) (.seq (.reg [vO 4 (.mov (.c (.bool true)))]) .ret))),[(.t 4)]⟩
theorem zAc:type_of% (sc_Q67.eq_1):=sc_Q67.eq_1
theorem comp_Q67:comp Tryz.prog Tryz.f67=some sc_Q67:=by kernel_rfl
def sc_Q66:zh:=⟨2,10,.seq (.reg [mO 4 0,mO 5 1,kO 6 67 [(.t 4),(.t 5)],uO 7 6]) (.cond (.t 7) (.reg [mO 8 0,kO 9 42 [(.t 8),(cI 5)]]) .skip),[]⟩
theorem zAl:type_of% (sc_Q66.eq_1):=sc_Q66.eq_1
theorem comp_Q66:comp Tryz.prog Tryz.f66=some sc_Q66:=by kernel_rfl
def sc_Q101:zh:=⟨1,20,.seq (.reg [vO 2 (.mov (.c (.str [])))]) (.seq (.reg [mO 4 0,kO 5 38 [(.t 4)],⟨some 3,none,.alloc [(.int .i64 0),(.str []),(.int .i64 0),(.nils 2),(.int .i64 0)]⟩,sO 5 3 5]) (.seq (.seq (.reg [fO 6 0 3,lO 7 6,bC 8 .neq 7 3]) (.cond (.t 8) (.reg [mO 9 0,kO 10 42 [(.t 9),(cI 5)]]) .skip)) (.seq (.reg [mO 11 0,nO 12 11,fO 13 1 12,lO 14 13,bC 15 .add 14 1,nO 16 11,fO 17 1 16,sO 1 17 15]) (.seq (.reg [fO 18 1 3,lO 19 18,mO 2 19]) .ret)))),[(.t 2)]⟩
theorem zyQ:type_of% (sc_Q101.eq_1):=sc_Q101.eq_1
theorem comp_Q101:comp Tryz.prog Tryz.f101=some sc_Q101:=by kernel_rfl
def sc_Q104:zh:=⟨2,32,.seq (.seq (.reg [mO 4 0,nO 5 4,fO 6 0 5,mO 7 1,kO 8 102 [(.t 6),(.t 7)],mO 9 8,gO 10 9 true (.mov (.t 0)),gO 11 9 true (.nchk (.t 10)),gO 12 9 true (.faddr 3 (.t 11)),gO 13 9 true (.load none (.t 12)),gO 14 9 true (.bin .geq (.t 13) (cI 64)),vO 15 (.pick (.t 9) (.t 14) (.c (.bool false)))]) (.cond (.t 15) (.reg [mO 16 0,nO 17 16,fO 18 0 17,kO 19 42 [(.t 18),(cI 6)]]) .skip)) (.seq (.reg [mO 20 0,nO 21 20,fO 22 0 21,mO 23 1,kO 24 66 [(.t 22),(.t 23)]]) (.reg [mO 25 0,nO 26 25,fO 27 3 26,lO 28 27,bC 29 .add 28 1,nO 30 25,fO 31 3 30,sO 1 31 29])),[]⟩
theorem zyI:type_of% (sc_Q104.eq_1):=sc_Q104.eq_1
theorem comp_Q104:comp Tryz.prog Tryz.f104=some sc_Q104:=by kernel_rfl
def sc_Q181:zh:=⟨2,16,.seq (.reg [mO 4 0,nO 5 4,fO 6 0 5,mO 7 1,kO 8 66 [(.t 6),(.t 7)]]) (.reg [mO 9 0,nO 10 9,fO 11 3 10,lO 12 11,bC 13 .sub 12 1,nO 14 9,fO 15 3 14,sO 1 15 13]),[]⟩
theorem zyb:type_of% (sc_Q181.eq_1):=sc_Q181.eq_1
theorem comp_Q181:comp Tryz.prog Tryz.f181=some sc_Q181:=by kernel_rfl
def sc_Q105:zh:=⟨4,29,.seq (.reg [vO 8 (.mov (cI 0))]) (.seq (.dreg [mO 9 0,mO 10 0,nO 11 10,fO 12 2 11,lO 13 12,mO 14 1,mO 15 2,mO 16 3,kO 17 144 [(.t 16)],vO 18 (.build [(.int .i64 0),(.int .i64 0),(.str []),(.nils 2),(.nils 1)] [(0,1,(.t 14)),(2,1,(.t 15)),(4,1,(.t 17))]),⟨some 19,none,.bslice 5 1 [(.int .i64 0),(.int .i64 0),(.str []),(.nils 2),(.nils 1)] [(0,(.t 18))]⟩,⟨some 20,none,.append 5 80 (.t 13) (.t 19)⟩,nO 21 9,fO 22 2 21,sO 1 22 20] [false,false,false,false,false,false,false,false,false,false,false,true,true,true,true]) (.seq (.reg [mO 23 0,nO 24 23,fO 25 2 24,lO 26 25,vO 27 (.len false (.t 26)),bC 28 .sub 27 1,mO 8 28]) .ret)),[(.t 8)]⟩
theorem zyD:type_of% (sc_Q105.eq_1):=sc_Q105.eq_1
theorem comp_Q105:comp Tryz.prog Tryz.f105=some sc_Q105:=by kernel_rfl
def c_Q143_1:SC:=.seq (.reg [⟨some 15,none,.bslice 1 5 [(.int .i64 0)] [(0,(cI 11)),(1,(cI 12)),(2,(cI 13)),(3,(cI 19)),(4,(cI 21))]⟩,mO 7 15]) (.seq (.reg [mO 16 6,mO 17 0,vO 18 (.iaddr 1 (.t 16) (.t 17)),lO 19 18,mO 20 1,kO 21 62 [(.t 19),(.t 20)],mO 8 21]) (.seq (.reg [mO 22 7,mO 23 0,vO 24 (.iaddr 1 (.t 22) (.t 23)),lO 25 24,mO 26 8,bO 27 .add 25 26,mO 28 8,bC 29 .geq 28 0,mO 4 27,mO 5 29]) .ret))
def c_Q143_2:SC:=.seq (.reg [⟨some 9,none,.bslice 1 1 [(.str [])] [(0,(.c (.str [124,124])))]⟩,⟨some 10,none,.bslice 1 1 [(.str [])] [(0,(.c (.str [38,38])))]⟩,⟨some 11,none,.bslice 1 6 [(.str [])] [(0,(.c (.str [61,61]))),(1,(.c (.str [33,61]))),(2,(.c (.str [60]))),(3,(.c (.str [60,61]))),(4,(.c (.str [62]))),(5,(.c (.str [62,61])))]⟩,⟨some 12,none,.bslice 1 2 [(.str [])] [(0,(.c (.str [43]))),(1,(.c (.str [45])))]⟩,⟨some 13,none,.bslice 1 3 [(.str [])] [(0,(.c (.str [42]))),(1,(.c (.str [47]))),(2,(.c (.str [37])))]⟩,⟨some 14,none,.bslice 1 5 [(.nils 1)] [(0,(.t 9)),(1,(.t 10)),(2,(.t 11)),(3,(.t 12)),(4,(.t 13))]⟩,mO 6 14]) c_Q143_1
def sc_Q143:zh:=⟨2,30,.seq (.reg [vO 4 (.mov (cI 0)),vO 5 (.mov (.c (.bool false)))]) c_Q143_2,[(.t 4),(.t 5)]⟩
theorem zzr:type_of% (aI (ue c_Q143_1.eq_1)<|aI (ue c_Q143_2.eq_1)<|sc_Q143.eq_1):=aI (ue c_Q143_1.eq_1)<|aI (ue c_Q143_2.eq_1)<|sc_Q143.eq_1
theorem comp_Q143:comp Tryz.prog Tryz.f143=some sc_Q143:=by kernel_rfl
def c_slices_Index_string_string_1:SC:=.seq (.reg [vO 4 (.mov (cI (-1)))]) .ret
def b_slices_Index_string_string_1:SC:=.seq (.reg [bO 9 .lss 8 7]) (.seq (.cond (.t 9) .skip (.exit 0)) (.seq (.block 1 (.seq (.reg [mO 10 8,mO 5 10]) (.seq (.reg [mO 11 1,mO 12 0,mO 13 5,vO 14 (.iaddr 1 (.t 12) (.t 13)),lO 15 14,bO 16 .eql 11 15]) (.cond (.t 16) (.seq (.reg [mO 17 5,mO 4 17]) .ret) .skip)))) (.reg [bC 18 .add 8 1,mO 8 18])))
def sc_slices_Index_string_string:zh:=⟨2,19,.seq (.reg [vO 4 (.mov (cI 0))]) (.seq (.seq (.reg [mO 6 0,vO 7 (.len false (.t 6)),vO 8 (.mov (cI 0))]) (.block 0 (.loop b_slices_Index_string_string_1))) c_slices_Index_string_string_1),[(.t 4)]⟩
noncomputable def zbG (SP:Prg) (x:EO):CO:=fin [(.t 4)] (thC SP (zx 0 (x)) c_slices_Index_string_string_1)
theorem zbZ:type_of% (aI (ue c_slices_Index_string_string_1.eq_1)<|aI (ue b_slices_Index_string_string_1.eq_1)<|sc_slices_Index_string_string.eq_1):=aI (ue c_slices_Index_string_string_1.eq_1)<|aI (ue b_slices_Index_string_string_1.eq_1)<|sc_slices_Index_string_string.eq_1
theorem comp_slices_Index_string_string:comp Tryz.prog Tryz.f62=some sc_slices_Index_string_string:=by kernel_rfl
def sc_Q202:zh:=⟨3,20,.seq (.reg [vO 6 (.mov (cI 0))]) (.seq (.reg [mO 8 0,mO 9 1,kO 10 105 [(.t 8),(.t 9),(.c (.str [])),(.c (.nils 1))],mO 7 10]) (.seq (.reg [mO 11 0,nO 12 11,fO 13 2 12,lO 14 13,mO 15 7,mO 16 2,vO 17 (.iaddr 5 (.t 14) (.t 15)),fO 18 1 17,sO 1 18 16]) (.seq (.reg [mO 19 7,mO 6 19]) .ret))),[(.t 6)]⟩
theorem zzF:type_of% (sc_Q202.eq_1):=sc_Q202.eq_1
theorem comp_Q202:comp Tryz.prog Tryz.f202=some sc_Q202:=by kernel_rfl
def c_Q201_1:SC:=.seq (.reg [mO 32 0,kO 33 104 [(.t 32),(.c (.str [40]))]]) (.seq (.reg [mO 34 0,mO 35 3,mO 36 0,kO 37 203 [(.t 36),(.c (.str [41]))],kO 38 105 [(.t 34),(cI 5),(.t 35),(.t 37)],mO 2 38]) .ret)
def c_Q201_2:SC:=.cond (.t 8) (.seq (.reg [mO 11 0,kO 12 202 [(.t 11),(cI 3),(cI 1)],mO 2 12]) .ret) (.seq (.reg [mO 14 3,vO 15 (.bin .eql (.t 14) (.c (.str [102,97,108,115,101]))),mO 13 15]) (.cond (.t 13) (.seq (.reg [mO 16 0,kO 17 202 [(.t 16),(cI 3),(cI 0)],mO 2 17]) .ret) (.seq (.reg [mO 19 0,nO 20 19,fO 21 0 20,kO 22 67 [(.t 21),(.c (.str [46]))],mO 18 22]) (.cond (.t 18) (.seq (.reg [mO 23 0,mO 24 3,vO 25 (.bin .add (.t 24) (.c (.str [46]))),mO 26 0,nO 27 26,fO 28 0 27,kO 29 101 [(.t 28)],bO 30 .add 25 29,kO 31 105 [(.t 23),(cI 4),(.t 30),(.c (.nils 1))],mO 2 31]) .ret) .skip))))
def c_Q201_3:SC:=.seq (.block 0 (.seq (.reg [mO 9 3,vO 10 (.bin .eql (.t 9) (.c (.str [116,114,117,101]))),mO 8 10]) c_Q201_2)) c_Q201_1
def c_Q201_4:SC:=.seq (.reg [mO 4 0,nO 5 4,fO 6 0 5,kO 7 101 [(.t 6)],mO 3 7]) c_Q201_3
def sc_Q201:zh:=⟨1,39,.seq (.reg [vO 2 (.mov (cI 0))]) c_Q201_4,[(.t 2)]⟩
theorem zxO:type_of% (aI (ue c_Q201_1.eq_1)<|aI (ue c_Q201_2.eq_1)<|aI (ue c_Q201_3.eq_1)<|aI (ue c_Q201_4.eq_1)<|sc_Q201.eq_1):=aI (ue c_Q201_1.eq_1)<|aI (ue c_Q201_2.eq_1)<|aI (ue c_Q201_3.eq_1)<|aI (ue c_Q201_4.eq_1)<|sc_Q201.eq_1
theorem comp_Q201:comp Tryz.prog Tryz.f201=some sc_Q201:=by kernel_rfl
def c_Q180_1:SC:=.seq (.reg [mO 69 0,kO 70 104 [(.t 69),(.c (.str [40]))]]) (.seq (.reg [mO 71 0,kO 72 68 [(.t 71)],mO 5 72]) (.seq (.reg [mO 73 0,kO 74 181 [(.t 73),(.c (.str [41]))]]) (.seq (.reg [mO 75 5,mO 2 75]) .ret)))
def c_Q180_2:SC:=.cond (.t 33) (.seq (.reg [mO 37 0,nO 38 37,fO 39 0 38,fO 40 1 39,lO 41 40,bC 42 .add 41 1,nO 43 37,fO 44 0 43,fO 45 1 44,sO 1 45 42]) (.seq (.reg [mO 46 0,kO 47 105 [(.t 46),(cI 2),(.c (.str [])),(.c (.nils 1))],mO 4 47]) (.seq (.dreg [mO 48 0,nO 49 48,fO 50 2 49,lO 51 50,mO 52 4,fO 53 3 3,lO 54 53,vO 55 (.iaddr 5 (.t 51) (.t 52)),fO 56 3 55,sO 1 56 54] [false,false,false,false,false,false,false,true,true,true]) (.seq (.reg [mO 57 4,mO 2 57]) .ret)))) (.seq (.reg [mO 59 0,nO 60 59,fO 61 0 60,kO 62 102 [(.t 61),(.c (.str [91]))],mO 58 62]) (.cond (.t 58) (.seq (.reg [mO 63 0,kO 64 104 [(.t 63),(.c (.str [91]))]]) (.seq (.reg [mO 65 0,mO 66 0,kO 67 203 [(.t 66),(.c (.str [93]))],kO 68 105 [(.t 65),(cI 6),(.c (.str [])),(.t 67)],mO 2 68]) .ret)) .skip))
def c_Q180_3:SC:=.cond (.t 16) (.seq (.reg [mO 20 0,nO 21 20,fO 22 0 21,fO 23 1 22,lO 24 23,bC 25 .add 24 1,nO 26 20,fO 27 0 26,fO 28 1 27,sO 1 28 25]) (.seq (.reg [mO 29 0,fO 30 2 3,lO 31 30,kO 32 202 [(.t 29),(cI 1),(.t 31)],mO 2 32]) .ret)) (.seq (.reg [fO 34 0 3,lO 35 34,bC 36 .eql 35 2,mO 33 36]) c_Q180_2)
def c_Q180_4:SC:=.cond (.t 10) (.seq (.reg [mO 14 0,kO 15 201 [(.t 14)],mO 2 15]) .ret) (.seq (.reg [fO 17 0 3,lO 18 17,bC 19 .eql 18 1,mO 16 19]) c_Q180_3)
def c_Q180_5:SC:=.seq (.block 0 (.seq (.reg [fO 11 0 3,lO 12 11,bC 13 .eql 12 3,mO 10 13]) c_Q180_4)) c_Q180_1
def c_Q180_6:SC:=.seq (.reg [mO 6 0,nO 7 6,fO 8 0 7,kO 9 38 [(.t 8)],⟨some 3,none,.alloc [(.int .i64 0),(.str []),(.int .i64 0),(.nils 2),(.int .i64 0)]⟩,sO 5 3 9]) c_Q180_5
def sc_Q180:zh:=⟨1,76,.seq (.reg [vO 2 (.mov (cI 0))]) c_Q180_6,[(.t 2)]⟩
theorem zyZ:type_of% (aI (ue c_Q180_1.eq_1)<|aI (ue c_Q180_2.eq_1)<|aI (ue c_Q180_3.eq_1)<|aI (ue c_Q180_4.eq_1)<|aI (ue c_Q180_5.eq_1)<|aI (ue c_Q180_6.eq_1)<|sc_Q180.eq_1):=aI (ue c_Q180_1.eq_1)<|aI (ue c_Q180_2.eq_1)<|aI (ue c_Q180_3.eq_1)<|aI (ue c_Q180_4.eq_1)<|aI (ue c_Q180_5.eq_1)<|aI (ue c_Q180_6.eq_1)<|sc_Q180.eq_1
theorem comp_Q180:comp Tryz.prog Tryz.f180=some sc_Q180:=by kernel_rfl
def sc_Q41:zh:=⟨1,12,.seq (.reg [⟨some 2,none,.nilv 5⟩]) (.seq (.reg [mO 3 0,nO 4 3,fO 5 2 4,⟨none,none,.store 1 (.t 5) (.c (.nils 5))⟩]) (.seq (.reg [mO 6 0,kO 7 68 [(.t 6)]]) (.seq (.reg [mO 8 0,nO 9 8,fO 10 2 9,lO 11 10,mO 2 11]) .ret))),[(.t 2)]⟩
theorem zz4:type_of% (sc_Q41.eq_1):=sc_Q41.eq_1
theorem comp_Q41:comp Tryz.prog Tryz.f41=some sc_Q41:=by kernel_rfl
def c_Q103_1:SC:=.seq (.reg [mO 54 5,mO 4 54]) .ret
def c_Q103_2:SC:=.seq (.seq (.reg [mO 32 7,uO 33 32]) (.cond (.t 33) (.exit 0) .skip)) (.seq (.reg [mO 34 0,nO 35 34,fO 36 0 35,fO 37 1 36,lO 38 37,bC 39 .add 38 1,nO 40 34,fO 41 0 40,fO 42 1 41,sO 1 42 39]) (.seq (.reg [mO 43 0,mO 44 6,mO 45 5,mO 46 0,mO 47 1,bC 48 .add 47 1,kO 49 103 [(.t 46),(.t 48)],⟨some 50,none,.bslice 1 2 [(.int .i64 0)] [(0,(.t 45)),(1,(.t 49))]⟩,kO 51 105 [(.t 43),(.t 44),(.c (.str [])),(.t 50)],mO 5 51]) (.seq (.reg [mO 52 1,bC 53 .eql 52 2]) (.cond (.t 53) (.exit 0) .skip))))
def c_Q103_3:SC:=.block 1 (.seq (.reg [mO 23 1,mO 24 0,nO 25 24,fO 26 0 25,kO 27 38 [(.t 26)],vO 28 (.field 1 none (.t 27)),kO 29 143 [(.t 23),(.t 28)],mO 22 29,vO 30 (.extract 0 (.t 22)),vO 31 (.extract 1 (.t 22)),mO 6 30,mO 7 31]) c_Q103_2)
def b_Q103_1:SC:=.seq (.seq (.reg [mO 16 0,nO 17 16,fO 18 0 17,kO 19 38 [(.t 18)],vO 20 (.field 0 none (.t 19)),bC 21 .eql 20 4]) (.cond (.t 21) .skip (.exit 0))) c_Q103_3
def c_Q103_4:SC:=.seq (.block 0 (.loop b_Q103_1)) c_Q103_1
def c_Q103_5:SC:=.seq (.reg [mO 12 0,mO 13 1,bC 14 .add 13 1,kO 15 103 [(.t 12),(.t 14)],mO 5 15]) c_Q103_4
def c_Q103_6:SC:=.seq (.seq (.reg [mO 8 1,bC 9 .eql 8 5]) (.cond (.t 9) (.seq (.reg [mO 10 0,kO 11 142 [(.t 10)],mO 4 11]) .ret) .skip)) c_Q103_5
def sc_Q103:zh:=⟨2,55,.seq (.reg [vO 4 (.mov (cI 0))]) c_Q103_6,[(.t 4)]⟩
noncomputable def znJ (SP:Prg) (x:EO):CO:=fin [(.t 4)] (thC SP (zx 0 (x)) c_Q103_1)
theorem zq9:type_of% (aI (ue c_Q103_1.eq_1)<|aI (ue c_Q103_2.eq_1)<|aI (ue c_Q103_3.eq_1)<|aI (ue b_Q103_1.eq_1)<|aI (ue c_Q103_4.eq_1)<|aI (ue c_Q103_5.eq_1)<|aI (ue c_Q103_6.eq_1)<|sc_Q103.eq_1):=aI (ue c_Q103_1.eq_1)<|aI (ue c_Q103_2.eq_1)<|aI (ue c_Q103_3.eq_1)<|aI (ue b_Q103_1.eq_1)<|aI (ue c_Q103_4.eq_1)<|aI (ue c_Q103_5.eq_1)<|aI (ue c_Q103_6.eq_1)<|sc_Q103.eq_1
theorem comp_Q103:comp Tryz.prog Tryz.f103=some sc_Q103:=by kernel_rfl
def c_Q68_1:SC:=.seq (.reg [mO 14 0,kO 15 104 [(.t 14),(.c (.str [63]))]]) (.seq (.reg [mO 16 0,kO 17 68 [(.t 16)],mO 4 17]) (.seq (.reg [mO 18 0,nO 19 18,fO 20 0 19,kO 21 66 [(.t 20),(.c (.str [58]))]]) (.seq (.reg [mO 22 0,kO 23 68 [(.t 22)],mO 5 23]) (.seq (.reg [mO 24 0,nO 25 24,fO 26 3 25,lO 27 26,bC 28 .sub 27 1,nO 29 24,fO 30 3 29,sO 1 30 28]) (.seq (.reg [mO 31 0,mO 32 3,mO 33 4,mO 34 5,⟨some 35,none,.bslice 1 3 [(.int .i64 0)] [(0,(.t 32)),(1,(.t 33)),(2,(.t 34))]⟩,kO 36 105 [(.t 31),(cI 10),(.c (.str [])),(.t 35)],mO 2 36]) .ret)))))
def c_Q68_2:SC:=.seq (.seq (.reg [mO 8 0,nO 9 8,fO 10 0 9,kO 11 102 [(.t 10),(.c (.str [63]))],uO 12 11]) (.cond (.t 12) (.seq (.reg [mO 13 3,mO 2 13]) .ret) .skip)) c_Q68_1
def c_Q68_3:SC:=.seq (.reg [mO 6 0,kO 7 103 [(.t 6),(cI 0)],mO 3 7]) c_Q68_2
def sc_Q68:zh:=⟨1,37,.seq (.reg [vO 2 (.mov (cI 0))]) c_Q68_3,[(.t 2)]⟩
theorem zAO:type_of% (aI (ue c_Q68_1.eq_1)<|aI (ue c_Q68_2.eq_1)<|aI (ue c_Q68_3.eq_1)<|sc_Q68.eq_1):=aI (ue c_Q68_1.eq_1)<|aI (ue c_Q68_2.eq_1)<|aI (ue c_Q68_3.eq_1)<|sc_Q68.eq_1
theorem comp_Q68:comp Tryz.prog Tryz.f68=some sc_Q68:=by kernel_rfl
def c_Q142_1:SC:=.seq (.reg [mO 21 0,kO 22 142 [(.t 21)],mO 4 22]) (.seq (.reg [mO 23 0,nO 24 23,fO 25 3 24,lO 26 25,bC 27 .sub 26 1,nO 28 23,fO 29 3 28,sO 1 29 27]) (.seq (.reg [mO 30 0,mO 31 3,mO 32 4,⟨some 33,none,.bslice 1 1 [(.int .i64 0)] [(0,(.t 32))]⟩,kO 34 105 [(.t 30),(.t 31),(.c (.str [])),(.t 33)],mO 2 34]) .ret))
def c_Q142_2:SC:=.seq (.block 0 (.seq (.reg [mO 8 0,nO 9 8,fO 10 0 9,kO 11 102 [(.t 10),(.c (.str [45]))],mO 7 11]) (.cond (.t 7) (.reg [mO 12 0,kO 13 104 [(.t 12),(.c (.str [45]))]]) (.seq (.reg [mO 15 0,nO 16 15,fO 17 0 16,kO 18 102 [(.t 17),(.c (.str [33]))],mO 14 18]) (.cond (.t 14) (.seq (.reg [mO 19 0,kO 20 104 [(.t 19),(.c (.str [33]))]]) (.reg [vO 3 (.mov (cI 8))])) (.seq (.reg [mO 5 0,kO 6 167 [(.t 5)],mO 2 6]) .ret)))))) c_Q142_1
def c_Q142_3:SC:=.seq (.reg [vO 3 (.mov (cI 9))]) c_Q142_2
def sc_Q142:zh:=⟨1,35,.seq (.reg [vO 2 (.mov (cI 0))]) c_Q142_3,[(.t 2)]⟩
theorem zyx:type_of% (aI (ue c_Q142_1.eq_1)<|aI (ue c_Q142_2.eq_1)<|aI (ue c_Q142_3.eq_1)<|sc_Q142.eq_1):=aI (ue c_Q142_1.eq_1)<|aI (ue c_Q142_2.eq_1)<|aI (ue c_Q142_3.eq_1)<|sc_Q142.eq_1
theorem comp_Q142:comp Tryz.prog Tryz.f142=some sc_Q142:=by kernel_rfl
def c_Q167_1:SC:=.seq (.reg [mO 22 3,mO 2 22]) .ret
def b_Q167_1:SC:=.seq (.seq (.reg [mO 7 0,nO 8 7,fO 9 0 8,kO 10 102 [(.t 9),(.c (.str [91]))]]) (.cond (.t 10) .skip (.exit 0))) (.block 1 (.seq (.reg [mO 11 0,kO 12 104 [(.t 11),(.c (.str [91]))]]) (.seq (.reg [mO 13 0,kO 14 68 [(.t 13)],mO 4 14]) (.seq (.reg [mO 15 0,kO 16 181 [(.t 15),(.c (.str [93]))]]) (.reg [mO 17 0,mO 18 3,mO 19 4,⟨some 20,none,.bslice 1 2 [(.int .i64 0)] [(0,(.t 18)),(1,(.t 19))]⟩,kO 21 105 [(.t 17),(cI 7),(.c (.str [])),(.t 20)],mO 3 21])))))
def sc_Q167:zh:=⟨1,23,.seq (.reg [vO 2 (.mov (cI 0))]) (.seq (.reg [mO 5 0,kO 6 180 [(.t 5)],mO 3 6]) (.seq (.block 0 (.loop b_Q167_1)) c_Q167_1)),[(.t 2)]⟩
noncomputable def zn2 (SP:Prg) (x:EO):CO:=fin [(.t 2)] (thC SP (zx 0 (x)) c_Q167_1)
theorem zsl:type_of% (aI (ue c_Q167_1.eq_1)<|aI (ue b_Q167_1.eq_1)<|sc_Q167.eq_1):=aI (ue c_Q167_1.eq_1)<|aI (ue b_Q167_1.eq_1)<|sc_Q167.eq_1
theorem comp_Q167:comp Tryz.prog Tryz.f167=some sc_Q167:=by kernel_rfl
def c_Q203_1:SC:=.seq (.reg [mO 26 0,mO 27 1,kO 28 181 [(.t 26),(.t 27)]]) (.seq (.reg [mO 29 5,mO 4 29]) .ret)
def b_Q203_1:SC:=.seq (.seq (.reg [mO 17 0,nO 18 17,fO 19 0 18,kO 20 67 [(.t 19),(.c (.str [44]))]]) (.cond (.t 20) .skip (.exit 0))) (.block 1 (.reg [mO 21 5,mO 22 0,kO 23 68 [(.t 22)],⟨some 24,none,.bslice 1 1 [(.int .i64 0)] [(0,(.t 23))]⟩,⟨some 25,none,.append 1 8 (.t 21) (.t 24)⟩,mO 5 25]))
def c_Q203_2:SC:=.seq (.reg [⟨some 5,none,.nilv 1⟩]) (.seq (.seq (.reg [mO 6 0,nO 7 6,fO 8 0 7,mO 9 1,kO 10 102 [(.t 8),(.t 9)],uO 11 10]) (.cond (.t 11) (.seq (.reg [mO 12 5,mO 13 0,kO 14 68 [(.t 13)],⟨some 15,none,.bslice 1 1 [(.int .i64 0)] [(0,(.t 14))]⟩,⟨some 16,none,.append 1 8 (.t 12) (.t 15)⟩,mO 5 16]) (.block 0 (.loop b_Q203_1))) .skip)) c_Q203_1)
def sc_Q203:zh:=⟨2,30,.seq (.reg [⟨some 4,none,.nilv 1⟩]) c_Q203_2,[(.t 4)]⟩
noncomputable def zn8 (SP:Prg) (x:EO):CO:=fin [(.t 4)] (thC SP (zx 0 (x)) c_Q203_1)
theorem zre:type_of% (aI (ue c_Q203_1.eq_1)<|aI (ue b_Q203_1.eq_1)<|aI (ue c_Q203_2.eq_1)<|sc_Q203.eq_1):=aI (ue c_Q203_1.eq_1)<|aI (ue b_Q203_1.eq_1)<|aI (ue c_Q203_2.eq_1)<|sc_Q203.eq_1
theorem comp_Q203:comp Tryz.prog Tryz.f203=some sc_Q203:=by kernel_rfl
def c_Q64_1:SC:=.seq (.reg [mO 39 0,nO 40 39,fO 41 0 40,fO 42 0 41,fO 43 1 42,lO 44 43,bC 45 .add 44 1,nO 46 39,fO 47 0 46,fO 48 0 47,fO 49 1 48,sO 1 49 45]) (.seq (.reg [fO 50 3 3,lO 51 50,vO 52 (.iaddr 2 (.t 51) (cI 0)),fO 53 1 52,lO 54 53,mO 2 54]) .ret)
def c_Q64_2:SC:=.cond (.t 33) (.reg [mO 34 0,nO 35 34,fO 36 0 35,fO 37 0 36,kO 38 42 [(.t 37),(cI 5)]]) .skip
def c_Q64_3:SC:=.seq (.seq (.reg [fO 9 0 3,lO 10 9,bC 11 .neq 10 2,mO 12 11,gO 13 12 false (.faddr 3 (.t 3)),gO 14 12 false (.load none (.t 13)),gO 15 12 false (.len false (.t 14)),gO 16 12 false (.bin .neq (.t 15) (cI 1)),vO 17 (.pick (.t 12) (.c (.bool true)) (.t 16)),mO 18 17,gO 19 18 false (.faddr 3 (.t 3)),gO 20 18 false (.load none (.t 19)),gO 21 18 false (.iaddr 2 (.t 20) (cI 0)),gO 22 18 false (.faddr 0 (.t 21)),gO 23 18 false (.load none (.t 22)),vO 24 (.pick (.t 18) (.c (.bool true)) (.t 23)),mO 25 24,gO 26 25 false (.faddr 3 (.t 3)),gO 27 25 false (.load none (.t 26)),gO 28 25 false (.iaddr 2 (.t 27) (cI 0)),gO 29 25 false (.faddr 1 (.t 28)),gO 30 25 false (.load none (.t 29)),⟨some 31,some (25,false),.call (.c (.func 81 [])) [(.t 30)]⟩,gO 32 25 false (.un .not (.t 31)),vO 33 (.pick (.t 25) (.c (.bool true)) (.t 32))]) c_Q64_2) c_Q64_1
def c_Q64_4:SC:=.seq (.reg [mO 4 0,nO 5 4,fO 6 0 5,fO 7 0 6,kO 8 38 [(.t 7)],⟨some 3,none,.alloc [(.int .i64 0),(.str []),(.int .i64 0),(.nils 2),(.int .i64 0)]⟩,sO 5 3 8]) c_Q64_3
def sc_Q64:zh:=⟨1,55,.seq (.reg [vO 2 (.mov (.c (.str [])))]) c_Q64_4,[(.t 2)]⟩
theorem zAG:type_of% (aI (ue c_Q64_1.eq_1)<|aI (ue c_Q64_2.eq_1)<|aI (ue c_Q64_3.eq_1)<|aI (ue c_Q64_4.eq_1)<|sc_Q64.eq_1):=aI (ue c_Q64_1.eq_1)<|aI (ue c_Q64_2.eq_1)<|aI (ue c_Q64_3.eq_1)<|aI (ue c_Q64_4.eq_1)<|sc_Q64.eq_1
theorem comp_Q64:comp Tryz.prog Tryz.f64=some sc_Q64:=by kernel_rfl
def sc_Q100:zh:=⟨2,8,.seq (.reg [⟨some 2,none,.box (.t 0)⟩,vO 3 (.mov (.c (.bool false)))]) (.seq (.reg [fO 4 0 2,lO 5 4,lO 6 1,bO 7 .eql 5 6,mO 3 7]) .ret),[(.t 3)]⟩
theorem zyL:type_of% (sc_Q100.eq_1):=sc_Q100.eq_1
theorem comp_Q100:comp Tryz.prog Tryz.f100=some sc_Q100:=by kernel_rfl
def c_Q100:SC:=.seq (.reg [mO 60 3,mO 2 60]) .ret
def c_Q65_2:SC:=.seq (.reg [mO 40 0,nO 41 40,fO 42 0 41,fO 43 0 42,kO 44 101 [(.t 43)],vO 45 (.build [(.str []),(.nils 5)] [(0,1,(.t 44))]),⟨some 5,none,.alloc [(.str []),(.nils 5)]⟩,sO 2 5 45]) (.seq (.reg [mO 46 0,nO 47 46,fO 48 0 47,fO 49 0 48,kO 50 66 [(.t 49),(.c (.str [61]))]]) (.seq (.reg [mO 51 0,nO 52 51,fO 53 0 52,kO 54 41 [(.t 53)],fO 55 1 5,sO 1 55 54]) (.reg [mO 56 3,vO 57 (.load (some 2) (.t 5)),⟨some 58,none,.bslice 2 1 [(.str []),(.nils 5)] [(0,(.t 57))]⟩,⟨some 59,none,.append 2 40 (.t 56) (.t 58)⟩,mO 3 59])))
def c_Q65_3:SC:=.seq (.seq (.reg [mO 23 0,nO 24 23,fO 25 0 24,fO 26 0 25,kO 27 38 [(.t 26)],vO 28 (.field 0 none (.t 27)),bC 29 .eql 28 3,mO 30 29,gO 31 30 true (.mov (.t 3)),gO 32 30 true (.func 100 [(.t 4)]),⟨some 33,some (30,true),.call (.c (.func 99 [])) [(.t 31),(.t 32)]⟩,vO 34 (.pick (.t 30) (.t 33) (.c (.bool false)))]) (.cond (.t 34) (.reg [mO 35 0,nO 36 35,fO 37 0 36,fO 38 0 37,kO 39 42 [(.t 38),(cI 3)]]) .skip)) c_Q65_2
def c_Q65_4:SC:=.block 1 (.seq (.reg [mO 17 0,nO 18 17,fO 19 0 18,fO 20 0 19,kO 21 38 [(.t 20)],vO 22 (.field 1 none (.t 21)),⟨some 4,none,.alloc [(.str [])]⟩,sO 1 4 22]) c_Q65_3)
def b_Q100:SC:=.seq (.seq (.reg [mO 11 0,nO 12 11,fO 13 0 12,fO 14 0 13,kO 15 67 [(.t 14),(.c (.str [125]))],uO 16 15]) (.cond (.t 16) .skip (.exit 0))) c_Q65_4
def c_Q65_5:SC:=.seq (.block 0 (.loop b_Q100)) c_Q100
def c_Q65_6:SC:=.seq (.reg [mO 6 0,nO 7 6,fO 8 0 7,fO 9 0 8,kO 10 66 [(.t 9),(.c (.str [123]))]]) c_Q65_5
def c_Q65_7:SC:=.seq (.reg [⟨some 3,none,.nilv 2⟩]) c_Q65_6
def sc_Q65:zh:=⟨1,61,.seq (.reg [⟨some 2,none,.nilv 2⟩]) c_Q65_7,[(.t 2)]⟩
noncomputable def zZ (SP:Prg) (x:EO):CO:=fin [(.t 2)] (thC SP (zx 0 (x)) c_Q100)
theorem zqG:type_of% (aI (ue c_Q100.eq_1)<|aI (ue c_Q65_2.eq_1)<|aI (ue c_Q65_3.eq_1)<|aI (ue c_Q65_4.eq_1)<|aI (ue b_Q100.eq_1)<|aI (ue c_Q65_5.eq_1)<|aI (ue c_Q65_6.eq_1)<|aI (ue c_Q65_7.eq_1)<|sc_Q65.eq_1):=aI (ue c_Q100.eq_1)<|aI (ue c_Q65_2.eq_1)<|aI (ue c_Q65_3.eq_1)<|aI (ue c_Q65_4.eq_1)<|aI (ue b_Q100.eq_1)<|aI (ue c_Q65_5.eq_1)<|aI (ue c_Q65_6.eq_1)<|aI (ue c_Q65_7.eq_1)<|sc_Q65.eq_1
theorem comp_Q65:comp Tryz.prog Tryz.f65=some sc_Q65:=by kernel_rfl
def sc_Q63:zh:=⟨0,2,.seq (.reg [⟨some 0,none,.nilv 1⟩]) (.seq (.reg [⟨some 1,none,.bslice 1 5 [(.str [])] [(0,(.c (.str [118,97,114,105,97,98,108,101]))),(1,(.c (.str [108,111,99,97,108,115]))),(2,(.c (.str [110,111,100,101]))),(3,(.c (.str [109,111,100,117,108,101]))),(4,(.c (.str [100,101,102,105,110,101])))]⟩,mO 0 1]) .ret),[(.t 0)]⟩
theorem zAV:type_of% (sc_Q63.eq_1):=sc_Q63.eq_1
theorem comp_Q63:comp Tryz.prog Tryz.f63=some sc_Q63:=by kernel_rfl
def zB:List SOper:=[fO 72 3 7,lO 73 72,mO 74 0,kO 75 39 [(.t 74),(.c (.bool true))],⟨some 76,none,.bslice 4 1 [(.int .i64 0),(.str []),(.nils 2),(.nils 4)] [(0,(.t 75))]⟩,⟨some 77,none,.append 4 72 (.t 73) (.t 76)⟩,fO 78 3 7,sO 1 78 77]
def t_Q39_1:BT:=(.n 0 (.n 1 (.n 2 (.n 3 (.n 4 (.n 5 (.n 6 (.n 7 .e .e) .e) .e) .e) .e) .e) (.n 2 (.n 1 (.n 3 (.n 4 (.n 5 (.n 6 (.n 7 .e .e) .e) .e) .e) .e) (.n 3 (.n 1 (.n 4 (.n 5 (.n 6 (.n 7 .e .e) .e) .e) .e) (.n 4 (.n 1 (.n 5 (.n 6 (.n 7 .e .e) .e) .e) .e) .e)) .e)) .e)) (.n 2 (.n 0 (.n 1 (.n 3 (.n 4 (.n 5 (.n 6 (.n 7 .e .e) .e) .e) .e) .e) (.n 3 (.n 1 (.n 4 (.n 5 (.n 6 (.n 7 .e .e) .e) .e) .e) (.n 4 (.n 1 (.n 5 (.n 6 (.n 7 .e .e) .e) .e) .e) .e)) .e)) (.n 3 (.n 0 (.n 1 (.n 4 (.n 5 (.n 6 (.n 7 .e .e) .e) .e) .e) (.n 4 (.n 1 (.n 5 (.n 6 (.n 7 .e .e) .e) .e) .e) .e)) (.n 4 (.n 0 (.n 1 (.n 5 (.n 6 (.n 7 .e .e) .e) .e) .e) .e) .e)) .e)) .e))
theorem zdb (ac:Ac):prep zB ac=((ac.kill 75).kill 77):=rfl
theorem zda:zB[0]?=some (fO 72 3 7)∧zB[1]?=some (lO 73 72)∧zB[2]?=some (mO 74 0)∧zB[3]?=some (kO 75 39 [(.t 74),(.c (.bool true))])∧zB[4]?=some (⟨some 76,none,.bslice 4 1 [(.int .i64 0),(.str []),(.nils 2),(.nils 4)] [(0,(.t 75))]⟩)∧zB[5]?=some (⟨some 77,none,.append 4 72 (.t 73) (.t 76)⟩)∧zB[6]?=some (fO 78 3 7)∧zB[7]?=some (sO 1 78 77):=⟨rfl,rfl,rfl,rfl,rfl,rfl,rfl,rfl⟩
def c_Q39_1:SC:=.seq (.reg [vO 79 (.load (some 4) (.t 7)),sO 4 4 79]) .ret
def b_Q39_1:SC:=.seq (.seq (.reg [mO 66 0,nO 67 66,fO 68 0 67,fO 69 0 68,kO 70 67 [(.t 69),(.c (.str [125]))],uO 71 70]) (.cond (.t 71) .skip (.exit 0))) (.block 1 (.treg zB [72,73,74,75,76,77,78] t_Q39_1))
def c_Q39_2:SC:=.seq (.block 0 (.loop b_Q39_1)) c_Q39_1
def c_Q39_3:SC:=.seq (.reg [mO 61 0,nO 62 61,fO 63 0 62,fO 64 0 63,kO 65 66 [(.t 64),(.c (.str [123]))]]) c_Q39_2
def c_Q39_4:SC:=.seq (.seq (.reg [mO 55 6,bC 56 .neq 55 5]) (.cond (.t 56) (.seq (.reg [mO 57 0,kO 58 65 [(.t 57)],fO 59 2 7,sO 1 59 58]) (.seq (.reg [vO 60 (.load (some 4) (.t 7)),sO 4 4 60]) .ret)) .skip)) c_Q39_3
def c_Q39_5:SC:=.seq (.seq (.reg [mO 50 6,bC 51 .neq 50 2]) (.cond (.t 51) (.reg [mO 52 0,kO 53 64 [(.t 52)],fO 54 1 7,sO 1 54 53]) .skip)) c_Q39_4
def c_Q39_6:SC:=.seq (.reg [mO 48 6,vO 49 (.build [(.int .i64 0),(.str []),(.nils 2),(.nils 4)] [(0,1,(.t 48))]),⟨some 7,none,.alloc [(.int .i64 0),(.str []),(.nils 2),(.nils 4)]⟩,sO 4 7 49]) c_Q39_5
def c_Q39_7:SC:=.seq (.reg [mO 37 0,nO 38 37,fO 39 0 38,fO 40 0 39,fO 41 1 40,lO 42 41,bC 43 .add 42 1,nO 44 37,fO 45 0 44,fO 46 0 45,fO 47 1 46,sO 1 47 43]) c_Q39_6
def c_Q39_8:SC:=.seq (.seq (.reg [fO 18 0 5,lO 19 18,bC 20 .neq 19 3,mO 21 20,gO 22 21 false (.mov (.t 6)),gO 23 21 false (.bin .eql (.t 22) (cI 0)),vO 24 (.pick (.t 21) (.c (.bool true)) (.t 23)),mO 25 24,gO 26 25 false (.mov (.t 6)),gO 27 25 false (.bin .eql (.t 26) (cI 5)),gO 28 25 false (.mov (.t 27)),gO 29 28 true (.mov (.t 1)),gO 30 25 false (.pick (.t 28) (.t 29) (.c (.bool false))),vO 31 (.pick (.t 25) (.c (.bool true)) (.t 30))]) (.cond (.t 31) (.reg [mO 32 0,nO 33 32,fO 34 0 33,fO 35 0 34,kO 36 42 [(.t 35),(cI 5)]]) .skip)) c_Q39_7
def c_Q39_9:SC:=.seq (.dreg [kO 13 63 [],fO 14 1 5,lO 15 14,kO 16 62 [(.t 13),(.t 15)],vO 17 (.bin .add (cI 1) (.t 16)),mO 6 17] [false,false,false,true,true,true]) c_Q39_8
def c_Q39_10:SC:=.seq (.reg [mO 8 0,nO 9 8,fO 10 0 9,fO 11 0 10,kO 12 38 [(.t 11)],⟨some 5,none,.alloc [(.int .i64 0),(.str []),(.int .i64 0),(.nils 2),(.int .i64 0)]⟩,sO 5 5 12]) c_Q39_9
def sc_Q39:zh:=⟨2,80,.seq (.reg [⟨some 4,none,.alloc [(.int .i64 0),(.str []),(.nils 2),(.nils 4)]⟩]) c_Q39_10,[(.cell 4 (some 4))]⟩
noncomputable def zpE (SP:Prg) (x:EO):CO:=fin [(.cell 4 (some 4))] (thC SP (zx 0 (x)) c_Q39_1)
theorem zvy:type_of% (aI (ue c_Q39_1.eq_1)<|aI (ue b_Q39_1.eq_1)<|aI (ue c_Q39_2.eq_1)<|aI (ue c_Q39_3.eq_1)<|aI (ue c_Q39_4.eq_1)<|aI (ue c_Q39_5.eq_1)<|aI (ue c_Q39_6.eq_1)<|aI (ue c_Q39_7.eq_1)<|aI (ue c_Q39_8.eq_1)<|aI (ue c_Q39_9.eq_1)<|aI (ue c_Q39_10.eq_1)<|aI zdb<|aI zda<|aI t_Q39_1.eq_1<|sc_Q39.eq_1):=aI (ue c_Q39_1.eq_1)<|aI (ue b_Q39_1.eq_1)<|aI (ue c_Q39_2.eq_1)<|aI (ue c_Q39_3.eq_1)<|aI (ue c_Q39_4.eq_1)<|aI (ue c_Q39_5.eq_1)<|aI (ue c_Q39_6.eq_1)<|aI (ue c_Q39_7.eq_1)<|aI (ue c_Q39_8.eq_1)<|aI (ue c_Q39_9.eq_1)<|aI (ue c_Q39_10.eq_1)<|aI zdb<|aI zda<|aI t_Q39_1.eq_1<|sc_Q39.eq_1
theorem comp_Q39:comp Tryz.prog Tryz.f39=some sc_Q39:=by kernel_rfl
def c_slices_IndexFunc_api_Attr_api_Attr_1:SC:=.seq (.reg [vO 4 (.mov (cI (-1)))]) .ret
def b_slices_IndexFunc_api_Attr_api_Attr_1:SC:=.seq (.reg [bO 9 .lss 8 7]) (.seq (.cond (.t 9) .skip (.exit 0)) (.seq (.block 1 (.seq (.reg [mO 10 8,mO 5 10]) (.seq (.reg [mO 11 1,mO 12 0,mO 13 5,vO 14 (.iaddr 2 (.t 12) (.t 13)),vO 15 (.load (some 2) (.t 14)),⟨some 16,none,.call (.t 11) [(.t 15)]⟩]) (.cond (.t 16) (.seq (.reg [mO 17 5,mO 4 17]) .ret) .skip)))) (.reg [bC 18 .add 8 1,mO 8 18])))
def sc_slices_IndexFunc_api_Attr_api_Attr:zh:=⟨2,19,.seq (.reg [vO 4 (.mov (cI 0))]) (.seq (.seq (.reg [mO 6 0,vO 7 (.len false (.t 6)),vO 8 (.mov (cI 0))]) (.block 0 (.loop b_slices_IndexFunc_api_Attr_api_Attr_1))) c_slices_IndexFunc_api_Attr_api_Attr_1),[(.t 4)]⟩
noncomputable def zP (SP:Prg) (x:EO):CO:=fin [(.t 4)] (thC SP (zx 0 (x)) c_slices_IndexFunc_api_Attr_api_Attr_1)
theorem zy:type_of% (aI (ue c_slices_IndexFunc_api_Attr_api_Attr_1.eq_1)<|aI (ue b_slices_IndexFunc_api_Attr_api_Attr_1.eq_1)<|sc_slices_IndexFunc_api_Attr_api_Attr.eq_1):=aI (ue c_slices_IndexFunc_api_Attr_api_Attr_1.eq_1)<|aI (ue b_slices_IndexFunc_api_Attr_api_Attr_1.eq_1)<|sc_slices_IndexFunc_api_Attr_api_Attr.eq_1
theorem comp_slices_IndexFunc_api_Attr_api_Attr:comp Tryz.prog Tryz.f141=some sc_slices_IndexFunc_api_Attr_api_Attr:=by kernel_rfl
def sc_slices_ContainsFunc_api_Attr_api_Attr:zh:=⟨2,9,.seq (.reg [vO 4 (.mov (.c (.bool false)))]) (.seq (.reg [mO 5 0,mO 6 1,kO 7 141 [(.t 5),(.t 6)],bC 8 .geq 7 0,mO 4 8]) .ret),[(.t 4)]⟩
theorem zct:type_of% (sc_slices_ContainsFunc_api_Attr_api_Attr.eq_1):=sc_slices_ContainsFunc_api_Attr_api_Attr.eq_1
theorem comp_slices_ContainsFunc_api_Attr_api_Attr:comp Tryz.prog Tryz.f99=some sc_slices_ContainsFunc_api_Attr_api_Attr:=by kernel_rfl
def zL:List SOper:=[lO 10 1,mO 11 0,kO 12 39 [(.t 11),(.c (.bool false))],vO 13 (.len false (.t 10)),⟨some 14,none,.bslice 4 1 [(.int .i64 0),(.str []),(.nils 2),(.nils 4)] [(0,(.c (.agg [(.int .i64 0),(.str []),(.nils 2),(.nils 4)])))]⟩,⟨some 15,none,.append 4 72 (.t 10) (.t 14)⟩,vO 16 (.iaddr 4 (.t 15) (.t 13)),sO 4 16 12,sO 1 1 15]
def t_Q37_1:BT:=(.n 0 (.n 1 (.n 2 (.n 3 (.n 4 (.n 5 (.n 6 (.n 7 (.n 8 .e .e) (.n 8 (.n 7 .e .e) .e)) (.n 8 (.n 6 (.n 7 .e .e) .e) .e)) .e) .e) (.n 4 (.n 3 (.n 5 (.n 6 (.n 7 (.n 8 .e .e) (.n 8 (.n 7 .e .e) .e)) (.n 8 (.n 6 (.n 7 .e .e) .e) .e)) .e) .e) .e)) (.n 3 (.n 2 (.n 4 (.n 5 (.n 6 (.n 7 (.n 8 .e .e) (.n 8 (.n 7 .e .e) .e)) (.n 8 (.n 6 (.n 7 .e .e) .e) .e)) .e) .e) (.n 4 (.n 2 (.n 5 (.n 6 (.n 7 (.n 8 .e .e) (.n 8 (.n 7 .e .e) .e)) (.n 8 (.n 6 (.n 7 .e .e) .e) .e)) .e) .e) .e)) (.n 4 (.n 2 (.n 3 (.n 5 (.n 6 (.n 7 (.n 8 .e .e) (.n 8 (.n 7 .e .e) .e)) (.n 8 (.n 6 (.n 7 .e .e) .e) .e)) .e) .e) (.n 3 (.n 2 (.n 5 (.n 6 (.n 7 (.n 8 .e .e) (.n 8 (.n 7 .e .e) .e)) (.n 8 (.n 6 (.n 7 .e .e) .e) .e)) .e) .e) .e)) .e))) (.n 3 (.n 1 (.n 2 (.n 4 (.n 5 (.n 6 (.n 7 (.n 8 .e .e) (.n 8 (.n 7 .e .e) .e)) (.n 8 (.n 6 (.n 7 .e .e) .e) .e)) .e) .e) (.n 4 (.n 2 (.n 5 (.n 6 (.n 7 (.n 8 .e .e) (.n 8 (.n 7 .e .e) .e)) (.n 8 (.n 6 (.n 7 .e .e) .e) .e)) .e) .e) .e)) (.n 4 (.n 1 (.n 2 (.n 5 (.n 6 (.n 7 (.n 8 .e .e) (.n 8 (.n 7 .e .e) .e)) (.n 8 (.n 6 (.n 7 .e .e) .e) .e)) .e) .e) .e) .e)) (.n 4 (.n 1 (.n 2 (.n 3 (.n 5 (.n 6 (.n 7 (.n 8 .e .e) (.n 8 (.n 7 .e .e) .e)) (.n 8 (.n 6 (.n 7 .e .e) .e) .e)) .e) .e) (.n 3 (.n 2 (.n 5 (.n 6 (.n 7 (.n 8 .e .e) (.n 8 (.n 7 .e .e) .e)) (.n 8 (.n 6 (.n 7 .e .e) .e) .e)) .e) .e) .e)) (.n 3 (.n 1 (.n 2 (.n 5 (.n 6 (.n 7 (.n 8 .e .e) (.n 8 (.n 7 .e .e) .e)) (.n 8 (.n 6 (.n 7 .e .e) .e) .e)) .e) .e) .e) .e)) .e))) (.n 1 (.n 0 (.n 2 (.n 3 (.n 4 (.n 5 (.n 6 (.n 7 (.n 8 .e .e) (.n 8 (.n 7 .e .e) .e)) (.n 8 (.n 6 (.n 7 .e .e) .e) .e)) .e) .e) (.n 4 (.n 3 (.n 5 (.n 6 (.n 7 (.n 8 .e .e) (.n 8 (.n 7 .e .e) .e)) (.n 8 (.n 6 (.n 7 .e .e) .e) .e)) .e) .e) .e)) (.n 3 (.n 2 (.n 4 (.n 5 (.n 6 (.n 7 (.n 8 .e .e) (.n 8 (.n 7 .e .e) .e)) (.n 8 (.n 6 (.n 7 .e .e) .e) .e)) .e) .e) (.n 4 (.n 2 (.n 5 (.n 6 (.n 7 (.n 8 .e .e) (.n 8 (.n 7 .e .e) .e)) (.n 8 (.n 6 (.n 7 .e .e) .e) .e)) .e) .e) .e)) (.n 4 (.n 2 (.n 3 (.n 5 (.n 6 (.n 7 (.n 8 .e .e) (.n 8 (.n 7 .e .e) .e)) (.n 8 (.n 6 (.n 7 .e .e) .e) .e)) .e) .e) (.n 3 (.n 2 (.n 5 (.n 6 (.n 7 (.n 8 .e .e) (.n 8 (.n 7 .e .e) .e)) (.n 8 (.n 6 (.n 7 .e .e) .e) .e)) .e) .e) .e)) .e))) (.n 2 (.n 0 (.n 3 (.n 4 (.n 5 (.n 6 (.n 7 (.n 8 .e .e) (.n 8 (.n 7 .e .e) .e)) (.n 8 (.n 6 (.n 7 .e .e) .e) .e)) .e) .e) (.n 4 (.n 3 (.n 5 (.n 6 (.n 7 (.n 8 .e .e) (.n 8 (.n 7 .e .e) .e)) (.n 8 (.n 6 (.n 7 .e .e) .e) .e)) .e) .e) .e)) (.n 4 (.n 0 (.n 3 (.n 5 (.n 6 (.n 7 (.n 8 .e .e) (.n 8 (.n 7 .e .e) .e)) (.n 8 (.n 6 (.n 7 .e .e) .e) .e)) .e) .e) .e) .e)) (.n 4 (.n 0 (.n 2 (.n 3 (.n 5 (.n 6 (.n 7 (.n 8 .e .e) (.n 8 (.n 7 .e .e) .e)) (.n 8 (.n 6 (.n 7 .e .e) .e) .e)) .e) .e) (.n 3 (.n 2 (.n 5 (.n 6 (.n 7 (.n 8 .e .e) (.n 8 (.n 7 .e .e) .e)) (.n 8 (.n 6 (.n 7 .e .e) .e) .e)) .e) .e) .e)) (.n 2 (.n 0 (.n 3 (.n 5 (.n 6 (.n 7 (.n 8 .e .e) (.n 8 (.n 7 .e .e) .e)) (.n 8 (.n 6 (.n 7 .e .e) .e) .e)) .e) .e) .e) .e)) .e))) (.n 4 (.n 0 (.n 1 (.n 2 (.n 3 (.n 5 (.n 6 (.n 7 (.n 8 .e .e) (.n 8 (.n 7 .e .e) .e)) (.n 8 (.n 6 (.n 7 .e .e) .e) .e)) .e) .e) (.n 3 (.n 2 (.n 5 (.n 6 (.n 7 (.n 8 .e .e) (.n 8 (.n 7 .e .e) .e)) (.n 8 (.n 6 (.n 7 .e .e) .e) .e)) .e) .e) .e)) (.n 3 (.n 1 (.n 2 (.n 5 (.n 6 (.n 7 (.n 8 .e .e) (.n 8 (.n 7 .e .e) .e)) (.n 8 (.n 6 (.n 7 .e .e) .e) .e)) .e) .e) .e) .e)) (.n 1 (.n 0 (.n 2 (.n 3 (.n 5 (.n 6 (.n 7 (.n 8 .e .e) (.n 8 (.n 7 .e .e) .e)) (.n 8 (.n 6 (.n 7 .e .e) .e) .e)) .e) .e) (.n 3 (.n 2 (.n 5 (.n 6 (.n 7 (.n 8 .e .e) (.n 8 (.n 7 .e .e) .e)) (.n 8 (.n 6 (.n 7 .e .e) .e) .e)) .e) .e) .e)) (.n 2 (.n 0 (.n 3 (.n 5 (.n 6 (.n 7 (.n 8 .e .e) (.n 8 (.n 7 .e .e) .e)) (.n 8 (.n 6 (.n 7 .e .e) .e) .e)) .e) .e) .e) .e)) .e)) .e)))
theorem zeV (ac:Ac):prep zL ac=((ac.kill 12).kill 15):=rfl
theorem zeN:zL[0]?=some (lO 10 1)∧zL[1]?=some (mO 11 0)∧zL[2]?=some (kO 12 39 [(.t 11),(.c (.bool false))])∧zL[3]?=some (vO 13 (.len false (.t 10)))∧zL[4]?=some (⟨some 14,none,.bslice 4 1 [(.int .i64 0),(.str []),(.nils 2),(.nils 4)] [(0,(.c (.agg [(.int .i64 0),(.str []),(.nils 2),(.nils 4)])))]⟩)∧zL[5]?=some (⟨some 15,none,.append 4 72 (.t 10) (.t 14)⟩)∧zL[6]?=some (vO 16 (.iaddr 4 (.t 15) (.t 13)))∧zL[7]?=some (sO 4 16 12)∧zL[8]?=some (sO 1 1 15):=⟨rfl,rfl,rfl,rfl,rfl,rfl,rfl,rfl,rfl⟩
def c_Q37_1:SC:=.block 1 (.treg zL [10,11,12,13,14,15,16] t_Q37_1)
def b_Q37_1:SC:=.seq (.seq (.reg [mO 3 0,nO 4 3,fO 5 0 4,fO 6 0 5,kO 7 38 [(.t 6)],vO 8 (.field 0 none (.t 7)),bC 9 .neq 8 0]) (.cond (.t 9) .skip (.exit 0))) c_Q37_1
def sc_Q37:zh:=⟨2,17,.block 0 (.loop b_Q37_1),[]⟩
noncomputable def zo2 (SP:Prg) (x:EO):CO:=fin [] (zx 0 (x))
theorem zvD:type_of% (aI (ue c_Q37_1.eq_1)<|aI (ue b_Q37_1.eq_1)<|aI zeV<|aI zeN<|aI t_Q37_1.eq_1<|sc_Q37.eq_1):=aI (ue c_Q37_1.eq_1)<|aI (ue b_Q37_1.eq_1)<|aI zeV<|aI zeN<|aI t_Q37_1.eq_1<|sc_Q37.eq_1
theorem comp_Q37:comp Tryz.prog Tryz.f37=some sc_Q37:=by kernel_rfl
def sc_Q40:zh:=⟨2,19,.seq (.reg [mO 3 0,nO 4 3,fO 5 0 4,kO 6 41 [(.t 5)],sO 1 1 6]) (.seq (.reg [mO 7 0,nO 8 7,fO 9 0 8,fO 10 0 9,kO 11 38 [(.t 10)],vO 12 (.field 0 none (.t 11)),bC 13 .neq 12 0]) (.cond (.t 13) (.reg [mO 14 0,nO 15 14,fO 16 0 15,fO 17 0 16,kO 18 42 [(.t 17),(cI 5)]]) .skip)),[]⟩
theorem zAv:type_of% (sc_Q40.eq_1):=sc_Q40.eq_1
theorem comp_Q40:comp Tryz.prog Tryz.f40=some sc_Q40:=by kernel_rfl
def sc_Q17:zh:=⟨1,13,.seq (.reg [⟨some 2,none,.nilv 4⟩,vO 3 (.mov (cI 0))]) (.seq (.reg [⟨some 4,none,.alloc [(.nils 4)]⟩]) (.seq (.reg [mO 6 0,vO 7 (.func 37 [(.t 4)]),kO 8 36 [(.t 6),(.t 7)],mO 5 8]) (.seq (.seq (.reg [mO 9 5,bC 10 .neq 9 0]) (.cond (.t 10) (.seq (.reg [mO 11 5,⟨some 2,none,.nilv 4⟩,mO 3 11]) .ret) .skip)) (.seq (.reg [lO 12 4,mO 2 12,vO 3 (.mov (cI 0))]) .ret)))),[(.t 2),(.t 3)]⟩
theorem zp4:type_of% (sc_Q17.eq_1):=sc_Q17.eq_1
theorem comp_Q17:comp Tryz.prog Tryz.f17=some sc_Q17:=by kernel_rfl
def sc_Q20:zh:=⟨1,13,.seq (.reg [⟨some 2,none,.nilv 5⟩,vO 3 (.mov (cI 0))]) (.seq (.reg [⟨some 4,none,.alloc [(.nils 5)]⟩]) (.seq (.reg [mO 6 0,vO 7 (.func 40 [(.t 4)]),kO 8 36 [(.t 6),(.t 7)],mO 5 8]) (.seq (.seq (.reg [mO 9 5,bC 10 .neq 9 0]) (.cond (.t 10) (.seq (.reg [mO 11 5,⟨some 2,none,.nilv 5⟩,mO 3 11]) .ret) .skip)) (.seq (.reg [lO 12 4,mO 2 12,vO 3 (.mov (cI 0))]) .ret)))),[(.t 2),(.t 3)]⟩
theorem zpU:type_of% (sc_Q20.eq_1):=sc_Q20.eq_1
theorem comp_Q20:comp Tryz.prog Tryz.f20=some sc_Q20:=by kernel_rfl
end Go.Proofs.YtfbcnpbhhooapaaGreatDoor.M
namespace Go.Proofs.YtfbcnpbhhooapaaGreatDoor.M
open Go Classical
theorem zyJ:SP 38=some (.code sc_Q38):=ze rfl Tryz.func38 comp_Q38
theorem ztp (t:PTokens) (r:Token) (t':PTokens) (T :
  (0≤t.pos) ∧
 ∃ (v1:Token),(t.l[t.pos.toNat]?=some v1) ∧
 v1=r∧t=t'):zaX t r t':=by
 intro S n0 t0 H0
 have hb0:=H0
 obtain⟨w0,hB0⟩:=zg hb0
 have hn0:=zc hB0
 rw[zd zyJ _ _ rfl]
 have F:=zAE
 exact rp n0 t0 (aa hB0<|aa hn0<|F) T
theorem zy8:SP 42=some (.code sc_Q42):=ze rfl Tryz.func42 comp_Q42
theorem zuo (t:PTokens) (e_:Int) (o:Option Int) (t':PTokens) (T :
  some e_=o∧t=t'):zbc t e_ o t':=by
 intro S n0 t0 H0
 have hb0:=H0
 obtain⟨w0,hB0⟩:=zg hb0
 have hn0:=zc hB0
 rw[zd zy8 _ _ rfl]
 have F:=zAt
 exact rp n0 t0 (aa hB0<|aa hn0<|F) T
theorem zwx:SP 102=some (.code sc_Q102):=ze rfl Tryz.func102 comp_Q102
theorem zse (t:PTokens) (s:List UInt8) (r:Bool) (t':PTokens) (T :
  ∃ (r1:Token) (y2:PTokens),(zaX t r1 y2) ∧
 ((r1.Kind=4) →
  ∃ (r3:Token) (y4:PTokens),(zaX y2 r3 y4) ∧
  (decide (r3.Text=s))=r∧y4=t') ∧
 (¬ (r1.Kind=4) →
  false=r∧y2=t')):zcx t s r t':=by
 intro S n0 t0 H0
 have hb0:=H0
 obtain⟨w0,hB0⟩:=zg hb0
 have hn0:=zc hB0
 rw[zd zwx _ _ rfl]
 have F:=zyv
 exact rp n0 t0 (aa hB0<|aa hn0<|F) T
theorem zyq:SP 67=some (.code sc_Q67):=ze rfl Tryz.func67 comp_Q67
theorem zog (t:PTokens) (s:List UInt8) (r:Bool) (t':PTokens) (T :
  ∃ (r1:Bool) (y2:PTokens),(zcx t s r1 y2) ∧
 ((r1=true) →
  (I64 (y2.pos+1)) ∧
  true=r∧(PTokens.mk y2.l (y2.pos+1))=t') ∧
 (¬ (r1=true) →
  false=r∧y2=t')):zec t s r t':=by
 intro S n0 t0 H0
 have hb0:=H0
 obtain⟨w0,hB0⟩:=zg hb0
 have hn0:=zc hB0
 rw[zd zyq _ _ rfl]
 have F:=zAc
 exact rp n0 t0 (aa hB0<|aa hn0<|F) T
theorem zzk:SP 66=some (.code sc_Q66):=ze rfl Tryz.func66 comp_Q66
theorem znZ (t:PTokens) (s:List UInt8) (o:Option Int) (t':PTokens) (T :
  ∃ (r1:Bool) (y2:PTokens),(zec t s r1 y2) ∧
 ((r1=true) →
  none=o∧y2=t') ∧
 (¬ (r1=true) →
  ∃ (o3:Option Int) (y4:PTokens),(zbc y2 5 o3 y4) ∧
  (match o3 with
  | none=>(False )
  | some e5=>(some e5=o∧y4=t')))):zbi t s o t':=by
 intro S n0 t0 H0
 have hb0:=H0
 obtain⟨w0,hB0⟩:=zg hb0
 have hn0:=zc hB0
 rw[zd zzk _ _ rfl]
 have F:=zAl
 exact rp n0 t0 (aa hB0<|aa hn0<|F) T
theorem zw3:SP 101=some (.code sc_Q101):=ze rfl Tryz.func101 comp_Q101
theorem zly (t:PTokens) (o:Option Int) (r:List UInt8) (t':PTokens) (T :
  ∃ (r1:Token) (y2:PTokens),(zaX t r1 y2) ∧
 ((r1.Kind=3) →
  (I64 (y2.pos+1)) ∧
  none=o∧r1.Text=r∧(PTokens.mk y2.l (y2.pos+1))=t') ∧
 (¬ (r1.Kind=3) →
  ∃ (o3:Option Int) (y4:PTokens),(zbc y2 5 o3 y4) ∧
  (match o3 with
  | none=>(False )
  | some e5=>(some e5=o∧y4=t')))):zb4 t o r t':=by
 intro S n0 t0 H0
 have hb0:=H0
 obtain⟨w0,hB0⟩:=zg hb0
 have hn0:=zc hB0
 rw[zd zw3 _ _ rfl]
 have F:=zyQ
 exact rp n0 t0 (aa hB0<|aa hn0<|F) T
theorem zwQ:SP 104=some (.code sc_Q104):=ze rfl Tryz.func104 comp_Q104
theorem ziB (x:PExprs) (x_g2:Nat) (x_z2:Bool) (s:List UInt8) (o:Option Int) (x':PExprs) (x'_g2:Nat) (x'_z2:Bool) (T :
  ∃ (r1:Bool) (y2:PTokens),(zcx x.tokens s r1 y2) ∧
 ((r1=true) →
  ((64≤x.deep) →
   ∃ (o3:Option Int) (y4:PTokens),(zbc y2 6 o3 y4) ∧
   (match o3 with
   | none=>(False )
   | some e5=>(some e5=o∧(PExprs.mk y4 x.out x.deep)=x'∧x_g2=x'_g2∧x_z2=x'_z2))) ∧
  (¬ (64≤x.deep) →
   ∃ (o6:Option Int) (y7:PTokens),(zbi y2 s o6 y7) ∧
   (match o6 with
   | none=>((I64 (x.deep+1)) ∧
    none=o∧(PExprs.mk y7 x.out (x.deep+1))=x'∧x_g2=x'_g2∧x_z2=x'_z2)
   | some e8=>(some e8=o∧(PExprs.mk y7 x.out x.deep)=x'∧x_g2=x'_g2∧x_z2=x'_z2)))) ∧
 (¬ (r1=true) →
  ∃ (o9:Option Int) (y10:PTokens),(zbi y2 s o9 y10) ∧
  (match o9 with
  | none=>((I64 (x.deep+1)) ∧
   none=o∧(PExprs.mk y10 x.out (x.deep+1))=x'∧x_g2=x'_g2∧x_z2=x'_z2)
  | some e11=>(some e11=o∧(PExprs.mk y10 x.out x.deep)=x'∧x_g2=x'_g2∧x_z2=x'_z2)))):zc1 x x_g2 x_z2 s o x' x'_g2 x'_z2:=by
 intro S n0 t0 H0
 obtain⟨hb0,ha0⟩:=H0
 obtain⟨w0,hB0⟩:=zg hb0
 have hn0:=zc hB0
 rw[zd zwQ _ _ rfl]
 have F:=zyI
 exact rp n0 t0 (aa ha0<|aa hB0<|aa hn0<|F) T
theorem zxv:SP 181=some (.code sc_Q181):=ze rfl Tryz.func181 comp_Q181
theorem zmk (x:PExprs) (x_g2:Nat) (x_z2:Bool) (s:List UInt8) (o:Option Int) (x':PExprs) (x'_g2:Nat) (x'_z2:Bool) (T :
  ∃ (o1:Option Int) (y2:PTokens),(zbi x.tokens s o1 y2) ∧
 (match o1 with
 | none=>((I64 (x.deep - 1)) ∧
  none=o∧(PExprs.mk y2 x.out (x.deep - 1))=x'∧x_g2=x'_g2∧x_z2=x'_z2)
 | some e3=>(some e3=o∧(PExprs.mk y2 x.out x.deep)=x'∧x_g2=x'_g2∧x_z2=x'_z2))):zfQ x x_g2 x_z2 s o x' x'_g2 x'_z2:=by
 intro S n0 t0 H0
 obtain⟨hb0,ha0⟩:=H0
 obtain⟨w0,hB0⟩:=zg hb0
 have hn0:=zc hB0
 rw[zd zxv _ _ rfl]
 have F:=zyb
 exact rp n0 t0 (aa ha0<|aa hB0<|aa hn0<|F) T
theorem zwA:SP 105=some (.code sc_Q105):=ze rfl Tryz.func105 comp_Q105
theorem zsy (x:PExprs) (x_g2:Nat) (x_z2:Bool) (kind:Int) (text:List UInt8) (kids:List Int) (r:Int) (x':PExprs) (x'_g2:Nat) (x'_z2:Bool) (T :
  ∃ (r1:List Int),(zdh kids r1) ∧
 (bigRow (x.out.length+1) 80) ∧
 (I64 (((x.out.length+1:Nat):Int) - 1)) ∧
 (((x.out.length+1:Nat):Int) - 1)=r∧(PExprs.mk x.tokens (x.out++[(Node.mk kind 0 text [] r1)]) x.deep)=x'∧x_g2=x'_g2∧x_z2=x'_z2):zcw x x_g2 x_z2 kind text kids r x' x'_g2 x'_z2:=by
 intro S n0 t0 H0
 obtain⟨hb0,ha0⟩:=H0
 obtain⟨w0,hB0⟩:=zg hb0
 have hn0:=zc hB0
 rw[zd zwA _ _ rfl]
 have F:=zyD
 exact rp n0 t0 (aa ha0<|aa hB0<|aa hn0<|F) T
theorem zxD:SP 143=some (.code sc_Q143):=ze rfl Tryz.func143 comp_Q143
theorem zte (rank:Int) (s:List UInt8) (ra:Int) (rb:Bool) (T :
  (0≤rank) ∧
 ∃ (v1:List (List UInt8)),(([[[124,124]],[[38,38]],[[61,61],[33,61],[60],[60,61],[62],[62,61]],[[43],[45]],[[42],[47],[37]]]:List (List (List UInt8)))[rank.toNat]?=some v1) ∧
 ∃ (r2:Int),(zr v1 s r2) ∧
 (0≤rank) ∧
 ∃ (v3:Int),(([11,12,13,19,21]:List Int)[rank.toNat]?=some v3) ∧
 (I64 (v3+r2)) ∧
 (v3+r2)=ra∧(decide (0≤r2))=rb):zkS rank s ra rb:=by
 intro S
 rw[zd zxD _ _ rfl]
 have F:=zzr
 obtain⟨p1,v1,q2,r2,q3,p4,v3,q5,p6,rfl,rfl⟩:=T
 replace q2:=congrArg (Option.map eLS) q2
 rw[←List.getElem?_map] at q2
 simp only[le,List.map_append,Option.map_some] at q2
 simp only[zr,lF] at q3
 replace q5:=congrArg (Option.map eI) q5
 rw[←List.getElem?_map] at q5
 simp only[le,List.map_append,Option.map_some] at q5
 exact fi (aa p1<|aa q2<|aa q3<|aa p4<|aa q5<|aa p6.wrap<|F)
theorem zed:SP 62=some (.code sc_slices_Index_string_string):=ze rfl Tryz.func62 comp_slices_Index_string_string
def zT (s:List (List UInt8)) (v:List UInt8) (i1:Int) (r:Int):Prop:=∀ (S:Sto) (e:Nat→PV) (f:Fr),e 0=.list 1 (s.map eS) false∧e 1=.str v∧e 7=.int .i64 (s.length:Int)∧e 8=.int .i64 i1→zbG SP (E SP (.loop b_slices_Index_string_string_1) ⟨e,f::S⟩)=.ok (.v (.int .i64 r)) S
theorem zI (s:List (List UInt8)) (v:List UInt8) (i1:Int) (r:Int) (T :
  ((i1 < (s.length:Int)) →
  (0≤i1) ∧
  ∃ (v2:List UInt8),(s[i1.toNat]?=some v2) ∧
  ((v=v2) →
   i1=r) ∧
  (¬ (v=v2) →
   (I64 (i1+1)) ∧
   zT s v (i1+1) r)) ∧
 (¬ (i1 < (s.length:Int)) →
  (-1)=r)):zT s v i1 r:=by
 intro S e f h
 unfold zbG
 rw[zm]
 have F:=zbZ
 exact rn (aa h<|F) T
theorem zbv (s:List (List UInt8)) (v:List UInt8) (r:Int) (T :
  zT s v 0 r):zr s v r:=by
 intro S
 rw[zd zed _ _ rfl]
 have F:=zbZ
 exact rn F T
theorem zwe:SP 202=some (.code sc_Q202):=ze rfl Tryz.func202 comp_Q202
theorem zrW (x:PExprs) (x_g2:Nat) (x_z2:Bool) (kind:Int) (n:Int) (r:Int) (x':PExprs) (x'_g2:Nat) (x'_z2:Bool) (T :
  ∃ (r1:Int) (y2:PExprs) (g3:Nat) (z4:Bool),(zcw x x_g2 x_z2 kind [] [] r1 y2 g3 z4) ∧
 (0≤r1)∧(r1.toNat < y2.out.length) ∧
 (z4=false) ∧
 ∃ (v5:Node),(y2.out[r1.toNat]?=some v5) ∧
 r1=r∧(PExprs.mk y2.tokens (y2.out.set r1.toNat (Node.mk v5.Kind n v5.Text v5.Parts v5.Kids)) y2.deep)=x'∧g3=x'_g2∧z4=x'_z2):ziO x x_g2 x_z2 kind n r x' x'_g2 x'_z2:=by
 intro S n0 t0 H0
 obtain⟨hb0,ha0⟩:=H0
 obtain⟨w0,hB0⟩:=zg hb0
 have hn0:=zc hB0
 rw[zd zwe _ _ rfl]
 have F:=zzF
 exact rp n0 t0 (aa ha0<|aa hB0<|aa hn0<|F) T
theorem zw5:SP 201=some (.code sc_Q201):=ze rfl Tryz.func201 comp_Q201
theorem zcb (x:PExprs) (x_g2:Nat) (x_z2:Bool) (o:Option Int) (r:Int) (x':PExprs) (x'_g2:Nat) (x'_z2:Bool) (T :
  ∃ (o2:Option Int) (r1:List UInt8) (y3:PTokens),(zb4 x.tokens o2 r1 y3) ∧
 (match o2 with
 | none=>(((r1=[116,114,117,101]) →
   ∃ (r5:Int) (y6:PExprs) (g7:Nat) (z8:Bool),(ziO (PExprs.mk y3 x.out x.deep) x_g2 x_z2 3 1 r5 y6 g7 z8) ∧
   none=o∧r5=r∧y6=x'∧g7=x'_g2∧z8=x'_z2) ∧
  (¬ (r1=[116,114,117,101]) →
   ((r1=[102,97,108,115,101]) →
    ∃ (r9:Int) (y10:PExprs) (g11:Nat) (z12:Bool),(ziO (PExprs.mk y3 x.out x.deep) x_g2 x_z2 3 0 r9 y10 g11 z12) ∧
    none=o∧r9=r∧y10=x'∧g11=x'_g2∧z12=x'_z2) ∧
   (¬ (r1=[102,97,108,115,101]) →
    ∃ (r13:Bool) (y14:PTokens),(zec y3 [46] r13 y14) ∧
    ((r13=true) →
     (r1.length+1≤zaO) ∧
     ∃ (o16:Option Int) (r15:List UInt8) (y17:PTokens),(zb4 y14 o16 r15 y17) ∧
     (match o16 with
     | none=>((r1.length+1+r15.length≤zaO) ∧
      ∃ (r19:Int) (y20:PExprs) (g21:Nat) (z22:Bool),(zcw (PExprs.mk y17 x.out x.deep) x_g2 x_z2 4 ((r1++[46])++r15) [] r19 y20 g21 z22) ∧
      none=o∧r19=r∧y20=x'∧g21=x'_g2∧z22=x'_z2)
     | some e18=>(some e18=o∧(PExprs.mk y17 x.out x.deep)=x'∧x_g2=x'_g2∧x_z2=x'_z2))) ∧
    (¬ (r13=true) →
     ∃ (o23:Option Int) (y24:PExprs) (g25:Nat) (z26:Bool),(zc1 (PExprs.mk y14 x.out x.deep) x_g2 x_z2 [40] o23 y24 g25 z26) ∧
     (match o23 with
     | none=>(∃ (o29:Option Int) (r28:List Int) (y30:PExprs) (g31:Nat) (z32:Bool),(zh7 y24 g25 z26 [41] o29 r28 y30 g31 z32) ∧
      (match o29 with
      | none=>(∃ (r34:Int) (y35:PExprs) (g36:Nat) (z37:Bool),(zcw y30 g31 z32 5 r1 r28 r34 y35 g36 z37) ∧
       none=o∧r34=r∧y35=x'∧g36=x'_g2∧z37=x'_z2)
      | some e33=>(some e33=o∧y30=x'∧g31=x'_g2∧z32=x'_z2)))
     | some e27=>(some e27=o∧y24=x'∧g25=x'_g2∧z26=x'_z2))))))
 | some e4=>(some e4=o∧(PExprs.mk y3 x.out x.deep)=x'∧x_g2=x'_g2∧x_z2=x'_z2))):znI x x_g2 x_z2 o r x' x'_g2 x'_z2:=by
 intro S n0 t0 H0
 obtain⟨hb0,ha0⟩:=H0
 obtain⟨w0,hB0⟩:=zg hb0
 have hn0:=zc hB0
 rw[zd zw5 _ _ rfl]
 have F:=zxO
 exact rp n0 t0 (aa ha0<|aa hB0<|aa hn0<|F) T
theorem zvP:SP 180=some (.code sc_Q180):=ze rfl Tryz.func180 comp_Q180
theorem zaS (x:PExprs) (x_g2:Nat) (x_z2:Bool) (o:Option Int) (r:Int) (x':PExprs) (x'_g2:Nat) (x'_z2:Bool) (T :
  ∃ (r1:Token) (y2:PTokens),(zaX x.tokens r1 y2) ∧
 ((r1.Kind=3) →
  ∃ (o4:Option Int) (r3:Int) (y5:PExprs) (g6:Nat) (z7:Bool),(znI (PExprs.mk y2 x.out x.deep) x_g2 x_z2 o4 r3 y5 g6 z7) ∧
  (match o4 with
  | none=>(none=o∧r3=r∧y5=x'∧g6=x'_g2∧z7=x'_z2)
  | some e8=>(some e8=o∧y5=x'∧g6=x'_g2∧z7=x'_z2))) ∧
 (¬ (r1.Kind=3) →
  ((r1.Kind=1) →
   (I64 (y2.pos+1)) ∧
   ∃ (r9:Int) (y10:PExprs) (g11:Nat) (z12:Bool),(ziO (PExprs.mk (PTokens.mk y2.l (y2.pos+1)) x.out x.deep) x_g2 x_z2 1 r1.Num r9 y10 g11 z12) ∧
   none=o∧r9=r∧y10=x'∧g11=x'_g2∧z12=x'_z2) ∧
  (¬ (r1.Kind=1) →
   ((r1.Kind=2) →
    (I64 (y2.pos+1)) ∧
    ∃ (r13:Int) (y14:PExprs) (g15:Nat) (z16:Bool),(zcw (PExprs.mk (PTokens.mk y2.l (y2.pos+1)) x.out x.deep) x_g2 x_z2 2 [] [] r13 y14 g15 z16) ∧
    (0≤r13)∧(r13.toNat < y14.out.length) ∧
    (z16=false) ∧
    ∃ (v17:Node),(y14.out[r13.toNat]?=some v17) ∧
    none=o∧r13=r∧(PExprs.mk y14.tokens (y14.out.set r13.toNat (Node.mk v17.Kind v17.Num v17.Text r1.Parts v17.Kids)) y14.deep)=x'∧g15=x'_g2∧z16=x'_z2) ∧
   (¬ (r1.Kind=2) →
    ∃ (r18:Bool) (y19:PTokens),(zcx y2 [91] r18 y19) ∧
    ((r18=true) →
     ∃ (o20:Option Int) (y21:PExprs) (g22:Nat) (z23:Bool),(zc1 (PExprs.mk y19 x.out x.deep) x_g2 x_z2 [91] o20 y21 g22 z23) ∧
     (match o20 with
     | none=>(∃ (o26:Option Int) (r25:List Int) (y27:PExprs) (g28:Nat) (z29:Bool),(zh7 y21 g22 z23 [93] o26 r25 y27 g28 z29) ∧
      (match o26 with
      | none=>(∃ (r31:Int) (y32:PExprs) (g33:Nat) (z34:Bool),(zcw y27 g28 z29 6 [] r25 r31 y32 g33 z34) ∧
       none=o∧r31=r∧y32=x'∧g33=x'_g2∧z34=x'_z2)
      | some e30=>(some e30=o∧y27=x'∧g28=x'_g2∧z29=x'_z2)))
     | some e24=>(some e24=o∧y21=x'∧g22=x'_g2∧z23=x'_z2))) ∧
    (¬ (r18=true) →
     ∃ (o35:Option Int) (y36:PExprs) (g37:Nat) (z38:Bool),(zc1 (PExprs.mk y19 x.out x.deep) x_g2 x_z2 [40] o35 y36 g37 z38) ∧
     (match o35 with
     | none=>(∃ (o41:Option Int) (r40:Int) (y42:PExprs) (g43:Nat) (z44:Bool),(zeC y36 g37 z38 o41 r40 y42 g43 z44) ∧
      (match o41 with
      | none=>(∃ (o46:Option Int) (y47:PExprs) (g48:Nat) (z49:Bool),(zfQ y42 g43 z44 [41] o46 y47 g48 z49) ∧
       (match o46 with
       | none=>(none=o∧r40=r∧y47=x'∧g48=x'_g2∧z49=x'_z2)
       | some e50=>(some e50=o∧y47=x'∧g48=x'_g2∧z49=x'_z2)))
      | some e45=>(some e45=o∧y42=x'∧g43=x'_g2∧z44=x'_z2)))
     | some e39=>(some e39=o∧y36=x'∧g37=x'_g2∧z38=x'_z2))))))):zke x x_g2 x_z2 o r x' x'_g2 x'_z2:=by
 intro S n0 t0 H0
 obtain⟨hb0,ha0⟩:=H0
 obtain⟨w0,hB0⟩:=zg hb0
 have hn0:=zc hB0
 rw[zd zvP _ _ rfl]
 have F:=zyZ
 exact rp n0 t0 (aa ha0<|aa hB0<|aa hn0<|F) T
theorem zxU:SP 41=some (.code sc_Q41):=ze rfl Tryz.func41 comp_Q41
theorem znq (x:PExprs) (x_g2:Nat) (x_z2:Bool) (o:Option Int) (r:List Node) (x':PExprs) (x'_g2:Nat) (x'_z2:Bool) (T :
  ∃ (o2:Option Int) (r1:Int) (y3:PExprs) (g4:Nat) (z5:Bool),(zeC (PExprs.mk x.tokens [] x.deep) (x_g2+1) false o2 r1 y3 g4 z5) ∧
 (match o2 with
 | none=>(none=o∧y3.out=r∧y3=x'∧g4=x'_g2∧true=x'_z2)
 | some e6=>(some e6=o∧y3=x'∧g4=x'_g2∧z5=x'_z2))):zdr x x_g2 x_z2 o r x' x'_g2 x'_z2:=by
 intro S n0 t0 H0
 obtain⟨hb0,ha0⟩:=H0
 obtain⟨w0,hB0⟩:=zg hb0
 have hn0:=zc hB0
 rw[zd zxU _ _ rfl]
 have F:=zz4
 exact rp n0 t0 (aa ha0<|aa hB0<|aa hn0<|F) T
inductive PR (α:Type) where
 | ok (a:α) (ts:List Token) (out:List Node)
 | er (e:Int)
 | no
def PR.bind {α β:Type}:PR α→(α→List Token→List Node→PR β)→PR β
 | .ok a ts out,f=>f a ts out
 | .er e,_=>.er e
 | .no,_=>.no
def isS (s:List UInt8):List Token→Bool
 | t::_=>decide (t.Kind=4) && decide (t.Text=s)
 | []=>false
def zah {α:Type} (s:List UInt8) (ts:List Token) (k:List Token→PR α):PR α:=if isS s ts=true then k ts.tail else .er 5
def zaq {α:Type} (s:List UInt8) (d:Nat) (ts:List Token) (k:List Token→PR α):PR α:=if isS s ts=true then (if 64≤d then .er 6 else k ts.tail) else .er 5
def nd (kind:Int) (text:List UInt8) (kids:List Int):Node:=⟨kind,0,text,[],kids⟩
def zae (s:List UInt8):List (List UInt8)→Nat→Option Nat
 | [],_=>none
 | v::l,i=>if s=v then some i else zae s l (i+1)
def zH:Nat→List (List UInt8)
 | 0=>[[124,124]]
 | 1=>[[38,38]]
 | 2=>[[61,61],[33,61],[60],[60,61],[62],[62,61]]
 | 3=>[[43],[45]]
 | _=>[[42],[47],[37]]
def zcs:Nat→Int
 | 0=>11
 | 1=>12
 | 2=>13
 | 3=>19
 | _=>21
def opS (rank:Nat) (s:List UInt8):Option Int:=(zae s (zH rank) 0).map fun (i:Nat)=>zcs rank+(i:Int)
mutual
def zu:Nat→Nat→List Token→List Node→PR Int
 | 0,_,_,_=>.no
 | n+1,d,ts,out=>(zA n 0 d ts out).bind fun a ts out =>
  if isS [63] ts=true then zaq [63] d ts fun ts=>(zu n (d+1) ts out).bind fun b ts out=>zah [58] ts fun ts=>(zu n (d+1) ts out).bind fun c ts out=>.ok (out.length:Nat) ts (out++[nd 10 [] [a,b,c]])
  else .ok a ts out
def zA:Nat→Nat→Nat→List Token→List Node→PR Int
 | 0,_,_,_,_=>.no
 | n+1,rank,d,ts,out=>if rank=5 then unS n d ts out else (zA n (rank+1) d ts out).bind fun a ts out=>zam n rank d a ts out
def zam:Nat→Nat→Nat→Int→List Token→List Node→PR Int
 | 0,_,_,_,_,_=>.no
 | _+1,_,_,_,[],_=>.no
 | n+1,rank,d,a,t::ts,out =>
  if t.Kind=4 then
   match opS rank t.Text with
   | none=>.ok a (t::ts) out
   | some kind=>(zA n (rank+1) d ts out).bind fun b ts out=>if rank=2 then .ok (out.length:Nat) ts (out++[nd kind [] [a,b]]) else zam n rank d (out.length:Nat) ts (out++[nd kind [] [a,b]])
  else .ok a (t::ts) out
def unS:Nat→Nat→List Token→List Node→PR Int
 | 0,_,_,_=>.no
 | n+1,d,ts,out =>
  if isS [45] ts=true then zaq [45] d ts fun ts=>(unS n (d+1) ts out).bind fun a ts out=>.ok (out.length:Nat) ts (out++[nd 9 [] [a]])
  else if isS [33] ts=true then zaq [33] d ts fun ts=>(unS n (d+1) ts out).bind fun a ts out=>.ok (out.length:Nat) ts (out++[nd 8 [] [a]])
  else zaZ n d ts out
def zaZ:Nat→Nat→List Token→List Node→PR Int
 | 0,_,_,_=>.no
 | n+1,d,ts,out=>(zaA n d ts out).bind fun a ts out=>zaP n d a ts out
def zaP:Nat→Nat→Int→List Token→List Node→PR Int
 | 0,_,_,_,_=>.no
 | n+1,d,a,ts,out =>
  if isS [91] ts=true then zaq [91] d ts fun ts=>(zu n (d+1) ts out).bind fun b ts out=>zah [93] ts fun ts=>zaP n d (out.length:Nat) ts (out++[nd 7 [] [a,b]])
  else .ok a ts out
def zay:Nat→Nat→List UInt8→List Token→List Node→PR (List Int)
 | 0,_,_,_,_=>.no
 | n+1,d,e,ts,out=>if isS e ts=true then .ok [] ts.tail out else (zu n d ts out).bind fun a ts out=>zaG n d e [a] ts out
def zaG:Nat→Nat→List UInt8→List Int→List Token→List Node→PR (List Int)
 | 0,_,_,_,_,_=>.no
 | n+1,d,e,l,ts,out=>if isS [44] ts=true then (zu n d ts.tail out).bind fun a ts out=>zaG n d e (l++[a]) ts out else zah e ts fun ts=>.ok l ts out
def zaA:Nat→Nat→List Token→List Node→PR Int
 | 0,_,_,_=>.no
 | _+1,_,[],_=>.no
 | n+1,d,t::ts,out =>
  if t.Kind=3 then
   if t.Text=[116,114,117,101] then .ok (out.length:Nat) ts (out++[⟨3,1,[],[],[]⟩])
   else if t.Text=[102,97,108,115,101] then .ok (out.length:Nat) ts (out++[⟨3,0,[],[],[]⟩])
   else if isS [46] ts=true then
    match ts.tail with
    | []=>.no
    | u::ts=>if u.Kind=3 then .ok (out.length:Nat) ts (out++[nd 4 ((t.Text++[46])++u.Text) []]) else .er 5
   else zaq [40] d ts fun ts=>(zay n (d+1) [41] ts out).bind fun l ts out=>.ok (out.length:Nat) ts (out++[nd 5 t.Text l])
  else if t.Kind=1 then .ok (out.length:Nat) ts (out++[⟨1,t.Num,[],[],[]⟩])
  else if t.Kind=2 then .ok (out.length:Nat) ts (out++[⟨2,0,[],t.Parts,[]⟩])
  else if isS [91] (t::ts)=true then zaq [91] d (t::ts) fun ts=>(zay n (d+1) [93] ts out).bind fun l ts out=>.ok (out.length:Nat) ts (out++[nd 6 [] l])
  else zaq [40] d (t::ts) fun ts=>(zu n (d+1) ts out).bind fun a ts out=>zah [41] ts fun ts=>.ok a ts out
end
def W:List Token→Prop
 | []=>False
 | [e]=>e.Kind=0
 | t::u::ts=>t.Kind≠0∧W (u::ts)
theorem W.tail {t:Token} {ts:List Token} (h:W (t::ts)) (hk:t.Kind≠0):W ts:=by
 cases ts with
 | nil=>exact absurd h hk
 | cons u ts=>exact h.2
theorem W.ne {ts:List Token} (h:W ts):ts≠[]:=fun e=>by subst e;exact h
def pt (L ts:List Token):PTokens:=⟨L,((L.length - ts.length:Nat):Int)⟩
theorem zp {L ts:List Token} {t:Token} (h:(t::ts) <:+ L):ts <:+ L:=(List.suffix_cons t ts).trans h
theorem zbz {L ts:List Token} (h:ts <:+ L):ts.length≤L.length:=h.length_le
theorem zvY {L ts:List Token} {t:Token} (h:(t::ts) <:+ L):L[(pt L (t::ts)).pos.toNat]?=some t:=by
 obtain⟨p,rfl⟩:=h
 simp[pt]
theorem zdO {L ts:List Token} {t:Token} (h:(t::ts) <:+ L):(PTokens.mk (pt L (t::ts)).l ((pt L (t::ts)).pos+1))=pt L ts:=by
 have:=zbz h
 simp only[pt,List.length_cons] at this ⊢
 congr 1
 omega
theorem zl {L ts:List Token} {t:Token} (h:(t::ts) <:+ L):zaX (pt L (t::ts)) t (pt L (t::ts)):=ztp _ _ _ ⟨by simp[pt],t,zvY h,rfl,rfl⟩
theorem zbJ (t:PTokens) (e:Int):zbc t e (some e) t:=zuo _ _ _ _ ⟨rfl,rfl⟩
theorem zjH {L ts:List Token} (h:ts <:+ L) (hne:ts≠[]) (s:List UInt8):zcx (pt L ts) s (isS s ts) (pt L ts):=by
 cases ts with
 | nil=>exact absurd rfl hne
 | cons t ts =>
  refine zse _ _ _ _ ⟨t,_,zl h,fun hk=>⟨t,_,zl h,?_,rfl⟩,fun hk=>⟨?_,rfl⟩⟩
  ·simp[isS,hk]
  simp[isS,hk]
theorem zn9 {s:List UInt8} {t:Token} {ts:List Token} (h:isS s (t::ts)=true):t.Kind≠0:=by
 simp only[isS,Bool.and_eq_true,decide_eq_true_eq] at h
 rw[h.1]
 decide
theorem W.shift {s:List UInt8} {ts:List Token} (h:W ts) (hi:isS s ts=true):W ts.tail:=by
 cases ts with
 | nil=>exact h.elim
 | cons t ts=>exact h.tail (zn9 hi)
theorem zJ {L ts:List Token} (h:ts <:+ L):ts.tail <:+ L:=by
 cases ts with
 | nil=>exact h
 | cons t ts=>exact zp h
theorem zR {s:List UInt8} {ts:List Token} (hi:isS s ts=true):ts.tail.length+1=ts.length:=by
 cases ts with
 | nil=>cases hi
 | cons t ts=>rfl
theorem zeR {L ts:List Token} (h:ts <:+ L) (hL:L.length≤1000000) {s:List UInt8} (hi:isS s ts=true):zec (pt L ts) s true (pt L ts.tail):=by
 cases ts with
 | nil=>cases hi
 | cons t ts =>
  refine zog _ _ _ _ ⟨true,_,by have:=zjH h (by simp) s;rw[hi] at this;exact this,fun _=>⟨?_,rfl,zdO h⟩,fun hf=>absurd rfl hf⟩
  have:=zbz h
  simp only[pt,I64]
  omega
theorem zfz {L ts:List Token} (h:ts <:+ L) (hne:ts≠[]) {s:List UInt8} (hi:isS s ts=false):zec (pt L ts) s false (pt L ts) :=
 zog _ _ _ _ ⟨false,_,by have:=zjH h hne s;rw[hi] at this;exact this,fun hf=>(by cases hf),fun _=>⟨rfl,rfl⟩⟩
theorem zbd {L ts:List Token} (h:ts <:+ L) (hL:L.length≤1000000) {s:List UInt8} (hi:isS s ts=true):zbi (pt L ts) s none (pt L ts.tail) :=
 znZ _ _ _ _ ⟨true,_,zeR h hL hi,fun _=>⟨rfl,rfl⟩,fun hf=>absurd rfl hf⟩
theorem zeq {L ts:List Token} (h:ts <:+ L) (hne:ts≠[]) {s:List UInt8} (hi:isS s ts=false):zbi (pt L ts) s (some 5) (pt L ts) :=
 znZ _ _ _ _ ⟨false,_,zfz h hne hi,fun hf=>(by cases hf),fun _=>⟨_,_,zbJ _ _,rfl,rfl⟩⟩
theorem ziV {L ts:List Token} {t:Token} (h:(t::ts) <:+ L) (hL:L.length≤1000000) (hk:t.Kind=3):zb4 (pt L (t::ts)) none t.Text (pt L ts):=by
 refine zly _ _ _ _ ⟨t,_,zl h,fun _=>⟨?_,rfl,rfl,zdO h⟩,fun hf=>absurd hk hf⟩
 have:=zbz h
 simp only[pt,I64]
 omega
theorem zlr {L ts:List Token} {t:Token} (h:(t::ts) <:+ L) (hk:¬ t.Kind=3) (r:List UInt8):zb4 (pt L (t::ts)) (some 5) r (pt L (t::ts)) :=
 zly _ _ _ _ ⟨t,_,zl h,fun hf=>absurd hf hk,fun _=>⟨_,_,zbJ _ _,rfl,rfl⟩⟩
def pe (L ts:List Token) (out:List Node) (d:Nat):PExprs:=⟨pt L ts,out,(d:Int)⟩
theorem zex {L ts:List Token} (h:ts <:+ L) (hL:L.length≤1000000) {s:List UInt8} (hi:isS s ts=true) {d:Nat} (hd:¬ 64≤d) (out:List Node) (g:Nat) (z:Bool):zc1 (pe L ts out d) g z s none (pe L ts.tail out (d+1)) g z:=by
 cases ts with
 | nil=>cases hi
 | cons t ts =>
  refine ziB _ _ _ _ _ _ _ _ ⟨true,_,by have:=zjH h (by simp) s;rw[hi] at this;exact this,fun _=>⟨fun hf=>?_,fun _=>⟨none,_,zbd h hL hi,?_,rfl,?_,rfl,rfl⟩⟩,fun hf=>absurd rfl hf⟩
  ·simp only[pe] at hf;omega
  ·simp only[pe,I64];omega
  simp[pe]
theorem zew {L ts:List Token} (h:ts <:+ L) (hne:ts≠[]) {s:List UInt8} (hi:isS s ts=true) {d:Nat} (hd:64≤d) (out:List Node) (g:Nat) (z:Bool):∃ x' g' z',zc1 (pe L ts out d) g z s (some 6) x' g' z' :=
 ⟨_,_,_,ziB _ _ _ _ _ _ _ _ ⟨true,_,by have:=zjH h hne s;rw[hi] at this;exact this,fun _=>⟨fun _=>⟨_,_,zbJ _ _,rfl,rfl,rfl,rfl⟩,fun hf=>absurd (by simp only[pe];omega) hf⟩,fun hf=>absurd rfl hf⟩⟩
theorem zo3 {L ts:List Token} (h:ts <:+ L) (hne:ts≠[]) {s:List UInt8} (hi:isS s ts=false) (d:Nat) (out:List Node) (g:Nat) (z:Bool):∃ x' g' z',zc1 (pe L ts out d) g z s (some 5) x' g' z' :=
 ⟨_,_,_,ziB _ _ _ _ _ _ _ _ ⟨false,_,by have:=zjH h hne s;rw[hi] at this;exact this,fun hf=>(by cases hf),fun _=>⟨_,_,zeq h hne hi,rfl,rfl,rfl,rfl⟩⟩⟩
theorem ziQ {L ts:List Token} (h:ts <:+ L) (hL:L.length≤1000000) {s:List UInt8} (hi:isS s ts=true) {d:Nat} (hd:d≤1000) (out:List Node) (g:Nat) (z:Bool):zfQ (pe L ts out (d+1)) g z s none (pe L ts.tail out d) g z:=by
 refine zmk _ _ _ _ _ _ _ _ ⟨none,_,zbd h hL hi,?_,rfl,?_,rfl,rfl⟩
 ·simp only[pe,I64];omega
 simp only[pe];congr 1;omega
theorem zle {L ts:List Token} (h:ts <:+ L) (hne:ts≠[]) {s:List UInt8} (hi:isS s ts=false) (d:Nat) (out:List Node) (g:Nat) (z:Bool):∃ x' g' z',zfQ (pe L ts out d) g z s (some 5) x' g' z' :=
 ⟨_,_,_,zmk _ _ _ _ _ _ _ _ ⟨_,_,zeq h hne hi,rfl,rfl,rfl,rfl⟩⟩
theorem zui (l:List Int) (h:l.length≤1000000000):zdh l l:=fun S=>zcm zfX S (by
 simp only[ziI,List.length_map]
 rw[if_pos ⟨trivial,by omega,by omega⟩])
theorem zc7 (x:PTokens) (out:List Node) (d:Int) (g:Nat) (z:Bool) (kind:Int) (text:List UInt8) (kids:List Int) (hk:kids.length≤1000000) (ho:out.length≤1000000):zcw (PExprs.mk x out d) g z kind text kids (out.length:Nat) (PExprs.mk x (out++[nd kind text kids]) d) g z:=by
 refine zsy _ _ _ _ _ _ _ _ _ _ ⟨kids,zui kids (by omega),?_,?_,?_,rfl,rfl,rfl⟩
 ·simp only[bigRow];omega
 ·simp only[I64];omega
 simp
theorem zmf {α:Type} (l:List α) (a b:α):(l++[a]).set l.length b=l++[b]:=by simp
theorem zqe (x:PTokens) (out:List Node) (d:Int) (g:Nat) (kind n:Int) (ho:out.length≤1000000):ziO (PExprs.mk x out d) g false kind n (out.length:Nat) (PExprs.mk x (out++[⟨kind,n,[],[],[]⟩]) d) g false:=by
 refine zrW _ _ _ _ _ _ _ _ _ ⟨_,_,_,_,zc7 x out d g false kind [] [] (by simp) ho,by omega,?_,rfl,nd kind [] [],?_,rfl,?_,rfl,rfl⟩
 ·simp
 ·simp
 simp[nd]
end Go.Proofs.YtfbcnpbhhooapaaGreatDoor.M
namespace Go.Proofs.YtfbcnpbhhooapaaGreatDoor.M
open Go
def c_Q86_1:SC:=.seq (.dreg [mO 5 0,nO 6 5,fO 7 3 6,lO 8 7,bC 9 .eql 8 0,mO 10 9,gO 11 10 true (.mov (.t 0)),gO 12 10 true (.nchk (.t 11)),gO 13 10 true (.faddr 0 (.t 12)),gO 14 10 true (.load none (.t 13)),gO 15 10 true (.mov (.t 0)),gO 16 10 true (.nchk (.t 15)),gO 17 10 true (.faddr 1 (.t 16)),gO 18 10 true (.load none (.t 17)),gO 19 10 true (.iaddr 5 (.t 14) (.t 18)),gO 20 10 true (.faddr 0 (.t 19)),gO 21 10 true (.load none (.t 20)),gO 22 10 true (.bin .eql (.t 21) (cI 4)),vO 23 (.pick (.t 10) (.t 22) (.c (.bool false))),mO 24 23,gO 25 24 true (.mov (.t 0)),gO 26 24 true (.nchk (.t 25)),gO 27 24 true (.faddr 0 (.t 26)),gO 28 24 true (.load none (.t 27)),gO 29 24 true (.mov (.t 0)),gO 30 24 true (.nchk (.t 29)),gO 31 24 true (.faddr 1 (.t 30)),gO 32 24 true (.load none (.t 31)),gO 33 24 true (.iaddr 5 (.t 28) (.t 32)),gO 34 24 true (.faddr 1 (.t 33)),gO 35 24 true (.load none (.t 34)),gO 36 24 true (.mov (.t 1)),gO 37 24 true (.bin .eql (.t 35) (.t 36)),vO 38 (.pick (.t 24) (.t 37) (.c (.bool false))),mO 4 38] [true,true,true,true,true,true,false,false,false,false,false,false,false,false,true,true,true,true,true,true,false,false,false,false,false,false,false,false,true,true,true,false,true,true,true]) .ret
def sc_Q86:zh:=⟨2,39,.seq (.reg [vO 4 (.mov (.c (.bool false)))]) c_Q86_1,[(.t 4)]⟩
theorem zzZ:type_of% (aI (ue c_Q86_1.eq_1)<|sc_Q86.eq_1):=aI (ue c_Q86_1.eq_1)<|sc_Q86.eq_1
theorem comp_Q86:comp Tryz.prog Tryz.f86=some sc_Q86:=by kernel_rfl
def sc_Q57:zh:=⟨2,13,.seq (.reg [mO 4 0,nO 5 4,fO 6 3 5,lO 7 6,bC 8 .eql 7 0]) (.cond (.t 8) (.reg [mO 9 0,mO 10 1,nO 11 9,fO 12 3 11,sO 1 12 10]) .skip),[]⟩
theorem zz8:type_of% (sc_Q57.eq_1):=sc_Q57.eq_1
theorem comp_Q57:comp Tryz.prog Tryz.f57=some sc_Q57:=by kernel_rfl
def sc_Q89:zh:=⟨2,17,.seq (.seq (.reg [mO 4 0,mO 5 1,kO 6 86 [(.t 4),(.t 5)],uO 7 6]) (.cond (.t 7) (.seq (.reg [mO 8 0,kO 9 57 [(.t 8),(cI 5)]]) .ret) .skip)) (.reg [mO 10 0,nO 11 10,fO 12 1 11,lO 13 12,bC 14 .add 13 1,nO 15 10,fO 16 1 15,sO 1 16 14]),[]⟩
theorem zz6:type_of% (sc_Q89.eq_1):=sc_Q89.eq_1
theorem comp_Q89:comp Tryz.prog Tryz.f89=some sc_Q89:=by kernel_rfl
def sc_Q92:zh:=⟨1,23,.seq (.seq (.reg [mO 2 0,nO 3 2,fO 4 2 3,lO 5 4,bC 6 .geq 5 64]) (.cond (.t 6) (.seq (.reg [mO 7 0,kO 8 57 [(.t 7),(cI 6)]]) .ret) .skip)) (.seq (.reg [mO 9 0,nO 10 9,fO 11 2 10,lO 12 11,bC 13 .add 12 1,nO 14 9,fO 15 2 14,sO 1 15 13]) (.reg [mO 16 0,nO 17 16,fO 18 1 17,lO 19 18,bC 20 .add 19 1,nO 21 16,fO 22 1 21,sO 1 22 20])),[]⟩
theorem zzY:type_of% (sc_Q92.eq_1):=sc_Q92.eq_1
theorem comp_Q92:comp Tryz.prog Tryz.f92=some sc_Q92:=by kernel_rfl
def sc_Q93:zh:=⟨2,21,.seq (.reg [⟨some 3,none,.box (.t 1)⟩,vO 4 (.mov (cI 0))]) (.seq (.dreg [mO 5 0,mO 6 0,nO 7 6,fO 8 4 7,lO 9 8,vO 10 (.load (some 5) (.t 3)),⟨some 11,none,.bslice 5 1 [(.int .i64 0),(.int .i64 0),(.str []),(.nils 2),(.nils 1)] [(0,(.t 10))]⟩,⟨some 12,none,.append 5 80 (.t 9) (.t 11)⟩,nO 13 5,fO 14 4 13,sO 1 14 12] [false,false,false,false,false,false,false,true,true,true,true]) (.seq (.reg [mO 15 0,nO 16 15,fO 17 4 16,lO 18 17,vO 19 (.len false (.t 18)),bC 20 .sub 19 1,mO 4 20]) .ret)),[(.t 4)]⟩
theorem zz0:type_of% (sc_Q93.eq_1):=sc_Q93.eq_1
theorem comp_Q93:comp Tryz.prog Tryz.f93=some sc_Q93:=by kernel_rfl
def c_Q127_1:SC:=.seq (.reg [⟨some 21,none,.bslice 1 3 [(.str [])] [(0,(.c (.str [42]))),(1,(.c (.str [47]))),(2,(.c (.str [37])))]⟩,⟨some 22,none,.bslice 1 3 [(.int .i64 0)] [(0,(cI 21)),(1,(cI 22)),(2,(cI 23))]⟩,mO 2 21,mO 3 22]) .ret
def c_Q127_2:SC:=.cond (.t 5) (.seq (.reg [⟨some 7,none,.bslice 1 1 [(.str [])] [(0,(.c (.str [124,124])))]⟩,⟨some 8,none,.bslice 1 1 [(.int .i64 0)] [(0,(cI 11))]⟩,mO 2 7,mO 3 8]) .ret) (.seq (.reg [bC 10 .eql 4 1,mO 9 10]) (.cond (.t 9) (.seq (.reg [⟨some 11,none,.bslice 1 1 [(.str [])] [(0,(.c (.str [38,38])))]⟩,⟨some 12,none,.bslice 1 1 [(.int .i64 0)] [(0,(cI 12))]⟩,mO 2 11,mO 3 12]) .ret) (.seq (.reg [bC 14 .eql 4 2,mO 13 14]) (.cond (.t 13) (.seq (.reg [⟨some 15,none,.bslice 1 6 [(.str [])] [(0,(.c (.str [61,61]))),(1,(.c (.str [33,61]))),(2,(.c (.str [60]))),(3,(.c (.str [60,61]))),(4,(.c (.str [62]))),(5,(.c (.str [62,61])))]⟩,⟨some 16,none,.bslice 1 6 [(.int .i64 0)] [(0,(cI 13)),(1,(cI 14)),(2,(cI 15)),(3,(cI 16)),(4,(cI 17)),(5,(cI 18))]⟩,mO 2 15,mO 3 16]) .ret) (.seq (.reg [bC 18 .eql 4 3,mO 17 18]) (.cond (.t 17) (.seq (.reg [⟨some 19,none,.bslice 1 2 [(.str [])] [(0,(.c (.str [43]))),(1,(.c (.str [45])))]⟩,⟨some 20,none,.bslice 1 2 [(.int .i64 0)] [(0,(cI 19)),(1,(cI 20))]⟩,mO 2 19,mO 3 20]) .ret) .skip))))))
def c_Q127_3:SC:=.block 0 (.seq (.reg [bC 6 .eql 4 0,mO 5 6]) c_Q127_2)
def c_Q127_4:SC:=.seq (.seq (.reg [mO 4 0]) c_Q127_3) c_Q127_1
def sc_Q127:zh:=⟨1,23,.seq (.reg [⟨some 2,none,.nilv 1⟩,⟨some 3,none,.nilv 1⟩]) c_Q127_4,[(.t 2),(.t 3)]⟩
theorem zyK:type_of% (aI (ue c_Q127_1.eq_1)<|aI (ue c_Q127_2.eq_1)<|aI (ue c_Q127_3.eq_1)<|aI (ue c_Q127_4.eq_1)<|sc_Q127.eq_1):=aI (ue c_Q127_1.eq_1)<|aI (ue c_Q127_2.eq_1)<|aI (ue c_Q127_3.eq_1)<|aI (ue c_Q127_4.eq_1)<|sc_Q127.eq_1
theorem comp_Q127:comp Tryz.prog Tryz.f127=some sc_Q127:=by kernel_rfl
def c_Q56_1:SC:=.seq (.reg [vO 5 (.mov (cI 0))]) (.seq (.seq (.reg [mO 23 0,nO 24 23,fO 25 3 24,lO 26 25,bC 27 .eql 26 0]) (.cond (.t 27) (.reg [mO 28 0,kO 29 56 [(.t 28)],mO 5 29]) .skip)) (.seq (.reg [mO 30 0,nO 31 30,fO 32 2 31,lO 33 32,bC 34 .sub 33 1,nO 35 30,fO 36 2 35,sO 1 36 34]) (.seq (.reg [mO 37 0,mO 38 3,mO 39 4,mO 40 5,⟨some 41,none,.bslice 1 3 [(.int .i64 0)] [(0,(.t 38)),(1,(.t 39)),(2,(.t 40))]⟩,vO 42 (.build [(.int .i64 0),(.int .i64 0),(.str []),(.nils 2),(.nils 1)] [(0,1,(cI 10)),(4,1,(.t 41))]),kO 43 93 [(.t 37),(.t 42)],mO 2 43]) .ret)))
def c_Q56_2:SC:=.seq (.reg [mO 21 0,kO 22 89 [(.t 21),(.c (.str [58]))]]) c_Q56_1
def c_Q56_3:SC:=.seq (.reg [mO 19 0,kO 20 56 [(.t 19)],mO 4 20]) c_Q56_2
def c_Q56_4:SC:=.seq (.seq (.reg [mO 14 0,nO 15 14,fO 16 3 15,lO 17 16,bC 18 .neq 17 0]) (.cond (.t 18) (.seq (.reg [vO 2 (.mov (cI 0))]) .ret) .skip)) c_Q56_3
def c_Q56_5:SC:=.seq (.reg [mO 12 0,kO 13 92 [(.t 12)]]) c_Q56_4
def c_Q56_6:SC:=.seq (.seq (.reg [mO 8 0,kO 9 86 [(.t 8),(.c (.str [63]))],uO 10 9]) (.cond (.t 10) (.seq (.reg [mO 11 3,mO 2 11]) .ret) .skip)) c_Q56_5
def c_Q56_7:SC:=.seq (.reg [mO 6 0,kO 7 91 [(.t 6),(cI 0)],mO 3 7]) c_Q56_6
def sc_Q56:zh:=⟨1,44,.seq (.reg [vO 2 (.mov (cI 0))]) c_Q56_7,[(.t 2)]⟩
theorem zAL:type_of% (aI (ue c_Q56_1.eq_1)<|aI (ue c_Q56_2.eq_1)<|aI (ue c_Q56_3.eq_1)<|aI (ue c_Q56_4.eq_1)<|aI (ue c_Q56_5.eq_1)<|aI (ue c_Q56_6.eq_1)<|aI (ue c_Q56_7.eq_1)<|sc_Q56.eq_1):=aI (ue c_Q56_1.eq_1)<|aI (ue c_Q56_2.eq_1)<|aI (ue c_Q56_3.eq_1)<|aI (ue c_Q56_4.eq_1)<|aI (ue c_Q56_5.eq_1)<|aI (ue c_Q56_6.eq_1)<|aI (ue c_Q56_7.eq_1)<|sc_Q56.eq_1
theorem comp_Q56:comp Tryz.prog Tryz.f56=some sc_Q56:=by kernel_rfl
def c_Q91_1:SC:=.seq (.reg [mO 71 5,mO 4 71]) .ret
def c_Q91_2:SC:=.seq (.seq (.reg [mO 56 8,bC 57 .eql 56 0]) (.cond (.t 57) (.exit 0) .skip)) (.seq (.reg [mO 58 0,mO 59 1,bC 60 .add 59 1,kO 61 91 [(.t 58),(.t 60)],mO 10 61]) (.seq (.reg [mO 62 0,mO 63 8,mO 64 5,mO 65 10,⟨some 66,none,.bslice 1 2 [(.int .i64 0)] [(0,(.t 64)),(1,(.t 65))]⟩,vO 67 (.build [(.int .i64 0),(.int .i64 0),(.str []),(.nils 2),(.nils 1)] [(0,1,(.t 63)),(4,1,(.t 66))]),kO 68 93 [(.t 62),(.t 67)],mO 5 68]) (.seq (.reg [mO 69 1,bC 70 .eql 69 2]) (.cond (.t 70) (.exit 0) .skip))))
def c_Q91_3:SC:=.seq (.block 3 (.seq (.reg [mO 39 0,mO 40 6,mO 41 9,vO 42 (.iaddr 1 (.t 40) (.t 41)),lO 43 42,kO 44 86 [(.t 39),(.t 43)]]) (.cond (.t 44) (.seq (.reg [mO 45 7,mO 46 9,vO 47 (.iaddr 1 (.t 45) (.t 46)),lO 48 47,mO 8 48]) (.reg [mO 49 0,nO 50 49,fO 51 1 50,lO 52 51,bC 53 .add 52 1,nO 54 49,fO 55 1 54,sO 1 55 53])) .skip))) (.reg [mO 37 9,bC 38 .add 37 1,mO 9 38])
def b_Q91_2:SC:=.seq (.seq (.reg [mO 29 9,mO 30 6,vO 31 (.len false (.t 30)),bO 32 .lss 29 31,mO 33 32,gO 34 33 true (.mov (.t 8)),gO 35 33 true (.bin .eql (.t 34) (cI 0)),vO 36 (.pick (.t 33) (.t 35) (.c (.bool false)))]) (.cond (.t 36) .skip (.exit 2))) c_Q91_3
def c_Q91_4:SC:=.block 2 (.loop b_Q91_2)
def c_Q91_5:SC:=.seq (.seq (.reg [vO 9 (.mov (cI 0))]) c_Q91_4) c_Q91_2
def c_Q91_6:SC:=.block 1 (.seq (.reg [vO 8 (.mov (cI 0))]) c_Q91_5)
def b_Q91_1:SC:=.seq (.seq (.reg [mO 24 0,nO 25 24,fO 26 3 25,lO 27 26,bC 28 .eql 27 0]) (.cond (.t 28) .skip (.exit 0))) c_Q91_6
def c_Q91_7:SC:=.seq (.block 0 (.loop b_Q91_1)) c_Q91_1
def c_Q91_8:SC:=.seq (.reg [mO 20 1,kO 21 127 [(.t 20)],mO 19 21,vO 22 (.extract 0 (.t 19)),vO 23 (.extract 1 (.t 19)),mO 6 22,mO 7 23]) c_Q91_7
def c_Q91_9:SC:=.seq (.reg [mO 15 0,mO 16 1,bC 17 .add 16 1,kO 18 91 [(.t 15),(.t 17)],mO 5 18]) c_Q91_8
def c_Q91_10:SC:=.seq (.seq (.reg [mO 11 1,bC 12 .gtr 11 4]) (.cond (.t 12) (.seq (.reg [mO 13 0,kO 14 126 [(.t 13)],mO 4 14]) .ret) .skip)) c_Q91_9
def sc_Q91:zh:=⟨2,72,.seq (.reg [vO 4 (.mov (cI 0))]) c_Q91_10,[(.t 4)]⟩
noncomputable def zpA (SP:Prg) (x:EO):CO:=fin [(.t 4)] (thC SP (zx 0 (thC SP (zx 1 (thC SP (zx 2 (x)) c_Q91_2)) (.loop b_Q91_1))) c_Q91_1)
noncomputable def zpL (SP:Prg) (x:EO):CO:=fin [(.t 4)] (thC SP (zx 0 (x)) c_Q91_1)
theorem zqi:type_of% (aI (ue c_Q91_1.eq_1)<|aI (ue c_Q91_2.eq_1)<|aI (ue c_Q91_3.eq_1)<|aI (ue b_Q91_2.eq_1)<|aI (ue c_Q91_4.eq_1)<|aI (ue c_Q91_5.eq_1)<|aI (ue c_Q91_6.eq_1)<|aI (ue b_Q91_1.eq_1)<|aI (ue c_Q91_7.eq_1)<|aI (ue c_Q91_8.eq_1)<|aI (ue c_Q91_9.eq_1)<|aI (ue c_Q91_10.eq_1)<|sc_Q91.eq_1):=aI (ue c_Q91_1.eq_1)<|aI (ue c_Q91_2.eq_1)<|aI (ue c_Q91_3.eq_1)<|aI (ue b_Q91_2.eq_1)<|aI (ue c_Q91_4.eq_1)<|aI (ue c_Q91_5.eq_1)<|aI (ue c_Q91_6.eq_1)<|aI (ue b_Q91_1.eq_1)<|aI (ue c_Q91_7.eq_1)<|aI (ue c_Q91_8.eq_1)<|aI (ue c_Q91_9.eq_1)<|aI (ue c_Q91_10.eq_1)<|sc_Q91.eq_1
theorem comp_Q91:comp Tryz.prog Tryz.f91=some sc_Q91:=by kernel_rfl
def c_Q126_1:SC:=.seq (.reg [mO 13 0,kO 14 92 [(.t 13)]]) (.seq (.seq (.reg [mO 15 0,nO 16 15,fO 17 3 16,lO 18 17,bC 19 .neq 18 0]) (.cond (.t 19) (.seq (.reg [vO 2 (.mov (cI 0))]) .ret) .skip)) (.seq (.reg [mO 20 0,kO 21 126 [(.t 20)],mO 4 21]) (.seq (.reg [mO 22 0,nO 23 22,fO 24 2 23,lO 25 24,bC 26 .sub 25 1,nO 27 22,fO 28 2 27,sO 1 28 26]) (.seq (.reg [mO 29 0,mO 30 3,mO 31 4,⟨some 32,none,.bslice 1 1 [(.int .i64 0)] [(0,(.t 31))]⟩,vO 33 (.build [(.int .i64 0),(.int .i64 0),(.str []),(.nils 2),(.nils 1)] [(0,1,(.t 30)),(4,1,(.t 32))]),kO 34 93 [(.t 29),(.t 33)],mO 2 34]) .ret))))
def c_Q126_2:SC:=.seq (.seq (.reg [mO 9 3,bC 10 .eql 9 0]) (.cond (.t 10) (.seq (.reg [mO 11 0,kO 12 155 [(.t 11)],mO 2 12]) .ret) .skip)) c_Q126_1
def c_Q126_3:SC:=.seq (.seq (.reg [mO 7 0,kO 8 86 [(.t 7),(.c (.str [33]))]]) (.cond (.t 8) (.reg [vO 3 (.mov (cI 8))]) .skip)) c_Q126_2
def c_Q126_4:SC:=.seq (.seq (.reg [mO 5 0,kO 6 86 [(.t 5),(.c (.str [45]))]]) (.cond (.t 6) (.reg [vO 3 (.mov (cI 9))]) .skip)) c_Q126_3
def c_Q126_5:SC:=.seq (.reg [vO 3 (.mov (cI 0))]) c_Q126_4
def sc_Q126:zh:=⟨1,35,.seq (.reg [vO 2 (.mov (cI 0))]) c_Q126_5,[(.t 2)]⟩
theorem zyh:type_of% (aI (ue c_Q126_1.eq_1)<|aI (ue c_Q126_2.eq_1)<|aI (ue c_Q126_3.eq_1)<|aI (ue c_Q126_4.eq_1)<|aI (ue c_Q126_5.eq_1)<|sc_Q126.eq_1):=aI (ue c_Q126_1.eq_1)<|aI (ue c_Q126_2.eq_1)<|aI (ue c_Q126_3.eq_1)<|aI (ue c_Q126_4.eq_1)<|aI (ue c_Q126_5.eq_1)<|sc_Q126.eq_1
theorem comp_Q126:comp Tryz.prog Tryz.f126=some sc_Q126:=by kernel_rfl
def c_Q155_1:SC:=.seq (.reg [mO 33 3,mO 2 33]) .ret
def c_Q155_2:SC:=.seq (.seq (.reg [mO 11 0,nO 12 11,fO 13 3 12,lO 14 13,bC 15 .neq 14 0]) (.cond (.t 15) (.seq (.reg [vO 2 (.mov (cI 0))]) .ret) .skip)) (.seq (.reg [mO 16 0,kO 17 56 [(.t 16)],mO 4 17]) (.seq (.reg [mO 18 0,kO 19 89 [(.t 18),(.c (.str [93]))]]) (.seq (.reg [mO 20 0,nO 21 20,fO 22 2 21,lO 23 22,bC 24 .sub 23 1,nO 25 20,fO 26 2 25,sO 1 26 24]) (.reg [mO 27 0,mO 28 3,mO 29 4,⟨some 30,none,.bslice 1 2 [(.int .i64 0)] [(0,(.t 28)),(1,(.t 29))]⟩,vO 31 (.build [(.int .i64 0),(.int .i64 0),(.str []),(.nils 2),(.nils 1)] [(0,1,(cI 7)),(4,1,(.t 30))]),kO 32 93 [(.t 27),(.t 31)],mO 3 32]))))
def c_Q155_3:SC:=.block 1 (.seq (.reg [mO 9 0,kO 10 92 [(.t 9)]]) c_Q155_2)
def b_Q155_1:SC:=.seq (.seq (.reg [mO 7 0,kO 8 86 [(.t 7),(.c (.str [91]))]]) (.cond (.t 8) .skip (.exit 0))) c_Q155_3
def c_Q155_4:SC:=.seq (.block 0 (.loop b_Q155_1)) c_Q155_1
def c_Q155_5:SC:=.seq (.reg [mO 5 0,kO 6 174 [(.t 5)],mO 3 6]) c_Q155_4
def sc_Q155:zh:=⟨1,34,.seq (.reg [vO 2 (.mov (cI 0))]) c_Q155_5,[(.t 2)]⟩
noncomputable def zok (SP:Prg) (x:EO):CO:=fin [(.t 2)] (thC SP (zx 0 (x)) c_Q155_1)
theorem zrG:type_of% (aI (ue c_Q155_1.eq_1)<|aI (ue c_Q155_2.eq_1)<|aI (ue c_Q155_3.eq_1)<|aI (ue b_Q155_1.eq_1)<|aI (ue c_Q155_4.eq_1)<|aI (ue c_Q155_5.eq_1)<|sc_Q155.eq_1):=aI (ue c_Q155_1.eq_1)<|aI (ue c_Q155_2.eq_1)<|aI (ue c_Q155_3.eq_1)<|aI (ue b_Q155_1.eq_1)<|aI (ue c_Q155_4.eq_1)<|aI (ue c_Q155_5.eq_1)<|sc_Q155.eq_1
theorem comp_Q155:comp Tryz.prog Tryz.f155=some sc_Q155:=by kernel_rfl
def c_Q195_1:SC:=.seq (.reg [mO 39 0,mO 40 1,kO 41 89 [(.t 39),(.t 40)]]) (.seq (.reg [mO 42 0,nO 43 42,fO 44 2 43,lO 45 44,bC 46 .sub 45 1,nO 47 42,fO 48 2 47,sO 1 48 46]) (.seq (.reg [mO 49 5,mO 4 49]) .ret))
def b_Q195_1:SC:=.seq (.seq (.reg [mO 19 0,nO 20 19,fO 21 3 20,lO 22 21,bC 23 .eql 22 0]) (.cond (.t 23) .skip (.exit 0))) (.block 1 (.seq (.reg [mO 24 5,mO 25 0,kO 26 56 [(.t 25)],⟨some 27,none,.bslice 1 1 [(.int .i64 0)] [(0,(.t 26))]⟩,⟨some 28,none,.append 1 8 (.t 24) (.t 27)⟩,mO 5 28]) (.seq (.seq (.reg [mO 29 0,kO 30 86 [(.t 29),(.c (.str [44]))],uO 31 30]) (.cond (.t 31) (.exit 0) .skip)) (.reg [mO 32 0,nO 33 32,fO 34 1 33,lO 35 34,bC 36 .add 35 1,nO 37 32,fO 38 1 37,sO 1 38 36]))))
def c_Q195_2:SC:=.cond (.t 18) (.block 0 (.loop b_Q195_1)) .skip
def c_Q195_3:SC:=.seq (.seq (.reg [mO 8 0,nO 9 8,fO 10 3 9,lO 11 10,bC 12 .eql 11 0,mO 13 12,gO 14 13 true (.mov (.t 0)),gO 15 13 true (.mov (.t 1)),⟨some 16,some (13,true),.call (.c (.func 86 [])) [(.t 14),(.t 15)]⟩,gO 17 13 true (.un .not (.t 16)),vO 18 (.pick (.t 13) (.t 17) (.c (.bool false)))]) c_Q195_2) c_Q195_1
def c_Q195_4:SC:=.seq (.reg [mO 6 0,kO 7 92 [(.t 6)]]) c_Q195_3
def c_Q195_5:SC:=.seq (.reg [⟨some 5,none,.nilv 1⟩]) c_Q195_4
def sc_Q195:zh:=⟨2,50,.seq (.reg [⟨some 4,none,.nilv 1⟩]) c_Q195_5,[(.t 4)]⟩
noncomputable def znn (SP:Prg) (x:EO):CO:=fin [(.t 4)] (thC SP (zx 0 (x)) c_Q195_1)
theorem ztb:type_of% (aI (ue c_Q195_1.eq_1)<|aI (ue b_Q195_1.eq_1)<|aI (ue c_Q195_2.eq_1)<|aI (ue c_Q195_3.eq_1)<|aI (ue c_Q195_4.eq_1)<|aI (ue c_Q195_5.eq_1)<|sc_Q195.eq_1):=aI (ue c_Q195_1.eq_1)<|aI (ue b_Q195_1.eq_1)<|aI (ue c_Q195_2.eq_1)<|aI (ue c_Q195_3.eq_1)<|aI (ue c_Q195_4.eq_1)<|aI (ue c_Q195_5.eq_1)<|sc_Q195.eq_1
theorem comp_Q195:comp Tryz.prog Tryz.f195=some sc_Q195:=by kernel_rfl
def c_Q174_1:SC:=.seq (.reg [mO 97 0,kO 98 57 [(.t 97),(cI 5)]]) (.seq (.reg [vO 2 (.mov (cI 0))]) .ret)
def c_Q174_2:SC:=.cond (.t 67) (.seq (.reg [mO 70 0,mO 71 0,kO 72 195 [(.t 71),(.c (.str [93]))],vO 73 (.build [(.int .i64 0),(.int .i64 0),(.str []),(.nils 2),(.nils 1)] [(0,1,(cI 6)),(4,1,(.t 72))]),kO 74 93 [(.t 70),(.t 73)],mO 2 74]) .ret) (.seq (.reg [mO 76 0,kO 77 86 [(.t 76),(.c (.str [40]))],mO 75 77]) (.cond (.t 75) (.seq (.reg [mO 78 0,kO 79 92 [(.t 78)]]) (.seq (.seq (.reg [mO 80 0,nO 81 80,fO 82 3 81,lO 83 82,bC 84 .neq 83 0]) (.cond (.t 84) (.seq (.reg [vO 2 (.mov (cI 0))]) .ret) .skip)) (.seq (.reg [mO 85 0,kO 86 56 [(.t 85)],mO 4 86]) (.seq (.reg [mO 87 0,kO 88 89 [(.t 87),(.c (.str [41]))]]) (.seq (.reg [mO 89 0,nO 90 89,fO 91 2 90,lO 92 91,bC 93 .sub 92 1,nO 94 89,fO 95 2 94,sO 1 95 93]) (.seq (.reg [mO 96 4,mO 2 96]) .ret)))))) .skip))
def c_Q174_3:SC:=.cond (.t 52) (.seq (.reg [mO 56 0,nO 57 56,fO 58 1 57,lO 59 58,bC 60 .add 59 1,nO 61 56,fO 62 1 61,sO 1 62 60]) (.seq (.reg [mO 63 0,fO 64 1 3,lO 65 64,kO 66 194 [(.t 63),(.t 65)],mO 2 66]) .ret)) (.seq (.reg [mO 68 0,kO 69 86 [(.t 68),(.c (.str [91]))],mO 67 69]) c_Q174_2)
def c_Q174_4:SC:=.cond (.t 36) (.seq (.reg [mO 40 0,nO 41 40,fO 42 1 41,lO 43 42,bC 44 .add 43 1,nO 45 40,fO 46 1 45,sO 1 46 44]) (.seq (.reg [mO 47 0,fO 48 3 3,lO 49 48,vO 50 (.build [(.int .i64 0),(.int .i64 0),(.str []),(.nils 2),(.nils 1)] [(0,1,(cI 2)),(3,1,(.t 49))]),kO 51 93 [(.t 47),(.t 50)],mO 2 51]) .ret)) (.seq (.reg [fO 53 0 3,lO 54 53,bC 55 .eql 54 3,mO 52 55]) c_Q174_3)
def c_Q174_5:SC:=.cond (.t 20) (.seq (.reg [mO 24 0,nO 25 24,fO 26 1 25,lO 27 26,bC 28 .add 27 1,nO 29 24,fO 30 1 29,sO 1 30 28]) (.seq (.reg [mO 31 0,fO 32 2 3,lO 33 32,vO 34 (.build [(.int .i64 0),(.int .i64 0),(.str []),(.nils 2),(.nils 1)] [(0,1,(cI 1)),(1,1,(.t 33))]),kO 35 93 [(.t 31),(.t 34)],mO 2 35]) .ret)) (.seq (.reg [fO 37 0 3,lO 38 37,bC 39 .eql 38 2,mO 36 39]) c_Q174_4)
def c_Q174_6:SC:=.seq (.block 0 (.seq (.reg [fO 21 0 3,lO 22 21,bC 23 .eql 22 1,mO 20 23]) c_Q174_5)) c_Q174_1
def c_Q174_7:SC:=.seq (.dreg [mO 10 0,nO 11 10,fO 12 0 11,lO 13 12,mO 14 0,nO 15 14,fO 16 1 15,lO 17 16,vO 18 (.iaddr 5 (.t 13) (.t 17)),vO 19 (.load (some 5) (.t 18)),⟨some 3,none,.alloc [(.int .i64 0),(.str []),(.int .i64 0),(.nils 2),(.int .i64 0)]⟩,sO 5 3 19] [false,false,false,false,false,false,false,false,false,false,false,true]) c_Q174_6
def c_Q174_8:SC:=.seq (.seq (.reg [mO 5 0,nO 6 5,fO 7 3 6,lO 8 7,bC 9 .neq 8 0]) (.cond (.t 9) (.seq (.reg [vO 2 (.mov (cI 0))]) .ret) .skip)) c_Q174_7
def sc_Q174:zh:=⟨1,99,.seq (.reg [vO 2 (.mov (cI 0))]) c_Q174_8,[(.t 2)]⟩
theorem zzu:type_of% (aI (ue c_Q174_1.eq_1)<|aI (ue c_Q174_2.eq_1)<|aI (ue c_Q174_3.eq_1)<|aI (ue c_Q174_4.eq_1)<|aI (ue c_Q174_5.eq_1)<|aI (ue c_Q174_6.eq_1)<|aI (ue c_Q174_7.eq_1)<|aI (ue c_Q174_8.eq_1)<|sc_Q174.eq_1):=aI (ue c_Q174_1.eq_1)<|aI (ue c_Q174_2.eq_1)<|aI (ue c_Q174_3.eq_1)<|aI (ue c_Q174_4.eq_1)<|aI (ue c_Q174_5.eq_1)<|aI (ue c_Q174_6.eq_1)<|aI (ue c_Q174_7.eq_1)<|aI (ue c_Q174_8.eq_1)<|sc_Q174.eq_1
theorem comp_Q174:comp Tryz.prog Tryz.f174=some sc_Q174:=by kernel_rfl
def c_Q194_1:SC:=.seq (.reg [mO 75 0,kO 76 57 [(.t 75),(cI 5)]]) (.seq (.reg [vO 4 (.mov (cI 0))]) .ret)
def c_Q194_2:SC:=.seq (.dreg [mO 57 0,mO 58 1,vO 59 (.bin .add (.t 58) (.c (.str [46]))),mO 60 0,nO 61 60,fO 62 0 61,lO 63 62,mO 64 0,nO 65 64,fO 66 1 65,lO 67 66,bC 68 .sub 67 1,vO 69 (.iaddr 5 (.t 63) (.t 68)),fO 70 1 69,lO 71 70,bO 72 .add 59 71,vO 73 (.build [(.int .i64 0),(.int .i64 0),(.str []),(.nils 2),(.nils 1)] [(0,1,(cI 4)),(2,1,(.t 72))]),kO 74 93 [(.t 57),(.t 73)],mO 4 74] [false,false,false,false,false,false,false,false,false,false,false,false,true,true,true,true,true,true,true]) .ret
def c_Q194_3:SC:=.seq (.reg [mO 50 0,nO 51 50,fO 52 1 51,lO 53 52,bC 54 .add 53 1,nO 55 50,fO 56 1 55,sO 1 56 54]) c_Q194_2
def c_Q194_4:SC:=.seq (.seq (.dreg [mO 36 0,nO 37 36,fO 38 0 37,lO 39 38,mO 40 0,nO 41 40,fO 42 1 41,lO 43 42,vO 44 (.iaddr 5 (.t 39) (.t 43)),fO 45 0 44,lO 46 45,bC 47 .neq 46 3] [false,false,false,false,false,false,false,false,true,true,true,true]) (.cond (.t 47) (.seq (.reg [mO 48 0,kO 49 57 [(.t 48),(cI 5)]]) (.seq (.reg [vO 4 (.mov (cI 0))]) .ret)) .skip)) c_Q194_3
def c_Q194_5:SC:=.cond (.t 26) (.seq (.reg [mO 29 0,nO 30 29,fO 31 1 30,lO 32 31,bC 33 .add 32 1,nO 34 29,fO 35 1 34,sO 1 35 33]) c_Q194_4) .skip
def c_Q194_6:SC:=.cond (.t 17) (.seq (.reg [mO 20 0,mO 21 1,mO 22 0,kO 23 195 [(.t 22),(.c (.str [41]))],vO 24 (.build [(.int .i64 0),(.int .i64 0),(.str []),(.nils 2),(.nils 1)] [(0,1,(cI 5)),(2,1,(.t 21)),(4,1,(.t 23))]),kO 25 93 [(.t 20),(.t 24)],mO 4 25]) .ret) (.seq (.reg [mO 27 0,kO 28 86 [(.t 27),(.c (.str [46]))],mO 26 28]) c_Q194_5)
def c_Q194_7:SC:=.cond (.t 11) (.seq (.reg [mO 14 0,vO 15 (.build [(.int .i64 0),(.int .i64 0),(.str []),(.nils 2),(.nils 1)] [(0,1,(cI 3))]),kO 16 93 [(.t 14),(.t 15)],mO 4 16]) .ret) (.seq (.reg [mO 18 0,kO 19 86 [(.t 18),(.c (.str [40]))],mO 17 19]) c_Q194_6)
def c_Q194_8:SC:=.cond (.t 5) (.seq (.reg [mO 8 0,vO 9 (.build [(.int .i64 0),(.int .i64 0),(.str []),(.nils 2),(.nils 1)] [(0,1,(cI 3)),(1,1,(cI 1))]),kO 10 93 [(.t 8),(.t 9)],mO 4 10]) .ret) (.seq (.reg [mO 12 1,vO 13 (.bin .eql (.t 12) (.c (.str [102,97,108,115,101]))),mO 11 13]) c_Q194_7)
def c_Q194_9:SC:=.seq (.block 0 (.seq (.reg [mO 6 1,vO 7 (.bin .eql (.t 6) (.c (.str [116,114,117,101]))),mO 5 7]) c_Q194_8)) c_Q194_1
def sc_Q194:zh:=⟨2,77,.seq (.reg [vO 4 (.mov (cI 0))]) c_Q194_9,[(.t 4)]⟩
theorem zxQ:type_of% (aI (ue c_Q194_1.eq_1)<|aI (ue c_Q194_2.eq_1)<|aI (ue c_Q194_3.eq_1)<|aI (ue c_Q194_4.eq_1)<|aI (ue c_Q194_5.eq_1)<|aI (ue c_Q194_6.eq_1)<|aI (ue c_Q194_7.eq_1)<|aI (ue c_Q194_8.eq_1)<|aI (ue c_Q194_9.eq_1)<|sc_Q194.eq_1):=aI (ue c_Q194_1.eq_1)<|aI (ue c_Q194_2.eq_1)<|aI (ue c_Q194_3.eq_1)<|aI (ue c_Q194_4.eq_1)<|aI (ue c_Q194_5.eq_1)<|aI (ue c_Q194_6.eq_1)<|aI (ue c_Q194_7.eq_1)<|aI (ue c_Q194_8.eq_1)<|aI (ue c_Q194_9.eq_1)<|sc_Q194.eq_1
theorem comp_Q194:comp Tryz.prog Tryz.f194=some sc_Q194:=by kernel_rfl
def c_Q90_1:SC:=.seq (.reg [mO 78 0,kO 79 89 [(.t 78),(.c (.str [125]))]]) (.seq (.reg [mO 80 3,mO 2 80]) .ret)
def c_Q90_2:SC:=.seq (.reg [mO 56 0,kO 57 89 [(.t 56),(.c (.str [61]))]]) (.seq (.reg [mO 58 0,nO 59 58,fO 60 4 59,⟨none,none,.store 1 (.t 60) (.c (.nils 5))⟩]) (.seq (.seq (.reg [mO 61 0,nO 62 61,fO 63 3 62,lO 64 63,bC 65 .eql 64 0]) (.cond (.t 65) (.reg [mO 66 0,kO 67 56 [(.t 66)]]) .skip)) (.dreg [mO 68 3,fO 69 1 4,lO 70 69,mO 71 0,nO 72 71,fO 73 4 72,lO 74 73,vO 75 (.build [(.str []),(.nils 5)] [(0,1,(.t 70)),(1,1,(.t 74))]),⟨some 76,none,.bslice 2 1 [(.str []),(.nils 5)] [(0,(.t 75))]⟩,⟨some 77,none,.append 2 40 (.t 68) (.t 76)⟩,mO 3 77] [false,false,false,false,false,false,false,true,true,true,true])))
def c_Q90_3:SC:=.seq (.reg [mO 49 0,nO 50 49,fO 51 1 50,lO 52 51,bC 53 .add 52 1,nO 54 49,fO 55 1 54,sO 1 55 53]) c_Q90_2
def b_Q90_2:SC:=.seq (.seq (.reg [mO 33 5,mO 34 3,vO 35 (.len false (.t 34)),bO 36 .lss 33 35]) (.cond (.t 36) .skip (.exit 2))) (.seq (.block 3 (.seq (.dreg [mO 39 3,mO 40 5,vO 41 (.iaddr 2 (.t 39) (.t 40)),fO 42 0 41,lO 43 42,fO 44 1 4,lO 45 44,bO 46 .eql 43 45] [false,false,false,false,false,false,false,true]) (.cond (.t 46) (.reg [mO 47 0,kO 48 57 [(.t 47),(cI 3)]]) .skip))) (.reg [mO 37 5,bC 38 .add 37 1,mO 5 38]))
def c_Q90_4:SC:=.seq (.seq (.reg [vO 5 (.mov (cI 0))]) (.block 2 (.loop b_Q90_2))) c_Q90_3
def c_Q90_5:SC:=.seq (.seq (.reg [fO 28 0 4,lO 29 28,bC 30 .neq 29 3]) (.cond (.t 30) (.seq (.reg [mO 31 0,kO 32 57 [(.t 31),(cI 5)]]) (.exit 0)) .skip)) c_Q90_4
def c_Q90_6:SC:=.block 1 (.seq (.dreg [mO 18 0,nO 19 18,fO 20 0 19,lO 21 20,mO 22 0,nO 23 22,fO 24 1 23,lO 25 24,vO 26 (.iaddr 5 (.t 21) (.t 25)),vO 27 (.load (some 5) (.t 26)),⟨some 4,none,.alloc [(.int .i64 0),(.str []),(.int .i64 0),(.nils 2),(.int .i64 0)]⟩,sO 5 4 27] [false,false,false,false,false,false,false,false,false,false,false,true]) c_Q90_5)
def b_Q90_1:SC:=.seq (.seq (.reg [mO 8 0,nO 9 8,fO 10 3 9,lO 11 10,bC 12 .eql 11 0,mO 13 12,gO 14 13 true (.mov (.t 0)),⟨some 15,some (13,true),.call (.c (.func 86 [])) [(.t 14),(.c (.str [125]))]⟩,gO 16 13 true (.un .not (.t 15)),vO 17 (.pick (.t 13) (.t 16) (.c (.bool false)))]) (.cond (.t 17) .skip (.exit 0))) c_Q90_6
def c_Q90_7:SC:=.seq (.block 0 (.loop b_Q90_1)) c_Q90_1
def c_Q90_8:SC:=.seq (.reg [mO 6 0,kO 7 89 [(.t 6),(.c (.str [123]))]]) c_Q90_7
def c_Q90_9:SC:=.seq (.reg [⟨some 3,none,.nilv 2⟩]) c_Q90_8
def sc_Q90:zh:=⟨1,81,.seq (.reg [⟨some 2,none,.nilv 2⟩]) c_Q90_9,[(.t 2)]⟩
noncomputable def zo8 (SP:Prg) (x:EO):CO:=fin [(.t 2)] (thC SP (zx 0 (thC SP (zx 1 (thC SP (zx 2 (x)) c_Q90_3)) (.loop b_Q90_1))) c_Q90_1)
noncomputable def zo9 (SP:Prg) (x:EO):CO:=fin [(.t 2)] (thC SP (zx 0 (x)) c_Q90_1)
theorem zqh:type_of% (aI (ue c_Q90_1.eq_1)<|aI (ue c_Q90_2.eq_1)<|aI (ue c_Q90_3.eq_1)<|aI (ue b_Q90_2.eq_1)<|aI (ue c_Q90_4.eq_1)<|aI (ue c_Q90_5.eq_1)<|aI (ue c_Q90_6.eq_1)<|aI (ue b_Q90_1.eq_1)<|aI (ue c_Q90_7.eq_1)<|aI (ue c_Q90_8.eq_1)<|aI (ue c_Q90_9.eq_1)<|sc_Q90.eq_1):=aI (ue c_Q90_1.eq_1)<|aI (ue c_Q90_2.eq_1)<|aI (ue c_Q90_3.eq_1)<|aI (ue b_Q90_2.eq_1)<|aI (ue c_Q90_4.eq_1)<|aI (ue c_Q90_5.eq_1)<|aI (ue c_Q90_6.eq_1)<|aI (ue b_Q90_1.eq_1)<|aI (ue c_Q90_7.eq_1)<|aI (ue c_Q90_8.eq_1)<|aI (ue c_Q90_9.eq_1)<|sc_Q90.eq_1
theorem comp_Q90:comp Tryz.prog Tryz.f90=some sc_Q90:=by kernel_rfl
def c_Q88_1:SC:=.seq (.reg [mO 46 0,nO 47 46,fO 48 1 47,lO 49 48,bC 50 .add 49 1,nO 51 46,fO 52 1 51,sO 1 52 50]) (.seq (.reg [fO 53 3 3,lO 54 53,vO 55 (.iaddr 2 (.t 54) (cI 0)),fO 56 1 55,lO 57 56,mO 2 57]) .ret)
def c_Q88_2:SC:=.cond (.t 43) (.seq (.reg [mO 44 0,kO 45 57 [(.t 44),(cI 5)]]) (.seq (.reg [vO 2 (.mov (.c (.str [])))]) .ret)) .skip
def c_Q88_3:SC:=.seq (.seq (.reg [fO 19 0 3,lO 20 19,bC 21 .neq 20 2,mO 22 21,gO 23 22 false (.faddr 3 (.t 3)),gO 24 22 false (.load none (.t 23)),gO 25 22 false (.len false (.t 24)),gO 26 22 false (.bin .neq (.t 25) (cI 1)),vO 27 (.pick (.t 22) (.c (.bool true)) (.t 26)),mO 28 27,gO 29 28 false (.faddr 3 (.t 3)),gO 30 28 false (.load none (.t 29)),gO 31 28 false (.iaddr 2 (.t 30) (cI 0)),gO 32 28 false (.faddr 0 (.t 31)),gO 33 28 false (.load none (.t 32)),vO 34 (.pick (.t 28) (.c (.bool true)) (.t 33)),mO 35 34,gO 36 35 false (.faddr 3 (.t 3)),gO 37 35 false (.load none (.t 36)),gO 38 35 false (.iaddr 2 (.t 37) (cI 0)),gO 39 35 false (.faddr 1 (.t 38)),gO 40 35 false (.load none (.t 39)),⟨some 41,some (35,false),.call (.c (.func 122 [])) [(.t 40)]⟩,gO 42 35 false (.un .not (.t 41)),vO 43 (.pick (.t 35) (.c (.bool true)) (.t 42))]) c_Q88_2) c_Q88_1
def c_Q88_4:SC:=.seq (.dreg [mO 9 0,nO 10 9,fO 11 0 10,lO 12 11,mO 13 0,nO 14 13,fO 15 1 14,lO 16 15,vO 17 (.iaddr 5 (.t 12) (.t 16)),vO 18 (.load (some 5) (.t 17)),⟨some 3,none,.alloc [(.int .i64 0),(.str []),(.int .i64 0),(.nils 2),(.int .i64 0)]⟩,sO 5 3 18] [false,false,false,false,false,false,false,false,false,false,false,true]) c_Q88_3
def c_Q88_5:SC:=.seq (.seq (.reg [mO 4 0,nO 5 4,fO 6 3 5,lO 7 6,bC 8 .neq 7 0]) (.cond (.t 8) (.seq (.reg [vO 2 (.mov (.c (.str [])))]) .ret) .skip)) c_Q88_4
def sc_Q88:zh:=⟨1,58,.seq (.reg [vO 2 (.mov (.c (.str [])))]) c_Q88_5,[(.t 2)]⟩
theorem zAW:type_of% (aI (ue c_Q88_1.eq_1)<|aI (ue c_Q88_2.eq_1)<|aI (ue c_Q88_3.eq_1)<|aI (ue c_Q88_4.eq_1)<|aI (ue c_Q88_5.eq_1)<|sc_Q88.eq_1):=aI (ue c_Q88_1.eq_1)<|aI (ue c_Q88_2.eq_1)<|aI (ue c_Q88_3.eq_1)<|aI (ue c_Q88_4.eq_1)<|aI (ue c_Q88_5.eq_1)<|sc_Q88.eq_1
theorem comp_Q88:comp Tryz.prog Tryz.f88=some sc_Q88:=by kernel_rfl
def sc_Q87:zh:=⟨1,14,.seq (.reg [vO 2 (.mov (cI 0))]) (.seq (.seq (.reg [mO 3 0]) (.block 0 (.seq (.reg [vO 5 (.bin .eql (.t 3) (.c (.str [118,97,114,105,97,98,108,101]))),mO 4 5]) (.cond (.t 4) (.seq (.reg [vO 2 (.mov (cI 1))]) .ret) (.seq (.reg [vO 7 (.bin .eql (.t 3) (.c (.str [108,111,99,97,108,115]))),mO 6 7]) (.cond (.t 6) (.seq (.reg [vO 2 (.mov (cI 2))]) .ret) (.seq (.reg [vO 9 (.bin .eql (.t 3) (.c (.str [110,111,100,101]))),mO 8 9]) (.cond (.t 8) (.seq (.reg [vO 2 (.mov (cI 3))]) .ret) (.seq (.reg [vO 11 (.bin .eql (.t 3) (.c (.str [109,111,100,117,108,101]))),mO 10 11]) (.cond (.t 10) (.seq (.reg [vO 2 (.mov (cI 4))]) .ret) (.seq (.reg [vO 13 (.bin .eql (.t 3) (.c (.str [100,101,102,105,110,101]))),mO 12 13]) (.cond (.t 12) (.seq (.reg [vO 2 (.mov (cI 5))]) .ret) .skip)))))))))))) (.seq (.reg [vO 2 (.mov (cI 0))]) .ret)),[(.t 2)]⟩
theorem zAk:type_of% (sc_Q87.eq_1):=sc_Q87.eq_1
theorem comp_Q87:comp Tryz.prog Tryz.f87=some sc_Q87:=by kernel_rfl
def c_Q55_1:SC:=.seq (.reg [mO 98 5,mO 4 98]) .ret
def c_Q55_2:SC:=.seq (.seq (.reg [mO 77 7,bC 78 .neq 77 2]) (.cond (.t 78) (.reg [mO 79 0,kO 80 88 [(.t 79)],fO 81 1 8,sO 1 81 80]) .skip)) (.seq (.seq (.reg [mO 82 7,bC 83 .eql 82 5]) (.cond (.t 83) (.seq (.reg [mO 84 0,kO 85 89 [(.t 84),(.c (.str [123]))]]) (.seq (.reg [mO 86 0,kO 87 55 [(.t 86),(.c (.bool true))],fO 88 3 8,sO 1 88 87]) (.reg [mO 89 0,kO 90 89 [(.t 89),(.c (.str [125]))]]))) (.reg [mO 91 0,kO 92 90 [(.t 91)],fO 93 2 8,sO 1 93 92]))) (.reg [mO 94 5,vO 95 (.load (some 4) (.t 8)),⟨some 96,none,.bslice 4 1 [(.int .i64 0),(.str []),(.nils 2),(.nils 4)] [(0,(.t 95))]⟩,⟨some 97,none,.append 4 72 (.t 94) (.t 96)⟩,mO 5 97]))
def c_Q55_3:SC:=.seq (.reg [mO 75 7,vO 76 (.build [(.int .i64 0),(.str []),(.nils 2),(.nils 4)] [(0,1,(.t 75))]),⟨some 8,none,.alloc [(.int .i64 0),(.str []),(.nils 2),(.nils 4)]⟩,sO 4 8 76]) c_Q55_2
def c_Q55_4:SC:=.seq (.reg [mO 68 0,nO 69 68,fO 70 1 69,lO 71 70,bC 72 .add 71 1,nO 73 68,fO 74 1 73,sO 1 74 72]) c_Q55_3
def c_Q55_5:SC:=.seq (.seq (.reg [mO 57 7,bC 58 .eql 57 0,mO 59 58,gO 60 59 false (.mov (.t 1)),gO 61 59 false (.mov (.t 60)),gO 62 61 true (.mov (.t 7)),gO 63 61 true (.bin .eql (.t 62) (cI 5)),gO 64 59 false (.pick (.t 61) (.t 63) (.c (.bool false))),vO 65 (.pick (.t 59) (.c (.bool true)) (.t 64))]) (.cond (.t 65) (.seq (.reg [mO 66 0,kO 67 57 [(.t 66),(cI 5)]]) (.exit 0)) .skip)) c_Q55_4
def c_Q55_6:SC:=.seq (.seq (.reg [fO 51 0 6,lO 52 51,bC 53 .eql 52 3]) (.cond (.t 53) (.reg [fO 54 1 6,lO 55 54,kO 56 87 [(.t 55)],mO 7 56]) .skip)) c_Q55_5
def c_Q55_7:SC:=.seq (.reg [vO 7 (.mov (cI 0))]) c_Q55_6
def c_Q55_8:SC:=.block 1 (.seq (.dreg [mO 41 0,nO 42 41,fO 43 0 42,lO 44 43,mO 45 0,nO 46 45,fO 47 1 46,lO 48 47,vO 49 (.iaddr 5 (.t 44) (.t 48)),vO 50 (.load (some 5) (.t 49)),⟨some 6,none,.alloc [(.int .i64 0),(.str []),(.int .i64 0),(.nils 2),(.int .i64 0)]⟩,sO 5 6 50] [false,false,false,false,false,false,false,false,false,false,false,true]) c_Q55_7)
def c_Q55_9:SC:=.cond (.t 40) .skip (.exit 0)
def b_Q55_1:SC:=.seq (.seq (.dreg [mO 9 0,nO 10 9,fO 11 3 10,lO 12 11,bC 13 .eql 12 0,mO 14 13,gO 15 14 true (.mov (.t 1)),gO 16 14 true (.mov (.t 15)),gO 17 16 true (.mov (.t 0)),⟨some 18,some (16,true),.call (.c (.func 86 [])) [(.t 17),(.c (.str [125]))]⟩,gO 19 14 true (.pick (.t 16) (.t 18) (.c (.bool false))),gO 20 14 true (.un .not (.t 19)),vO 21 (.pick (.t 14) (.t 20) (.c (.bool false))),mO 22 21,gO 23 22 true (.mov (.t 1)),gO 24 22 true (.un .not (.t 23)),gO 25 22 true (.mov (.t 24)),gO 26 25 true (.mov (.t 0)),gO 27 25 true (.nchk (.t 26)),gO 28 25 true (.faddr 0 (.t 27)),gO 29 25 true (.load none (.t 28)),gO 30 25 true (.mov (.t 0)),gO 31 25 true (.nchk (.t 30)),gO 32 25 true (.faddr 1 (.t 31)),gO 33 25 true (.load none (.t 32)),gO 34 25 true (.iaddr 5 (.t 29) (.t 33)),gO 35 25 true (.faddr 0 (.t 34)),gO 36 25 true (.load none (.t 35)),gO 37 25 true (.bin .eql (.t 36) (cI 0)),gO 38 22 true (.pick (.t 25) (.t 37) (.c (.bool false))),gO 39 22 true (.un .not (.t 38)),vO 40 (.pick (.t 22) (.t 39) (.c (.bool false)))] [true,true,true,true,true,true,true,true,true,true,true,true,true,true,true,true,true,false,false,false,false,false,false,false,false,true,true,true,true,true,true,true]) c_Q55_9) c_Q55_8
def c_Q55_10:SC:=.seq (.block 0 (.loop b_Q55_1)) c_Q55_1
def c_Q55_11:SC:=.seq (.reg [⟨some 5,none,.nilv 4⟩]) c_Q55_10
def sc_Q55:zh:=⟨2,99,.seq (.reg [⟨some 4,none,.nilv 4⟩]) c_Q55_11,[(.t 4)]⟩
noncomputable def zpc (SP:Prg) (x:EO):CO:=fin [(.t 4)] (thC SP (zx 0 (x)) c_Q55_1)
theorem zvj:type_of% (aI (ue c_Q55_1.eq_1)<|aI (ue c_Q55_2.eq_1)<|aI (ue c_Q55_3.eq_1)<|aI (ue c_Q55_4.eq_1)<|aI (ue c_Q55_5.eq_1)<|aI (ue c_Q55_6.eq_1)<|aI (ue c_Q55_7.eq_1)<|aI (ue c_Q55_8.eq_1)<|aI (ue c_Q55_9.eq_1)<|aI (ue b_Q55_1.eq_1)<|aI (ue c_Q55_10.eq_1)<|aI (ue c_Q55_11.eq_1)<|sc_Q55.eq_1):=aI (ue c_Q55_1.eq_1)<|aI (ue c_Q55_2.eq_1)<|aI (ue c_Q55_3.eq_1)<|aI (ue c_Q55_4.eq_1)<|aI (ue c_Q55_5.eq_1)<|aI (ue c_Q55_6.eq_1)<|aI (ue c_Q55_7.eq_1)<|aI (ue c_Q55_8.eq_1)<|aI (ue c_Q55_9.eq_1)<|aI (ue b_Q55_1.eq_1)<|aI (ue c_Q55_10.eq_1)<|aI (ue c_Q55_11.eq_1)<|sc_Q55.eq_1
theorem comp_Q55:comp Tryz.prog Tryz.f55=some sc_Q55:=by kernel_rfl
def c_Q32_1:SC:=.seq (.reg [fO 14 0 3,lO 15 14,vO 16 (.build [(.nils 5),(.int .i64 0),(.int .i64 0),(.int .i64 0),(.nils 5)] [(0,1,(.t 15))]),⟨some 17,none,.box (.t 16)⟩,mO 4 17]) (.seq (.reg [mO 18 4,kO 19 55 [(.t 18),(.c (.bool false))],mO 5 19]) (.seq (.seq (.reg [mO 20 4,nO 21 20,fO 22 3 21,lO 23 22,bC 24 .neq 23 0]) (.cond (.t 24) (.seq (.reg [mO 25 4,nO 26 25,fO 27 3 26,lO 28 27,vO 29 (.build [(.nils 4),(.int .i64 0)] [(1,1,(.t 28))]),sO 2 2 29]) .ret) .skip)) (.seq (.reg [mO 30 5,vO 31 (.build [(.nils 4),(.int .i64 0)] [(0,1,(.t 30))]),sO 2 2 31]) .ret)))
def c_Q32_2:SC:=.seq (.seq (.reg [fO 8 1 3,lO 9 8,bC 10 .neq 9 0]) (.cond (.t 10) (.seq (.reg [fO 11 1 3,lO 12 11,vO 13 (.build [(.nils 4),(.int .i64 0)] [(1,1,(.t 12))]),sO 2 2 13]) .ret) .skip)) c_Q32_1
def c_Q32_3:SC:=.seq (.reg [mO 6 0,kO 7 54 [(.t 6)],⟨some 3,none,.alloc [(.nils 5),(.int .i64 0)]⟩,sO 2 3 7]) c_Q32_2
def sc_Q32:zh:=⟨1,32,.seq (.reg [⟨some 2,none,.alloc [(.nils 4),(.int .i64 0)]⟩]) c_Q32_3,[(.cell 2 (some 2))]⟩
theorem zAR:type_of% (aI (ue c_Q32_1.eq_1)<|aI (ue c_Q32_2.eq_1)<|aI (ue c_Q32_3.eq_1)<|sc_Q32.eq_1):=aI (ue c_Q32_1.eq_1)<|aI (ue c_Q32_2.eq_1)<|aI (ue c_Q32_3.eq_1)<|sc_Q32.eq_1
theorem comp_Q32:comp Tryz.prog Tryz.f32=some sc_Q32:=by kernel_rfl
def c_Q33_1:SC:=.seq (.seq (.reg [mO 40 4,nO 41 40,fO 42 3 41,lO 43 42,bC 44 .neq 43 0]) (.cond (.t 44) (.seq (.reg [mO 45 4,nO 46 45,fO 47 3 46,lO 48 47,vO 49 (.build [(.nils 5),(.int .i64 0)] [(1,1,(.t 48))]),sO 2 2 49]) .ret) .skip)) (.seq (.reg [mO 50 4,nO 51 50,fO 52 4 51,lO 53 52,vO 54 (.build [(.nils 5),(.int .i64 0)] [(0,1,(.t 53))]),sO 2 2 54]) .ret)
def c_Q33_2:SC:=.seq (.seq (.dreg [mO 19 4,nO 20 19,fO 21 3 20,lO 22 21,bC 23 .eql 22 0,mO 24 23,gO 25 24 true (.mov (.t 4)),gO 26 24 true (.nchk (.t 25)),gO 27 24 true (.faddr 0 (.t 26)),gO 28 24 true (.load none (.t 27)),gO 29 24 true (.mov (.t 4)),gO 30 24 true (.nchk (.t 29)),gO 31 24 true (.faddr 1 (.t 30)),gO 32 24 true (.load none (.t 31)),gO 33 24 true (.iaddr 5 (.t 28) (.t 32)),gO 34 24 true (.faddr 0 (.t 33)),gO 35 24 true (.load none (.t 34)),gO 36 24 true (.bin .neq (.t 35) (cI 0)),vO 37 (.pick (.t 24) (.t 36) (.c (.bool false)))] [true,true,true,true,true,true,false,false,false,false,false,false,false,false,true,true,true,true,true]) (.cond (.t 37) (.reg [mO 38 4,kO 39 57 [(.t 38),(cI 5)]]) .skip)) c_Q33_1
def c_Q33_3:SC:=.seq (.reg [mO 17 4,kO 18 56 [(.t 17)]]) c_Q33_2
def c_Q33_4:SC:=.seq (.reg [fO 13 0 3,lO 14 13,vO 15 (.build [(.nils 5),(.int .i64 0),(.int .i64 0),(.int .i64 0),(.nils 5)] [(0,1,(.t 14))]),⟨some 16,none,.box (.t 15)⟩,mO 4 16]) c_Q33_3
def c_Q33_5:SC:=.seq (.seq (.reg [fO 7 1 3,lO 8 7,bC 9 .neq 8 0]) (.cond (.t 9) (.seq (.reg [fO 10 1 3,lO 11 10,vO 12 (.build [(.nils 5),(.int .i64 0)] [(1,1,(.t 11))]),sO 2 2 12]) .ret) .skip)) c_Q33_4
def c_Q33_6:SC:=.seq (.reg [mO 5 0,kO 6 54 [(.t 5)],⟨some 3,none,.alloc [(.nils 5),(.int .i64 0)]⟩,sO 2 3 6]) c_Q33_5
def sc_Q33:zh:=⟨1,55,.seq (.reg [⟨some 2,none,.alloc [(.nils 5),(.int .i64 0)]⟩]) c_Q33_6,[(.cell 2 (some 2))]⟩
theorem zz1:type_of% (aI (ue c_Q33_1.eq_1)<|aI (ue c_Q33_2.eq_1)<|aI (ue c_Q33_3.eq_1)<|aI (ue c_Q33_4.eq_1)<|aI (ue c_Q33_5.eq_1)<|aI (ue c_Q33_6.eq_1)<|sc_Q33.eq_1):=aI (ue c_Q33_1.eq_1)<|aI (ue c_Q33_2.eq_1)<|aI (ue c_Q33_3.eq_1)<|aI (ue c_Q33_4.eq_1)<|aI (ue c_Q33_5.eq_1)<|aI (ue c_Q33_6.eq_1)<|sc_Q33.eq_1
theorem comp_Q33:comp Tryz.prog Tryz.f33=some sc_Q33:=by kernel_rfl
end Go.Proofs.YtfbcnpbhhooapaaGreatDoor.M
namespace Go.Proofs.YtfbcnpbhhooapaaGreatDoor.M
open Go Classical
theorem zzx:SP 86=some (.code sc_Q86):=ze rfl Tryz.func86 comp_Q86
theorem zn1 (r_:reader) (r__g4:Nat) (r__z4:Bool) (s:List UInt8) (r:Bool) (r_':reader) (r_'_g4:Nat) (r_'_z4:Bool) (T :
  ((r_.e=0) →
  (0≤r_.i) ∧
  ∃ (v1:Token),(r_.l[r_.i.toNat]?=some v1) ∧
  ((v1.Kind=4) →
   (decide (v1.Text=s))=r∧r_=r_'∧r__g4=r_'_g4∧r__z4=r_'_z4) ∧
  (¬ (v1.Kind=4) →
   false=r∧r_=r_'∧r__g4=r_'_g4∧r__z4=r_'_z4)) ∧
 (¬ (r_.e=0) →
  false=r∧r_=r_'∧r__g4=r_'_g4∧r__z4=r_'_z4)):zbu r_ r__g4 r__z4 s r r_' r_'_g4 r_'_z4:=by
 intro S n0 t0 H0
 obtain⟨hb0,ha0⟩:=H0
 obtain⟨w0,hB0⟩:=zg hb0
 have hn0:=zc hB0
 rw[zd zzx _ _ rfl]
 have F:=zzZ
 exact rp n0 t0 (aa ha0<|aa hB0<|aa hn0<|F) T
theorem zy0:SP 57=some (.code sc_Q57):=ze rfl Tryz.func57 comp_Q57
theorem znu (r_:reader) (r__g4:Nat) (r__z4:Bool) (e_:Int) (r_':reader) (r_'_g4:Nat) (r_'_z4:Bool) (T :
  ((r_.e=0) →
  (reader.mk r_.l r_.i r_.deep e_ r_.out)=r_'∧r__g4=r_'_g4∧r__z4=r_'_z4) ∧
 (¬ (r_.e=0) →
  r_=r_'∧r__g4=r_'_g4∧r__z4=r_'_z4)):zaF r_ r__g4 r__z4 e_ r_' r_'_g4 r_'_z4:=by
 intro S n0 t0 H0
 obtain⟨hb0,ha0⟩:=H0
 obtain⟨w0,hB0⟩:=zg hb0
 have hn0:=zc hB0
 rw[zd zy0 _ _ rfl]
 have F:=zz8
 exact rp n0 t0 (aa ha0<|aa hB0<|aa hn0<|F) T
theorem zyO:SP 89=some (.code sc_Q89):=ze rfl Tryz.func89 comp_Q89
theorem zjL (r_:reader) (r__g4:Nat) (r__z4:Bool) (s:List UInt8) (r_':reader) (r_'_g4:Nat) (r_'_z4:Bool) (T :
  ∃ (r1:Bool) (y2:reader) (g3:Nat) (z4:Bool),(zbu r_ r__g4 r__z4 s r1 y2 g3 z4) ∧
 ((r1=true) →
  (I64 (y2.i+1)) ∧
  (reader.mk y2.l (y2.i+1) y2.deep y2.e y2.out)=r_'∧g3=r_'_g4∧z4=r_'_z4) ∧
 (¬ (r1=true) →
  ∃ (y5:reader) (g6:Nat) (z7:Bool),(zaF y2 g3 z4 5 y5 g6 z7) ∧
  y5=r_'∧g6=r_'_g4∧z7=r_'_z4)):zaY r_ r__g4 r__z4 s r_' r_'_g4 r_'_z4:=by
 intro S n0 t0 H0
 obtain⟨hb0,ha0⟩:=H0
 obtain⟨w0,hB0⟩:=zg hb0
 have hn0:=zc hB0
 rw[zd zyO _ _ rfl]
 have F:=zz6
 exact rp n0 t0 (aa ha0<|aa hB0<|aa hn0<|F) T
theorem zzM:SP 92=some (.code sc_Q92):=ze rfl Tryz.func92 comp_Q92
theorem zn0 (r_:reader) (r__g4:Nat) (r__z4:Bool) (r_':reader) (r_'_g4:Nat) (r_'_z4:Bool) (T :
  ((64≤r_.deep) →
  ∃ (y1:reader) (g2:Nat) (z3:Bool),(zaF r_ r__g4 r__z4 6 y1 g2 z3) ∧
  y1=r_'∧g2=r_'_g4∧z3=r_'_z4) ∧
 (¬ (64≤r_.deep) →
  (I64 (r_.deep+1)) ∧
  (I64 (r_.i+1)) ∧
  (reader.mk r_.l (r_.i+1) (r_.deep+1) r_.e r_.out)=r_'∧r__g4=r_'_g4∧r__z4=r_'_z4)):zdo r_ r__g4 r__z4 r_' r_'_g4 r_'_z4:=by
 intro S n0 t0 H0
 obtain⟨hb0,ha0⟩:=H0
 obtain⟨w0,hB0⟩:=zg hb0
 have hn0:=zc hB0
 rw[zd zzM _ _ rfl]
 have F:=zzY
 exact rp n0 t0 (aa ha0<|aa hB0<|aa hn0<|F) T
theorem zyd:SP 93=some (.code sc_Q93):=ze rfl Tryz.func93 comp_Q93
theorem ztJ (r_:reader) (r__g4:Nat) (r__z4:Bool) (n:Node) (r:Int) (r_':reader) (r_'_g4:Nat) (r_'_z4:Bool) (T :
  (bigRow (r_.out.length+1) 80) ∧
 (I64 (((r_.out.length+1:Nat):Int) - 1)) ∧
 (((r_.out.length+1:Nat):Int) - 1)=r∧(reader.mk r_.l r_.i r_.deep r_.e (r_.out++[n]))=r_'∧r__g4=r_'_g4∧r__z4=r_'_z4):zaN r_ r__g4 r__z4 n r r_' r_'_g4 r_'_z4:=by
 intro S n0 t0 H0
 obtain⟨hb0,ha0⟩:=H0
 obtain⟨w0,hB0⟩:=zg hb0
 have hn0:=zc hB0
 rw[zd zyd _ _ rfl]
 have F:=zz0
 exact rp n0 t0 (aa ha0<|aa hB0<|aa hn0<|F) T
theorem zw9:SP 127=some (.code sc_Q127):=ze rfl Tryz.func127 comp_Q127
theorem zrw (n:Int) (ra:List (List UInt8)) (rb:List Int) (T :
  ((n=0) →
  [[124,124]]=ra∧[11]=rb) ∧
 (¬ (n=0) →
  ((n=1) →
   [[38,38]]=ra∧[12]=rb) ∧
  (¬ (n=1) →
   ((n=2) →
    [[61,61],[33,61],[60],[60,61],[62],[62,61]]=ra∧[13,14,15,16,17,18]=rb) ∧
   (¬ (n=2) →
    ((n=3) →
     [[43],[45]]=ra∧[19,20]=rb) ∧
    (¬ (n=3) →
     [[42],[47],[37]]=ra∧[21,22,23]=rb))))):znS n ra rb:=by
 intro S
 rw[zd zw9 _ _ rfl]
 have F:=zyK
 exact rn F T
theorem zzz:SP 56=some (.code sc_Q56):=ze rfl Tryz.func56 comp_Q56
theorem zdJ (r_:reader) (r__g4:Nat) (r__z4:Bool) (r:Int) (r_':reader) (r_'_g4:Nat) (r_'_z4:Bool) (T :
  ∃ (r1:Int) (y2:reader) (g3:Nat) (z4:Bool),(zgo r_ r__g4 r__z4 0 r1 y2 g3 z4) ∧
 ∃ (r5:Bool) (y6:reader) (g7:Nat) (z8:Bool),(zbu y2 g3 z4 [63] r5 y6 g7 z8) ∧
 ((r5=true) →
  ∃ (y9:reader) (g10:Nat) (z11:Bool),(zdo y6 g7 z8 y9 g10 z11) ∧
  ((y9.e=0) →
   ∃ (r12:Int) (y13:reader) (g14:Nat) (z15:Bool),(zcH y9 g10 z11 r12 y13 g14 z15) ∧
   ∃ (y16:reader) (g17:Nat) (z18:Bool),(zaY y13 g14 z15 [58] y16 g17 z18) ∧
   ((y16.e=0) →
    ∃ (r19:Int) (y20:reader) (g21:Nat) (z22:Bool),(zcH y16 g17 z18 r19 y20 g21 z22) ∧
    (I64 (y20.deep - 1)) ∧
    ∃ (r23:Int) (y24:reader) (g25:Nat) (z26:Bool),(zaN (reader.mk y20.l y20.i (y20.deep - 1) y20.e y20.out) g21 z22 (Node.mk 10 0 [] [] [r1,r12,r19]) r23 y24 g25 z26) ∧
    r23=r∧y24=r_'∧g25=r_'_g4∧z26=r_'_z4) ∧
   (¬ (y16.e=0) →
    (I64 (y16.deep - 1)) ∧
    ∃ (r27:Int) (y28:reader) (g29:Nat) (z30:Bool),(zaN (reader.mk y16.l y16.i (y16.deep - 1) y16.e y16.out) g17 z18 (Node.mk 10 0 [] [] [r1,r12,0]) r27 y28 g29 z30) ∧
    r27=r∧y28=r_'∧g29=r_'_g4∧z30=r_'_z4)) ∧
  (¬ (y9.e=0) →
   0=r∧y9=r_'∧g10=r_'_g4∧z11=r_'_z4)) ∧
 (¬ (r5=true) →
  r1=r∧y6=r_'∧g7=r_'_g4∧z8=r_'_z4)):zcH r_ r__g4 r__z4 r r_' r_'_g4 r_'_z4:=by
 intro S n0 t0 H0
 obtain⟨hb0,ha0⟩:=H0
 obtain⟨w0,hB0⟩:=zg hb0
 have hn0:=zc hB0
 rw[zd zzz _ _ rfl]
 have F:=zAL
 exact rp n0 t0 (aa ha0<|aa hB0<|aa hn0<|F) T
theorem zyY:SP 91=some (.code sc_Q91):=ze rfl Tryz.func91 comp_Q91
def zcg (n:Int) (r9:List (List UInt8)) (r10:List Int) (i11:Int) (r_12:reader) (g13:Nat) (z14:Bool) (r:Int) (r_':reader) (r_'_g4:Nat) (r_'_z4:Bool):Prop:=∀ (S:Sto) (e:Nat→PV) (f:Fr) (n0 t0:Nat),((getBox S n0 t0).map (List.take 5)=some [.list 5 (r_12.l.map eToken) false,.int .i64 r_12.i,.int .i64 r_12.deep,.int .i64 r_12.e,.sl 0 (.cell t0 4) 0 r_12.out.length r_12.out.length g13 false]∧getArr S n0 (.cell t0 4)=some ⟨5,r_12.out.map eNode,z14,g13⟩)→e 0=.ptr (n0+1) t0 0∧e 1=.int .i64 n∧e 5=.int .i64 i11∧e 6=.list 1 (r9.map eS) false∧e 7=.list 1 (r10.map eI) false→zpL SP (E SP (.loop b_Q91_1) ⟨e,f::S⟩)=.ok (.v (.int .i64 r)) (setArr (setBox S n0 t0 ([.list 5 (r_'.l.map eToken) false,.int .i64 r_'.i,.int .i64 r_'.deep,.int .i64 r_'.e,.sl 0 (.cell t0 4) 0 r_'.out.length r_'.out.length r_'_g4 false]++((getBox S n0 t0).getD []).drop 5)) n0 (.cell t0 4) ⟨5,r_'.out.map eNode,r_'_z4,r_'_g4⟩)
def zbU (n:Int) (r9:List (List UInt8)) (r10:List Int) (i11:Int) (i15:Int) (i16:Int) (r_17:reader) (g18:Nat) (z19:Bool) (r:Int) (r_':reader) (r_'_g4:Nat) (r_'_z4:Bool):Prop:=∀ (S:Sto) (e:Nat→PV) (f:Fr) (n0 t0:Nat),((getBox S n0 t0).map (List.take 5)=some [.list 5 (r_17.l.map eToken) false,.int .i64 r_17.i,.int .i64 r_17.deep,.int .i64 r_17.e,.sl 0 (.cell t0 4) 0 r_17.out.length r_17.out.length g18 false]∧getArr S n0 (.cell t0 4)=some ⟨5,r_17.out.map eNode,z19,g18⟩)→e 0=.ptr (n0+1) t0 0∧e 1=.int .i64 n∧e 5=.int .i64 i11∧e 6=.list 1 (r9.map eS) false∧e 7=.list 1 (r10.map eI) false∧e 8=.int .i64 i15∧e 9=.int .i64 i16→zpA SP (E SP (.loop b_Q91_2) ⟨e,f::S⟩)=.ok (.v (.int .i64 r)) (setArr (setBox S n0 t0 ([.list 5 (r_'.l.map eToken) false,.int .i64 r_'.i,.int .i64 r_'.deep,.int .i64 r_'.e,.sl 0 (.cell t0 4) 0 r_'.out.length r_'.out.length r_'_g4 false]++((getBox S n0 t0).getD []).drop 5)) n0 (.cell t0 4) ⟨5,r_'.out.map eNode,r_'_z4,r_'_g4⟩)
theorem zfc (n:Int) (r9:List (List UInt8)) (r10:List Int) (i11:Int) (r_12:reader) (g13:Nat) (z14:Bool) (r:Int) (r_':reader) (r_'_g4:Nat) (r_'_z4:Bool) (T :
  ((r_12.e=0) →
  zbU n r9 r10 i11 0 0 r_12 g13 z14 r r_' r_'_g4 r_'_z4) ∧
 (¬ (r_12.e=0) →
  i11=r∧r_12=r_'∧g13=r_'_g4∧z14=r_'_z4)):zcg n r9 r10 i11 r_12 g13 z14 r r_' r_'_g4 r_'_z4:=by
 intro S e f n0 t0 H0 h
 obtain⟨hb0,ha0⟩:=H0
 obtain⟨w0,hB0⟩:=zg hb0
 have hn0:=zc hB0
 unfold zpL
 rw[zm]
 have F:=zqi
 exact rp n0 t0 (aa ha0<|aa hB0<|aa hn0<|aa h<|F) T
theorem zdt (n:Int) (r9:List (List UInt8)) (r10:List Int) (i11:Int) (i15:Int) (i16:Int) (r_17:reader) (g18:Nat) (z19:Bool) (r:Int) (r_':reader) (r_'_g4:Nat) (r_'_z4:Bool) (T :
  ((i16 < (r9.length:Int)) →
  ((i15=0) →
   (0≤i16) ∧
   ∃ (v20:List UInt8),(r9[i16.toNat]?=some v20) ∧
   ∃ (r21:Bool) (y22:reader) (g23:Nat) (z24:Bool),(zbu r_17 g18 z19 v20 r21 y22 g23 z24) ∧
   ((r21=true) →
    (0≤i16) ∧
    ∃ (v25:Int),(r10[i16.toNat]?=some v25) ∧
    (I64 (y22.i+1)) ∧
    (I64 (i16+1)) ∧
    zbU n r9 r10 i11 v25 (i16+1) (reader.mk y22.l (y22.i+1) y22.deep y22.e y22.out) g23 z24 r r_' r_'_g4 r_'_z4) ∧
   (¬ (r21=true) →
    (I64 (i16+1)) ∧
    zbU n r9 r10 i11 i15 (i16+1) y22 g23 z24 r r_' r_'_g4 r_'_z4)) ∧
  (¬ (i15=0) →
   (I64 (n+1)) ∧
   ∃ (r26:Int) (y27:reader) (g28:Nat) (z29:Bool),(zgo r_17 g18 z19 (n+1) r26 y27 g28 z29) ∧
   ∃ (r30:Int) (y31:reader) (g32:Nat) (z33:Bool),(zaN y27 g28 z29 (Node.mk i15 0 [] [] [i11,r26]) r30 y31 g32 z33) ∧
   ((n=2) →
    r30=r∧y31=r_'∧g32=r_'_g4∧z33=r_'_z4) ∧
   (¬ (n=2) →
    zcg n r9 r10 r30 y31 g32 z33 r r_' r_'_g4 r_'_z4))) ∧
 (¬ (i16 < (r9.length:Int)) →
  ((i15=0) →
   i11=r∧r_17=r_'∧g18=r_'_g4∧z19=r_'_z4) ∧
  (¬ (i15=0) →
   (I64 (n+1)) ∧
   ∃ (r34:Int) (y35:reader) (g36:Nat) (z37:Bool),(zgo r_17 g18 z19 (n+1) r34 y35 g36 z37) ∧
   ∃ (r38:Int) (y39:reader) (g40:Nat) (z41:Bool),(zaN y35 g36 z37 (Node.mk i15 0 [] [] [i11,r34]) r38 y39 g40 z41) ∧
   ((n=2) →
    r38=r∧y39=r_'∧g40=r_'_g4∧z41=r_'_z4) ∧
   (¬ (n=2) →
    zcg n r9 r10 r38 y39 g40 z41 r r_' r_'_g4 r_'_z4)))):zbU n r9 r10 i11 i15 i16 r_17 g18 z19 r r_' r_'_g4 r_'_z4:=by
 intro S e f n0 t0 H0 h
 obtain⟨hb0,ha0⟩:=H0
 obtain⟨w0,hB0⟩:=zg hb0
 have hn0:=zc hB0
 unfold zpA
 rw[zm]
 have F:=zqi
 exact rp n0 t0 (aa ha0<|aa hB0<|aa hn0<|aa h<|F) T
theorem zfP (r_:reader) (r__g4:Nat) (r__z4:Bool) (n:Int) (r:Int) (r_':reader) (r_'_g4:Nat) (r_'_z4:Bool) (T :
  ((4 < n) →
  ∃ (r1:Int) (y2:reader) (g3:Nat) (z4:Bool),(zd8 r_ r__g4 r__z4 r1 y2 g3 z4) ∧
  r1=r∧y2=r_'∧g3=r_'_g4∧z4=r_'_z4) ∧
 (¬ (4 < n) →
  (I64 (n+1)) ∧
  ∃ (r5:Int) (y6:reader) (g7:Nat) (z8:Bool),(zgo r_ r__g4 r__z4 (n+1) r5 y6 g7 z8) ∧
  ∃ (r9:List (List UInt8)) (r10:List Int),(znS n r9 r10) ∧
  zcg n r9 r10 r5 y6 g7 z8 r r_' r_'_g4 r_'_z4)):zgo r_ r__g4 r__z4 n r r_' r_'_g4 r_'_z4:=by
 intro S n0 t0 H0
 obtain⟨hb0,ha0⟩:=H0
 obtain⟨w0,hB0⟩:=zg hb0
 have hn0:=zc hB0
 rw[zd zyY _ _ rfl]
 have F:=zqi
 exact rp n0 t0 (aa ha0<|aa hB0<|aa hn0<|F) T
theorem zwj:SP 126=some (.code sc_Q126):=ze rfl Tryz.func126 comp_Q126
theorem ziu (r_:reader) (r__g4:Nat) (r__z4:Bool) (r:Int) (r_':reader) (r_'_g4:Nat) (r_'_z4:Bool) (T :
  ∃ (r1:Bool) (y2:reader) (g3:Nat) (z4:Bool),(zbu r_ r__g4 r__z4 [45] r1 y2 g3 z4) ∧
 ((r1=true) →
  ∃ (r5:Bool) (y6:reader) (g7:Nat) (z8:Bool),(zbu y2 g3 z4 [33] r5 y6 g7 z8) ∧
  ((r5=true) →
   ∃ (y9:reader) (g10:Nat) (z11:Bool),(zdo y6 g7 z8 y9 g10 z11) ∧
   ((y9.e=0) →
    ∃ (r12:Int) (y13:reader) (g14:Nat) (z15:Bool),(zd8 y9 g10 z11 r12 y13 g14 z15) ∧
    (I64 (y13.deep - 1)) ∧
    ∃ (r16:Int) (y17:reader) (g18:Nat) (z19:Bool),(zaN (reader.mk y13.l y13.i (y13.deep - 1) y13.e y13.out) g14 z15 (Node.mk 8 0 [] [] [r12]) r16 y17 g18 z19) ∧
    r16=r∧y17=r_'∧g18=r_'_g4∧z19=r_'_z4) ∧
   (¬ (y9.e=0) →
    0=r∧y9=r_'∧g10=r_'_g4∧z11=r_'_z4)) ∧
  (¬ (r5=true) →
   ∃ (y20:reader) (g21:Nat) (z22:Bool),(zdo y6 g7 z8 y20 g21 z22) ∧
   ((y20.e=0) →
    ∃ (r23:Int) (y24:reader) (g25:Nat) (z26:Bool),(zd8 y20 g21 z22 r23 y24 g25 z26) ∧
    (I64 (y24.deep - 1)) ∧
    ∃ (r27:Int) (y28:reader) (g29:Nat) (z30:Bool),(zaN (reader.mk y24.l y24.i (y24.deep - 1) y24.e y24.out) g25 z26 (Node.mk 9 0 [] [] [r23]) r27 y28 g29 z30) ∧
    r27=r∧y28=r_'∧g29=r_'_g4∧z30=r_'_z4) ∧
   (¬ (y20.e=0) →
    0=r∧y20=r_'∧g21=r_'_g4∧z22=r_'_z4))) ∧
 (¬ (r1=true) →
  ∃ (r31:Bool) (y32:reader) (g33:Nat) (z34:Bool),(zbu y2 g3 z4 [33] r31 y32 g33 z34) ∧
  ((r31=true) →
   ∃ (y35:reader) (g36:Nat) (z37:Bool),(zdo y32 g33 z34 y35 g36 z37) ∧
   ((y35.e=0) →
    ∃ (r38:Int) (y39:reader) (g40:Nat) (z41:Bool),(zd8 y35 g36 z37 r38 y39 g40 z41) ∧
    (I64 (y39.deep - 1)) ∧
    ∃ (r42:Int) (y43:reader) (g44:Nat) (z45:Bool),(zaN (reader.mk y39.l y39.i (y39.deep - 1) y39.e y39.out) g40 z41 (Node.mk 8 0 [] [] [r38]) r42 y43 g44 z45) ∧
    r42=r∧y43=r_'∧g44=r_'_g4∧z45=r_'_z4) ∧
   (¬ (y35.e=0) →
    0=r∧y35=r_'∧g36=r_'_g4∧z37=r_'_z4)) ∧
  (¬ (r31=true) →
   ∃ (r46:Int) (y47:reader) (g48:Nat) (z49:Bool),(ziv y32 g33 z34 r46 y47 g48 z49) ∧
   r46=r∧y47=r_'∧g48=r_'_g4∧z49=r_'_z4))):zd8 r_ r__g4 r__z4 r r_' r_'_g4 r_'_z4:=by
 intro S n0 t0 H0
 obtain⟨hb0,ha0⟩:=H0
 obtain⟨w0,hB0⟩:=zg hb0
 have hn0:=zc hB0
 rw[zd zwj _ _ rfl]
 have F:=zyh
 exact rp n0 t0 (aa ha0<|aa hB0<|aa hn0<|F) T
theorem zwi:SP 155=some (.code sc_Q155):=ze rfl Tryz.func155 comp_Q155
def zdR (i5:Int) (r_6:reader) (g7:Nat) (z8:Bool) (r:Int) (r_':reader) (r_'_g4:Nat) (r_'_z4:Bool):Prop:=∀ (S:Sto) (e:Nat→PV) (f:Fr) (n0 t0:Nat),((getBox S n0 t0).map (List.take 5)=some [.list 5 (r_6.l.map eToken) false,.int .i64 r_6.i,.int .i64 r_6.deep,.int .i64 r_6.e,.sl 0 (.cell t0 4) 0 r_6.out.length r_6.out.length g7 false]∧getArr S n0 (.cell t0 4)=some ⟨5,r_6.out.map eNode,z8,g7⟩)→e 0=.ptr (n0+1) t0 0∧e 3=.int .i64 i5→zok SP (E SP (.loop b_Q155_1) ⟨e,f::S⟩)=.ok (.v (.int .i64 r)) (setArr (setBox S n0 t0 ([.list 5 (r_'.l.map eToken) false,.int .i64 r_'.i,.int .i64 r_'.deep,.int .i64 r_'.e,.sl 0 (.cell t0 4) 0 r_'.out.length r_'.out.length r_'_g4 false]++((getBox S n0 t0).getD []).drop 5)) n0 (.cell t0 4) ⟨5,r_'.out.map eNode,r_'_z4,r_'_g4⟩)
theorem zaE (i5:Int) (r_6:reader) (g7:Nat) (z8:Bool) (r:Int) (r_':reader) (r_'_g4:Nat) (r_'_z4:Bool) (T :
  ∃ (r9:Bool) (y10:reader) (g11:Nat) (z12:Bool),(zbu r_6 g7 z8 [91] r9 y10 g11 z12) ∧
 ((r9=true) →
  ∃ (y13:reader) (g14:Nat) (z15:Bool),(zdo y10 g11 z12 y13 g14 z15) ∧
  ((y13.e=0) →
   ∃ (r16:Int) (y17:reader) (g18:Nat) (z19:Bool),(zcH y13 g14 z15 r16 y17 g18 z19) ∧
   ∃ (y20:reader) (g21:Nat) (z22:Bool),(zaY y17 g18 z19 [93] y20 g21 z22) ∧
   (I64 (y20.deep - 1)) ∧
   ∃ (r23:Int) (y24:reader) (g25:Nat) (z26:Bool),(zaN (reader.mk y20.l y20.i (y20.deep - 1) y20.e y20.out) g21 z22 (Node.mk 7 0 [] [] [i5,r16]) r23 y24 g25 z26) ∧
   zdR r23 y24 g25 z26 r r_' r_'_g4 r_'_z4) ∧
  (¬ (y13.e=0) →
   0=r∧y13=r_'∧g14=r_'_g4∧z15=r_'_z4)) ∧
 (¬ (r9=true) →
  i5=r∧y10=r_'∧g11=r_'_g4∧z12=r_'_z4)):zdR i5 r_6 g7 z8 r r_' r_'_g4 r_'_z4:=by
 intro S e f n0 t0 H0 h
 obtain⟨hb0,ha0⟩:=H0
 obtain⟨w0,hB0⟩:=zg hb0
 have hn0:=zc hB0
 unfold zok
 rw[zm]
 have F:=zrG
 exact rp n0 t0 (aa ha0<|aa hB0<|aa hn0<|aa h<|F) T
theorem zif (r_:reader) (r__g4:Nat) (r__z4:Bool) (r:Int) (r_':reader) (r_'_g4:Nat) (r_'_z4:Bool) (T :
  ∃ (r1:Int) (y2:reader) (g3:Nat) (z4:Bool),(zcq r_ r__g4 r__z4 r1 y2 g3 z4) ∧
 zdR r1 y2 g3 z4 r r_' r_'_g4 r_'_z4):ziv r_ r__g4 r__z4 r r_' r_'_g4 r_'_z4:=by
 intro S n0 t0 H0
 obtain⟨hb0,ha0⟩:=H0
 obtain⟨w0,hB0⟩:=zg hb0
 have hn0:=zc hB0
 rw[zd zwi _ _ rfl]
 have F:=zrG
 exact rp n0 t0 (aa ha0<|aa hB0<|aa hn0<|F) T
theorem zwN:SP 195=some (.code sc_Q195):=ze rfl Tryz.func195 comp_Q195
def zbF (end_:List UInt8) (l11:List Int) (r_12:reader) (g13:Nat) (z14:Bool) (r:List Int) (r_':reader) (r_'_g4:Nat) (r_'_z4:Bool):Prop:=∀ (S:Sto) (e:Nat→PV) (f:Fr) (n0 t0:Nat),((getBox S n0 t0).map (List.take 5)=some [.list 5 (r_12.l.map eToken) false,.int .i64 r_12.i,.int .i64 r_12.deep,.int .i64 r_12.e,.sl 0 (.cell t0 4) 0 r_12.out.length r_12.out.length g13 false]∧getArr S n0 (.cell t0 4)=some ⟨5,r_12.out.map eNode,z14,g13⟩)→e 0=.ptr (n0+1) t0 0∧e 1=.str end_∧e 5=.sl 0 (.slot 5) 0 l11.length l11.length 0 false∧f.arr (.slot 5)=some ⟨1,l11.map eI,false,0⟩→znn SP (E SP (.loop b_Q195_1) ⟨e,f::S⟩)=.ok (.arr 1 (r.map eI) false) (setArr (setBox S n0 t0 ([.list 5 (r_'.l.map eToken) false,.int .i64 r_'.i,.int .i64 r_'.deep,.int .i64 r_'.e,.sl 0 (.cell t0 4) 0 r_'.out.length r_'.out.length r_'_g4 false]++((getBox S n0 t0).getD []).drop 5)) n0 (.cell t0 4) ⟨5,r_'.out.map eNode,r_'_z4,r_'_g4⟩)
theorem zc3 (end_:List UInt8) (l11:List Int) (r_12:reader) (g13:Nat) (z14:Bool) (r:List Int) (r_':reader) (r_'_g4:Nat) (r_'_z4:Bool) (T :
  ((r_12.e=0) →
  ∃ (r18:Int) (y19:reader) (g20:Nat) (z21:Bool),(zcH r_12 g13 z14 r18 y19 g20 z21) ∧
  (bigRow (l11.length+1) 8) ∧
  ∃ (r22:Bool) (y23:reader) (g24:Nat) (z25:Bool),(zbu y19 g20 z21 [44] r22 y23 g24 z25) ∧
  ((r22=true) →
   (I64 (y23.i+1)) ∧
   zbF end_ (l11++[r18]) (reader.mk y23.l (y23.i+1) y23.deep y23.e y23.out) g24 z25 r r_' r_'_g4 r_'_z4) ∧
  (¬ (r22=true) →
   ∃ (y26:reader) (g27:Nat) (z28:Bool),(zaY y23 g24 z25 end_ y26 g27 z28) ∧
   (I64 (y26.deep - 1)) ∧
   (l11++[r18])=r∧(reader.mk y26.l y26.i (y26.deep - 1) y26.e y26.out)=r_'∧g27=r_'_g4∧z28=r_'_z4)) ∧
 (¬ (r_12.e=0) →
  ∃ (y29:reader) (g30:Nat) (z31:Bool),(zaY r_12 g13 z14 end_ y29 g30 z31) ∧
  (I64 (y29.deep - 1)) ∧
  l11=r∧(reader.mk y29.l y29.i (y29.deep - 1) y29.e y29.out)=r_'∧g30=r_'_g4∧z31=r_'_z4)):zbF end_ l11 r_12 g13 z14 r r_' r_'_g4 r_'_z4:=by
 intro S e f n0 t0 H0 h
 obtain⟨hb0,ha0⟩:=H0
 obtain⟨w0,hB0⟩:=zg hb0
 have hn0:=zc hB0
 unfold znn
 rw[zm]
 have F:=ztb
 exact rp n0 t0 (aa ha0<|aa hB0<|aa hn0<|aa h<|F) T
theorem zh3 (r_:reader) (r__g4:Nat) (r__z4:Bool) (end_:List UInt8) (r:List Int) (r_':reader) (r_'_g4:Nat) (r_'_z4:Bool) (T :
  ∃ (y1:reader) (g2:Nat) (z3:Bool),(zdo r_ r__g4 r__z4 y1 g2 z3) ∧
 ((y1.e=0) →
  ∃ (r4:Bool) (y5:reader) (g6:Nat) (z7:Bool),(zbu y1 g2 z3 end_ r4 y5 g6 z7) ∧
  ((r4=true) →
   ∃ (y8:reader) (g9:Nat) (z10:Bool),(zaY y5 g6 z7 end_ y8 g9 z10) ∧
   (I64 (y8.deep - 1)) ∧
   []=r∧(reader.mk y8.l y8.i (y8.deep - 1) y8.e y8.out)=r_'∧g9=r_'_g4∧z10=r_'_z4) ∧
  (¬ (r4=true) →
   zbF end_ [] y5 g6 z7 r r_' r_'_g4 r_'_z4)) ∧
 (¬ (y1.e=0) →
  ∃ (y15:reader) (g16:Nat) (z17:Bool),(zaY y1 g2 z3 end_ y15 g16 z17) ∧
  (I64 (y15.deep - 1)) ∧
  []=r∧(reader.mk y15.l y15.i (y15.deep - 1) y15.e y15.out)=r_'∧g16=r_'_g4∧z17=r_'_z4)):zdW r_ r__g4 r__z4 end_ r r_' r_'_g4 r_'_z4:=by
 intro S n0 t0 H0
 obtain⟨hb0,ha0⟩:=H0
 obtain⟨w0,hB0⟩:=zg hb0
 have hn0:=zc hB0
 rw[zd zwN _ _ rfl]
 have F:=ztb
 exact rp n0 t0 (aa ha0<|aa hB0<|aa hn0<|F) T
theorem zxl:SP 174=some (.code sc_Q174):=ze rfl Tryz.func174 comp_Q174
theorem zdM (r_:reader) (r__g4:Nat) (r__z4:Bool) (r:Int) (r_':reader) (r_'_g4:Nat) (r_'_z4:Bool) (T :
  ((r_.e=0) →
  (0≤r_.i) ∧
  ∃ (v1:Token),(r_.l[r_.i.toNat]?=some v1) ∧
  ((v1.Kind=1) →
   (I64 (r_.i+1)) ∧
   ∃ (r2:Int) (y3:reader) (g4:Nat) (z5:Bool),(zaN (reader.mk r_.l (r_.i+1) r_.deep r_.e r_.out) r__g4 r__z4 (Node.mk 1 v1.Num [] [] []) r2 y3 g4 z5) ∧
   r2=r∧y3=r_'∧g4=r_'_g4∧z5=r_'_z4) ∧
  (¬ (v1.Kind=1) →
   ((v1.Kind=2) →
    (I64 (r_.i+1)) ∧
    ∃ (r6:Int) (y7:reader) (g8:Nat) (z9:Bool),(zaN (reader.mk r_.l (r_.i+1) r_.deep r_.e r_.out) r__g4 r__z4 (Node.mk 2 0 [] v1.Parts []) r6 y7 g8 z9) ∧
    r6=r∧y7=r_'∧g8=r_'_g4∧z9=r_'_z4) ∧
   (¬ (v1.Kind=2) →
    ((v1.Kind=3) →
     (I64 (r_.i+1)) ∧
     ∃ (r10:Int) (y11:reader) (g12:Nat) (z13:Bool),(zna (reader.mk r_.l (r_.i+1) r_.deep r_.e r_.out) r__g4 r__z4 v1.Text r10 y11 g12 z13) ∧
     r10=r∧y11=r_'∧g12=r_'_g4∧z13=r_'_z4) ∧
    (¬ (v1.Kind=3) →
     ∃ (r14:Bool) (y15:reader) (g16:Nat) (z17:Bool),(zbu r_ r__g4 r__z4 [91] r14 y15 g16 z17) ∧
     ((r14=true) →
      ∃ (r18:List Int) (y19:reader) (g20:Nat) (z21:Bool),(zdW y15 g16 z17 [93] r18 y19 g20 z21) ∧
      ∃ (r22:Int) (y23:reader) (g24:Nat) (z25:Bool),(zaN y19 g20 z21 (Node.mk 6 0 [] [] r18) r22 y23 g24 z25) ∧
      r22=r∧y23=r_'∧g24=r_'_g4∧z25=r_'_z4) ∧
     (¬ (r14=true) →
      ∃ (r26:Bool) (y27:reader) (g28:Nat) (z29:Bool),(zbu y15 g16 z17 [40] r26 y27 g28 z29) ∧
      ((r26=true) →
       ∃ (y30:reader) (g31:Nat) (z32:Bool),(zdo y27 g28 z29 y30 g31 z32) ∧
       ((y30.e=0) →
        ∃ (r33:Int) (y34:reader) (g35:Nat) (z36:Bool),(zcH y30 g31 z32 r33 y34 g35 z36) ∧
        ∃ (y37:reader) (g38:Nat) (z39:Bool),(zaY y34 g35 z36 [41] y37 g38 z39) ∧
        (I64 (y37.deep - 1)) ∧
        r33=r∧(reader.mk y37.l y37.i (y37.deep - 1) y37.e y37.out)=r_'∧g38=r_'_g4∧z39=r_'_z4) ∧
       (¬ (y30.e=0) →
        0=r∧y30=r_'∧g31=r_'_g4∧z32=r_'_z4)) ∧
      (¬ (r26=true) →
       ∃ (y40:reader) (g41:Nat) (z42:Bool),(zaF y27 g28 z29 5 y40 g41 z42) ∧
       0=r∧y40=r_'∧g41=r_'_g4∧z42=r_'_z4)))))) ∧
 (¬ (r_.e=0) →
  0=r∧r_=r_'∧r__g4=r_'_g4∧r__z4=r_'_z4)):zcq r_ r__g4 r__z4 r r_' r_'_g4 r_'_z4:=by
 intro S n0 t0 H0
 obtain⟨hb0,ha0⟩:=H0
 obtain⟨w0,hB0⟩:=zg hb0
 have hn0:=zc hB0
 rw[zd zxl _ _ rfl]
 have F:=zzu
 exact rp n0 t0 (aa ha0<|aa hB0<|aa hn0<|F) T
theorem zwF:SP 194=some (.code sc_Q194):=ze rfl Tryz.func194 comp_Q194
theorem ze6 (r_:reader) (r__g4:Nat) (r__z4:Bool) (s:List UInt8) (r:Int) (r_':reader) (r_'_g4:Nat) (r_'_z4:Bool) (T :
  ((s=[116,114,117,101]) →
  ∃ (r1:Int) (y2:reader) (g3:Nat) (z4:Bool),(zaN r_ r__g4 r__z4 (Node.mk 3 1 [] [] []) r1 y2 g3 z4) ∧
  r1=r∧y2=r_'∧g3=r_'_g4∧z4=r_'_z4) ∧
 (¬ (s=[116,114,117,101]) →
  ((s=[102,97,108,115,101]) →
   ∃ (r5:Int) (y6:reader) (g7:Nat) (z8:Bool),(zaN r_ r__g4 r__z4 (Node.mk 3 0 [] [] []) r5 y6 g7 z8) ∧
   r5=r∧y6=r_'∧g7=r_'_g4∧z8=r_'_z4) ∧
  (¬ (s=[102,97,108,115,101]) →
   ∃ (r9:Bool) (y10:reader) (g11:Nat) (z12:Bool),(zbu r_ r__g4 r__z4 [40] r9 y10 g11 z12) ∧
   ((r9=true) →
    ∃ (r13:List Int) (y14:reader) (g15:Nat) (z16:Bool),(zdW y10 g11 z12 [41] r13 y14 g15 z16) ∧
    ∃ (r17:Int) (y18:reader) (g19:Nat) (z20:Bool),(zaN y14 g15 z16 (Node.mk 5 0 s [] r13) r17 y18 g19 z20) ∧
    r17=r∧y18=r_'∧g19=r_'_g4∧z20=r_'_z4) ∧
   (¬ (r9=true) →
    ∃ (r21:Bool) (y22:reader) (g23:Nat) (z24:Bool),(zbu y10 g11 z12 [46] r21 y22 g23 z24) ∧
    ((r21=true) →
     (I64 (y22.i+1)) ∧
     (0≤(y22.i+1)) ∧
     ∃ (v25:Token),(y22.l[(y22.i+1).toNat]?=some v25) ∧
     ((v25.Kind=3) →
      (I64 ((y22.i+1)+1)) ∧
      (s.length+1≤zaO) ∧
      (I64 (((y22.i+1)+1) - 1)) ∧
      (0≤(((y22.i+1)+1) - 1)) ∧
      ∃ (v26:Token),(y22.l[(((y22.i+1)+1) - 1).toNat]?=some v26) ∧
      (s.length+1+v26.Text.length≤zaO) ∧
      ∃ (r27:Int) (y28:reader) (g29:Nat) (z30:Bool),(zaN (reader.mk y22.l ((y22.i+1)+1) y22.deep y22.e y22.out) g23 z24 (Node.mk 4 0 ((s++[46])++v26.Text) [] []) r27 y28 g29 z30) ∧
      r27=r∧y28=r_'∧g29=r_'_g4∧z30=r_'_z4) ∧
     (¬ (v25.Kind=3) →
      ∃ (y31:reader) (g32:Nat) (z33:Bool),(zaF (reader.mk y22.l (y22.i+1) y22.deep y22.e y22.out) g23 z24 5 y31 g32 z33) ∧
      0=r∧y31=r_'∧g32=r_'_g4∧z33=r_'_z4)) ∧
    (¬ (r21=true) →
     ∃ (y34:reader) (g35:Nat) (z36:Bool),(zaF y22 g23 z24 5 y34 g35 z36) ∧
     0=r∧y34=r_'∧g35=r_'_g4∧z36=r_'_z4))))):zna r_ r__g4 r__z4 s r r_' r_'_g4 r_'_z4:=by
 intro S n0 t0 H0
 obtain⟨hb0,ha0⟩:=H0
 obtain⟨w0,hB0⟩:=zg hb0
 have hn0:=zc hB0
 rw[zd zwF _ _ rfl]
 have F:=zxQ
 exact rp n0 t0 (aa ha0<|aa hB0<|aa hn0<|F) T
theorem zyp:SP 90=some (.code sc_Q90):=ze rfl Tryz.func90 comp_Q90
def zbQ (l4:List Attr) (r_5:reader) (g6:Nat) (z7:Bool) (r:List Attr) (r_':reader) (r_'_g4:Nat) (r_'_z4:Bool):Prop:=∀ (S:Sto) (e:Nat→PV) (f:Fr) (n0 t0:Nat),((getBox S n0 t0).map (List.take 5)=some [.list 5 (r_5.l.map eToken) false,.int .i64 r_5.i,.int .i64 r_5.deep,.int .i64 r_5.e,.sl 0 (.cell t0 4) 0 r_5.out.length r_5.out.length g6 false]∧getArr S n0 (.cell t0 4)=some ⟨5,r_5.out.map eNode,z7,g6⟩)→e 0=.ptr (n0+1) t0 0∧e 3=.sl 0 (.slot 3) 0 l4.length l4.length 0 false∧f.arr (.slot 3)=some ⟨2,l4.map eAttr,false,0⟩→zo9 SP (E SP (.loop b_Q90_1) ⟨e,f::S⟩)=.ok (.arr 2 (r.map eAttr) false) (setArr (setBox S n0 t0 ([.list 5 (r_'.l.map eToken) false,.int .i64 r_'.i,.int .i64 r_'.deep,.int .i64 r_'.e,.sl 0 (.cell t0 4) 0 r_'.out.length r_'.out.length r_'_g4 false]++((getBox S n0 t0).getD []).drop 5)) n0 (.cell t0 4) ⟨5,r_'.out.map eNode,r_'_z4,r_'_g4⟩)
def zbo (l4:List Attr) (v15:Token) (i16:Int) (r_17:reader) (g18:Nat) (z19:Bool) (r:List Attr) (r_':reader) (r_'_g4:Nat) (r_'_z4:Bool):Prop:=∀ (S:Sto) (e:Nat→PV) (f:Fr) (n0 t0:Nat),((getBox S n0 t0).map (List.take 5)=some [.list 5 (r_17.l.map eToken) false,.int .i64 r_17.i,.int .i64 r_17.deep,.int .i64 r_17.e,.sl 0 (.cell t0 4) 0 r_17.out.length r_17.out.length g18 false]∧getArr S n0 (.cell t0 4)=some ⟨5,r_17.out.map eNode,z19,g18⟩)→e 0=.ptr (n0+1) t0 0∧e 3=.sl 0 (.slot 3) 0 l4.length l4.length 0 false∧e 4=.ptr 0 4 0∧e 5=.int .i64 i16∧f.box 4=some [.int .i64 v15.Kind,.str v15.Text,.int .i64 v15.Num,.list 2 (v15.Parts.map ePart) false,.int .i64 v15.At]∧f.arr (.slot 3)=some ⟨2,l4.map eAttr,false,0⟩→zo8 SP (E SP (.loop b_Q90_2) ⟨e,f::S⟩)=.ok (.arr 2 (r.map eAttr) false) (setArr (setBox S n0 t0 ([.list 5 (r_'.l.map eToken) false,.int .i64 r_'.i,.int .i64 r_'.deep,.int .i64 r_'.e,.sl 0 (.cell t0 4) 0 r_'.out.length r_'.out.length r_'_g4 false]++((getBox S n0 t0).getD []).drop 5)) n0 (.cell t0 4) ⟨5,r_'.out.map eNode,r_'_z4,r_'_g4⟩)
theorem zdw (l4:List Attr) (r_5:reader) (g6:Nat) (z7:Bool) (r:List Attr) (r_':reader) (r_'_g4:Nat) (r_'_z4:Bool) (T :
  ((r_5.e=0) →
  ∃ (r8:Bool) (y9:reader) (g10:Nat) (z11:Bool),(zbu r_5 g6 z7 [125] r8 y9 g10 z11) ∧
  ((r8=true) →
   ∃ (y12:reader) (g13:Nat) (z14:Bool),(zaY y9 g10 z11 [125] y12 g13 z14) ∧
   l4=r∧y12=r_'∧g13=r_'_g4∧z14=r_'_z4) ∧
  (¬ (r8=true) →
   (0≤y9.i) ∧
   ∃ (v15:Token),(y9.l[y9.i.toNat]?=some v15) ∧
   ((v15.Kind=3) →
    zbo l4 v15 0 y9 g10 z11 r r_' r_'_g4 r_'_z4) ∧
   (¬ (v15.Kind=3) →
    ∃ (y20:reader) (g21:Nat) (z22:Bool),(zaF y9 g10 z11 5 y20 g21 z22) ∧
    ∃ (y23:reader) (g24:Nat) (z25:Bool),(zaY y20 g21 z22 [125] y23 g24 z25) ∧
    l4=r∧y23=r_'∧g24=r_'_g4∧z25=r_'_z4))) ∧
 (¬ (r_5.e=0) →
  ∃ (y26:reader) (g27:Nat) (z28:Bool),(zaY r_5 g6 z7 [125] y26 g27 z28) ∧
  l4=r∧y26=r_'∧g27=r_'_g4∧z28=r_'_z4)):zbQ l4 r_5 g6 z7 r r_' r_'_g4 r_'_z4:=by
 intro S e f n0 t0 H0 h
 obtain⟨hb0,ha0⟩:=H0
 obtain⟨w0,hB0⟩:=zg hb0
 have hn0:=zc hB0
 unfold zo9
 rw[zm]
 have F:=zqh
 exact rp n0 t0 (aa ha0<|aa hB0<|aa hn0<|aa h<|F) T
theorem zbA (l4:List Attr) (v15:Token) (i16:Int) (r_17:reader) (g18:Nat) (z19:Bool) (r:List Attr) (r_':reader) (r_'_g4:Nat) (r_'_z4:Bool) (T :
  ((i16 < (l4.length:Int)) →
  (0≤i16)∧(i16.toNat < l4.length) ∧
  ∃ (v29:Attr),(l4[i16.toNat]?=some v29) ∧
  ((v29.Name=v15.Text) →
   ∃ (y30:reader) (g31:Nat) (z32:Bool),(zaF r_17 g18 z19 3 y30 g31 z32) ∧
   (I64 (i16+1)) ∧
   zbo l4 v15 (i16+1) y30 g31 z32 r r_' r_'_g4 r_'_z4) ∧
  (¬ (v29.Name=v15.Text) →
   (I64 (i16+1)) ∧
   zbo l4 v15 (i16+1) r_17 g18 z19 r r_' r_'_g4 r_'_z4)) ∧
 (¬ (i16 < (l4.length:Int)) →
  (I64 (r_17.i+1)) ∧
  ∃ (y33:reader) (g34:Nat) (z35:Bool),(zaY (reader.mk r_17.l (r_17.i+1) r_17.deep r_17.e r_17.out) g18 z19 [61] y33 g34 z35) ∧
  ((y33.e=0) →
   ∃ (r36:Int) (y37:reader) (g38:Nat) (z39:Bool),(zcH (reader.mk y33.l y33.i y33.deep y33.e []) (g34+1) false r36 y37 g38 z39) ∧
   (bigRow (l4.length+1) 40) ∧
   zbQ (l4++[(Attr.mk v15.Text y37.out)]) y37 g38 true r r_' r_'_g4 r_'_z4) ∧
  (¬ (y33.e=0) →
   (bigRow (l4.length+1) 40) ∧
   zbQ (l4++[(Attr.mk v15.Text [])]) (reader.mk y33.l y33.i y33.deep y33.e []) (g34+1) true r r_' r_'_g4 r_'_z4))):zbo l4 v15 i16 r_17 g18 z19 r r_' r_'_g4 r_'_z4:=by
 intro S e f n0 t0 H0 h
 obtain⟨hb0,ha0⟩:=H0
 obtain⟨w0,hB0⟩:=zg hb0
 have hn0:=zc hB0
 unfold zo8
 rw[zm]
 have F:=zqh
 exact rp n0 t0 (aa ha0<|aa hB0<|aa hn0<|aa h<|F) T
theorem zhE (r_:reader) (r__g4:Nat) (r__z4:Bool) (r:List Attr) (r_':reader) (r_'_g4:Nat) (r_'_z4:Bool) (T :
  ∃ (y1:reader) (g2:Nat) (z3:Bool),(zaY r_ r__g4 r__z4 [123] y1 g2 z3) ∧
 zbQ [] y1 g2 z3 r r_' r_'_g4 r_'_z4):zd4 r_ r__g4 r__z4 r r_' r_'_g4 r_'_z4:=by
 intro S n0 t0 H0
 obtain⟨hb0,ha0⟩:=H0
 obtain⟨w0,hB0⟩:=zg hb0
 have hn0:=zc hB0
 rw[zd zyp _ _ rfl]
 have F:=zqh
 exact rp n0 t0 (aa ha0<|aa hB0<|aa hn0<|F) T
theorem zyP:SP 88=some (.code sc_Q88):=ze rfl Tryz.func88 comp_Q88
theorem znT (r_:reader) (r__g4:Nat) (r__z4:Bool) (r:List UInt8) (r_':reader) (r_'_g4:Nat) (r_'_z4:Bool) (T :
  ((r_.e=0) →
  (0≤r_.i) ∧
  ∃ (v1:Token),(r_.l[r_.i.toNat]?=some v1) ∧
  ((v1.Kind=2) →
   (((v1.Parts.length:Int)=1) →
    ∃ (v2:Part),(v1.Parts[0]?=some v2) ∧
    ((v2.Ref=true) →
     ∃ (y3:reader) (g4:Nat) (z5:Bool),(zaF r_ r__g4 r__z4 5 y3 g4 z5) ∧
     []=r∧y3=r_'∧g4=r_'_g4∧z5=r_'_z4) ∧
    (¬ (v2.Ref=true) →
     ∃ (r6:Bool),(zkX v2.Text r6) ∧
     ((r6=true) →
      (I64 (r_.i+1)) ∧
      v2.Text=r∧(reader.mk r_.l (r_.i+1) r_.deep r_.e r_.out)=r_'∧r__g4=r_'_g4∧r__z4=r_'_z4) ∧
     (¬ (r6=true) →
      ∃ (y7:reader) (g8:Nat) (z9:Bool),(zaF r_ r__g4 r__z4 5 y7 g8 z9) ∧
      []=r∧y7=r_'∧g8=r_'_g4∧z9=r_'_z4))) ∧
   (¬ ((v1.Parts.length:Int)=1) →
    ∃ (y10:reader) (g11:Nat) (z12:Bool),(zaF r_ r__g4 r__z4 5 y10 g11 z12) ∧
    []=r∧y10=r_'∧g11=r_'_g4∧z12=r_'_z4)) ∧
  (¬ (v1.Kind=2) →
   ∃ (y13:reader) (g14:Nat) (z15:Bool),(zaF r_ r__g4 r__z4 5 y13 g14 z15) ∧
   []=r∧y13=r_'∧g14=r_'_g4∧z15=r_'_z4)) ∧
 (¬ (r_.e=0) →
  []=r∧r_=r_'∧r__g4=r_'_g4∧r__z4=r_'_z4)):zez r_ r__g4 r__z4 r r_' r_'_g4 r_'_z4:=by
 intro S n0 t0 H0
 obtain⟨hb0,ha0⟩:=H0
 obtain⟨w0,hB0⟩:=zg hb0
 have hn0:=zc hB0
 rw[zd zyP _ _ rfl]
 have F:=zAW
 exact rp n0 t0 (aa ha0<|aa hB0<|aa hn0<|F) T
theorem zzC:SP 87=some (.code sc_Q87):=ze rfl Tryz.func87 comp_Q87
theorem ztq (s:List UInt8) (r:Int) (T :
  ((s=[118,97,114,105,97,98,108,101]) →
  1=r) ∧
 (¬ (s=[118,97,114,105,97,98,108,101]) →
  ((s=[108,111,99,97,108,115]) →
   2=r) ∧
  (¬ (s=[108,111,99,97,108,115]) →
   ((s=[110,111,100,101]) →
    3=r) ∧
   (¬ (s=[110,111,100,101]) →
    ((s=[109,111,100,117,108,101]) →
     4=r) ∧
    (¬ (s=[109,111,100,117,108,101]) →
     ((s=[100,101,102,105,110,101]) →
      5=r) ∧
     (¬ (s=[100,101,102,105,110,101]) →
      0=r)))))):zi5 s r:=by
 intro S
 rw[zd zzC _ _ rfl]
 have F:=zAk
 exact rn F T
theorem zyS:SP 55=some (.code sc_Q55):=ze rfl Tryz.func55 comp_Q55
def zax (within:Bool) (l1:List Block) (r_2:reader) (g3:Nat) (z4:Bool) (r:List Block) (r_':reader) (r_'_g4:Nat) (r_'_z4:Bool):Prop:=∀ (S:Sto) (e:Nat→PV) (f:Fr) (n0 t0:Nat),((getBox S n0 t0).map (List.take 5)=some [.list 5 (r_2.l.map eToken) false,.int .i64 r_2.i,.int .i64 r_2.deep,.int .i64 r_2.e,.sl 0 (.cell t0 4) 0 r_2.out.length r_2.out.length g3 false]∧getArr S n0 (.cell t0 4)=some ⟨5,r_2.out.map eNode,z4,g3⟩)→e 0=.ptr (n0+1) t0 0∧e 1=.bool within∧e 5=.sl 0 (.slot 5) 0 l1.length l1.length 0 false∧f.arr (.slot 5)=some ⟨4,l1.map zF,false,0⟩→zpc SP (E SP (.loop b_Q55_1) ⟨e,f::S⟩)=.ok (.arr 4 (r.map zF) false) (setArr (setBox S n0 t0 ([.list 5 (r_'.l.map eToken) false,.int .i64 r_'.i,.int .i64 r_'.deep,.int .i64 r_'.e,.sl 0 (.cell t0 4) 0 r_'.out.length r_'.out.length r_'_g4 false]++((getBox S n0 t0).getD []).drop 5)) n0 (.cell t0 4) ⟨5,r_'.out.map eNode,r_'_z4,r_'_g4⟩)
theorem zan (within:Bool) (l1:List Block) (r_2:reader) (g3:Nat) (z4:Bool) (r:List Block) (r_':reader) (r_'_g4:Nat) (r_'_z4:Bool) (T :
  ((r_2.e=0) →
  ((within=true) →
   ∃ (r5:Bool) (y6:reader) (g7:Nat) (z8:Bool),(zbu r_2 g3 z4 [125] r5 y6 g7 z8) ∧
   ((r5=true) →
    l1=r∧y6=r_'∧g7=r_'_g4∧z8=r_'_z4) ∧
   (¬ (r5=true) →
    (0≤y6.i) ∧
    ∃ (v9:Token),(y6.l[y6.i.toNat]?=some v9) ∧
    ((v9.Kind=3) →
     ∃ (r10:Int),(zi5 v9.Text r10) ∧
     ((r10=0) →
      ∃ (y11:reader) (g12:Nat) (z13:Bool),(zaF y6 g7 z8 5 y11 g12 z13) ∧
      l1=r∧y11=r_'∧g12=r_'_g4∧z13=r_'_z4) ∧
     (¬ (r10=0) →
      ((r10=5) →
       ∃ (y14:reader) (g15:Nat) (z16:Bool),(zaF y6 g7 z8 5 y14 g15 z16) ∧
       l1=r∧y14=r_'∧g15=r_'_g4∧z16=r_'_z4) ∧
      (¬ (r10=5) →
       (I64 (y6.i+1)) ∧
       ((r10=2) →
        ∃ (r17:List Attr) (y18:reader) (g19:Nat) (z20:Bool),(zd4 (reader.mk y6.l (y6.i+1) y6.deep y6.e y6.out) g7 z8 r17 y18 g19 z20) ∧
        (bigRow (l1.length+1) 72) ∧
        zax within (l1++[(Block.mk r10 [] r17 [])]) y18 g19 z20 r r_' r_'_g4 r_'_z4) ∧
       (¬ (r10=2) →
        ∃ (r21:List UInt8) (y22:reader) (g23:Nat) (z24:Bool),(zez (reader.mk y6.l (y6.i+1) y6.deep y6.e y6.out) g7 z8 r21 y22 g23 z24) ∧
        ∃ (r25:List Attr) (y26:reader) (g27:Nat) (z28:Bool),(zd4 y22 g23 z24 r25 y26 g27 z28) ∧
        (bigRow (l1.length+1) 72) ∧
        zax within (l1++[(Block.mk r10 r21 r25 [])]) y26 g27 z28 r r_' r_'_g4 r_'_z4)))) ∧
    (¬ (v9.Kind=3) →
     ∃ (y29:reader) (g30:Nat) (z31:Bool),(zaF y6 g7 z8 5 y29 g30 z31) ∧
     l1=r∧y29=r_'∧g30=r_'_g4∧z31=r_'_z4))) ∧
  (¬ (within=true) →
   (0≤r_2.i) ∧
   ∃ (v32:Token),(r_2.l[r_2.i.toNat]?=some v32) ∧
   ((v32.Kind=0) →
    l1=r∧r_2=r_'∧g3=r_'_g4∧z4=r_'_z4) ∧
   (¬ (v32.Kind=0) →
    ((v32.Kind=3) →
     ∃ (r33:Int),(zi5 v32.Text r33) ∧
     ((r33=0) →
      ∃ (y34:reader) (g35:Nat) (z36:Bool),(zaF r_2 g3 z4 5 y34 g35 z36) ∧
      l1=r∧y34=r_'∧g35=r_'_g4∧z36=r_'_z4) ∧
     (¬ (r33=0) →
      (I64 (r_2.i+1)) ∧
      ((r33=2) →
       ∃ (r37:List Attr) (y38:reader) (g39:Nat) (z40:Bool),(zd4 (reader.mk r_2.l (r_2.i+1) r_2.deep r_2.e r_2.out) g3 z4 r37 y38 g39 z40) ∧
       (bigRow (l1.length+1) 72) ∧
       zax within (l1++[(Block.mk r33 [] r37 [])]) y38 g39 z40 r r_' r_'_g4 r_'_z4) ∧
      (¬ (r33=2) →
       ∃ (r41:List UInt8) (y42:reader) (g43:Nat) (z44:Bool),(zez (reader.mk r_2.l (r_2.i+1) r_2.deep r_2.e r_2.out) g3 z4 r41 y42 g43 z44) ∧
       ((r33=5) →
        ∃ (y45:reader) (g46:Nat) (z47:Bool),(zaY y42 g43 z44 [123] y45 g46 z47) ∧
        ∃ (r48:List Block) (y49:reader) (g50:Nat) (z51:Bool),(zmM y45 g46 z47 true r48 y49 g50 z51) ∧
        ∃ (y52:reader) (g53:Nat) (z54:Bool),(zaY y49 g50 z51 [125] y52 g53 z54) ∧
        (bigRow (l1.length+1) 72) ∧
        zax within (l1++[(Block.mk r33 r41 [] r48)]) y52 g53 z54 r r_' r_'_g4 r_'_z4) ∧
       (¬ (r33=5) →
        ∃ (r55:List Attr) (y56:reader) (g57:Nat) (z58:Bool),(zd4 y42 g43 z44 r55 y56 g57 z58) ∧
        (bigRow (l1.length+1) 72) ∧
        zax within (l1++[(Block.mk r33 r41 r55 [])]) y56 g57 z58 r r_' r_'_g4 r_'_z4)))) ∧
    (¬ (v32.Kind=3) →
     ∃ (y59:reader) (g60:Nat) (z61:Bool),(zaF r_2 g3 z4 5 y59 g60 z61) ∧
     l1=r∧y59=r_'∧g60=r_'_g4∧z61=r_'_z4)))) ∧
 (¬ (r_2.e=0) →
  l1=r∧r_2=r_'∧g3=r_'_g4∧z4=r_'_z4)):zax within l1 r_2 g3 z4 r r_' r_'_g4 r_'_z4:=by
 intro S e f n0 t0 H0 h
 obtain⟨hb0,ha0⟩:=H0
 obtain⟨w0,hB0⟩:=zg hb0
 have hn0:=zc hB0
 unfold zpc
 rw[zm]
 have F:=zvj
 exact rp n0 t0 (aa ha0<|aa hB0<|aa hn0<|aa h<|F) T
theorem zep (r_:reader) (r__g4:Nat) (r__z4:Bool) (within:Bool) (r:List Block) (r_':reader) (r_'_g4:Nat) (r_'_z4:Bool) (T :
  zax within [] r_ r__g4 r__z4 r r_' r_'_g4 r_'_z4):zmM r_ r__g4 r__z4 within r r_' r_'_g4 r_'_z4:=by
 intro S n0 t0 H0
 obtain⟨hb0,ha0⟩:=H0
 obtain⟨w0,hB0⟩:=zg hb0
 have hn0:=zc hB0
 rw[zd zyS _ _ rfl]
 have F:=zvj
 exact rp n0 t0 (aa ha0<|aa hB0<|aa hn0<|F) T
theorem zyy:SP 32=some (.code sc_Q32):=ze rfl Tryz.func32 comp_Q32
theorem zg6 (s:List UInt8) (r:Parsed) (T :
  ∃ (r1:Tokens),(zf3 s r1) ∧
 ((r1.E=0) →
  ∃ (r2:List Block) (y3:reader) (g4:Nat) (z5:Bool),(zmM (reader.mk r1.L 0 0 0 []) 0 false false r2 y3 g4 z5) ∧
  ((y3.e=0) →
   (Parsed.mk r2 0)=r) ∧
  (¬ (y3.e=0) →
   (Parsed.mk [] y3.e)=r)) ∧
 (¬ (r1.E=0) →
  (Parsed.mk [] r1.E)=r)):zf7 s r:=by
 intro S
 rw[zd zyy _ _ rfl]
 have F:=zAR
 exact rn F T
theorem zyf:SP 33=some (.code sc_Q33):=ze rfl Tryz.func33 comp_Q33
theorem zfH (s:List UInt8) (r:Read) (T :
  ∃ (r1:Tokens),(zf3 s r1) ∧
 ((r1.E=0) →
  ∃ (r2:Int) (y3:reader) (g4:Nat) (z5:Bool),(zcH (reader.mk r1.L 0 0 0 []) 0 false r2 y3 g4 z5) ∧
  ((y3.e=0) →
   (0≤y3.i) ∧
   ∃ (v6:Token),(y3.l[y3.i.toNat]?=some v6) ∧
   ((v6.Kind=0) →
    (Read.mk y3.out 0)=r) ∧
   (¬ (v6.Kind=0) →
    ∃ (y7:reader) (g8:Nat) (z9:Bool),(zaF y3 g4 z5 5 y7 g8 z9) ∧
    ((y7.e=0) →
     (Read.mk y7.out 0)=r) ∧
    (¬ (y7.e=0) →
     (Read.mk [] y7.e)=r))) ∧
  (¬ (y3.e=0) →
   (Read.mk [] y3.e)=r)) ∧
 (¬ (r1.E=0) →
  (Read.mk [] r1.E)=r)):zgn s r:=by
 intro S
 rw[zd zyf _ _ rfl]
 have F:=zz1
 exact rn F T
end Go.Proofs.YtfbcnpbhhooapaaGreatDoor.M
namespace Go.Proofs.YtfbcnpbhhooapaaGreatDoor.M
open Go Classical
def rd (L ts:List Token) (d:Nat) (out:List Node):reader:=⟨L,((L.length - ts.length:Nat):Int),(d:Int),0,out⟩
structure Bd (L:List Token) (d K:Nat) (e:Int) (r:reader):Prop where
 e0:r.e=e
 ne:e≠0
 l:r.l=L
 i0:0≤r.i
 i1:r.i≤L.length
 d0:(d:Int) - 1≤r.deep
 d1:r.deep≤d
 o:(r.out.length:Int)+L.length≤K+r.i+1
section
variable {L ts:List Token} (hL:L.length≤1000000) (hs:ts <:+ L)
include hs
theorem zeG {t:Token} {r:List Token} (e:ts=t::r) (d:Nat) (out:List Node):(rd L ts d out).l[(rd L ts d out).i.toNat]?=some t:=by
 subst e
 obtain⟨p,rfl⟩:=hs
 simp[rd]
theorem zcL (hne:ts≠[]) (d:Nat) (out:List Node) (g:Nat) (z:Bool) (s:List UInt8):zbu (rd L ts d out) g z s (isS s ts) (rd L ts d out) g z:=by
 cases ts with
 | nil=>exact absurd rfl hne
 | cons t r =>
  refine zn1 _ _ _ _ _ _ _ _ ⟨fun _=>⟨by simp[rd],t,zeG hs rfl d out,fun hk=>⟨by simp[isS,hk],rfl,rfl,rfl⟩,fun hk=>⟨by simp[isS,hk],rfl,rfl,rfl⟩⟩,fun h=>absurd rfl h⟩
omit hs in
theorem zkI {r:reader} (h:r.e≠0) (g:Nat) (z:Bool) (s:List UInt8):zbu r g z s false r g z:=zn1 _ _ _ _ _ _ _ _ ⟨fun h'=>absurd h' h,fun _=>⟨rfl,rfl,rfl,rfl⟩⟩
omit hs in
theorem za0 (d:Nat) (out:List Node) (g:Nat) (z:Bool) (e:Int):zaF (rd L ts d out) g z e ⟨L,((L.length - ts.length:Nat):Int),(d:Int),e,out⟩ g z:=znu _ _ _ _ _ _ _ ⟨fun _=>⟨rfl,rfl,rfl⟩,fun h=>absurd rfl h⟩
omit hs in
theorem zpn {r:reader} (h:r.e≠0) (g:Nat) (z:Bool) (e:Int):zaF r g z e r g z:=znu _ _ _ _ _ _ _ ⟨fun h'=>absurd h' h,fun _=>⟨rfl,rfl,rfl⟩⟩
theorem zb3 {t:Token} {r:List Token} (e:ts=t::r) (d:Nat) (out:List Node):reader.mk (rd L ts d out).l ((rd L ts d out).i+1) (rd L ts d out).deep (rd L ts d out).e (rd L ts d out).out=rd L r d out:=by
 subst e
 have:=hs.length_le
 simp only[List.length_cons] at this
 simp only[rd,List.length_cons]
 congr 1
 omega
include hL in
theorem zcJ (d:Nat) (out:List Node):I64 ((rd L ts d out).i+1):=by
 simp only[rd,I64]
 omega
include hL in
theorem zcA {s:List UInt8} (hi:isS s ts=true) (d:Nat) (out:List Node) (g:Nat) (z:Bool):zaY (rd L ts d out) g z s (rd L ts.tail d out) g z:=by
 cases ts with
 | nil=>cases hi
 | cons t r=>exact zjL _ _ _ _ _ _ _ ⟨true,_,_,_,by have:=zcL hs (by simp) d out g z s;rwa [hi] at this,fun _=>⟨zcJ hL hs d out,zb3 hs rfl d out,rfl,rfl⟩,fun h=>absurd rfl h⟩
theorem zej {s:List UInt8} (hne:ts≠[]) (hi:isS s ts=false) (d:Nat) (out:List Node) (g:Nat) (z:Bool):zaY (rd L ts d out) g z s ⟨L,((L.length - ts.length:Nat):Int),(d:Int),5,out⟩ g z :=
 zjL _ _ _ _ _ _ _ ⟨false,_,_,_,by have:=zcL hs hne d out g z s;rwa [hi] at this,fun h=>(by cases h),fun _=>⟨_,_,_,za0 d out g z 5,rfl,rfl,rfl⟩⟩
omit hs in
theorem zbn {r:reader} (h:r.e≠0) (g:Nat) (z:Bool) (s:List UInt8):zaY r g z s r g z:=zjL _ _ _ _ _ _ _ ⟨false,_,_,_,zkI h g z s,fun h=>(by cases h),fun _=>⟨_,_,_,zpn h g z 5,rfl,rfl,rfl⟩⟩
include hL in
theorem zgK {t:Token} {r:List Token} (e:ts=t::r) {d:Nat} (hd:¬ 64≤d) (out:List Node) (g:Nat) (z:Bool):zdo (rd L ts d out) g z (rd L r (d+1) out) g z:=by
 refine zn0 _ _ _ _ _ _ ⟨fun h=>?_,fun _=>⟨?_,zcJ hL hs d out,?_,rfl,rfl⟩⟩
 ·simp only[rd] at h;omega
 ·simp only[rd,I64];omega
 rw[←zb3 hs e (d+1) out]
 simp[rd]
omit hs in
theorem zgM {d:Nat} (hd:64≤d) (out:List Node) (g:Nat) (z:Bool):zdo (rd L ts d out) g z ⟨L,((L.length - ts.length:Nat):Int),(d:Int),6,out⟩ g z :=
 zn0 _ _ _ _ _ _ ⟨fun _=>⟨_,_,_,za0 d out g z 6,rfl,rfl,rfl⟩,fun h=>absurd (by simp only[rd];omega) h⟩
omit hs in
theorem zcE {r:reader} (h:r.out.length≤3000000) (g:Nat) (z:Bool) (n:Node):zaN r g z n ((r.out.length:Nat):Int) ⟨r.l,r.i,r.deep,r.e,r.out++[n]⟩ g z :=
 ztJ _ _ _ _ _ _ _ _ ⟨by simp only[bigRow];omega,by simp only[I64];omega,by omega,rfl,rfl,rfl⟩
theorem zad (d:Nat) (out:List Node) {e:Int} (he:e≠0):Bd L d (out.length+ts.length) e ⟨L,((L.length - ts.length:Nat):Int),(d:Int),e,out⟩:=by
 have:=hs.length_le
 refine⟨rfl,he,rfl,by simp only;omega,by simp only;omega,by simp only;omega,by simp only;omega,?_⟩
 simp only
 omega
end
theorem Bd.e0' {L:List Token} {d K:Nat} {e:Int} {r:reader} (h:Bd L d K e r):r.e≠0:=by rw[h.e0];exact h.ne
theorem Bd.mono {L:List Token} {d K K':Nat} {e:Int} {r:reader} (h:Bd L d K e r) (hk:K≤K'):Bd L d K' e r:=⟨h.e0,h.ne,h.l,h.i0,h.i1,h.d0,h.d1,by have:=h.o;omega⟩
theorem Bd.out {L:List Token} {d K:Nat} {e:Int} {r:reader} (h:Bd L (d+1) K e r):Bd L d K e ⟨r.l,r.i,r.deep - 1,r.e,r.out⟩:=⟨h.e0,h.ne,h.l,h.i0,h.i1,by have:=h.d0;simp only;omega,by have:=h.d1;simp only;omega,h.o⟩
theorem Bd.put {L:List Token} {d K:Nat} {e:Int} {r:reader} (h:Bd L d K e r) (n:Node):Bd L d (K+1) e ⟨r.l,r.i,r.deep,r.e,r.out++[n]⟩:=⟨h.e0,h.ne,h.l,h.i0,h.i1,h.d0,h.d1,by have:=h.o;simp only[List.length_append,List.length_cons,List.length_nil];omega⟩
theorem Bd.len {L:List Token} {d K:Nat} {e:Int} {r:reader} (h:Bd L d K e r) (hL:L.length≤1000000) (hK:K≤2000000):r.out.length≤3000000:=by
 have:=h.o
 have:=h.i1
 omega
theorem Bd.i64 {L:List Token} {d K:Nat} {e:Int} {r:reader} (h:Bd L d K e r) (hd:d≤1000):I64 (r.deep - 1):=by
 have:=h.d0
 have:=h.d1
 simp only[I64]
 omega
def RdG (L ts:List Token) (d d' K:Nat) (out:List Node) {α:Type} (F:reader→Nat→Bool→α→reader→Nat→Bool→Prop):PR α→Prop
 | .ok a ts' out'=>ts' <:+ L∧W ts'∧ts'.length≤ts.length∧out'.length+ts'.length≤K∧∀ g z,∃ g' z',F (rd L ts d out) g z a (rd L ts' d' out') g' z'
 | .er e=>∀ g z,∃ a r' g' z',F (rd L ts d out) g z a r' g' z'∧Bd L d' K e r'
 | .no=>True
structure Pl (L ts:List Token) (d:Nat) (out:List Node):Prop where
 s:ts <:+ L
 w:W ts
 d:d≤64
 k:out.length+ts.length≤1500000
theorem zaC {s:List UInt8} {ts:List Token} (h:isS s ts=true):∃ t r,ts=t::r∧t.Kind=4∧t.Text=s:=by
 cases ts with
 | nil=>cases h
 | cons t r =>
  simp only[isS,Bool.and_eq_true,decide_eq_true_eq] at h
  exact⟨t,r,rfl,h⟩
theorem zfJ (L ts:List Token) (d:Nat) (out:List Node):reader.mk (rd L ts (d+1) out).l (rd L ts (d+1) out).i ((rd L ts (d+1) out).deep - 1) (rd L ts (d+1) out).e (rd L ts (d+1) out).out=rd L ts d out:=by
 simp only[rd]
 congr 1
 omega
theorem zhj (L ts:List Token) {d:Nat} (hd:d≤1000) (out:List Node):I64 ((rd L ts d out).deep - 1):=by
 simp only[rd,I64]
 omega
def zbD:Nat→List Int
 | 0=>[11]
 | 1=>[12]
 | 2=>[13,14,15,16,17,18]
 | 3=>[19,20]
 | _=>[21,22,23]
theorem zlv {k:Nat} (hk:k < 5):znS (k:Int) (zH k) (zbD k):=by
 have:k=0∨k=1∨k=2∨k=3∨k=4:=by omega
 apply zrw
 rcases this with rfl | rfl | rfl | rfl | rfl <;> simp[zH,zbD]
structure RfA (L:List Token) (n:Nat):Prop where
 ex:∀ d ts out,Pl L ts d out→RdG L ts d d (out.length+ts.length) out zcH (zu n d ts out)
 ch:∀ (k:Nat) d ts out,k≤5→Pl L ts d out→RdG L ts d d (out.length+ts.length) out (fun r g z a r' g' z'=>zgo r g z (k:Int) a r' g' z') (zA n k d ts out)
 lp:∀ (k:Nat) d x ts out,k < 5→Pl L ts d out→RdG L ts d d (out.length+ts.length) out (fun r g z a r' g' z'=>zcg (k:Int) (zH k) (zbD k) x r g z a r' g' z') (zam n k d x ts out)
 un:∀ d ts out,Pl L ts d out→RdG L ts d d (out.length+ts.length) out zd8 (unS n d ts out)
 po:∀ d ts out,Pl L ts d out→RdG L ts d d (out.length+ts.length) out ziv (zaZ n d ts out)
 pl:∀ d x ts out,Pl L ts d out→RdG L ts d d (out.length+ts.length) out (fun r g z a r' g' z'=>zdR x r g z a r' g' z') (zaP n d x ts out)
 ml:∀ d e acc ts out,acc.length+ts.length≤1500000→d < 64→Pl L ts (d+1) out→RdG L ts (d+1) d (out.length+ts.length) out (fun r g z a r' g' z'=>zbF e acc r g z a r' g' z') ((zu n (d+1) ts out).bind fun a ts out=>zaG n (d+1) e (acc++[a]) ts out)
 pr:∀ d ts out,Pl L ts d out→RdG L ts d d (out.length+ts.length) out zcq (zaA n d ts out)
section
variable {L:List Token} (hL:L.length≤1000000) {n:Nat} (ih:RfA L n)
include hL ih
theorem zv0 (d:Nat) (ts:List Token) (out:List Node) (p:Pl L ts d out):RdG L ts d d (out.length+ts.length) out zcH (zu (n+1) d ts out):=by
 rw[zu]
 have h1:=ih.ch 0 d ts out (by omega) p
 cases hc:zA n 0 d ts out with
 | no=>exact True.intro
 | er e =>
  rw[hc] at h1
  intro g z
  obtain⟨a,y,g',z',q,b⟩:=h1 g z
  exact⟨a,y,g',z',zdJ _ _ _ _ _ _ _ ⟨a,y,g',z',q,false,y,g',z',zkI b.e0' _ _ _,fun h=>(by cases h),fun _=>⟨rfl,rfl,rfl,rfl⟩⟩,b⟩
 | ok a ts1 out1 =>
  rw[hc] at h1
  obtain⟨s1,w1,l1,k1,q1⟩:=h1
  simp only[PR.bind]
  by_cases hi:isS [63] ts1=true
  ·rw[if_pos hi,zaq,if_pos hi]
   have his:=fun g z=>zcL s1 w1.ne d out1 g z [63]
   rw[hi] at his
   obtain⟨t,r,rfl,ht⟩:=zaC hi
   have hk0:t.Kind≠0:=by rw[ht.1];decide
   have w2:=w1.tail hk0
   have s2:=zp s1
   simp only[List.tail_cons]
   simp only[List.length_cons] at l1 k1
   by_cases hd:64≤d
   ·rw[if_pos hd]
    intro g z
    obtain⟨g',z',q⟩:=q1 g z
    exact⟨0,_,g',z',zdJ _ _ _ _ _ _ _ ⟨a,_,g',z',q,true,_,g',z',his g' z',fun _=>⟨_,g',z',zgM hd out1 g' z',fun h=>(by cases h),fun _=>⟨rfl,rfl,rfl,rfl⟩⟩,fun h=>absurd rfl h⟩,(zad s1 d out1 (by decide)).mono (by simp only[List.length_cons];omega)⟩
   rw[if_neg hd]
   have ho:=fun g z=>zgK hL s1 rfl hd out1 g z
   have pk:=p.k
   have h2:=ih.ex (d+1) r out1 ⟨s2,w2,by omega,by omega⟩
   cases hc2:zu n (d+1) r out1 with
   | no=>exact True.intro
   | er e =>
    rw[hc2] at h2
    intro g z
    obtain⟨g1,z1,q⟩:=q1 g z
    obtain⟨b,y,g2,z2,q2,bd⟩:=h2 g1 z1
    have b2:=bd.out
    have hl:=b2.len hL (by omega)
    exact⟨_,_,g2,z2,zdJ _ _ _ _ _ _ _ ⟨a,_,g1,z1,q,true,_,g1,z1,his g1 z1,fun _=>⟨_,g1,z1,ho g1 z1,fun _=>⟨b,y,g2,z2,q2,y,g2,z2,zbn bd.e0' _ _ _,fun h=>absurd h bd.e0',fun _=>⟨bd.i64 (by omega),_,_,g2,z2,zcE hl g2 z2 _,rfl,rfl,rfl,rfl⟩⟩,fun h=>absurd rfl h⟩,fun h=>absurd rfl h⟩,(b2.put _).mono (by omega)⟩
   | ok b ts2 out2 =>
    rw[hc2] at h2
    obtain⟨s3,w3,l3,k3,q2⟩:=h2
    simp only[PR.bind,zah]
    by_cases hi2:isS [58] ts2=true
    ·rw[if_pos hi2]
     obtain⟨u,r2,rfl,hu⟩:=zaC hi2
     have hk2:u.Kind≠0:=by rw[hu.1];decide
     have w4:=w3.tail hk2
     have s4:=zp s3
     have hw:=fun g z=>zcA hL s3 hi2 (d+1) out2 g z
     simp only[List.tail_cons] at hw ⊢
     simp only[List.length_cons] at l3 k3
     have h3:=ih.ex (d+1) r2 out2 ⟨s4,w4,by omega,by omega⟩
     cases hc3:zu n (d+1) r2 out2 with
     | no=>exact True.intro
     | er e =>
      rw[hc3] at h3
      intro g z
      obtain⟨g1,z1,q⟩:=q1 g z
      obtain⟨g2,z2,q2⟩:=q2 g1 z1
      obtain⟨c,y,g3,z3,q3,bd⟩:=h3 g2 z2
      have b2:=bd.out
      have hl:=b2.len hL (by omega)
      exact⟨_,_,g3,z3,zdJ _ _ _ _ _ _ _ ⟨a,_,g1,z1,q,true,_,g1,z1,his g1 z1,fun _=>⟨_,g1,z1,ho g1 z1,fun _=>⟨b,_,g2,z2,q2,_,g2,z2,hw g2 z2,fun _=>⟨c,y,g3,z3,q3,bd.i64 (by omega),_,_,g3,z3,zcE hl g3 z3 _,rfl,rfl,rfl,rfl⟩,fun h=>absurd rfl h⟩,fun h=>absurd rfl h⟩,fun h=>absurd rfl h⟩,(b2.put _).mono (by omega)⟩
     | ok c ts3 out3 =>
      rw[hc3] at h3
      obtain⟨s5,w5,l5,k5,q3⟩:=h3
      refine⟨s5,w5,by omega,by simp only[List.length_append,List.length_cons,List.length_nil];omega,fun g z=>?_⟩
      obtain⟨g1,z1,q⟩:=q1 g z
      obtain⟨g2,z2,q2⟩:=q2 g1 z1
      obtain⟨g3,z3,q3⟩:=q3 g2 z2
      refine⟨g3,z3,zdJ _ _ _ _ _ _ _ ⟨a,_,g1,z1,q,true,_,g1,z1,his g1 z1,fun _=>⟨_,g1,z1,ho g1 z1,fun _=>⟨b,_,g2,z2,q2,_,g2,z2,hw g2 z2,fun _=>⟨c,_,g3,z3,q3,zhj L ts3 (by omega) out3,_,_,g3,z3,by rw[zfJ];exact zcE (r:=rd L ts3 d out3) (by simp only[rd];omega) g3 z3 _,rfl,rfl,rfl,rfl⟩,fun h=>absurd rfl h⟩,fun h=>absurd rfl h⟩,fun h=>absurd rfl h⟩⟩
    rw[if_neg hi2]
    intro g z
    obtain⟨g1,z1,q⟩:=q1 g z
    obtain⟨g2,z2,q2⟩:=q2 g1 z1
    have hi2:isS [58] ts2=false:=by simpa using hi2
    have bd:=zad s3 (d+1) out2 (e:=5) (by decide)
    have b2:=bd.out
    have hl:=b2.len hL (by omega)
    exact⟨_,_,g2,z2,zdJ _ _ _ _ _ _ _ ⟨a,_,g1,z1,q,true,_,g1,z1,his g1 z1,fun _=>⟨_,g1,z1,ho g1 z1,fun _=>⟨b,_,g2,z2,q2,_,g2,z2,zej s3 w3.ne hi2 (d+1) out2 g2 z2,fun h=>(by cases h),fun _=>⟨bd.i64 (by omega),_,_,g2,z2,zcE hl g2 z2 _,rfl,rfl,rfl,rfl⟩⟩,fun h=>absurd rfl h⟩,fun h=>absurd rfl h⟩,(b2.put _).mono (by omega)⟩
  rw[if_neg hi]
  refine⟨s1,w1,l1,k1,fun g z=>?_⟩
  obtain⟨g',z',q⟩:=q1 g z
  have hi:isS [63] ts1=false:=by simpa using hi
  exact⟨g',z',zdJ _ _ _ _ _ _ _ ⟨a,_,g',z',q,false,_,g',z',by have:=zcL s1 w1.ne d out1 g' z' [63];rwa [hi] at this,fun h=>(by cases h),fun _=>⟨rfl,rfl,rfl,rfl⟩⟩⟩
end
theorem zlA {k:Nat} (hk:k < 5) {j:Nat} (hj:j < (zH k).length):(zbD k)[j]?=some (zcs k+(j:Int))∧zcs k+(j:Int)≠0:=by
  have:k=0∨k=1∨k=2∨k=3∨k=4:=by omega
  rcases this with rfl | rfl | rfl | rfl | rfl <;> simp only[zH,List.length_cons,List.length_nil] at hj
  ·have:j=0:=by omega
   subst this;decide
  ·have:j=0:=by omega
   subst this;decide
  ·have:j=0∨j=1∨j=2∨j=3∨j=4∨j=5:=by omega
   rcases this with rfl | rfl | rfl | rfl | rfl | rfl <;> decide
  ·have:j=0∨j=1:=by omega
   rcases this with rfl | rfl <;> decide
  have:j=0∨j=1∨j=2:=by omega
  rcases this with rfl | rfl | rfl <;> decide
def zcU (t:Token) (S:List (List UInt8)) (i:Nat):Option Nat:=if t.Kind=4 then zae t.Text S i else none
theorem zoW {t:Token}:∀ {S:List (List UInt8)} {i j:Nat},zcU t S i=some j→i≤j∧j < i+S.length
  | [],i,j,h=>by unfold zcU at h;split at h <;> simp[zae] at h
  | v::S,i,j,h=>by
    unfold zcU at h
    split at h
    ·rename_i hk
     rw[zae] at h
     split at h
     ·cases h;simp
     have:=zoW (t:=t) (S:=S) (i:=i+1) (j:=j) (by unfold zcU;rw[if_pos hk];exact h)
     simp only[List.length_cons]
     omega
    cases h
theorem row2 {L:List Token} (hL:L.length≤1000000) {k:Nat} (hk:k < 5) (x:Int) {t:Token} {ts:List Token} (hs:t::ts <:+ L) (d:Nat) (out:List Node) (g:Nat) (z:Bool):∀ (m i:Nat),i+m=(zH k).length →
    match zcU t ((zH k).drop i) i with
    | none=>zbU (k:Int) (zH k) (zbD k) x 0 (i:Int) (rd L (t::ts) d out) g z x (rd L (t::ts) d out) g z
    | some j=>∀ r r' g' z',zbU (k:Int) (zH k) (zbD k) x (zcs k+(j:Int)) ((j:Int)+1) (rd L ts d out) g z r r' g' z'→zbU (k:Int) (zH k) (zbD k) x 0 (i:Int) (rd L (t::ts) d out) g z r r' g' z'
  | 0,i,hi=>by
    rw[List.drop_of_length_le (by omega)]
    have:zcU t [] i=none:=by unfold zcU;split <;> rfl
    rw[this]
    exact zdt _ _ _ _ _ _ _ _ _ _ _ _ _ ⟨fun h=>by omega,fun _=>⟨fun _=>⟨rfl,rfl,rfl,rfl⟩,fun h=>absurd rfl h⟩⟩
  | m+1,i,hi=>by
    have hlt:i < (zH k).length:=by omega
    have hg:(zH k)[((i:Nat):Int).toNat]?=some (zH k)[i]:=by rw[Int.toNat_natCast];exact List.getElem?_eq_getElem hlt
    rw[List.drop_eq_getElem_cons hlt]
    have key:=row2 hL hk x hs d out g z m (i+1) (by omega)
    have q:=zcL hs (by simp) d out g z (zH k)[i]
    have hk6:(zH k).length≤6:=by (have:k=0∨k=1∨k=2∨k=3∨k=4:=by omega);rcases this with rfl | rfl | rfl | rfl | rfl <;> decide
    have i64:I64 ((i:Int)+1):=⟨by omega,by omega⟩
    generalize (zH k)[i]=v at *
    by_cases hi:isS v (t::ts)=true
    ·have hkt:t.Kind=4∧t.Text=v:=by simpa [isS] using hi
     have:zcU t (v::(zH k).drop (i+1)) i=some i:=by unfold zcU;rw[if_pos hkt.1,zae,if_pos hkt.2]
     rw[this]
     intro r r' g' z' h
     rw[hi] at q
     have hkk:=(zlA hk hlt).1
     exact zdt _ _ _ _ _ _ _ _ _ _ _ _ _ ⟨fun _=>⟨fun _=>⟨by omega,v,hg,true,_,g,z,q,fun _=>⟨by omega,_,by rw[Int.toNat_natCast];exact hkk,zcJ hL hs d out,i64,by rw[zb3 hs rfl d out];exact h⟩,fun h=>absurd rfl h⟩,fun h=>absurd rfl h⟩,fun h=>by omega⟩
    have hi':isS v (t::ts)=false:=by simpa using hi
    rw[hi'] at q
    have e:zcU t (v::(zH k).drop (i+1)) i=zcU t ((zH k).drop (i+1)) (i+1):=by
      unfold zcU
      by_cases hkt:t.Kind=4
      ·rw[if_pos hkt,if_pos hkt,zae,if_neg]
       intro hv
       exact hi (by simp[isS,hkt,hv])
      rw[if_neg hkt,if_neg hkt]
    rw[e]
    have step:∀ r r' g' z',zbU (k:Int) (zH k) (zbD k) x 0 ((i:Int)+1) (rd L (t::ts) d out) g z r r' g' z'→zbU (k:Int) (zH k) (zbD k) x 0 (i:Int) (rd L (t::ts) d out) g z r r' g' z':=fun r r' g' z' h=>zdt _ _ _ _ _ _ _ _ _ _ _ _ _ ⟨fun _=>⟨fun _=>⟨by omega,v,hg,false,_,g,z,q,fun h=>(by cases h),fun _=>⟨i64,h⟩⟩,fun h=>absurd rfl h⟩,fun h=>by omega⟩
    cases hj:zcU t ((zH k).drop (i+1)) (i+1) with
    | none=>rw[hj] at key;exact step _ _ _ _ key
    | some j=>rw[hj] at key;exact fun r r' g' z' h=>step _ _ _ _ (key r r' g' z' h)
section
variable {L:List Token} (hL:L.length≤1000000) {n:Nat} (ih:RfA L n)
include hL ih
theorem ztF (k:Nat) (d:Nat) (ts:List Token) (out:List Node) (hk:k≤5) (p:Pl L ts d out):RdG L ts d d (out.length+ts.length) out (fun r g z a r' g' z'=>zgo r g z (k:Int) a r' g' z') (zA (n+1) k d ts out):=by
  rw[zA]
  by_cases h5:k=5
  ·subst h5
   rw[if_pos rfl]
   have h1:=ih.un d ts out p
   cases hc:unS n d ts out with
   | no=>exact True.intro
   | er e =>
     rw[hc] at h1
     intro g z
     obtain⟨a,y,g',z',q,b⟩:=h1 g z
     exact⟨a,y,g',z',zfP _ _ _ _ _ _ _ _ ⟨fun _=>⟨a,y,g',z',q,rfl,rfl,rfl,rfl⟩,fun h=>absurd (by decide) h⟩,b⟩
   | ok a ts1 out1 =>
     rw[hc] at h1
     obtain⟨s1,w1,l1,k1,q1⟩:=h1
     refine⟨s1,w1,l1,k1,fun g z=>?_⟩
     obtain⟨g',z',q⟩:=q1 g z
     exact⟨g',z',zfP _ _ _ _ _ _ _ _ ⟨fun _=>⟨a,_,g',z',q,rfl,rfl,rfl,rfl⟩,fun h=>absurd (by decide) h⟩⟩
  rw[if_neg h5]
  have hk':k < 5:=by omega
  have h1:=ih.ch (k+1) d ts out (by omega) p
  have e1:((k+1:Nat):Int)=(k:Int)+1:=by omega
  rw[e1] at h1
  have i64:I64 ((k:Int)+1):=⟨by omega,by omega⟩
  have pk:=p.k
  have pd:=p.d
  cases hc:zA n (k+1) d ts out with
  | no=>exact True.intro
  | er e =>
    rw[hc] at h1
    intro g z
    obtain⟨a,y,g',z',q,b⟩:=h1 g z
    exact⟨a,y,g',z',zfP _ _ _ _ _ _ _ _ ⟨fun h=>by omega,fun _=>⟨i64,a,y,g',z',q,_,_,zlv hk',zfc _ _ _ _ _ _ _ _ _ _ _ ⟨fun h=>absurd h b.e0',fun _=>⟨rfl,rfl,rfl,rfl⟩⟩⟩⟩,b⟩
  | ok a ts1 out1 =>
    rw[hc] at h1
    obtain⟨s1,w1,l1,k1,q1⟩:=h1
    simp only[PR.bind]
    have h2:=ih.lp k d a ts1 out1 hk' ⟨s1,w1,pd,by omega⟩
    cases hc2:zam n k d a ts1 out1 with
    | no=>exact True.intro
    | er e =>
      rw[hc2] at h2
      intro g z
      obtain⟨g1,z1,q⟩:=q1 g z
      obtain⟨b,y,g2,z2,q2,bd⟩:=h2 g1 z1
      exact⟨b,y,g2,z2,zfP _ _ _ _ _ _ _ _ ⟨fun h=>by omega,fun _=>⟨i64,a,_,g1,z1,q,_,_,zlv hk',q2⟩⟩,bd.mono (by omega)⟩
    | ok b ts2 out2 =>
      rw[hc2] at h2
      obtain⟨s2,w2,l2,k2,q2⟩:=h2
      refine⟨s2,w2,by omega,by omega,fun g z=>?_⟩
      obtain⟨g1,z1,q⟩:=q1 g z
      obtain⟨g2,z2,q2⟩:=q2 g1 z1
      exact⟨g2,z2,zfP _ _ _ _ _ _ _ _ ⟨fun h=>by omega,fun _=>⟨i64,a,_,g1,z1,q,_,_,zlv hk',q2⟩⟩⟩
theorem zvL (k:Nat) (d:Nat) (x:Int) (ts:List Token) (out:List Node) (hk:k < 5) (p:Pl L ts d out):RdG L ts d d (out.length+ts.length) out (fun r g z a r' g' z'=>zcg (k:Int) (zH k) (zbD k) x r g z a r' g' z') (zam (n+1) k d x ts out):=by
  cases ts with
  | nil=>exact p.w.elim
  | cons t ts =>
    have e1:((k+1:Nat):Int)=(k:Int)+1:=by omega
    have i64:I64 ((k:Int)+1):=⟨by omega,by omega⟩
    have pk:=p.k
    have pd:=p.d
    have ps:=p.s
    have pw:=p.w
    have r2:=fun g z=>row2 hL hk x ps d out g z (zH k).length 0 (by omega)
    rw[List.drop_zero] at r2
    have go:∀ {r r' g z g' z'},zbU (k:Int) (zH k) (zbD k) x 0 0 (rd L (t::ts) d out) g z r r' g' z'→zcg (k:Int) (zH k) (zbD k) x (rd L (t::ts) d out) g z r r' g' z':=fun h=>zfc _ _ _ _ _ _ _ _ _ _ _ ⟨fun _=>h,fun h=>absurd rfl h⟩
    have e2:zam (n+1) k d x (t::ts) out=match zcU t (zH k) 0 with
        | none=>.ok x (t::ts) out
        | some j=>(zA n (k+1) d ts out).bind fun b ts out=>if k=2 then .ok (out.length:Nat) ts (out++[nd (zcs k+(j:Int)) [] [x,b]]) else zam n k d (out.length:Nat) ts (out++[nd (zcs k+(j:Int)) [] [x,b]]):=by
      simp only[zam,zcU,opS]
      by_cases h4:t.Kind=4
      ·rw[if_pos h4,if_pos h4]
       cases zae t.Text (zH k) 0 <;> rfl
      rw[if_neg h4,if_neg h4]
    rw[e2]
    cases hj:zcU t (zH k) 0 with
    | none =>
      simp only[hj] at r2
      exact⟨ps,pw,Nat.le_refl _,Nat.le_refl _,fun g z=>⟨g,z,go (r2 g z)⟩⟩
    | some j =>
      simp only[hj] at r2 ⊢
      have hjl:=zoW hj
      have kne:=(zlA hk (j:=j) (by omega)).2
      have hk4:t.Kind=4:=by
        unfold zcU at hj
        split at hj
        ·assumption
        cases hj
      have w1:=pw.tail (by rw[hk4];decide)
      have s1:=zp ps
      simp only[List.length_cons] at pk
      have ending:∀ {r r' g z g' z'},(∃ (r26:Int) (y27:reader) (g28:Nat) (z29:Bool),(zgo (rd L ts d out) g z ((k:Int)+1) r26 y27 g28 z29)∧∃ (r30:Int) (y31:reader) (g32:Nat) (z33:Bool),(zaN y27 g28 z29 (Node.mk (zcs k+(j:Int)) 0 [] [] [x,r26]) r30 y31 g32 z33)∧(((k:Int)=2)→r30=r∧y31=r'∧g32=g'∧z33=z')∧(¬ ((k:Int)=2)→zcg (k:Int) (zH k) (zbD k) r30 y31 g32 z33 r r' g' z'))→zcg (k:Int) (zH k) (zbD k) x (rd L (t::ts) d out) g z r r' g' z':=fun h=>go (r2 _ _ _ _ _ _ (zdt _ _ _ _ _ _ _ _ _ _ _ _ _ ⟨fun _=>⟨fun h=>absurd h kne,fun _=>⟨i64,h⟩⟩,fun _=>⟨fun h=>absurd h kne,fun _=>⟨i64,h⟩⟩⟩))
      clear r2 go
      have h1:=ih.ch (k+1) d ts out (by omega) ⟨s1,w1,pd,by omega⟩
      rw[e1] at h1
      cases hc:zA n (k+1) d ts out with
      | no=>exact True.intro
      | er e =>
        rw[hc] at h1
        intro g z
        obtain⟨a,y,g',z',q,b⟩:=h1 g z
        have hl:=b.len hL (by omega)
        exact⟨_,_,g',z',ending ⟨a,y,g',z',q,_,_,g',z',zcE hl g' z' _,fun _=>⟨rfl,rfl,rfl,rfl⟩,fun _=>zfc _ _ _ _ _ _ _ _ _ _ _ ⟨fun h=>absurd h b.e0',fun _=>⟨rfl,rfl,rfl,rfl⟩⟩⟩,(b.put _).mono (by simp only[List.length_cons];omega)⟩
      | ok b ts1 out1 =>
        rw[hc] at h1
        obtain⟨s2,w2,l2,k2,q2⟩:=h1
        simp only[PR.bind]
        have hput:=fun g z=>zcE (r:=rd L ts1 d out1) (by simp only[rd];omega) g z (Node.mk (zcs k+(j:Int)) 0 [] [] [x,b])
        by_cases hk2:k=2
        ·rw[if_pos hk2]
         refine⟨s2,w2,by simp only[List.length_cons];omega,by simp only[List.length_append,List.length_cons,List.length_nil];omega,fun g z=>?_⟩
         obtain⟨g1,z1,q⟩:=q2 g z
         exact⟨g1,z1,ending ⟨b,_,g1,z1,q,_,_,g1,z1,hput g1 z1,fun _=>⟨rfl,rfl,rfl,rfl⟩,fun h=>absurd (by omega) h⟩⟩
        rw[if_neg hk2]
        have hk2':¬ (k:Int)=2:=by omega
        have h3:=ih.lp k d ((out1.length:Nat):Int) ts1 (out1++[nd (zcs k+(j:Int)) [] [x,b]]) hk ⟨s2,w2,pd,by simp only[List.length_append,List.length_cons,List.length_nil];omega⟩
        cases hc3:zam n k d ((out1.length:Nat):Int) ts1 (out1++[nd (zcs k+(j:Int)) [] [x,b]]) with
        | no=>exact True.intro
        | er e =>
          rw[hc3] at h3
          intro g z
          obtain⟨g1,z1,q⟩:=q2 g z
          obtain⟨c,y,g2,z2,q3,bd⟩:=h3 g1 z1
          exact⟨c,y,g2,z2,ending ⟨b,_,g1,z1,q,_,_,g1,z1,hput g1 z1,fun h=>absurd h hk2',fun _=>q3⟩,bd.mono (by simp only[List.length_append,List.length_cons,List.length_nil];omega)⟩
        | ok c ts2 out2 =>
          rw[hc3] at h3
          obtain⟨s3,w3,l3,k3,q3⟩:=h3
          simp only[List.length_append,List.length_cons,List.length_nil] at k3
          refine⟨s3,w3,by simp only[List.length_cons];omega,by simp only[List.length_cons];omega,fun g z=>?_⟩
          obtain⟨g1,z1,q⟩:=q2 g z
          obtain⟨g2,z2,q3⟩:=q3 g1 z1
          exact⟨g2,z2,ending ⟨b,_,g1,z1,q,_,_,g1,z1,hput g1 z1,fun h=>absurd h hk2',fun _=>q3⟩⟩
theorem zr1 (d:Nat) (t:Token) (ts:List Token) (out:List Node) (p:Pl L (t::ts) d out) (hk:t.Kind=4) (kind:Int) {F:reader→Nat→Bool→Int→reader→Nat→Bool→Prop}
    (hF:∀ {g z r r' g' z'},(∃ (y9:reader) (g10:Nat) (z11:Bool),(zdo (rd L (t::ts) d out) g z y9 g10 z11)∧((y9.e=0)→∃ (r12:Int) (y13:reader) (g14:Nat) (z15:Bool),(zd8 y9 g10 z11 r12 y13 g14 z15)∧(I64 (y13.deep - 1))∧∃ (r16:Int) (y17:reader) (g18:Nat) (z19:Bool),(zaN (reader.mk y13.l y13.i (y13.deep - 1) y13.e y13.out) g14 z15 (Node.mk kind 0 [] [] [r12]) r16 y17 g18 z19)∧r16=r∧y17=r'∧g18=g'∧z19=z')∧(¬ (y9.e=0)→0=r∧y9=r'∧g10=g'∧z11=z'))→F (rd L (t::ts) d out) g z r r' g' z') :
    RdG L (t::ts) d d (out.length+(t::ts).length) out F (if 64≤d then .er 6 else (unS n (d+1) ts out).bind fun a ts out=>.ok (out.length:Nat) ts (out++[nd kind [] [a]])):=by
  have pk:=p.k
  have pd:=p.d
  have ps:=p.s
  have w1:=p.w.tail (by rw[hk];decide)
  have s1:=zp ps
  simp only[List.length_cons] at pk
  by_cases hd:64≤d
  ·rw[if_pos hd]
   intro g z
   exact⟨0,_,g,z,hF ⟨_,g,z,zgM hd out g z,fun h=>(by cases h),fun _=>⟨rfl,rfl,rfl,rfl⟩⟩,zad ps d out (by decide)⟩
  rw[if_neg hd]
  have ho:=fun g z=>zgK hL ps rfl hd out g z
  have h2:=ih.un (d+1) ts out ⟨s1,w1,by omega,by omega⟩
  cases hc2:unS n (d+1) ts out with
  | no=>exact True.intro
  | er e =>
    rw[hc2] at h2
    intro g z
    obtain⟨b,y,g2,z2,q2,bd⟩:=h2 g z
    have b2:=bd.out
    have hl:=b2.len hL (by omega)
    exact⟨_,_,g2,z2,hF ⟨_,g,z,ho g z,fun _=>⟨b,y,g2,z2,q2,bd.i64 (by omega),_,_,g2,z2,zcE hl g2 z2 _,rfl,rfl,rfl,rfl⟩,fun h=>absurd rfl h⟩,(b2.put _).mono (by simp only[List.length_cons];omega)⟩
  | ok a ts1 out1 =>
    rw[hc2] at h2
    obtain⟨s2,w2,l2,k2,q2⟩:=h2
    refine⟨s2,w2,by simp only[List.length_cons];omega,by simp only[List.length_append,List.length_cons,List.length_nil];omega,fun g z=>?_⟩
    obtain⟨g1,z1,q⟩:=q2 g z
    exact⟨g1,z1,hF ⟨_,g,z,ho g z,fun _=>⟨a,_,g1,z1,q,zhj L ts1 (by omega) out1,_,_,g1,z1,by rw[zfJ];exact zcE (r:=rd L ts1 d out1) (by simp only[rd];omega) g1 z1 _,rfl,rfl,rfl,rfl⟩,fun h=>absurd rfl h⟩⟩
theorem zAp (d:Nat) (ts:List Token) (out:List Node) (p:Pl L ts d out):RdG L ts d d (out.length+ts.length) out zd8 (unS (n+1) d ts out):=by
  have q45:=fun g z=>zcL p.s p.w.ne d out g z [45]
  have q33:=fun g z=>zcL p.s p.w.ne d out g z [33]
  rw[unS]
  by_cases h45:isS [45] ts=true
  ·obtain⟨t,r,rfl,ht⟩:=zaC h45
   have h33:isS [33] (t::r)=false:=by simp[isS,ht.1,ht.2]
   rw[h45] at q45
   rw[h33] at q33
   rw[if_pos h45,zaq,if_pos h45,List.tail_cons]
   exact zr1 hL ih d t r out p ht.1 9 fun {g z r r' g' z'} h=>ziu _ _ _ _ _ _ _ ⟨true,_,g,z,q45 g z,fun _=>⟨false,_,g,z,q33 g z,fun h=>(by cases h),fun _=>h⟩,fun h=>absurd rfl h⟩
  rw[if_neg h45]
  have h45:isS [45] ts=false:=by simpa using h45
  rw[h45] at q45
  by_cases h33:isS [33] ts=true
  ·obtain⟨t,r,rfl,ht⟩:=zaC h33
   rw[h33] at q33
   rw[if_pos h33,zaq,if_pos h33,List.tail_cons]
   exact zr1 hL ih d t r out p ht.1 8 fun {g z r r' g' z'} h=>ziu _ _ _ _ _ _ _ ⟨false,_,g,z,q45 g z,fun h=>(by cases h),fun _=>⟨true,_,g,z,q33 g z,fun _=>h,fun h=>absurd rfl h⟩⟩
  rw[if_neg h33]
  have h33:isS [33] ts=false:=by simpa using h33
  rw[h33] at q33
  have h1:=ih.po d ts out p
  have go:∀ {g z r r' g' z'},ziv (rd L ts d out) g z r r' g' z'→zd8 (rd L ts d out) g z r r' g' z':=fun {g z r r' g' z'} h=>ziu _ _ _ _ _ _ _ ⟨false,_,g,z,q45 g z,fun h=>(by cases h),fun _=>⟨false,_,g,z,q33 g z,fun h=>(by cases h),fun _=>⟨_,_,_,_,h,rfl,rfl,rfl,rfl⟩⟩⟩
  cases hc:zaZ n d ts out with
  | no=>exact True.intro
  | er e =>
    rw[hc] at h1
    intro g z
    obtain⟨a,y,g',z',q,b⟩:=h1 g z
    exact⟨a,y,g',z',go q,b⟩
  | ok a ts1 out1 =>
    rw[hc] at h1
    obtain⟨s1,w1,l1,k1,q1⟩:=h1
    refine⟨s1,w1,l1,k1,fun g z=>?_⟩
    obtain⟨g',z',q⟩:=q1 g z
    exact⟨g',z',go q⟩
theorem zvV (d:Nat) (ts:List Token) (out:List Node) (p:Pl L ts d out):RdG L ts d d (out.length+ts.length) out ziv (zaZ (n+1) d ts out):=by
  rw[zaZ]
  have h1:=ih.pr d ts out p
  have pk:=p.k
  have pd:=p.d
  cases hc:zaA n d ts out with
  | no=>exact True.intro
  | er e =>
    rw[hc] at h1
    intro g z
    obtain⟨a,y,g',z',q,b⟩:=h1 g z
    exact⟨a,y,g',z',zif _ _ _ _ _ _ _ ⟨a,y,g',z',q,zaE _ _ _ _ _ _ _ _ ⟨false,y,g',z',zkI b.e0' _ _ _,fun h=>(by cases h),fun _=>⟨rfl,rfl,rfl,rfl⟩⟩⟩,b⟩
  | ok a ts1 out1 =>
    rw[hc] at h1
    obtain⟨s1,w1,l1,k1,q1⟩:=h1
    simp only[PR.bind]
    have h2:=ih.pl d a ts1 out1 ⟨s1,w1,pd,by omega⟩
    cases hc2:zaP n d a ts1 out1 with
    | no=>exact True.intro
    | er e =>
      rw[hc2] at h2
      intro g z
      obtain⟨g1,z1,q⟩:=q1 g z
      obtain⟨b,y,g2,z2,q2,bd⟩:=h2 g1 z1
      exact⟨b,y,g2,z2,zif _ _ _ _ _ _ _ ⟨a,_,g1,z1,q,q2⟩,bd.mono (by omega)⟩
    | ok b ts2 out2 =>
      rw[hc2] at h2
      obtain⟨s2,w2,l2,k2,q2⟩:=h2
      refine⟨s2,w2,by omega,by omega,fun g z=>?_⟩
      obtain⟨g1,z1,q⟩:=q1 g z
      obtain⟨g2,z2,q2⟩:=q2 g1 z1
      exact⟨g2,z2,zif _ _ _ _ _ _ _ ⟨a,_,g1,z1,q,q2⟩⟩
end
section
variable {L:List Token} (hL:L.length≤1000000) (hT:∀ t ∈ L,t.Text.length≤1000000) {n:Nat} (ih:RfA L n)
include hL ih
theorem zAM (d:Nat) (x:Int) (ts:List Token) (out:List Node) (p:Pl L ts d out):RdG L ts d d (out.length+ts.length) out (fun r g z a r' g' z'=>zdR x r g z a r' g' z') (zaP (n+1) d x ts out):=by
 have qi:=fun g z=>zcL p.s p.w.ne d out g z [91]
 rw[zaP]
 have pk:=p.k
 have pd:=p.d
 by_cases h91:isS [91] ts=true
 ·rw[h91] at qi
  rw[if_pos h91,zaq,if_pos h91]
  obtain⟨t,r,rfl,ht⟩:=zaC h91
  have w1:=p.w.tail (by rw[ht.1];decide)
  have s1:=zp p.s
  simp only[List.tail_cons]
  simp only[List.length_cons] at pk
  by_cases hd:64≤d
  ·rw[if_pos hd]
   intro g z
   exact⟨0,_,g,z,zaE _ _ _ _ _ _ _ _ ⟨true,_,g,z,qi g z,fun _=>⟨_,g,z,zgM hd out g z,fun h=>(by cases h),fun _=>⟨rfl,rfl,rfl,rfl⟩⟩,fun h=>absurd rfl h⟩,zad p.s d out (by decide)⟩
  rw[if_neg hd]
  have ho:=fun g z=>zgK hL p.s rfl hd out g z
  have h2:=ih.ex (d+1) r out ⟨s1,w1,by omega,by omega⟩
  have stop:∀ {y:reader} {a:Int} {g z},y.e≠0→zdR a y g z a y g z:=fun {y a g z} he=>zaE _ _ _ _ _ _ _ _ ⟨false,y,g,z,zkI he _ _ _,fun h=>(by cases h),fun _=>⟨rfl,rfl,rfl,rfl⟩⟩
  cases hc2:zu n (d+1) r out with
  | no=>exact True.intro
  | er e =>
   rw[hc2] at h2
   intro g z
   obtain⟨b,y,g2,z2,q2,bd⟩:=h2 g z
   have b2:=bd.out
   have hl:=b2.len hL (by omega)
   exact⟨_,_,g2,z2,zaE _ _ _ _ _ _ _ _ ⟨true,_,g,z,qi g z,fun _=>⟨_,g,z,ho g z,fun _=>⟨b,y,g2,z2,q2,y,g2,z2,zbn bd.e0' _ _ _,bd.i64 (by omega),_,_,g2,z2,zcE hl g2 z2 _,stop bd.e0'⟩,fun h=>absurd rfl h⟩,fun h=>absurd rfl h⟩,(b2.put _).mono (by simp only[List.length_cons];omega)⟩
  | ok b ts1 out1 =>
   rw[hc2] at h2
   obtain⟨s2,w2,l2,k2,q2⟩:=h2
   simp only[PR.bind,zah]
   by_cases hi2:isS [93] ts1=true
   ·rw[if_pos hi2]
    obtain⟨u,r2,rfl,hu⟩:=zaC hi2
    have w4:=w2.tail (by rw[hu.1];decide)
    have s4:=zp s2
    have hw:=fun g z=>zcA hL s2 hi2 (d+1) out1 g z
    simp only[List.tail_cons] at hw ⊢
    simp only[List.length_cons] at l2 k2
    have hput:=fun g z=>zcE (r:=rd L r2 d out1) (by simp only[rd];omega) g z (Node.mk 7 0 [] [] [x,b])
    have h3:=ih.pl d ((out1.length:Nat):Int) r2 (out1++[nd 7 [] [x,b]]) ⟨s4,w4,by omega,by simp only[List.length_append,List.length_cons,List.length_nil];omega⟩
    cases hc3:zaP n d ((out1.length:Nat):Int) r2 (out1++[nd 7 [] [x,b]]) with
    | no=>exact True.intro
    | er e =>
     rw[hc3] at h3
     intro g z
     obtain⟨g1,z1,q⟩:=q2 g z
     obtain⟨c,y,g3,z3,q3,bd⟩:=h3 g1 z1
     exact⟨_,_,g3,z3,zaE _ _ _ _ _ _ _ _ ⟨true,_,g,z,qi g z,fun _=>⟨_,g,z,ho g z,fun _=>⟨b,_,g1,z1,q,_,g1,z1,hw g1 z1,zhj L r2 (by omega) out1,_,_,g1,z1,by rw[zfJ];exact hput g1 z1,q3⟩,fun h=>absurd rfl h⟩,fun h=>absurd rfl h⟩,bd.mono (by simp only[List.length_append,List.length_cons,List.length_nil];omega)⟩
    | ok c ts3 out3 =>
     rw[hc3] at h3
     obtain⟨s5,w5,l5,k5,q3⟩:=h3
     simp only[List.length_append,List.length_cons,List.length_nil] at k5
     refine⟨s5,w5,by simp only[List.length_cons];omega,by simp only[List.length_cons];omega,fun g z=>?_⟩
     obtain⟨g1,z1,q⟩:=q2 g z
     obtain⟨g3,z3,q3⟩:=q3 g1 z1
     exact⟨g3,z3,zaE _ _ _ _ _ _ _ _ ⟨true,_,g,z,qi g z,fun _=>⟨_,g,z,ho g z,fun _=>⟨b,_,g1,z1,q,_,g1,z1,hw g1 z1,zhj L r2 (by omega) out1,_,_,g1,z1,by rw[zfJ];exact hput g1 z1,q3⟩,fun h=>absurd rfl h⟩,fun h=>absurd rfl h⟩⟩
   rw[if_neg hi2]
   have hi2:isS [93] ts1=false:=by simpa using hi2
   intro g z
   obtain⟨g1,z1,q⟩:=q2 g z
   have bd:=zad s2 (d+1) out1 (e:=5) (by decide)
   have b2:=bd.out
   have hl:=b2.len hL (by omega)
   exact⟨_,_,g1,z1,zaE _ _ _ _ _ _ _ _ ⟨true,_,g,z,qi g z,fun _=>⟨_,g,z,ho g z,fun _=>⟨b,_,g1,z1,q,_,g1,z1,zej s2 w2.ne hi2 (d+1) out1 g1 z1,bd.i64 (by omega),_,_,g1,z1,zcE hl g1 z1 _,stop bd.e0'⟩,fun h=>absurd rfl h⟩,fun h=>absurd rfl h⟩,(b2.put _).mono (by simp only[List.length_cons];omega)⟩
 rw[if_neg h91]
 have h91:isS [91] ts=false:=by simpa using h91
 rw[h91] at qi
 exact⟨p.s,p.w,Nat.le_refl _,Nat.le_refl _,fun g z=>⟨g,z,zaE _ _ _ _ _ _ _ _ ⟨false,_,g,z,qi g z,fun h=>(by cases h),fun _=>⟨rfl,rfl,rfl,rfl⟩⟩⟩⟩
theorem zAo (m:Nat) (ihm:∀ k,k < m→∀ d e acc ts out,acc.length+ts.length≤1500000→d < 64→Pl L ts (d+1) out→RdG L ts (d+1) d (out.length+ts.length) out (fun r g z a r' g' z'=>zbF e acc r g z a r' g' z') ((zu k (d+1) ts out).bind fun a ts out=>zaG k (d+1) e (acc++[a]) ts out)) (hex:∀ d ts out,Pl L ts d out→RdG L ts d d (out.length+ts.length) out zcH (zu m d ts out)) (d:Nat) (e:List UInt8) (acc:List Int) (ts:List Token) (out:List Node) (ha:acc.length+ts.length≤1500000) (hd:d < 64) (p:Pl L ts (d+1) out):RdG L ts (d+1) d (out.length+ts.length) out (fun r g z a r' g' z'=>zbF e acc r g z a r' g' z') ((zu m (d+1) ts out).bind fun a ts out=>zaG m (d+1) e (acc++[a]) ts out):=by
 have h1:=hex (d+1) ts out p
 have pk:=p.k
 have hbig:bigRow (acc.length+1) 8:=by simp only[bigRow];omega
 cases hc:zu m (d+1) ts out with
 | no=>exact True.intro
 | er e' =>
  rw[hc] at h1
  intro g z
  obtain⟨a,y,g1,z1,q,bd⟩:=h1 g z
  exact⟨_,_,g1,z1,zc3 _ _ _ _ _ _ _ _ _ ⟨fun _=>⟨a,y,g1,z1,q,hbig,false,y,g1,z1,zkI bd.e0' _ _ _,fun h=>(by cases h),fun _=>⟨y,g1,z1,zbn bd.e0' _ _ _,bd.i64 (by omega),rfl,rfl,rfl,rfl⟩⟩,fun h=>absurd rfl h⟩,bd.out⟩
 | ok a ts1 out1 =>
  rw[hc] at h1
  obtain⟨s1,w1,l1,k1,q1⟩:=h1
  simp only[PR.bind]
  cases m with
  | zero=>simp[zu] at hc
  | succ m =>
   rw[zaG]
   by_cases h44:isS [44] ts1=true
   ·rw[if_pos h44]
    have qi:=fun g z=>zcL s1 w1.ne (d+1) out1 g z [44]
    rw[h44] at qi
    obtain⟨t,r,rfl,ht⟩:=zaC h44
    have w2:=w1.tail (by rw[ht.1];decide)
    have s2:=zp s1
    simp only[List.tail_cons]
    simp only[List.length_cons] at l1 k1
    have h2:=ihm m (by omega) d e (acc++[a]) r out1 (by simp only[List.length_append,List.length_cons,List.length_nil];omega) hd ⟨s2,w2,by omega,by omega⟩
    have go:∀ {g z g' z' l r'},zcH (rd L ts (d+1) out) g z a (rd L (t::r) (d+1) out1) g' z'→∀ {g2 z2},zbF e (acc++[a]) (rd L r (d+1) out1) g' z' l r' g2 z2→zbF e acc (rd L ts (d+1) out) g z l r' g2 z2:=fun {g z g' z' l r'} q {g2 z2} q2=>zc3 _ _ _ _ _ _ _ _ _ ⟨fun _=>⟨a,_,g',z',q,hbig,true,_,g',z',qi g' z',fun _=>⟨zcJ hL s1 (d+1) out1,by rw[zb3 s1 rfl (d+1) out1];exact q2⟩,fun h=>absurd rfl h⟩,fun h=>absurd rfl h⟩
    cases hc2:(zu m (d+1) r out1).bind fun b ts out=>zaG m (d+1) e ((acc++[a])++[b]) ts out with
    | no=>exact True.intro
    | er e' =>
     rw[hc2] at h2
     intro g z
     obtain⟨g1,z1,q⟩:=q1 g z
     obtain⟨l,y,g2,z2,q2,bd⟩:=h2 g1 z1
     exact⟨l,y,g2,z2,go q q2,bd.mono (by omega)⟩
    | ok l ts2 out2 =>
     rw[hc2] at h2
     obtain⟨s3,w3,l3,k3,q2⟩:=h2
     refine⟨s3,w3,by omega,by omega,fun g z=>?_⟩
     obtain⟨g1,z1,q⟩:=q1 g z
     obtain⟨g2,z2,q2⟩:=q2 g1 z1
     exact⟨g2,z2,go q q2⟩
   rw[if_neg h44]
   have h44:isS [44] ts1=false:=by simpa using h44
   have qi:=fun g z=>zcL s1 w1.ne (d+1) out1 g z [44]
   rw[h44] at qi
   rw[zah]
   by_cases he:isS e ts1=true
   ·rw[if_pos he]
    obtain⟨t,r,rfl,ht⟩:=zaC he
    have w2:=w1.tail (by rw[ht.1];decide)
    have s2:=zp s1
    have hw:=fun g z=>zcA hL s1 he (d+1) out1 g z
    simp only[List.tail_cons] at hw ⊢
    simp only[List.length_cons] at l1 k1
    refine⟨s2,w2,by omega,by omega,fun g z=>?_⟩
    obtain⟨g1,z1,q⟩:=q1 g z
    exact⟨g1,z1,zc3 _ _ _ _ _ _ _ _ _ ⟨fun _=>⟨a,_,g1,z1,q,hbig,false,_,g1,z1,qi g1 z1,fun h=>(by cases h),fun _=>⟨_,g1,z1,hw g1 z1,zhj L r (by omega) out1,rfl,zfJ L r d out1,rfl,rfl⟩⟩,fun h=>absurd rfl h⟩⟩
   rw[if_neg he]
   have he:isS e ts1=false:=by simpa using he
   have bd:=zad s1 (d+1) out1 (e:=5) (by decide)
   intro g z
   obtain⟨g1,z1,q⟩:=q1 g z
   exact⟨_,_,g1,z1,zc3 _ _ _ _ _ _ _ _ _ ⟨fun _=>⟨a,_,g1,z1,q,hbig,false,_,g1,z1,qi g1 z1,fun h=>(by cases h),fun _=>⟨_,g1,z1,zej s1 w1.ne he (d+1) out1 g1 z1,bd.i64 (by omega),rfl,rfl,rfl,rfl⟩⟩,fun h=>absurd rfl h⟩,bd.out.mono (by omega)⟩
theorem zpk {d:Nat} {t:Token} {ts:List Token} {out:List Node} (e:List UInt8) (p:Pl L (t::ts) d out) (hk:t.Kind=4):RdG L (t::ts) d d (out.length+ts.length) out (fun r g z a r' g' z'=>zdW r g z e a r' g' z') (if 64≤d then .er 6 else zay (n+1) (d+1) e ts out):=by
 have pk:=p.k
 have pd:=p.d
 have w1:=p.w.tail (by rw[hk];decide)
 have s1:=zp p.s
 simp only[List.length_cons] at pk
 by_cases hd:64≤d
 ·rw[if_pos hd]
  intro g z
  have bd:=zad p.s d out (e:=6) (by decide)
  refine⟨[],_,g,z,zh3 _ _ _ _ _ _ _ _ ⟨_,g,z,zgM hd out g z,fun h=>(by cases h),fun _=>⟨_,g,z,zbn (show (6:Int)≠0 by decide) _ _ _,bd.i64 (by omega),rfl,rfl,rfl,rfl⟩⟩,⟨rfl,by decide,rfl,bd.i0,bd.i1,?_,?_,?_⟩⟩
  ·simp only;omega
  ·simp only;omega
  have:=p.s.length_le
  simp only[List.length_cons] at this ⊢
  omega
 rw[if_neg hd,zay]
 have ho:=fun g z=>zgK hL p.s rfl hd out g z
 have qi:=fun g z=>zcL s1 w1.ne (d+1) out g z e
 by_cases he:isS e ts=true
 ·rw[if_pos he]
  rw[he] at qi
  have hw:=fun g z=>zcA hL s1 he (d+1) out g z
  obtain⟨u,r,rfl,hu⟩:=zaC he
  have w2:=w1.tail (by rw[hu.1];decide)
  have s2:=zp s1
  simp only[List.tail_cons] at hw ⊢
  refine⟨s2,w2,by simp only[List.length_cons];omega,by simp only[List.length_cons];omega,fun g z=>⟨g,z,zh3 _ _ _ _ _ _ _ _ ⟨_,g,z,ho g z,fun _=>⟨true,_,g,z,qi g z,fun _=>⟨_,g,z,hw g z,zhj L r (by omega) out,rfl,zfJ L r d out,rfl,rfl⟩,fun h=>absurd rfl h⟩,fun h=>absurd rfl h⟩⟩⟩
 rw[if_neg he]
 have he:isS e ts=false:=by simpa using he
 rw[he] at qi
 have h2:=ih.ml d e [] ts out (by simp;omega) (by omega) ⟨s1,w1,by omega,by omega⟩
 simp only[List.nil_append] at h2
 have go:∀ {g z l r' g' z'},zbF e [] (rd L ts (d+1) out) g z l r' g' z'→zdW (rd L (t::ts) d out) g z e l r' g' z':=fun {g z l r' g' z'} q=>zh3 _ _ _ _ _ _ _ _ ⟨_,g,z,ho g z,fun _=>⟨false,_,g,z,qi g z,fun h=>(by cases h),fun _=>q⟩,fun h=>absurd rfl h⟩
 cases hc:(zu n (d+1) ts out).bind fun a ts out=>zaG n (d+1) e [a] ts out with
 | no=>exact True.intro
 | er e' =>
  rw[hc] at h2
  intro g z
  obtain⟨l,y,g2,z2,q2,bd⟩:=h2 g z
  exact⟨l,y,g2,z2,go q2,bd⟩
 | ok l ts2 out2 =>
  rw[hc] at h2
  obtain⟨s3,w3,l3,k3,q2⟩:=h2
  refine⟨s3,w3,by simp only[List.length_cons];omega,k3,fun g z=>?_⟩
  obtain⟨g2,z2,q2⟩:=q2 g z
  exact⟨g2,z2,go q2⟩
end
section
variable {L:List Token} (hL:L.length≤1000000) (hT:∀ t ∈ L,t.Text.length≤1000000)
include hL
theorem zzW (ts:List Token) (d:Nat) (out:List Node):I64 (rd L ts d out).i:=by
  simp only[rd,I64]
  omega
theorem zi9 {ts ts':List Token} {d:Nat} {out:List Node} (s:ts' <:+ L) (w:W ts') (l:ts'.length+1≤ts.length) (k:out.length+ts.length≤1500000) (n:Node) {F:reader→Nat→Bool→Int→reader→Nat→Bool→Prop} (hF:∀ {g z r r' g' z'},zaN (rd L ts' d out) g z n r r' g' z'→F (rd L ts d out) g z r r' g' z'):RdG L ts d d (out.length+ts.length) out F (.ok (out.length:Nat) ts' (out++[n])) :=
  ⟨s,w,by omega,by simp only[List.length_append,List.length_cons,List.length_nil];omega,fun g z=>⟨g,z,hF (zcE (r:=rd L ts' d out) (by simp only[rd];omega) g z n)⟩⟩
include hT
theorem zxn {n:Nat} (ih:RfA L n) (hma:∀ d t ts out e,Pl L (t::ts) d out→t.Kind=4→RdG L (t::ts) d d (out.length+ts.length) out (fun r g z a r' g' z'=>zdW r g z e a r' g' z') (if 64≤d then .er 6 else zay n (d+1) e ts out)) (d:Nat) (ts:List Token) (out:List Node) (p:Pl L ts d out):RdG L ts d d (out.length+ts.length) out zcq (zaA (n+1) d ts out):=by
  cases ts with
  | nil=>exact p.w.elim
  | cons t ts =>
    have pk:=p.k
    have pd:=p.d
    simp only[List.length_cons] at pk
    have hg:=zeG p.s rfl d out
    have i0:0≤(rd L (t::ts) d out).i:=by simp[rd]
    have i64:=zcJ hL p.s d out
    have nx:=zb3 p.s rfl d out
    have s1:=zp p.s
    have row:∀ {t':Token} {ts':List Token} (e:List UInt8) (n':List Int→Node) {F:reader→Nat→Bool→Int→reader→Nat→Bool→Prop},Pl L (t'::ts') d out→t'.Kind=4→(t'::ts').length≤(t::ts).length→(∀ {g z l y g1 z1 r r' g' z'},zdW (rd L (t'::ts') d out) g z e l y g1 z1→zaN y g1 z1 (n' l) r r' g' z'→F (rd L (t::ts) d out) g z r r' g' z')→RdG L (t::ts) d d (out.length+(t::ts).length) out F ((if 64≤d then .er 6 else zay n (d+1) e ts' out).bind fun l ts out=>.ok ((out.length:Nat):Int) ts (out++[n' l])):=by
      intro t' ts' e n' F p' hk hle hF
      have h1:=hma d t' ts' out e p' hk
      simp only[List.length_cons] at hle ⊢
      cases hc:(if 64≤d then PR.er 6 else zay n (d+1) e ts' out) with
      | no=>exact True.intro
      | er e' =>
        rw[hc] at h1
        intro g z
        obtain⟨l,y,g1,z1,q,bd⟩:=h1 g z
        have hl:=bd.len hL (by omega)
        exact⟨_,_,g1,z1,hF q (zcE hl g1 z1 _),(bd.put _).mono (by omega)⟩
      | ok l ts1 out1 =>
        rw[hc] at h1
        obtain⟨s2,w2,l2,k2,q2⟩:=h1
        simp only[List.length_cons] at l2
        refine⟨s2,w2,by simp only[List.length_cons];omega,by simp only[List.length_append,List.length_cons,List.length_nil];omega,fun g z=>?_⟩
        obtain⟨g1,z1,q⟩:=q2 g z
        exact⟨g1,z1,hF q (zcE (r:=rd L ts1 d out1) (by simp only[rd];omega) g1 z1 _)⟩
    rw[zaA]
    by_cases k3:t.Kind=3
    ·rw[if_pos k3]
     have w1:=p.w.tail (by rw[k3];decide)
     have goN:∀ {g z r r' g' z'},zna (rd L ts d out) g z t.Text r r' g' z'→zcq (rd L (t::ts) d out) g z r r' g' z':=fun {g z r r' g' z'} h=>zdM _ _ _ _ _ _ _ ⟨fun _=>⟨i0,t,hg,fun h'=>by omega,fun _=>⟨fun h'=>by omega,fun _=>⟨fun _=>⟨i64,r,r',g',z',by rw[nx];exact h,rfl,rfl,rfl,rfl⟩,fun h'=>absurd k3 h'⟩⟩⟩,fun h'=>absurd rfl h'⟩
     have lf:=fun (n:Node) (hF:∀ {g z r r' g' z'},zaN (rd L ts d out) g z n r r' g' z'→zcq (rd L (t::ts) d out) g z r r' g' z')=>zi9 hL (ts:=t::ts) s1 w1 (by simp) (by simp only[List.length_cons];omega) n (F:=zcq) hF
     by_cases hT1:t.Text=[116,114,117,101]
     ·rw[if_pos hT1]
      exact lf _ fun {g z r r' g' z'} h=>goN (ze6 _ _ _ _ _ _ _ _ ⟨fun _=>⟨_,_,_,_,h,rfl,rfl,rfl,rfl⟩,fun h'=>absurd hT1 h'⟩)
     rw[if_neg hT1]
     by_cases hF1:t.Text=[102,97,108,115,101]
     ·rw[if_pos hF1]
      exact lf _ fun {g z r r' g' z'} h=>goN (ze6 _ _ _ _ _ _ _ _ ⟨fun h'=>absurd h' hT1,fun _=>⟨fun _=>⟨_,_,_,_,h,rfl,rfl,rfl,rfl⟩,fun h'=>absurd hF1 h'⟩⟩)
     rw[if_neg hF1]
     have q40:=fun g z=>zcL s1 w1.ne d out g z [40]
     have q46:=fun g z=>zcL s1 w1.ne d out g z [46]
     by_cases h46:isS [46] ts=true
     ·obtain⟨u,r,rfl,hu⟩:=zaC h46
      have h40:isS [40] (u::r)=false:=by simp[isS,hu.1,hu.2]
      rw[if_pos h46,List.tail_cons]
      rw[h40] at q40
      rw[h46] at q46
      have w2:=w1.tail (by rw[hu.1];decide)
      have s2:=zp s1
      have i64':=zcJ hL s1 d out
      have nx':=zb3 s1 rfl d out
      cases r with
      | nil=>exact w2.elim
      | cons v r =>
        have hv:=zeG s2 rfl d out
        have e1:(rd L (u::v::r) d out).i+1=(rd L (v::r) d out).i:=by rw[←nx']
        have hv':(rd L (u::v::r) d out).l[((rd L (u::v::r) d out).i+1).toNat]?=some v:=by rw[e1];exact hv
        have i0':0≤(rd L (u::v::r) d out).i+1:=by rw[e1];simp[rd]
        have goR:∀ {g z r1 r' g' z'},((v.Kind=3→I64 ((rd L (u::v::r) d out).i+1+1)∧(t.Text.length+1≤zaO)∧(I64 (((rd L (u::v::r) d out).i+1)+1 - 1))∧(0≤(((rd L (u::v::r) d out).i+1)+1 - 1))∧∃ (v26:Token),((rd L (u::v::r) d out).l[(((rd L (u::v::r) d out).i+1)+1 - 1).toNat]?=some v26)∧(t.Text.length+1+v26.Text.length≤zaO)∧∃ (r27:Int) (y28:reader) (g29:Nat) (z30:Bool),(zaN (reader.mk (rd L (u::v::r) d out).l (((rd L (u::v::r) d out).i+1)+1) (rd L (u::v::r) d out).deep (rd L (u::v::r) d out).e (rd L (u::v::r) d out).out) g z (Node.mk 4 0 ((t.Text++[46])++v26.Text) [] []) r27 y28 g29 z30)∧r27=r1∧y28=r'∧g29=g'∧z30=z')∧(¬ v.Kind=3→∃ (y31:reader) (g32:Nat) (z33:Bool),(zaF (reader.mk (rd L (u::v::r) d out).l ((rd L (u::v::r) d out).i+1) (rd L (u::v::r) d out).deep (rd L (u::v::r) d out).e (rd L (u::v::r) d out).out) g z 5 y31 g32 z33)∧0=r1∧y31=r'∧g32=g'∧z33=z'))→zcq (rd L (t::u::v::r) d out) g z r1 r' g' z':=fun {g z r1 r' g' z'} h=>goN (ze6 _ _ _ _ _ _ _ _ ⟨fun h'=>absurd h' hT1,fun _=>⟨fun h'=>absurd h' hF1,fun _=>⟨false,_,g,z,q40 g z,fun h'=>(by cases h'),fun _=>⟨true,_,g,z,q46 g z,fun _=>⟨i64',i0',v,hv',h⟩,fun h'=>absurd rfl h'⟩⟩⟩⟩)
        simp only
        by_cases kv:v.Kind=3
        ·rw[if_pos kv]
         have w3:=w2.tail (by rw[kv];decide)
         have s3:=zp s2
         have tl:=hT t (p.s.subset (by simp))
         have vl:=hT v (s2.subset (by simp))
         have i2:=zcJ hL s2 d out
         have nx2:=zb3 s2 rfl d out
         have m1:(1000000000:Int)≤zaO:=by decide
         refine zi9 hL (ts:=t::u::v::r) s3 w3 (by simp only[List.length_cons];omega) (by simp only[List.length_cons] at pk ⊢;omega) _ (F:=zcq) fun {g z r1 r' g' z'} h=>goR ⟨fun _=>⟨by rw[e1];exact i2,by omega,by rw[Int.add_sub_cancel,e1];exact zzW hL (v::r) d out,by rw[Int.add_sub_cancel];exact i0',v,by rw[Int.add_sub_cancel];exact hv',by omega,_,_,_,_,by rw[e1];exact (show reader.mk (rd L (u::v::r) d out).l ((rd L (v::r) d out).i+1) (rd L (u::v::r) d out).deep (rd L (u::v::r) d out).e (rd L (u::v::r) d out).out=rd L r d out from nx2) ▸ h,rfl,rfl,rfl,rfl⟩,fun h'=>absurd kv h'⟩
        rw[if_neg kv]
        intro g z
        exact⟨0,_,g,z,goR ⟨fun h'=>absurd h' kv,fun _=>⟨_,g,z,by rw[nx'];exact za0 d out g z 5,rfl,rfl,rfl,rfl⟩⟩,(zad s2 d out (by decide)).mono (by simp only[List.length_cons];omega)⟩
     rw[if_neg h46]
     have h46:isS [46] ts=false:=by simpa using h46
     rw[h46] at q46
     rw[zaq]
     by_cases h40:isS [40] ts=true
     ·rw[if_pos h40]
      obtain⟨u,r,rfl,hu⟩:=zaC h40
      rw[h40] at q40
      rw[List.tail_cons]
      have:=row (t':=u) (ts':=r) [41] (fun l=>Node.mk 5 0 t.Text [] l) (F:=zcq) ⟨s1,w1,pd,by omega⟩ hu.1 (by simp) fun {g z l y g1 z1 r0 r' g' z'} h1 h2=>goN (ze6 _ _ _ _ _ _ _ _ ⟨fun h'=>absurd h' hT1,fun _=>⟨fun h'=>absurd h' hF1,fun _=>⟨true,_,g,z,q40 g z,fun _=>⟨l,y,g1,z1,h1,_,_,_,_,h2,rfl,rfl,rfl,rfl⟩,fun h'=>absurd rfl h'⟩⟩⟩)
      by_cases hd:64≤d
      ·rw[if_pos hd] at this ⊢;exact this
      rw[if_neg hd] at this ⊢;exact this
     rw[if_neg h40]
     have h40:isS [40] ts=false:=by simpa using h40
     rw[h40] at q40
     intro g z
     exact⟨0,_,g,z,goN (ze6 _ _ _ _ _ _ _ _ ⟨fun h'=>absurd h' hT1,fun _=>⟨fun h'=>absurd h' hF1,fun _=>⟨false,_,g,z,q40 g z,fun h'=>(by cases h'),fun _=>⟨false,_,g,z,q46 g z,fun h'=>(by cases h'),fun _=>⟨_,g,z,za0 d out g z 5,rfl,rfl,rfl,rfl⟩⟩⟩⟩⟩),(zad s1 d out (by decide)).mono (by simp only[List.length_cons];omega)⟩
    rw[if_neg k3]
    by_cases k1:t.Kind=1
    ·rw[if_pos k1]
     have w1:=p.w.tail (by rw[k1];decide)
     exact zi9 hL (ts:=t::ts) s1 w1 (by simp) (by simp only[List.length_cons];omega) _ fun {g z r r' g' z'} h=>zdM _ _ _ _ _ _ _ ⟨fun _=>⟨i0,t,hg,fun _=>⟨i64,r,r',g',z',by rw[nx];exact h,rfl,rfl,rfl,rfl⟩,fun h'=>absurd k1 h'⟩,fun h'=>absurd rfl h'⟩
    rw[if_neg k1]
    by_cases k2:t.Kind=2
    ·rw[if_pos k2]
     have w1:=p.w.tail (by rw[k2];decide)
     exact zi9 hL (ts:=t::ts) s1 w1 (by simp) (by simp only[List.length_cons];omega) _ fun {g z r r' g' z'} h=>zdM _ _ _ _ _ _ _ ⟨fun _=>⟨i0,t,hg,fun h'=>absurd h' k1,fun _=>⟨fun _=>⟨i64,r,r',g',z',by rw[nx];exact h,rfl,rfl,rfl,rfl⟩,fun h'=>absurd k2 h'⟩⟩,fun h'=>absurd rfl h'⟩
    rw[if_neg k2]
    have q91:=fun g z=>zcL p.s p.w.ne d out g z [91]
    have q40:=fun g z=>zcL p.s p.w.ne d out g z [40]
    by_cases h91:isS [91] (t::ts)=true
    ·have hk:t.Kind=4:=by simp only[isS,Bool.and_eq_true,decide_eq_true_eq] at h91;exact h91.1
     rw[if_pos h91,zaq,if_pos h91,List.tail_cons]
     rw[h91] at q91
     have:=row (t':=t) (ts':=ts) [93] (fun l=>Node.mk 6 0 [] [] l) (F:=zcq) p hk (Nat.le_refl _) fun {g z l y g1 z1 r r' g' z'} h1 h2=>zdM _ _ _ _ _ _ _ ⟨fun _=>⟨i0,t,hg,fun h'=>absurd h' k1,fun _=>⟨fun h'=>absurd h' k2,fun _=>⟨fun h'=>absurd h' k3,fun _=>⟨true,_,g,z,q91 g z,fun _=>⟨l,y,g1,z1,h1,_,_,_,_,h2,rfl,rfl,rfl,rfl⟩,fun h'=>absurd rfl h'⟩⟩⟩⟩,fun h'=>absurd rfl h'⟩
     by_cases hd:64≤d
     ·rw[if_pos hd] at this ⊢;exact this
     rw[if_neg hd] at this ⊢;exact this
    rw[if_neg h91]
    have h91:isS [91] (t::ts)=false:=by simpa using h91
    rw[h91] at q91
    rw[zaq]
    by_cases h40:isS [40] (t::ts)=true
    ·rw[if_pos h40,List.tail_cons]
     rw[h40] at q40
     have hk:t.Kind=4:=by simp only[isS,Bool.and_eq_true,decide_eq_true_eq] at h40;exact h40.1
     have w1:=p.w.tail (by rw[hk];decide)
     have go:∀ {g z r r' g' z'},(∃ (y30:reader) (g31:Nat) (z32:Bool),(zdo (rd L (t::ts) d out) g z y30 g31 z32)∧((y30.e=0)→∃ (r33:Int) (y34:reader) (g35:Nat) (z36:Bool),(zcH y30 g31 z32 r33 y34 g35 z36)∧∃ (y37:reader) (g38:Nat) (z39:Bool),(zaY y34 g35 z36 [41] y37 g38 z39)∧(I64 (y37.deep - 1))∧r33=r∧(reader.mk y37.l y37.i (y37.deep - 1) y37.e y37.out)=r'∧g38=g'∧z39=z')∧(¬ (y30.e=0)→0=r∧y30=r'∧g31=g'∧z32=z'))→zcq (rd L (t::ts) d out) g z r r' g' z':=fun {g z r r' g' z'} h=>zdM _ _ _ _ _ _ _ ⟨fun _=>⟨i0,t,hg,fun h'=>absurd h' k1,fun _=>⟨fun h'=>absurd h' k2,fun _=>⟨fun h'=>absurd h' k3,fun _=>⟨false,_,g,z,q91 g z,fun h'=>(by cases h'),fun _=>⟨true,_,g,z,q40 g z,fun _=>h,fun h'=>absurd rfl h'⟩⟩⟩⟩⟩,fun h'=>absurd rfl h'⟩
     by_cases hd:64≤d
     ·rw[if_pos hd]
      intro g z
      exact⟨0,_,g,z,go ⟨_,g,z,zgM hd out g z,fun h=>(by cases h),fun _=>⟨rfl,rfl,rfl,rfl⟩⟩,zad p.s d out (by decide)⟩
     rw[if_neg hd]
     have ho:=fun g z=>zgK hL p.s rfl hd out g z
     have h2:=ih.ex (d+1) ts out ⟨s1,w1,by omega,by omega⟩
     cases hc:zu n (d+1) ts out with
     | no=>exact True.intro
     | er e =>
       rw[hc] at h2
       intro g z
       obtain⟨b,y,g2,z2,q2,bd⟩:=h2 g z
       exact⟨_,_,g2,z2,go ⟨_,g,z,ho g z,fun _=>⟨b,y,g2,z2,q2,y,g2,z2,zbn bd.e0' _ _ _,bd.i64 (by omega),rfl,rfl,rfl,rfl⟩,fun h=>absurd rfl h⟩,bd.out.mono (by simp only[List.length_cons];omega)⟩
     | ok a ts1 out1 =>
       rw[hc] at h2
       obtain⟨s2,w2,l2,k2',q2⟩:=h2
       simp only[PR.bind,zah]
       by_cases hi2:isS [41] ts1=true
       ·rw[if_pos hi2]
        obtain⟨u,r2,rfl,hu⟩:=zaC hi2
        have w4:=w2.tail (by rw[hu.1];decide)
        have s4:=zp s2
        have hw:=fun g z=>zcA hL s2 hi2 (d+1) out1 g z
        simp only[List.tail_cons] at hw ⊢
        simp only[List.length_cons] at l2 k2'
        refine⟨s4,w4,by simp only[List.length_cons];omega,by simp only[List.length_cons];omega,fun g z=>?_⟩
        obtain⟨g1,z1,q⟩:=q2 g z
        exact⟨g1,z1,go ⟨_,g,z,ho g z,fun _=>⟨a,_,g1,z1,q,_,g1,z1,hw g1 z1,zhj L r2 (by omega) out1,rfl,zfJ L r2 d out1,rfl,rfl⟩,fun h=>absurd rfl h⟩⟩
       rw[if_neg hi2]
       have hi2:isS [41] ts1=false:=by simpa using hi2
       intro g z
       obtain⟨g1,z1,q⟩:=q2 g z
       have bd:=zad s2 (d+1) out1 (e:=5) (by decide)
       exact⟨_,_,g1,z1,go ⟨_,g,z,ho g z,fun _=>⟨a,_,g1,z1,q,_,g1,z1,zej s2 w2.ne hi2 (d+1) out1 g1 z1,bd.i64 (by omega),rfl,rfl,rfl,rfl⟩,fun h=>absurd rfl h⟩,bd.out.mono (by simp only[List.length_cons];omega)⟩
    rw[if_neg h40]
    have h40:isS [40] (t::ts)=false:=by simpa using h40
    rw[h40] at q40
    intro g z
    exact⟨0,_,g,z,zdM _ _ _ _ _ _ _ ⟨fun _=>⟨i0,t,hg,fun h'=>absurd h' k1,fun _=>⟨fun h'=>absurd h' k2,fun _=>⟨fun h'=>absurd h' k3,fun _=>⟨false,_,g,z,q91 g z,fun h'=>(by cases h'),fun _=>⟨false,_,g,z,q40 g z,fun h'=>(by cases h'),fun _=>⟨_,g,z,za0 d out g z 5,rfl,rfl,rfl,rfl⟩⟩⟩⟩⟩⟩,fun h'=>absurd rfl h'⟩,zad p.s d out (by decide)⟩
theorem rfA:∀ n,RfA L n∧∀ d t ts out e,Pl L (t::ts) d out→t.Kind=4→RdG L (t::ts) d d (out.length+ts.length) out (fun r g z a r' g' z'=>zdW r g z e a r' g' z') (if 64≤d then .er 6 else zay n (d+1) e ts out):=by
  have key:∀ n,(∀ k,k≤n→RfA L k)∧∀ d t ts out e,Pl L (t::ts) d out→t.Kind=4→RdG L (t::ts) d d (out.length+ts.length) out (fun r g z a r' g' z'=>zdW r g z e a r' g' z') (if 64≤d then .er 6 else zay n (d+1) e ts out):=by
    intro n
    induction n with
    | zero =>
      have a0:RfA L 0:=⟨fun d ts out _=>by rw[zu];exact True.intro,fun k d ts out _ _=>by rw[zA];exact True.intro,fun k d x ts out _ _=>by rw[zam];exact True.intro,fun d ts out _=>by rw[unS];exact True.intro,fun d ts out _=>by rw[zaZ];exact True.intro,fun d x ts out _=>by rw[zaP];exact True.intro,fun d e acc ts out _ _ _=>by rw[zu];exact True.intro,fun d ts out _=>by rw[zaA];exact True.intro⟩
      refine⟨fun k hk=>(show k=0 by omega) ▸ a0,fun d t ts out e p hk=>?_⟩
      by_cases hd:64≤d
      ·have:=zpk hL a0 e p hk
       rw[if_pos hd] at this ⊢
       exact this
      rw[if_neg hd,zay]
      exact True.intro
    | succ n ih =>
      obtain⟨h1,h2⟩:=ih
      have i:=h1 n (Nat.le_refl _)
      have hex:=zv0 hL i
      have a1:RfA L (n+1):=⟨hex,ztF hL i,zvL hL i,zAp hL i,zvV hL i,zAM hL i,fun d e acc ts out ha hd p=>zAo hL i (n+1) (fun k hk=>(h1 k (by omega)).ml) hex d e acc ts out ha hd p,zxn hL hT i h2⟩
      refine⟨fun k hk=>?_,fun d t ts out e p hk=>zpk hL i e p hk⟩
      by_cases hkn:k=n+1
      ·subst hkn;exact a1
      exact h1 k (by omega)
  exact fun n=>⟨(key n).1 n (Nat.le_refl _),(key n).2⟩
end
end Go.Proofs.YtfbcnpbhhooapaaGreatDoor.M
namespace Go.Proofs.YtfbcnpbhhooapaaGreatDoor.M
open Go Classical
theorem zcI:SP 141=some (.code sc_slices_IndexFunc_api_Attr_api_Attr):=ze rfl Tryz.func141 comp_slices_IndexFunc_api_Attr_api_Attr
theorem zcP (xs:List Attr) (g:Nat) (caps:List PV) (p:Attr→Bool) (S:Sto) (hl:xs.length < 9223372036854775808) (h1:∀ S,handA S (PV.upL caps)=some (PV.upL caps,S)) (h2:(PV.upL caps).any PV.hasSl=false) (h3:∀ a,zW a (PV.upL caps)=a++PV.upL caps) (hc:∀ x,x ∈ xs→∀ f,call SP g (.agg (eAttr x)::PV.upL caps) (f::S)=.ok (.v (.bool (p x))) (f::S)):call SP 141 [.list 2 (xs.map eAttr) false,.func g caps] S=.ok (.v (.int .i64 (zc4 p 0 xs))) S:=by
  have loop:∀ (k i:Nat),i+k=xs.length→∀ (e:Nat→PV) (f:Fr),e 0=.list 2 (xs.map eAttr) false∧e 1=.func g (PV.upL caps)∧e 7=.int .i64 ((xs.length:Nat):Int)∧e 8=.int .i64 ((i:Nat):Int)→zP SP (E SP (.loop b_slices_IndexFunc_api_Attr_api_Attr_1) ⟨e,f::S⟩)=.ok (.v (.int .i64 (zc4 p i (xs.drop i)))) S:=by
    intro k
    induction k with
    | zero =>
      intro i hi e f h
      have hlt:¬ (((i:Nat):Int) < ((xs.length:Nat):Int)):=by omega
      rw[List.drop_eq_nil_of_le (by omega)]
      unfold zP zc4
      rw[zm]
      simp only[h,hlt,zy,lw,lx,le,Nat.reduceMul,UInt8.reduceToNat,reduceIte,reduceCtorEq,Nat.reduceEqDiff,Nat.reduceAdd,Nat.reduceLeDiff,Nat.reduceSub,Nat.reduceLT,Int.reduceEq,Int.reduceLT,Int.reduceLE,Int.reduceToNat,Int.reduceAdd,Int.reduceSub,Int.reduceMul,Int.reduceNeg,h1,h2,h3]
    | succ k ih =>
      intro i hi e f h
      have hlt:(((i:Nat):Int) < ((xs.length:Nat):Int)):=by omega
      have hi':i < xs.length:=by omega
      have hv:xs[i]?=some xs[i]:=List.getElem?_eq_getElem hi'
      have hcx:=hc xs[i] (List.getElem_mem hi')
      have w1:IntKind.i64.wrap ((i:Int)+1)=((i+1:Nat):Int):=by rw[zhf (by omega) (by omega)];omega
      rw[List.drop_eq_getElem_cons hi']
      simp only[le] at hcx
      have hi2:=ih (i+1) (by omega)
      unfold zP at hi2 ⊢
      unfold zc4
      rw[zm]
      cases hp:p xs[i] with
      | true =>
        rw[hp] at hcx
        simp only[h,hlt,hv,hcx,w1,zdX,Int.toNat_natCast,zy,lw,lx,le,Nat.reduceMul,UInt8.reduceToNat,reduceIte,reduceCtorEq,Nat.reduceEqDiff,Nat.reduceAdd,Nat.reduceLeDiff,Nat.reduceSub,Nat.reduceLT,Int.reduceEq,Int.reduceLT,Int.reduceLE,Int.reduceToNat,Int.reduceAdd,Int.reduceSub,Int.reduceMul,Int.reduceNeg,h1,h2,h3]
      | false =>
        rw[hp] at hcx
        simp only[h,hlt,hv,hcx,w1,zdX,Int.toNat_natCast,zy,lw,lx,le,Nat.reduceMul,UInt8.reduceToNat,reduceIte,reduceCtorEq,Nat.reduceEqDiff,Nat.reduceAdd,Nat.reduceLeDiff,Nat.reduceSub,Nat.reduceLT,Int.reduceEq,Int.reduceLT,Int.reduceLE,Int.reduceToNat,Int.reduceAdd,Int.reduceSub,Int.reduceMul,Int.reduceNeg,h1,h2,h3]
        rw[hi2 _ _ ?_]
        simp only[h,w1,zy,lw,lx,le,Nat.reduceMul,UInt8.reduceToNat,reduceIte,reduceCtorEq,Nat.reduceEqDiff,Nat.reduceAdd,Nat.reduceLeDiff,Nat.reduceSub,Nat.reduceLT,Int.reduceEq,Int.reduceLT,Int.reduceLE,Int.reduceToNat,Int.reduceAdd,Int.reduceSub,Int.reduceMul,Int.reduceNeg,h1,h2,h3]
  rw[zd zcI _ _ rfl]
  simp only[zy,lw,lx,le,Nat.reduceMul,UInt8.reduceToNat,reduceIte,reduceCtorEq,Nat.reduceEqDiff,Nat.reduceAdd,Nat.reduceLeDiff,Nat.reduceSub,Nat.reduceLT,Int.reduceEq,Int.reduceLT,Int.reduceLE,Int.reduceToNat,Int.reduceAdd,Int.reduceSub,Int.reduceMul,Int.reduceNeg,h1,h2,h3]
  have:=loop xs.length 0 (by omega)
  unfold zP at this
  rw[this _ _ ?_]
  ·rw[List.drop_zero]
  simp only[zy,lw,lx,le,Nat.reduceMul,UInt8.reduceToNat,reduceIte,reduceCtorEq,Nat.reduceEqDiff,Nat.reduceAdd,Nat.reduceLeDiff,Nat.reduceSub,Nat.reduceLT,Int.reduceEq,Int.reduceLT,Int.reduceLE,Int.reduceToNat,Int.reduceAdd,Int.reduceSub,Int.reduceMul,Int.reduceNeg,h1,h2,h3]
  try simp
theorem zcf:SP 99=some (.code sc_slices_ContainsFunc_api_Attr_api_Attr):=ze rfl Tryz.func99 comp_slices_ContainsFunc_api_Attr_api_Attr
theorem zaT (xs:List Attr) (g:Nat) (caps:List PV) (p:Attr→Bool) (S:Sto) (hl:xs.length < 9223372036854775808) (h1:∀ S,handA S (PV.upL caps)=some (PV.upL caps,S)) (h2:(PV.upL caps).any PV.hasSl=false) (h3:∀ a,zW a (PV.upL caps)=a++PV.upL caps) (h1':∀ S,handA S (PV.upL (PV.upL caps))=some (PV.upL (PV.upL caps),S)) (h2':(PV.upL (PV.upL caps)).any PV.hasSl=false) (h3':∀ a,zW a (PV.upL (PV.upL caps))=a++PV.upL (PV.upL caps)) (hc:∀ x,x ∈ xs→∀ f f',call SP g (.agg (eAttr x)::PV.upL (PV.upL caps)) (f::f'::S)=.ok (.v (.bool (p x))) (f::f'::S)):call SP 99 [.list 2 (xs.map eAttr) false,.func g caps] S=.ok (.v (.bool (xs.any p))) S:=by
  have ix:=fun f'=>zcP xs g (PV.upL caps) p (f'::S) hl h1' h2' h3' fun x hx f=>hc x hx f f'
  have hd:=zlM p xs
  rw[zd zcf _ _ rfl]
  simp only[ix,hd,zct,lw,lx,le,Nat.reduceMul,UInt8.reduceToNat,reduceIte,reduceCtorEq,Nat.reduceEqDiff,Nat.reduceAdd,Nat.reduceLeDiff,Nat.reduceSub,Nat.reduceLT,Int.reduceEq,Int.reduceLT,Int.reduceLE,Int.reduceToNat,Int.reduceAdd,Int.reduceSub,Int.reduceMul,Int.reduceNeg,h1,h2,h3]
end Go.Proofs.YtfbcnpbhhooapaaGreatDoor.M

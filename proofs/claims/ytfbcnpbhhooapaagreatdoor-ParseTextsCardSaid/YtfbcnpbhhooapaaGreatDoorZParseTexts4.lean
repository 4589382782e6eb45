/- Parts of a proof, one behind another: Lt5, Wp3, Lt6, Wp1, Wp4, Sc10, Sc9, G10, Lt10, Lt9, Sc1, Lt1, Sc2, Lt2. -/
import Derived.Test.YtfbcnpbhhooapaaGreatDoorZParseTexts3
import Derived.Test.YtfbcnpbhhooapaaGreatDoorProg
import Derived.KernelRfl
set_option linter.unusedSimpArgs false
set_option linter.unusedVariables false
set_option linter.unusedSectionVars false
set_option maxHeartbeats 4000000
namespace Go.Proofs.YtfbcnpbhhooapaaGreatDoor.M
open Go Classical
theorem zxc:SP 103=some (.code sc_Q103):=ze rfl Tryz.func103 comp_Q103
def ze4 (rank:Int) (i13:Int) (x14:PExprs) (g15:Nat) (z16:Bool) (o:Option Int) (r:Int) (x':PExprs) (x'_g2:Nat) (x'_z2:Bool):Prop:=∀ (S:Sto) (e:Nat→PV) (f:Fr) (n0 t0:Nat),((getBox S n0 t0).map (List.take 4)=some [.list 5 (x14.tokens.l.map eToken) false,.int .i64 x14.tokens.pos,.sl 0 (.cell t0 2) 0 x14.out.length x14.out.length g15 false,.int .i64 x14.deep]∧getArr S n0 (.cell t0 2)=some ⟨5,x14.out.map eNode,z16,g15⟩)→e 0=.ptr (n0+1) t0 0∧e 1=.int .i64 rank∧e 5=.int .i64 i13→znJ SP (E SP (.loop b_Q103_1) ⟨e,f::S⟩)=po 116 o (.v (.int .i64 r)) (setArr (setBox S n0 t0 ([.list 5 (x'.tokens.l.map eToken) false,.int .i64 x'.tokens.pos,.sl 0 (.cell t0 2) 0 x'.out.length x'.out.length x'_g2 false,.int .i64 x'.deep]++((getBox S n0 t0).getD []).drop 4)) n0 (.cell t0 2) ⟨5,x'.out.map eNode,x'_z2,x'_g2⟩)
theorem zbm (rank:Int) (i13:Int) (x14:PExprs) (g15:Nat) (z16:Bool) (o:Option Int) (r:Int) (x':PExprs) (x'_g2:Nat) (x'_z2:Bool) (T :
  ∃ (r17:Token) (y18:PTokens),(zaX x14.tokens r17 y18) ∧
 ((r17.Kind=4) →
  ∃ (r19:Token) (y20:PTokens),(zaX y18 r19 y20) ∧
  ∃ (r21:Int) (r22:Bool),(zkS rank r19.Text r21 r22) ∧
  ((r22=true) →
   (I64 (y20.pos+1)) ∧
   (I64 (rank+1)) ∧
   ∃ (o24:Option Int) (r23:Int) (y25:PExprs) (g26:Nat) (z27:Bool),(zgP (PExprs.mk (PTokens.mk y20.l (y20.pos+1)) x14.out x14.deep) g15 z16 (rank+1) o24 r23 y25 g26 z27) ∧
   (match o24 with
   | none=>(∃ (r29:Int) (y30:PExprs) (g31:Nat) (z32:Bool),(zcw y25 g26 z27 r21 [] [i13,r23] r29 y30 g31 z32) ∧
    ((rank=2) →
     none=o∧r29=r∧y30=x'∧g31=x'_g2∧z32=x'_z2) ∧
    (¬ (rank=2) →
     ze4 rank r29 y30 g31 z32 o r x' x'_g2 x'_z2))
   | some e28=>(some e28=o∧y25=x'∧g26=x'_g2∧z27=x'_z2))) ∧
  (¬ (r22=true) →
   none=o∧i13=r∧(PExprs.mk y20 x14.out x14.deep)=x'∧g15=x'_g2∧z16=x'_z2)) ∧
 (¬ (r17.Kind=4) →
  none=o∧i13=r∧(PExprs.mk y18 x14.out x14.deep)=x'∧g15=x'_g2∧z16=x'_z2)):ze4 rank i13 x14 g15 z16 o r x' x'_g2 x'_z2:=by
 intro S e f n0 t0 H0 h
 obtain⟨hb0,ha0⟩:=H0
 obtain⟨w0,hB0⟩:=zg hb0
 have hn0:=zc hB0
 unfold znJ
 rw[zm]
 have F:=zq9
 exact rp n0 t0 (aa ha0<|aa hB0<|aa hn0<|aa h<|F) T
theorem zeO (x:PExprs) (x_g2:Nat) (x_z2:Bool) (rank:Int) (o:Option Int) (r:Int) (x':PExprs) (x'_g2:Nat) (x'_z2:Bool) (T :
  ((rank=5) →
  ∃ (o2:Option Int) (r1:Int) (y3:PExprs) (g4:Nat) (z5:Bool),(zgU x x_g2 x_z2 o2 r1 y3 g4 z5) ∧
  (match o2 with
  | none=>(none=o∧r1=r∧y3=x'∧g4=x'_g2∧z5=x'_z2)
  | some e6=>(some e6=o∧y3=x'∧g4=x'_g2∧z5=x'_z2))) ∧
 (¬ (rank=5) →
  (I64 (rank+1)) ∧
  ∃ (o8:Option Int) (r7:Int) (y9:PExprs) (g10:Nat) (z11:Bool),(zgP x x_g2 x_z2 (rank+1) o8 r7 y9 g10 z11) ∧
  (match o8 with
  | none=>(ze4 rank r7 y9 g10 z11 o r x' x'_g2 x'_z2)
  | some e12=>(some e12=o∧y9=x'∧g10=x'_g2∧z11=x'_z2)))):zgP x x_g2 x_z2 rank o r x' x'_g2 x'_z2:=by
 intro S n0 t0 H0
 obtain⟨hb0,ha0⟩:=H0
 obtain⟨w0,hB0⟩:=zg hb0
 have hn0:=zc hB0
 rw[zd zxc _ _ rfl]
 have F:=zq9
 exact rp n0 t0 (aa ha0<|aa hB0<|aa hn0<|F) T
theorem zyi:SP 68=some (.code sc_Q68):=ze rfl Tryz.func68 comp_Q68
theorem zdD (x:PExprs) (x_g2:Nat) (x_z2:Bool) (o:Option Int) (r:Int) (x':PExprs) (x'_g2:Nat) (x'_z2:Bool) (T :
  ∃ (o2:Option Int) (r1:Int) (y3:PExprs) (g4:Nat) (z5:Bool),(zgP x x_g2 x_z2 0 o2 r1 y3 g4 z5) ∧
 (match o2 with
 | none=>(∃ (r7:Bool) (y8:PTokens),(zcx y3.tokens [63] r7 y8) ∧
  ((r7=true) →
   ∃ (o9:Option Int) (y10:PExprs) (g11:Nat) (z12:Bool),(zc1 (PExprs.mk y8 y3.out y3.deep) g4 z5 [63] o9 y10 g11 z12) ∧
   (match o9 with
   | none=>(∃ (o15:Option Int) (r14:Int) (y16:PExprs) (g17:Nat) (z18:Bool),(zeC y10 g11 z12 o15 r14 y16 g17 z18) ∧
    (match o15 with
    | none=>(∃ (o20:Option Int) (y21:PTokens),(zbi y16.tokens [58] o20 y21) ∧
     (match o20 with
     | none=>(∃ (o24:Option Int) (r23:Int) (y25:PExprs) (g26:Nat) (z27:Bool),(zeC (PExprs.mk y21 y16.out y16.deep) g17 z18 o24 r23 y25 g26 z27) ∧
      (match o24 with
      | none=>((I64 (y25.deep - 1)) ∧
       ∃ (r29:Int) (y30:PExprs) (g31:Nat) (z32:Bool),(zcw (PExprs.mk y25.tokens y25.out (y25.deep - 1)) g26 z27 10 [] [r1,r14,r23] r29 y30 g31 z32) ∧
       none=o∧r29=r∧y30=x'∧g31=x'_g2∧z32=x'_z2)
      | some e28=>(some e28=o∧y25=x'∧g26=x'_g2∧z27=x'_z2)))
     | some e22=>(some e22=o∧(PExprs.mk y21 y16.out y16.deep)=x'∧g17=x'_g2∧z18=x'_z2)))
    | some e19=>(some e19=o∧y16=x'∧g17=x'_g2∧z18=x'_z2)))
   | some e13=>(some e13=o∧y10=x'∧g11=x'_g2∧z12=x'_z2))) ∧
  (¬ (r7=true) →
   none=o∧r1=r∧(PExprs.mk y8 y3.out y3.deep)=x'∧g4=x'_g2∧z5=x'_z2))
 | some e6=>(some e6=o∧y3=x'∧g4=x'_g2∧z5=x'_z2))):zeC x x_g2 x_z2 o r x' x'_g2 x'_z2:=by
 intro S n0 t0 H0
 obtain⟨hb0,ha0⟩:=H0
 obtain⟨w0,hB0⟩:=zg hb0
 have hn0:=zc hB0
 rw[zd zyi _ _ rfl]
 have F:=zAO
 exact rp n0 t0 (aa ha0<|aa hB0<|aa hn0<|F) T
theorem zvZ:SP 142=some (.code sc_Q142):=ze rfl Tryz.func142 comp_Q142
theorem zcc (x:PExprs) (x_g2:Nat) (x_z2:Bool) (o:Option Int) (r:Int) (x':PExprs) (x'_g2:Nat) (x'_z2:Bool) (T :
  ∃ (r1:Bool) (y2:PTokens),(zcx x.tokens [45] r1 y2) ∧
 ((r1=true) →
  ∃ (o3:Option Int) (y4:PExprs) (g5:Nat) (z6:Bool),(zc1 (PExprs.mk y2 x.out x.deep) x_g2 x_z2 [45] o3 y4 g5 z6) ∧
  (match o3 with
  | none=>(∃ (o9:Option Int) (r8:Int) (y10:PExprs) (g11:Nat) (z12:Bool),(zgU y4 g5 z6 o9 r8 y10 g11 z12) ∧
   (match o9 with
   | none=>((I64 (y10.deep - 1)) ∧
    ∃ (r14:Int) (y15:PExprs) (g16:Nat) (z17:Bool),(zcw (PExprs.mk y10.tokens y10.out (y10.deep - 1)) g11 z12 9 [] [r8] r14 y15 g16 z17) ∧
    none=o∧r14=r∧y15=x'∧g16=x'_g2∧z17=x'_z2)
   | some e13=>(some e13=o∧y10=x'∧g11=x'_g2∧z12=x'_z2)))
  | some e7=>(some e7=o∧y4=x'∧g5=x'_g2∧z6=x'_z2))) ∧
 (¬ (r1=true) →
  ∃ (r18:Bool) (y19:PTokens),(zcx y2 [33] r18 y19) ∧
  ((r18=true) →
   ∃ (o20:Option Int) (y21:PExprs) (g22:Nat) (z23:Bool),(zc1 (PExprs.mk y19 x.out x.deep) x_g2 x_z2 [33] o20 y21 g22 z23) ∧
   (match o20 with
   | none=>(∃ (o26:Option Int) (r25:Int) (y27:PExprs) (g28:Nat) (z29:Bool),(zgU y21 g22 z23 o26 r25 y27 g28 z29) ∧
    (match o26 with
    | none=>((I64 (y27.deep - 1)) ∧
     ∃ (r31:Int) (y32:PExprs) (g33:Nat) (z34:Bool),(zcw (PExprs.mk y27.tokens y27.out (y27.deep - 1)) g28 z29 8 [] [r25] r31 y32 g33 z34) ∧
     none=o∧r31=r∧y32=x'∧g33=x'_g2∧z34=x'_z2)
    | some e30=>(some e30=o∧y27=x'∧g28=x'_g2∧z29=x'_z2)))
   | some e24=>(some e24=o∧y21=x'∧g22=x'_g2∧z23=x'_z2))) ∧
  (¬ (r18=true) →
   ∃ (o36:Option Int) (r35:Int) (y37:PExprs) (g38:Nat) (z39:Bool),(zkn (PExprs.mk y19 x.out x.deep) x_g2 x_z2 o36 r35 y37 g38 z39) ∧
   (match o36 with
   | none=>(none=o∧r35=r∧y37=x'∧g38=x'_g2∧z39=x'_z2)
   | some e40=>(some e40=o∧y37=x'∧g38=x'_g2∧z39=x'_z2))))):zgU x x_g2 x_z2 o r x' x'_g2 x'_z2:=by
 intro S n0 t0 H0
 obtain⟨hb0,ha0⟩:=H0
 obtain⟨w0,hB0⟩:=zg hb0
 have hn0:=zc hB0
 rw[zd zvZ _ _ rfl]
 have F:=zyx
 exact rp n0 t0 (aa ha0<|aa hB0<|aa hn0<|F) T
theorem zwY:SP 167=some (.code sc_Q167):=ze rfl Tryz.func167 comp_Q167
def zeQ (i7:Int) (x8:PExprs) (g9:Nat) (z10:Bool) (o:Option Int) (r:Int) (x':PExprs) (x'_g2:Nat) (x'_z2:Bool):Prop:=∀ (S:Sto) (e:Nat→PV) (f:Fr) (n0 t0:Nat),((getBox S n0 t0).map (List.take 4)=some [.list 5 (x8.tokens.l.map eToken) false,.int .i64 x8.tokens.pos,.sl 0 (.cell t0 2) 0 x8.out.length x8.out.length g9 false,.int .i64 x8.deep]∧getArr S n0 (.cell t0 2)=some ⟨5,x8.out.map eNode,z10,g9⟩)→e 0=.ptr (n0+1) t0 0∧e 3=.int .i64 i7→zn2 SP (E SP (.loop b_Q167_1) ⟨e,f::S⟩)=po 116 o (.v (.int .i64 r)) (setArr (setBox S n0 t0 ([.list 5 (x'.tokens.l.map eToken) false,.int .i64 x'.tokens.pos,.sl 0 (.cell t0 2) 0 x'.out.length x'.out.length x'_g2 false,.int .i64 x'.deep]++((getBox S n0 t0).getD []).drop 4)) n0 (.cell t0 2) ⟨5,x'.out.map eNode,x'_z2,x'_g2⟩)
theorem zbl (i7:Int) (x8:PExprs) (g9:Nat) (z10:Bool) (o:Option Int) (r:Int) (x':PExprs) (x'_g2:Nat) (x'_z2:Bool) (T :
  ∃ (r11:Bool) (y12:PTokens),(zcx x8.tokens [91] r11 y12) ∧
 ((r11=true) →
  ∃ (o13:Option Int) (y14:PExprs) (g15:Nat) (z16:Bool),(zc1 (PExprs.mk y12 x8.out x8.deep) g9 z10 [91] o13 y14 g15 z16) ∧
  (match o13 with
  | none=>(∃ (o19:Option Int) (r18:Int) (y20:PExprs) (g21:Nat) (z22:Bool),(zeC y14 g15 z16 o19 r18 y20 g21 z22) ∧
   (match o19 with
   | none=>(∃ (o24:Option Int) (y25:PExprs) (g26:Nat) (z27:Bool),(zfQ y20 g21 z22 [93] o24 y25 g26 z27) ∧
    (match o24 with
    | none=>(∃ (r29:Int) (y30:PExprs) (g31:Nat) (z32:Bool),(zcw y25 g26 z27 7 [] [i7,r18] r29 y30 g31 z32) ∧
     zeQ r29 y30 g31 z32 o r x' x'_g2 x'_z2)
    | some e28=>(some e28=o∧y25=x'∧g26=x'_g2∧z27=x'_z2)))
   | some e23=>(some e23=o∧y20=x'∧g21=x'_g2∧z22=x'_z2)))
  | some e17=>(some e17=o∧y14=x'∧g15=x'_g2∧z16=x'_z2))) ∧
 (¬ (r11=true) →
  none=o∧i7=r∧(PExprs.mk y12 x8.out x8.deep)=x'∧g9=x'_g2∧z10=x'_z2)):zeQ i7 x8 g9 z10 o r x' x'_g2 x'_z2:=by
 intro S e f n0 t0 H0 h
 obtain⟨hb0,ha0⟩:=H0
 obtain⟨w0,hB0⟩:=zg hb0
 have hn0:=zc hB0
 unfold zn2
 rw[zm]
 have F:=zsl
 exact rp n0 t0 (aa ha0<|aa hB0<|aa hn0<|aa h<|F) T
theorem zil (x:PExprs) (x_g2:Nat) (x_z2:Bool) (o:Option Int) (r:Int) (x':PExprs) (x'_g2:Nat) (x'_z2:Bool) (T :
  ∃ (o2:Option Int) (r1:Int) (y3:PExprs) (g4:Nat) (z5:Bool),(zke x x_g2 x_z2 o2 r1 y3 g4 z5) ∧
 (match o2 with
 | none=>(zeQ r1 y3 g4 z5 o r x' x'_g2 x'_z2)
 | some e6=>(some e6=o∧y3=x'∧g4=x'_g2∧z5=x'_z2))):zkn x x_g2 x_z2 o r x' x'_g2 x'_z2:=by
 intro S n0 t0 H0
 obtain⟨hb0,ha0⟩:=H0
 obtain⟨w0,hB0⟩:=zg hb0
 have hn0:=zc hB0
 rw[zd zwY _ _ rfl]
 have F:=zsl
 exact rp n0 t0 (aa ha0<|aa hB0<|aa hn0<|F) T
theorem zvK:SP 203=some (.code sc_Q203):=ze rfl Tryz.func203 comp_Q203
def ze5 (end_:List UInt8) (l14:List Int) (x15:PExprs) (g16:Nat) (z17:Bool) (o:Option Int) (r:List Int) (x':PExprs) (x'_g2:Nat) (x'_z2:Bool):Prop:=∀ (S:Sto) (e:Nat→PV) (f:Fr) (n0 t0:Nat),((getBox S n0 t0).map (List.take 4)=some [.list 5 (x15.tokens.l.map eToken) false,.int .i64 x15.tokens.pos,.sl 0 (.cell t0 2) 0 x15.out.length x15.out.length g16 false,.int .i64 x15.deep]∧getArr S n0 (.cell t0 2)=some ⟨5,x15.out.map eNode,z17,g16⟩)→e 0=.ptr (n0+1) t0 0∧e 1=.str end_∧e 5=.sl 0 (.slot 5) 0 l14.length l14.length 0 false∧f.arr (.slot 5)=some ⟨1,l14.map eI,false,0⟩→zn8 SP (E SP (.loop b_Q203_1) ⟨e,f::S⟩)=po 116 o (.arr 1 (r.map eI) false) (setArr (setBox S n0 t0 ([.list 5 (x'.tokens.l.map eToken) false,.int .i64 x'.tokens.pos,.sl 0 (.cell t0 2) 0 x'.out.length x'.out.length x'_g2 false,.int .i64 x'.deep]++((getBox S n0 t0).getD []).drop 4)) n0 (.cell t0 2) ⟨5,x'.out.map eNode,x'_z2,x'_g2⟩)
theorem zb6 (end_:List UInt8) (l14:List Int) (x15:PExprs) (g16:Nat) (z17:Bool) (o:Option Int) (r:List Int) (x':PExprs) (x'_g2:Nat) (x'_z2:Bool) (T :
  ∃ (r18:Bool) (y19:PTokens),(zec x15.tokens [44] r18 y19) ∧
 ((r18=true) →
  ∃ (o21:Option Int) (r20:Int) (y22:PExprs) (g23:Nat) (z24:Bool),(zeC (PExprs.mk y19 x15.out x15.deep) g16 z17 o21 r20 y22 g23 z24) ∧
  (match o21 with
  | none=>((bigRow (l14.length+1) 8) ∧
   ze5 end_ (l14++[r20]) y22 g23 z24 o r x' x'_g2 x'_z2)
  | some e25=>(some e25=o∧y22=x'∧g23=x'_g2∧z24=x'_z2))) ∧
 (¬ (r18=true) →
  ∃ (o26:Option Int) (y27:PExprs) (g28:Nat) (z29:Bool),(zfQ (PExprs.mk y19 x15.out x15.deep) g16 z17 end_ o26 y27 g28 z29) ∧
  (match o26 with
  | none=>(none=o∧l14=r∧y27=x'∧g28=x'_g2∧z29=x'_z2)
  | some e30=>(some e30=o∧y27=x'∧g28=x'_g2∧z29=x'_z2)))):ze5 end_ l14 x15 g16 z17 o r x' x'_g2 x'_z2:=by
 intro S e f n0 t0 H0 h
 obtain⟨hb0,ha0⟩:=H0
 obtain⟨w0,hB0⟩:=zg hb0
 have hn0:=zc hB0
 unfold zn8
 rw[zm]
 have F:=zre
 exact rp n0 t0 (aa ha0<|aa hB0<|aa hn0<|aa h<|F) T
theorem zf6 (x:PExprs) (x_g2:Nat) (x_z2:Bool) (end_:List UInt8) (o:Option Int) (r:List Int) (x':PExprs) (x'_g2:Nat) (x'_z2:Bool) (T :
  ∃ (r1:Bool) (y2:PTokens),(zcx x.tokens end_ r1 y2) ∧
 ((r1=true) →
  ∃ (o3:Option Int) (y4:PExprs) (g5:Nat) (z6:Bool),(zfQ (PExprs.mk y2 x.out x.deep) x_g2 x_z2 end_ o3 y4 g5 z6) ∧
  (match o3 with
  | none=>(none=o∧[]=r∧y4=x'∧g5=x'_g2∧z6=x'_z2)
  | some e7=>(some e7=o∧y4=x'∧g5=x'_g2∧z6=x'_z2))) ∧
 (¬ (r1=true) →
  ∃ (o9:Option Int) (r8:Int) (y10:PExprs) (g11:Nat) (z12:Bool),(zeC (PExprs.mk y2 x.out x.deep) x_g2 x_z2 o9 r8 y10 g11 z12) ∧
  (match o9 with
  | none=>(ze5 end_ [r8] y10 g11 z12 o r x' x'_g2 x'_z2)
  | some e13=>(some e13=o∧y10=x'∧g11=x'_g2∧z12=x'_z2)))):zh7 x x_g2 x_z2 end_ o r x' x'_g2 x'_z2:=by
 intro S n0 t0 H0
 obtain⟨hb0,ha0⟩:=H0
 obtain⟨w0,hB0⟩:=zg hb0
 have hn0:=zc hB0
 rw[zd zvK _ _ rfl]
 have F:=zre
 exact rp n0 t0 (aa ha0<|aa hB0<|aa hn0<|F) T
theorem zy7:SP 64=some (.code sc_Q64):=ze rfl Tryz.func64 comp_Q64
theorem zeg (b:PBlocks) (b_g2:Nat) (b_z2:Bool) (o:Option Int) (r:List UInt8) (b':PBlocks) (b'_g2:Nat) (b'_z2:Bool) (T :
  ∃ (r1:Token) (y2:PTokens),(zaX b.exprs.tokens r1 y2) ∧
 ((r1.Kind=2) →
  (((r1.Parts.length:Int)=1) →
   ∃ (v3:Part),(r1.Parts[0]?=some v3) ∧
   ((v3.Ref=true) →
    ∃ (o4:Option Int) (y5:PTokens),(zbc y2 5 o4 y5) ∧
    (match o4 with
    | none=>(False )
    | some e6=>(some e6=o∧(PBlocks.mk (PExprs.mk y5 b.exprs.out b.exprs.deep))=b'∧b_g2=b'_g2∧b_z2=b'_z2))) ∧
   (¬ (v3.Ref=true) →
    ∃ (r7:Bool),(zds v3.Text r7) ∧
    ((r7=true) →
     (I64 (y2.pos+1)) ∧
     none=o∧v3.Text=r∧(PBlocks.mk (PExprs.mk (PTokens.mk y2.l (y2.pos+1)) b.exprs.out b.exprs.deep))=b'∧b_g2=b'_g2∧b_z2=b'_z2) ∧
    (¬ (r7=true) →
     ∃ (o8:Option Int) (y9:PTokens),(zbc y2 5 o8 y9) ∧
     (match o8 with
     | none=>(False )
     | some e10=>(some e10=o∧(PBlocks.mk (PExprs.mk y9 b.exprs.out b.exprs.deep))=b'∧b_g2=b'_g2∧b_z2=b'_z2))))) ∧
  (¬ ((r1.Parts.length:Int)=1) →
   ∃ (o11:Option Int) (y12:PTokens),(zbc y2 5 o11 y12) ∧
   (match o11 with
   | none=>(False )
   | some e13=>(some e13=o∧(PBlocks.mk (PExprs.mk y12 b.exprs.out b.exprs.deep))=b'∧b_g2=b'_g2∧b_z2=b'_z2)))) ∧
 (¬ (r1.Kind=2) →
  ∃ (o14:Option Int) (y15:PTokens),(zbc y2 5 o14 y15) ∧
  (match o14 with
  | none=>(False )
  | some e16=>(some e16=o∧(PBlocks.mk (PExprs.mk y15 b.exprs.out b.exprs.deep))=b'∧b_g2=b'_g2∧b_z2=b'_z2)))):zi0 b b_g2 b_z2 o r b' b'_g2 b'_z2:=by
 intro S n0 t0 H0
 obtain⟨hb0,ha0⟩:=H0
 obtain⟨w0,hB0⟩:=zg hb0
 have hn0:=zc hB0
 rw[zd zy7 _ _ rfl]
 have F:=zAG
 exact rp n0 t0 (aa ha0<|aa hB0<|aa hn0<|F) T
theorem zwS:SP 100=some (.code sc_Q100):=ze rfl Tryz.func100 comp_Q100
theorem zme (a:Attr) (c0_:List UInt8) (r:Bool) (T :
  (decide (a.Name=c0_))=r):zgG a c0_ r:=by
 intro S n1 t1 H0
 have hb0:=H0
 obtain⟨w0,hB0⟩:=zg hb0
 have hn0:=zc hB0
 rw[zd zwS _ _ rfl]
 have F:=zyL
 exact rn (aa hB0<|aa hn0<|F) T
theorem znW:SP 65=some (.code sc_Q65):=ze rfl Tryz.func65 comp_Q65
theorem zX {xs:List Attr} {c0:List UInt8} {p:Attr→Bool} (hl:xs.length < 9223372036854775808) (hp:∀ x,x ∈ xs→zgG x c0 (p x)):∀ (S:Sto) (n0:Nat) (t0:Nat),(getBox S n0 t0).map (List.take 1)=some [.str c0]→call SP 99 [.list 2 (xs.map eAttr) false,.func 100 [.ptr n0 t0 0]] S=.ok (.v (.bool (xs.any p))) S:=by
 intro S n0 t0 h0
 refine zaT xs 100 [.ptr n0 t0 0] p S hl (by intro S;rfl) (by rfl) (by intro a;rfl) (by intro S;rfl) (by rfl) (by intro a;rfl) ?_
 intro x hx f f'
 have:=hp x hx (f::f'::S) (n0+1+1) t0 (by simpa only[lw] using h0)
 simpa only[PV.upL,PV.up] using this
def ziR (l4:List Attr) (b5:PBlocks) (g6:Nat) (z7:Bool) (o:Option Int) (r:List Attr) (b':PBlocks) (b'_g2:Nat) (b'_z2:Bool):Prop:=(∀ (S:Sto) (e:Nat→PV) (f:Fr) (n0 t0:Nat),((getBox S n0 t0).map (List.take 4)=some [.list 5 (b5.exprs.tokens.l.map eToken) false,.int .i64 b5.exprs.tokens.pos,.sl 0 (.cell t0 2) 0 b5.exprs.out.length b5.exprs.out.length g6 false,.int .i64 b5.exprs.deep]∧getArr S n0 (.cell t0 2)=some ⟨5,b5.exprs.out.map eNode,z7,g6⟩)→e 0=.ptr (n0+1) t0 0∧e 3=.sl 0 (.slot 3) 0 l4.length l4.length 0 false∧f.arr (.slot 3)=some ⟨2,l4.map eAttr,false,0⟩→zZ SP (E SP (.loop b_Q100) ⟨e,f::S⟩)=po 116 o (.v (.list 2 (r.map eAttr) false)) (setArr (setBox S n0 t0 ([.list 5 (b'.exprs.tokens.l.map eToken) false,.int .i64 b'.exprs.tokens.pos,.sl 0 (.cell t0 2) 0 b'.exprs.out.length b'.exprs.out.length b'_g2 false,.int .i64 b'.exprs.deep]++((getBox S n0 t0).getD []).drop 4)) n0 (.cell t0 2) ⟨5,b'.exprs.out.map eNode,b'_z2,b'_g2⟩))∨(∀ (S:Sto) (e:Nat→PV) (f:Fr) (n0 t0:Nat),((getBox S n0 t0).map (List.take 4)=some [.list 5 (b5.exprs.tokens.l.map eToken) false,.int .i64 b5.exprs.tokens.pos,.sl 0 (.cell t0 2) 0 b5.exprs.out.length b5.exprs.out.length g6 false,.int .i64 b5.exprs.deep]∧getArr S n0 (.cell t0 2)=some ⟨5,b5.exprs.out.map eNode,z7,g6⟩)→e 0=.ptr (n0+1) t0 0∧e 3=.sl 0 (.slot 3) 0 l4.length l4.length 0 false∧f.arr (.slot 3)=some ⟨2,l4.map eAttr,false,0⟩→zZ SP (E SP (.loop b_Q100) ⟨e,f::S⟩)=po 116 o (.arr 2 (r.map eAttr) false) (setArr (setBox S n0 t0 ([.list 5 (b'.exprs.tokens.l.map eToken) false,.int .i64 b'.exprs.tokens.pos,.sl 0 (.cell t0 2) 0 b'.exprs.out.length b'.exprs.out.length b'_g2 false,.int .i64 b'.exprs.deep]++((getBox S n0 t0).getD []).drop 4)) n0 (.cell t0 2) ⟨5,b'.exprs.out.map eNode,b'_z2,b'_g2⟩))
def zeZ (l31:List Attr) (b32:PBlocks) (g33:Nat) (z34:Bool) (o:Option Int) (r:List Attr) (b':PBlocks) (b'_g2:Nat) (b'_z2:Bool):Prop:=(∀ (S:Sto) (e:Nat→PV) (f:Fr) (n0 t0:Nat),((getBox S n0 t0).map (List.take 4)=some [.list 5 (b32.exprs.tokens.l.map eToken) false,.int .i64 b32.exprs.tokens.pos,.sl 0 (.cell t0 2) 0 b32.exprs.out.length b32.exprs.out.length g33 false,.int .i64 b32.exprs.deep]∧getArr S n0 (.cell t0 2)=some ⟨5,b32.exprs.out.map eNode,z34,g33⟩)→e 0=.ptr (n0+1) t0 0∧e 3=.sl 0 (.slot 3) 0 l31.length l31.length 0 false∧f.arr (.slot 3)=some ⟨2,l31.map eAttr,true,0⟩→zZ SP (E SP (.loop b_Q100) ⟨e,f::S⟩)=po 116 o (.v (.list 2 (r.map eAttr) false)) (setArr (setBox S n0 t0 ([.list 5 (b'.exprs.tokens.l.map eToken) false,.int .i64 b'.exprs.tokens.pos,.sl 0 (.cell t0 2) 0 b'.exprs.out.length b'.exprs.out.length b'_g2 false,.int .i64 b'.exprs.deep]++((getBox S n0 t0).getD []).drop 4)) n0 (.cell t0 2) ⟨5,b'.exprs.out.map eNode,b'_z2,b'_g2⟩))∨(∀ (S:Sto) (e:Nat→PV) (f:Fr) (n0 t0:Nat),((getBox S n0 t0).map (List.take 4)=some [.list 5 (b32.exprs.tokens.l.map eToken) false,.int .i64 b32.exprs.tokens.pos,.sl 0 (.cell t0 2) 0 b32.exprs.out.length b32.exprs.out.length g33 false,.int .i64 b32.exprs.deep]∧getArr S n0 (.cell t0 2)=some ⟨5,b32.exprs.out.map eNode,z34,g33⟩)→e 0=.ptr (n0+1) t0 0∧e 3=.sl 0 (.slot 3) 0 l31.length l31.length 0 false∧f.arr (.slot 3)=some ⟨2,l31.map eAttr,true,0⟩→zZ SP (E SP (.loop b_Q100) ⟨e,f::S⟩)=po 116 o (.arr 2 (r.map eAttr) false) (setArr (setBox S n0 t0 ([.list 5 (b'.exprs.tokens.l.map eToken) false,.int .i64 b'.exprs.tokens.pos,.sl 0 (.cell t0 2) 0 b'.exprs.out.length b'.exprs.out.length b'_g2 false,.int .i64 b'.exprs.deep]++((getBox S n0 t0).getD []).drop 4)) n0 (.cell t0 2) ⟨5,b'.exprs.out.map eNode,b'_z2,b'_g2⟩))
theorem zbr (l4:List Attr) (b5:PBlocks) (g6:Nat) (z7:Bool) (o:Option Int) (r:List Attr) (b':PBlocks) (b'_g2:Nat) (b'_z2:Bool) (T :
  ∃ (r8:Bool) (y9:PTokens),(zec b5.exprs.tokens [125] r8 y9) ∧
 ((r8=true) →
  none=o∧l4=r∧(PBlocks.mk (PExprs.mk y9 b5.exprs.out b5.exprs.deep))=b'∧g6=b'_g2∧z7=b'_z2) ∧
 (¬ (r8=true) →
  ∃ (r10:Token) (y11:PTokens),(zaX y9 r10 y11) ∧
  ∃ (r12:Token) (y13:PTokens),(zaX y11 r12 y13) ∧
  ((r12.Kind=3) →
   (l4.length < 9223372036854775808) ∧
   ∃ (pp14:Attr→Bool),(∀ x,x ∈ l4→zgG x r10.Text (pp14 x)) ∧
   (((l4.any pp14)=true) →
    ∃ (o15:Option Int) (y16:PTokens),(zbc y13 3 o15 y16) ∧
    (match o15 with
    | none=>(False )
    | some e17=>(some e17=o∧(PBlocks.mk (PExprs.mk y16 b5.exprs.out b5.exprs.deep))=b'∧g6=b'_g2∧z7=b'_z2))) ∧
   (¬ ((l4.any pp14)=true) →
    ∃ (o19:Option Int) (r18:List UInt8) (y20:PTokens),(zb4 y13 o19 r18 y20) ∧
    (match o19 with
    | none=>(∃ (o22:Option Int) (y23:PTokens),(zbi y20 [61] o22 y23) ∧
     (match o22 with
     | none=>(∃ (o26:Option Int) (r25:List Node) (y27:PExprs) (g28:Nat) (z29:Bool),(zdr (PExprs.mk y23 b5.exprs.out b5.exprs.deep) g6 z7 o26 r25 y27 g28 z29) ∧
      (match o26 with
      | none=>((bigRow (l4.length+1) 40) ∧
       zeZ (l4++[(Attr.mk r18 r25)]) (PBlocks.mk y27) g28 z29 o r b' b'_g2 b'_z2)
      | some e30=>(some e30=o∧(PBlocks.mk y27)=b'∧g28=b'_g2∧z29=b'_z2)))
     | some e24=>(some e24=o∧(PBlocks.mk (PExprs.mk y23 b5.exprs.out b5.exprs.deep))=b'∧g6=b'_g2∧z7=b'_z2)))
    | some e21=>(some e21=o∧(PBlocks.mk (PExprs.mk y20 b5.exprs.out b5.exprs.deep))=b'∧g6=b'_g2∧z7=b'_z2)))) ∧
  (¬ (r12.Kind=3) →
   ∃ (o36:Option Int) (r35:List UInt8) (y37:PTokens),(zb4 y13 o36 r35 y37) ∧
   (match o36 with
   | none=>(∃ (o39:Option Int) (y40:PTokens),(zbi y37 [61] o39 y40) ∧
    (match o39 with
    | none=>(∃ (o43:Option Int) (r42:List Node) (y44:PExprs) (g45:Nat) (z46:Bool),(zdr (PExprs.mk y40 b5.exprs.out b5.exprs.deep) g6 z7 o43 r42 y44 g45 z46) ∧
     (match o43 with
     | none=>((bigRow (l4.length+1) 40) ∧
      ziR (l4++[(Attr.mk r35 r42)]) (PBlocks.mk y44) g45 z46 o r b' b'_g2 b'_z2)
     | some e47=>(some e47=o∧(PBlocks.mk y44)=b'∧g45=b'_g2∧z46=b'_z2)))
    | some e41=>(some e41=o∧(PBlocks.mk (PExprs.mk y40 b5.exprs.out b5.exprs.deep))=b'∧g6=b'_g2∧z7=b'_z2)))
   | some e38=>(some e38=o∧(PBlocks.mk (PExprs.mk y37 b5.exprs.out b5.exprs.deep))=b'∧g6=b'_g2∧z7=b'_z2))))):ziR l4 b5 g6 z7 o r b' b'_g2 b'_z2:=by
 have F:=zqG
 obtain⟨r8,y9,q1,T⟩:=T
 simp only[zec,lF] at q1
 replace F:=aa q1<|F
 by_cases c2:r8=true
 ·replace T:=T.1 c2
  obtain⟨rfl,rfl,rfl,rfl,rfl⟩:=T
  right
  intro S e f n0 t0 H0 h
  obtain⟨hb0,ha0⟩:=H0
  obtain⟨w0,hB0⟩:=zg hb0
  have hn0:=zc hB0
  replace F:=aa ha0<|aa hB0<|aa hn0<|aa h<|F
  unfold zZ
  rw[zm]
  exact fi (aa c2<|F)
 replace T:=T.2 c2
 replace c2:=Bool.eq_false_iff.2 c2
 obtain⟨r10,y11,q3,r12,y13,q4,T⟩:=T
 simp only[zaX,lF] at q3
 simp only[zaX,lF] at q4
 replace F:=aa c2<|aa q3<|aa q4<|F
 by_cases c5:r12.Kind=3
 ·replace T:=T.1 c5
  obtain⟨p6,pp14,q7,T⟩:=T
  have o7:=zX  p6 q7
  try simp only[le] at o7
  replace F:=aa (eq_true c5)<|aa p6<|aa o7<|F
  by_cases c8:(l4.any pp14)=true
  ·replace T:=T.1 c8
   obtain⟨o15,y16,q9,T⟩:=T
   simp only[zbc,lF] at q9
   replace F:=aa c8<|aa q9<|F
   cases o15 with
   | none=>exact False.elim T
   | some e17 =>
     dsimp only at T
     obtain⟨rfl,rfl,rfl,rfl⟩:=T
     right
     intro S e f n0 t0 H0 h
     obtain⟨hb0,ha0⟩:=H0
     obtain⟨w0,hB0⟩:=zg hb0
     have hn0:=zc hB0
     replace F:=aa ha0<|aa hB0<|aa hn0<|aa h<|F
     unfold zZ
     rw[zm]
     exact fi F
  replace T:=T.2 c8
  replace c8:=Bool.eq_false_iff.2 c8
  obtain⟨o19,r18,y20,q10,T⟩:=T
  simp only[zb4,lF] at q10
  replace F:=aa c8<|aa q10<|F
  cases o19 with
  | none =>
    dsimp only at T
    obtain⟨o22,y23,q11,T⟩:=T
    simp only[zbi,lF] at q11
    replace F:=aa q11<|F
    cases o22 with
    | none =>
      dsimp only at T
      obtain⟨o26,r25,y27,g28,z29,q12,T⟩:=T
      simp only[zdr,lF] at q12
      replace F:=aa q12<|F
      cases o26 with
      | none =>
        dsimp only at T
        obtain⟨p13,T⟩:=T
        simp only[bigRow] at p13
        replace F:=aa p13<|F
        rcases T with T | T
        ·left
         intro S e f n0 t0 H0 h
         obtain⟨hb0,ha0⟩:=H0
         obtain⟨w0,hB0⟩:=zg hb0
         have hn0:=zc hB0
         replace F:=aa ha0<|aa hB0<|aa hn0<|aa h<|F
         unfold zZ
         rw[zm]
         try simp only[F,lw,lx,le,Nat.reduceMul,UInt8.reduceToNat,reduceIte,reduceCtorEq,Nat.reduceEqDiff,Nat.reduceAdd,Nat.reduceLeDiff,Nat.reduceSub,Nat.reduceLT,Int.reduceEq,Int.reduceLT,Int.reduceLE,Int.reduceToNat,Int.reduceAdd,Int.reduceSub,Int.reduceMul,Int.reduceNeg]
         refine (T _ _ _ n0 t0 ?_ ?_).trans ?_
         all_goals exact fi F
        right
        intro S e f n0 t0 H0 h
        obtain⟨hb0,ha0⟩:=H0
        obtain⟨w0,hB0⟩:=zg hb0
        have hn0:=zc hB0
        replace F:=aa ha0<|aa hB0<|aa hn0<|aa h<|F
        unfold zZ
        rw[zm]
        try simp only[F,lw,lx,le,Nat.reduceMul,UInt8.reduceToNat,reduceIte,reduceCtorEq,Nat.reduceEqDiff,Nat.reduceAdd,Nat.reduceLeDiff,Nat.reduceSub,Nat.reduceLT,Int.reduceEq,Int.reduceLT,Int.reduceLE,Int.reduceToNat,Int.reduceAdd,Int.reduceSub,Int.reduceMul,Int.reduceNeg]
        refine (T _ _ _ n0 t0 ?_ ?_).trans ?_
        all_goals exact fi F
      | some e30 =>
        dsimp only at T
        obtain⟨rfl,rfl,rfl,rfl⟩:=T
        right
        intro S e f n0 t0 H0 h
        obtain⟨hb0,ha0⟩:=H0
        obtain⟨w0,hB0⟩:=zg hb0
        have hn0:=zc hB0
        replace F:=aa ha0<|aa hB0<|aa hn0<|aa h<|F
        unfold zZ
        rw[zm]
        exact fi F
    | some e24 =>
      dsimp only at T
      obtain⟨rfl,rfl,rfl,rfl⟩:=T
      right
      intro S e f n0 t0 H0 h
      obtain⟨hb0,ha0⟩:=H0
      obtain⟨w0,hB0⟩:=zg hb0
      have hn0:=zc hB0
      replace F:=aa ha0<|aa hB0<|aa hn0<|aa h<|F
      unfold zZ
      rw[zm]
      exact fi F
  | some e21 =>
    dsimp only at T
    obtain⟨rfl,rfl,rfl,rfl⟩:=T
    right
    intro S e f n0 t0 H0 h
    obtain⟨hb0,ha0⟩:=H0
    obtain⟨w0,hB0⟩:=zg hb0
    have hn0:=zc hB0
    replace F:=aa ha0<|aa hB0<|aa hn0<|aa h<|F
    unfold zZ
    rw[zm]
    exact fi F
 replace T:=T.2 c5
 obtain⟨o36,r35,y37,q14,T⟩:=T
 simp only[zb4,lF] at q14
 replace F:=aa (eq_false c5)<|aa q14<|F
 cases o36 with
 | none =>
   dsimp only at T
   obtain⟨o39,y40,q15,T⟩:=T
   simp only[zbi,lF] at q15
   replace F:=aa q15<|F
   cases o39 with
   | none =>
     dsimp only at T
     obtain⟨o43,r42,y44,g45,z46,q16,T⟩:=T
     simp only[zdr,lF] at q16
     replace F:=aa q16<|F
     cases o43 with
     | none =>
       dsimp only at T
       obtain⟨p17,T⟩:=T
       simp only[bigRow] at p17
       replace F:=aa p17<|F
       rcases T with T | T
       ·left
        intro S e f n0 t0 H0 h
        obtain⟨hb0,ha0⟩:=H0
        obtain⟨w0,hB0⟩:=zg hb0
        have hn0:=zc hB0
        replace F:=aa ha0<|aa hB0<|aa hn0<|aa h<|F
        unfold zZ
        rw[zm]
        try simp only[F,lw,lx,le,Nat.reduceMul,UInt8.reduceToNat,reduceIte,reduceCtorEq,Nat.reduceEqDiff,Nat.reduceAdd,Nat.reduceLeDiff,Nat.reduceSub,Nat.reduceLT,Int.reduceEq,Int.reduceLT,Int.reduceLE,Int.reduceToNat,Int.reduceAdd,Int.reduceSub,Int.reduceMul,Int.reduceNeg]
        refine (T _ _ _ n0 t0 ?_ ?_).trans ?_
        all_goals exact fi F
       right
       intro S e f n0 t0 H0 h
       obtain⟨hb0,ha0⟩:=H0
       obtain⟨w0,hB0⟩:=zg hb0
       have hn0:=zc hB0
       replace F:=aa ha0<|aa hB0<|aa hn0<|aa h<|F
       unfold zZ
       rw[zm]
       try simp only[F,lw,lx,le,Nat.reduceMul,UInt8.reduceToNat,reduceIte,reduceCtorEq,Nat.reduceEqDiff,Nat.reduceAdd,Nat.reduceLeDiff,Nat.reduceSub,Nat.reduceLT,Int.reduceEq,Int.reduceLT,Int.reduceLE,Int.reduceToNat,Int.reduceAdd,Int.reduceSub,Int.reduceMul,Int.reduceNeg]
       refine (T _ _ _ n0 t0 ?_ ?_).trans ?_
       all_goals exact fi F
     | some e47 =>
       dsimp only at T
       obtain⟨rfl,rfl,rfl,rfl⟩:=T
       right
       intro S e f n0 t0 H0 h
       obtain⟨hb0,ha0⟩:=H0
       obtain⟨w0,hB0⟩:=zg hb0
       have hn0:=zc hB0
       replace F:=aa ha0<|aa hB0<|aa hn0<|aa h<|F
       unfold zZ
       rw[zm]
       exact fi F
   | some e41 =>
     dsimp only at T
     obtain⟨rfl,rfl,rfl,rfl⟩:=T
     right
     intro S e f n0 t0 H0 h
     obtain⟨hb0,ha0⟩:=H0
     obtain⟨w0,hB0⟩:=zg hb0
     have hn0:=zc hB0
     replace F:=aa ha0<|aa hB0<|aa hn0<|aa h<|F
     unfold zZ
     rw[zm]
     exact fi F
 | some e38 =>
   dsimp only at T
   obtain⟨rfl,rfl,rfl,rfl⟩:=T
   right
   intro S e f n0 t0 H0 h
   obtain⟨hb0,ha0⟩:=H0
   obtain⟨w0,hB0⟩:=zg hb0
   have hn0:=zc hB0
   replace F:=aa ha0<|aa hB0<|aa hn0<|aa h<|F
   unfold zZ
   rw[zm]
   exact fi F
theorem za2 (l31:List Attr) (b32:PBlocks) (g33:Nat) (z34:Bool) (o:Option Int) (r:List Attr) (b':PBlocks) (b'_g2:Nat) (b'_z2:Bool) (T :
  ∃ (r48:Bool) (y49:PTokens),(zec b32.exprs.tokens [125] r48 y49) ∧
 ((r48=true) →
  none=o∧l31=r∧(PBlocks.mk (PExprs.mk y49 b32.exprs.out b32.exprs.deep))=b'∧g33=b'_g2∧z34=b'_z2) ∧
 (¬ (r48=true) →
  ∃ (r50:Token) (y51:PTokens),(zaX y49 r50 y51) ∧
  ∃ (r52:Token) (y53:PTokens),(zaX y51 r52 y53) ∧
  ((r52.Kind=3) →
   (l31.length < 9223372036854775808) ∧
   ∃ (pp54:Attr→Bool),(∀ x,x ∈ l31→zgG x r50.Text (pp54 x)) ∧
   (((l31.any pp54)=true) →
    ∃ (o55:Option Int) (y56:PTokens),(zbc y53 3 o55 y56) ∧
    (match o55 with
    | none=>(False )
    | some e57=>(some e57=o∧(PBlocks.mk (PExprs.mk y56 b32.exprs.out b32.exprs.deep))=b'∧g33=b'_g2∧z34=b'_z2))) ∧
   (¬ ((l31.any pp54)=true) →
    ∃ (o59:Option Int) (r58:List UInt8) (y60:PTokens),(zb4 y53 o59 r58 y60) ∧
    (match o59 with
    | none=>(∃ (o62:Option Int) (y63:PTokens),(zbi y60 [61] o62 y63) ∧
     (match o62 with
     | none=>(∃ (o66:Option Int) (r65:List Node) (y67:PExprs) (g68:Nat) (z69:Bool),(zdr (PExprs.mk y63 b32.exprs.out b32.exprs.deep) g33 z34 o66 r65 y67 g68 z69) ∧
      (match o66 with
      | none=>((bigRow (l31.length+1) 40) ∧
       zeZ (l31++[(Attr.mk r58 r65)]) (PBlocks.mk y67) g68 z69 o r b' b'_g2 b'_z2)
      | some e70=>(some e70=o∧(PBlocks.mk y67)=b'∧g68=b'_g2∧z69=b'_z2)))
     | some e64=>(some e64=o∧(PBlocks.mk (PExprs.mk y63 b32.exprs.out b32.exprs.deep))=b'∧g33=b'_g2∧z34=b'_z2)))
    | some e61=>(some e61=o∧(PBlocks.mk (PExprs.mk y60 b32.exprs.out b32.exprs.deep))=b'∧g33=b'_g2∧z34=b'_z2)))) ∧
  (¬ (r52.Kind=3) →
   ∃ (o72:Option Int) (r71:List UInt8) (y73:PTokens),(zb4 y53 o72 r71 y73) ∧
   (match o72 with
   | none=>(∃ (o75:Option Int) (y76:PTokens),(zbi y73 [61] o75 y76) ∧
    (match o75 with
    | none=>(∃ (o79:Option Int) (r78:List Node) (y80:PExprs) (g81:Nat) (z82:Bool),(zdr (PExprs.mk y76 b32.exprs.out b32.exprs.deep) g33 z34 o79 r78 y80 g81 z82) ∧
     (match o79 with
     | none=>((bigRow (l31.length+1) 40) ∧
      zeZ (l31++[(Attr.mk r71 r78)]) (PBlocks.mk y80) g81 z82 o r b' b'_g2 b'_z2)
     | some e83=>(some e83=o∧(PBlocks.mk y80)=b'∧g81=b'_g2∧z82=b'_z2)))
    | some e77=>(some e77=o∧(PBlocks.mk (PExprs.mk y76 b32.exprs.out b32.exprs.deep))=b'∧g33=b'_g2∧z34=b'_z2)))
   | some e74=>(some e74=o∧(PBlocks.mk (PExprs.mk y73 b32.exprs.out b32.exprs.deep))=b'∧g33=b'_g2∧z34=b'_z2))))):zeZ l31 b32 g33 z34 o r b' b'_g2 b'_z2:=by
 have F:=zqG
 obtain⟨r48,y49,q1,T⟩:=T
 simp only[zec,lF] at q1
 replace F:=aa q1<|F
 by_cases c2:r48=true
 ·replace T:=T.1 c2
  obtain⟨rfl,rfl,rfl,rfl,rfl⟩:=T
  left
  intro S e f n0 t0 H0 h
  obtain⟨hb0,ha0⟩:=H0
  obtain⟨w0,hB0⟩:=zg hb0
  have hn0:=zc hB0
  replace F:=aa ha0<|aa hB0<|aa hn0<|aa h<|F
  unfold zZ
  rw[zm]
  exact fi (aa c2<|F)
 replace T:=T.2 c2
 replace c2:=Bool.eq_false_iff.2 c2
 obtain⟨r50,y51,q3,r52,y53,q4,T⟩:=T
 simp only[zaX,lF] at q3
 simp only[zaX,lF] at q4
 replace F:=aa c2<|aa q3<|aa q4<|F
 by_cases c5:r52.Kind=3
 ·replace T:=T.1 c5
  obtain⟨p6,pp54,q7,T⟩:=T
  have o7:=zX  p6 q7
  try simp only[le] at o7
  replace F:=aa (eq_true c5)<|aa p6<|aa o7<|F
  by_cases c8:(l31.any pp54)=true
  ·replace T:=T.1 c8
   obtain⟨o55,y56,q9,T⟩:=T
   simp only[zbc,lF] at q9
   replace F:=aa c8<|aa q9<|F
   cases o55 with
   | none=>exact False.elim T
   | some e57 =>
     dsimp only at T
     obtain⟨rfl,rfl,rfl,rfl⟩:=T
     right
     intro S e f n0 t0 H0 h
     obtain⟨hb0,ha0⟩:=H0
     obtain⟨w0,hB0⟩:=zg hb0
     have hn0:=zc hB0
     replace F:=aa ha0<|aa hB0<|aa hn0<|aa h<|F
     unfold zZ
     rw[zm]
     exact fi F
  replace T:=T.2 c8
  replace c8:=Bool.eq_false_iff.2 c8
  obtain⟨o59,r58,y60,q10,T⟩:=T
  simp only[zb4,lF] at q10
  replace F:=aa c8<|aa q10<|F
  cases o59 with
  | none =>
    dsimp only at T
    obtain⟨o62,y63,q11,T⟩:=T
    simp only[zbi,lF] at q11
    replace F:=aa q11<|F
    cases o62 with
    | none =>
      dsimp only at T
      obtain⟨o66,r65,y67,g68,z69,q12,T⟩:=T
      simp only[zdr,lF] at q12
      replace F:=aa q12<|F
      cases o66 with
      | none =>
        dsimp only at T
        obtain⟨p13,T⟩:=T
        simp only[bigRow] at p13
        replace F:=aa p13<|F
        rcases T with T | T
        ·left
         intro S e f n0 t0 H0 h
         obtain⟨hb0,ha0⟩:=H0
         obtain⟨w0,hB0⟩:=zg hb0
         have hn0:=zc hB0
         replace F:=aa ha0<|aa hB0<|aa hn0<|aa h<|F
         unfold zZ
         rw[zm]
         try simp only[F,lw,lx,le,Nat.reduceMul,UInt8.reduceToNat,reduceIte,reduceCtorEq,Nat.reduceEqDiff,Nat.reduceAdd,Nat.reduceLeDiff,Nat.reduceSub,Nat.reduceLT,Int.reduceEq,Int.reduceLT,Int.reduceLE,Int.reduceToNat,Int.reduceAdd,Int.reduceSub,Int.reduceMul,Int.reduceNeg]
         refine (T _ _ _ n0 t0 ?_ ?_).trans ?_
         all_goals exact fi F
        right
        intro S e f n0 t0 H0 h
        obtain⟨hb0,ha0⟩:=H0
        obtain⟨w0,hB0⟩:=zg hb0
        have hn0:=zc hB0
        replace F:=aa ha0<|aa hB0<|aa hn0<|aa h<|F
        unfold zZ
        rw[zm]
        try simp only[F,lw,lx,le,Nat.reduceMul,UInt8.reduceToNat,reduceIte,reduceCtorEq,Nat.reduceEqDiff,Nat.reduceAdd,Nat.reduceLeDiff,Nat.reduceSub,Nat.reduceLT,Int.reduceEq,Int.reduceLT,Int.reduceLE,Int.reduceToNat,Int.reduceAdd,Int.reduceSub,Int.reduceMul,Int.reduceNeg]
        refine (T _ _ _ n0 t0 ?_ ?_).trans ?_
        all_goals exact fi F
      | some e70 =>
        dsimp only at T
        obtain⟨rfl,rfl,rfl,rfl⟩:=T
        right
        intro S e f n0 t0 H0 h
        obtain⟨hb0,ha0⟩:=H0
        obtain⟨w0,hB0⟩:=zg hb0
        have hn0:=zc hB0
        replace F:=aa ha0<|aa hB0<|aa hn0<|aa h<|F
        unfold zZ
        rw[zm]
        exact fi F
    | some e64 =>
      dsimp only at T
      obtain⟨rfl,rfl,rfl,rfl⟩:=T
      right
      intro S e f n0 t0 H0 h
      obtain⟨hb0,ha0⟩:=H0
      obtain⟨w0,hB0⟩:=zg hb0
      have hn0:=zc hB0
      replace F:=aa ha0<|aa hB0<|aa hn0<|aa h<|F
      unfold zZ
      rw[zm]
      exact fi F
  | some e61 =>
    dsimp only at T
    obtain⟨rfl,rfl,rfl,rfl⟩:=T
    right
    intro S e f n0 t0 H0 h
    obtain⟨hb0,ha0⟩:=H0
    obtain⟨w0,hB0⟩:=zg hb0
    have hn0:=zc hB0
    replace F:=aa ha0<|aa hB0<|aa hn0<|aa h<|F
    unfold zZ
    rw[zm]
    exact fi F
 replace T:=T.2 c5
 obtain⟨o72,r71,y73,q14,T⟩:=T
 simp only[zb4,lF] at q14
 replace F:=aa (eq_false c5)<|aa q14<|F
 cases o72 with
 | none =>
   dsimp only at T
   obtain⟨o75,y76,q15,T⟩:=T
   simp only[zbi,lF] at q15
   replace F:=aa q15<|F
   cases o75 with
   | none =>
     dsimp only at T
     obtain⟨o79,r78,y80,g81,z82,q16,T⟩:=T
     simp only[zdr,lF] at q16
     replace F:=aa q16<|F
     cases o79 with
     | none =>
       dsimp only at T
       obtain⟨p17,T⟩:=T
       simp only[bigRow] at p17
       replace F:=aa p17<|F
       rcases T with T | T
       ·left
        intro S e f n0 t0 H0 h
        obtain⟨hb0,ha0⟩:=H0
        obtain⟨w0,hB0⟩:=zg hb0
        have hn0:=zc hB0
        replace F:=aa ha0<|aa hB0<|aa hn0<|aa h<|F
        unfold zZ
        rw[zm]
        try simp only[F,lw,lx,le,Nat.reduceMul,UInt8.reduceToNat,reduceIte,reduceCtorEq,Nat.reduceEqDiff,Nat.reduceAdd,Nat.reduceLeDiff,Nat.reduceSub,Nat.reduceLT,Int.reduceEq,Int.reduceLT,Int.reduceLE,Int.reduceToNat,Int.reduceAdd,Int.reduceSub,Int.reduceMul,Int.reduceNeg]
        refine (T _ _ _ n0 t0 ?_ ?_).trans ?_
        all_goals exact fi F
       right
       intro S e f n0 t0 H0 h
       obtain⟨hb0,ha0⟩:=H0
       obtain⟨w0,hB0⟩:=zg hb0
       have hn0:=zc hB0
       replace F:=aa ha0<|aa hB0<|aa hn0<|aa h<|F
       unfold zZ
       rw[zm]
       try simp only[F,lw,lx,le,Nat.reduceMul,UInt8.reduceToNat,reduceIte,reduceCtorEq,Nat.reduceEqDiff,Nat.reduceAdd,Nat.reduceLeDiff,Nat.reduceSub,Nat.reduceLT,Int.reduceEq,Int.reduceLT,Int.reduceLE,Int.reduceToNat,Int.reduceAdd,Int.reduceSub,Int.reduceMul,Int.reduceNeg]
       refine (T _ _ _ n0 t0 ?_ ?_).trans ?_
       all_goals exact fi F
     | some e83 =>
       dsimp only at T
       obtain⟨rfl,rfl,rfl,rfl⟩:=T
       right
       intro S e f n0 t0 H0 h
       obtain⟨hb0,ha0⟩:=H0
       obtain⟨w0,hB0⟩:=zg hb0
       have hn0:=zc hB0
       replace F:=aa ha0<|aa hB0<|aa hn0<|aa h<|F
       unfold zZ
       rw[zm]
       exact fi F
   | some e77 =>
     dsimp only at T
     obtain⟨rfl,rfl,rfl,rfl⟩:=T
     right
     intro S e f n0 t0 H0 h
     obtain⟨hb0,ha0⟩:=H0
     obtain⟨w0,hB0⟩:=zg hb0
     have hn0:=zc hB0
     replace F:=aa ha0<|aa hB0<|aa hn0<|aa h<|F
     unfold zZ
     rw[zm]
     exact fi F
 | some e74 =>
   dsimp only at T
   obtain⟨rfl,rfl,rfl,rfl⟩:=T
   right
   intro S e f n0 t0 H0 h
   obtain⟨hb0,ha0⟩:=H0
   obtain⟨w0,hB0⟩:=zg hb0
   have hn0:=zc hB0
   replace F:=aa ha0<|aa hB0<|aa hn0<|aa h<|F
   unfold zZ
   rw[zm]
   exact fi F
theorem zjY (b:PBlocks) (b_g2:Nat) (b_z2:Bool) (o:Option Int) (r:List Attr) (b':PBlocks) (b'_g2:Nat) (b'_z2:Bool) (T :
  ∃ (o1:Option Int) (y2:PTokens),(zbi b.exprs.tokens [123] o1 y2) ∧
 (match o1 with
 | none=>(ziR [] (PBlocks.mk (PExprs.mk y2 b.exprs.out b.exprs.deep)) b_g2 b_z2 o r b' b'_g2 b'_z2)
 | some e3=>(some e3=o∧(PBlocks.mk (PExprs.mk y2 b.exprs.out b.exprs.deep))=b'∧b_g2=b'_g2∧b_z2=b'_z2))):zja b b_g2 b_z2 o r b' b'_g2 b'_z2:=by
 have F:=zqG
 obtain⟨o1,y2,q1,T⟩:=T
 simp only[zbi,lF] at q1
 replace F:=aa q1<|F
 cases o1 with
 | none =>
   dsimp only at T
   rcases T with T | T
   ·left
    intro S n0 t0 H0
    obtain⟨hb0,ha0⟩:=H0
    obtain⟨w0,hB0⟩:=zg hb0
    have hn0:=zc hB0
    replace F:=aa ha0<|aa hB0<|aa hn0<|F
    rw[zd znW _ _ rfl]
    try simp only[F,lw,lx,le,Nat.reduceMul,UInt8.reduceToNat,reduceIte,reduceCtorEq,Nat.reduceEqDiff,Nat.reduceAdd,Nat.reduceLeDiff,Nat.reduceSub,Nat.reduceLT,Int.reduceEq,Int.reduceLT,Int.reduceLE,Int.reduceToNat,Int.reduceAdd,Int.reduceSub,Int.reduceMul,Int.reduceNeg]
    refine (T _ _ _ n0 t0 ?_ ?_).trans ?_
    all_goals exact fi F
   right
   intro S n0 t0 H0
   obtain⟨hb0,ha0⟩:=H0
   obtain⟨w0,hB0⟩:=zg hb0
   have hn0:=zc hB0
   replace F:=aa ha0<|aa hB0<|aa hn0<|F
   rw[zd znW _ _ rfl]
   try simp only[F,lw,lx,le,Nat.reduceMul,UInt8.reduceToNat,reduceIte,reduceCtorEq,Nat.reduceEqDiff,Nat.reduceAdd,Nat.reduceLeDiff,Nat.reduceSub,Nat.reduceLT,Int.reduceEq,Int.reduceLT,Int.reduceLE,Int.reduceToNat,Int.reduceAdd,Int.reduceSub,Int.reduceMul,Int.reduceNeg]
   refine (T _ _ _ n0 t0 ?_ ?_).trans ?_
   all_goals exact fi F
 | some e3 =>
   dsimp only at T
   obtain⟨rfl,rfl,rfl,rfl⟩:=T
   right
   intro S n0 t0 H0
   obtain⟨hb0,ha0⟩:=H0
   obtain⟨w0,hB0⟩:=zg hb0
   have hn0:=zc hB0
   replace F:=aa ha0<|aa hB0<|aa hn0<|F
   rw[zd znW _ _ rfl]
   exact fi F
theorem zzo:SP 63=some (.code sc_Q63):=ze rfl Tryz.func63 comp_Q63
theorem zub  (r:List (List UInt8)) (T :
  [[118,97,114,105,97,98,108,101],[108,111,99,97,108,115],[110,111,100,101],[109,111,100,117,108,101],[100,101,102,105,110,101]]=r):zmJ  r:=by
 intro S
 rw[zd zzo _ _ rfl]
 have F:=zAV
 exact rn F T
theorem zxV:SP 39=some (.code sc_Q39):=ze rfl Tryz.func39 comp_Q39
def zho (r4:Int) (r11:List UInt8) (l20:List Attr) (g21:Nat) (l22:List Block) (g23:Nat) (b24:PBlocks) (g25:Nat) (z26:Bool) (o:Option Int) (r:Block) (b':PBlocks) (b'_g2:Nat) (b'_z2:Bool):Prop:=∀ (S:Sto) (e:Nat→PV) (f:Fr) (n0 t0:Nat),((getBox S n0 t0).map (List.take 4)=some [.list 5 (b24.exprs.tokens.l.map eToken) false,.int .i64 b24.exprs.tokens.pos,.sl 0 (.cell t0 2) 0 b24.exprs.out.length b24.exprs.out.length g25 false,.int .i64 b24.exprs.deep]∧getArr S n0 (.cell t0 2)=some ⟨5,b24.exprs.out.map eNode,z26,g25⟩)→e 0=.ptr (n0+1) t0 0∧e 4=.ptr 0 4 0∧e 7=.ptr 0 7 0∧f.box 4=some [.int .i64 0,.str [],.sl 0 (.cell 4 2) 0 0 0 0 false,.sl 0 (.cell 4 3) 0 0 0 0 false]∧f.box 7=some [.int .i64 (1+r4),.str r11,.sl 0 (.cell 7 2) 0 l20.length l20.length g21 false,.sl 0 (.cell 7 3) 0 l22.length l22.length g23 false]∧f.arr (.cell 4 2)=some ⟨2,[],false,0⟩∧f.arr (.cell 4 3)=some ⟨4,[],false,0⟩∧f.arr (.cell 7 2)=some ⟨2,l20.map eAttr,false,g21⟩∧f.arr (.cell 7 3)=some ⟨4,l22.map zF,false,g23⟩→zpE SP (E SP (.loop b_Q39_1) ⟨e,f::S⟩)=po 116 o (.v (.agg [.int .i64 r.Kind,.str r.Label,.list 2 (r.Attrs.map eAttr) false,.list 4 (r.Blocks.map zF) false])) (setArr (setBox S n0 t0 ([.list 5 (b'.exprs.tokens.l.map eToken) false,.int .i64 b'.exprs.tokens.pos,.sl 0 (.cell t0 2) 0 b'.exprs.out.length b'.exprs.out.length b'_g2 false,.int .i64 b'.exprs.deep]++((getBox S n0 t0).getD []).drop 4)) n0 (.cell t0 2) ⟨5,b'.exprs.out.map eNode,b'_z2,b'_g2⟩)
theorem zdA (r4:Int) (r11:List UInt8) (l20:List Attr) (g21:Nat) (l22:List Block) (g23:Nat) (b24:PBlocks) (g25:Nat) (z26:Bool) (o:Option Int) (r:Block) (b':PBlocks) (b'_g2:Nat) (b'_z2:Bool) (T :
  ∃ (r48:Bool) (y49:PTokens),(zec b24.exprs.tokens [125] r48 y49) ∧
 ((r48=true) →
  none=o∧(Block.mk (1+r4) r11 l20 l22)=r∧(PBlocks.mk (PExprs.mk y49 b24.exprs.out b24.exprs.deep))=b'∧g25=b'_g2∧z26=b'_z2) ∧
 (¬ (r48=true) →
  ∃ (o51:Option Int) (r50:Block) (y52:PBlocks) (g53:Nat) (z54:Bool),(zgj (PBlocks.mk (PExprs.mk y49 b24.exprs.out b24.exprs.deep)) g25 z26 true o51 r50 y52 g53 z54) ∧
  (match o51 with
  | none=>((bigRow (l22.length+1) 72) ∧
   zho r4 r11 l20 g21 (l22++[r50]) g23 y52 g53 z54 o r b' b'_g2 b'_z2)
  | some e55=>(some e55=o∧y52=b'∧g53=b'_g2∧z54=b'_z2)))):zho r4 r11 l20 g21 l22 g23 b24 g25 z26 o r b' b'_g2 b'_z2:=by
 intro S e f n0 t0 H0 h
 obtain⟨hb0,ha0⟩:=H0
 obtain⟨w0,hB0⟩:=zg hb0
 have hn0:=zc hB0
 unfold zpE
 rw[zm]
 have F:=zvy
 exact rp n0 t0 (aa ha0<|aa hB0<|aa hn0<|aa h<|F) T
theorem zbN (b:PBlocks) (b_g2:Nat) (b_z2:Bool) (within:Bool) (o:Option Int) (r:Block) (b':PBlocks) (b'_g2:Nat) (b'_z2:Bool) (T :
  ∃ (r1:Token) (y2:PTokens),(zaX b.exprs.tokens r1 y2) ∧
 ∃ (r3:List (List UInt8)),(zmJ r3) ∧
 ∃ (r4:Int),(zr r3 r1.Text r4) ∧
 (I64 (1+r4)) ∧
 ((r1.Kind=3) →
  (((1+r4)=0) →
   ∃ (o5:Option Int) (y6:PTokens),(zbc y2 5 o5 y6) ∧
   (match o5 with
   | none=>(False )
   | some e7=>(some e7=o∧(PBlocks.mk (PExprs.mk y6 b.exprs.out b.exprs.deep))=b'∧b_g2=b'_g2∧b_z2=b'_z2))) ∧
  (¬ ((1+r4)=0) →
   (((1+r4)=5) →
    ((within=true) →
     ∃ (o8:Option Int) (y9:PTokens),(zbc y2 5 o8 y9) ∧
     (match o8 with
     | none=>(False )
     | some e10=>(some e10=o∧(PBlocks.mk (PExprs.mk y9 b.exprs.out b.exprs.deep))=b'∧b_g2=b'_g2∧b_z2=b'_z2))) ∧
    (¬ (within=true) →
     (I64 (y2.pos+1)) ∧
     ∃ (o12:Option Int) (r11:List UInt8) (y13:PBlocks) (g14:Nat) (z15:Bool),(zi0 (PBlocks.mk (PExprs.mk (PTokens.mk y2.l (y2.pos+1)) b.exprs.out b.exprs.deep)) b_g2 b_z2 o12 r11 y13 g14 z15) ∧
     (match o12 with
     | none=>(∃ (o17:Option Int) (y18:PTokens),(zbi y13.exprs.tokens [123] o17 y18) ∧
      (match o17 with
      | none=>(zho r4 r11 [] 1 [] 1 (PBlocks.mk (PExprs.mk y18 y13.exprs.out y13.exprs.deep)) g14 z15 o r b' b'_g2 b'_z2)
      | some e19=>(some e19=o∧(PBlocks.mk (PExprs.mk y18 y13.exprs.out y13.exprs.deep))=b'∧g14=b'_g2∧z15=b'_z2)))
     | some e16=>(some e16=o∧y13=b'∧g14=b'_g2∧z15=b'_z2)))) ∧
   (¬ ((1+r4)=5) →
    (I64 (y2.pos+1)) ∧
    (((1+r4)=2) →
     ∃ (o28:Option Int) (r27:List Attr) (y29:PBlocks) (g30:Nat) (z31:Bool),(zja (PBlocks.mk (PExprs.mk (PTokens.mk y2.l (y2.pos+1)) b.exprs.out b.exprs.deep)) b_g2 b_z2 o28 r27 y29 g30 z31) ∧
     (match o28 with
     | none=>((none=o∧(Block.mk (1+r4) [] r27 [])=r∧y29=b'∧g30=b'_g2∧z31=b'_z2) ∧
      (none=o∧(Block.mk (1+r4) [] r27 [])=r∧y29=b'∧g30=b'_g2∧z31=b'_z2))
     | some e32=>(some e32=o∧y29=b'∧g30=b'_g2∧z31=b'_z2))) ∧
    (¬ ((1+r4)=2) →
     ∃ (o34:Option Int) (r33:List UInt8) (y35:PBlocks) (g36:Nat) (z37:Bool),(zi0 (PBlocks.mk (PExprs.mk (PTokens.mk y2.l (y2.pos+1)) b.exprs.out b.exprs.deep)) b_g2 b_z2 o34 r33 y35 g36 z37) ∧
     (match o34 with
     | none=>(∃ (o40:Option Int) (r39:List Attr) (y41:PBlocks) (g42:Nat) (z43:Bool),(zja y35 g36 z37 o40 r39 y41 g42 z43) ∧
      (match o40 with
      | none=>((none=o∧(Block.mk (1+r4) r33 r39 [])=r∧y41=b'∧g42=b'_g2∧z43=b'_z2) ∧
       (none=o∧(Block.mk (1+r4) r33 r39 [])=r∧y41=b'∧g42=b'_g2∧z43=b'_z2))
      | some e44=>(some e44=o∧y41=b'∧g42=b'_g2∧z43=b'_z2)))
     | some e38=>(some e38=o∧y35=b'∧g36=b'_g2∧z37=b'_z2)))))) ∧
 (¬ (r1.Kind=3) →
  ∃ (o45:Option Int) (y46:PTokens),(zbc y2 5 o45 y46) ∧
  (match o45 with
  | none=>(False )
  | some e47=>(some e47=o∧(PBlocks.mk (PExprs.mk y46 b.exprs.out b.exprs.deep))=b'∧b_g2=b'_g2∧b_z2=b'_z2)))):zgj b b_g2 b_z2 within o r b' b'_g2 b'_z2:=by
 intro S n0 t0 H0
 obtain⟨hb0,ha0⟩:=H0
 obtain⟨w0,hB0⟩:=zg hb0
 have hn0:=zc hB0
 rw[zd zxV _ _ rfl]
 have F:=zvy
 obtain⟨r1,y2,q1,r3,q2,r4,q3,p4,T⟩:=T
 simp only[zaX,lF] at q1
 simp only[zmJ,lF] at q2
 simp only[zr,lF] at q3
 replace F:=aa ha0<|aa hB0<|aa hn0<|aa q1<|aa q2<|aa q3<|aa p4.wrap<|F
 by_cases c5:r1.Kind=3
 ·replace T:=T.1 c5
  replace F:=aa (eq_true c5)<|F
  by_cases c6:(1+r4)=0
  ·replace T:=T.1 c6
   obtain⟨o5,y6,q7,T⟩:=T
   simp only[zbc,lF] at q7
   replace F:=aa (eq_true c6)<|aa q7<|F
   cases o5 with
   | none=>exact False.elim T
   | some e7 =>
     dsimp only at T
     obtain⟨rfl,rfl,rfl,rfl⟩:=T
     exact fi F
  replace T:=T.2 c6
  replace F:=aa (eq_false c6)<|F
  by_cases c8:(1+r4)=5
  ·replace T:=T.1 c8
   replace F:=aa (eq_true c8)<|F
   by_cases c9:within=true
   ·replace T:=T.1 c9
    obtain⟨o8,y9,q10,T⟩:=T
    simp only[zbc,lF] at q10
    replace F:=aa c9<|aa q10<|F
    cases o8 with
    | none=>exact False.elim T
    | some e10 =>
      dsimp only at T
      obtain⟨rfl,rfl,rfl,rfl⟩:=T
      exact fi F
   replace T:=T.2 c9
   replace c9:=Bool.eq_false_iff.2 c9
   obtain⟨p11,o12,r11,y13,g14,z15,q13,T⟩:=T
   have d12:¬ ((1+r4)=2):=fun h=>absurd (c8.symm.trans h) (by decide)
   simp only[zi0,lF] at q13
   replace F:=aa c9<|aa p11.wrap<|aa (eq_false d12)<|aa q13<|F
   cases o12 with
   | none =>
     dsimp only at T
     obtain⟨o17,y18,q14,T⟩:=T
     simp only[zbi,lF] at q14
     replace F:=aa q14<|F
     cases o17 with
     | none =>
       dsimp only at T
       try simp only[F,lw,lx,le,Nat.reduceMul,UInt8.reduceToNat,reduceIte,reduceCtorEq,Nat.reduceEqDiff,Nat.reduceAdd,Nat.reduceLeDiff,Nat.reduceSub,Nat.reduceLT,Int.reduceEq,Int.reduceLT,Int.reduceLE,Int.reduceToNat,Int.reduceAdd,Int.reduceSub,Int.reduceMul,Int.reduceNeg]
       refine (T _ _ _ n0 t0 ?_ ?_).trans ?_
       all_goals exact fi F
     | some e19 =>
       dsimp only at T
       obtain⟨rfl,rfl,rfl,rfl⟩:=T
       exact fi F
   | some e16 =>
     dsimp only at T
     obtain⟨rfl,rfl,rfl,rfl⟩:=T
     exact fi F
  replace T:=T.2 c8
  obtain⟨p15,T⟩:=T
  replace F:=aa (eq_false c8)<|aa p15.wrap<|F
  by_cases c16:(1+r4)=2
  ·replace T:=T.1 c16
   obtain⟨o28,r27,y29,g30,z31,q17,T⟩:=T
   simp only[zja,lF] at q17
   replace F:=aa (eq_true c16)<|F
   cases o28 with
   | none =>
     dsimp only at T
     rcases q17 with q17 | q17
     ·replace T:=T.1
      obtain⟨rfl,rfl,rfl,rfl,rfl⟩:=T
      exact fi (aa q17<|F)
     replace T:=T.2
     obtain⟨rfl,rfl,rfl,rfl,rfl⟩:=T
     exact fi (aa q17<|F)
   | some e32 =>
     dsimp only at T
     rcases q17 with q17 | q17
     ·
       obtain⟨rfl,rfl,rfl,rfl⟩:=T
       exact fi (aa q17<|F)
     ·
       obtain⟨rfl,rfl,rfl,rfl⟩:=T
       exact fi (aa q17<|F)
  replace T:=T.2 c16
  obtain⟨o34,r33,y35,g36,z37,q18,T⟩:=T
  simp only[zi0,lF] at q18
  replace F:=aa (eq_false c16)<|aa q18<|F
  cases o34 with
  | none =>
    dsimp only at T
    obtain⟨o40,r39,y41,g42,z43,q19,T⟩:=T
    simp only[zja,lF] at q19
    cases o40 with
    | none =>
      dsimp only at T
      rcases q19 with q19 | q19
      ·replace T:=T.1
       obtain⟨rfl,rfl,rfl,rfl,rfl⟩:=T
       exact fi (aa q19<|F)
      replace T:=T.2
      obtain⟨rfl,rfl,rfl,rfl,rfl⟩:=T
      exact fi (aa q19<|F)
    | some e44 =>
      dsimp only at T
      rcases q19 with q19 | q19
      ·
        obtain⟨rfl,rfl,rfl,rfl⟩:=T
        exact fi (aa q19<|F)
      ·
        obtain⟨rfl,rfl,rfl,rfl⟩:=T
        exact fi (aa q19<|F)
  | some e38 =>
    dsimp only at T
    obtain⟨rfl,rfl,rfl,rfl⟩:=T
    exact fi F
 replace T:=T.2 c5
 obtain⟨o45,y46,q20,T⟩:=T
 simp only[zbc,lF] at q20
 replace F:=aa (eq_false c5)<|aa q20<|F
 cases o45 with
 | none=>exact False.elim T
 | some e47 =>
   dsimp only at T
   obtain⟨rfl,rfl,rfl,rfl⟩:=T
   exact fi F
def zcl:Option Nat→Int
 | some i=>(i:Int)
 | none=>-1
theorem zij (s:List (List UInt8)) (v:List UInt8) (hs:s.length≤1000):∀ (l:List (List UInt8)) (i:Nat),s.drop i=l→i+l.length=s.length→zT s v (i:Nat) (zcl (zae v l i))
 | [],i,h,hi=>by
  refine zI _ _ _ _ ⟨fun hf=>?_,fun _=>rfl⟩
  simp at hi
  omega
 | u::l,i,h,hi=>by
  have hlt:i < s.length:=by simp at hi;omega
  have hg:s[i]?=some u:=by
   have:=congrArg List.head? h
   rw[List.head?_drop] at this
   simpa using this
  refine zI _ _ _ _ ⟨fun _=>⟨by omega,u,by simpa using hg,fun he=>?_,fun he=>⟨⟨by omega,by omega⟩,?_⟩⟩,fun hf=>absurd (by omega) hf⟩
  ·simp[zae,he,zcl]
  have:=zij s v hs l (i+1) (by rw[←List.drop_drop,h];rfl) (by simp at hi ⊢;omega)
  simp only[zae,if_neg he]
  exact this
theorem zg2 (s:List (List UInt8)) (v:List UInt8) (hs:s.length≤1000):zr s v (zcl (zae v s 0)) :=
 zbv _ _ _ (zij s v hs s 0 rfl (by simp))
theorem zAw (rank:Nat) (hr:rank < 5) (s:List UInt8):∃ k,zkS (rank:Int) s k (opS rank s).isSome∧∀ q,opS rank s=some q→k=q:=by
 have key:∀ (l:List (List UInt8)) (f:Int),([[[124,124]],[[38,38]],[[61,61],[33,61],[60],[60,61],[62],[62,61]],[[43],[45]],[[42],[47],[37]]]:List (List (List UInt8)))[rank]?=some l→([11,12,13,19,21]:List Int)[rank]?=some f→l.length≤6→0≤f→f≤30→zH rank=l→zcs rank=f→∃ k,zkS (rank:Int) s k (opS rank s).isSome∧∀ q,opS rank s=some q→k=q:=by
  intro l f h1 h2 h3 h4 h5 h6 h7
  have hb:-1≤zcl (zae s l 0)∧zcl (zae s l 0)≤6:=by
   have gen:∀ (l:List (List UInt8)) (i:Nat),-1≤zcl (zae s l i)∧zcl (zae s l i)≤i+l.length:=by
    intro l
    induction l with
    | nil=>intro i;simp[zae,zcl]
    | cons u l ih =>
     intro i
     simp only[zae]
     split
     ·simp only[zcl,List.length_cons];omega
     have:=ih (i+1)
     simp only[List.length_cons]
     omega
   have:=gen l 0
   omega
  refine⟨f+zcl (zae s l 0),zte _ _ _ _ ⟨by omega,l,by simpa using h1,zcl (zae s l 0),zg2 l s (by omega),by omega,f,by simpa using h2,⟨by omega,by omega⟩,rfl,?_⟩,?_⟩
  ·simp only[opS,h6]
   cases zae s l 0 with
   | none=>simp[zcl]
   | some i=>simp[zcl]
  intro q hq
  simp only[opS,h6,h7] at hq
  cases hi:zae s l 0 with
  | none=>rw[hi] at hq;cases hq
  | some i=>rw[hi] at hq;simpa [zcl] using hq
 match rank,hr with
 | 0,_=>exact key _ _ rfl rfl (by decide) (by decide) (by decide) rfl rfl
 | 1,_=>exact key _ _ rfl rfl (by decide) (by decide) (by decide) rfl rfl
 | 2,_=>exact key _ _ rfl rfl (by decide) (by decide) (by decide) rfl rfl
 | 3,_=>exact key _ _ rfl rfl (by decide) (by decide) (by decide) rfl rfl
 | 4,_=>exact key _ _ rfl rfl (by decide) (by decide) (by decide) rfl rfl
theorem zbe {L ts:List Token} (h:ts <:+ L) {s:List UInt8} (hi:isS s ts=true):zcx (pt L ts) s true (pt L ts):=by
 have:=zjH h (fun e=>by subst e;cases hi) s
 rw[hi] at this
 exact this
theorem zbH {L ts:List Token} (h:ts <:+ L) (hne:ts≠[]) {s:List UInt8} (hi:isS s ts=false):zcx (pt L ts) s false (pt L ts):=by
 have:=zjH h hne s
 rw[hi] at this
 exact this
def OkE {α:Type} (L ts:List Token) (out:List Node) (d d' g c m n:Nat) (R:PExprs→Nat→Bool→Option Int→α→PExprs→Nat→Bool→Prop):PR α→Prop
 | .ok a ts' out'=>ts' <:+ L∧W ts'∧ts'.length+c≤ts.length∧out'.length+ts'.length≤out.length+ts.length∧R (pe L ts out d) g false none a (pe L ts' out' d') g false
 | .er e=>∃ a x' g' z',R (pe L ts out d) g false (some e) a x' g' z'
 | .no=>n≤m
structure Sp (n:Nat) (L ts:List Token) (out:List Node) (d g:Nat):Prop where
 expr:OkE L ts out d d g 1 (20*ts.length+9) n zeC (zu n d ts out)
 chain:∀ rank:Nat,rank≤5→OkE L ts out d d g 1 (20*ts.length+8 - rank) n (fun x g z=>zgP x g z (rank:Int)) (zA n rank d ts out)
 loop:∀ (rank:Nat) (a:Int),rank < 5→OkE L ts out d d g 0 (20*ts.length) n (ze4 (rank:Int) a) (zam n rank d a ts out)
 un:OkE L ts out d d g 1 (20*ts.length+2) n zgU (unS n d ts out)
 post:OkE L ts out d d g 1 (20*ts.length+1) n zkn (zaZ n d ts out)
 postl:∀ a:Int,OkE L ts out d d g 0 (20*ts.length) n (zeQ a) (zaP n d a ts out)
 many:∀ e:List UInt8,d+1≤64→OkE L ts out (d+1) d g 1 (20*ts.length+10) n (fun x g z=>zh7 x g z e) (zay n (d+1) e ts out)
 manyl:∀ (e:List UInt8) (l:List Int),l.length+ts.length≤1000000→d+1≤64→OkE L ts out (d+1) d g 1 (20*ts.length) n (ze5 e l) (zaG n (d+1) e l ts out)
 prim:OkE L ts out d d g 1 (20*ts.length) n zke (zaA n d ts out)
 manyn:∀ e:List UInt8,d+1≤64→∀ b ts2 out2,zay n (d+1) e ts out=.ok b ts2 out2→b.length≤ts.length
 manyln:∀ (e:List UInt8) (l:List Int),d+1≤64→∀ b ts2 out2,zaG n (d+1) e l ts out=.ok b ts2 out2→b.length≤l.length+ts.length
def SpA (n:Nat):Prop:=∀ (L:List Token),L.length≤1000000→(∀ t ∈ L,t.Text.length≤1000000)→∀ (ts:List Token),ts <:+ L→W ts→∀ (out:List Node),out.length+ts.length≤1000000→∀ (d:Nat),d≤64→∀ (g:Nat),Sp n L ts out d g
theorem zxy:SpA 0:=fun L hL hT ts hs hw out ho d hd g=>by
 constructor
 iterate 9 (intros;simp only[zu,zA,zam,unS,zaZ,zaP,zay,zaG,zaA,OkE];exact Nat.zero_le _)
 ·intro e h b ts2 out2 hb;simp[zay] at hb
 intro e l h b ts2 out2 hb;simp[zaG] at hb
section
variable {n:Nat} (ih:SpA n) {L ts:List Token} (hL:L.length≤1000000) (hT:∀ t ∈ L,t.Text.length≤1000000) (hs:ts <:+ L) (hw:W ts) {out:List Node} (ho:out.length+ts.length≤1000000) {d:Nat} (hd:d≤64) (g:Nat)
include ih hL hT hs hw ho hd
theorem zxd:OkE L ts out d d g 1 (20*ts.length+9) (n+1) zeC (zu (n+1) d ts out):=by
 have h1:=(ih L hL hT ts hs hw out ho d hd g).chain 0 (by omega)
 simp only[zu]
 cases hc:zA n 0 d ts out with
 | no=>rw[hc] at h1;simp only[PR.bind,OkE] at h1 ⊢;omega
 | er e =>
  rw[hc] at h1
  obtain⟨a,x',g',z',q⟩:=h1
  exact⟨0,x',g',z',zdD _ _ _ _ _ _ _ _ ⟨some e,a,x',g',z',q,rfl,rfl,rfl,rfl⟩⟩
 | ok a ts1 out1 =>
  rw[hc] at h1
  obtain⟨s1,w1,l1,o1,q1⟩:=h1
  simp only[PR.bind]
  by_cases hi:isS [63] ts1=true
  ·rw[if_pos hi]
   simp only[zaq,if_pos hi]
   have hlen:=zR hi
   by_cases h64:64≤d
   ·rw[if_pos h64]
    obtain⟨x',g',z',q⟩:=zew s1 w1.ne hi h64 out1 g false
    exact⟨0,x',g',z',zdD _ _ _ _ _ _ _ _ ⟨none,a,_,_,_,q1,true,_,zbe s1 hi,fun _=>⟨some 6,x',g',z',q,rfl,rfl,rfl,rfl⟩,fun hf=>absurd rfl hf⟩⟩
   rw[if_neg h64]
   have q2:=zex s1 hL hi h64 out1 g false
   have h3:=(ih L hL hT ts1.tail (zJ s1) (w1.shift hi) out1 (by omega) (d+1) (by omega) g).expr
   cases hb:zu n (d+1) ts1.tail out1 with
   | no=>rw[hb] at h3;simp only[OkE] at h3 ⊢;omega
   | er e =>
    rw[hb] at h3
    obtain⟨b,x',g',z',q3⟩:=h3
    exact⟨0,x',g',z',zdD _ _ _ _ _ _ _ _ ⟨none,a,_,_,_,q1,true,_,zbe s1 hi,fun _=>⟨none,_,_,_,q2,some e,b,x',g',z',q3,rfl,rfl,rfl,rfl⟩,fun hf=>absurd rfl hf⟩⟩
   | ok b ts2 out2 =>
    rw[hb] at h3
    obtain⟨s2,w2,l2,o2,q3⟩:=h3
    simp only[zah]
    by_cases hi2:isS [58] ts2=true
    ·rw[if_pos hi2]
     have hlen2:=zR hi2
     have h4:=(ih L hL hT ts2.tail (zJ s2) (w2.shift hi2) out2 (by omega) (d+1) (by omega) g).expr
     cases hc3:zu n (d+1) ts2.tail out2 with
     | no=>rw[hc3] at h4;simp only[OkE] at h4 ⊢;omega
     | er e =>
      rw[hc3] at h4
      obtain⟨c,x',g',z',q4⟩:=h4
      exact⟨0,x',g',z',zdD _ _ _ _ _ _ _ _ ⟨none,a,_,_,_,q1,true,_,zbe s1 hi,fun _=>⟨none,_,_,_,q2,none,b,_,_,_,q3,none,_,zbd s2 hL hi2,some e,c,x',g',z',q4,rfl,rfl,rfl,rfl⟩,fun hf=>absurd rfl hf⟩⟩
     | ok c ts3 out3 =>
      rw[hc3] at h4
      obtain⟨s3,w3,l3,o3,q4⟩:=h4
      refine⟨s3,w3,by omega,by simp;omega,zdD _ _ _ _ _ _ _ _ ⟨none,a,_,_,_,q1,true,_,zbe s1 hi,fun _=>⟨none,_,_,_,q2,none,b,_,_,_,q3,none,_,zbd s2 hL hi2,none,c,_,_,_,q4,⟨by simp only[pe];omega,by simp only[pe];omega⟩,_,_,_,_,zc7 _ out3 _ g false 10 [] [a,b,c] (by simp) (by omega),rfl,rfl,?_,rfl,rfl⟩,fun hf=>absurd rfl hf⟩⟩
      simp only[pe]
      congr 1
      omega
    rw[if_neg hi2]
    exact⟨0,_,_,_,zdD _ _ _ _ _ _ _ _ ⟨none,a,_,_,_,q1,true,_,zbe s1 hi,fun _=>⟨none,_,_,_,q2,none,b,_,_,_,q3,some 5,_,zeq s2 w2.ne (by simpa using hi2),rfl,rfl,rfl,rfl⟩,fun hf=>absurd rfl hf⟩⟩
  rw[if_neg hi]
  exact⟨s1,w1,l1,o1,zdD _ _ _ _ _ _ _ _ ⟨none,a,_,_,_,q1,false,_,zbH s1 w1.ne (by simpa using hi),fun hf=>(by cases hf),fun _=>⟨rfl,rfl,rfl,rfl,rfl⟩⟩⟩
theorem ztG (rank:Nat) (hr:rank≤5):OkE L ts out d d g 1 (20*ts.length+8 - rank) (n+1) (fun x g z=>zgP x g z (rank:Int)) (zA (n+1) rank d ts out):=by
 simp only[zA]
 by_cases h5:rank=5
 ·subst h5
  have h1:=(ih L hL hT ts hs hw out ho d hd g).un
  rw[if_pos rfl]
  cases hc:unS n d ts out with
  | no=>rw[hc] at h1;simp only[OkE] at h1 ⊢;omega
  | er e =>
   rw[hc] at h1
   obtain⟨a,x',g',z',q⟩:=h1
   exact⟨a,x',g',z',zeO _ _ _ _ _ _ _ _ _ ⟨fun _=>⟨some e,a,x',g',z',q,rfl,rfl,rfl,rfl⟩,fun hf=>absurd rfl hf⟩⟩
  | ok a ts1 out1 =>
   rw[hc] at h1
   obtain⟨s1,w1,l1,o1,q1⟩:=h1
   exact⟨s1,w1,l1,o1,zeO _ _ _ _ _ _ _ _ _ ⟨fun _=>⟨none,a,_,_,_,q1,rfl,rfl,rfl,rfl,rfl⟩,fun hf=>absurd rfl hf⟩⟩
 rw[if_neg h5]
 have h5':¬ ((rank:Nat):Int)=5:=by omega
 have h1:=(ih L hL hT ts hs hw out ho d hd g).chain (rank+1) (by omega)
 cases hc:zA n (rank+1) d ts out with
 | no=>rw[hc] at h1;simp only[PR.bind,OkE] at h1 ⊢;omega
 | er e =>
  rw[hc] at h1
  obtain⟨a,x',g',z',q⟩:=h1
  exact⟨a,x',g',z',zeO _ _ _ _ _ _ _ _ _ ⟨fun hf=>absurd hf h5',fun _=>⟨⟨by omega,by omega⟩,some e,a,x',g',z',q,rfl,rfl,rfl,rfl⟩⟩⟩
 | ok a ts1 out1 =>
  rw[hc] at h1
  obtain⟨s1,w1,l1,o1,q1⟩:=h1
  simp only[PR.bind]
  have h2:=(ih L hL hT ts1 s1 w1 out1 (by omega) d hd g).loop rank a (by omega)
  cases hl:zam n rank d a ts1 out1 with
  | no=>rw[hl] at h2;simp only[OkE] at h2 ⊢;omega
  | er e =>
   rw[hl] at h2
   obtain⟨b,x',g',z',q⟩:=h2
   exact⟨b,x',g',z',zeO _ _ _ _ _ _ _ _ _ ⟨fun hf=>absurd hf h5',fun _=>⟨⟨by omega,by omega⟩,none,a,_,_,_,q1,q⟩⟩⟩
  | ok b ts2 out2 =>
   rw[hl] at h2
   obtain⟨s2,w2,l2,o2,q2⟩:=h2
   exact⟨s2,w2,by omega,by omega,zeO _ _ _ _ _ _ _ _ _ ⟨fun hf=>absurd hf h5',fun _=>⟨⟨by omega,by omega⟩,none,a,_,_,_,q1,q2⟩⟩⟩
theorem zwU (rank:Nat) (a:Int) (hr:rank < 5):OkE L ts out d d g 0 (20*ts.length) (n+1) (ze4 (rank:Int) a) (zam (n+1) rank d a ts out):=by
 cases ts with
 | nil=>exact hw.elim
 | cons t ts =>
  simp only[zam]
  by_cases hk:t.Kind=4
  ·rw[if_pos hk]
   obtain⟨k,hk2,hkq⟩:=zAw rank hr t.Text
   cases hop:opS rank t.Text with
   | none =>
    rw[hop] at hk2
    exact⟨hs,hw,by simp,by simp,zbm _ _ _ _ _ _ _ _ _ _ ⟨t,_,zl hs,fun _=>⟨t,_,zl hs,k,false,hk2,fun hf=>(by cases hf),fun _=>⟨rfl,rfl,rfl,rfl,rfl⟩⟩,fun hf=>absurd hk hf⟩⟩
   | some kind =>
    rw[hop] at hk2
    obtain rfl:=hkq kind hop
    simp only
    have hk0:t.Kind≠0:=by rw[hk];decide
    have hp:=zbz hs
    have h1:=(ih L hL hT ts (zp hs) (hw.tail hk0) out (by simp at ho;omega) d hd g).chain (rank+1) (by omega)
    have hI:I64 ((pt L (t::ts)).pos+1):=by simp only[pt,I64];omega
    have hI2:I64 (((rank:Nat):Int)+1):=⟨by omega,by omega⟩
    have e1:(PExprs.mk (PTokens.mk (pt L (t::ts)).l ((pt L (t::ts)).pos+1)) (pe L (t::ts) out d).out (pe L (t::ts) out d).deep)=pe L ts out d:=by rw[zdO hs];rfl
    cases hc:zA n (rank+1) d ts out with
    | no=>rw[hc] at h1;simp only[PR.bind,OkE,List.length_cons] at h1 ⊢;omega
    | er e =>
     rw[hc] at h1
     obtain⟨b,x',g',z',q⟩:=h1
     exact⟨b,x',g',z',zbm _ _ _ _ _ _ _ _ _ _ ⟨t,_,zl hs,fun _=>⟨t,_,zl hs,k,true,hk2,fun _=>⟨hI,hI2,some e,b,x',g',z',e1 ▸ q,rfl,rfl,rfl,rfl⟩,fun hf=>absurd rfl hf⟩,fun hf=>absurd hk hf⟩⟩
    | ok b ts1 out1 =>
     rw[hc] at h1
     obtain⟨s1,w1,l1,o1,q1⟩:=h1
     simp only[PR.bind]
     simp only[List.length_cons] at ho hp
     by_cases h2:rank=2
     ·subst h2
      rw[if_pos rfl]
      exact⟨s1,w1,by simp;omega,by simp;omega,zbm _ _ _ _ _ _ _ _ _ _ ⟨t,_,zl hs,fun _=>⟨t,_,zl hs,k,true,hk2,fun _=>⟨hI,hI2,none,b,_,_,_,e1 ▸ q1,_,_,_,_,zc7 _ out1 _ g false k [] [a,b] (by simp) (by omega),fun _=>⟨rfl,rfl,rfl,rfl,rfl⟩,fun hf=>absurd rfl hf⟩,fun hf=>absurd rfl hf⟩,fun hf=>absurd hk hf⟩⟩
     rw[if_neg h2]
     have h2':¬ ((rank:Nat):Int)=2:=by omega
     have h3:=(ih L hL hT ts1 s1 w1 (out1++[nd k [] [a,b]]) (by simp;omega) d hd g).loop rank (out1.length:Nat) hr
     cases hl:zam n rank d (out1.length:Nat) ts1 (out1++[nd k [] [a,b]]) with
     | no=>rw[hl] at h3;simp only[OkE,List.length_cons] at h3 ⊢;omega
     | er e =>
      rw[hl] at h3
      obtain⟨c,x',g',z',q⟩:=h3
      exact⟨c,x',g',z',zbm _ _ _ _ _ _ _ _ _ _ ⟨t,_,zl hs,fun _=>⟨t,_,zl hs,k,true,hk2,fun _=>⟨hI,hI2,none,b,_,_,_,e1 ▸ q1,_,_,_,_,zc7 _ out1 _ g false k [] [a,b] (by simp) (by omega),fun hf=>absurd hf h2',fun _=>q⟩,fun hf=>absurd rfl hf⟩,fun hf=>absurd hk hf⟩⟩
     | ok c ts2 out2 =>
      rw[hl] at h3
      obtain⟨s2,w2,l2,o2,q2⟩:=h3
      simp only[List.length_append,List.length_cons,List.length_nil] at o2
      exact⟨s2,w2,by simp;omega,by simp;omega,zbm _ _ _ _ _ _ _ _ _ _ ⟨t,_,zl hs,fun _=>⟨t,_,zl hs,k,true,hk2,fun _=>⟨hI,hI2,none,b,_,_,_,e1 ▸ q1,_,_,_,_,zc7 _ out1 _ g false k [] [a,b] (by simp) (by omega),fun hf=>absurd hf h2',fun _=>q2⟩,fun hf=>absurd rfl hf⟩,fun hf=>absurd hk hf⟩⟩
  rw[if_neg hk]
  exact⟨hs,hw,by simp,by simp,zbm _ _ _ _ _ _ _ _ _ _ ⟨t,_,zl hs,fun hf=>absurd hf hk,fun _=>⟨rfl,rfl,rfl,rfl,rfl⟩⟩⟩
theorem zAm:OkE L ts out d d g 1 (20*ts.length+2) (n+1) zgU (unS (n+1) d ts out):=by
 simp only[unS]
 by_cases hi:isS [45] ts=true
 ·rw[if_pos hi]
  simp only[zaq,if_pos hi]
  have hlen:=zR hi
  by_cases h64:64≤d
  ·rw[if_pos h64]
   obtain⟨x',g',z',q⟩:=zew hs hw.ne hi h64 out g false
   exact⟨0,x',g',z',zcc _ _ _ _ _ _ _ _ ⟨true,_,zbe hs hi,fun _=>⟨some 6,x',g',z',q,rfl,rfl,rfl,rfl⟩,fun hf=>absurd rfl hf⟩⟩
  rw[if_neg h64]
  have q2:=zex hs hL hi h64 out g false
  have h3:=(ih L hL hT ts.tail (zJ hs) (hw.shift hi) out (by omega) (d+1) (by omega) g).un
  cases hb:unS n (d+1) ts.tail out with
  | no=>rw[hb] at h3;simp only[PR.bind,OkE] at h3 ⊢;omega
  | er e =>
   rw[hb] at h3
   obtain⟨b,x',g',z',q3⟩:=h3
   exact⟨0,x',g',z',zcc _ _ _ _ _ _ _ _ ⟨true,_,zbe hs hi,fun _=>⟨none,_,_,_,q2,some e,b,x',g',z',q3,rfl,rfl,rfl,rfl⟩,fun hf=>absurd rfl hf⟩⟩
  | ok b ts2 out2 =>
   rw[hb] at h3
   obtain⟨s2,w2,l2,o2,q3⟩:=h3
   simp only[PR.bind]
   refine⟨s2,w2,by omega,by simp;omega,zcc _ _ _ _ _ _ _ _ ⟨true,_,zbe hs hi,fun _=>⟨none,_,_,_,q2,none,b,_,_,_,q3,⟨by simp only[pe];omega,by simp only[pe];omega⟩,_,_,_,_,zc7 _ out2 _ g false 9 [] [b] (by simp) (by omega),rfl,rfl,?_,rfl,rfl⟩,fun hf=>absurd rfl hf⟩⟩
   simp only[pe]
   congr 1
   omega
 rw[if_neg hi]
 have hi0:isS [45] ts=false:=by simpa using hi
 clear hi
 by_cases hi:isS [33] ts=true
 ·rw[if_pos hi]
  simp only[zaq,if_pos hi]
  have hlen:=zR hi
  by_cases h64:64≤d
  ·rw[if_pos h64]
   obtain⟨x',g',z',q⟩:=zew hs hw.ne hi h64 out g false
   exact⟨0,x',g',z',zcc _ _ _ _ _ _ _ _ ⟨false,_,zbH hs hw.ne hi0,fun hf=>(by cases hf),fun _=>⟨true,_,zbe hs hi,fun _=>⟨some 6,x',g',z',q,rfl,rfl,rfl,rfl⟩,fun hf=>absurd rfl hf⟩⟩⟩
  rw[if_neg h64]
  have q2:=zex hs hL hi h64 out g false
  have h3:=(ih L hL hT ts.tail (zJ hs) (hw.shift hi) out (by omega) (d+1) (by omega) g).un
  cases hb:unS n (d+1) ts.tail out with
  | no=>rw[hb] at h3;simp only[PR.bind,OkE] at h3 ⊢;omega
  | er e =>
   rw[hb] at h3
   obtain⟨b,x',g',z',q3⟩:=h3
   exact⟨0,x',g',z',zcc _ _ _ _ _ _ _ _ ⟨false,_,zbH hs hw.ne hi0,fun hf=>(by cases hf),fun _=>⟨true,_,zbe hs hi,fun _=>⟨none,_,_,_,q2,some e,b,x',g',z',q3,rfl,rfl,rfl,rfl⟩,fun hf=>absurd rfl hf⟩⟩⟩
  | ok b ts2 out2 =>
   rw[hb] at h3
   obtain⟨s2,w2,l2,o2,q3⟩:=h3
   simp only[PR.bind]
   refine⟨s2,w2,by omega,by simp;omega,zcc _ _ _ _ _ _ _ _ ⟨false,_,zbH hs hw.ne hi0,fun hf=>(by cases hf),fun _=>⟨true,_,zbe hs hi,fun _=>⟨none,_,_,_,q2,none,b,_,_,_,q3,⟨by simp only[pe];omega,by simp only[pe];omega⟩,_,_,_,_,zc7 _ out2 _ g false 8 [] [b] (by simp) (by omega),rfl,rfl,?_,rfl,rfl⟩,fun hf=>absurd rfl hf⟩⟩⟩
   simp only[pe]
   congr 1
   omega
 rw[if_neg hi]
 have h1:=(ih L hL hT ts hs hw out ho d hd g).post
 cases hc:zaZ n d ts out with
 | no=>rw[hc] at h1;simp only[OkE] at h1 ⊢;omega
 | er e =>
  rw[hc] at h1
  obtain⟨a,x',g',z',q⟩:=h1
  exact⟨a,x',g',z',zcc _ _ _ _ _ _ _ _ ⟨false,_,zbH hs hw.ne hi0,fun hf=>(by cases hf),fun _=>⟨false,_,zbH hs hw.ne (by simpa using hi),fun hf=>(by cases hf),fun _=>⟨some e,a,x',g',z',q,rfl,rfl,rfl,rfl⟩⟩⟩⟩
 | ok a ts1 out1 =>
  rw[hc] at h1
  obtain⟨s1,w1,l1,o1,q1⟩:=h1
  exact⟨s1,w1,l1,o1,zcc _ _ _ _ _ _ _ _ ⟨false,_,zbH hs hw.ne hi0,fun hf=>(by cases hf),fun _=>⟨false,_,zbH hs hw.ne (by simpa using hi),fun hf=>(by cases hf),fun _=>⟨none,a,_,_,_,q1,rfl,rfl,rfl,rfl,rfl⟩⟩⟩⟩
theorem zwa:OkE L ts out d d g 1 (20*ts.length+1) (n+1) zkn (zaZ (n+1) d ts out):=by
 simp only[zaZ]
 have h1:=(ih L hL hT ts hs hw out ho d hd g).prim
 cases hc:zaA n d ts out with
 | no=>rw[hc] at h1;simp only[PR.bind,OkE] at h1 ⊢;omega
 | er e =>
  rw[hc] at h1
  obtain⟨a,x',g',z',q⟩:=h1
  exact⟨a,x',g',z',zil _ _ _ _ _ _ _ _ ⟨some e,a,x',g',z',q,rfl,rfl,rfl,rfl⟩⟩
 | ok a ts1 out1 =>
  rw[hc] at h1
  obtain⟨s1,w1,l1,o1,q1⟩:=h1
  simp only[PR.bind]
  have h2:=(ih L hL hT ts1 s1 w1 out1 (by omega) d hd g).postl a
  cases hl:zaP n d a ts1 out1 with
  | no=>rw[hl] at h2;simp only[OkE] at h2 ⊢;omega
  | er e =>
   rw[hl] at h2
   obtain⟨b,x',g',z',q⟩:=h2
   exact⟨b,x',g',z',zil _ _ _ _ _ _ _ _ ⟨none,a,_,_,_,q1,q⟩⟩
  | ok b ts2 out2 =>
   rw[hl] at h2
   obtain⟨s2,w2,l2,o2,q2⟩:=h2
   exact⟨s2,w2,by omega,by omega,zil _ _ _ _ _ _ _ _ ⟨none,a,_,_,_,q1,q2⟩⟩
theorem ztU (a:Int):OkE L ts out d d g 0 (20*ts.length) (n+1) (zeQ a) (zaP (n+1) d a ts out):=by
 simp only[zaP]
 by_cases hi:isS [91] ts=true
 ·rw[if_pos hi]
  simp only[zaq,if_pos hi]
  have hlen:=zR hi
  by_cases h64:64≤d
  ·rw[if_pos h64]
   obtain⟨x',g',z',q⟩:=zew hs hw.ne hi h64 out g false
   exact⟨0,x',g',z',zbl _ _ _ _ _ _ _ _ _ ⟨true,_,zbe hs hi,fun _=>⟨some 6,x',g',z',q,rfl,rfl,rfl,rfl⟩,fun hf=>absurd rfl hf⟩⟩
  rw[if_neg h64]
  have q2:=zex hs hL hi h64 out g false
  have h3:=(ih L hL hT ts.tail (zJ hs) (hw.shift hi) out (by omega) (d+1) (by omega) g).expr
  cases hb:zu n (d+1) ts.tail out with
  | no=>rw[hb] at h3;simp only[PR.bind,OkE] at h3 ⊢;omega
  | er e =>
   rw[hb] at h3
   obtain⟨b,x',g',z',q3⟩:=h3
   exact⟨0,x',g',z',zbl _ _ _ _ _ _ _ _ _ ⟨true,_,zbe hs hi,fun _=>⟨none,_,_,_,q2,some e,b,x',g',z',q3,rfl,rfl,rfl,rfl⟩,fun hf=>absurd rfl hf⟩⟩
  | ok b ts2 out2 =>
   rw[hb] at h3
   obtain⟨s2,w2,l2,o2,q3⟩:=h3
   simp only[PR.bind,zah]
   by_cases hi2:isS [93] ts2=true
   ·rw[if_pos hi2]
    have hlen2:=zR hi2
    have q4:=ziQ s2 hL hi2 (d:=d) (by omega) out2 g false
    have h4:=(ih L hL hT ts2.tail (zJ s2) (w2.shift hi2) (out2++[nd 7 [] [a,b]]) (by simp;omega) d hd g).postl (out2.length:Nat)
    cases hl:zaP n d (out2.length:Nat) ts2.tail (out2++[nd 7 [] [a,b]]) with
    | no=>rw[hl] at h4;simp only[OkE] at h4 ⊢;omega
    | er e =>
     rw[hl] at h4
     obtain⟨c,x',g',z',q⟩:=h4
     exact⟨c,x',g',z',zbl _ _ _ _ _ _ _ _ _ ⟨true,_,zbe hs hi,fun _=>⟨none,_,_,_,q2,none,b,_,_,_,q3,none,_,_,_,q4,_,_,_,_,zc7 _ out2 _ g false 7 [] [a,b] (by simp) (by omega),q⟩,fun hf=>absurd rfl hf⟩⟩
    | ok c ts3 out3 =>
     rw[hl] at h4
     obtain⟨s3,w3,l3,o3,q⟩:=h4
     simp only[List.length_append,List.length_cons,List.length_nil] at o3
     exact⟨s3,w3,by omega,by omega,zbl _ _ _ _ _ _ _ _ _ ⟨true,_,zbe hs hi,fun _=>⟨none,_,_,_,q2,none,b,_,_,_,q3,none,_,_,_,q4,_,_,_,_,zc7 _ out2 _ g false 7 [] [a,b] (by simp) (by omega),q⟩,fun hf=>absurd rfl hf⟩⟩
   rw[if_neg hi2]
   obtain⟨x',g',z',q⟩:=zle s2 w2.ne (by simpa using hi2) (d+1) out2 g false
   exact⟨0,x',g',z',zbl _ _ _ _ _ _ _ _ _ ⟨true,_,zbe hs hi,fun _=>⟨none,_,_,_,q2,none,b,_,_,_,q3,some 5,x',g',z',q,rfl,rfl,rfl,rfl⟩,fun hf=>absurd rfl hf⟩⟩
 rw[if_neg hi]
 exact⟨hs,hw,by omega,by omega,zbl _ _ _ _ _ _ _ _ _ ⟨false,_,zbH hs hw.ne (by simpa using hi),fun hf=>(by cases hf),fun _=>⟨rfl,rfl,rfl,rfl,rfl⟩⟩⟩
theorem zw0 (e:List UInt8) (h65:d+1≤64):OkE L ts out (d+1) d g 1 (20*ts.length+10) (n+1) (fun x g z=>zh7 x g z e) (zay (n+1) (d+1) e ts out):=by
 simp only[zay]
 by_cases hi:isS e ts=true
 ·rw[if_pos hi]
  have hlen:=zR hi
  exact⟨zJ hs,hw.shift hi,by omega,by omega,zf6 _ _ _ _ _ _ _ _ _ ⟨true,_,zbe hs hi,fun _=>⟨none,_,_,_,ziQ hs hL hi (d:=d) (by omega) out g false,rfl,rfl,rfl,rfl,rfl⟩,fun hf=>absurd rfl hf⟩⟩
 rw[if_neg hi]
 have hi0:isS e ts=false:=by simpa using hi
 have h1:=(ih L hL hT ts hs hw out ho (d+1) h65 g).expr
 cases hc:zu n (d+1) ts out with
 | no=>rw[hc] at h1;simp only[PR.bind,OkE] at h1 ⊢;omega
 | er e' =>
  rw[hc] at h1
  obtain⟨a,x',g',z',q⟩:=h1
  exact⟨[],x',g',z',zf6 _ _ _ _ _ _ _ _ _ ⟨false,_,zbH hs hw.ne hi0,fun hf=>(by cases hf),fun _=>⟨some e',a,x',g',z',q,rfl,rfl,rfl,rfl⟩⟩⟩
 | ok a ts1 out1 =>
  rw[hc] at h1
  obtain⟨s1,w1,l1,o1,q1⟩:=h1
  simp only[PR.bind]
  have h2:=(ih L hL hT ts1 s1 w1 out1 (by omega) d hd g).manyl e [a] (by have:=zbz s1;simp;omega) h65
  cases hl:zaG n (d+1) e [a] ts1 out1 with
  | no=>rw[hl] at h2;simp only[OkE] at h2 ⊢;omega
  | er e' =>
   rw[hl] at h2
   obtain⟨b,x',g',z',q⟩:=h2
   exact⟨b,x',g',z',zf6 _ _ _ _ _ _ _ _ _ ⟨false,_,zbH hs hw.ne hi0,fun hf=>(by cases hf),fun _=>⟨none,a,_,_,_,q1,q⟩⟩⟩
  | ok b ts2 out2 =>
   rw[hl] at h2
   obtain⟨s2,w2,l2,o2,q2⟩:=h2
   exact⟨s2,w2,by omega,by omega,zf6 _ _ _ _ _ _ _ _ _ ⟨false,_,zbH hs hw.ne hi0,fun hf=>(by cases hf),fun _=>⟨none,a,_,_,_,q1,q2⟩⟩⟩
theorem zut (e:List UInt8) (l:List Int) (hl:l.length+ts.length≤1000000) (h65:d+1≤64):OkE L ts out (d+1) d g 1 (20*ts.length) (n+1) (ze5 e l) (zaG (n+1) (d+1) e l ts out):=by
 simp only[zaG]
 by_cases hi:isS [44] ts=true
 ·rw[if_pos hi]
  have hlen:=zR hi
  have h1:=(ih L hL hT ts.tail (zJ hs) (hw.shift hi) out (by omega) (d+1) h65 g).expr
  cases hc:zu n (d+1) ts.tail out with
  | no=>rw[hc] at h1;simp only[PR.bind,OkE] at h1 ⊢;omega
  | er e' =>
   rw[hc] at h1
   obtain⟨a,x',g',z',q⟩:=h1
   exact⟨[],x',g',z',zb6 _ _ _ _ _ _ _ _ _ _ ⟨true,_,zeR hs hL hi,fun _=>⟨some e',a,x',g',z',q,rfl,rfl,rfl,rfl⟩,fun hf=>absurd rfl hf⟩⟩
  | ok a ts1 out1 =>
   rw[hc] at h1
   obtain⟨s1,w1,l1,o1,q1⟩:=h1
   simp only[PR.bind]
   have h2:=(ih L hL hT ts1 s1 w1 out1 (by omega) d hd g).manyl e (l++[a]) (by simp;omega) h65
   have hb:bigRow (l.length+1) 8:=by simp only[bigRow];omega
   cases hl2:zaG n (d+1) e (l++[a]) ts1 out1 with
   | no=>rw[hl2] at h2;simp only[OkE] at h2 ⊢;omega
   | er e' =>
    rw[hl2] at h2
    obtain⟨b,x',g',z',q⟩:=h2
    exact⟨b,x',g',z',zb6 _ _ _ _ _ _ _ _ _ _ ⟨true,_,zeR hs hL hi,fun _=>⟨none,a,_,_,_,q1,hb,q⟩,fun hf=>absurd rfl hf⟩⟩
   | ok b ts2 out2 =>
    rw[hl2] at h2
    obtain⟨s2,w2,l2,o2,q2⟩:=h2
    exact⟨s2,w2,by omega,by omega,zb6 _ _ _ _ _ _ _ _ _ _ ⟨true,_,zeR hs hL hi,fun _=>⟨none,a,_,_,_,q1,hb,q2⟩,fun hf=>absurd rfl hf⟩⟩
 rw[if_neg hi]
 have hi0:isS [44] ts=false:=by simpa using hi
 simp only[zah]
 by_cases hi2:isS e ts=true
 ·rw[if_pos hi2]
  have hlen:=zR hi2
  exact⟨zJ hs,hw.shift hi2,by omega,by omega,zb6 _ _ _ _ _ _ _ _ _ _ ⟨false,_,zfz hs hw.ne hi0,fun hf=>(by cases hf),fun _=>⟨none,_,_,_,ziQ hs hL hi2 (d:=d) (by omega) out g false,rfl,rfl,rfl,rfl,rfl⟩⟩⟩
 rw[if_neg hi2]
 obtain⟨x',g',z',q⟩:=zle hs hw.ne (by simpa using hi2) (d+1) out g false
 exact⟨[],x',g',z',zb6 _ _ _ _ _ _ _ _ _ _ ⟨false,_,zfz hs hw.ne hi0,fun hf=>(by cases hf),fun _=>⟨some 5,x',g',z',q,rfl,rfl,rfl,rfl⟩⟩⟩
theorem zuD (e:List UInt8) (h65:d+1≤64):∀ b ts2 out2,zay (n+1) (d+1) e ts out=.ok b ts2 out2→b.length≤ts.length:=by
 intro b ts2 out2 hb
 simp only[zay] at hb
 by_cases hi:isS e ts=true
 ·rw[if_pos hi] at hb
  cases hb
  simp
 rw[if_neg hi] at hb
 have h1:=(ih L hL hT ts hs hw out ho (d+1) h65 0).expr
 cases hc:zu n (d+1) ts out with
 | no=>rw[hc] at hb;cases hb
 | er e'=>rw[hc] at hb;cases hb
 | ok a ts1 out1 =>
  rw[hc] at hb h1
  obtain⟨s1,w1,l1,o1,_⟩:=h1
  have:=(ih L hL hT ts1 s1 w1 out1 (by omega) d hd 0).manyln e [a] h65 b ts2 out2 hb
  simp at this
  omega
theorem zq3 (e:List UInt8) (l:List Int) (h65:d+1≤64):∀ b ts2 out2,zaG (n+1) (d+1) e l ts out=.ok b ts2 out2→b.length≤l.length+ts.length:=by
 intro b ts2 out2 hb
 simp only[zaG] at hb
 by_cases hi:isS [44] ts=true
 ·rw[if_pos hi] at hb
  have hlen:=zR hi
  have h1:=(ih L hL hT ts.tail (zJ hs) (hw.shift hi) out (by omega) (d+1) h65 0).expr
  cases hc:zu n (d+1) ts.tail out with
  | no=>rw[hc] at hb;cases hb
  | er e'=>rw[hc] at hb;cases hb
  | ok a ts1 out1 =>
   rw[hc] at hb h1
   obtain⟨s1,w1,l1,o1,_⟩:=h1
   have:=(ih L hL hT ts1 s1 w1 out1 (by omega) d hd 0).manyln e (l++[a]) h65 b ts2 out2 hb
   simp at this
   omega
 rw[if_neg hi] at hb
 simp only[zah] at hb
 split at hb
 ·cases hb;omega
 cases hb
omit hs hw ho in
theorem zwb {t:Token} {ts:List Token} (hs:(t::ts) <:+ L) (hw:W (t::ts)) (ho:out.length+(t::ts).length≤1000000) (hk:t.Kind=3):OkE L (t::ts) out d d g 1 (20*(t::ts).length) (n+1) znI (zaA (n+1) d (t::ts) out):=by
 have hk0:t.Kind≠0:=by rw[hk];decide
 have hs1:=zp hs
 have hw1:=hw.tail hk0
 have q0:=ziV hs hL hk
 have hT1:t.Text.length+1≤zaO:=by have:=hT t (hs.mem (by simp));simp only[zaO];omega
 simp only[List.length_cons] at ho
 simp only[zaA,if_pos hk]
 by_cases h1:t.Text=[116,114,117,101]
 ·rw[if_pos h1]
  exact⟨hs1,hw1,by simp,by simp;omega,zcb _ _ _ _ _ _ _ _ ⟨none,_,_,q0,fun _=>⟨_,_,_,_,zqe _ out _ g 3 1 (by omega),rfl,rfl,rfl,rfl,rfl⟩,fun hf=>absurd h1 hf⟩⟩
 rw[if_neg h1]
 by_cases h2:t.Text=[102,97,108,115,101]
 ·rw[if_pos h2]
  exact⟨hs1,hw1,by simp,by simp;omega,zcb _ _ _ _ _ _ _ _ ⟨none,_,_,q0,fun hf=>absurd hf h1,fun _=>⟨fun _=>⟨_,_,_,_,zqe _ out _ g 3 0 (by omega),rfl,rfl,rfl,rfl,rfl⟩,fun hf=>absurd h2 hf⟩⟩⟩
 rw[if_neg h2]
 by_cases hi:isS [46] ts=true
 ·rw[if_pos hi]
  have hlen:=zR hi
  have hs2:=zJ hs1
  have hw2:=hw1.shift hi
  have q1:=zeR hs1 hL hi
  cases he:ts.tail with
  | nil=>rw[he] at hw2;exact hw2.elim
  | cons u us =>
   rw[he] at hs2 hw2 q1 hlen
   simp only[List.length_cons] at hlen
   have hT2:t.Text.length+1+u.Text.length≤zaO:=by have:=hT t (hs.mem (by simp));have:=hT u (hs2.mem (by simp));simp only[zaO];omega
   by_cases hu:u.Kind=3
   ·simp only[if_pos hu]
    have hu0:u.Kind≠0:=by rw[hu];decide
    exact⟨zp hs2,hw2.tail hu0,by simp;omega,by simp;omega,zcb _ _ _ _ _ _ _ _ ⟨none,_,_,q0,fun hf=>absurd hf h1,fun _=>⟨fun hf=>absurd hf h2,fun _=>⟨true,_,q1,fun _=>⟨hT1,none,_,_,ziV hs2 hL hu,hT2,_,_,_,_,zc7 _ out _ g false 4 _ [] (by simp) (by omega),rfl,rfl,rfl,rfl,rfl⟩,fun hf=>absurd rfl hf⟩⟩⟩⟩
   simp only[if_neg hu]
   exact⟨0,_,_,_,zcb _ _ _ _ _ _ _ _ ⟨none,_,_,q0,fun hf=>absurd hf h1,fun _=>⟨fun hf=>absurd hf h2,fun _=>⟨true,_,q1,fun _=>⟨hT1,some 5,[],_,zlr hs2 hu [],rfl,rfl,rfl,rfl⟩,fun hf=>absurd rfl hf⟩⟩⟩⟩
 rw[if_neg hi]
 have hi0:isS [46] ts=false:=by simpa using hi
 have q1:=zfz hs1 hw1.ne hi0
 simp only[zaq]
 by_cases hp:isS [40] ts=true
 ·rw[if_pos hp]
  have hlen:=zR hp
  by_cases h64:64≤d
  ·rw[if_pos h64]
   obtain⟨x',g',z',q⟩:=zew hs1 hw1.ne hp h64 out g false
   exact⟨0,x',g',z',zcb _ _ _ _ _ _ _ _ ⟨none,_,_,q0,fun hf=>absurd hf h1,fun _=>⟨fun hf=>absurd hf h2,fun _=>⟨false,_,q1,fun hf=>(by cases hf),fun _=>⟨some 6,x',g',z',q,rfl,rfl,rfl,rfl⟩⟩⟩⟩⟩
  rw[if_neg h64]
  have q2:=zex hs1 hL hp h64 out g false
  have h3:=(ih L hL hT ts.tail (zJ hs1) (hw1.shift hp) out (by omega) d hd g).many [41] (by omega)
  cases hb:zay n (d+1) [41] ts.tail out with
  | no=>rw[hb] at h3;simp only[PR.bind,OkE,List.length_cons] at h3 ⊢;omega
  | er e =>
   rw[hb] at h3
   obtain⟨b,x',g',z',q3⟩:=h3
   exact⟨0,x',g',z',zcb _ _ _ _ _ _ _ _ ⟨none,_,_,q0,fun hf=>absurd hf h1,fun _=>⟨fun hf=>absurd hf h2,fun _=>⟨false,_,q1,fun hf=>(by cases hf),fun _=>⟨none,_,_,_,q2,some e,b,x',g',z',q3,rfl,rfl,rfl,rfl⟩⟩⟩⟩⟩
  | ok b ts2 out2 =>
   rw[hb] at h3
   obtain⟨s2,w2,l2,o2,q3⟩:=h3
   simp only[PR.bind]
   have hbl:b.length≤1000000:=by
    have:=(ih L hL hT ts.tail (zJ hs1) (hw1.shift hp) out (by omega) d hd g).manyn [41] (by omega) b ts2 out2 hb
    omega
   exact⟨s2,w2,by simp;omega,by simp;omega,zcb _ _ _ _ _ _ _ _ ⟨none,_,_,q0,fun hf=>absurd hf h1,fun _=>⟨fun hf=>absurd hf h2,fun _=>⟨false,_,q1,fun hf=>(by cases hf),fun _=>⟨none,_,_,_,q2,none,b,_,_,_,q3,_,_,_,_,zc7 _ out2 _ g false 5 t.Text b hbl (by omega),rfl,rfl,rfl,rfl,rfl⟩⟩⟩⟩⟩
 rw[if_neg hp]
 obtain⟨x',g',z',q⟩:=zo3 hs1 hw1.ne (by simpa using hp) d out g false
 exact⟨0,x',g',z',zcb _ _ _ _ _ _ _ _ ⟨none,_,_,q0,fun hf=>absurd hf h1,fun _=>⟨fun hf=>absurd hf h2,fun _=>⟨false,_,q1,fun hf=>(by cases hf),fun _=>⟨some 5,x',g',z',q,rfl,rfl,rfl,rfl⟩⟩⟩⟩⟩
theorem zxg:OkE L ts out d d g 1 (20*ts.length) (n+1) zke (zaA (n+1) d ts out):=by
 cases ts with
 | nil=>exact hw.elim
 | cons t ts =>
  by_cases hk:t.Kind=3
  ·have h:=zwb ih hL hT hd g hs hw ho hk
   cases hc:zaA (n+1) d (t::ts) out with
   | no=>rw[hc] at h;exact h
   | er e =>
    rw[hc] at h
    obtain⟨a,x',g',z',q⟩:=h
    exact⟨a,x',g',z',zaS _ _ _ _ _ _ _ _ ⟨t,_,zl hs,fun _=>⟨some e,a,x',g',z',q,rfl,rfl,rfl,rfl⟩,fun hf=>absurd hk hf⟩⟩
   | ok a ts1 out1 =>
    rw[hc] at h
    obtain⟨s1,w1,l1,o1,q⟩:=h
    exact⟨s1,w1,l1,o1,zaS _ _ _ _ _ _ _ _ ⟨t,_,zl hs,fun _=>⟨none,a,_,_,_,q,rfl,rfl,rfl,rfl,rfl⟩,fun hf=>absurd hk hf⟩⟩
  have hI:I64 ((pt L (t::ts)).pos+1):=by simp only[pt,I64];omega
  have ho1:out.length≤1000000:=by omega
  have hlc:(t::ts).length=ts.length+1:=rfl
  simp only[zaA,if_neg hk]
  by_cases h1:t.Kind=1
  ·rw[if_pos h1]
   have hk0:t.Kind≠0:=by rw[h1];decide
   refine⟨zp hs,hw.tail hk0,by simp,by simp;omega,zaS _ _ _ _ _ _ _ _ ⟨t,_,zl hs,fun hf=>absurd hf hk,fun _=>⟨fun _=>⟨hI,_,_,_,_,zqe _ out _ g 1 t.Num ho1,rfl,rfl,?_,rfl,rfl⟩,fun hf=>absurd h1 hf⟩⟩⟩
   rw[zdO hs]
   rfl
  rw[if_neg h1]
  by_cases h2:t.Kind=2
  ·rw[if_pos h2]
   have hk0:t.Kind≠0:=by rw[h2];decide
   refine⟨zp hs,hw.tail hk0,by simp,by simp;omega,zaS _ _ _ _ _ _ _ _ ⟨t,_,zl hs,fun hf=>absurd hf hk,fun _=>⟨fun hf=>absurd hf h1,fun _=>⟨fun _=>⟨hI,_,_,_,_,zc7 _ out _ g false 2 [] [] (by simp) ho1,by omega,by simp,rfl,nd 2 [] [],by simp,rfl,rfl,?_,rfl,rfl⟩,fun hf=>absurd h2 hf⟩⟩⟩⟩
   rw[zdO hs]
   simp[pe,nd]
  rw[if_neg h2]
  by_cases hi:isS [91] (t::ts)=true
  ·rw[if_pos hi]
   simp only[zaq,if_pos hi]
   have hlen:=zR hi
   by_cases h64:64≤d
   ·rw[if_pos h64]
    obtain⟨x',g',z',q⟩:=zew hs hw.ne hi h64 out g false
    exact⟨0,x',g',z',zaS _ _ _ _ _ _ _ _ ⟨t,_,zl hs,fun hf=>absurd hf hk,fun _=>⟨fun hf=>absurd hf h1,fun _=>⟨fun hf=>absurd hf h2,fun _=>⟨true,_,zbe hs hi,fun _=>⟨some 6,x',g',z',q,rfl,rfl,rfl,rfl⟩,fun hf=>absurd rfl hf⟩⟩⟩⟩⟩
   rw[if_neg h64]
   have q2:=zex hs hL hi h64 out g false
   have h3:=(ih L hL hT (t::ts).tail (zJ hs) (hw.shift hi) out (by omega) d hd g).many [93] (by omega)
   cases hb:zay n (d+1) [93] (t::ts).tail out with
   | no=>rw[hb] at h3;simp only[PR.bind,OkE] at h3 ⊢;omega
   | er e =>
    rw[hb] at h3
    obtain⟨b,x',g',z',q3⟩:=h3
    exact⟨0,x',g',z',zaS _ _ _ _ _ _ _ _ ⟨t,_,zl hs,fun hf=>absurd hf hk,fun _=>⟨fun hf=>absurd hf h1,fun _=>⟨fun hf=>absurd hf h2,fun _=>⟨true,_,zbe hs hi,fun _=>⟨none,_,_,_,q2,some e,b,x',g',z',q3,rfl,rfl,rfl,rfl⟩,fun hf=>absurd rfl hf⟩⟩⟩⟩⟩
   | ok b ts2 out2 =>
    have hbl:b.length≤1000000:=by
     have:=(ih L hL hT (t::ts).tail (zJ hs) (hw.shift hi) out (by omega) d hd 0).manyn [93] (by omega) b ts2 out2 hb
     omega
    rw[hb] at h3
    obtain⟨s2,w2,l2,o2,q3⟩:=h3
    simp only[PR.bind]
    exact⟨s2,w2,by omega,by simp only[List.length_append,List.length_cons,List.length_nil] at *;omega,zaS _ _ _ _ _ _ _ _ ⟨t,_,zl hs,fun hf=>absurd hf hk,fun _=>⟨fun hf=>absurd hf h1,fun _=>⟨fun hf=>absurd hf h2,fun _=>⟨true,_,zbe hs hi,fun _=>⟨none,_,_,_,q2,none,b,_,_,_,q3,_,_,_,_,zc7 _ out2 _ g false 6 [] b hbl (by omega),rfl,rfl,rfl,rfl,rfl⟩,fun hf=>absurd rfl hf⟩⟩⟩⟩⟩
  rw[if_neg hi]
  have hi0:isS [91] (t::ts)=false:=by simpa using hi
  simp only[zaq]
  by_cases hp:isS [40] (t::ts)=true
  ·rw[if_pos hp]
   have hlen:=zR hp
   by_cases h64:64≤d
   ·rw[if_pos h64]
    obtain⟨x',g',z',q⟩:=zew hs hw.ne hp h64 out g false
    exact⟨0,x',g',z',zaS _ _ _ _ _ _ _ _ ⟨t,_,zl hs,fun hf=>absurd hf hk,fun _=>⟨fun hf=>absurd hf h1,fun _=>⟨fun hf=>absurd hf h2,fun _=>⟨false,_,zbH hs hw.ne hi0,fun hf=>(by cases hf),fun _=>⟨some 6,x',g',z',q,rfl,rfl,rfl,rfl⟩⟩⟩⟩⟩⟩
   rw[if_neg h64]
   have q2:=zex hs hL hp h64 out g false
   have h3:=(ih L hL hT (t::ts).tail (zJ hs) (hw.shift hp) out (by omega) (d+1) (by omega) g).expr
   cases hb:zu n (d+1) (t::ts).tail out with
   | no=>rw[hb] at h3;simp only[PR.bind,OkE] at h3 ⊢;omega
   | er e =>
    rw[hb] at h3
    obtain⟨b,x',g',z',q3⟩:=h3
    exact⟨0,x',g',z',zaS _ _ _ _ _ _ _ _ ⟨t,_,zl hs,fun hf=>absurd hf hk,fun _=>⟨fun hf=>absurd hf h1,fun _=>⟨fun hf=>absurd hf h2,fun _=>⟨false,_,zbH hs hw.ne hi0,fun hf=>(by cases hf),fun _=>⟨none,_,_,_,q2,some e,b,x',g',z',q3,rfl,rfl,rfl,rfl⟩⟩⟩⟩⟩⟩
   | ok b ts2 out2 =>
    rw[hb] at h3
    obtain⟨s2,w2,l2,o2,q3⟩:=h3
    simp only[PR.bind,zah]
    by_cases hi2:isS [41] ts2=true
    ·rw[if_pos hi2]
     have hlen2:=zR hi2
     exact⟨zJ s2,w2.shift hi2,by omega,by omega,zaS _ _ _ _ _ _ _ _ ⟨t,_,zl hs,fun hf=>absurd hf hk,fun _=>⟨fun hf=>absurd hf h1,fun _=>⟨fun hf=>absurd hf h2,fun _=>⟨false,_,zbH hs hw.ne hi0,fun hf=>(by cases hf),fun _=>⟨none,_,_,_,q2,none,b,_,_,_,q3,none,_,_,_,ziQ s2 hL hi2 (d:=d) (by omega) out2 g false,rfl,rfl,rfl,rfl,rfl⟩⟩⟩⟩⟩⟩
    rw[if_neg hi2]
    obtain⟨x',g',z',q⟩:=zle s2 w2.ne (by simpa using hi2) (d+1) out2 g false
    exact⟨0,x',g',z',zaS _ _ _ _ _ _ _ _ ⟨t,_,zl hs,fun hf=>absurd hf hk,fun _=>⟨fun hf=>absurd hf h1,fun _=>⟨fun hf=>absurd hf h2,fun _=>⟨false,_,zbH hs hw.ne hi0,fun hf=>(by cases hf),fun _=>⟨none,_,_,_,q2,none,b,_,_,_,q3,some 5,x',g',z',q,rfl,rfl,rfl,rfl⟩⟩⟩⟩⟩⟩
  rw[if_neg hp]
  obtain⟨x',g',z',q⟩:=zo3 hs hw.ne (by simpa using hp) d out g false
  exact⟨0,x',g',z',zaS _ _ _ _ _ _ _ _ ⟨t,_,zl hs,fun hf=>absurd hf hk,fun _=>⟨fun hf=>absurd hf h1,fun _=>⟨fun hf=>absurd hf h2,fun _=>⟨false,_,zbH hs hw.ne hi0,fun hf=>(by cases hf),fun _=>⟨some 5,x',g',z',q,rfl,rfl,rfl,rfl⟩⟩⟩⟩⟩⟩
end
theorem zrV:∀ n,SpA n
 | 0=>zxy
 | n+1=>fun L hL hT ts hs hw out ho d hd g =>
  have ih:=zrV n
  ⟨zxd ih hL hT hs hw ho hd g,ztG ih hL hT hs hw ho hd g,zwU ih hL hT hs hw ho hd g,zAm ih hL hT hs hw ho hd g,zwa ih hL hT hs hw ho hd g,ztU ih hL hT hs hw ho hd g,zw0 ih hL hT hs hw ho hd g,zut ih hL hT hs hw ho hd g,zxg ih hL hT hs hw ho hd g,zuD ih hL hT hs hw ho hd,zq3 ih hL hT hs hw ho hd⟩
theorem zy5:SP 37=some (.code sc_Q37):=ze rfl Tryz.func37 comp_Q37
def zfM (b1:PBlocks) (g2:Nat) (z3:Bool) (c0_4:List Block) (g5:Nat) (z6:Bool) (o:Option Int) (b':PBlocks) (b'_g2:Nat) (b'_z2:Bool) (c0_':List Block) (c0_'_g0:Nat) (c0_'_z0:Bool):Prop:=∀ (S:Sto) (e:Nat→PV) (f:Fr) (n0 t0:Nat) (n1 t1:Nat),((getBox S n0 t0).map (List.take 4)=some [.list 5 (b1.exprs.tokens.l.map eToken) false,.int .i64 b1.exprs.tokens.pos,.sl 0 (.cell t0 2) 0 b1.exprs.out.length b1.exprs.out.length g2 false,.int .i64 b1.exprs.deep]∧getArr S n0 (.cell t0 2)=some ⟨5,b1.exprs.out.map eNode,z3,g2⟩)→((getBox S n1 t1).map (List.take 1)=some [.sl 0 (.cell t1 0) 0 c0_4.length c0_4.length g5 false]∧getArr S n1 (.cell t1 0)=some ⟨4,c0_4.map zF,z6,g5⟩)→(n0≠n1)→e 0=.ptr (n0+1) t0 0∧e 1=.ptr (n1+1) t1 0→zo2 SP (E SP (.loop b_Q37_1) ⟨e,f::S⟩)=po 116 o (.v (.tup [])) (setArr (setBox (setArr (setBox S n0 t0 ([.list 5 (b'.exprs.tokens.l.map eToken) false,.int .i64 b'.exprs.tokens.pos,.sl 0 (.cell t0 2) 0 b'.exprs.out.length b'.exprs.out.length b'_g2 false,.int .i64 b'.exprs.deep]++((getBox S n0 t0).getD []).drop 4)) n0 (.cell t0 2) ⟨5,b'.exprs.out.map eNode,b'_z2,b'_g2⟩) n1 t1 ([.sl 0 (.cell t1 0) 0 c0_'.length c0_'.length c0_'_g0 false]++((getBox (setArr (setBox S n0 t0 ([.list 5 (b'.exprs.tokens.l.map eToken) false,.int .i64 b'.exprs.tokens.pos,.sl 0 (.cell t0 2) 0 b'.exprs.out.length b'.exprs.out.length b'_g2 false,.int .i64 b'.exprs.deep]++((getBox S n0 t0).getD []).drop 4)) n0 (.cell t0 2) ⟨5,b'.exprs.out.map eNode,b'_z2,b'_g2⟩) n1 t1).getD []).drop 1)) n1 (.cell t1 0) ⟨4,c0_'.map zF,c0_'_z0,c0_'_g0⟩)
theorem zdp (b1:PBlocks) (g2:Nat) (z3:Bool) (c0_4:List Block) (g5:Nat) (z6:Bool) (o:Option Int) (b':PBlocks) (b'_g2:Nat) (b'_z2:Bool) (c0_':List Block) (c0_'_g0:Nat) (c0_'_z0:Bool) (T :
  ∃ (r7:Token) (y8:PTokens),(zaX b1.exprs.tokens r7 y8) ∧
 ((r7.Kind=0) →
  none=o∧(PBlocks.mk (PExprs.mk y8 b1.exprs.out b1.exprs.deep))=b'∧g2=b'_g2∧z3=b'_z2∧c0_4=c0_'∧g5=c0_'_g0∧z6=c0_'_z0) ∧
 (¬ (r7.Kind=0) →
  ∃ (o10:Option Int) (r9:Block) (y11:PBlocks) (g12:Nat) (z13:Bool),(zgj (PBlocks.mk (PExprs.mk y8 b1.exprs.out b1.exprs.deep)) g2 z3 false o10 r9 y11 g12 z13) ∧
  (match o10 with
  | none=>((bigRow (c0_4.length+1) 72) ∧
   (c0_4.length < c0_4.length+1) ∧
   (z6=false) ∧
   ∃ (v15:Block),((c0_4++[(Block.mk 0 [] [] [])])[c0_4.length]?=some v15) ∧
   zfM y11 g12 z13 ((c0_4++[(Block.mk 0 [] [] [])]).set c0_4.length r9) g5 z6 o b' b'_g2 b'_z2 c0_' c0_'_g0 c0_'_z0)
  | some e14=>(some e14=o∧y11=b'∧g12=b'_g2∧z13=b'_z2∧c0_4=c0_'∧g5=c0_'_g0∧z6=c0_'_z0)))):zfM b1 g2 z3 c0_4 g5 z6 o b' b'_g2 b'_z2 c0_' c0_'_g0 c0_'_z0:=by
 intro S e f n0 t0 n1 t1 H0 H1 Hn h
 obtain⟨hb0,ha0⟩:=H0
 have hne:=znz Hn
 obtain⟨w0,hB0⟩:=zg hb0
 have hn0:=zc hB0
 obtain⟨hb1,ha1⟩:=H1
 obtain⟨w1,hB1⟩:=zg hb1
 have hn1:=zc hB1
 unfold zo2
 rw[zm]
 have F:=zvD
 obtain⟨r7,y8,q1,T⟩:=T
 simp only[zaX,lF] at q1
 replace F:=aa ha0<|aa hne<|aa hB0<|aa hn0<|aa ha1<|aa hB1<|aa hn1<|aa h<|aa q1<|F
 by_cases c2:r7.Kind=0
 ·replace T:=T.1 c2
  obtain⟨rfl,rfl,rfl,rfl,rfl,rfl,rfl⟩:=T
  exact fi (aa (eq_true c2)<|F)
 replace T:=T.2 c2
 obtain⟨o10,r9,y11,g12,z13,q3,T⟩:=T
 simp only[zgj,lF] at q3
 replace F:=aa (eq_false c2)<|aa q3<|F
 cases o10 with
 | none =>
   dsimp only at T
   obtain⟨p4,p5,p6,v15,q7,T⟩:=T
   simp only[bigRow] at p4
   replace q7:=congrArg (Option.map zF) q7
   rw[←List.getElem?_map] at q7
   simp only[le,List.map_append,Option.map_some] at q7
   replace F:=aa p4<|aa p5<|aa p6<|aa q7<|F
   try simp only[F,lw,lx,le,Nat.reduceMul,UInt8.reduceToNat,reduceIte,reduceCtorEq,Nat.reduceEqDiff,Nat.reduceAdd,Nat.reduceLeDiff,Nat.reduceSub,Nat.reduceLT,Int.reduceEq,Int.reduceLT,Int.reduceLE,Int.reduceToNat,Int.reduceAdd,Int.reduceSub,Int.reduceMul,Int.reduceNeg]
   refine (T _ _ _ n0 t0 n1 t1 ?_ ?_ Hn ?_).trans ?_
   all_goals exact fi F
 | some e14 =>
   dsimp only at T
   obtain⟨rfl,rfl,rfl,rfl,rfl,rfl,rfl⟩:=T
   exact fi F
theorem zn3 (b:PBlocks) (b_g2:Nat) (b_z2:Bool) (c0_:List Block) (c0__g0:Nat) (c0__z0:Bool) (o:Option Int) (b':PBlocks) (b'_g2:Nat) (b'_z2:Bool) (c0_':List Block) (c0_'_g0:Nat) (c0_'_z0:Bool) (T :
  zfM b b_g2 b_z2 c0_ c0__g0 c0__z0 o b' b'_g2 b'_z2 c0_' c0_'_g0 c0_'_z0):zmC b b_g2 b_z2 c0_ c0__g0 c0__z0 o b' b'_g2 b'_z2 c0_' c0_'_g0 c0_'_z0:=by
 intro S n0 t0 n1 t1 H0 H1 Hn
 obtain⟨hb0,ha0⟩:=H0
 have hne:=znz Hn
 obtain⟨w0,hB0⟩:=zg hb0
 have hn0:=zc hB0
 obtain⟨hb1,ha1⟩:=H1
 obtain⟨w1,hB1⟩:=zg hb1
 have hn1:=zc hB1
 rw[zd zy5 _ _ rfl]
 have F:=zvD
 replace F:=aa ha0<|aa hne<|aa hB0<|aa hn0<|aa ha1<|aa hB1<|aa hn1<|F
 try simp only[F,lw,lx,le,Nat.reduceMul,UInt8.reduceToNat,reduceIte,reduceCtorEq,Nat.reduceEqDiff,Nat.reduceAdd,Nat.reduceLeDiff,Nat.reduceSub,Nat.reduceLT,Int.reduceEq,Int.reduceLT,Int.reduceLE,Int.reduceToNat,Int.reduceAdd,Int.reduceSub,Int.reduceMul,Int.reduceNeg]
 refine (T _ _ _ n0 t0 n1 t1 ?_ ?_ Hn ?_).trans ?_
 all_goals exact fi F
theorem zzw:SP 40=some (.code sc_Q40):=ze rfl Tryz.func40 comp_Q40
theorem zjM (b:PBlocks) (b_g2:Nat) (b_z2:Bool) (c0_:PV) (o:Option Int) (b':PBlocks) (b'_g2:Nat) (b'_z2:Bool) (c0_':PV) (T :
  ∃ (o2:Option Int) (r1:List Node) (y3:PExprs) (g4:Nat) (z5:Bool),(zdr b.exprs b_g2 b_z2 o2 r1 y3 g4 z5) ∧
 (match o2 with
 | none=>(∃ (r7:Token) (y8:PTokens),(zaX y3.tokens r7 y8) ∧
  ((r7.Kind=0) →
   none=o∧(PBlocks.mk (PExprs.mk y8 y3.out y3.deep))=b'∧g4=b'_g2∧z5=b'_z2∧(.list 5 (r1.map eNode) false)=c0_') ∧
  (¬ (r7.Kind=0) →
   ∃ (o9:Option Int) (y10:PTokens),(zbc y8 5 o9 y10) ∧
   (match o9 with
   | none=>(False )
   | some e11=>(some e11=o∧(PBlocks.mk (PExprs.mk y10 y3.out y3.deep))=b'∧g4=b'_g2∧z5=b'_z2∧(.list 5 (r1.map eNode) false)=c0_'))))
 | some e6=>(some e6=o∧(PBlocks.mk y3)=b'∧g4=b'_g2∧z5=b'_z2∧c0_=c0_'))):zkk b b_g2 b_z2 c0_ o b' b'_g2 b'_z2 c0_':=by
 intro S n0 t0 n1 t1 H0 H1 Hn
 obtain⟨hb0,ha0⟩:=H0
 have hne:=znz Hn
 obtain⟨w0,hB0⟩:=zg hb0
 have hn0:=zc hB0
 have hb1:=H1
 obtain⟨w1,hB1⟩:=zg hb1
 have hn1:=zc hB1
 rw[zd zzw _ _ rfl]
 have F:=zAv
 exact rn (aa ha0<|aa hB0<|aa hn0<|aa hB1<|aa hn1<|aa hne<|F) T
theorem zjS {r:zcS} {ops post:Ac→EO} {ac:Ac}:zdH r ops post (.nor ac)=zgs r (ac.e r.t0=.ptr 0 r.t0 0) post (ops (ac.put (some r.d) .junk)):=rfl
theorem zjW {r:zcS} {ops post:Ac→EO} {ac:Ac}:zdH r ops post (.ret ac)=retOf r.res ac:=rfl
theorem zj5 {r:zcS} {b:Prop} {post:Ac→EO} {ac:Ac}:zgs r b post (.nor ac)=zgC r.res (post ac):=rfl
theorem zj6 {r:zcS} {b:Prop} {post:Ac→EO} {v:PV} {S:Sto}:zgs r b post (.pan v S)=ziD r b v S:=rfl
theorem zjI {res:List RX} {ac:Ac}:zgC res (.nor ac)=retOf res ac:=rfl
theorem zj4 {res:List RX} {ac:Ac}:zgC res (.ret ac)=retOf res ac:=rfl
theorem zk6 {r:zcS} {b:Prop} {t:Nat} {k:IntKind} {n:Int} {S:Sto}:ziD r b (.iface t (.int k n)) S=if b∧t=r.T then (match storeP S 1 (.ptr 0 r.t0 0) (.int k n) with | some S=>retOf r.res ⟨upd (fun _=>.junk) r.t0 (.ptr 0 r.t0 0),S⟩ | none=>.bad) else .bad:=rfl
def pb0 (L:List Token):PBlocks:=.mk (.mk (.mk L 0) [] 0)
theorem zvE {s:List UInt8} {L:List Token} {e:Int} (hl:zbI s L e) (he:¬ e=0) (c:PV) (hc:PV.dn c.up=some c) (g:Nat) (S:Sto):call SP 36 [.str s,.func g [c]] S=.ok (.v (.int .i64 e)) S:=by
 rw[zj9 zod _ _ rfl]
 simp only[zbI] at hl
 have F:=aa hl<|aa (eq_false he)<|aa @zjS<|aa @zjW<|aa @zj5<|aa @zj6<|aa @zjI<|aa @zj4<|aa @zk6<|rcv_Q36.eq_1
 exact fi F
theorem zt7 {s:List UInt8} {L:List Token} (hl:zbI s L 0) {t g:Nat} {f:Fr} {S:Sto} (hb:f.box t=some [.sl 0 (.cell t 0) 0 0 0 g false]) (ha:f.arr (.cell t 0)=some ⟨4,[],false,g⟩) {o:Option Int} {b':PBlocks} {bg:Nat} {bz:Bool} {l:List Block} {lg:Nat} {lz:Bool}
  (hc:zmC (pb0 L) 0 false [] g false o b' bg bz l lg lz) :
  call SP 36 [.str s,.func 37 [.ptr 0 t 0]] (f::S)=.ok (.v (.int .i64 (o.getD 0))) (setArr (setBox (f::S) 0 t [.sl 0 (.cell t 0) 0 l.length l.length lg false]) 0 (.cell t 0) ⟨4,l.map zF,lz,lg⟩):=by
 rw[zj9 zod _ _ rfl]
 simp only[zbI] at hl
 simp only[zmC,pb0,lF] at hc
 have F:=aa hl<|aa hb<|aa ha<|aa hc<|aa @zjS<|aa @zjW<|aa @zj5<|aa @zj6<|aa @zjI<|aa @zj4<|aa @zk6<|rcv_Q36.eq_1
 cases o with
 | none=>exact fi F
 | some e=>exact fi F
theorem zq6:SP 17=some (.code sc_Q17):=ze rfl Tryz.func17 comp_Q17
theorem znf:SP 20=some (.code sc_Q20):=ze rfl Tryz.func20 comp_Q20
theorem zhe {s:List UInt8} {L:List Token} {e:Int} (hl:zbI s L e) (he:¬ e=0):zc9 s [] e:=by
 intro S
 have h:=fun S=>zvE hl he (.ptr 0 4 0) rfl 37 S
 rw[zd zq6 _ _ rfl]
 exact fi (aa h<|aa (eq_false he)<|zp4)
theorem zlz {s:List UInt8} {L:List Token} {e:Int} (hl:zbI s L e) (he:¬ e=0):zeD s [] e:=by
 intro S
 have h:=fun S=>zvE hl he (.ptr 0 4 0) rfl 40 S
 rw[zd znf _ _ rfl]
 exact fi (aa h<|aa (eq_false he)<|zpU)
theorem zku {s:List UInt8} {L:List Token} (hl:zbI s L 0) {o:Option Int} {b':PBlocks} {bg:Nat} {bz:Bool} {l:List Block} {lg:Nat} {lz:Bool}
  (hc:zmC (pb0 L) 0 false [] 0 false o b' bg bz l lg lz):zc9 s (if o.getD 0=0 then l else []) (o.getD 0):=by
 intro S
 have h:=fun (f:Fr) (h1:f.box 4=some [.sl 0 (.cell 4 0) 0 0 0 0 false]) (h2:f.arr (.cell 4 0)=some ⟨4,[],false,0⟩)=>zt7 (S:=S) hl h1 h2 hc
 rw[zd zq6 _ _ rfl]
 by_cases he:o.getD 0=0
 ·exact fi (aa h<|aa he<|zp4)
 exact fi (aa h<|aa (eq_false he)<|zp4)
theorem zo4 {s:List UInt8} {L:List Token} (hl:zbI s L 0) {t:Nat} {c c':PV} {f:Fr} {S:Sto} (hb:f.box t=some [c]) {o:Option Int} {b':PBlocks} {bg:Nat} {bz:Bool}
  (hc:zkk (pb0 L) 0 false c o b' bg bz c') :
  call SP 36 [.str s,.func 40 [.ptr 0 t 0]] (f::S)=.ok (.v (.int .i64 (o.getD 0))) (setBox (f::S) 0 t [c']):=by
 rw[zj9 zod _ _ rfl]
 simp only[zbI] at hl
 simp only[zkk,pb0,lF] at hc
 have F:=aa hl<|aa hb<|aa hc<|aa @zjS<|aa @zjW<|aa @zj5<|aa @zj6<|aa @zjI<|aa @zj4<|aa @zk6<|rcv_Q36.eq_1
 cases o with
 | none=>exact fi F
 | some e=>exact fi F
theorem zs0 {s:List UInt8} {L:List Token} (hl:zbI s L 0) {b':PBlocks} {bg:Nat} {bz:Bool} {l:List Node}
  (hc:zkk (pb0 L) 0 false (.sl 0 (.cell 4 0) 0 0 0 0 false) none b' bg bz (.list 5 (l.map eNode) false)):zeD s l 0:=by
 intro S
 have h:=fun (f:Fr) (h1:f.box 4=some [.sl 0 (.cell 4 0) 0 0 0 0 false])=>zo4 (S:=S) hl h1 hc
 rw[zd znf _ _ rfl]
 exact fi (aa h<|aa (Option.getD_none (a:=(0:Int)))<|zpU)
theorem zks {s:List UInt8} {L:List Token} (hl:zbI s L 0) {b':PBlocks} {bg:Nat} {bz:Bool} {e:Int} (he:¬ e=0) {c':PV}
  (hc:zkk (pb0 L) 0 false (.sl 0 (.cell 4 0) 0 0 0 0 false) (some e) b' bg bz c'):zeD s [] e:=by
 intro S
 have h:=fun (f:Fr) (h1:f.box 4=some [.sl 0 (.cell 4 0) 0 0 0 0 false])=>zo4 (S:=S) hl h1 hc
 rw[zd znf _ _ rfl]
 exact fi (aa h<|aa (Option.getD_some (a:=e) (b:=(0:Int)))<|aa (eq_false he)<|zpU)
def zbp (N:Nat) (ts:List Token):PR (List Node) :=
 match zu N 0 ts [] with
 | .ok _ ts out=>.ok out ts []
 | .er e=>.er e
 | .no=>.no
def zdK (lab:List UInt8→Bool):List Token→PR (List UInt8)
 | []=>.no
 | t::ts=>if t.Kind=2 then (match t.Parts with | [p]=>if p.Ref=true then .er 5 else if lab p.Text=true then .ok p.Text ts [] else .er 5 | _=>.er 5) else .er 5
def zaM (N:Nat):Nat→List Attr→List Token→PR (List Attr)
 | 0,_,_=>.no
 | _+1,_,[]=>.no
 | n+1,acc,t::ts =>
  if isS [125] (t::ts)=true then .ok acc ts []
  else if t.Kind=3 then
   if acc.any (fun a=>decide (a.Name=t.Text))=true then .er 3
   else zah [61] ts fun ts=>(zbp N ts).bind fun nodes ts _=>zaM N n (acc++[⟨t.Text,nodes⟩]) ts
  else .er 5
def zdm (N:Nat) (ts:List Token):PR (List Attr):=zah [123] ts fun ts=>zaM N N [] ts
def zaa:List (List UInt8):=[[118,97,114,105,97,98,108,101],[108,111,99,97,108,115],[110,111,100,101],[109,111,100,117,108,101],[100,101,102,105,110,101]]
def zdg (lab:List UInt8→Bool) (N i:Nat) (ts:List Token):PR Block :=
 if i=1 then (zdm N ts).bind fun as_ ts _=>.ok ⟨2,[],as_,[]⟩ ts []
 else (zdK lab ts).bind fun l ts _=>(zdm N ts).bind fun as_ ts _=>.ok ⟨1+(i:Int),l,as_,[]⟩ ts []
def blkIn (lab:List UInt8→Bool) (N:Nat):List Token→PR Block
 | []=>.no
 | t::ts=>if t.Kind=3 then (match zae t.Text zaa 0 with | none=>.er 5 | some i=>if i=4 then .er 5 else zdg lab N i ts) else .er 5
def zbW (lab:List UInt8→Bool) (N:Nat):Nat→List Block→List Token→PR (List Block)
 | 0,_,_=>.no
 | n+1,acc,ts=>if isS [125] ts=true then .ok acc ts.tail [] else (blkIn lab N ts).bind fun b ts _=>zbW lab N n (acc++[b]) ts
def zix (lab:List UInt8→Bool) (N:Nat):List Token→PR Block
 | []=>.no
 | t::ts=>if t.Kind=3 then (match zae t.Text zaa 0 with | none=>.er 5 | some i=>if i=4 then (zdK lab ts).bind fun l ts _=>zah [123] ts fun ts=>(zbW lab N N [] ts).bind fun bs ts _=>.ok ⟨5,l,[],bs⟩ ts [] else zdg lab N i ts) else .er 5
def zbL (lab:List UInt8→Bool) (N:Nat):Nat→List Block→List Token→PR (List Block)
 | 0,_,_=>.no
 | _+1,_,[]=>.no
 | n+1,acc,t::ts=>if t.Kind=0 then .ok acc (t::ts) [] else (zix lab N (t::ts)).bind fun b ts _=>zbL lab N n (acc++[b]) ts
structure TL (L:List Token):Prop where
 len:L.length≤1000000
 text:∀ t ∈ L,t.Text.length≤1000000
 part:∀ t ∈ L,∀ p ∈ t.Parts,p.Text.length≤1000000
def pb (L ts:List Token) (out:List Node):PBlocks:=⟨pe L ts out 0⟩
def OkP {α:Type} (L ts:List Token) (c:Nat) (R:PBlocks→Nat→Bool→Option Int→α→PBlocks→Nat→Bool→Prop):PR α→Prop
 | .ok a ts' _=>ts' <:+ L∧W ts'∧ts'.length+c≤ts.length∧∀ out g z,∃ out' g' z',R (pb L ts out) g z none a (pb L ts' out') g' z'
 | .er e=>∀ out g z,∃ a x' g' z',R (pb L ts out) g z (some e) a x' g' z'
 | .no=>False
section
variable {L ts:List Token} (hT:TL L) (hs:ts <:+ L) (hw:W ts)
include hT hs hw
theorem zll {N:Nat} (hN:20*ts.length+10≤N):match zbp N ts with
  | .ok nodes ts' _=>ts' <:+ L∧W ts'∧ts'.length+1≤ts.length∧∀ out g z,∃ g' z',zdr (pe L ts out 0) g z none nodes (pe L ts' nodes 0) g' z'
  | .er e=>∀ out g z,∃ a x' g' z',zdr (pe L ts out 0) g z (some e) a x' g' z'
  | .no=>False:=by
 have h:=fun g=>(zrV N L hT.len hT.text ts hs hw [] (by have:=zbz hs;have:=hT.len;simp;omega) 0 (by omega) g).expr
 simp only[zbp]
 cases hc:zu N 0 ts [] with
 | no=>have:=h 0;rw[hc] at this;simp only[OkE] at this;omega
 | er e =>
  intro out g z
  have:=h (g+1)
  rw[hc] at this
  obtain⟨a,x',g',z',q⟩:=this
  exact⟨[],x',g',z',znq _ _ _ _ _ _ _ _ ⟨some e,a,x',g',z',q,rfl,rfl,rfl,rfl⟩⟩
 | ok a ts1 out1 =>
  have h0:=h 0
  rw[hc] at h0
  obtain⟨s1,w1,l1,o1,_⟩:=h0
  refine⟨s1,w1,l1,fun out g z=>?_⟩
  have:=h (g+1)
  rw[hc] at this
  obtain⟨_,_,_,_,q⟩:=this
  exact⟨_,_,znq _ _ _ _ _ _ _ _ ⟨none,a,_,_,_,q,rfl,rfl,rfl,rfl,rfl⟩⟩
theorem zvs {lab:List UInt8→Bool} (hl:∀ s,s.length≤1000000→zds s (lab s)):OkP L ts 1 zi0 (zdK lab ts):=by
 cases ts with
 | nil=>exact hw.elim
 | cons t ts =>
  have hI:I64 ((pt L (t::ts)).pos+1):=by have:=zbz hs;have:=hT.len;simp only[pt,I64];omega
  simp only[zdK]
  by_cases h2:t.Kind=2
  ·rw[if_pos h2]
   have hk0:t.Kind≠0:=by rw[h2];decide
   match hp:t.Parts with
   | []=>exact fun out g z=>⟨[],_,_,_,zeg _ _ _ _ _ _ _ _ ⟨t,_,zl hs,fun _=>⟨fun hf=>absurd hf (by rw[hp];decide),fun _=>⟨_,_,zbJ _ _,rfl,rfl,rfl,rfl⟩⟩,fun hf=>absurd h2 hf⟩⟩
   | p::q::l=>exact fun out g z=>⟨[],_,_,_,zeg _ _ _ _ _ _ _ _ ⟨t,_,zl hs,fun _=>⟨fun hf=>absurd hf (by rw[hp];simp only[List.length_cons];omega),fun _=>⟨_,_,zbJ _ _,rfl,rfl,rfl,rfl⟩⟩,fun hf=>absurd h2 hf⟩⟩
   | [p] =>
    have h1:((t.Parts.length:Nat):Int)=1:=by rw[hp];rfl
    have hg:t.Parts[0]?=some p:=by rw[hp];rfl
    simp only
    by_cases hr:p.Ref=true
    ·rw[if_pos hr]
     exact fun out g z=>⟨[],_,_,_,zeg _ _ _ _ _ _ _ _ ⟨t,_,zl hs,fun _=>⟨fun _=>⟨p,hg,fun _=>⟨_,_,zbJ _ _,rfl,rfl,rfl,rfl⟩,fun hf=>absurd hr hf⟩,fun hf=>absurd h1 hf⟩,fun hf=>absurd h2 hf⟩⟩
    rw[if_neg hr]
    have hlb:=hl p.Text (hT.part t (hs.mem (by simp)) p (by rw[hp];simp))
    by_cases hb:lab p.Text=true
    ·rw[if_pos hb]
     rw[hb] at hlb
     refine⟨zp hs,hw.tail hk0,by simp,fun out g z=>⟨out,g,z,zeg _ _ _ _ _ _ _ _ ⟨t,_,zl hs,fun _=>⟨fun _=>⟨p,hg,fun hf=>absurd hf hr,fun _=>⟨true,hlb,fun _=>⟨hI,rfl,rfl,?_,rfl,rfl⟩,fun hf=>absurd rfl hf⟩⟩,fun hf=>absurd h1 hf⟩,fun hf=>absurd h2 hf⟩⟩⟩
     rw[zdO hs]
     rfl
    rw[if_neg hb]
    rw[show lab p.Text=false by simpa using hb] at hlb
    exact fun out g z=>⟨[],_,_,_,zeg _ _ _ _ _ _ _ _ ⟨t,_,zl hs,fun _=>⟨fun _=>⟨p,hg,fun hf=>absurd hf hr,fun _=>⟨false,hlb,fun hf=>(by cases hf),fun _=>⟨_,_,zbJ _ _,rfl,rfl,rfl,rfl⟩⟩⟩,fun hf=>absurd h1 hf⟩,fun hf=>absurd h2 hf⟩⟩
  rw[if_neg h2]
  exact fun out g z=>⟨[],_,_,_,zeg _ _ _ _ _ _ _ _ ⟨t,_,zl hs,fun hf=>absurd hf h2,fun _=>⟨_,_,zbJ _ _,rfl,rfl,rfl,rfl⟩⟩⟩
end
theorem zl9 {L:List Token} (hT:TL L) {N:Nat} (hN:20*L.length+10≤N):∀ (n:Nat) (acc:List Attr) (ts:List Token),ts <:+ L→W ts→ts.length < n→acc.length+ts.length≤1000000→OkP L ts 0 (zeZ acc) (zaM N n acc ts)
 | 0,_,_,_,_,h,_=>absurd h (Nat.not_lt_zero _)
 | n+1,acc,ts,hs,hw,hn,hal=>by
  cases ts with
  | nil=>exact hw.elim
  | cons t ts =>
   have hlc:(t::ts).length=ts.length+1:=rfl
   have hll:=zbz hs
   have hLl:=hT.len
   simp only[zaM]
   by_cases hi:isS [125] (t::ts)=true
   ·rw[if_pos hi]
    have hw1:=hw.shift hi
    exact⟨zp hs,hw1,by omega,fun out g z=>⟨_,_,_,za2 _ _ _ _ _ _ _ _ _ ⟨true,_,zeR hs hT.len hi,fun _=>⟨rfl,rfl,rfl,rfl,rfl⟩,fun hf=>absurd rfl hf⟩⟩⟩
   rw[if_neg hi]
   have q0:=zfz hs (by simp) (show isS [125] (t::ts)=false by simpa using hi)
   by_cases hk:t.Kind=3
   ·rw[if_pos hk]
    have hk0:t.Kind≠0:=by rw[hk];decide
    have hcl:∀ x,x ∈ acc→zgG x t.Text (decide (x.Name=t.Text)):=fun x _=>zme _ _ _ rfl
    have hal:acc.length < 9223372036854775808:=by omega
    by_cases ha:acc.any (fun a=>decide (a.Name=t.Text))=true
    ·rw[if_pos ha]
     exact fun out g z=>⟨[],_,_,_,za2 _ _ _ _ _ _ _ _ _ ⟨false,_,q0,fun hf=>(by cases hf),fun _=>⟨t,_,zl hs,t,_,zl hs,fun _=>⟨hal,_,hcl,fun _=>⟨_,_,zbJ _ _,rfl,rfl,rfl,rfl⟩,fun hf=>absurd ha hf⟩,fun hf=>absurd hk hf⟩⟩⟩
    rw[if_neg ha]
    have hs1:=zp hs
    have hw1:=hw.tail hk0
    have q1:=ziV hs hT.len hk
    simp only[zah]
    by_cases he:isS [61] ts=true
    ·rw[if_pos he]
     have hlen:=zR he
     have h2:=zll hT (zJ hs1) (hw1.shift he) (N:=N) (by omega)
     cases hc:zbp N ts.tail with
     | no=>rw[hc] at h2;exact h2.elim
     | er e =>
      rw[hc] at h2
      intro out g z
      obtain⟨a,x',g',z',q2⟩:=h2 out g z
      exact⟨[],_,_,_,za2 _ _ _ _ _ _ _ _ _ ⟨false,_,q0,fun hf=>(by cases hf),fun _=>⟨t,_,zl hs,t,_,zl hs,fun _=>⟨hal,_,hcl,fun hf=>absurd hf ha,fun _=>⟨none,_,_,q1,none,_,zbd hs1 hT.len he,some e,a,x',g',z',q2,rfl,rfl,rfl,rfl⟩⟩,fun hf=>absurd hk hf⟩⟩⟩
     | ok nodes ts2 out2 =>
      rw[hc] at h2
      obtain⟨s2,w2,l2,q2⟩:=h2
      simp only[PR.bind]
      have h3:=zl9 hT hN n (acc++[⟨t.Text,nodes⟩]) ts2 s2 w2 (by omega) (by simp;omega)
      have hbig:bigRow (acc.length+1) 40:=by simp only[bigRow];omega
      cases hl:zaM N n (acc++[⟨t.Text,nodes⟩]) ts2 with
      | no=>rw[hl] at h3;exact h3.elim
      | er e =>
       rw[hl] at h3
       intro out g z
       obtain⟨g2,z2,q2⟩:=q2 out g z
       obtain⟨a,x',g',z',q3⟩:=h3 nodes g2 z2
       exact⟨a,x',g',z',za2 _ _ _ _ _ _ _ _ _ ⟨false,_,q0,fun hf=>(by cases hf),fun _=>⟨t,_,zl hs,t,_,zl hs,fun _=>⟨hal,_,hcl,fun hf=>absurd hf ha,fun _=>⟨none,_,_,q1,none,_,zbd hs1 hT.len he,none,nodes,_,g2,z2,q2,hbig,q3⟩⟩,fun hf=>absurd hk hf⟩⟩⟩
      | ok a ts3 out3 =>
       rw[hl] at h3
       obtain⟨s3,w3,l3,q3⟩:=h3
       refine⟨s3,w3,by omega,fun out g z=>?_⟩
       obtain⟨g2,z2,q2⟩:=q2 out g z
       obtain⟨out',g',z',q3⟩:=q3 nodes g2 z2
       exact⟨out',g',z',za2 _ _ _ _ _ _ _ _ _ ⟨false,_,q0,fun hf=>(by cases hf),fun _=>⟨t,_,zl hs,t,_,zl hs,fun _=>⟨hal,_,hcl,fun hf=>absurd hf ha,fun _=>⟨none,_,_,q1,none,_,zbd hs1 hT.len he,none,nodes,_,g2,z2,q2,hbig,q3⟩⟩,fun hf=>absurd hk hf⟩⟩⟩
    rw[if_neg he]
    exact fun out g z=>⟨[],_,_,_,za2 _ _ _ _ _ _ _ _ _ ⟨false,_,q0,fun hf=>(by cases hf),fun _=>⟨t,_,zl hs,t,_,zl hs,fun _=>⟨hal,_,hcl,fun hf=>absurd hf ha,fun _=>⟨none,_,_,q1,some 5,_,zeq hs1 hw1.ne (by simpa using he),rfl,rfl,rfl,rfl⟩⟩,fun hf=>absurd hk hf⟩⟩⟩
   rw[if_neg hk]
   exact fun out g z=>⟨[],_,_,_,za2 _ _ _ _ _ _ _ _ _ ⟨false,_,q0,fun hf=>(by cases hf),fun _=>⟨t,_,zl hs,t,_,zl hs,fun hf=>absurd hf hk,fun _=>⟨some 5,[],_,zlr hs hk [],rfl,rfl,rfl,rfl⟩⟩⟩⟩
theorem zvH {L:List Token} (hT:TL L) {N:Nat} (hN:20*L.length+10≤N) (n:Nat) (acc:List Attr) (ts:List Token) (hs:ts <:+ L) (hw:W ts) (hn:ts.length < n+1) (hal:acc.length+ts.length≤1000000):OkP L ts 0 (ziR acc) (zaM N (n+1) acc ts):=by
 cases ts with
 | nil=>exact hw.elim
 | cons t ts =>
  have hlc:(t::ts).length=ts.length+1:=rfl
  have hll:=zbz hs
  have hLl:=hT.len
  simp only[zaM]
  by_cases hi:isS [125] (t::ts)=true
  ·rw[if_pos hi]
   have hw1:=hw.shift hi
   exact⟨zp hs,hw1,by omega,fun out g z=>⟨_,_,_,zbr _ _ _ _ _ _ _ _ _ ⟨true,_,zeR hs hT.len hi,fun _=>⟨rfl,rfl,rfl,rfl,rfl⟩,fun hf=>absurd rfl hf⟩⟩⟩
  rw[if_neg hi]
  have q0:=zfz hs (by simp) (show isS [125] (t::ts)=false by simpa using hi)
  by_cases hk:t.Kind=3
  ·rw[if_pos hk]
   have hk0:t.Kind≠0:=by rw[hk];decide
   have hcl:∀ x,x ∈ acc→zgG x t.Text (decide (x.Name=t.Text)):=fun x _=>zme _ _ _ rfl
   have hal:acc.length < 9223372036854775808:=by omega
   by_cases ha:acc.any (fun a=>decide (a.Name=t.Text))=true
   ·rw[if_pos ha]
    exact fun out g z=>⟨[],_,_,_,zbr _ _ _ _ _ _ _ _ _ ⟨false,_,q0,fun hf=>(by cases hf),fun _=>⟨t,_,zl hs,t,_,zl hs,fun _=>⟨hal,_,hcl,fun _=>⟨_,_,zbJ _ _,rfl,rfl,rfl,rfl⟩,fun hf=>absurd ha hf⟩,fun hf=>absurd hk hf⟩⟩⟩
   rw[if_neg ha]
   have hs1:=zp hs
   have hw1:=hw.tail hk0
   have q1:=ziV hs hT.len hk
   simp only[zah]
   by_cases he:isS [61] ts=true
   ·rw[if_pos he]
    have hlen:=zR he
    have h2:=zll hT (zJ hs1) (hw1.shift he) (N:=N) (by omega)
    cases hc:zbp N ts.tail with
    | no=>rw[hc] at h2;exact h2.elim
    | er e =>
     rw[hc] at h2
     intro out g z
     obtain⟨a,x',g',z',q2⟩:=h2 out g z
     exact⟨[],_,_,_,zbr _ _ _ _ _ _ _ _ _ ⟨false,_,q0,fun hf=>(by cases hf),fun _=>⟨t,_,zl hs,t,_,zl hs,fun _=>⟨hal,_,hcl,fun hf=>absurd hf ha,fun _=>⟨none,_,_,q1,none,_,zbd hs1 hT.len he,some e,a,x',g',z',q2,rfl,rfl,rfl,rfl⟩⟩,fun hf=>absurd hk hf⟩⟩⟩
    | ok nodes ts2 out2 =>
     rw[hc] at h2
     obtain⟨s2,w2,l2,q2⟩:=h2
     simp only[PR.bind]
     have h3:=zl9 hT hN n (acc++[⟨t.Text,nodes⟩]) ts2 s2 w2 (by omega) (by simp;omega)
     have hbig:bigRow (acc.length+1) 40:=by simp only[bigRow];omega
     cases hl:zaM N n (acc++[⟨t.Text,nodes⟩]) ts2 with
     | no=>rw[hl] at h3;exact h3.elim
     | er e =>
      rw[hl] at h3
      intro out g z
      obtain⟨g2,z2,q2⟩:=q2 out g z
      obtain⟨a,x',g',z',q3⟩:=h3 nodes g2 z2
      exact⟨a,x',g',z',zbr _ _ _ _ _ _ _ _ _ ⟨false,_,q0,fun hf=>(by cases hf),fun _=>⟨t,_,zl hs,t,_,zl hs,fun _=>⟨hal,_,hcl,fun hf=>absurd hf ha,fun _=>⟨none,_,_,q1,none,_,zbd hs1 hT.len he,none,nodes,_,g2,z2,q2,hbig,q3⟩⟩,fun hf=>absurd hk hf⟩⟩⟩
     | ok a ts3 out3 =>
      rw[hl] at h3
      obtain⟨s3,w3,l3,q3⟩:=h3
      refine⟨s3,w3,by omega,fun out g z=>?_⟩
      obtain⟨g2,z2,q2⟩:=q2 out g z
      obtain⟨out',g',z',q3⟩:=q3 nodes g2 z2
      exact⟨out',g',z',zbr _ _ _ _ _ _ _ _ _ ⟨false,_,q0,fun hf=>(by cases hf),fun _=>⟨t,_,zl hs,t,_,zl hs,fun _=>⟨hal,_,hcl,fun hf=>absurd hf ha,fun _=>⟨none,_,_,q1,none,_,zbd hs1 hT.len he,none,nodes,_,g2,z2,q2,hbig,q3⟩⟩,fun hf=>absurd hk hf⟩⟩⟩
   rw[if_neg he]
   exact fun out g z=>⟨[],_,_,_,zbr _ _ _ _ _ _ _ _ _ ⟨false,_,q0,fun hf=>(by cases hf),fun _=>⟨t,_,zl hs,t,_,zl hs,fun _=>⟨hal,_,hcl,fun hf=>absurd hf ha,fun _=>⟨none,_,_,q1,some 5,_,zeq hs1 hw1.ne (by simpa using he),rfl,rfl,rfl,rfl⟩⟩,fun hf=>absurd hk hf⟩⟩⟩
  rw[if_neg hk]
  exact fun out g z=>⟨[],_,_,_,zbr _ _ _ _ _ _ _ _ _ ⟨false,_,q0,fun hf=>(by cases hf),fun _=>⟨t,_,zl hs,t,_,zl hs,fun hf=>absurd hf hk,fun _=>⟨some 5,[],_,zlr hs hk [],rfl,rfl,rfl,rfl⟩⟩⟩⟩
theorem zsH {L ts:List Token} (hT:TL L) (hs:ts <:+ L) (hw:W ts) {N:Nat} (hN:20*L.length+10≤N):OkP L ts 1 zja (zdm N ts):=by
 simp only[zdm,zah]
 have hll:=zbz hs
 have hLl:=hT.len
 by_cases hi:isS [123] ts=true
 ·rw[if_pos hi]
  have hlen:=zR hi
  obtain⟨n,rfl⟩:∃ n,N=n+1:=⟨N - 1,by omega⟩
  have h1:=zvH hT hN n [] ts.tail (zJ hs) (hw.shift hi) (by omega) (by simp;omega)
  cases hc:zaM (n+1) (n+1) [] ts.tail with
  | no=>rw[hc] at h1;exact h1.elim
  | er e =>
   rw[hc] at h1
   intro out g z
   obtain⟨a,x',g',z',q⟩:=h1 out g z
   exact⟨a,x',g',z',zjY _ _ _ _ _ _ _ _ ⟨none,_,zbd hs hT.len hi,q⟩⟩
  | ok a ts1 out1 =>
   rw[hc] at h1
   obtain⟨s1,w1,l1,q⟩:=h1
   refine⟨s1,w1,by omega,fun out g z=>?_⟩
   obtain⟨out',g',z',q⟩:=q out g z
   exact⟨out',g',z',zjY _ _ _ _ _ _ _ _ ⟨none,_,zbd hs hT.len hi,q⟩⟩
 rw[if_neg hi]
 exact fun out g z=>⟨[],_,_,_,zjY _ _ _ _ _ _ _ _ ⟨some 5,_,zeq hs hw.ne (by simpa using hi),rfl,rfl,rfl,rfl⟩⟩
theorem zcB:zmJ zaa:=zub _ rfl
theorem zk0 {L:List Token} {t:Token} {ts:List Token} (hT:TL L) (hs:(t::ts) <:+ L) (hw:W (t::ts)) {lab:List UInt8→Bool} (hl:∀ s,s.length≤1000000→zds s (lab s)) {N:Nat} (hN:20*L.length+10≤N) (within:Bool) (hk:t.Kind=3) {i:Nat} (hi:zae t.Text zaa 0=some i) (h4:i≠4) (h5:i≤1000) :
  OkP L (t::ts) 1 (fun b g z=>zgj b g z within) (zdg lab N i ts):=by
 have hk0:t.Kind≠0:=by rw[hk];decide
 have hs1:=zp hs
 have hw1:=hw.tail hk0
 have hlc:(t::ts).length=ts.length+1:=rfl
 have hI:I64 ((pt L (t::ts)).pos+1):=by have:=zbz hs;have:=hT.len;simp only[pt,I64];omega
 have e1:∀ out,PBlocks.mk (PExprs.mk (PTokens.mk (pt L (t::ts)).l ((pt L (t::ts)).pos+1)) (pb L (t::ts) out).exprs.out (pb L (t::ts) out).exprs.deep)=pb L ts out:=fun out=>by rw[zdO hs];rfl
 have hix:zr zaa t.Text (i:Int):=by have:=zg2 zaa t.Text (by decide);rw[hi] at this;exact this
 have n0:¬ (1+(i:Int))=0:=by omega
 have n5:¬ (1+(i:Int))=5:=by omega
 have hI1:I64 (1+(i:Int)):=⟨by omega,by omega⟩
 simp only[zdg]
 by_cases h1:i=1
 ·subst h1
  rw[if_pos rfl]
  have h2:=zsH hT hs1 hw1 hN
  cases hc:zdm N ts with
  | no=>rw[hc] at h2;exact h2.elim
  | er e =>
   rw[hc] at h2
   intro out g z
   obtain⟨a,x',g',z',q⟩:=h2 out g z
   exact⟨⟨0,[],[],[]⟩,x',g',z',zbN _ _ _ _ _ _ _ _ _ ⟨t,_,zl hs,_,zcB,_,hix,hI1,fun _=>⟨fun hf=>absurd hf n0,fun _=>⟨fun hf=>absurd hf n5,fun _=>⟨hI,fun _=>⟨some e,a,x',g',z',(e1 out).symm ▸ q,rfl,rfl,rfl,rfl⟩,fun hf=>absurd (by decide) hf⟩⟩⟩,fun hf=>absurd hk hf⟩⟩
  | ok a ts1 out1 =>
   rw[hc] at h2
   obtain⟨s1,w1,l1,q⟩:=h2
   refine⟨s1,w1,by omega,fun out g z=>?_⟩
   obtain⟨out',g',z',q⟩:=q out g z
   exact⟨out',g',z',zbN _ _ _ _ _ _ _ _ _ ⟨t,_,zl hs,_,zcB,_,hix,hI1,fun _=>⟨fun hf=>absurd hf n0,fun _=>⟨fun hf=>absurd hf n5,fun _=>⟨hI,fun _=>⟨none,a,_,_,_,(e1 out).symm ▸ q,⟨rfl,rfl,rfl,rfl,rfl⟩,rfl,rfl,rfl,rfl,rfl⟩,fun hf=>absurd (by decide) hf⟩⟩⟩,fun hf=>absurd hk hf⟩⟩
 rw[if_neg h1]
 have n2:¬ (1+(i:Int))=2:=by omega
 have h2:=zvs hT hs1 hw1 hl
 cases hc:zdK lab ts with
 | no=>rw[hc] at h2;exact h2.elim
 | er e =>
  rw[hc] at h2
  intro out g z
  obtain⟨a,x',g',z',q⟩:=h2 out g z
  exact⟨⟨0,[],[],[]⟩,x',g',z',zbN _ _ _ _ _ _ _ _ _ ⟨t,_,zl hs,_,zcB,_,hix,hI1,fun _=>⟨fun hf=>absurd hf n0,fun _=>⟨fun hf=>absurd hf n5,fun _=>⟨hI,fun hf=>absurd hf n2,fun _=>⟨some e,a,x',g',z',(e1 out).symm ▸ q,rfl,rfl,rfl,rfl⟩⟩⟩⟩,fun hf=>absurd hk hf⟩⟩
 | ok l ts1 out1 =>
  rw[hc] at h2
  obtain⟨s1,w1,l1,q1⟩:=h2
  simp only[PR.bind]
  have h3:=zsH hT s1 w1 hN
  cases hb:zdm N ts1 with
  | no=>rw[hb] at h3;exact h3.elim
  | er e =>
   rw[hb] at h3
   intro out g z
   obtain⟨out1,g1,z1,q1⟩:=q1 out g z
   obtain⟨a,x',g',z',q⟩:=h3 out1 g1 z1
   exact⟨⟨0,[],[],[]⟩,x',g',z',zbN _ _ _ _ _ _ _ _ _ ⟨t,_,zl hs,_,zcB,_,hix,hI1,fun _=>⟨fun hf=>absurd hf n0,fun _=>⟨fun hf=>absurd hf n5,fun _=>⟨hI,fun hf=>absurd hf n2,fun _=>⟨none,l,_,_,_,(e1 out).symm ▸ q1,some e,a,x',g',z',q,rfl,rfl,rfl,rfl⟩⟩⟩⟩,fun hf=>absurd hk hf⟩⟩
  | ok a ts2 out2 =>
   rw[hb] at h3
   obtain⟨s2,w2,l2,q2⟩:=h3
   refine⟨s2,w2,by omega,fun out g z=>?_⟩
   obtain⟨out1,g1,z1,q1⟩:=q1 out g z
   obtain⟨out',g',z',q2⟩:=q2 out1 g1 z1
   exact⟨out',g',z',zbN _ _ _ _ _ _ _ _ _ ⟨t,_,zl hs,_,zcB,_,hix,hI1,fun _=>⟨fun hf=>absurd hf n0,fun _=>⟨fun hf=>absurd hf n5,fun _=>⟨hI,fun hf=>absurd hf n2,fun _=>⟨none,l,_,_,_,(e1 out).symm ▸ q1,none,a,_,_,_,q2,⟨rfl,rfl,rfl,rfl,rfl⟩,rfl,rfl,rfl,rfl,rfl⟩⟩⟩⟩,fun hf=>absurd hk hf⟩⟩
theorem zdU (s:List UInt8):∀ (l:List (List UInt8)) (i j:Nat),zae s l i=some j→j < i+l.length
 | [],i,j,h=>by cases h
 | v::l,i,j,h=>by
  simp only[zae] at h
  split at h
  ·cases h;simp
  have:=zdU s l (i+1) j h
  simp only[List.length_cons]
  omega
theorem zgI {L:List Token} {t:Token} {ts:List Token} (hs:(t::ts) <:+ L) (within:Bool) (h:t.Kind≠3∨zae t.Text zaa 0=none∨(within=true∧zae t.Text zaa 0=some 4)):OkP L (t::ts) 1 (fun b g z=>zgj b g z within) (.er 5):=by
 intro out g z
 have hix:=zg2 zaa t.Text (by decide)
 have hI1:I64 (1+zcl (zae t.Text zaa 0)):=by
  cases hi:zae t.Text zaa 0 with
  | none=>exact⟨by simp[zcl],by simp[zcl]⟩
  | some i=>have:=zdU _ _ _ _ hi;simp[zaa] at this;exact⟨by simp only[zcl];omega,by simp only[zcl];omega⟩
 refine⟨⟨0,[],[],[]⟩,_,_,_,zbN _ _ _ _ _ _ _ _ _ ⟨t,_,zl hs,_,zcB,_,hix,hI1,fun hk=>?_,fun _=>⟨_,_,zbJ _ _,rfl,rfl,rfl,rfl⟩⟩⟩
 rcases h with h | h | ⟨h1,h2⟩
 ·exact absurd hk h
 ·rw[h]
  exact⟨fun _=>⟨_,_,zbJ _ _,rfl,rfl,rfl,rfl⟩,fun hf=>absurd rfl hf⟩
 rw[h2]
 exact⟨fun hf=>absurd hf (by decide),fun _=>⟨fun _=>⟨fun _=>⟨_,_,zbJ _ _,rfl,rfl,rfl,rfl⟩,fun hf=>absurd h1 hf⟩,fun hf=>absurd (by decide) hf⟩⟩
theorem zwz {L ts:List Token} (hT:TL L) (hs:ts <:+ L) (hw:W ts) {lab:List UInt8→Bool} (hl:∀ s,s.length≤1000000→zds s (lab s)) {N:Nat} (hN:20*L.length+10≤N):OkP L ts 1 (fun b g z=>zgj b g z true) (blkIn lab N ts):=by
 cases ts with
 | nil=>exact hw.elim
 | cons t ts =>
  simp only[blkIn]
  by_cases hk:t.Kind=3
  ·rw[if_pos hk]
   cases hi:zae t.Text zaa 0 with
   | none=>exact zgI hs true (.inr (.inl hi))
   | some i =>
    simp only
    by_cases h4:i=4
    ·rw[if_pos h4]
     exact zgI hs true (.inr (.inr ⟨rfl,h4 ▸ hi⟩))
    rw[if_neg h4]
    exact zk0 hT hs hw hl hN true hk hi h4 (by have:=zdU _ _ _ _ hi;simp[zaa] at this;omega)
  rw[if_neg hk]
  exact zgI hs true (.inl hk)
theorem zrB {L:List Token} (hT:TL L) {lab:List UInt8→Bool} (hl:∀ s,s.length≤1000000→zds s (lab s)) {N:Nat} (hN:20*L.length+10≤N) (r4:Int) (r11:List UInt8) (l20:List Attr) (g21 g23:Nat):∀ (n:Nat) (acc:List Block) (ts:List Token),ts <:+ L→W ts→ts.length < n→acc.length+ts.length≤1000000 →
  OkP L ts 1 (fun b g z o (r:List Block) b' g' z'=>zho r4 r11 l20 g21 acc g23 b g z o ⟨1+r4,r11,l20,r⟩ b' g' z') (zbW lab N n acc ts)
 | 0,_,_,_,_,h,_=>absurd h (Nat.not_lt_zero _)
 | n+1,acc,ts,hs,hw,hn,hal=>by
  simp only[zbW]
  by_cases hi:isS [125] ts=true
  ·rw[if_pos hi]
   have hlen:=zR hi
   exact⟨zJ hs,hw.shift hi,by omega,fun out g z=>⟨_,_,_,zdA _ _ _ _ _ _ _ _ _ _ _ _ _ _ ⟨true,_,zeR hs hT.len hi,fun _=>⟨rfl,rfl,rfl,rfl,rfl⟩,fun hf=>absurd rfl hf⟩⟩⟩
  rw[if_neg hi]
  have q0:=zfz hs hw.ne (show isS [125] ts=false by simpa using hi)
  have h1:=zwz hT hs hw hl hN
  have hbig:bigRow (acc.length+1) 72:=by simp only[bigRow];omega
  cases hc:blkIn lab N ts with
  | no=>rw[hc] at h1;exact h1.elim
  | er e =>
   rw[hc] at h1
   intro out g z
   obtain⟨a,x',g',z',q⟩:=h1 out g z
   exact⟨[],x',g',z',zdA _ _ _ _ _ _ _ _ _ _ _ _ _ _ ⟨false,_,q0,fun hf=>(by cases hf),fun _=>⟨some e,a,x',g',z',q,rfl,rfl,rfl,rfl⟩⟩⟩
  | ok a ts1 out1 =>
   rw[hc] at h1
   obtain⟨s1,w1,l1,q1⟩:=h1
   simp only[PR.bind]
   have h2:=zrB hT hl hN r4 r11 l20 g21 g23 n (acc++[a]) ts1 s1 w1 (by omega) (by simp;omega)
   cases hb:zbW lab N n (acc++[a]) ts1 with
   | no=>rw[hb] at h2;exact h2.elim
   | er e =>
    rw[hb] at h2
    intro out g z
    obtain⟨out1,g1,z1,q1⟩:=q1 out g z
    obtain⟨c,x',g',z',q⟩:=h2 out1 g1 z1
    exact⟨c,x',g',z',zdA _ _ _ _ _ _ _ _ _ _ _ _ _ _ ⟨false,_,q0,fun hf=>(by cases hf),fun _=>⟨none,a,_,_,_,q1,hbig,q⟩⟩⟩
   | ok c ts2 out2 =>
    rw[hb] at h2
    obtain⟨s2,w2,l2,q2⟩:=h2
    refine⟨s2,w2,by omega,fun out g z=>?_⟩
    obtain⟨out1,g1,z1,q1⟩:=q1 out g z
    obtain⟨out',g',z',q2⟩:=q2 out1 g1 z1
    exact⟨out',g',z',zdA _ _ _ _ _ _ _ _ _ _ _ _ _ _ ⟨false,_,q0,fun hf=>(by cases hf),fun _=>⟨none,a,_,_,_,q1,hbig,q2⟩⟩⟩
end Go.Proofs.YtfbcnpbhhooapaaGreatDoor.M
namespace Go.Proofs.YtfbcnpbhhooapaaGreatDoor.M
open Go
def c_slices_IndexFunc_api_Block_api_Block_1:SC:=.seq (.reg [vO 4 (.mov (cI (-1)))]) .ret
def b_slices_IndexFunc_api_Block_api_Block_1:SC:=.seq (.reg [bO 9 .lss 8 7]) (.seq (.cond (.t 9) .skip (.exit 0)) (.seq (.block 1 (.seq (.reg [mO 10 8,mO 5 10]) (.seq (.reg [mO 11 1,mO 12 0,mO 13 5,vO 14 (.iaddr 4 (.t 12) (.t 13)),vO 15 (.load (some 4) (.t 14)),⟨some 16,none,.call (.t 11) [(.t 15)]⟩]) (.cond (.t 16) (.seq (.reg [mO 17 5,mO 4 17]) .ret) .skip)))) (.reg [bC 18 .add 8 1,mO 8 18])))
def sc_slices_IndexFunc_api_Block_api_Block:zh:=⟨2,19,.seq (.reg [vO 4 (.mov (cI 0))]) (.seq (.seq (.reg [mO 6 0,vO 7 (.len false (.t 6)),vO 8 (.mov (cI 0))]) (.block 0 (.loop b_slices_IndexFunc_api_Block_api_Block_1))) c_slices_IndexFunc_api_Block_api_Block_1),[(.t 4)]⟩
noncomputable def zN (SP:Prg) (x:EO):CO:=fin [(.t 4)] (thC SP (zx 0 (x)) c_slices_IndexFunc_api_Block_api_Block_1)
theorem zw:type_of% (aI (ue c_slices_IndexFunc_api_Block_api_Block_1.eq_1)<|aI (ue b_slices_IndexFunc_api_Block_api_Block_1.eq_1)<|sc_slices_IndexFunc_api_Block_api_Block.eq_1):=aI (ue c_slices_IndexFunc_api_Block_api_Block_1.eq_1)<|aI (ue b_slices_IndexFunc_api_Block_api_Block_1.eq_1)<|sc_slices_IndexFunc_api_Block_api_Block.eq_1
theorem comp_slices_IndexFunc_api_Block_api_Block:comp Tryz.prog Tryz.f80=some sc_slices_IndexFunc_api_Block_api_Block:=by kernel_rfl
def sc_slices_ContainsFunc_api_Block_api_Block:zh:=⟨2,9,.seq (.reg [vO 4 (.mov (.c (.bool false)))]) (.seq (.reg [mO 5 0,mO 6 1,kO 7 80 [(.t 5),(.t 6)],bC 8 .geq 7 0,mO 4 8]) .ret),[(.t 4)]⟩
theorem zb7:type_of% (sc_slices_ContainsFunc_api_Block_api_Block.eq_1):=sc_slices_ContainsFunc_api_Block_api_Block.eq_1
theorem comp_slices_ContainsFunc_api_Block_api_Block:comp Tryz.prog Tryz.f50=some sc_slices_ContainsFunc_api_Block_api_Block:=by kernel_rfl
def sc_Q30:zh:=⟨1,6,.seq (.reg [vO 2 (.mov (.c (.bool false)))]) (.seq (.reg [mO 3 0,kO 4 50 [(.t 3),(.c (.func 51 []))],uO 5 4,mO 2 5]) .ret),[(.t 2)]⟩
theorem zAC:type_of% (sc_Q30.eq_1):=sc_Q30.eq_1
theorem comp_Q30:comp Tryz.prog Tryz.f30=some sc_Q30:=by kernel_rfl
def sc_Q51:zh:=⟨1,6,.seq (.reg [⟨some 1,none,.box (.t 0)⟩,vO 2 (.mov (.c (.bool false)))]) (.seq (.reg [vO 3 (.load (some 4) (.t 1)),kO 4 52 [(.t 3),(.c (.bool false))],uO 5 4,mO 2 5]) .ret),[(.t 2)]⟩
theorem zAU:type_of% (sc_Q51.eq_1):=sc_Q51.eq_1
theorem comp_Q51:comp Tryz.prog Tryz.f51=some sc_Q51:=by kernel_rfl
def c_Q83:SC:=.seq (.reg [mO 39 1,uO 40 39,mO 41 40,gO 42 41 true (.faddr 2 (.t 2)),gO 43 41 true (.load none (.t 42)),gO 44 41 true (.len false (.t 43)),gO 45 41 true (.bin .eql (.t 44) (cI 0)),vO 46 (.pick (.t 41) (.t 45) (.c (.bool false))),mO 47 46,gO 48 47 true (.faddr 3 (.t 2)),gO 49 47 true (.load none (.t 48)),⟨some 50,some (47,true),.call (.c (.func 50 [])) [(.t 49),(.c (.func 83 []))]⟩,gO 51 47 true (.un .not (.t 50)),vO 52 (.pick (.t 47) (.t 51) (.c (.bool false))),mO 4 52]) .ret
def c_Q52_2:SC:=.seq (.seq (.reg [fO 27 0 2,lO 28 27,bC 29 .neq 28 5]) (.cond (.t 29) (.seq (.reg [fO 30 3 2,lO 31 30,vO 32 (.len false (.t 31)),bC 33 .eql 32 0,mO 34 33,gO 35 34 true (.faddr 2 (.t 2)),gO 36 34 true (.load none (.t 35)),⟨some 37,some (34,true),.call (.c (.func 82 [])) [(.t 36)]⟩,vO 38 (.pick (.t 34) (.t 37) (.c (.bool false))),mO 4 38]) .ret) .skip)) c_Q83
def c_Q52_3:SC:=.seq (.seq (.reg [fO 15 0 2,lO 16 15,bC 17 .lss 16 1,mO 18 17,gO 19 18 false (.faddr 0 (.t 2)),gO 20 18 false (.load none (.t 19)),gO 21 18 false (.bin .gtr (.t 20) (cI 5)),vO 22 (.pick (.t 18) (.c (.bool true)) (.t 21)),mO 23 22,gO 24 23 false (.mov (.t 5)),gO 25 23 false (.un .not (.t 24)),vO 26 (.pick (.t 23) (.c (.bool true)) (.t 25))]) (.cond (.t 26) (.seq (.reg [vO 4 (.mov (.c (.bool false)))]) .ret) .skip)) c_Q52_2
def c_Q52_4:SC:=.seq (.seq (.reg [fO 9 0 2,lO 10 9,bC 11 .eql 10 2]) (.cond (.t 11) (.reg [fO 12 1 2,lO 13 12,vO 14 (.bin .eql (.t 13) (.c (.str []))),mO 5 14]) .skip)) c_Q52_3
def c_Q52_5:SC:=.seq (.reg [fO 6 1 2,lO 7 6,kO 8 81 [(.t 7)],mO 5 8]) c_Q52_4
def sc_Q52:zh:=⟨2,53,.seq (.reg [⟨some 2,none,.box (.t 0)⟩,vO 4 (.mov (.c (.bool false)))]) c_Q52_5,[(.t 4)]⟩
theorem zz7:type_of% (aI (ue c_Q83.eq_1)<|aI (ue c_Q52_2.eq_1)<|aI (ue c_Q52_3.eq_1)<|aI (ue c_Q52_4.eq_1)<|aI (ue c_Q52_5.eq_1)<|sc_Q52.eq_1):=aI (ue c_Q83.eq_1)<|aI (ue c_Q52_2.eq_1)<|aI (ue c_Q52_3.eq_1)<|aI (ue c_Q52_4.eq_1)<|aI (ue c_Q52_5.eq_1)<|sc_Q52.eq_1
theorem comp_Q52:comp Tryz.prog Tryz.f52=some sc_Q52:=by kernel_rfl
def sc_Q83:zh:=⟨1,6,.seq (.reg [⟨some 1,none,.box (.t 0)⟩,vO 2 (.mov (.c (.bool false)))]) (.seq (.reg [vO 3 (.load (some 4) (.t 1)),kO 4 52 [(.t 3),(.c (.bool true))],uO 5 4,mO 2 5]) .ret),[(.t 2)]⟩
theorem zzQ:type_of% (sc_Q83.eq_1):=sc_Q83.eq_1
theorem comp_Q83:comp Tryz.prog Tryz.f83=some sc_Q83:=by kernel_rfl
def c_Q121:SC:=.seq (.reg [vO 2 (.mov (.c (.bool true)))]) .ret
def c_Q82_2:SC:=.seq (.block 1 (.seq (.reg [mO 9 7,vO 10 (.iaddr 2 (.t 5) (.t 7)),vO 11 (.load (some 2) (.t 10)),⟨some 4,none,.alloc [(.str []),(.nils 5)]⟩,mO 3 9,sO 2 4 11]) (.seq (.reg [fO 12 0 4,lO 13 12,kO 14 115 [(.t 13)],uO 15 14,mO 16 15,gO 17 16 false (.faddr 1 (.t 4)),gO 18 16 false (.load none (.t 17)),⟨some 19,some (16,false),.call (.c (.func 26 [])) [(.t 18)]⟩,gO 20 16 false (.un .not (.t 19)),vO 21 (.pick (.t 16) (.c (.bool true)) (.t 20)),mO 22 21,gO 23 22 false (.mov (.t 0)),gO 24 22 false (.mov (.t 3)),gO 25 22 false (.slc 2 (.t 23) none (some (.t 24)) none),gO 26 22 false (.func 121 [(.t 4)]),⟨some 27,some (22,false),.call (.c (.func 99 [])) [(.t 25),(.t 26)]⟩,vO 28 (.pick (.t 22) (.c (.bool true)) (.t 27))]) (.cond (.t 28) (.seq (.reg [vO 2 (.mov (.c (.bool false)))]) .ret) .skip)))) (.reg [bC 29 .add 7 1,mO 7 29])
def c_Q82_3:SC:=.seq (.cond (.t 8) .skip (.exit 0)) c_Q82_2
def b_Q121:SC:=.seq (.reg [bO 8 .lss 7 6]) c_Q82_3
def c_Q82_4:SC:=.block 0 (.loop b_Q121)
def c_Q82_5:SC:=.seq (.seq (.reg [mO 5 0,vO 6 (.len false (.t 5)),vO 7 (.mov (cI 0))]) c_Q82_4) c_Q121
def sc_Q82:zh:=⟨1,30,.seq (.reg [vO 2 (.mov (.c (.bool false)))]) c_Q82_5,[(.t 2)]⟩
noncomputable def zq5 (SP:Prg) (x:EO):CO:=fin [(.t 2)] (thC SP (zx 0 (x)) c_Q121)
theorem zvG:type_of% (aI (ue c_Q121.eq_1)<|aI (ue c_Q82_2.eq_1)<|aI (ue c_Q82_3.eq_1)<|aI (ue b_Q121.eq_1)<|aI (ue c_Q82_4.eq_1)<|aI (ue c_Q82_5.eq_1)<|sc_Q82.eq_1):=aI (ue c_Q121.eq_1)<|aI (ue c_Q82_2.eq_1)<|aI (ue c_Q82_3.eq_1)<|aI (ue b_Q121.eq_1)<|aI (ue c_Q82_4.eq_1)<|aI (ue c_Q82_5.eq_1)<|sc_Q82.eq_1
theorem comp_Q82:comp Tryz.prog Tryz.f82=some sc_Q82:=by kernel_rfl
def sc_Q121:zh:=⟨2,9,.seq (.reg [⟨some 2,none,.box (.t 0)⟩,vO 3 (.mov (.c (.bool false)))]) (.seq (.reg [fO 4 0 2,lO 5 4,fO 6 0 1,lO 7 6,bO 8 .eql 5 7,mO 3 8]) .ret),[(.t 3)]⟩
theorem zy9:type_of% (sc_Q121.eq_1):=sc_Q121.eq_1
theorem comp_Q121:comp Tryz.prog Tryz.f121=some sc_Q121:=by kernel_rfl
def c_Q73_1:SC:=.seq (.reg [vO 2 (.mov (cI 2))]) .ret
def c_Q73_2:SC:=.cond (.t 3) (.seq (.reg [vO 2 (.mov (cI (-2)))]) .ret) (.seq (.reg [mO 11 0,bC 12 .leq 11 4,mO 10 12]) (.cond (.t 10) (.seq (.reg [vO 2 (.mov (cI 0))]) .ret) (.seq (.reg [mO 14 0,bC 15 .eql 14 5,mO 16 15,gO 17 16 false (.mov (.t 0)),gO 18 16 false (.bin .eql (.t 17) (cI 6)),vO 19 (.pick (.t 16) (.c (.bool true)) (.t 18)),mO 13 19]) (.cond (.t 13) (.seq (.reg [vO 2 (.mov (cI (-1)))]) .ret) (.seq (.reg [mO 21 0,bC 22 .eql 21 8,mO 23 22,gO 24 23 false (.mov (.t 0)),gO 25 23 false (.bin .eql (.t 24) (cI 9)),vO 26 (.pick (.t 23) (.c (.bool true)) (.t 25)),mO 20 26]) (.cond (.t 20) (.seq (.reg [vO 2 (.mov (cI 1))]) .ret) (.seq (.reg [mO 28 0,bC 29 .eql 28 10,mO 27 29]) (.cond (.t 27) (.seq (.reg [vO 2 (.mov (cI 3))]) .ret) .skip))))))))
def c_Q73_3:SC:=.seq (.block 0 (.seq (.reg [mO 4 0,bC 5 .lss 4 1,mO 6 5,gO 7 6 false (.mov (.t 0)),gO 8 6 false (.bin .gtr (.t 7) (cI 23)),vO 9 (.pick (.t 6) (.c (.bool true)) (.t 8)),mO 3 9]) c_Q73_2)) c_Q73_1
def sc_Q73:zh:=⟨1,30,.seq (.reg [vO 2 (.mov (cI 0))]) c_Q73_3,[(.t 2)]⟩
theorem zzX:type_of% (aI (ue c_Q73_1.eq_1)<|aI (ue c_Q73_2.eq_1)<|aI (ue c_Q73_3.eq_1)<|sc_Q73.eq_1):=aI (ue c_Q73_1.eq_1)<|aI (ue c_Q73_2.eq_1)<|aI (ue c_Q73_3.eq_1)<|sc_Q73.eq_1
theorem comp_Q73:comp Tryz.prog Tryz.f73=some sc_Q73:=by kernel_rfl
def sc_Q114:zh:=⟨1,9,.seq (.reg [vO 2 (.mov (.c (.bool false)))]) (.seq (.reg [mO 3 0,vO 4 (.bin .eql (.t 3) (.c (.str [116,114,117,101]))),mO 5 4,gO 6 5 false (.mov (.t 0)),gO 7 5 false (.bin .eql (.t 6) (.c (.str [102,97,108,115,101]))),vO 8 (.pick (.t 5) (.c (.bool true)) (.t 7)),mO 2 8]) .ret),[(.t 2)]⟩
theorem zxY:type_of% (sc_Q114.eq_1):=sc_Q114.eq_1
theorem comp_Q114:comp Tryz.prog Tryz.f114=some sc_Q114:=by kernel_rfl
def sc_Q113:zh:=⟨1,21,.seq (.reg [vO 2 (.mov (.c (.bool false)))]) (.seq (.reg [mO 7 0,kO 8 112 [(.t 7),(.c (.str [46]))],mO 6 8,vO 9 (.extract 0 (.t 6)),vO 10 (.extract 1 (.t 6)),vO 11 (.extract 2 (.t 6)),mO 3 9,mO 4 10,mO 5 11]) (.seq (.reg [mO 12 5,mO 13 12,gO 14 13 true (.mov (.t 3)),⟨some 15,some (13,true),.call (.c (.func 115 [])) [(.t 14)]⟩,vO 16 (.pick (.t 13) (.t 15) (.c (.bool false))),mO 17 16,gO 18 17 true (.mov (.t 4)),⟨some 19,some (17,true),.call (.c (.func 115 [])) [(.t 18)]⟩,vO 20 (.pick (.t 17) (.t 19) (.c (.bool false))),mO 2 20]) .ret)),[(.t 2)]⟩
theorem zxX:type_of% (sc_Q113.eq_1):=sc_Q113.eq_1
theorem comp_Q113:comp Tryz.prog Tryz.f113=some sc_Q113:=by kernel_rfl
def c_Q152_1:SC:=.seq (.reg [vO 2 (.mov (.c (.bool true)))]) .ret
def b_Q152_1:SC:=.seq (.reg [bO 7 .lss 6 5]) (.seq (.cond (.t 7) .skip (.exit 0)) (.seq (.block 1 (.seq (.reg [mO 8 6,mO 3 8]) (.seq (.reg [mO 9 0,mO 10 3,vO 11 (.istr (.t 9) (.t 10)),vO 12 (.bin .lss (.t 11) (.c (.int .u8 32))),mO 13 12,gO 14 13 true (.mov (.t 0)),gO 15 13 true (.mov (.t 3)),gO 16 13 true (.istr (.t 14) (.t 15)),gO 17 13 true (.bin .neq (.t 16) (.c (.int .u8 10))),vO 18 (.pick (.t 13) (.t 17) (.c (.bool false)))]) (.cond (.t 18) (.seq (.reg [vO 2 (.mov (.c (.bool false)))]) .ret) .skip)))) (.reg [bC 19 .add 6 1,mO 6 19])))
def sc_Q152:zh:=⟨1,20,.seq (.reg [vO 2 (.mov (.c (.bool false)))]) (.seq (.seq (.reg [mO 4 0,vO 5 (.len true (.t 4)),vO 6 (.mov (cI 0))]) (.block 0 (.loop b_Q152_1))) c_Q152_1),[(.t 2)]⟩
noncomputable def zmP (SP:Prg) (x:EO):CO:=fin [(.t 2)] (thC SP (zx 0 (x)) c_Q152_1)
theorem zrF:type_of% (aI (ue c_Q152_1.eq_1)<|aI (ue b_Q152_1.eq_1)<|sc_Q152.eq_1):=aI (ue c_Q152_1.eq_1)<|aI (ue b_Q152_1.eq_1)<|sc_Q152.eq_1
theorem comp_Q152:comp Tryz.prog Tryz.f152=some sc_Q152:=by kernel_rfl
def c_Q116_1:SC:=.seq (.reg [vO 2 (.mov (.c (.bool true)))]) .ret
def c_Q116_2:SC:=.reg [bC 40 .add 7 1,mO 7 40]
def c_Q116_3:SC:=.seq (.reg [fO 18 1 4,lO 19 18,vO 20 (.bin .eql (.t 19) (.c (.str []))),mO 21 20,gO 22 21 false (.mov (.t 3)),gO 23 21 false (.bin .gtr (.t 22) (cI 0)),gO 24 21 false (.mov (.t 23)),gO 25 24 true (.mov (.t 0)),gO 26 24 true (.mov (.t 3)),gO 27 24 true (.bin .sub (.t 26) (cI 1)),gO 28 24 true (.iaddr 2 (.t 25) (.t 27)),gO 29 24 true (.faddr 0 (.t 28)),gO 30 24 true (.load none (.t 29)),gO 31 24 true (.un .not (.t 30)),gO 32 21 false (.pick (.t 24) (.t 31) (.c (.bool false))),vO 33 (.pick (.t 21) (.c (.bool true)) (.t 32)),mO 34 33,gO 35 34 false (.faddr 1 (.t 4)),gO 36 34 false (.load none (.t 35)),⟨some 37,some (34,false),.call (.c (.func 152 [])) [(.t 36)]⟩,gO 38 34 false (.un .not (.t 37)),vO 39 (.pick (.t 34) (.c (.bool true)) (.t 38))]) (.cond (.t 39) (.seq (.reg [vO 2 (.mov (.c (.bool false)))]) .ret) .skip)
def c_Q116_4:SC:=.seq (.seq (.reg [fO 12 0 4,lO 13 12]) (.cond (.t 13) (.seq (.seq (.reg [fO 14 1 4,lO 15 14,kO 16 113 [(.t 15)],uO 17 16]) (.cond (.t 17) (.seq (.reg [vO 2 (.mov (.c (.bool false)))]) .ret) .skip)) (.exit 1)) .skip)) c_Q116_3
def c_Q116_5:SC:=.seq (.block 1 (.seq (.reg [mO 9 7,vO 10 (.iaddr 2 (.t 5) (.t 7)),vO 11 (.load (some 2) (.t 10)),⟨some 4,none,.alloc [(.bool false),(.str [])]⟩,mO 3 9,sO 2 4 11]) c_Q116_4)) c_Q116_2
def c_Q116_6:SC:=.seq (.cond (.t 8) .skip (.exit 0)) c_Q116_5
def b_Q116_1:SC:=.seq (.reg [bO 8 .lss 7 6]) c_Q116_6
def c_Q116_7:SC:=.block 0 (.loop b_Q116_1)
def c_Q116_8:SC:=.seq (.seq (.reg [mO 5 0,vO 6 (.len false (.t 5)),vO 7 (.mov (cI 0))]) c_Q116_7) c_Q116_1
def sc_Q116:zh:=⟨1,41,.seq (.reg [vO 2 (.mov (.c (.bool false)))]) c_Q116_8,[(.t 2)]⟩
noncomputable def znN (SP:Prg) (x:EO):CO:=fin [(.t 2)] (thC SP (zx 0 (x)) c_Q116_1)
theorem zs8:type_of% (aI (ue c_Q116_1.eq_1)<|aI (ue c_Q116_2.eq_1)<|aI (ue c_Q116_3.eq_1)<|aI (ue c_Q116_4.eq_1)<|aI (ue c_Q116_5.eq_1)<|aI (ue c_Q116_6.eq_1)<|aI (ue b_Q116_1.eq_1)<|aI (ue c_Q116_7.eq_1)<|aI (ue c_Q116_8.eq_1)<|sc_Q116.eq_1):=aI (ue c_Q116_1.eq_1)<|aI (ue c_Q116_2.eq_1)<|aI (ue c_Q116_3.eq_1)<|aI (ue c_Q116_4.eq_1)<|aI (ue c_Q116_5.eq_1)<|aI (ue c_Q116_6.eq_1)<|aI (ue b_Q116_1.eq_1)<|aI (ue c_Q116_7.eq_1)<|aI (ue c_Q116_8.eq_1)<|sc_Q116.eq_1
theorem comp_Q116:comp Tryz.prog Tryz.f116=some sc_Q116:=by kernel_rfl
def c_Q74_1:SC:=.seq (.reg [mO 69 3,mO 70 69,gO 71 70 true (.mov (.t 4)),vO 72 (.pick (.t 70) (.t 71) (.c (.bool false))),mO 73 72,gO 74 73 true (.mov (.t 5)),vO 75 (.pick (.t 73) (.t 74) (.c (.bool false))),mO 2 75]) .ret
def c_Q74_2:SC:=.cond (.t 36) (.seq (.reg [fO 39 2 1,lO 40 39,kO 41 112 [(.t 40),(.c (.str [46]))],mO 38 41,vO 42 (.extract 0 (.t 38)),vO 43 (.extract 1 (.t 38)),vO 44 (.extract 2 (.t 38)),mO 6 42,mO 7 43,mO 8 44]) (.reg [fO 45 2 1,lO 46 45,kO 47 113 [(.t 46)],mO 48 47,gO 49 48 true (.mov (.t 6)),⟨some 50,some (48,true),.call (.c (.func 114 [])) [(.t 49)]⟩,gO 51 48 true (.un .not (.t 50)),vO 52 (.pick (.t 48) (.t 51) (.c (.bool false))),mO 4 52])) (.seq (.reg [bC 54 .eql 20 5,mO 53 54]) (.cond (.t 53) (.reg [fO 55 2 1,lO 56 55,kO 57 115 [(.t 56)],mO 58 57,gO 59 58 true (.faddr 2 (.t 1)),gO 60 58 true (.load none (.t 59)),⟨some 61,some (58,true),.call (.c (.func 114 [])) [(.t 60)]⟩,gO 62 58 true (.un .not (.t 61)),vO 63 (.pick (.t 58) (.t 62) (.c (.bool false))),mO 4 63]) (.seq (.reg [bC 65 .eql 20 2,mO 64 65]) (.cond (.t 64) (.reg [fO 66 3 1,lO 67 66,kO 68 116 [(.t 67)],mO 5 68]) .skip))))
def c_Q74_3:SC:=.cond (.t 26) (.reg [fO 28 1 1,lO 29 28,bC 30 .eql 29 0,mO 31 30,gO 32 31 false (.faddr 1 (.t 1)),gO 33 31 false (.load none (.t 32)),gO 34 31 false (.bin .eql (.t 33) (cI 1)),vO 35 (.pick (.t 31) (.c (.bool true)) (.t 34)),mO 3 35]) (.seq (.reg [bC 37 .eql 20 4,mO 36 37]) c_Q74_2)
def c_Q74_4:SC:=.cond (.t 21) (.reg [fO 23 1 1,lO 24 23,bC 25 .geq 24 0,mO 3 25]) (.seq (.reg [bC 27 .eql 20 3,mO 26 27]) c_Q74_3)
def c_Q74_5:SC:=.block 0 (.seq (.reg [bC 22 .eql 20 1,mO 21 22]) c_Q74_4)
def c_Q74_6:SC:=.seq (.seq (.reg [fO 19 0 1,lO 20 19]) c_Q74_5) c_Q74_1
def c_Q74_7:SC:=.seq (.dreg [fO 9 1 1,lO 10 9,bC 11 .eql 10 0,fO 12 2 1,lO 13 12,vO 14 (.bin .eql (.t 13) (.c (.str []))),fO 15 3 1,lO 16 15,vO 17 (.len false (.t 16)),bC 18 .eql 17 0,mO 3 11,mO 4 14,mO 5 18] [false,false,false,false,false,false,false,false,false,false,false,false,true]) c_Q74_6
def sc_Q74:zh:=⟨1,76,.seq (.reg [⟨some 1,none,.box (.t 0)⟩,vO 2 (.mov (.c (.bool false)))]) c_Q74_7,[(.t 2)]⟩
theorem zAN:type_of% (aI (ue c_Q74_1.eq_1)<|aI (ue c_Q74_2.eq_1)<|aI (ue c_Q74_3.eq_1)<|aI (ue c_Q74_4.eq_1)<|aI (ue c_Q74_5.eq_1)<|aI (ue c_Q74_6.eq_1)<|aI (ue c_Q74_7.eq_1)<|sc_Q74.eq_1):=aI (ue c_Q74_1.eq_1)<|aI (ue c_Q74_2.eq_1)<|aI (ue c_Q74_3.eq_1)<|aI (ue c_Q74_4.eq_1)<|aI (ue c_Q74_5.eq_1)<|aI (ue c_Q74_6.eq_1)<|aI (ue c_Q74_7.eq_1)<|sc_Q74.eq_1
theorem comp_Q74:comp Tryz.prog Tryz.f74=some sc_Q74:=by kernel_rfl
def sc_Q26:zh:=⟨1,14,.seq (.reg [vO 2 (.mov (.c (.bool false)))]) (.seq (.reg [mO 3 0,vO 4 (.len false (.t 3)),bC 5 .gtr 4 0,mO 6 5,gO 7 6 true (.mov (.t 0)),gO 8 6 true (.mov (.t 0)),gO 9 6 true (.len false (.t 8)),gO 10 6 true (.bin .sub (.t 9) (cI 1)),⟨some 11,some (6,true),.call (.c (.func 47 [])) [(.t 7),(.t 10)]⟩,gO 12 6 true (.bin .eql (.t 11) (cI 0)),vO 13 (.pick (.t 6) (.t 12) (.c (.bool false))),mO 2 13]) .ret),[(.t 2)]⟩
theorem zAK:type_of% (sc_Q26.eq_1):=sc_Q26.eq_1
theorem comp_Q26:comp Tryz.prog Tryz.f26=some sc_Q26:=by kernel_rfl
end Go.Proofs.YtfbcnpbhhooapaaGreatDoor.M
namespace Go.Proofs.YtfbcnpbhhooapaaGreatDoor.M
open Go Classical
theorem zcu:SP 80=some (.code sc_slices_IndexFunc_api_Block_api_Block):=ze rfl Tryz.func80 comp_slices_IndexFunc_api_Block_api_Block
theorem zcD (xs:List Block) (g:Nat) (caps:List PV) (p:Block→Bool) (S:Sto) (hl:xs.length < 9223372036854775808) (h1:∀ S,handA S (PV.upL caps)=some (PV.upL caps,S)) (h2:(PV.upL caps).any PV.hasSl=false) (h3:∀ a,zW a (PV.upL caps)=a++PV.upL caps) (hc:∀ x,x ∈ xs→∀ f,call SP g (.agg (zF x)::PV.upL caps) (f::S)=.ok (.v (.bool (p x))) (f::S)):call SP 80 [.list 4 (xs.map zF) false,.func g caps] S=.ok (.v (.int .i64 (zc4 p 0 xs))) S:=by
  have loop:∀ (k i:Nat),i+k=xs.length→∀ (e:Nat→PV) (f:Fr),e 0=.list 4 (xs.map zF) false∧e 1=.func g (PV.upL caps)∧e 7=.int .i64 ((xs.length:Nat):Int)∧e 8=.int .i64 ((i:Nat):Int)→zN SP (E SP (.loop b_slices_IndexFunc_api_Block_api_Block_1) ⟨e,f::S⟩)=.ok (.v (.int .i64 (zc4 p i (xs.drop i)))) S:=by
    intro k
    induction k with
    | zero =>
      intro i hi e f h
      have hlt:¬ (((i:Nat):Int) < ((xs.length:Nat):Int)):=by omega
      rw[List.drop_eq_nil_of_le (by omega)]
      unfold zN zc4
      rw[zm]
      simp only[h,hlt,zw,lw,lx,le,Nat.reduceMul,UInt8.reduceToNat,reduceIte,reduceCtorEq,Nat.reduceEqDiff,Nat.reduceAdd,Nat.reduceLeDiff,Nat.reduceSub,Nat.reduceLT,Int.reduceEq,Int.reduceLT,Int.reduceLE,Int.reduceToNat,Int.reduceAdd,Int.reduceSub,Int.reduceMul,Int.reduceNeg,h1,h2,h3]
    | succ k ih =>
      intro i hi e f h
      have hlt:(((i:Nat):Int) < ((xs.length:Nat):Int)):=by omega
      have hi':i < xs.length:=by omega
      have hv:xs[i]?=some xs[i]:=List.getElem?_eq_getElem hi'
      have hcx:=hc xs[i] (List.getElem_mem hi')
      have w1:IntKind.i64.wrap ((i:Int)+1)=((i+1:Nat):Int):=by rw[zhf (by omega) (by omega)];omega
      rw[List.drop_eq_getElem_cons hi']
      simp only[le] at hcx
      have hi2:=ih (i+1) (by omega)
      unfold zN at hi2 ⊢
      unfold zc4
      rw[zm]
      cases hp:p xs[i] with
      | true =>
        rw[hp] at hcx
        simp only[h,hlt,hv,hcx,w1,zdX,Int.toNat_natCast,zw,lw,lx,le,Nat.reduceMul,UInt8.reduceToNat,reduceIte,reduceCtorEq,Nat.reduceEqDiff,Nat.reduceAdd,Nat.reduceLeDiff,Nat.reduceSub,Nat.reduceLT,Int.reduceEq,Int.reduceLT,Int.reduceLE,Int.reduceToNat,Int.reduceAdd,Int.reduceSub,Int.reduceMul,Int.reduceNeg,h1,h2,h3]
      | false =>
        rw[hp] at hcx
        simp only[h,hlt,hv,hcx,w1,zdX,Int.toNat_natCast,zw,lw,lx,le,Nat.reduceMul,UInt8.reduceToNat,reduceIte,reduceCtorEq,Nat.reduceEqDiff,Nat.reduceAdd,Nat.reduceLeDiff,Nat.reduceSub,Nat.reduceLT,Int.reduceEq,Int.reduceLT,Int.reduceLE,Int.reduceToNat,Int.reduceAdd,Int.reduceSub,Int.reduceMul,Int.reduceNeg,h1,h2,h3]
        rw[hi2 _ _ ?_]
        simp only[h,w1,zw,lw,lx,le,Nat.reduceMul,UInt8.reduceToNat,reduceIte,reduceCtorEq,Nat.reduceEqDiff,Nat.reduceAdd,Nat.reduceLeDiff,Nat.reduceSub,Nat.reduceLT,Int.reduceEq,Int.reduceLT,Int.reduceLE,Int.reduceToNat,Int.reduceAdd,Int.reduceSub,Int.reduceMul,Int.reduceNeg,h1,h2,h3]
  rw[zd zcu _ _ rfl]
  simp only[zw,lw,lx,le,Nat.reduceMul,UInt8.reduceToNat,reduceIte,reduceCtorEq,Nat.reduceEqDiff,Nat.reduceAdd,Nat.reduceLeDiff,Nat.reduceSub,Nat.reduceLT,Int.reduceEq,Int.reduceLT,Int.reduceLE,Int.reduceToNat,Int.reduceAdd,Int.reduceSub,Int.reduceMul,Int.reduceNeg,h1,h2,h3]
  have:=loop xs.length 0 (by omega)
  unfold zN at this
  rw[this _ _ ?_]
  ·rw[List.drop_zero]
  simp only[zw,lw,lx,le,Nat.reduceMul,UInt8.reduceToNat,reduceIte,reduceCtorEq,Nat.reduceEqDiff,Nat.reduceAdd,Nat.reduceLeDiff,Nat.reduceSub,Nat.reduceLT,Int.reduceEq,Int.reduceLT,Int.reduceLE,Int.reduceToNat,Int.reduceAdd,Int.reduceSub,Int.reduceMul,Int.reduceNeg,h1,h2,h3]
  try simp
theorem zb0:SP 50=some (.code sc_slices_ContainsFunc_api_Block_api_Block):=ze rfl Tryz.func50 comp_slices_ContainsFunc_api_Block_api_Block
theorem zaI (xs:List Block) (g:Nat) (caps:List PV) (p:Block→Bool) (S:Sto) (hl:xs.length < 9223372036854775808) (h1:∀ S,handA S (PV.upL caps)=some (PV.upL caps,S)) (h2:(PV.upL caps).any PV.hasSl=false) (h3:∀ a,zW a (PV.upL caps)=a++PV.upL caps) (h1':∀ S,handA S (PV.upL (PV.upL caps))=some (PV.upL (PV.upL caps),S)) (h2':(PV.upL (PV.upL caps)).any PV.hasSl=false) (h3':∀ a,zW a (PV.upL (PV.upL caps))=a++PV.upL (PV.upL caps)) (hc:∀ x,x ∈ xs→∀ f f',call SP g (.agg (zF x)::PV.upL (PV.upL caps)) (f::f'::S)=.ok (.v (.bool (p x))) (f::f'::S)):call SP 50 [.list 4 (xs.map zF) false,.func g caps] S=.ok (.v (.bool (xs.any p))) S:=by
  have ix:=fun f'=>zcD xs g (PV.upL caps) p (f'::S) hl h1' h2' h3' fun x hx f=>hc x hx f f'
  have hd:=zlM p xs
  rw[zd zb0 _ _ rfl]
  simp only[ix,hd,zb7,lw,lx,le,Nat.reduceMul,UInt8.reduceToNat,reduceIte,reduceCtorEq,Nat.reduceEqDiff,Nat.reduceAdd,Nat.reduceLeDiff,Nat.reduceSub,Nat.reduceLT,Int.reduceEq,Int.reduceLT,Int.reduceLE,Int.reduceToNat,Int.reduceAdd,Int.reduceSub,Int.reduceMul,Int.reduceNeg,h1,h2,h3]
theorem zyE:SP 30=some (.code sc_Q30):=ze rfl Tryz.func30 comp_Q30
theorem za9 {xs:List Block}  {p:Block→Bool} (hl:xs.length < 9223372036854775808) (hp:∀ x,x ∈ xs→zqQ x (p x)):∀ (S:Sto),call SP 50 [.list 4 (xs.map zF) false,.func 51 []] S=.ok (.v (.bool (xs.any p))) S:=by
 intro S  
 refine zaI xs 51 [] p S hl (by intro S;rfl) (by rfl) (by intro a;rfl) (by intro S;rfl) (by rfl) (by intro a;rfl) ?_
 intro x hx f f'
 have:=hp x hx (f::f'::S)  
 simpa only[PV.upL,PV.up] using this
theorem ztw (l_:List Block) (r:Bool) (T :
  (l_.length < 9223372036854775808) ∧
 ∃ (pp1:Block→Bool),(∀ x,x ∈ l_→zqQ x (pp1 x)) ∧
 (!(l_.any pp1))=r):zgm l_ r:=by
 intro S
 rw[zd zyE _ _ rfl]
 have F:=zAC
 obtain⟨p1,pp1,q2,rfl⟩:=T
 have o2:=za9  p1 q2
 try simp only[le] at o2
 exact fi (aa p1<|aa o2<|F)
theorem zxP:SP 51=some (.code sc_Q51):=ze rfl Tryz.func51 comp_Q51
theorem ztA (b:Block) (r:Bool) (T :
  ∃ (r1:Bool),(zkO b false r1) ∧
 (!r1)=r):zqQ b r:=by
 intro S
 rw[zd zxP _ _ rfl]
 have F:=zAU
 exact rn F T
theorem zyc:SP 52=some (.code sc_Q52):=ze rfl Tryz.func52 comp_Q52
theorem zbb {xs:List Block}  {p:Block→Bool} (hl:xs.length < 9223372036854775808) (hp:∀ x,x ∈ xs→zp5 x (p x)):∀ (S:Sto),call SP 50 [.list 4 (xs.map zF) false,.func 83 []] S=.ok (.v (.bool (xs.any p))) S:=by
 intro S  
 refine zaI xs 83 [] p S hl (by intro S;rfl) (by rfl) (by intro a;rfl) (by intro S;rfl) (by rfl) (by intro a;rfl) ?_
 intro x hx f f'
 have:=hp x hx (f::f'::S)  
 simpa only[PV.upL,PV.up] using this
theorem zun (b:Block) (within:Bool) (r:Bool) (T :
  ∃ (r1:Bool),(zds b.Label r1) ∧
 ((b.Kind=2) →
  ((b.Kind < 1) →
   false=r) ∧
  (¬ (b.Kind < 1) →
   ((5 < b.Kind) →
    false=r) ∧
   (¬ (5 < b.Kind) →
    ((b.Label=[]) →
     (((b.Blocks.length:Int)=0) →
      ∃ (r2:Bool),(zjl b.Attrs r2) ∧
      r2=r) ∧
     (¬ ((b.Blocks.length:Int)=0) →
      false=r)) ∧
    (¬ (b.Label=[]) →
     false=r)))) ∧
 (¬ (b.Kind=2) →
  ((b.Kind < 1) →
   false=r) ∧
  (¬ (b.Kind < 1) →
   ((5 < b.Kind) →
    false=r) ∧
   (¬ (5 < b.Kind) →
    ((r1=true) →
     ((b.Kind=5) →
      ((within=true) →
       false=r) ∧
      (¬ (within=true) →
       (((b.Attrs.length:Int)=0) →
        (b.Blocks.length < 9223372036854775808) ∧
        ∃ (pp3:Block→Bool),(∀ x,x ∈ b.Blocks→zp5 x (pp3 x)) ∧
        (!(b.Blocks.any pp3))=r) ∧
       (¬ ((b.Attrs.length:Int)=0) →
        false=r))) ∧
     (¬ (b.Kind=5) →
      (((b.Blocks.length:Int)=0) →
       ∃ (r4:Bool),(zjl b.Attrs r4) ∧
       r4=r) ∧
      (¬ ((b.Blocks.length:Int)=0) →
       false=r))) ∧
    (¬ (r1=true) →
     false=r))))):zkO b within r:=by
 intro S
 rw[zd zyc _ _ rfl]
 have F:=zz7
 obtain⟨r1,q1,T⟩:=T
 simp only[zds,lF] at q1
 replace F:=aa q1<|F
 by_cases c2:b.Kind=2
 ·replace T:=T.1 c2
  replace F:=aa (eq_true c2)<|F
  by_cases c3:b.Kind < 1
  ·replace T:=T.1 c3
   obtain rfl:=T
   exact fi (aa (eq_true c3)<|F)
  replace T:=T.2 c3
  replace F:=aa (eq_false c3)<|F
  by_cases c4:5 < b.Kind
  ·replace T:=T.1 c4
   obtain rfl:=T
   exact fi (aa (eq_true c4)<|F)
  replace T:=T.2 c4
  replace F:=aa (eq_false c4)<|F
  by_cases c5:b.Label=[]
  ·replace T:=T.1 c5
   have d6:¬ (b.Kind=5):=fun h=>absurd (c2.symm.trans h) (by decide)
   replace F:=aa (eq_true c5)<|aa (eq_false d6)<|F
   by_cases c7:(b.Blocks.length:Int)=0
   ·replace T:=T.1 c7
    obtain⟨r2,q8,rfl⟩:=T
    simp only[zjl,lF] at q8
    exact fi (aa (eq_true c7)<|aa q8<|F)
   replace T:=T.2 c7
   obtain rfl:=T
   exact fi (aa (eq_false c7)<|F)
  replace T:=T.2 c5
  obtain rfl:=T
  exact fi (aa (eq_false c5)<|F)
 replace T:=T.2 c2
 replace F:=aa (eq_false c2)<|F
 by_cases c9:b.Kind < 1
 ·replace T:=T.1 c9
  obtain rfl:=T
  exact fi (aa (eq_true c9)<|F)
 replace T:=T.2 c9
 replace F:=aa (eq_false c9)<|F
 by_cases c10:5 < b.Kind
 ·replace T:=T.1 c10
  obtain rfl:=T
  exact fi (aa (eq_true c10)<|F)
 replace T:=T.2 c10
 replace F:=aa (eq_false c10)<|F
 by_cases c11:r1=true
 ·replace T:=T.1 c11
  replace F:=aa c11<|F
  by_cases c12:b.Kind=5
  ·replace T:=T.1 c12
   replace F:=aa (eq_true c12)<|F
   by_cases c13:within=true
   ·replace T:=T.1 c13
    obtain rfl:=T
    exact fi (aa c13<|F)
   replace T:=T.2 c13
   replace c13:=Bool.eq_false_iff.2 c13
   replace F:=aa c13<|F
   by_cases c14:(b.Attrs.length:Int)=0
   ·replace T:=T.1 c14
    obtain⟨p15,pp3,q16,rfl⟩:=T
    have o16:=zbb  p15 q16
    try simp only[le] at o16
    exact fi (aa (eq_true c14)<|aa p15<|aa o16<|F)
   replace T:=T.2 c14
   obtain rfl:=T
   exact fi (aa (eq_false c14)<|F)
  replace T:=T.2 c12
  replace F:=aa (eq_false c12)<|F
  by_cases c17:(b.Blocks.length:Int)=0
  ·replace T:=T.1 c17
   obtain⟨r4,q18,rfl⟩:=T
   simp only[zjl,lF] at q18
   exact fi (aa (eq_true c17)<|aa q18<|F)
  replace T:=T.2 c17
  obtain rfl:=T
  exact fi (aa (eq_false c17)<|F)
 replace T:=T.2 c11
 replace c11:=Bool.eq_false_iff.2 c11
 obtain rfl:=T
 exact fi (aa c11<|F)
theorem zzA:SP 83=some (.code sc_Q83):=ze rfl Tryz.func83 comp_Q83
theorem ztS (x:Block) (r:Bool) (T :
  ∃ (r1:Bool),(zkO x true r1) ∧
 (!r1)=r):zp5 x r:=by
 intro S
 rw[zd zzA _ _ rfl]
 have F:=zzQ
 exact rn F T
theorem zyz:SP 82=some (.code sc_Q82):=ze rfl Tryz.func82 comp_Q82
theorem zba {xs:List Attr} {c0:Attr} {p:Attr→Bool} (hl:xs.length < 9223372036854775808) (hp:∀ x,x ∈ xs→zoo x c0 (p x)):∀ (S:Sto) (n0:Nat) (t0:Nat),(getBox S n0 t0).map (List.take 2)=some [.str c0.Name,.list 5 (c0.Expr.map eNode) false]→call SP 99 [.list 2 (xs.map eAttr) false,.func 121 [.ptr n0 t0 0]] S=.ok (.v (.bool (xs.any p))) S:=by
 intro S n0 t0 h0
 refine zaT xs 121 [.ptr n0 t0 0] p S hl (by intro S;rfl) (by rfl) (by intro a;rfl) (by intro S;rfl) (by rfl) (by intro a;rfl) ?_
 intro x hx f f'
 have:=hp x hx (f::f'::S) (n0+1+1) t0 (by simpa only[lw] using h0)
 simpa only[PV.upL,PV.up] using this
def zi1 (l_:List Attr) (i1:Int) (r:Bool):Prop:=∀ (S:Sto) (e:Nat→PV) (f:Fr),e 0=.list 2 (l_.map eAttr) false∧e 5=.list 2 (l_.map eAttr) false∧e 6=.int .i64 (l_.length:Int)∧e 7=.int .i64 i1→zq5 SP (E SP (.loop b_Q121) ⟨e,f::S⟩)=.ok (.v (.bool r)) S
theorem zh5 (l_:List Attr) (i1:Int) (r:Bool) (T :
  ((i1 < (l_.length:Int)) →
  (0≤i1) ∧
  ∃ (v2:Attr),(l_[i1.toNat]?=some v2) ∧
  ∃ (r3:Bool),(zcz v2.Name r3) ∧
  ((r3=true) →
   ∃ (r4:Bool),(zeA v2.Expr r4) ∧
   ((r4=true) →
    (0≤i1)∧(i1.toNat≤l_.length) ∧
    ((l_.take (i1.toNat)).length < 9223372036854775808) ∧
    ∃ (pp5:Attr→Bool),(∀ x,x ∈ (l_.take (i1.toNat))→zoo x v2 (pp5 x)) ∧
    ((((l_.take (i1.toNat)).any pp5)=true) →
     false=r) ∧
    (¬ (((l_.take (i1.toNat)).any pp5)=true) →
     (I64 (i1+1)) ∧
     zi1 l_ (i1+1) r)) ∧
   (¬ (r4=true) →
    false=r)) ∧
  (¬ (r3=true) →
   false=r)) ∧
 (¬ (i1 < (l_.length:Int)) →
  true=r)):zi1 l_ i1 r:=by
 intro S e f h
 unfold zq5
 rw[zm]
 have F:=zvG
 replace F:=aa h<|F
 by_cases c1:i1 < (l_.length:Int)
 ·replace T:=T.1 c1
  obtain⟨p2,v2,q3,r3,q4,T⟩:=T
  simp only[zcz,lF] at q4
  replace F:=aa (eq_true c1)<|aa p2<|aa q3<|aa q4<|F
  by_cases c5:r3=true
  ·replace T:=T.1 c5
   obtain⟨r4,q6,T⟩:=T
   simp only[zeA,lF] at q6
   replace F:=aa c5<|aa q6<|F
   by_cases c7:r4=true
   ·replace T:=T.1 c7
    obtain⟨p8,p9,p10,pp5,q11,T⟩:=T
    have o11:=zba  p10 q11
    try simp only[le] at o11
    replace F:=aa c7<|aa p8<|aa p9<|aa p10<|aa o11<|F
    by_cases c12:((l_.take (i1.toNat)).any pp5)=true
    ·replace T:=T.1 c12
     obtain rfl:=T
     exact fi (aa c12<|F)
    replace T:=T.2 c12
    replace c12:=Bool.eq_false_iff.2 c12
    obtain⟨p13,T⟩:=T
    replace F:=aa c12<|aa p13.wrap<|F
    exact lo F T
   replace T:=T.2 c7
   replace c7:=Bool.eq_false_iff.2 c7
   obtain rfl:=T
   exact fi (aa c7<|F)
  replace T:=T.2 c5
  replace c5:=Bool.eq_false_iff.2 c5
  obtain rfl:=T
  exact fi (aa c5<|F)
 replace T:=T.2 c1
 obtain rfl:=T
 exact fi (aa (eq_false c1)<|F)
theorem zuy (l_:List Attr) (r:Bool) (T :
  zi1 l_ 0 r):zjl l_ r:=by
 intro S
 rw[zd zyz _ _ rfl]
 have F:=zvG
 exact rn F T
theorem zvW:SP 121=some (.code sc_Q121):=ze rfl Tryz.func121 comp_Q121
theorem zsF (b:Attr) (c0_:Attr) (r:Bool) (T :
  (decide (b.Name=c0_.Name))=r):zoo b c0_ r:=by
 intro S n1 t1 H0
 have hb0:=H0
 obtain⟨w0,hB0⟩:=zg hb0
 have hn0:=zc hB0
 rw[zd zvW _ _ rfl]
 have F:=zy9
 obtain rfl:=T
 exact fi (aa hB0<|aa hn0<|F)
theorem zyF:SP 73=some (.code sc_Q73):=ze rfl Tryz.func73 comp_Q73
theorem zua (kind:Int) (r:Int) (T :
  ((kind < 1) →
  (-2)=r) ∧
 (¬ (kind < 1) →
  ((23 < kind) →
   (-2)=r) ∧
  (¬ (23 < kind) →
   ((kind≤4) →
    0=r) ∧
   (¬ (kind≤4) →
    ((kind=5) →
     (-1)=r) ∧
    (¬ (kind=5) →
     ((kind=6) →
      (-1)=r) ∧
     (¬ (kind=6) →
      ((kind=8) →
       1=r) ∧
      (¬ (kind=8) →
       ((kind=9) →
        1=r) ∧
       (¬ (kind=9) →
        ((kind=10) →
         3=r) ∧
        (¬ (kind=10) →
         2=r))))))))):zvt kind r:=by
 intro S
 rw[zd zyF _ _ rfl]
 have F:=zzX
 exact rn F T
theorem zwC:SP 114=some (.code sc_Q114):=ze rfl Tryz.func114 comp_Q114
theorem zsA (s:List UInt8) (r:Bool) (T :
  ((s=[116,114,117,101]) →
  true=r) ∧
 (¬ (s=[116,114,117,101]) →
  (decide (s=[102,97,108,115,101]))=r)):zkz s r:=by
 intro S
 rw[zd zwC _ _ rfl]
 have F:=zxY
 exact rn F T
theorem zwg:SP 113=some (.code sc_Q113):=ze rfl Tryz.func113 comp_Q113
theorem zrE (s:List UInt8) (r:Bool) (T :
  ∃ (r1:List UInt8) (r2:List UInt8) (r3:Bool),(zbx s [46] r1 r2 r3) ∧
 ((r3=true) →
  ∃ (r4:Bool),(zcz r1 r4) ∧
  ((r4=true) →
   ∃ (r5:Bool),(zcz r2 r5) ∧
   r5=r) ∧
  (¬ (r4=true) →
   false=r)) ∧
 (¬ (r3=true) →
  false=r)):zkK s r:=by
 intro S
 rw[zd zwg _ _ rfl]
 have F:=zxX
 exact rn F T
theorem zwO:SP 152=some (.code sc_Q152):=ze rfl Tryz.func152 comp_Q152
def zeF (s:List UInt8) (i1:Int) (r:Bool):Prop:=∀ (S:Sto) (e:Nat→PV) (f:Fr),e 0=.str s∧e 5=.int .i64 (s.length:Int)∧e 6=.int .i64 i1→zmP SP (E SP (.loop b_Q152_1) ⟨e,f::S⟩)=.ok (.v (.bool r)) S
theorem zg0 (s:List UInt8) (i1:Int) (r:Bool) (T :
  ((i1 < (s.length:Int)) →
  (0≤i1) ∧
  ∃ (b2:UInt8),(s[i1.toNat]?=some b2) ∧
  (((b2.toNat:Int) < 32) →
   (((b2.toNat:Int)=10) →
    (I64 (i1+1)) ∧
    zeF s (i1+1) r) ∧
   (¬ ((b2.toNat:Int)=10) →
    false=r)) ∧
  (¬ ((b2.toNat:Int) < 32) →
   (I64 (i1+1)) ∧
   zeF s (i1+1) r)) ∧
 (¬ (i1 < (s.length:Int)) →
  true=r)):zeF s i1 r:=by
 intro S e f h
 unfold zmP
 rw[zm]
 have F:=zrF
 exact rn (aa h<|F) T
theorem zsR (s:List UInt8) (r:Bool) (T :
  zeF s 0 r):zky s r:=by
 intro S
 rw[zd zwO _ _ rfl]
 have F:=zrF
 exact rn F T
theorem zwd:SP 116=some (.code sc_Q116):=ze rfl Tryz.func116 comp_Q116
def zdS (l_:List Part) (i1:Int) (r:Bool):Prop:=∀ (S:Sto) (e:Nat→PV) (f:Fr),e 0=.list 2 (l_.map ePart) false∧e 5=.list 2 (l_.map ePart) false∧e 6=.int .i64 (l_.length:Int)∧e 7=.int .i64 i1→znN SP (E SP (.loop b_Q116_1) ⟨e,f::S⟩)=.ok (.v (.bool r)) S
theorem zgQ (l_:List Part) (i1:Int) (r:Bool) (T :
  ((i1 < (l_.length:Int)) →
  (0≤i1) ∧
  ∃ (v2:Part),(l_[i1.toNat]?=some v2) ∧
  ((v2.Ref=true) →
   ∃ (r3:Bool),(zkK v2.Text r3) ∧
   ((r3=true) →
    (I64 (i1+1)) ∧
    zdS l_ (i1+1) r) ∧
   (¬ (r3=true) →
    false=r)) ∧
  (¬ (v2.Ref=true) →
   ((v2.Text=[]) →
    false=r) ∧
   (¬ (v2.Text=[]) →
    ((0 < i1) →
     (I64 (i1 - 1)) ∧
     (0≤(i1 - 1)) ∧
     ∃ (v4:Part),(l_[(i1 - 1).toNat]?=some v4) ∧
     ((v4.Ref=true) →
      ∃ (r5:Bool),(zky v2.Text r5) ∧
      ((r5=true) →
       (I64 (i1+1)) ∧
       zdS l_ (i1+1) r) ∧
      (¬ (r5=true) →
       false=r)) ∧
     (¬ (v4.Ref=true) →
      false=r)) ∧
    (¬ (0 < i1) →
     ∃ (r6:Bool),(zky v2.Text r6) ∧
     ((r6=true) →
      (I64 (i1+1)) ∧
      zdS l_ (i1+1) r) ∧
     (¬ (r6=true) →
      false=r))))) ∧
 (¬ (i1 < (l_.length:Int)) →
  true=r)):zdS l_ i1 r:=by
 intro S e f h
 unfold znN
 rw[zm]
 have F:=zs8
 exact rn (aa h<|F) T
theorem ztc (l_:List Part) (r:Bool) (T :
  zdS l_ 0 r):znp l_ r:=by
 intro S
 rw[zd zwd _ _ rfl]
 have F:=zs8
 exact rn F T
theorem zzm:SP 74=some (.code sc_Q74):=ze rfl Tryz.func74 comp_Q74
theorem zto (n:Node) (r:Bool) (T :
  ((n.Kind=1) →
  ((0≤n.Num) →
   ((n.Text=[]) →
    (decide ((n.Parts.length:Int)=0))=r) ∧
   (¬ (n.Text=[]) →
    false=r)) ∧
  (¬ (0≤n.Num) →
   false=r)) ∧
 (¬ (n.Kind=1) →
  ((n.Kind=3) →
   ((n.Num=0) →
    ((n.Text=[]) →
     (decide ((n.Parts.length:Int)=0))=r) ∧
    (¬ (n.Text=[]) →
     false=r)) ∧
   (¬ (n.Num=0) →
    ((n.Num=1) →
     ((n.Text=[]) →
      (decide ((n.Parts.length:Int)=0))=r) ∧
     (¬ (n.Text=[]) →
      false=r)) ∧
    (¬ (n.Num=1) →
     false=r))) ∧
  (¬ (n.Kind=3) →
   ((n.Kind=4) →
    ∃ (r1:List UInt8) (r2:List UInt8) (r3:Bool),(zbx n.Text [46] r1 r2 r3) ∧
    ∃ (r4:Bool),(zkK n.Text r4) ∧
    ((r4=true) →
     ∃ (r5:Bool),(zkz r1 r5) ∧
     ((n.Num=0) →
      ((r5=true) →
       false=r) ∧
      (¬ (r5=true) →
       (decide ((n.Parts.length:Int)=0))=r)) ∧
     (¬ (n.Num=0) →
      false=r)) ∧
    (¬ (r4=true) →
     ((n.Num=0) →
      false=r) ∧
     (¬ (n.Num=0) →
      false=r))) ∧
   (¬ (n.Kind=4) →
    ((n.Kind=5) →
     ∃ (r6:Bool),(zcz n.Text r6) ∧
     ((r6=true) →
      ∃ (r7:Bool),(zkz n.Text r7) ∧
      ((n.Num=0) →
       ((r7=true) →
        false=r) ∧
       (¬ (r7=true) →
        (decide ((n.Parts.length:Int)=0))=r)) ∧
      (¬ (n.Num=0) →
       false=r)) ∧
     (¬ (r6=true) →
      ((n.Num=0) →
       false=r) ∧
      (¬ (n.Num=0) →
       false=r))) ∧
    (¬ (n.Kind=5) →
     ((n.Kind=2) →
      ∃ (r8:Bool),(znp n.Parts r8) ∧
      ((n.Num=0) →
       ((n.Text=[]) →
        r8=r) ∧
       (¬ (n.Text=[]) →
        false=r)) ∧
      (¬ (n.Num=0) →
       false=r)) ∧
     (¬ (n.Kind=2) →
      ((n.Num=0) →
       ((n.Text=[]) →
        (decide ((n.Parts.length:Int)=0))=r) ∧
       (¬ (n.Text=[]) →
        false=r)) ∧
      (¬ (n.Num=0) →
       false=r))))))):zvw n r:=by
 intro S
 rw[zd zzm _ _ rfl]
 have F:=zAN
 exact rn F T
theorem zzv:SP 26=some (.code sc_Q26):=ze rfl Tryz.func26 comp_Q26
theorem ztZ (l_:List Node) (r:Bool) (T :
  ((0 < (l_.length:Int)) →
  (I64 ((l_.length:Int) - 1)) ∧
  ∃ (r1:Int),(zvq l_ ((l_.length:Int) - 1) r1) ∧
  (decide (r1=0))=r) ∧
 (¬ (0 < (l_.length:Int)) →
  false=r)):zeA l_ r:=by
 intro S
 rw[zd zzv _ _ rfl]
 have F:=zAK
 exact rn F T
end Go.Proofs.YtfbcnpbhhooapaaGreatDoor.M
namespace Go.Proofs.YtfbcnpbhhooapaaGreatDoor.M
open Go
def c_Q137_1:SC:=.seq (.reg [vO 2 (.mov (cI 0))]) .ret
def c_Q137_2:SC:=.cond (.t 10) (.seq (.reg [vO 2 (.mov (cI 2))]) .ret) (.seq (.reg [mO 22 0,vO 23 (.bin .leq (.c (.int .u8 48)) (.t 22)),mO 24 23,gO 25 24 true (.mov (.t 0)),gO 26 24 true (.bin .leq (.t 25) (.c (.int .u8 57))),vO 27 (.pick (.t 24) (.t 26) (.c (.bool false))),mO 21 27]) (.cond (.t 21) (.seq (.reg [vO 2 (.mov (cI 3))]) .ret) (.seq (.reg [mO 29 0,vO 30 (.bin .eql (.t 29) (.c (.int .u8 34))),mO 28 30]) (.cond (.t 28) (.seq (.reg [vO 2 (.mov (cI 4))]) .ret) (.seq (.reg [mO 32 0,vO 33 (.bin .eql (.t 32) (.c (.int .u8 35))),mO 31 33]) (.cond (.t 31) (.seq (.reg [vO 2 (.mov (cI 5))]) .ret) .skip))))))
def c_Q137_3:SC:=.cond (.t 3) (.seq (.reg [vO 2 (.mov (cI 1))]) .ret) (.seq (.reg [mO 11 0,vO 12 (.bin .eql (.t 11) (.c (.int .u8 95))),mO 13 12,gO 14 13 false (.mov (.t 0)),gO 15 13 false (.bin .leq (.c (.int .u8 97)) (.t 14)),gO 16 13 false (.mov (.t 15)),gO 17 16 true (.mov (.t 0)),gO 18 16 true (.bin .leq (.t 17) (.c (.int .u8 122))),gO 19 13 false (.pick (.t 16) (.t 18) (.c (.bool false))),vO 20 (.pick (.t 13) (.c (.bool true)) (.t 19)),mO 10 20]) c_Q137_2)
def c_Q137_4:SC:=.seq (.block 0 (.seq (.reg [mO 4 0,vO 5 (.bin .eql (.t 4) (.c (.int .u8 32))),mO 6 5,gO 7 6 false (.mov (.t 0)),gO 8 6 false (.bin .eql (.t 7) (.c (.int .u8 10))),vO 9 (.pick (.t 6) (.c (.bool true)) (.t 8)),mO 3 9]) c_Q137_3)) c_Q137_1
def sc_Q137:zh:=⟨1,34,.seq (.reg [vO 2 (.mov (cI 0))]) c_Q137_4,[(.t 2)]⟩
theorem zx7:type_of% (aI (ue c_Q137_1.eq_1)<|aI (ue c_Q137_2.eq_1)<|aI (ue c_Q137_3.eq_1)<|aI (ue c_Q137_4.eq_1)<|sc_Q137.eq_1):=aI (ue c_Q137_1.eq_1)<|aI (ue c_Q137_2.eq_1)<|aI (ue c_Q137_3.eq_1)<|aI (ue c_Q137_4.eq_1)<|sc_Q137.eq_1
theorem comp_Q137:comp Tryz.prog Tryz.f137=some sc_Q137:=by kernel_rfl
def c_Q151_1:SC:=.seq (.reg [mO 20 0,vO 21 (.len true (.t 20)),mO 4 21]) .ret
def b_Q151_1:SC:=.seq (.reg [bO 9 .lss 8 7]) (.seq (.cond (.t 9) .skip (.exit 0)) (.seq (.block 1 (.seq (.reg [mO 10 8,mO 5 10]) (.seq (.reg [mO 11 1,mO 12 0,mO 13 5,vO 14 (.istr (.t 12) (.t 13)),kO 15 137 [(.t 14)],kO 16 170 [(.t 11),(.t 15)],uO 17 16]) (.cond (.t 17) (.seq (.reg [mO 18 5,mO 4 18]) .ret) .skip)))) (.reg [bC 19 .add 8 1,mO 8 19])))
def sc_Q151:zh:=⟨2,22,.seq (.reg [vO 4 (.mov (cI 0))]) (.seq (.seq (.reg [mO 6 0,vO 7 (.len true (.t 6)),vO 8 (.mov (cI 0))]) (.block 0 (.loop b_Q151_1))) c_Q151_1),[(.t 4)]⟩
noncomputable def zmQ (SP:Prg) (x:EO):CO:=fin [(.t 4)] (thC SP (zx 0 (x)) c_Q151_1)
theorem zrx:type_of% (aI (ue c_Q151_1.eq_1)<|aI (ue b_Q151_1.eq_1)<|sc_Q151.eq_1):=aI (ue c_Q151_1.eq_1)<|aI (ue b_Q151_1.eq_1)<|sc_Q151.eq_1
theorem comp_Q151:comp Tryz.prog Tryz.f151=some sc_Q151:=by kernel_rfl
def sc_Q135:zh:=⟨2,31,.seq (.reg [vO 4 (.mov (.c (.str [])))]) (.seq (.reg [mO 6 0,nO 7 6,fO 8 0 7,lO 9 8,mO 10 1,vO 11 (.sls (.t 9) none (some (.t 10))),mO 5 11]) (.seq (.dreg [mO 12 0,mO 13 0,mO 14 0,nO 15 14,fO 16 0 15,lO 17 16,mO 18 1,vO 19 (.sls (.t 17) (some (.t 18)) none),mO 20 0,nO 21 20,fO 22 1 21,lO 23 22,mO 24 1,bO 25 .add 23 24,nO 26 12,fO 27 0 26,sO 1 27 19,nO 28 13,fO 29 1 28,sO 1 29 25] [false,false,false,false,false,false,false,false,false,false,false,false,false,false,true,true,true,true,true,true]) (.seq (.reg [mO 30 5,mO 4 30]) .ret))),[(.t 4)]⟩
theorem zx4:type_of% (sc_Q135.eq_1):=sc_Q135.eq_1
theorem comp_Q135:comp Tryz.prog Tryz.f135=some sc_Q135:=by kernel_rfl
def sc_Q134:zh:=⟨2,13,.seq (.reg [vO 4 (.mov (.c (.str [])))]) (.seq (.reg [mO 5 0,mO 6 0,nO 7 6,fO 8 0 7,lO 9 8,mO 10 1,kO 11 151 [(.t 9),(.t 10)],kO 12 135 [(.t 5),(.t 11)],mO 4 12]) .ret),[(.t 4)]⟩
theorem zx5:type_of% (sc_Q134.eq_1):=sc_Q134.eq_1
theorem comp_Q134:comp Tryz.prog Tryz.f134=some sc_Q134:=by kernel_rfl
def c_Q165_1:SC:=.dreg [mO 31 0,nO 32 31,lO 33 32,mO 34 4,bC 35 .sub 34 1,vO 36 (.iaddr 2 (.t 33) (.t 35)),fO 37 1 36,lO 38 37,mO 39 1,⟨some 40,none,.bslice 1 1 [(.int .u8 0)] [(0,(.t 39))]⟩,vO 41 (.conv .bytes (.t 40)),bO 42 .add 38 41,vO 43 (.iaddr 2 (.t 33) (.t 35)),fO 44 1 43,sO 1 44 42] [false,false,false,false,false,false,false,false,false,false,false,true,true,true,true]
def c_Q165_2:SC:=.seq (.seq (.reg [mO 9 4,bC 10 .eql 9 0,mO 11 10,gO 12 11 false (.mov (.t 0)),gO 13 11 false (.nchk (.t 12)),gO 14 11 false (.load none (.t 13)),gO 15 11 false (.mov (.t 4)),gO 16 11 false (.bin .sub (.t 15) (cI 1)),gO 17 11 false (.iaddr 2 (.t 14) (.t 16)),gO 18 11 false (.faddr 0 (.t 17)),gO 19 11 false (.load none (.t 18)),vO 20 (.pick (.t 11) (.c (.bool true)) (.t 19))]) (.cond (.t 20) (.seq (.reg [mO 21 0,mO 22 0,nO 23 22,lO 24 23,vO 25 (.build [(.bool false),(.str [])] []),⟨some 26,none,.bslice 2 1 [(.bool false),(.str [])] [(0,(.t 25))]⟩,⟨some 27,none,.append 2 24 (.t 24) (.t 26)⟩,nO 28 21,sO 1 28 27]) (.reg [mO 29 4,bC 30 .add 29 1,mO 4 30])) .skip)) c_Q165_1
def sc_Q165:zh:=⟨2,45,.seq (.reg [mO 5 0,nO 6 5,lO 7 6,vO 8 (.len false (.t 7)),mO 4 8]) c_Q165_2,[]⟩
theorem zxN:type_of% (aI (ue c_Q165_1.eq_1)<|aI (ue c_Q165_2.eq_1)<|sc_Q165.eq_1):=aI (ue c_Q165_1.eq_1)<|aI (ue c_Q165_2.eq_1)<|sc_Q165.eq_1
theorem comp_Q165:comp Tryz.prog Tryz.f165=some sc_Q165:=by kernel_rfl
def sc_Q164:zh:=⟨1,15,.seq (.reg [vO 2 (.mov (.c (.int .u8 0))),vO 3 (.mov (.c (.bool false)))]) (.seq (.seq (.reg [mO 5 0,vO 6 (.len true (.t 5)),bC 7 .lss 6 2]) (.cond (.t 7) (.seq (.reg [vO 2 (.mov (.c (.int .u8 0))),vO 3 (.mov (.c (.bool false)))]) .ret) .skip)) (.seq (.reg [mO 8 0,vO 9 (.istr (.t 8) (cI 1)),kO 10 179 [(.c (.str [34,92,36,110])),(.t 9)],mO 4 10]) (.seq (.seq (.reg [mO 11 4,bC 12 .lss 11 0]) (.cond (.t 12) (.seq (.reg [vO 2 (.mov (.c (.int .u8 0))),vO 3 (.mov (.c (.bool false)))]) .ret) .skip)) (.seq (.reg [mO 13 4,vO 14 (.istr (.c (.str [34,92,36,10])) (.t 13)),mO 2 14,vO 3 (.mov (.c (.bool true)))]) .ret)))),[(.t 2),(.t 3)]⟩
theorem zyk:type_of% (sc_Q164.eq_1):=sc_Q164.eq_1
theorem comp_Q164:comp Tryz.prog Tryz.f164=some sc_Q164:=by kernel_rfl
def c_Q166_1:SC:=.seq (.reg [mO 18 4,kO 19 112 [(.t 18),(.c (.str [46]))],mO 17 19,vO 20 (.extract 0 (.t 17)),vO 21 (.extract 1 (.t 17)),vO 22 (.extract 2 (.t 17)),mO 7 20,mO 8 21,mO 9 22]) (.seq (.reg [mO 23 4,mO 24 6,mO 25 24,gO 26 25 true (.mov (.t 9)),vO 27 (.pick (.t 25) (.t 26) (.c (.bool false))),mO 28 27,gO 29 28 true (.mov (.t 7)),⟨some 30,some (28,true),.call (.c (.func 115 [])) [(.t 29)]⟩,vO 31 (.pick (.t 28) (.t 30) (.c (.bool false))),mO 32 31,gO 33 32 true (.mov (.t 8)),⟨some 34,some (32,true),.call (.c (.func 115 [])) [(.t 33)]⟩,vO 35 (.pick (.t 32) (.t 34) (.c (.bool false))),mO 2 23,mO 3 35]) .ret)
def c_Q166_2:SC:=.seq (.reg [mO 11 0,vO 12 (.sls (.t 11) (some (cI 2)) none),kO 13 112 [(.t 12),(.c (.str [125]))],mO 10 13,vO 14 (.extract 0 (.t 10)),vO 15 (.extract 1 (.t 10)),vO 16 (.extract 2 (.t 10)),mO 4 14,mO 5 15,mO 6 16]) c_Q166_1
def sc_Q166:zh:=⟨1,36,.seq (.reg [vO 2 (.mov (.c (.str []))),vO 3 (.mov (.c (.bool false)))]) c_Q166_2,[(.t 2),(.t 3)]⟩
theorem zzb:type_of% (aI (ue c_Q166_1.eq_1)<|aI (ue c_Q166_2.eq_1)<|sc_Q166.eq_1):=aI (ue c_Q166_1.eq_1)<|aI (ue c_Q166_2.eq_1)<|sc_Q166.eq_1
theorem comp_Q166:comp Tryz.prog Tryz.f166=some sc_Q166:=by kernel_rfl
def sc_Q115:zh:=⟨1,24,.seq (.reg [vO 2 (.mov (.c (.bool false)))]) (.seq (.reg [mO 3 0,vO 4 (.bin .neq (.t 3) (.c (.str []))),mO 5 4,gO 6 5 true (.mov (.t 0)),gO 7 5 true (.len true (.t 6)),gO 8 5 true (.bin .leq (.t 7) (cI 24)),vO 9 (.pick (.t 5) (.t 8) (.c (.bool false))),mO 10 9,gO 11 10 true (.mov (.t 0)),gO 12 10 true (.istr (.t 11) (cI 0)),⟨some 13,some (10,true),.call (.c (.func 137 [])) [(.t 12)]⟩,gO 14 10 true (.bin .eql (.t 13) (cI 2)),vO 15 (.pick (.t 10) (.t 14) (.c (.bool false))),mO 16 15,gO 17 16 true (.mov (.t 0)),⟨some 18,some (16,true),.bslice 1 2 [(.int .i64 0)] [(0,(cI 2)),(1,(cI 3))]⟩,⟨some 19,some (16,true),.call (.c (.func 151 [])) [(.t 17),(.t 18)]⟩,gO 20 16 true (.mov (.t 0)),gO 21 16 true (.len true (.t 20)),gO 22 16 true (.bin .eql (.t 19) (.t 21)),vO 23 (.pick (.t 16) (.t 22) (.c (.bool false))),mO 2 23]) .ret),[(.t 2)]⟩
theorem zyu:type_of% (sc_Q115.eq_1):=sc_Q115.eq_1
theorem comp_Q115:comp Tryz.prog Tryz.f115=some sc_Q115:=by kernel_rfl
def sc_Q119:zh:=⟨1,9,.seq (.reg [vO 2 (.mov (.c (.bool false)))]) (.seq (.reg [mO 3 0,vO 4 (.bin .geq (.t 3) (.c (.int .u8 48))),mO 5 4,gO 6 5 true (.mov (.t 0)),gO 7 5 true (.bin .leq (.t 6) (.c (.int .u8 57))),vO 8 (.pick (.t 5) (.t 7) (.c (.bool false))),mO 2 8]) .ret),[(.t 2)]⟩
theorem zyW:type_of% (sc_Q119.eq_1):=sc_Q119.eq_1
theorem comp_Q119:comp Tryz.prog Tryz.f119=some sc_Q119:=by kernel_rfl
def sc_Q118:zh:=⟨1,13,.seq (.reg [vO 2 (.mov (.c (.bool false)))]) (.seq (.reg [mO 3 0,vO 4 (.bin .geq (.t 3) (.c (.int .u8 97))),mO 5 4,gO 6 5 true (.mov (.t 0)),gO 7 5 true (.bin .leq (.t 6) (.c (.int .u8 122))),vO 8 (.pick (.t 5) (.t 7) (.c (.bool false))),mO 9 8,gO 10 9 false (.mov (.t 0)),gO 11 9 false (.bin .eql (.t 10) (.c (.int .u8 95))),vO 12 (.pick (.t 9) (.c (.bool true)) (.t 11)),mO 2 12]) .ret),[(.t 2)]⟩
theorem zzi:type_of% (sc_Q118.eq_1):=sc_Q118.eq_1
theorem comp_Q118:comp Tryz.prog Tryz.f118=some sc_Q118:=by kernel_rfl
def c_Q77_1:SC:=.seq (.reg [mO 37 5,mO 4 37]) .ret
def b_Q77_1:SC:=.seq (.seq (.reg [mO 19 5,mO 20 0,vO 21 (.len true (.t 20)),bO 22 .lss 19 21,mO 23 22,gO 24 23 true (.mov (.t 0)),gO 25 23 true (.mov (.t 5)),gO 26 23 true (.istr (.t 24) (.t 25)),⟨some 27,some (23,true),.call (.c (.func 118 [])) [(.t 26)]⟩,gO 28 23 true (.mov (.t 27)),gO 29 28 false (.mov (.t 0)),gO 30 28 false (.mov (.t 5)),gO 31 28 false (.istr (.t 29) (.t 30)),⟨some 32,some (28,false),.call (.c (.func 119 [])) [(.t 31)]⟩,gO 33 23 true (.pick (.t 28) (.c (.bool true)) (.t 32)),vO 34 (.pick (.t 23) (.t 33) (.c (.bool false)))]) (.cond (.t 34) .skip (.exit 0))) (.block 1 (.reg [mO 35 5,bC 36 .add 35 1,mO 5 36]))
def c_Q77_2:SC:=.seq (.reg [mO 18 1,mO 5 18]) (.seq (.block 0 (.loop b_Q77_1)) c_Q77_1)
def c_Q77_3:SC:=.seq (.seq (.reg [mO 6 1,mO 7 0,vO 8 (.len true (.t 7)),bO 9 .geq 6 8,mO 10 9,gO 11 10 false (.mov (.t 0)),gO 12 10 false (.mov (.t 1)),gO 13 10 false (.istr (.t 11) (.t 12)),⟨some 14,some (10,false),.call (.c (.func 118 [])) [(.t 13)]⟩,gO 15 10 false (.un .not (.t 14)),vO 16 (.pick (.t 10) (.c (.bool true)) (.t 15))]) (.cond (.t 16) (.seq (.reg [mO 17 1,mO 4 17]) .ret) .skip)) c_Q77_2
def sc_Q77:zh:=⟨2,38,.seq (.reg [vO 4 (.mov (cI 0))]) c_Q77_3,[(.t 4)]⟩
noncomputable def zpo (SP:Prg) (x:EO):CO:=fin [(.t 4)] (thC SP (zx 0 (x)) c_Q77_1)
theorem zvl:type_of% (aI (ue c_Q77_1.eq_1)<|aI (ue b_Q77_1.eq_1)<|aI (ue c_Q77_2.eq_1)<|aI (ue c_Q77_3.eq_1)<|sc_Q77.eq_1):=aI (ue c_Q77_1.eq_1)<|aI (ue b_Q77_1.eq_1)<|aI (ue c_Q77_2.eq_1)<|aI (ue c_Q77_3.eq_1)<|sc_Q77.eq_1
theorem comp_Q77:comp Tryz.prog Tryz.f77=some sc_Q77:=by kernel_rfl
def sc_Q79:zh:=⟨1,17,.seq (.reg [vO 2 (.mov (.c (.bool false)))]) (.seq (.reg [mO 3 0,vO 4 (.bin .neq (.t 3) (.c (.str []))),mO 5 4,gO 6 5 true (.mov (.t 0)),gO 7 5 true (.len true (.t 6)),gO 8 5 true (.bin .leq (.t 7) (cI 24)),vO 9 (.pick (.t 5) (.t 8) (.c (.bool false))),mO 10 9,gO 11 10 true (.mov (.t 0)),⟨some 12,some (10,true),.call (.c (.func 77 [])) [(.t 11),(cI 0)]⟩,gO 13 10 true (.mov (.t 0)),gO 14 10 true (.len true (.t 13)),gO 15 10 true (.bin .eql (.t 12) (.t 14)),vO 16 (.pick (.t 10) (.t 15) (.c (.bool false))),mO 2 16]) .ret),[(.t 2)]⟩
theorem zzR:type_of% (sc_Q79.eq_1):=sc_Q79.eq_1
theorem comp_Q79:comp Tryz.prog Tryz.f79=some sc_Q79:=by kernel_rfl
def c_Q78_1:SC:=.seq (.reg [mO 6 3,bC 7 .gtr 6 0,mO 8 7,gO 9 8 true (.mov (.t 3)),gO 10 8 true (.mov (.t 0)),gO 11 8 true (.len true (.t 10)),gO 12 8 true (.bin .lss (.t 9) (.t 11)),vO 13 (.pick (.t 8) (.t 12) (.c (.bool false))),mO 14 13,gO 15 14 true (.mov (.t 0)),gO 16 14 true (.mov (.t 3)),gO 17 14 true (.istr (.t 15) (.t 16)),gO 18 14 true (.bin .eql (.t 17) (.c (.int .u8 46))),vO 19 (.pick (.t 14) (.t 18) (.c (.bool false))),mO 20 19,gO 21 20 true (.mov (.t 0)),gO 22 20 true (.mov (.t 3)),gO 23 20 true (.sls (.t 21) none (some (.t 22))),⟨some 24,some (20,true),.call (.c (.func 79 [])) [(.t 23)]⟩,vO 25 (.pick (.t 20) (.t 24) (.c (.bool false))),mO 26 25,gO 27 26 true (.mov (.t 0)),gO 28 26 true (.mov (.t 3)),gO 29 26 true (.bin .add (.t 28) (cI 1)),gO 30 26 true (.sls (.t 27) (some (.t 29)) none),⟨some 31,some (26,true),.call (.c (.func 79 [])) [(.t 30)]⟩,vO 32 (.pick (.t 26) (.t 31) (.c (.bool false))),mO 2 32]) .ret
def c_Q78_2:SC:=.seq (.reg [mO 4 0,kO 5 77 [(.t 4),(cI 0)],mO 3 5]) c_Q78_1
def sc_Q78:zh:=⟨1,33,.seq (.reg [vO 2 (.mov (.c (.bool false)))]) c_Q78_2,[(.t 2)]⟩
theorem zAB:type_of% (aI (ue c_Q78_1.eq_1)<|aI (ue c_Q78_2.eq_1)<|sc_Q78.eq_1):=aI (ue c_Q78_1.eq_1)<|aI (ue c_Q78_2.eq_1)<|sc_Q78.eq_1
theorem comp_Q78:comp Tryz.prog Tryz.f78=some sc_Q78:=by kernel_rfl
def c_Q125_1:SC:=.seq (.reg [vO 4 (.mov (.c (.str [])))]) .ret
def c_Q125_2:SC:=.cond (.t 30) (.seq (.reg [mO 50 0,mO 51 1,mO 52 1,bC 53 .add 52 1,vO 54 (.sls (.t 50) (some (.t 51)) (some (.t 53))),mO 4 54]) .ret) .skip
def c_Q125_3:SC:=.cond (.t 30) .skip (.seq (.reg [vO 40 (.bin .eql (.t 29) (.c (.int .u8 43))),mO 30 40]) (.cond (.t 30) .skip (.seq (.reg [vO 41 (.bin .eql (.t 29) (.c (.int .u8 45))),mO 30 41]) (.cond (.t 30) .skip (.seq (.reg [vO 42 (.bin .eql (.t 29) (.c (.int .u8 42))),mO 30 42]) (.cond (.t 30) .skip (.seq (.reg [vO 43 (.bin .eql (.t 29) (.c (.int .u8 47))),mO 30 43]) (.cond (.t 30) .skip (.seq (.reg [vO 44 (.bin .eql (.t 29) (.c (.int .u8 37))),mO 30 44]) (.cond (.t 30) .skip (.seq (.reg [vO 45 (.bin .eql (.t 29) (.c (.int .u8 60))),mO 30 45]) (.cond (.t 30) .skip (.seq (.reg [vO 46 (.bin .eql (.t 29) (.c (.int .u8 62))),mO 30 46]) (.cond (.t 30) .skip (.seq (.reg [vO 47 (.bin .eql (.t 29) (.c (.int .u8 33))),mO 30 47]) (.cond (.t 30) .skip (.seq (.reg [vO 48 (.bin .eql (.t 29) (.c (.int .u8 63))),mO 30 48]) (.cond (.t 30) .skip (.reg [vO 49 (.bin .eql (.t 29) (.c (.int .u8 58))),mO 30 49])))))))))))))))))))
def c_Q125_4:SC:=.cond (.t 30) .skip (.seq (.reg [vO 39 (.bin .eql (.t 29) (.c (.int .u8 46))),mO 30 39]) c_Q125_3)
def c_Q125_5:SC:=.cond (.t 30) .skip (.seq (.reg [vO 38 (.bin .eql (.t 29) (.c (.int .u8 44))),mO 30 38]) c_Q125_4)
def c_Q125_6:SC:=.cond (.t 30) .skip (.seq (.reg [vO 37 (.bin .eql (.t 29) (.c (.int .u8 61))),mO 30 37]) c_Q125_5)
def c_Q125_7:SC:=.cond (.t 30) .skip (.seq (.reg [vO 36 (.bin .eql (.t 29) (.c (.int .u8 41))),mO 30 36]) c_Q125_6)
def c_Q125_8:SC:=.cond (.t 30) .skip (.seq (.reg [vO 35 (.bin .eql (.t 29) (.c (.int .u8 40))),mO 30 35]) c_Q125_7)
def c_Q125_9:SC:=.cond (.t 30) .skip (.seq (.reg [vO 34 (.bin .eql (.t 29) (.c (.int .u8 93))),mO 30 34]) c_Q125_8)
def c_Q125_10:SC:=.cond (.t 30) .skip (.seq (.reg [vO 33 (.bin .eql (.t 29) (.c (.int .u8 91))),mO 30 33]) c_Q125_9)
def c_Q125_11:SC:=.cond (.t 30) .skip (.seq (.reg [vO 32 (.bin .eql (.t 29) (.c (.int .u8 125))),mO 30 32]) c_Q125_10)
def c_Q125_12:SC:=.block 1 (.seq (.seq (.reg [vO 31 (.bin .eql (.t 29) (.c (.int .u8 123))),mO 30 31]) c_Q125_11) c_Q125_2)
def c_Q125_13:SC:=.seq (.seq (.reg [mO 27 0,mO 28 1,vO 29 (.istr (.t 27) (.t 28))]) c_Q125_12) c_Q125_1
def c_Q125_14:SC:=.cond (.t 9) (.seq (.reg [mO 10 0,mO 11 1,mO 12 1,bC 13 .add 12 2,vO 14 (.sls (.t 10) (some (.t 11)) (some (.t 13)))]) (.block 0 (.seq (.seq (.reg [vO 16 (.bin .eql (.t 14) (.c (.str [61,61]))),mO 15 16]) (.cond (.t 15) .skip (.seq (.reg [vO 17 (.bin .eql (.t 14) (.c (.str [33,61]))),mO 15 17]) (.cond (.t 15) .skip (.seq (.reg [vO 18 (.bin .eql (.t 14) (.c (.str [60,61]))),mO 15 18]) (.cond (.t 15) .skip (.seq (.reg [vO 19 (.bin .eql (.t 14) (.c (.str [62,61]))),mO 15 19]) (.cond (.t 15) .skip (.seq (.reg [vO 20 (.bin .eql (.t 14) (.c (.str [38,38]))),mO 15 20]) (.cond (.t 15) .skip (.reg [vO 21 (.bin .eql (.t 14) (.c (.str [124,124]))),mO 15 21]))))))))))) (.cond (.t 15) (.seq (.reg [mO 22 0,mO 23 1,mO 24 1,bC 25 .add 24 2,vO 26 (.sls (.t 22) (some (.t 23)) (some (.t 25))),mO 4 26]) .ret) .skip)))) .skip
def c_Q125_15:SC:=.seq (.seq (.reg [mO 5 1,bC 6 .add 5 1,mO 7 0,vO 8 (.len true (.t 7)),bO 9 .lss 6 8]) c_Q125_14) c_Q125_13
def sc_Q125:zh:=⟨2,55,.seq (.reg [vO 4 (.mov (.c (.str [])))]) c_Q125_15,[(.t 4)]⟩
theorem zy1:type_of% (aI (ue c_Q125_1.eq_1)<|aI (ue c_Q125_2.eq_1)<|aI (ue c_Q125_3.eq_1)<|aI (ue c_Q125_4.eq_1)<|aI (ue c_Q125_5.eq_1)<|aI (ue c_Q125_6.eq_1)<|aI (ue c_Q125_7.eq_1)<|aI (ue c_Q125_8.eq_1)<|aI (ue c_Q125_9.eq_1)<|aI (ue c_Q125_10.eq_1)<|aI (ue c_Q125_11.eq_1)<|aI (ue c_Q125_12.eq_1)<|aI (ue c_Q125_13.eq_1)<|aI (ue c_Q125_14.eq_1)<|aI (ue c_Q125_15.eq_1)<|sc_Q125.eq_1):=aI (ue c_Q125_1.eq_1)<|aI (ue c_Q125_2.eq_1)<|aI (ue c_Q125_3.eq_1)<|aI (ue c_Q125_4.eq_1)<|aI (ue c_Q125_5.eq_1)<|aI (ue c_Q125_6.eq_1)<|aI (ue c_Q125_7.eq_1)<|aI (ue c_Q125_8.eq_1)<|aI (ue c_Q125_9.eq_1)<|aI (ue c_Q125_10.eq_1)<|aI (ue c_Q125_11.eq_1)<|aI (ue c_Q125_12.eq_1)<|aI (ue c_Q125_13.eq_1)<|aI (ue c_Q125_14.eq_1)<|aI (ue c_Q125_15.eq_1)<|sc_Q125.eq_1
theorem comp_Q125:comp Tryz.prog Tryz.f125=some sc_Q125:=by kernel_rfl
def c_Q123_1:SC:=.seq (.reg [mO 46 6,mO 47 1,vO 48 (.build [(.int .i64 0),(.str []),(.int .i64 0),(.nils 2),(.int .i64 0)] [(0,1,(cI 1)),(2,1,(.t 46)),(4,1,(.t 47))]),mO 49 7,mO 50 1,bO 51 .sub 49 50,sO 5 4 48,mO 5 51]) .ret
def c_Q123_2:SC:=.seq (.seq (.reg [mO 25 6,mO 26 8,vO 27 (.bin .sub (cI 9223372036854775807) (.t 26)),bC 28 .quo 27 10,bO 29 .gtr 25 28,mO 30 29,gO 31 30 false (.mov (.t 7)),gO 32 30 false (.mov (.t 1)),gO 33 30 false (.bin .gtr (.t 31) (.t 32)),gO 34 30 false (.mov (.t 33)),gO 35 34 true (.mov (.t 6)),gO 36 34 true (.bin .eql (.t 35) (cI 0)),gO 37 30 false (.pick (.t 34) (.t 36) (.c (.bool false))),vO 38 (.pick (.t 30) (.c (.bool true)) (.t 37))]) (.cond (.t 38) (.seq (.reg [vO 39 (.build [(.int .i64 0),(.str []),(.int .i64 0),(.nils 2),(.int .i64 0)] []),sO 5 4 39,vO 5 (.mov (cI 0))]) .ret) .skip)) (.seq (.reg [mO 40 6,vO 41 (.bin .mul (cI 10) (.t 40)),mO 42 8,bO 43 .add 41 42,mO 6 43]) (.reg [mO 44 7,bC 45 .add 44 1,mO 7 45]))
def c_Q123_3:SC:=.block 1 (.seq (.reg [mO 20 0,mO 21 7,vO 22 (.istr (.t 20) (.t 21)),vO 23 (.bin .sub (.t 22) (.c (.int .u8 48))),vO 24 (.conv (.int .i64) (.t 23)),mO 8 24]) c_Q123_2)
def b_Q123_1:SC:=.seq (.seq (.reg [mO 10 7,mO 11 0,vO 12 (.len true (.t 11)),bO 13 .lss 10 12,mO 14 13,gO 15 14 true (.mov (.t 0)),gO 16 14 true (.mov (.t 7)),gO 17 14 true (.istr (.t 15) (.t 16)),⟨some 18,some (14,true),.call (.c (.func 119 [])) [(.t 17)]⟩,vO 19 (.pick (.t 14) (.t 18) (.c (.bool false)))]) (.cond (.t 19) .skip (.exit 0))) c_Q123_3
def c_Q123_4:SC:=.seq (.block 0 (.loop b_Q123_1)) c_Q123_1
def c_Q123_5:SC:=.seq (.reg [mO 9 1,vO 6 (.mov (cI 0)),mO 7 9]) c_Q123_4
def sc_Q123:zh:=⟨2,52,.seq (.reg [⟨some 4,none,.alloc [(.int .i64 0),(.str []),(.int .i64 0),(.nils 2),(.int .i64 0)]⟩,vO 5 (.mov (cI 0))]) c_Q123_5,[(.cell 4 (some 5)),(.t 5)]⟩
noncomputable def zm7 (SP:Prg) (x:EO):CO:=fin [(.cell 4 (some 5)),(.t 5)] (thC SP (zx 0 (x)) c_Q123_1)
theorem zsa:type_of% (aI (ue c_Q123_1.eq_1)<|aI (ue c_Q123_2.eq_1)<|aI (ue c_Q123_3.eq_1)<|aI (ue b_Q123_1.eq_1)<|aI (ue c_Q123_4.eq_1)<|aI (ue c_Q123_5.eq_1)<|sc_Q123.eq_1):=aI (ue c_Q123_1.eq_1)<|aI (ue c_Q123_2.eq_1)<|aI (ue c_Q123_3.eq_1)<|aI (ue b_Q123_1.eq_1)<|aI (ue c_Q123_4.eq_1)<|aI (ue c_Q123_5.eq_1)<|sc_Q123.eq_1
theorem comp_Q123:comp Tryz.prog Tryz.f123=some sc_Q123:=by kernel_rfl
def c_Q154_1:SC:=.seq (.reg [mO 56 6,bC 57 .add 56 1,mO 58 1,bO 59 .sub 57 58,mO 4 59]) .ret
def c_Q154_2:SC:=.cond (.t 55) (.seq (.reg [vO 4 (.mov (cI 0))]) .ret) .skip
def c_Q154_3:SC:=.seq (.seq (.reg [mO 31 6,mO 32 5,bC 33 .add 32 1,bO 34 .eql 31 33,mO 35 34,gO 36 35 false (.mov (.t 6)),gO 37 35 false (.mov (.t 0)),gO 38 35 false (.len true (.t 37)),gO 39 35 false (.bin .geq (.t 36) (.t 38)),vO 40 (.pick (.t 35) (.c (.bool true)) (.t 39)),mO 41 40,gO 42 41 false (.mov (.t 0)),gO 43 41 false (.mov (.t 6)),gO 44 41 false (.istr (.t 42) (.t 43)),gO 45 41 false (.bin .neq (.t 44) (.c (.int .u8 125))),vO 46 (.pick (.t 41) (.c (.bool true)) (.t 45)),mO 47 46,gO 48 47 false (.mov (.t 0)),gO 49 47 false (.mov (.t 1)),gO 50 47 false (.bin .add (.t 49) (cI 2)),gO 51 47 false (.mov (.t 6)),gO 52 47 false (.sls (.t 48) (some (.t 50)) (some (.t 51))),⟨some 53,some (47,false),.call (.c (.func 78 [])) [(.t 52)]⟩,gO 54 47 false (.un .not (.t 53)),vO 55 (.pick (.t 47) (.c (.bool true)) (.t 54))]) c_Q154_2) c_Q154_1
def c_Q154_4:SC:=.seq (.reg [mO 27 0,mO 28 5,bC 29 .add 28 1,kO 30 77 [(.t 27),(.t 29)],mO 6 30]) c_Q154_3
def c_Q154_5:SC:=.seq (.seq (.reg [mO 11 5,mO 12 1,bC 13 .add 12 2,bO 14 .eql 11 13,mO 15 14,gO 16 15 false (.mov (.t 5)),gO 17 15 false (.mov (.t 0)),gO 18 15 false (.len true (.t 17)),gO 19 15 false (.bin .geq (.t 16) (.t 18)),vO 20 (.pick (.t 15) (.c (.bool true)) (.t 19)),mO 21 20,gO 22 21 false (.mov (.t 0)),gO 23 21 false (.mov (.t 5)),gO 24 21 false (.istr (.t 22) (.t 23)),gO 25 21 false (.bin .neq (.t 24) (.c (.int .u8 46))),vO 26 (.pick (.t 21) (.c (.bool true)) (.t 25))]) (.cond (.t 26) (.seq (.reg [vO 4 (.mov (cI 0))]) .ret) .skip)) c_Q154_4
def c_Q154_6:SC:=.seq (.reg [mO 7 0,mO 8 1,bC 9 .add 8 2,kO 10 77 [(.t 7),(.t 9)],mO 5 10]) c_Q154_5
def sc_Q154:zh:=⟨2,60,.seq (.reg [vO 4 (.mov (cI 0))]) c_Q154_6,[(.t 4)]⟩
theorem zyo:type_of% (aI (ue c_Q154_1.eq_1)<|aI (ue c_Q154_2.eq_1)<|aI (ue c_Q154_3.eq_1)<|aI (ue c_Q154_4.eq_1)<|aI (ue c_Q154_5.eq_1)<|aI (ue c_Q154_6.eq_1)<|sc_Q154.eq_1):=aI (ue c_Q154_1.eq_1)<|aI (ue c_Q154_2.eq_1)<|aI (ue c_Q154_3.eq_1)<|aI (ue c_Q154_4.eq_1)<|aI (ue c_Q154_5.eq_1)<|aI (ue c_Q154_6.eq_1)<|sc_Q154.eq_1
theorem comp_Q154:comp Tryz.prog Tryz.f154=some sc_Q154:=by kernel_rfl
def c_Q124_1:SC:=.seq (.reg [vO 126 (.build [(.int .i64 0),(.str []),(.int .i64 0),(.nils 2),(.int .i64 0)] []),sO 5 4 126,vO 5 (.mov (cI 0))]) .ret
def c_Q124_2:SC:=.reg [mO 17 8,bC 18 .add 17 1,mO 8 18]
def c_Q124_3:SC:=.seq (.reg [mO 59 0,mO 60 8,vO 61 (.istr (.t 59) (.t 60))]) (.block 3 (.seq (.seq (.reg [vO 64 (.bin .eql (.t 61) (.c (.int .u8 34))),mO 63 64]) (.cond (.t 63) .skip (.seq (.reg [vO 65 (.bin .eql (.t 61) (.c (.int .u8 92))),mO 63 65]) (.cond (.t 63) .skip (.reg [vO 66 (.bin .eql (.t 61) (.c (.int .u8 36))),mO 63 66]))))) (.cond (.t 63) (.reg [mO 67 7,mO 68 0,mO 69 8,vO 70 (.istr (.t 68) (.t 69)),⟨some 71,none,.bslice 1 1 [(.int .u8 0)] [(0,(.t 70))]⟩,⟨some 72,none,.append 1 1 (.t 67) (.t 71)⟩,mO 7 72]) (.seq (.reg [vO 74 (.bin .eql (.t 61) (.c (.int .u8 110))),mO 73 74]) (.cond (.t 73) (.reg [mO 75 7,⟨some 76,none,.bslice 1 1 [(.int .u8 0)] [(0,(.c (.int .u8 10)))]⟩,⟨some 77,none,.append 1 1 (.t 75) (.t 76)⟩,mO 7 77]) (.seq (.reg [vO 62 (.build [(.int .i64 0),(.str []),(.int .i64 0),(.nils 2),(.int .i64 0)] []),sO 5 4 62,vO 5 (.mov (cI 0))]) .ret))))))
def c_Q124_4:SC:=.seq (.seq (.reg [mO 54 8,mO 55 0,vO 56 (.len true (.t 55)),bO 57 .geq 54 56]) (.cond (.t 57) (.seq (.reg [vO 58 (.build [(.int .i64 0),(.str []),(.int .i64 0),(.nils 2),(.int .i64 0)] []),sO 5 4 58,vO 5 (.mov (cI 0))]) .ret) .skip)) c_Q124_3
def c_Q124_5:SC:=.seq (.reg [mO 110 6,mO 111 0,mO 112 8,bC 113 .add 112 2,mO 114 8,mO 115 10,bO 116 .add 114 115,bC 117 .sub 116 1,vO 118 (.sls (.t 111) (some (.t 113)) (some (.t 117))),vO 119 (.build [(.bool false),(.str [])] [(0,1,(.c (.bool true))),(1,1,(.t 118))]),⟨some 120,none,.bslice 2 1 [(.bool false),(.str [])] [(0,(.t 119))]⟩,⟨some 121,none,.append 2 24 (.t 110) (.t 120)⟩,mO 6 121]) (.reg [mO 122 8,mO 123 10,bO 124 .add 122 123,bC 125 .sub 124 1,mO 8 125])
def c_Q124_6:SC:=.seq (.seq (.reg [mO 101 7,vO 102 (.len false (.t 101)),bC 103 .gtr 102 0]) (.cond (.t 103) (.seq (.reg [mO 104 6,mO 105 7,vO 106 (.conv .bytes (.t 105)),vO 107 (.build [(.bool false),(.str [])] [(1,1,(.t 106))]),⟨some 108,none,.bslice 2 1 [(.bool false),(.str [])] [(0,(.t 107))]⟩,⟨some 109,none,.append 2 24 (.t 104) (.t 108)⟩,mO 6 109]) (.reg [⟨some 7,none,.nilv 1⟩])) .skip)) c_Q124_5
def c_Q124_7:SC:=.seq (.seq (.reg [mO 98 10,bC 99 .eql 98 0]) (.cond (.t 99) (.seq (.reg [vO 100 (.build [(.int .i64 0),(.str []),(.int .i64 0),(.nils 2),(.int .i64 0)] []),sO 5 4 100,vO 5 (.mov (cI 0))]) .ret) .skip)) c_Q124_6
def c_Q124_8:SC:=.cond (.t 78) (.seq (.reg [mO 95 0,mO 96 8,kO 97 154 [(.t 95),(.t 96)],mO 10 97]) c_Q124_7) (.reg [mO 22 7,mO 23 9,⟨some 24,none,.bslice 1 1 [(.int .u8 0)] [(0,(.t 23))]⟩,⟨some 25,none,.append 1 1 (.t 22) (.t 24)⟩,mO 7 25])
def c_Q124_9:SC:=.cond (.t 49) (.seq (.reg [mO 52 8,bC 53 .add 52 1,mO 8 53]) c_Q124_4) (.seq (.reg [mO 79 9,vO 80 (.bin .eql (.t 79) (.c (.int .u8 36))),mO 81 80,gO 82 81 true (.mov (.t 8)),gO 83 81 true (.bin .add (.t 82) (cI 1)),gO 84 81 true (.mov (.t 0)),gO 85 81 true (.len true (.t 84)),gO 86 81 true (.bin .lss (.t 83) (.t 85)),vO 87 (.pick (.t 81) (.t 86) (.c (.bool false))),mO 88 87,gO 89 88 true (.mov (.t 0)),gO 90 88 true (.mov (.t 8)),gO 91 88 true (.bin .add (.t 90) (cI 1)),gO 92 88 true (.istr (.t 89) (.t 91)),gO 93 88 true (.bin .eql (.t 92) (.c (.int .u8 123))),vO 94 (.pick (.t 88) (.t 93) (.c (.bool false))),mO 78 94]) c_Q124_8)
def c_Q124_10:SC:=.cond (.t 45) (.seq (.reg [vO 48 (.build [(.int .i64 0),(.str []),(.int .i64 0),(.nils 2),(.int .i64 0)] []),sO 5 4 48,vO 5 (.mov (cI 0))]) .ret) (.seq (.reg [mO 50 9,vO 51 (.bin .eql (.t 50) (.c (.int .u8 92))),mO 49 51]) c_Q124_9)
def c_Q124_11:SC:=.cond (.t 26) (.seq (.seq (.reg [mO 29 7,vO 30 (.len false (.t 29)),bC 31 .gtr 30 0]) (.cond (.t 31) (.reg [mO 32 6,mO 33 7,vO 34 (.conv .bytes (.t 33)),vO 35 (.build [(.bool false),(.str [])] [(1,1,(.t 34))]),⟨some 36,none,.bslice 2 1 [(.bool false),(.str [])] [(0,(.t 35))]⟩,⟨some 37,none,.append 2 24 (.t 32) (.t 36)⟩,mO 6 37]) .skip)) (.seq (.reg [mO 38 6,mO 39 1,vO 40 (.build [(.int .i64 0),(.str []),(.int .i64 0),(.nils 2),(.int .i64 0)] [(0,1,(cI 2)),(3,1,(.t 38)),(4,1,(.t 39))]),mO 41 8,bC 42 .add 41 1,mO 43 1,bO 44 .sub 42 43,sO 5 4 40,mO 5 44]) .ret)) (.seq (.reg [mO 46 9,vO 47 (.bin .lss (.t 46) (.c (.int .u8 32))),mO 45 47]) c_Q124_10)
def c_Q124_12:SC:=.block 2 (.seq (.reg [mO 27 9,vO 28 (.bin .eql (.t 27) (.c (.int .u8 34))),mO 26 28]) c_Q124_11)
def c_Q124_13:SC:=.seq (.block 1 (.seq (.reg [mO 19 0,mO 20 8,vO 21 (.istr (.t 19) (.t 20)),mO 9 21]) c_Q124_12)) c_Q124_2
def b_Q124_1:SC:=.seq (.seq (.reg [mO 13 8,mO 14 0,vO 15 (.len true (.t 14)),bO 16 .lss 13 15]) (.cond (.t 16) .skip (.exit 0))) c_Q124_13
def c_Q124_14:SC:=.block 0 (.loop b_Q124_1)
def c_Q124_15:SC:=.seq (.seq (.reg [mO 11 1,bC 12 .add 11 1,mO 8 12]) c_Q124_14) c_Q124_1
def c_Q124_16:SC:=.seq (.reg [⟨some 7,none,.nilv 1⟩]) c_Q124_15
def c_Q124_17:SC:=.seq (.reg [⟨some 6,none,.nilv 2⟩]) c_Q124_16
def sc_Q124:zh:=⟨2,127,.seq (.reg [⟨some 4,none,.alloc [(.int .i64 0),(.str []),(.int .i64 0),(.nils 2),(.int .i64 0)]⟩,vO 5 (.mov (cI 0))]) c_Q124_17,[(.cell 4 (some 5)),(.t 5)]⟩
noncomputable def znl (SP:Prg) (x:EO):CO:=fin [(.cell 4 (some 5)),(.t 5)] (thC SP (zx 0 (x)) c_Q124_1)
theorem zrp:type_of% (aI (ue c_Q124_1.eq_1)<|aI (ue c_Q124_2.eq_1)<|aI (ue c_Q124_3.eq_1)<|aI (ue c_Q124_4.eq_1)<|aI (ue c_Q124_5.eq_1)<|aI (ue c_Q124_6.eq_1)<|aI (ue c_Q124_7.eq_1)<|aI (ue c_Q124_8.eq_1)<|aI (ue c_Q124_9.eq_1)<|aI (ue c_Q124_10.eq_1)<|aI (ue c_Q124_11.eq_1)<|aI (ue c_Q124_12.eq_1)<|aI (ue c_Q124_13.eq_1)<|aI (ue b_Q124_1.eq_1)<|aI (ue c_Q124_14.eq_1)<|aI (ue c_Q124_15.eq_1)<|aI (ue c_Q124_16.eq_1)<|aI (ue c_Q124_17.eq_1)<|sc_Q124.eq_1):=aI (ue c_Q124_1.eq_1)<|aI (ue c_Q124_2.eq_1)<|aI (ue c_Q124_3.eq_1)<|aI (ue c_Q124_4.eq_1)<|aI (ue c_Q124_5.eq_1)<|aI (ue c_Q124_6.eq_1)<|aI (ue c_Q124_7.eq_1)<|aI (ue c_Q124_8.eq_1)<|aI (ue c_Q124_9.eq_1)<|aI (ue c_Q124_10.eq_1)<|aI (ue c_Q124_11.eq_1)<|aI (ue c_Q124_12.eq_1)<|aI (ue c_Q124_13.eq_1)<|aI (ue b_Q124_1.eq_1)<|aI (ue c_Q124_14.eq_1)<|aI (ue c_Q124_15.eq_1)<|aI (ue c_Q124_16.eq_1)<|aI (ue c_Q124_17.eq_1)<|sc_Q124.eq_1
theorem comp_Q124:comp Tryz.prog Tryz.f124=some sc_Q124:=by kernel_rfl
def c_Q85_1:SC:=.seq (.reg [mO 50 0,mO 51 1,kO 52 125 [(.t 50),(.t 51)],mO 7 52]) (.seq (.reg [mO 53 7,mO 54 1,vO 55 (.build [(.int .i64 0),(.str []),(.int .i64 0),(.nils 2),(.int .i64 0)] [(0,1,(cI 4)),(1,1,(.t 53)),(4,1,(.t 54))]),mO 56 7,vO 57 (.len true (.t 56)),sO 5 4 55,mO 5 57]) .ret)
def c_Q85_2:SC:=.cond (.t 28) (.seq (.reg [mO 33 0,mO 34 1,kO 35 77 [(.t 33),(.t 34)],mO 6 35]) (.seq (.seq (.reg [mO 36 6,mO 37 1,bO 38 .sub 36 37,bC 39 .gtr 38 24]) (.cond (.t 39) (.seq (.reg [vO 40 (.build [(.int .i64 0),(.str []),(.int .i64 0),(.nils 2),(.int .i64 0)] []),sO 5 4 40,vO 5 (.mov (cI 0))]) .ret) .skip)) (.seq (.reg [mO 41 0,mO 42 1,mO 43 6,vO 44 (.sls (.t 41) (some (.t 42)) (some (.t 43))),mO 45 1,vO 46 (.build [(.int .i64 0),(.str []),(.int .i64 0),(.nils 2),(.int .i64 0)] [(0,1,(cI 3)),(1,1,(.t 44)),(4,1,(.t 45))]),mO 47 6,mO 48 1,bO 49 .sub 47 48,sO 5 4 46,mO 5 49]) .ret))) .skip
def c_Q85_3:SC:=.cond (.t 18) (.seq (.reg [mO 23 0,mO 24 1,kO 25 124 [(.t 23),(.t 24)],vO 26 (.extract 0 (.t 25)),vO 27 (.extract 1 (.t 25)),sO 5 4 26,mO 5 27]) .ret) (.seq (.reg [mO 29 0,mO 30 1,vO 31 (.istr (.t 29) (.t 30)),kO 32 118 [(.t 31)],mO 28 32]) c_Q85_2)
def c_Q85_4:SC:=.cond (.t 8) (.seq (.reg [mO 13 0,mO 14 1,kO 15 123 [(.t 13),(.t 14)],vO 16 (.extract 0 (.t 15)),vO 17 (.extract 1 (.t 15)),sO 5 4 16,mO 5 17]) .ret) (.seq (.reg [mO 19 0,mO 20 1,vO 21 (.istr (.t 19) (.t 20)),vO 22 (.bin .eql (.t 21) (.c (.int .u8 34))),mO 18 22]) c_Q85_3)
def c_Q85_5:SC:=.seq (.block 0 (.seq (.reg [mO 9 0,mO 10 1,vO 11 (.istr (.t 9) (.t 10)),kO 12 119 [(.t 11)],mO 8 12]) c_Q85_4)) c_Q85_1
def sc_Q85:zh:=⟨2,58,.seq (.reg [⟨some 4,none,.alloc [(.int .i64 0),(.str []),(.int .i64 0),(.nils 2),(.int .i64 0)]⟩,vO 5 (.mov (cI 0))]) c_Q85_5,[(.cell 4 (some 5)),(.t 5)]⟩
theorem zAI:type_of% (aI (ue c_Q85_1.eq_1)<|aI (ue c_Q85_2.eq_1)<|aI (ue c_Q85_3.eq_1)<|aI (ue c_Q85_4.eq_1)<|aI (ue c_Q85_5.eq_1)<|sc_Q85.eq_1):=aI (ue c_Q85_1.eq_1)<|aI (ue c_Q85_2.eq_1)<|aI (ue c_Q85_3.eq_1)<|aI (ue c_Q85_4.eq_1)<|aI (ue c_Q85_5.eq_1)<|sc_Q85.eq_1
theorem comp_Q85:comp Tryz.prog Tryz.f85=some sc_Q85:=by kernel_rfl
def c_Q43_1:SC:=.seq (.reg [vO 4 (.mov (.c (.bool true)))]) .ret
def b_Q43_1:SC:=.seq (.seq (.reg [mO 11 5,mO 12 0,vO 13 (.len false (.t 12)),bO 14 .lss 11 13]) (.cond (.t 14) .skip (.exit 0))) (.seq (.block 1 (.seq (.dreg [mO 17 0,mO 18 5,vO 19 (.iaddr 2 (.t 17) (.t 18)),vO 20 (.load (some 2) (.t 19)),mO 21 1,mO 22 5,vO 23 (.iaddr 2 (.t 21) (.t 22)),vO 24 (.load (some 2) (.t 23)),vO 25 (.eqs true [.b,.s] (.t 20) (.t 24))] [false,false,false,false,false,false,false,false,true]) (.cond (.t 25) (.seq (.reg [vO 4 (.mov (.c (.bool false)))]) .ret) .skip))) (.reg [mO 15 5,bC 16 .add 15 1,mO 5 16]))
def c_Q43_2:SC:=.seq (.seq (.reg [mO 6 0,vO 7 (.len false (.t 6)),mO 8 1,vO 9 (.len false (.t 8)),bO 10 .neq 7 9]) (.cond (.t 10) (.seq (.reg [vO 4 (.mov (.c (.bool false)))]) .ret) .skip)) (.seq (.seq (.reg [vO 5 (.mov (cI 0))]) (.block 0 (.loop b_Q43_1))) c_Q43_1)
def sc_Q43:zh:=⟨2,26,.seq (.reg [vO 4 (.mov (.c (.bool false)))]) c_Q43_2,[(.t 4)]⟩
noncomputable def zph (SP:Prg) (x:EO):CO:=fin [(.t 4)] (thC SP (zx 0 (x)) c_Q43_1)
theorem zvB:type_of% (aI (ue c_Q43_1.eq_1)<|aI (ue b_Q43_1.eq_1)<|aI (ue c_Q43_2.eq_1)<|sc_Q43.eq_1):=aI (ue c_Q43_1.eq_1)<|aI (ue b_Q43_1.eq_1)<|aI (ue c_Q43_2.eq_1)<|sc_Q43.eq_1
theorem comp_Q43:comp Tryz.prog Tryz.f43=some sc_Q43:=by kernel_rfl
def c_Q54_1:SC:=.seq (.reg [mO 59 3,mO 60 0,vO 61 (.len true (.t 60)),vO 62 (.build [(.int .i64 0),(.str []),(.int .i64 0),(.nils 2),(.int .i64 0)] [(4,1,(.t 61))]),⟨some 63,none,.bslice 5 1 [(.int .i64 0),(.str []),(.int .i64 0),(.nils 2),(.int .i64 0)] [(0,(.t 62))]⟩,⟨some 64,none,.append 5 64 (.t 59) (.t 63)⟩,vO 65 (.build [(.nils 5),(.int .i64 0)] [(0,1,(.t 64))]),sO 2 2 65]) .ret
def c_Q54_2:SC:=.seq (.reg [mO 44 0,mO 45 4,kO 46 85 [(.t 44),(.t 45)],mO 43 46,vO 47 (.extract 0 (.t 43)),vO 48 (.extract 1 (.t 43)),⟨some 5,none,.alloc [(.int .i64 0),(.str []),(.int .i64 0),(.nils 2),(.int .i64 0)]⟩,sO 5 5 47,mO 6 48]) (.seq (.seq (.reg [mO 49 6,bC 50 .eql 49 0]) (.cond (.t 50) (.seq (.reg [vO 51 (.build [(.nils 5),(.int .i64 0)] [(1,1,(cI 5))]),sO 2 2 51]) .ret) .skip)) (.seq (.reg [mO 52 3,vO 53 (.load (some 5) (.t 5)),⟨some 54,none,.bslice 5 1 [(.int .i64 0),(.str []),(.int .i64 0),(.nils 2),(.int .i64 0)] [(0,(.t 53))]⟩,⟨some 55,none,.append 5 64 (.t 52) (.t 54)⟩,mO 3 55]) (.reg [mO 56 4,mO 57 6,bO 58 .add 56 57,mO 4 58])))
def b_Q54_2:SC:=.seq (.seq (.reg [mO 31 4,mO 32 0,vO 33 (.len true (.t 32)),bO 34 .lss 31 33,mO 35 34,gO 36 35 true (.mov (.t 0)),gO 37 35 true (.mov (.t 4)),gO 38 35 true (.istr (.t 36) (.t 37)),gO 39 35 true (.bin .neq (.t 38) (.c (.int .u8 10))),vO 40 (.pick (.t 35) (.t 39) (.c (.bool false)))]) (.cond (.t 40) .skip (.exit 2))) (.block 3 (.reg [mO 41 4,bC 42 .add 41 1,mO 4 42]))
def c_Q54_3:SC:=.seq (.seq (.reg [mO 27 0,mO 28 4,vO 29 (.istr (.t 27) (.t 28)),vO 30 (.bin .eql (.t 29) (.c (.int .u8 35)))]) (.cond (.t 30) (.seq (.block 2 (.loop b_Q54_2)) (.exit 1)) .skip)) c_Q54_2
def c_Q54_4:SC:=.block 1 (.seq (.seq (.reg [mO 15 0,mO 16 4,vO 17 (.istr (.t 15) (.t 16)),vO 18 (.bin .eql (.t 17) (.c (.int .u8 32))),mO 19 18,gO 20 19 false (.mov (.t 0)),gO 21 19 false (.mov (.t 4)),gO 22 19 false (.istr (.t 20) (.t 21)),gO 23 19 false (.bin .eql (.t 22) (.c (.int .u8 10))),vO 24 (.pick (.t 19) (.c (.bool true)) (.t 23))]) (.cond (.t 24) (.seq (.reg [mO 25 4,bC 26 .add 25 1,mO 4 26]) (.exit 1)) .skip)) c_Q54_3)
def b_Q54_1:SC:=.seq (.seq (.reg [mO 11 4,mO 12 0,vO 13 (.len true (.t 12)),bO 14 .lss 11 13]) (.cond (.t 14) .skip (.exit 0))) c_Q54_4
def c_Q54_5:SC:=.block 0 (.loop b_Q54_1)
def c_Q54_6:SC:=.seq (.seq (.reg [vO 4 (.mov (cI 0))]) c_Q54_5) c_Q54_1
def c_Q54_7:SC:=.seq (.reg [⟨some 3,none,.nilv 5⟩]) c_Q54_6
def c_Q54_8:SC:=.seq (.seq (.reg [mO 7 0,vO 8 (.len true (.t 7)),bC 9 .gtr 8 6000]) (.cond (.t 9) (.seq (.reg [vO 10 (.build [(.nils 5),(.int .i64 0)] [(1,1,(cI 4))]),sO 2 2 10]) .ret) .skip)) c_Q54_7
def sc_Q54:zh:=⟨1,66,.seq (.reg [⟨some 2,none,.alloc [(.nils 5),(.int .i64 0)]⟩]) c_Q54_8,[(.cell 2 (some 2))]⟩
noncomputable def zpb (SP:Prg) (x:EO):CO:=fin [(.cell 2 (some 2))] (thC SP (zx 0 (thC SP (zx 1 (thC SP (thC SP (zx 2 (x)) (.exit 1)) c_Q54_2)) (.loop b_Q54_1))) c_Q54_1)
noncomputable def zpf (SP:Prg) (x:EO):CO:=fin [(.cell 2 (some 2))] (thC SP (zx 0 (x)) c_Q54_1)
theorem zqu:type_of% (aI (ue c_Q54_1.eq_1)<|aI (ue c_Q54_2.eq_1)<|aI (ue b_Q54_2.eq_1)<|aI (ue c_Q54_3.eq_1)<|aI (ue c_Q54_4.eq_1)<|aI (ue b_Q54_1.eq_1)<|aI (ue c_Q54_5.eq_1)<|aI (ue c_Q54_6.eq_1)<|aI (ue c_Q54_7.eq_1)<|aI (ue c_Q54_8.eq_1)<|sc_Q54.eq_1):=aI (ue c_Q54_1.eq_1)<|aI (ue c_Q54_2.eq_1)<|aI (ue b_Q54_2.eq_1)<|aI (ue c_Q54_3.eq_1)<|aI (ue c_Q54_4.eq_1)<|aI (ue b_Q54_1.eq_1)<|aI (ue c_Q54_5.eq_1)<|aI (ue c_Q54_6.eq_1)<|aI (ue c_Q54_7.eq_1)<|aI (ue c_Q54_8.eq_1)<|sc_Q54.eq_1
theorem comp_Q54:comp Tryz.prog Tryz.f54=some sc_Q54:=by kernel_rfl
end Go.Proofs.YtfbcnpbhhooapaaGreatDoor.M
namespace Go.Proofs.YtfbcnpbhhooapaaGreatDoor.M
open Go Classical
theorem zwG:SP 137=some (.code sc_Q137):=ze rfl Tryz.func137 comp_Q137
theorem zsc (c:UInt8) (r:Int) (T :
  (((c.toNat:Int)=32) →
  1=r) ∧
 (¬ ((c.toNat:Int)=32) →
  (((c.toNat:Int)=10) →
   1=r) ∧
  (¬ ((c.toNat:Int)=10) →
   (((c.toNat:Int)=95) →
    2=r) ∧
   (¬ ((c.toNat:Int)=95) →
    ((97≤(c.toNat:Int)) →
     (((c.toNat:Int)≤122) →
      2=r) ∧
     (¬ ((c.toNat:Int)≤122) →
      ((48≤(c.toNat:Int)) →
       (((c.toNat:Int)≤57) →
        3=r) ∧
       (¬ ((c.toNat:Int)≤57) →
        (((c.toNat:Int)=34) →
         4=r) ∧
        (¬ ((c.toNat:Int)=34) →
         (((c.toNat:Int)=35) →
          5=r) ∧
         (¬ ((c.toNat:Int)=35) →
          0=r)))) ∧
      (¬ (48≤(c.toNat:Int)) →
       (((c.toNat:Int)=34) →
        4=r) ∧
       (¬ ((c.toNat:Int)=34) →
        (((c.toNat:Int)=35) →
         5=r) ∧
        (¬ ((c.toNat:Int)=35) →
         0=r))))) ∧
    (¬ (97≤(c.toNat:Int)) →
     ((48≤(c.toNat:Int)) →
      (((c.toNat:Int)≤57) →
       3=r) ∧
      (¬ ((c.toNat:Int)≤57) →
       (((c.toNat:Int)=34) →
        4=r) ∧
       (¬ ((c.toNat:Int)=34) →
        (((c.toNat:Int)=35) →
         5=r) ∧
        (¬ ((c.toNat:Int)=35) →
         0=r)))) ∧
     (¬ (48≤(c.toNat:Int)) →
      (((c.toNat:Int)=34) →
       4=r) ∧
      (¬ ((c.toNat:Int)=34) →
       (((c.toNat:Int)=35) →
        5=r) ∧
       (¬ ((c.toNat:Int)=35) →
        0=r)))))))):zfN c r:=by
 intro S
 rw[zd zwG _ _ rfl]
 have F:=zx7
 exact rn F T
theorem zwP:SP 151=some (.code sc_Q151):=ze rfl Tryz.func151 comp_Q151
def zf4 (s:List UInt8) (classes:List Int) (i1:Int) (r:Int):Prop:=∀ (S:Sto) (e:Nat→PV) (f:Fr),e 0=.str s∧e 1=.list 1 (classes.map eI) false∧e 7=.int .i64 (s.length:Int)∧e 8=.int .i64 i1→zmQ SP (E SP (.loop b_Q151_1) ⟨e,f::S⟩)=.ok (.v (.int .i64 r)) S
theorem zgT (s:List UInt8) (classes:List Int) (i1:Int) (r:Int) (T :
  ((i1 < (s.length:Int)) →
  (0≤i1) ∧
  ∃ (b2:UInt8),(s[i1.toNat]?=some b2) ∧
  ∃ (r3:Int),(zfN b2 r3) ∧
  ∃ (r4:Bool),(zbh classes r3 r4) ∧
  ((r4=true) →
   (I64 (i1+1)) ∧
   zf4 s classes (i1+1) r) ∧
  (¬ (r4=true) →
   i1=r)) ∧
 (¬ (i1 < (s.length:Int)) →
  (s.length:Int)=r)):zf4 s classes i1 r:=by
 intro S e f h
 unfold zmQ
 rw[zm]
 have F:=zrx
 exact rn (aa h<|F) T
theorem zsj (s:List UInt8) (classes:List Int) (r:Int) (T :
  zf4 s classes 0 r):ziP s classes r:=by
 intro S
 rw[zd zwP _ _ rfl]
 have F:=zrx
 exact rn F T
theorem zxs:SP 135=some (.code sc_Q135):=ze rfl Tryz.func135 comp_Q135
theorem zrb (t:LText) (n:Int) (r:List UInt8) (t':LText) (T :
  (0≤n)∧(n.toNat≤t.left.length) ∧
 (0≤n)∧(n.toNat≤t.left.length) ∧
 (I64 (t.pos+n)) ∧
 (t.left.take (n.toNat))=r∧(LText.mk ((t.left.drop n.toNat).take (t.left.length - n.toNat)) (t.pos+n))=t'):zbq t n r t':=by
 intro S n0 t0 H0
 have hb0:=H0
 obtain⟨w0,hB0⟩:=zg hb0
 have hn0:=zc hB0
 rw[zd zxs _ _ rfl]
 have F:=zx4
 obtain⟨p1,p2,p3,p4,p5,rfl,rfl⟩:=T
 exact fi (aa hB0<|aa hn0<|aa p1<|aa p2<|aa p3<|aa p4<|aa p5.wrap<|F)
theorem zwm:SP 134=some (.code sc_Q134):=ze rfl Tryz.func134 comp_Q134
theorem zrz (t:LText) (classes:List Int) (r:List UInt8) (t':LText) (T :
  ∃ (r1:Int),(ziP t.left classes r1) ∧
 ∃ (r2:List UInt8) (y3:LText),(zbq t r1 r2 y3) ∧
 r2=r∧y3=t'):zeX t classes r t':=by
 intro S n0 t0 H0
 have hb0:=H0
 obtain⟨w0,hB0⟩:=zg hb0
 have hn0:=zc hB0
 rw[zd zwm _ _ rfl]
 have F:=zx5
 obtain⟨r1,q1,r2,y3,q2,rfl,rfl⟩:=T
 simp only[ziP,lF] at q1
 simp only[zbq,lF] at q2
 exact fi (aa hB0<|aa hn0<|aa q1<|aa q2<|F)
theorem zxr:SP 165=some (.code sc_Q165):=ze rfl Tryz.func165 comp_Q165
theorem zsO (p:List Part) (p_g0:Nat) (p_z0:Bool) (c:UInt8) (p':List Part) (p'_g0:Nat) (p'_z0:Bool) (T :
  (((p.length:Int)=0) →
  (bigRow (p.length+1) 24) ∧
  (I64 ((p.length:Int)+1)) ∧
  (I64 (((p.length:Int)+1) - 1)) ∧
  (0≤(((p.length:Int)+1) - 1))∧((((p.length:Int)+1) - 1).toNat < p.length+1) ∧
  ∃ (v1:Part),((p++[(Part.mk false [])])[(((p.length:Int)+1) - 1).toNat]?=some v1) ∧
  (v1.Text.length+1≤zaO) ∧
  (0≤(((p.length:Int)+1) - 1))∧((((p.length:Int)+1) - 1).toNat < p.length+1) ∧
  (p_z0=false) ∧
  ((p++[(Part.mk false [])]).set ((((p.length:Int)+1) - 1).toNat) (Part.mk v1.Ref (v1.Text++[c])))=p'∧p_g0=p'_g0∧p_z0=p'_z0) ∧
 (¬ ((p.length:Int)=0) →
  (I64 ((p.length:Int) - 1)) ∧
  (0≤((p.length:Int) - 1))∧(((p.length:Int) - 1).toNat < p.length) ∧
  ∃ (v2:Part),(p[((p.length:Int) - 1).toNat]?=some v2) ∧
  ((v2.Ref=true) →
   (bigRow (p.length+1) 24) ∧
   (I64 ((p.length:Int)+1)) ∧
   (I64 (((p.length:Int)+1) - 1)) ∧
   (0≤(((p.length:Int)+1) - 1))∧((((p.length:Int)+1) - 1).toNat < p.length+1) ∧
   ∃ (v3:Part),((p++[(Part.mk false [])])[(((p.length:Int)+1) - 1).toNat]?=some v3) ∧
   (v3.Text.length+1≤zaO) ∧
   (0≤(((p.length:Int)+1) - 1))∧((((p.length:Int)+1) - 1).toNat < p.length+1) ∧
   (p_z0=false) ∧
   ((p++[(Part.mk false [])]).set ((((p.length:Int)+1) - 1).toNat) (Part.mk v3.Ref (v3.Text++[c])))=p'∧p_g0=p'_g0∧p_z0=p'_z0) ∧
  (¬ (v2.Ref=true) →
   (I64 ((p.length:Int) - 1)) ∧
   (0≤((p.length:Int) - 1))∧(((p.length:Int) - 1).toNat < p.length) ∧
   (v2.Text.length+1≤zaO) ∧
   (0≤((p.length:Int) - 1))∧(((p.length:Int) - 1).toNat < p.length) ∧
   (p_z0=false) ∧
   (p.set (((p.length:Int) - 1).toNat) (Part.mk v2.Ref (v2.Text++[c])))=p'∧p_g0=p'_g0∧p_z0=p'_z0))):zk2 p p_g0 p_z0 c p' p'_g0 p'_z0:=by
 intro S n0 t0 H0
 obtain⟨hb0,ha0⟩:=H0
 obtain⟨w0,hB0⟩:=zg hb0
 have hn0:=zc hB0
 rw[zd zxr _ _ rfl]
 have F:=zxN
 replace F:=aa ha0<|aa hB0<|aa hn0<|F
 by_cases c1:(p.length:Int)=0
 ·replace T:=T.1 c1
  obtain⟨p2,p3,p4,p5,p6,v1,q7,p8,p9,p10,p11,rfl,rfl,rfl⟩:=T
  simp only[bigRow] at p2
  replace q7:=congrArg (Option.map ePart) q7
  rw[←List.getElem?_map] at q7
  simp only[le,List.map_append,Option.map_some] at q7
  exact fi (aa (eq_true c1)<|aa p2<|aa p3.wrap<|aa p4.wrap<|aa p5<|aa p6<|aa q7<|aa p8<|aa p9<|aa p10<|aa p11<|F)
 replace T:=T.2 c1
 obtain⟨p12,p13,p14,v2,q15,T⟩:=T
 replace F:=aa (eq_false c1)<|aa p12.wrap<|aa p13<|aa p14<|aa q15<|F
 by_cases c16:v2.Ref=true
 ·replace T:=T.1 c16
  obtain⟨p17,p18,p19,p20,p21,v3,q22,p23,p24,p25,p26,rfl,rfl,rfl⟩:=T
  simp only[bigRow] at p17
  replace q22:=congrArg (Option.map ePart) q22
  rw[←List.getElem?_map] at q22
  simp only[le,List.map_append,Option.map_some] at q22
  exact fi (aa c16<|aa p17<|aa p18.wrap<|aa p19.wrap<|aa p20<|aa p21<|aa q22<|aa p23<|aa p24<|aa p25<|aa p26<|F)
 replace T:=T.2 c16
 replace c16:=Bool.eq_false_iff.2 c16
 obtain⟨p27,p28,p29,p30,p31,p32,p33,rfl,rfl,rfl⟩:=T
 exact fi (aa c16<|aa p27.wrap<|aa p28<|aa p29<|aa p30<|aa p31<|aa p32<|aa p33<|F)
theorem zv2:SP 164=some (.code sc_Q164):=ze rfl Tryz.func164 comp_Q164
theorem zlG (s:List UInt8) (ra:UInt8) (rb:Bool) (T :
  (((s.length:Int) < 2) →
  (0:UInt8)=ra∧false=rb) ∧
 (¬ ((s.length:Int) < 2) →
  ∃ (b1:UInt8),(s[1]?=some b1) ∧
  ∃ (r2:Int),(zee [34,92,36,110] b1 r2) ∧
  ((r2 < 0) →
   (0:UInt8)=ra∧false=rb) ∧
  (¬ (r2 < 0) →
   (0≤r2) ∧
   ∃ (b3:UInt8),([34,92,36,10][r2.toNat]?=some b3) ∧
   b3=ra∧true=rb))):zny s ra rb:=by
 intro S
 rw[zd zv2 _ _ rfl]
 have F:=zyk
 exact rn F T
theorem zvJ:SP 166=some (.code sc_Q166):=ze rfl Tryz.func166 comp_Q166
theorem zs2 (s:List UInt8) (ra:List UInt8) (rb:Bool) (T :
  (2≤s.length) ∧
 ∃ (r1:List UInt8) (r2:List UInt8) (r3:Bool),(zbx ((s.drop 2).take (s.length - 2)) [125] r1 r2 r3) ∧
 ∃ (r4:List UInt8) (r5:List UInt8) (r6:Bool),(zbx r1 [46] r4 r5 r6) ∧
 ((r3=true) →
  ((r6=true) →
   ∃ (r7:Bool),(zcz r4 r7) ∧
   ((r7=true) →
    ∃ (r8:Bool),(zcz r5 r8) ∧
    r1=ra∧r8=rb) ∧
   (¬ (r7=true) →
    r1=ra∧false=rb)) ∧
  (¬ (r6=true) →
   r1=ra∧false=rb)) ∧
 (¬ (r3=true) →
  r1=ra∧false=rb)):ziF s ra rb:=by
 intro S
 rw[zd zvJ _ _ rfl]
 have F:=zzb
 exact rn F T
theorem zwv:SP 115=some (.code sc_Q115):=ze rfl Tryz.func115 comp_Q115
theorem zr6 (s:List UInt8) (r:Bool) (T :
  ((s=[]) →
  false=r) ∧
 (¬ (s=[]) →
  (((s.length:Int)≤24) →
   ∃ (b1:UInt8),(s[0]?=some b1) ∧
   ∃ (r2:Int),(zfN b1 r2) ∧
   ((r2=2) →
    ∃ (r3:Int),(ziP s [2,3] r3) ∧
    (decide (r3=(s.length:Int)))=r) ∧
   (¬ (r2=2) →
    false=r)) ∧
  (¬ ((s.length:Int)≤24) →
   false=r))):zcz s r:=by
 intro S
 rw[zd zwv _ _ rfl]
 have F:=zyu
 exact rn F T
theorem zwD:SP 119=some (.code sc_Q119):=ze rfl Tryz.func119 comp_Q119
theorem zrU (c:UInt8) (r:Bool) (T :
  ((48≤(c.toNat:Int)) →
  (decide ((c.toNat:Int)≤57))=r) ∧
 (¬ (48≤(c.toNat:Int)) →
  false=r)):zdi c r:=by
 intro S
 rw[zd zwD _ _ rfl]
 have F:=zyW
 exact rn F T
theorem zw8:SP 118=some (.code sc_Q118):=ze rfl Tryz.func118 comp_Q118
theorem zrI (c:UInt8) (r:Bool) (T :
  ((97≤(c.toNat:Int)) →
  (((c.toNat:Int)≤122) →
   true=r) ∧
  (¬ ((c.toNat:Int)≤122) →
   (decide ((c.toNat:Int)=95))=r)) ∧
 (¬ (97≤(c.toNat:Int)) →
  (decide ((c.toNat:Int)=95))=r)):ziN c r:=by
 intro S
 rw[zd zw8 _ _ rfl]
 have F:=zzi
 exact rn F T
theorem zyg:SP 77=some (.code sc_Q77):=ze rfl Tryz.func77 comp_Q77
def zeh (s:List UInt8) (i3:Int) (r:Int):Prop:=∀ (S:Sto) (e:Nat→PV) (f:Fr),e 0=.str s∧e 5=.int .i64 i3→zpo SP (E SP (.loop b_Q77_1) ⟨e,f::S⟩)=.ok (.v (.int .i64 r)) S
theorem zhN (s:List UInt8) (i3:Int) (r:Int) (T :
  ((i3 < (s.length:Int)) →
  (0≤i3) ∧
  ∃ (b4:UInt8),(s[i3.toNat]?=some b4) ∧
  ∃ (r5:Bool),(ziN b4 r5) ∧
  ((r5=true) →
   (I64 (i3+1)) ∧
   zeh s (i3+1) r) ∧
  (¬ (r5=true) →
   ∃ (r6:Bool),(zdi b4 r6) ∧
   ((r6=true) →
    (I64 (i3+1)) ∧
    zeh s (i3+1) r) ∧
   (¬ (r6=true) →
    i3=r))) ∧
 (¬ (i3 < (s.length:Int)) →
  i3=r)):zeh s i3 r:=by
 intro S e f h
 unfold zpo
 rw[zm]
 have F:=zvl
 exact rn (aa h<|F) T
theorem zuj (s:List UInt8) (i:Int) (r:Int) (T :
  (((s.length:Int)≤i) →
  i=r) ∧
 (¬ ((s.length:Int)≤i) →
  (0≤i) ∧
  ∃ (b1:UInt8),(s[i.toNat]?=some b1) ∧
  ∃ (r2:Bool),(ziN b1 r2) ∧
  ((r2=true) →
   zeh s i r) ∧
  (¬ (r2=true) →
   i=r))):zfg s i r:=by
 intro S
 rw[zd zyg _ _ rfl]
 have F:=zvl
 exact rn F T
theorem zyl:SP 79=some (.code sc_Q79):=ze rfl Tryz.func79 comp_Q79
theorem zu5 (s:List UInt8) (r:Bool) (T :
  ((s=[]) →
  false=r) ∧
 (¬ (s=[]) →
  (((s.length:Int)≤24) →
   ∃ (r1:Int),(zfg s 0 r1) ∧
   (decide (r1=(s.length:Int)))=r) ∧
  (¬ ((s.length:Int)≤24) →
   false=r))):zmF s r:=by
 intro S
 rw[zd zyl _ _ rfl]
 have F:=zzR
 exact rn F T
theorem zx2:SP 78=some (.code sc_Q78):=ze rfl Tryz.func78 comp_Q78
theorem ztR (s:List UInt8) (r:Bool) (T :
  ∃ (r1:Int),(zfg s 0 r1) ∧
 ((0 < r1) →
  ((r1 < (s.length:Int)) →
   (0≤r1) ∧
   ∃ (b2:UInt8),(s[r1.toNat]?=some b2) ∧
   (((b2.toNat:Int)=46) →
    (0≤r1)∧(r1.toNat≤s.length) ∧
    ∃ (r3:Bool),(zmF (s.take (r1.toNat)) r3) ∧
    ((r3=true) →
     (I64 (r1+1)) ∧
     (0≤(r1+1))∧((r1+1).toNat≤s.length) ∧
     ∃ (r4:Bool),(zmF ((s.drop ((r1+1).toNat)).take (s.length - ((r1+1).toNat))) r4) ∧
     r4=r) ∧
    (¬ (r3=true) →
     false=r)) ∧
   (¬ ((b2.toNat:Int)=46) →
    false=r)) ∧
  (¬ (r1 < (s.length:Int)) →
   false=r)) ∧
 (¬ (0 < r1) →
  false=r)):zqg s r:=by
 intro S
 rw[zd zx2 _ _ rfl]
 have F:=zAB
 exact rn F T
theorem zw7:SP 125=some (.code sc_Q125):=ze rfl Tryz.func125 comp_Q125
theorem zsq (s:List UInt8) (i:Int) (r:List UInt8) (T :
  (I64 (i+1)) ∧
 (((i+1) < (s.length:Int)) →
  (I64 (i+2)) ∧
  (0≤i)∧(0≤(i+2))∧(i.toNat≤(i+2).toNat)∧((i+2).toNat≤s.length) ∧
  ((((s.drop i.toNat).take ((i+2).toNat - i.toNat))=[61,61]) →
   (I64 (i+2)) ∧
   (0≤i)∧(0≤(i+2))∧(i.toNat≤(i+2).toNat)∧((i+2).toNat≤s.length) ∧
   ((s.drop i.toNat).take ((i+2).toNat - i.toNat))=r) ∧
  (¬ (((s.drop i.toNat).take ((i+2).toNat - i.toNat))=[61,61]) →
   ((((s.drop i.toNat).take ((i+2).toNat - i.toNat))=[33,61]) →
    (I64 (i+2)) ∧
    (0≤i)∧(0≤(i+2))∧(i.toNat≤(i+2).toNat)∧((i+2).toNat≤s.length) ∧
    ((s.drop i.toNat).take ((i+2).toNat - i.toNat))=r) ∧
   (¬ (((s.drop i.toNat).take ((i+2).toNat - i.toNat))=[33,61]) →
    ((((s.drop i.toNat).take ((i+2).toNat - i.toNat))=[60,61]) →
     (I64 (i+2)) ∧
     (0≤i)∧(0≤(i+2))∧(i.toNat≤(i+2).toNat)∧((i+2).toNat≤s.length) ∧
     ((s.drop i.toNat).take ((i+2).toNat - i.toNat))=r) ∧
    (¬ (((s.drop i.toNat).take ((i+2).toNat - i.toNat))=[60,61]) →
     ((((s.drop i.toNat).take ((i+2).toNat - i.toNat))=[62,61]) →
      (I64 (i+2)) ∧
      (0≤i)∧(0≤(i+2))∧(i.toNat≤(i+2).toNat)∧((i+2).toNat≤s.length) ∧
      ((s.drop i.toNat).take ((i+2).toNat - i.toNat))=r) ∧
     (¬ (((s.drop i.toNat).take ((i+2).toNat - i.toNat))=[62,61]) →
      ((((s.drop i.toNat).take ((i+2).toNat - i.toNat))=[38,38]) →
       (I64 (i+2)) ∧
       (0≤i)∧(0≤(i+2))∧(i.toNat≤(i+2).toNat)∧((i+2).toNat≤s.length) ∧
       ((s.drop i.toNat).take ((i+2).toNat - i.toNat))=r) ∧
      (¬ (((s.drop i.toNat).take ((i+2).toNat - i.toNat))=[38,38]) →
       ((((s.drop i.toNat).take ((i+2).toNat - i.toNat))=[124,124]) →
        (I64 (i+2)) ∧
        (0≤i)∧(0≤(i+2))∧(i.toNat≤(i+2).toNat)∧((i+2).toNat≤s.length) ∧
        ((s.drop i.toNat).take ((i+2).toNat - i.toNat))=r) ∧
       (¬ (((s.drop i.toNat).take ((i+2).toNat - i.toNat))=[124,124]) →
        (0≤i) ∧
        ∃ (b1:UInt8),(s[i.toNat]?=some b1) ∧
        (((b1.toNat:Int)=123) →
         (I64 (i+1)) ∧
         (0≤i)∧(0≤(i+1))∧(i.toNat≤(i+1).toNat)∧((i+1).toNat≤s.length) ∧
         ((s.drop i.toNat).take ((i+1).toNat - i.toNat))=r) ∧
        (¬ ((b1.toNat:Int)=123) →
         (((b1.toNat:Int)=125) →
          (I64 (i+1)) ∧
          (0≤i)∧(0≤(i+1))∧(i.toNat≤(i+1).toNat)∧((i+1).toNat≤s.length) ∧
          ((s.drop i.toNat).take ((i+1).toNat - i.toNat))=r) ∧
         (¬ ((b1.toNat:Int)=125) →
          (((b1.toNat:Int)=91) →
           (I64 (i+1)) ∧
           (0≤i)∧(0≤(i+1))∧(i.toNat≤(i+1).toNat)∧((i+1).toNat≤s.length) ∧
           ((s.drop i.toNat).take ((i+1).toNat - i.toNat))=r) ∧
          (¬ ((b1.toNat:Int)=91) →
           (((b1.toNat:Int)=93) →
            (I64 (i+1)) ∧
            (0≤i)∧(0≤(i+1))∧(i.toNat≤(i+1).toNat)∧((i+1).toNat≤s.length) ∧
            ((s.drop i.toNat).take ((i+1).toNat - i.toNat))=r) ∧
           (¬ ((b1.toNat:Int)=93) →
            (((b1.toNat:Int)=40) →
             (I64 (i+1)) ∧
             (0≤i)∧(0≤(i+1))∧(i.toNat≤(i+1).toNat)∧((i+1).toNat≤s.length) ∧
             ((s.drop i.toNat).take ((i+1).toNat - i.toNat))=r) ∧
            (¬ ((b1.toNat:Int)=40) →
             (((b1.toNat:Int)=41) →
              (I64 (i+1)) ∧
              (0≤i)∧(0≤(i+1))∧(i.toNat≤(i+1).toNat)∧((i+1).toNat≤s.length) ∧
              ((s.drop i.toNat).take ((i+1).toNat - i.toNat))=r) ∧
             (¬ ((b1.toNat:Int)=41) →
              (((b1.toNat:Int)=61) →
               (I64 (i+1)) ∧
               (0≤i)∧(0≤(i+1))∧(i.toNat≤(i+1).toNat)∧((i+1).toNat≤s.length) ∧
               ((s.drop i.toNat).take ((i+1).toNat - i.toNat))=r) ∧
              (¬ ((b1.toNat:Int)=61) →
               (((b1.toNat:Int)=44) →
                (I64 (i+1)) ∧
                (0≤i)∧(0≤(i+1))∧(i.toNat≤(i+1).toNat)∧((i+1).toNat≤s.length) ∧
                ((s.drop i.toNat).take ((i+1).toNat - i.toNat))=r) ∧
               (¬ ((b1.toNat:Int)=44) →
                (((b1.toNat:Int)=46) →
                 (I64 (i+1)) ∧
                 (0≤i)∧(0≤(i+1))∧(i.toNat≤(i+1).toNat)∧((i+1).toNat≤s.length) ∧
                 ((s.drop i.toNat).take ((i+1).toNat - i.toNat))=r) ∧
                (¬ ((b1.toNat:Int)=46) →
                 (((b1.toNat:Int)=43) →
                  (I64 (i+1)) ∧
                  (0≤i)∧(0≤(i+1))∧(i.toNat≤(i+1).toNat)∧((i+1).toNat≤s.length) ∧
                  ((s.drop i.toNat).take ((i+1).toNat - i.toNat))=r) ∧
                 (¬ ((b1.toNat:Int)=43) →
                  (((b1.toNat:Int)=45) →
                   (I64 (i+1)) ∧
                   (0≤i)∧(0≤(i+1))∧(i.toNat≤(i+1).toNat)∧((i+1).toNat≤s.length) ∧
                   ((s.drop i.toNat).take ((i+1).toNat - i.toNat))=r) ∧
                  (¬ ((b1.toNat:Int)=45) →
                   (((b1.toNat:Int)=42) →
                    (I64 (i+1)) ∧
                    (0≤i)∧(0≤(i+1))∧(i.toNat≤(i+1).toNat)∧((i+1).toNat≤s.length) ∧
                    ((s.drop i.toNat).take ((i+1).toNat - i.toNat))=r) ∧
                   (¬ ((b1.toNat:Int)=42) →
                    (((b1.toNat:Int)=47) →
                     (I64 (i+1)) ∧
                     (0≤i)∧(0≤(i+1))∧(i.toNat≤(i+1).toNat)∧((i+1).toNat≤s.length) ∧
                     ((s.drop i.toNat).take ((i+1).toNat - i.toNat))=r) ∧
                    (¬ ((b1.toNat:Int)=47) →
                     (((b1.toNat:Int)=37) →
                      (I64 (i+1)) ∧
                      (0≤i)∧(0≤(i+1))∧(i.toNat≤(i+1).toNat)∧((i+1).toNat≤s.length) ∧
                      ((s.drop i.toNat).take ((i+1).toNat - i.toNat))=r) ∧
                     (¬ ((b1.toNat:Int)=37) →
                      (((b1.toNat:Int)=60) →
                       (I64 (i+1)) ∧
                       (0≤i)∧(0≤(i+1))∧(i.toNat≤(i+1).toNat)∧((i+1).toNat≤s.length) ∧
                       ((s.drop i.toNat).take ((i+1).toNat - i.toNat))=r) ∧
                      (¬ ((b1.toNat:Int)=60) →
                       (((b1.toNat:Int)=62) →
                        (I64 (i+1)) ∧
                        (0≤i)∧(0≤(i+1))∧(i.toNat≤(i+1).toNat)∧((i+1).toNat≤s.length) ∧
                        ((s.drop i.toNat).take ((i+1).toNat - i.toNat))=r) ∧
                       (¬ ((b1.toNat:Int)=62) →
                        (((b1.toNat:Int)=33) →
                         (I64 (i+1)) ∧
                         (0≤i)∧(0≤(i+1))∧(i.toNat≤(i+1).toNat)∧((i+1).toNat≤s.length) ∧
                         ((s.drop i.toNat).take ((i+1).toNat - i.toNat))=r) ∧
                        (¬ ((b1.toNat:Int)=33) →
                         (((b1.toNat:Int)=63) →
                          (I64 (i+1)) ∧
                          (0≤i)∧(0≤(i+1))∧(i.toNat≤(i+1).toNat)∧((i+1).toNat≤s.length) ∧
                          ((s.drop i.toNat).take ((i+1).toNat - i.toNat))=r) ∧
                         (¬ ((b1.toNat:Int)=63) →
                          (((b1.toNat:Int)=58) →
                           (I64 (i+1)) ∧
                           (0≤i)∧(0≤(i+1))∧(i.toNat≤(i+1).toNat)∧((i+1).toNat≤s.length) ∧
                           ((s.drop i.toNat).take ((i+1).toNat - i.toNat))=r) ∧
                          (¬ ((b1.toNat:Int)=58) →
                           []=r)))))))))))))))))))))))))) ∧
 (¬ ((i+1) < (s.length:Int)) →
  (0≤i) ∧
  ∃ (b2:UInt8),(s[i.toNat]?=some b2) ∧
  (((b2.toNat:Int)=123) →
   (I64 (i+1)) ∧
   (0≤i)∧(0≤(i+1))∧(i.toNat≤(i+1).toNat)∧((i+1).toNat≤s.length) ∧
   ((s.drop i.toNat).take ((i+1).toNat - i.toNat))=r) ∧
  (¬ ((b2.toNat:Int)=123) →
   (((b2.toNat:Int)=125) →
    (I64 (i+1)) ∧
    (0≤i)∧(0≤(i+1))∧(i.toNat≤(i+1).toNat)∧((i+1).toNat≤s.length) ∧
    ((s.drop i.toNat).take ((i+1).toNat - i.toNat))=r) ∧
   (¬ ((b2.toNat:Int)=125) →
    (((b2.toNat:Int)=91) →
     (I64 (i+1)) ∧
     (0≤i)∧(0≤(i+1))∧(i.toNat≤(i+1).toNat)∧((i+1).toNat≤s.length) ∧
     ((s.drop i.toNat).take ((i+1).toNat - i.toNat))=r) ∧
    (¬ ((b2.toNat:Int)=91) →
     (((b2.toNat:Int)=93) →
      (I64 (i+1)) ∧
      (0≤i)∧(0≤(i+1))∧(i.toNat≤(i+1).toNat)∧((i+1).toNat≤s.length) ∧
      ((s.drop i.toNat).take ((i+1).toNat - i.toNat))=r) ∧
     (¬ ((b2.toNat:Int)=93) →
      (((b2.toNat:Int)=40) →
       (I64 (i+1)) ∧
       (0≤i)∧(0≤(i+1))∧(i.toNat≤(i+1).toNat)∧((i+1).toNat≤s.length) ∧
       ((s.drop i.toNat).take ((i+1).toNat - i.toNat))=r) ∧
      (¬ ((b2.toNat:Int)=40) →
       (((b2.toNat:Int)=41) →
        (I64 (i+1)) ∧
        (0≤i)∧(0≤(i+1))∧(i.toNat≤(i+1).toNat)∧((i+1).toNat≤s.length) ∧
        ((s.drop i.toNat).take ((i+1).toNat - i.toNat))=r) ∧
       (¬ ((b2.toNat:Int)=41) →
        (((b2.toNat:Int)=61) →
         (I64 (i+1)) ∧
         (0≤i)∧(0≤(i+1))∧(i.toNat≤(i+1).toNat)∧((i+1).toNat≤s.length) ∧
         ((s.drop i.toNat).take ((i+1).toNat - i.toNat))=r) ∧
        (¬ ((b2.toNat:Int)=61) →
         (((b2.toNat:Int)=44) →
          (I64 (i+1)) ∧
          (0≤i)∧(0≤(i+1))∧(i.toNat≤(i+1).toNat)∧((i+1).toNat≤s.length) ∧
          ((s.drop i.toNat).take ((i+1).toNat - i.toNat))=r) ∧
         (¬ ((b2.toNat:Int)=44) →
          (((b2.toNat:Int)=46) →
           (I64 (i+1)) ∧
           (0≤i)∧(0≤(i+1))∧(i.toNat≤(i+1).toNat)∧((i+1).toNat≤s.length) ∧
           ((s.drop i.toNat).take ((i+1).toNat - i.toNat))=r) ∧
          (¬ ((b2.toNat:Int)=46) →
           (((b2.toNat:Int)=43) →
            (I64 (i+1)) ∧
            (0≤i)∧(0≤(i+1))∧(i.toNat≤(i+1).toNat)∧((i+1).toNat≤s.length) ∧
            ((s.drop i.toNat).take ((i+1).toNat - i.toNat))=r) ∧
           (¬ ((b2.toNat:Int)=43) →
            (((b2.toNat:Int)=45) →
             (I64 (i+1)) ∧
             (0≤i)∧(0≤(i+1))∧(i.toNat≤(i+1).toNat)∧((i+1).toNat≤s.length) ∧
             ((s.drop i.toNat).take ((i+1).toNat - i.toNat))=r) ∧
            (¬ ((b2.toNat:Int)=45) →
             (((b2.toNat:Int)=42) →
              (I64 (i+1)) ∧
              (0≤i)∧(0≤(i+1))∧(i.toNat≤(i+1).toNat)∧((i+1).toNat≤s.length) ∧
              ((s.drop i.toNat).take ((i+1).toNat - i.toNat))=r) ∧
             (¬ ((b2.toNat:Int)=42) →
              (((b2.toNat:Int)=47) →
               (I64 (i+1)) ∧
               (0≤i)∧(0≤(i+1))∧(i.toNat≤(i+1).toNat)∧((i+1).toNat≤s.length) ∧
               ((s.drop i.toNat).take ((i+1).toNat - i.toNat))=r) ∧
              (¬ ((b2.toNat:Int)=47) →
               (((b2.toNat:Int)=37) →
                (I64 (i+1)) ∧
                (0≤i)∧(0≤(i+1))∧(i.toNat≤(i+1).toNat)∧((i+1).toNat≤s.length) ∧
                ((s.drop i.toNat).take ((i+1).toNat - i.toNat))=r) ∧
               (¬ ((b2.toNat:Int)=37) →
                (((b2.toNat:Int)=60) →
                 (I64 (i+1)) ∧
                 (0≤i)∧(0≤(i+1))∧(i.toNat≤(i+1).toNat)∧((i+1).toNat≤s.length) ∧
                 ((s.drop i.toNat).take ((i+1).toNat - i.toNat))=r) ∧
                (¬ ((b2.toNat:Int)=60) →
                 (((b2.toNat:Int)=62) →
                  (I64 (i+1)) ∧
                  (0≤i)∧(0≤(i+1))∧(i.toNat≤(i+1).toNat)∧((i+1).toNat≤s.length) ∧
                  ((s.drop i.toNat).take ((i+1).toNat - i.toNat))=r) ∧
                 (¬ ((b2.toNat:Int)=62) →
                  (((b2.toNat:Int)=33) →
                   (I64 (i+1)) ∧
                   (0≤i)∧(0≤(i+1))∧(i.toNat≤(i+1).toNat)∧((i+1).toNat≤s.length) ∧
                   ((s.drop i.toNat).take ((i+1).toNat - i.toNat))=r) ∧
                  (¬ ((b2.toNat:Int)=33) →
                   (((b2.toNat:Int)=63) →
                    (I64 (i+1)) ∧
                    (0≤i)∧(0≤(i+1))∧(i.toNat≤(i+1).toNat)∧((i+1).toNat≤s.length) ∧
                    ((s.drop i.toNat).take ((i+1).toNat - i.toNat))=r) ∧
                   (¬ ((b2.toNat:Int)=63) →
                    (((b2.toNat:Int)=58) →
                     (I64 (i+1)) ∧
                     (0≤i)∧(0≤(i+1))∧(i.toNat≤(i+1).toNat)∧((i+1).toNat≤s.length) ∧
                     ((s.drop i.toNat).take ((i+1).toNat - i.toNat))=r) ∧
                    (¬ ((b2.toNat:Int)=58) →
                     []=r))))))))))))))))))))):zof s i r:=by
 intro S
 rw[zd zw7 _ _ rfl]
 have F:=zy1
 exact rn F T
theorem zwW:SP 123=some (.code sc_Q123):=ze rfl Tryz.func123 comp_Q123
def zb9 (s:List UInt8) (i:Int) (i1:Int) (i2:Int) (i3:Int) (s4:List UInt8) (i5:Int) (i6:Int) (l7:List Attr) (g8:Nat) (ra:Token) (rb:Int):Prop:=∀ (S:Sto) (e:Nat→PV) (f:Fr),e 0=.str s∧e 1=.int .i64 i∧e 4=.ptr 0 4 0∧e 6=.int .i64 i1∧e 7=.int .i64 i2∧f.box 4=some [.int .i64 i3,.str s4,.int .i64 i5,.sl 0 (.cell 4 3) 0 l7.length l7.length g8 false,.int .i64 i6]∧f.arr (.cell 4 3)=some ⟨2,l7.map eAttr,false,g8⟩→zm7 SP (E SP (.loop b_Q123_1) ⟨e,f::S⟩)=.ok (.v (.tup [.agg [.int .i64 ra.Kind,.str ra.Text,.int .i64 ra.Num,.list 2 (ra.Parts.map ePart) false,.int .i64 ra.At],.int .i64 rb])) S
theorem zb1 (s:List UInt8) (i:Int) (i1:Int) (i2:Int) (i3:Int) (s4:List UInt8) (i5:Int) (i6:Int) (l7:List Attr) (g8:Nat) (ra:Token) (rb:Int) (T :
  ((i2 < (s.length:Int)) →
  (0≤i2) ∧
  ∃ (b9:UInt8),(s[i2.toNat]?=some b9) ∧
  ∃ (r10:Bool),(zdi b9 r10) ∧
  ((r10=true) →
   (U8 ((b9.toNat:Int) - 48)) ∧
   (I64 (((b9.toNat:Int) - 48))) ∧
   (I64 (9223372036854775807 - ((b9.toNat:Int) - 48))) ∧
   (I64 ((9223372036854775807 - ((b9.toNat:Int) - 48)).tdiv 10)) ∧
   ((((9223372036854775807 - ((b9.toNat:Int) - 48)).tdiv 10) < i1) →
    (Token.mk 0 [] 0 [] 0)=ra∧0=rb) ∧
   (¬ (((9223372036854775807 - ((b9.toNat:Int) - 48)).tdiv 10) < i1) →
    ((i < i2) →
     ((i1=0) →
      (Token.mk 0 [] 0 [] 0)=ra∧0=rb) ∧
     (¬ (i1=0) →
      (I64 (10*i1)) ∧
      (I64 ((10*i1)+((b9.toNat:Int) - 48))) ∧
      (I64 (i2+1)) ∧
      zb9 s i ((10*i1)+((b9.toNat:Int) - 48)) (i2+1) i3 s4 i5 i6 l7 g8 ra rb)) ∧
    (¬ (i < i2) →
     (I64 (10*i1)) ∧
     (I64 ((10*i1)+((b9.toNat:Int) - 48))) ∧
     (I64 (i2+1)) ∧
     zb9 s i ((10*i1)+((b9.toNat:Int) - 48)) (i2+1) i3 s4 i5 i6 l7 g8 ra rb))) ∧
  (¬ (r10=true) →
   (I64 (i2 - i)) ∧
   (Token.mk 1 [] i1 [] i)=ra∧(i2 - i)=rb)) ∧
 (¬ (i2 < (s.length:Int)) →
  (I64 (i2 - i)) ∧
  (Token.mk 1 [] i1 [] i)=ra∧(i2 - i)=rb)):zb9 s i i1 i2 i3 s4 i5 i6 l7 g8 ra rb:=by
 intro S e f h
 unfold zm7
 rw[zm]
 have F:=zsa
 replace F:=aa h<|F
 by_cases c1:i2 < (s.length:Int)
 ·replace T:=T.1 c1
  obtain⟨p2,b9,q3,r10,q4,T⟩:=T
  simp only[zdi,lF] at q4
  replace F:=aa (eq_true c1)<|aa p2<|aa q3<|aa q4<|F
  by_cases c5:r10=true
  ·replace T:=T.1 c5
   obtain⟨p6,p7,p8,p9,T⟩:=T
   replace F:=aa c5<|aa p6.wrap<|aa p7.wrap<|aa p8.wrap<|aa p9.wrap<|F
   by_cases c10:((9223372036854775807 - ((b9.toNat:Int) - 48)).tdiv 10) < i1
   ·replace T:=T.1 c10
    obtain⟨rfl,rfl⟩:=T
    exact fi (aa (eq_true c10)<|F)
   replace T:=T.2 c10
   replace F:=aa (eq_false c10)<|F
   by_cases c11:i < i2
   ·replace T:=T.1 c11
    replace F:=aa (eq_true c11)<|F
    by_cases c12:i1=0
    ·replace T:=T.1 c12
     obtain⟨rfl,rfl⟩:=T
     exact fi (aa (eq_true c12)<|F)
    replace T:=T.2 c12
    obtain⟨p13,p14,p15,T⟩:=T
    replace F:=aa (eq_false c12)<|aa p13.wrap<|aa p14.wrap<|aa p15.wrap<|F
    exact lo F T
   replace T:=T.2 c11
   obtain⟨p16,p17,p18,T⟩:=T
   replace F:=aa (eq_false c11)<|aa p16.wrap<|aa p17.wrap<|aa p18.wrap<|F
   exact lo F T
  replace T:=T.2 c5
  replace c5:=Bool.eq_false_iff.2 c5
  obtain⟨p19,rfl,rfl⟩:=T
  exact fi (aa c5<|aa p19.wrap<|F)
 replace T:=T.2 c1
 obtain⟨p20,rfl,rfl⟩:=T
 exact fi (aa (eq_false c1)<|aa p20.wrap<|F)
theorem zmj (s:List UInt8) (i:Int) (ra:Token) (rb:Int) (T :
  zb9 s i 0 i 0 [] 0 0 [] 0 ra rb):zkT s i ra rb:=by
 intro S
 rw[zd zwW _ _ rfl]
 have F:=zsa
 exact rn F T
theorem zwy:SP 154=some (.code sc_Q154):=ze rfl Tryz.func154 comp_Q154
theorem zsQ (s:List UInt8) (i:Int) (r:Int) (T :
  (I64 (i+2)) ∧
 ∃ (r1:Int),(zfg s (i+2) r1) ∧
 (I64 (i+2)) ∧
 ((r1=(i+2)) →
  0=r) ∧
 (¬ (r1=(i+2)) →
  (((s.length:Int)≤r1) →
   0=r) ∧
  (¬ ((s.length:Int)≤r1) →
   (0≤r1) ∧
   ∃ (b2:UInt8),(s[r1.toNat]?=some b2) ∧
   (((b2.toNat:Int)=46) →
    (I64 (r1+1)) ∧
    ∃ (r3:Int),(zfg s (r1+1) r3) ∧
    (I64 (r1+1)) ∧
    ((r3=(r1+1)) →
     0=r) ∧
    (¬ (r3=(r1+1)) →
     (((s.length:Int)≤r3) →
      0=r) ∧
     (¬ ((s.length:Int)≤r3) →
      (0≤r3) ∧
      ∃ (b4:UInt8),(s[r3.toNat]?=some b4) ∧
      (((b4.toNat:Int)=125) →
       (I64 (i+2)) ∧
       (0≤(i+2))∧(0≤r3)∧((i+2).toNat≤r3.toNat)∧(r3.toNat≤s.length) ∧
       ∃ (r5:Bool),(zqg ((s.drop ((i+2).toNat)).take (r3.toNat - ((i+2).toNat))) r5) ∧
       ((r5=true) →
        (I64 (r3+1)) ∧
        (I64 ((r3+1) - i)) ∧
        ((r3+1) - i)=r) ∧
       (¬ (r5=true) →
        0=r)) ∧
      (¬ ((b4.toNat:Int)=125) →
       0=r)))) ∧
   (¬ ((b2.toNat:Int)=46) →
    0=r)))):znH s i r:=by
 intro S
 rw[zd zwy _ _ rfl]
 have F:=zyo
 exact rn F T
theorem zxo:SP 124=some (.code sc_Q124):=ze rfl Tryz.func124 comp_Q124
def zO (s:List UInt8) (i:Int) (i1:Int) (i2:Int) (s3:List UInt8) (i4:Int) (i5:Int) (l6:List Part) (g7:Nat) (l8:List Part) (l9:List UInt8) (ra:Token) (rb:Int):Prop:=∀ (S:Sto) (e:Nat→PV) (f:Fr),e 0=.str s∧e 1=.int .i64 i∧e 4=.ptr 0 4 0∧e 6=.sl 0 (.slot 6) 0 l8.length l8.length 0 false∧e 7=.sl 0 (.slot 7) 0 l9.length l9.length 0 false∧e 8=.int .i64 i1∧f.box 4=some [.int .i64 i2,.str s3,.int .i64 i4,.sl 0 (.cell 4 3) 0 l6.length l6.length g7 false,.int .i64 i5]∧f.arr (.cell 4 3)=some ⟨2,l6.map ePart,false,g7⟩∧f.arr (.slot 6)=some ⟨2,l8.map ePart,false,0⟩∧f.arr (.slot 7)=some ⟨1,l9.map eB,false,0⟩→znl SP (E SP (.loop b_Q124_1) ⟨e,f::S⟩)=.ok (.v (.tup [.agg [.int .i64 ra.Kind,.str ra.Text,.int .i64 ra.Num,.list 2 (ra.Parts.map ePart) false,.int .i64 ra.At],.int .i64 rb])) S
theorem zau (s:List UInt8) (i:Int) (i1:Int) (i2:Int) (s3:List UInt8) (i4:Int) (i5:Int) (l6:List Part) (g7:Nat) (l8:List Part) (l9:List UInt8) (ra:Token) (rb:Int) (T :
  ((i1 < (s.length:Int)) →
  (0≤i1) ∧
  ∃ (b10:UInt8),(s[i1.toNat]?=some b10) ∧
  (((b10.toNat:Int)=34) →
   ((0 < (l9.length:Int)) →
    (bigRow (l8.length+1) 24) ∧
    (I64 (i1+1)) ∧
    (I64 ((i1+1) - i)) ∧
    (Token.mk 2 [] 0 (l8++[(Part.mk false l9)]) i)=ra∧((i1+1) - i)=rb) ∧
   (¬ (0 < (l9.length:Int)) →
    (I64 (i1+1)) ∧
    (I64 ((i1+1) - i)) ∧
    (Token.mk 2 [] 0 l8 i)=ra∧((i1+1) - i)=rb)) ∧
  (¬ ((b10.toNat:Int)=34) →
   (((b10.toNat:Int) < 32) →
    (Token.mk 0 [] 0 [] 0)=ra∧0=rb) ∧
   (¬ ((b10.toNat:Int) < 32) →
    (((b10.toNat:Int)=92) →
     (I64 (i1+1)) ∧
     (((s.length:Int)≤(i1+1)) →
      (Token.mk 0 [] 0 [] 0)=ra∧0=rb) ∧
     (¬ ((s.length:Int)≤(i1+1)) →
      (0≤(i1+1)) ∧
      ∃ (b11:UInt8),(s[(i1+1).toNat]?=some b11) ∧
      (((b11.toNat:Int)=34) →
       (bigRow (l9.length+1) 1) ∧
       (I64 ((i1+1)+1)) ∧
       zO s i ((i1+1)+1) i2 s3 i4 i5 l6 g7 l8 (l9++[b11]) ra rb) ∧
      (¬ ((b11.toNat:Int)=34) →
       (((b11.toNat:Int)=92) →
        (bigRow (l9.length+1) 1) ∧
        (I64 ((i1+1)+1)) ∧
        zO s i ((i1+1)+1) i2 s3 i4 i5 l6 g7 l8 (l9++[b11]) ra rb) ∧
       (¬ ((b11.toNat:Int)=92) →
        (((b11.toNat:Int)=36) →
         (bigRow (l9.length+1) 1) ∧
         (I64 ((i1+1)+1)) ∧
         zO s i ((i1+1)+1) i2 s3 i4 i5 l6 g7 l8 (l9++[b11]) ra rb) ∧
        (¬ ((b11.toNat:Int)=36) →
         (((b11.toNat:Int)=110) →
          (bigRow (l9.length+1) 1) ∧
          (I64 ((i1+1)+1)) ∧
          zO s i ((i1+1)+1) i2 s3 i4 i5 l6 g7 l8 (l9++[(10:UInt8)]) ra rb) ∧
         (¬ ((b11.toNat:Int)=110) →
          (Token.mk 0 [] 0 [] 0)=ra∧0=rb)))))) ∧
    (¬ ((b10.toNat:Int)=92) →
     (((b10.toNat:Int)=36) →
      (I64 (i1+1)) ∧
      (((i1+1) < (s.length:Int)) →
       (I64 (i1+1)) ∧
       (0≤(i1+1)) ∧
       ∃ (b12:UInt8),(s[(i1+1).toNat]?=some b12) ∧
       (((b12.toNat:Int)=123) →
        ∃ (r13:Int),(znH s i1 r13) ∧
        ((r13=0) →
         (Token.mk 0 [] 0 [] 0)=ra∧0=rb) ∧
        (¬ (r13=0) →
         ((0 < (l9.length:Int)) →
          (bigRow (l8.length+1) 24) ∧
          (I64 (i1+2)) ∧
          (I64 (i1+r13)) ∧
          (I64 ((i1+r13) - 1)) ∧
          (0≤(i1+2))∧(0≤((i1+r13) - 1))∧((i1+2).toNat≤((i1+r13) - 1).toNat)∧(((i1+r13) - 1).toNat≤s.length) ∧
          (bigRow (l8.length+2) 24) ∧
          (I64 (i1+r13)) ∧
          (I64 ((i1+r13) - 1)) ∧
          (I64 (((i1+r13) - 1)+1)) ∧
          zO s i (((i1+r13) - 1)+1) i2 s3 i4 i5 l6 g7 (l8++[(Part.mk false l9),(Part.mk true ((s.drop ((i1+2).toNat)).take (((i1+r13) - 1).toNat - ((i1+2).toNat))))]) [] ra rb) ∧
         (¬ (0 < (l9.length:Int)) →
          (I64 (i1+2)) ∧
          (I64 (i1+r13)) ∧
          (I64 ((i1+r13) - 1)) ∧
          (0≤(i1+2))∧(0≤((i1+r13) - 1))∧((i1+2).toNat≤((i1+r13) - 1).toNat)∧(((i1+r13) - 1).toNat≤s.length) ∧
          (bigRow (l8.length+1) 24) ∧
          (I64 (i1+r13)) ∧
          (I64 ((i1+r13) - 1)) ∧
          (I64 (((i1+r13) - 1)+1)) ∧
          zO s i (((i1+r13) - 1)+1) i2 s3 i4 i5 l6 g7 (l8++[(Part.mk true ((s.drop ((i1+2).toNat)).take (((i1+r13) - 1).toNat - ((i1+2).toNat))))]) l9 ra rb))) ∧
       (¬ ((b12.toNat:Int)=123) →
        (bigRow (l9.length+1) 1) ∧
        (I64 (i1+1)) ∧
        zO s i (i1+1) i2 s3 i4 i5 l6 g7 l8 (l9++[b10]) ra rb)) ∧
      (¬ ((i1+1) < (s.length:Int)) →
       (bigRow (l9.length+1) 1) ∧
       (I64 (i1+1)) ∧
       zO s i (i1+1) i2 s3 i4 i5 l6 g7 l8 (l9++[b10]) ra rb)) ∧
     (¬ ((b10.toNat:Int)=36) →
      (bigRow (l9.length+1) 1) ∧
      (I64 (i1+1)) ∧
      zO s i (i1+1) i2 s3 i4 i5 l6 g7 l8 (l9++[b10]) ra rb))))) ∧
 (¬ (i1 < (s.length:Int)) →
  (Token.mk 0 [] 0 [] 0)=ra∧0=rb)):zO s i i1 i2 s3 i4 i5 l6 g7 l8 l9 ra rb:=by
 intro S e f h
 unfold znl
 rw[zm]
 have F:=zrp
 exact rn (aa h<|F) T
theorem zl4 (s:List UInt8) (i:Int) (ra:Token) (rb:Int) (T :
  (I64 (i+1)) ∧
 zO s i (i+1) 0 [] 0 0 [] 0 [] [] ra rb):zkN s i ra rb:=by
 intro S
 rw[zd zxo _ _ rfl]
 have F:=zrp
 exact rn F T
theorem zyn:SP 85=some (.code sc_Q85):=ze rfl Tryz.func85 comp_Q85
theorem zcX (s:List UInt8) (i:Int) (ra:Token) (rb:Int) (T :
  (0≤i) ∧
 ∃ (b1:UInt8),(s[i.toNat]?=some b1) ∧
 ∃ (r2:Bool),(zdi b1 r2) ∧
 ((r2=true) →
  ∃ (r3:Token) (r4:Int),(zkT s i r3 r4) ∧
  r3=ra∧r4=rb) ∧
 (¬ (r2=true) →
  (((b1.toNat:Int)=34) →
   ∃ (r5:Token) (r6:Int),(zkN s i r5 r6) ∧
   r5=ra∧r6=rb) ∧
  (¬ ((b1.toNat:Int)=34) →
   ∃ (r7:Bool),(ziN b1 r7) ∧
   ((r7=true) →
    ∃ (r8:Int),(zfg s i r8) ∧
    (I64 (r8 - i)) ∧
    ((24 < (r8 - i)) →
     (Token.mk 0 [] 0 [] 0)=ra∧0=rb) ∧
    (¬ (24 < (r8 - i)) →
     (0≤i)∧(0≤r8)∧(i.toNat≤r8.toNat)∧(r8.toNat≤s.length) ∧
     (I64 (r8 - i)) ∧
     (Token.mk 3 ((s.drop i.toNat).take (r8.toNat - i.toNat)) 0 [] i)=ra∧(r8 - i)=rb)) ∧
   (¬ (r7=true) →
    ∃ (r9:List UInt8),(zof s i r9) ∧
    (Token.mk 4 r9 0 [] i)=ra∧(r9.length:Int)=rb)))):zmH s i ra rb:=by
 intro S
 rw[zd zyn _ _ rfl]
 have F:=zAI
 exact rn F T
theorem zx0:SP 43=some (.code sc_Q43):=ze rfl Tryz.func43 comp_Q43
def zg3 (a:List Part) (b:List Part) (i1:Int) (r:Bool):Prop:=∀ (S:Sto) (e:Nat→PV) (f:Fr),e 0=.list 2 (a.map ePart) false∧e 1=.list 2 (b.map ePart) false∧e 5=.int .i64 i1→zph SP (E SP (.loop b_Q43_1) ⟨e,f::S⟩)=.ok (.v (.bool r)) S
theorem zhK (a:List Part) (b:List Part) (i1:Int) (r:Bool) (T :
  ((i1 < (a.length:Int)) →
  (0≤i1) ∧
  ∃ (v2:Part),(a[i1.toNat]?=some v2) ∧
  (0≤i1) ∧
  ∃ (v3:Part),(b[i1.toNat]?=some v3) ∧
  (((v2.Ref=v3.Ref)∧(v2.Text=v3.Text)) →
   (I64 (i1+1)) ∧
   zg3 a b (i1+1) r) ∧
  (¬ ((v2.Ref=v3.Ref)∧(v2.Text=v3.Text)) →
   false=r)) ∧
 (¬ (i1 < (a.length:Int)) →
  true=r)):zg3 a b i1 r:=by
 intro S e f h
 unfold zph
 rw[zm]
 have F:=zvB
 replace F:=aa h<|F
 by_cases c1:i1 < (a.length:Int)
 ·replace T:=T.1 c1
  obtain⟨p2,v2,q3,p4,v3,q5,T⟩:=T
  replace F:=aa (eq_true c1)<|aa p2<|aa q3<|aa p4<|aa q5<|F
  by_cases c6:(v2.Ref=v3.Ref)∧(v2.Text=v3.Text)
  ·replace T:=T.1 c6
   obtain⟨p7,T⟩:=T
   replace F:=aa (eq_true c6.1)<|aa (eq_true c6.2)<|aa p7.wrap<|F
   exact lo F T
  replace T:=T.2 c6
  have c6':(decide (v2.Ref=v3.Ref) && (decide (v2.Text=v3.Text)))=false:=by simp only[←Bool.not_eq_true,Bool.and_eq_true,decide_eq_true_eq];first | exact c6 | simpa using c6
  obtain rfl:=T
  exact fi (aa c6'<|F)
 replace T:=T.2 c1
 obtain rfl:=T
 exact fi (aa (eq_false c1)<|F)
theorem zuF (a:List Part) (b:List Part) (r:Bool) (T :
  (((a.length:Int)=(b.length:Int)) →
  zg3 a b 0 r) ∧
 (¬ ((a.length:Int)=(b.length:Int)) →
  false=r)):zqa a b r:=by
 intro S
 rw[zd zx0 _ _ rfl]
 have F:=zvB
 exact rn F T
theorem zy4:SP 54=some (.code sc_Q54):=ze rfl Tryz.func54 comp_Q54
def zce (s:List UInt8) (i1:Int) (i2:Int) (l3:List Token) (g4:Nat) (l5:List Token) (r:Tokens):Prop:=∀ (S:Sto) (e:Nat→PV) (f:Fr),e 0=.str s∧e 2=.ptr 0 2 0∧e 3=.sl 0 (.slot 3) 0 l5.length l5.length 0 false∧e 4=.int .i64 i1∧f.box 2=some [.sl 0 (.cell 2 0) 0 l3.length l3.length g4 false,.int .i64 i2]∧f.arr (.cell 2 0)=some ⟨5,l3.map eToken,false,g4⟩∧f.arr (.slot 3)=some ⟨5,l5.map eToken,false,0⟩→zpf SP (E SP (.loop b_Q54_1) ⟨e,f::S⟩)=.ok (.v (.agg [.list 5 (r.L.map eToken) false,.int .i64 r.E])) S
def zhk (s:List UInt8) (i2:Int) (l3:List Token) (g4:Nat) (l5:List Token) (i7:Int) (r:Tokens):Prop:=∀ (S:Sto) (e:Nat→PV) (f:Fr),e 0=.str s∧e 2=.ptr 0 2 0∧e 3=.sl 0 (.slot 3) 0 l5.length l5.length 0 false∧e 4=.int .i64 i7∧f.box 2=some [.sl 0 (.cell 2 0) 0 l3.length l3.length g4 false,.int .i64 i2]∧f.arr (.cell 2 0)=some ⟨5,l3.map eToken,false,g4⟩∧f.arr (.slot 3)=some ⟨5,l5.map eToken,false,0⟩→zpb SP (E SP (.loop b_Q54_2) ⟨e,f::S⟩)=.ok (.v (.agg [.list 5 (r.L.map eToken) false,.int .i64 r.E])) S
theorem zcr (s:List UInt8) (i1:Int) (i2:Int) (l3:List Token) (g4:Nat) (l5:List Token) (r:Tokens) (T :
  ((i1 < (s.length:Int)) →
  (0≤i1) ∧
  ∃ (b6:UInt8),(s[i1.toNat]?=some b6) ∧
  (((b6.toNat:Int)=32) →
   (I64 (i1+1)) ∧
   zce s (i1+1) i2 l3 g4 l5 r) ∧
  (¬ ((b6.toNat:Int)=32) →
   (((b6.toNat:Int)=10) →
    (I64 (i1+1)) ∧
    zce s (i1+1) i2 l3 g4 l5 r) ∧
   (¬ ((b6.toNat:Int)=10) →
    (((b6.toNat:Int)=35) →
     zhk s i2 l3 g4 l5 i1 r) ∧
    (¬ ((b6.toNat:Int)=35) →
     ∃ (r8:Token) (r9:Int),(zmH s i1 r8 r9) ∧
     ((r9=0) →
      (Tokens.mk [] 5)=r) ∧
     (¬ (r9=0) →
      (bigRow (l5.length+1) 64) ∧
      (I64 (i1+r9)) ∧
      zce s (i1+r9) i2 l3 g4 (l5++[r8]) r))))) ∧
 (¬ (i1 < (s.length:Int)) →
  (bigRow (l5.length+1) 64) ∧
  (Tokens.mk (l5++[(Token.mk 0 [] 0 [] (s.length:Int))]) 0)=r)):zce s i1 i2 l3 g4 l5 r:=by
 intro S e f h
 unfold zpf
 rw[zm]
 have F:=zqu
 exact rn (aa h<|F) T
theorem zhR (s:List UInt8) (i2:Int) (l3:List Token) (g4:Nat) (l5:List Token) (i7:Int) (r:Tokens) (T :
  ((i7 < (s.length:Int)) →
  (0≤i7) ∧
  ∃ (b10:UInt8),(s[i7.toNat]?=some b10) ∧
  (((b10.toNat:Int)=10) →
   zce s i7 i2 l3 g4 l5 r) ∧
  (¬ ((b10.toNat:Int)=10) →
   (I64 (i7+1)) ∧
   zhk s i2 l3 g4 l5 (i7+1) r)) ∧
 (¬ (i7 < (s.length:Int)) →
  zce s i7 i2 l3 g4 l5 r)):zhk s i2 l3 g4 l5 i7 r:=by
 intro S e f h
 unfold zpb
 rw[zm]
 have F:=zqu
 exact rn (aa h<|F) T
theorem zmW (s:List UInt8) (r:Tokens) (T :
  ((6000 < (s.length:Int)) →
  (Tokens.mk [] 4)=r) ∧
 (¬ (6000 < (s.length:Int)) →
  zce s 0 0 [] 0 [] r)):zf3 s r:=by
 intro S
 rw[zd zy4 _ _ rfl]
 have F:=zqu
 exact rn F T
end Go.Proofs.YtfbcnpbhhooapaaGreatDoor.M
namespace Go.Proofs.YtfbcnpbhhooapaaGreatDoor.M
open Go
def c_Q97_1:SC:=.block 1 (.seq (.reg [mO 17 0,nO 18 17,fO 19 0 18,fO 20 0 19,lO 21 20,kO 22 112 [(.t 21),(.c (.str [10]))],mO 16 22,vO 23 (.extract 0 (.t 16)),vO 24 (.extract 1 (.t 16)),vO 25 (.extract 2 (.t 16)),mO 2 23,mO 3 24,mO 4 25]) (.seq (.reg [mO 26 0,nO 27 26,fO 28 0 27,mO 29 2,vO 30 (.len true (.t 29)),kO 31 135 [(.t 28),(.t 30)]]) (.reg [mO 32 0,nO 33 32,fO 34 0 33,⟨some 35,none,.bslice 1 1 [(.int .i64 0)] [(0,(cI 1))]⟩,kO 36 134 [(.t 34),(.t 35)]])))
def b_Q97_1:SC:=.seq (.seq (.reg [mO 10 0,nO 11 10,fO 12 0 11,fO 13 0 12,lO 14 13,kO 15 129 [(.t 14),(.c (.str [35]))]]) (.cond (.t 15) .skip (.exit 0))) c_Q97_1
def c_Q97_2:SC:=.block 0 (.loop b_Q97_1)
def sc_Q97:zh:=⟨1,37,.seq (.reg [mO 5 0,nO 6 5,fO 7 0 6,⟨some 8,none,.bslice 1 1 [(.int .i64 0)] [(0,(cI 1))]⟩,kO 9 134 [(.t 7),(.t 8)]]) c_Q97_2,[]⟩
noncomputable def zo1 (SP:Prg) (x:EO):CO:=fin [] (zx 0 (x))
theorem zvi:type_of% (aI (ue c_Q97_1.eq_1)<|aI (ue b_Q97_1.eq_1)<|aI (ue c_Q97_2.eq_1)<|sc_Q97.eq_1):=aI (ue c_Q97_1.eq_1)<|aI (ue b_Q97_1.eq_1)<|aI (ue c_Q97_2.eq_1)<|sc_Q97.eq_1
theorem comp_Q97:comp Tryz.prog Tryz.f97=some sc_Q97:=by kernel_rfl
def sc_Q138:zh:=⟨1,14,.seq (.reg [⟨some 2,none,.alloc [(.int .i64 0),(.str []),(.int .i64 0),(.nils 2),(.int .i64 0)]⟩,vO 3 (.mov (.c (.bool false)))]) (.seq (.reg [mO 5 0,nO 6 5,fO 7 0 6,⟨some 8,none,.bslice 1 2 [(.int .i64 0)] [(0,(cI 2)),(1,(cI 3))]⟩,kO 9 134 [(.t 7),(.t 8)],mO 4 9]) (.seq (.reg [mO 10 4,vO 11 (.build [(.int .i64 0),(.str []),(.int .i64 0),(.nils 2),(.int .i64 0)] [(0,1,(cI 3)),(1,1,(.t 10))]),mO 12 4,kO 13 115 [(.t 12)],sO 5 2 11,mO 3 13]) .ret)),[(.cell 2 (some 5)),(.t 3)]⟩
theorem zyj:type_of% (sc_Q138.eq_1):=sc_Q138.eq_1
theorem comp_Q138:comp Tryz.prog Tryz.f138=some sc_Q138:=by kernel_rfl
def c_Q139_1:SC:=.seq (.reg [mO 7 0,nO 8 7,fO 9 0 8,⟨some 10,none,.bslice 1 1 [(.int .i64 0)] [(0,(cI 3))]⟩,kO 11 134 [(.t 9),(.t 10)],mO 4 11]) (.seq (.reg [mO 13 4,kO 14 163 [(.t 13)],mO 12 14,vO 15 (.extract 0 (.t 12)),vO 16 (.extract 1 (.t 12)),mO 5 15,mO 6 16]) (.seq (.reg [mO 17 5,vO 18 (.build [(.int .i64 0),(.str []),(.int .i64 0),(.nils 2),(.int .i64 0)] [(0,1,(cI 1)),(2,1,(.t 17))]),mO 19 6,vO 20 (.isnile false (.t 19)),mO 21 20,gO 22 21 true (.mov (.t 5)),⟨some 23,some (21,true),.call (.c (.func 106 [])) [(.t 22)]⟩,gO 24 21 true (.mov (.t 4)),gO 25 21 true (.bin .eql (.t 23) (.t 24)),vO 26 (.pick (.t 21) (.t 25) (.c (.bool false))),sO 5 2 18,mO 3 26]) .ret))
def sc_Q139:zh:=⟨1,27,.seq (.reg [⟨some 2,none,.alloc [(.int .i64 0),(.str []),(.int .i64 0),(.nils 2),(.int .i64 0)]⟩,vO 3 (.mov (.c (.bool false)))]) c_Q139_1,[(.cell 2 (some 5)),(.t 3)]⟩
theorem zx3:type_of% (aI (ue c_Q139_1.eq_1)<|sc_Q139.eq_1):=aI (ue c_Q139_1.eq_1)<|sc_Q139.eq_1
theorem comp_Q139:comp Tryz.prog Tryz.f139=some sc_Q139:=by kernel_rfl
def c_Q140_1:SC:=.seq (.reg [vO 98 (.build [(.int .i64 0),(.str []),(.int .i64 0),(.nils 2),(.int .i64 0)] []),sO 5 2 98,vO 3 (.mov (.c (.bool false)))]) .ret
def c_Q140_2:SC:=.seq (.seq (.reg [mO 83 9,uO 84 83]) (.cond (.t 84) (.seq (.reg [vO 85 (.build [(.int .i64 0),(.str []),(.int .i64 0),(.nils 2),(.int .i64 0)] []),sO 5 2 85,vO 3 (.mov (.c (.bool false)))]) .ret) .skip)) (.seq (.reg [lO 86 4,mO 87 8,vO 88 (.build [(.bool false),(.str [])] [(0,1,(.c (.bool true))),(1,1,(.t 87))]),⟨some 89,none,.bslice 2 1 [(.bool false),(.str [])] [(0,(.t 88))]⟩,⟨some 90,none,.append 2 24 (.t 86) (.t 89)⟩,sO 1 4 90]) (.reg [mO 91 0,nO 92 91,fO 93 0 92,mO 94 8,vO 95 (.len true (.t 94)),vO 96 (.bin .add (cI 3) (.t 95)),kO 97 135 [(.t 93),(.t 96)]]))
def c_Q140_3:SC:=.cond (.t 67) (.seq (.reg [mO 75 0,nO 76 75,fO 77 0 76,fO 78 0 77,lO 79 78,kO 80 166 [(.t 79)],mO 74 80,vO 81 (.extract 0 (.t 74)),vO 82 (.extract 1 (.t 74)),mO 8 81,mO 9 82]) c_Q140_2) (.seq (.reg [mO 26 5,kO 27 165 [(.t 4),(.t 26)]]) (.reg [mO 28 0,nO 29 28,fO 30 0 29,kO 31 135 [(.t 30),(cI 1)]]))
def c_Q140_4:SC:=.cond (.t 46) (.seq (.reg [mO 50 0,nO 51 50,fO 52 0 51,fO 53 0 52,lO 54 53,kO 55 164 [(.t 54)],mO 49 55,vO 56 (.extract 0 (.t 49)),vO 57 (.extract 1 (.t 49)),mO 6 56,mO 7 57]) (.seq (.seq (.reg [mO 58 7,uO 59 58]) (.cond (.t 59) (.seq (.reg [vO 60 (.build [(.int .i64 0),(.str []),(.int .i64 0),(.nils 2),(.int .i64 0)] []),sO 5 2 60,vO 3 (.mov (.c (.bool false)))]) .ret) .skip)) (.seq (.reg [mO 61 6,kO 62 165 [(.t 4),(.t 61)]]) (.reg [mO 63 0,nO 64 63,fO 65 0 64,kO 66 135 [(.t 65),(cI 2)]])))) (.seq (.reg [mO 68 0,nO 69 68,fO 70 0 69,fO 71 0 70,lO 72 71,kO 73 129 [(.t 72),(.c (.str [36,123]))],mO 67 73]) c_Q140_3)
def c_Q140_5:SC:=.cond (.t 42) (.seq (.reg [vO 45 (.build [(.int .i64 0),(.str []),(.int .i64 0),(.nils 2),(.int .i64 0)] []),sO 5 2 45,vO 3 (.mov (.c (.bool false)))]) .ret) (.seq (.reg [mO 47 5,vO 48 (.bin .eql (.t 47) (.c (.int .u8 92))),mO 46 48]) c_Q140_4)
def c_Q140_6:SC:=.cond (.t 32) (.seq (.reg [mO 36 0,nO 37 36,fO 38 0 37,kO 39 135 [(.t 38),(cI 1)]]) (.seq (.reg [lO 40 4,vO 41 (.build [(.int .i64 0),(.str []),(.int .i64 0),(.nils 2),(.int .i64 0)] [(0,1,(cI 2)),(3,1,(.t 40))]),sO 5 2 41,vO 3 (.mov (.c (.bool true)))]) .ret)) (.seq (.reg [mO 43 5,vO 44 (.bin .lss (.t 43) (.c (.int .u8 32))),mO 42 44]) c_Q140_5)
def c_Q140_7:SC:=.block 2 (.seq (.reg [mO 33 5,kO 34 137 [(.t 33)],bC 35 .eql 34 4,mO 32 35]) c_Q140_6)
def c_Q140_8:SC:=.block 1 (.seq (.reg [mO 20 0,nO 21 20,fO 22 0 21,fO 23 0 22,lO 24 23,vO 25 (.istr (.t 24) (cI 0)),mO 5 25]) c_Q140_7)
def b_Q140_1:SC:=.seq (.seq (.reg [mO 14 0,nO 15 14,fO 16 0 15,fO 17 0 16,lO 18 17,vO 19 (.bin .neq (.t 18) (.c (.str [])))]) (.cond (.t 19) .skip (.exit 0))) c_Q140_8
def c_Q140_9:SC:=.seq (.block 0 (.loop b_Q140_1)) c_Q140_1
def c_Q140_10:SC:=.seq (.reg [mO 10 0,nO 11 10,fO 12 0 11,kO 13 135 [(.t 12),(cI 1)]]) c_Q140_9
def c_Q140_11:SC:=.seq (.reg [⟨some 4,none,.alloc [(.nils 2)]⟩]) c_Q140_10
def sc_Q140:zh:=⟨1,99,.seq (.reg [⟨some 2,none,.alloc [(.int .i64 0),(.str []),(.int .i64 0),(.nils 2),(.int .i64 0)]⟩,vO 3 (.mov (.c (.bool false)))]) c_Q140_11,[(.cell 2 (some 5)),(.t 3)]⟩
noncomputable def zne (SP:Prg) (x:EO):CO:=fin [(.cell 2 (some 5)),(.t 3)] (thC SP (zx 0 (x)) c_Q140_1)
theorem zr3:type_of% (aI (ue c_Q140_1.eq_1)<|aI (ue c_Q140_2.eq_1)<|aI (ue c_Q140_3.eq_1)<|aI (ue c_Q140_4.eq_1)<|aI (ue c_Q140_5.eq_1)<|aI (ue c_Q140_6.eq_1)<|aI (ue c_Q140_7.eq_1)<|aI (ue c_Q140_8.eq_1)<|aI (ue b_Q140_1.eq_1)<|aI (ue c_Q140_9.eq_1)<|aI (ue c_Q140_10.eq_1)<|aI (ue c_Q140_11.eq_1)<|sc_Q140.eq_1):=aI (ue c_Q140_1.eq_1)<|aI (ue c_Q140_2.eq_1)<|aI (ue c_Q140_3.eq_1)<|aI (ue c_Q140_4.eq_1)<|aI (ue c_Q140_5.eq_1)<|aI (ue c_Q140_6.eq_1)<|aI (ue c_Q140_7.eq_1)<|aI (ue c_Q140_8.eq_1)<|aI (ue b_Q140_1.eq_1)<|aI (ue c_Q140_9.eq_1)<|aI (ue c_Q140_10.eq_1)<|aI (ue c_Q140_11.eq_1)<|sc_Q140.eq_1
theorem comp_Q140:comp Tryz.prog Tryz.f140=some sc_Q140:=by kernel_rfl
def c_Q136_1:SC:=.seq (.reg [mO 28 0,nO 29 28,fO 30 0 29,mO 31 4,vO 32 (.len true (.t 31)),kO 33 135 [(.t 30),(.t 32)],vO 34 (.build [(.int .i64 0),(.str []),(.int .i64 0),(.nils 2),(.int .i64 0)] [(0,1,(cI 4)),(1,1,(.t 33))]),sO 5 2 34,vO 3 (.mov (.c (.bool true)))]) .ret
def c_Q136_2:SC:=.seq (.seq (.reg [⟨some 18,none,.bslice 1 6 [(.str [])] [(0,(.c (.str [61,61]))),(1,(.c (.str [33,61]))),(2,(.c (.str [60,61]))),(3,(.c (.str [62,61]))),(4,(.c (.str [38,38]))),(5,(.c (.str [124,124])))]⟩,mO 19 4,kO 20 161 [(.t 18),(.t 19)],uO 21 20]) (.cond (.t 21) (.seq (.reg [mO 22 4,vO 23 (.sls (.t 22) none (some (cI 1))),mO 4 23]) (.seq (.reg [mO 24 4,kO 25 162 [(.c (.str [123,125,91,93,40,41,61,44,46,43,45,42,47,37,60,62,33,63,58])),(.t 24)],uO 26 25]) (.cond (.t 26) (.seq (.reg [vO 27 (.build [(.int .i64 0),(.str []),(.int .i64 0),(.nils 2),(.int .i64 0)] []),sO 5 2 27,vO 3 (.mov (.c (.bool false)))]) .ret) .skip))) .skip)) c_Q136_1
def c_Q136_3:SC:=.seq (.dreg [mO 5 0,nO 6 5,fO 7 0 6,fO 8 0 7,lO 9 8,mO 10 0,nO 11 10,fO 12 0 11,fO 13 0 12,lO 14 13,vO 15 (.len true (.t 14)),vO 16 (.mm false (cI 2) (.t 15)),vO 17 (.sls (.t 9) none (some (.t 16))),mO 4 17] [false,false,false,false,false,false,false,false,false,false,false,false,true,true]) c_Q136_2
def sc_Q136:zh:=⟨1,35,.seq (.reg [⟨some 2,none,.alloc [(.int .i64 0),(.str []),(.int .i64 0),(.nils 2),(.int .i64 0)]⟩,vO 3 (.mov (.c (.bool false)))]) c_Q136_3,[(.cell 2 (some 5)),(.t 3)]⟩
theorem zzq:type_of% (aI (ue c_Q136_1.eq_1)<|aI (ue c_Q136_2.eq_1)<|aI (ue c_Q136_3.eq_1)<|sc_Q136.eq_1):=aI (ue c_Q136_1.eq_1)<|aI (ue c_Q136_2.eq_1)<|aI (ue c_Q136_3.eq_1)<|sc_Q136.eq_1
theorem comp_Q136:comp Tryz.prog Tryz.f136=some sc_Q136:=by kernel_rfl
def c_Q98_1:SC:=.seq (.reg [mO 34 4,⟨some 35,none,.call (.t 34) []⟩,mO 33 35,vO 36 (.extract 0 (.t 33)),vO 37 (.extract 1 (.t 33)),⟨some 5,none,.alloc [(.int .i64 0),(.str []),(.int .i64 0),(.nils 2),(.int .i64 0)]⟩,sO 5 5 36,mO 6 37]) (.seq (.reg [mO 38 3,fO 39 4 5,sO 1 39 38]) (.seq (.dreg [mO 40 0,mO 41 0,nO 42 41,fO 43 2 42,lO 44 43,vO 45 (.load (some 5) (.t 5)),⟨some 46,none,.bslice 5 1 [(.int .i64 0),(.str []),(.int .i64 0),(.nils 2),(.int .i64 0)] [(0,(.t 45))]⟩,⟨some 47,none,.append 5 64 (.t 44) (.t 46)⟩,nO 48 40,fO 49 2 48,sO 1 49 47] [false,false,false,false,false,false,false,true,true,true,true]) (.seq (.reg [mO 50 6,mO 2 50]) .ret)))
def c_Q98_2:SC:=.seq (.seq (.reg [mO 14 0,nO 15 14,fO 16 0 15,fO 17 0 16,lO 18 17,vO 19 (.istr (.t 18) (cI 0)),kO 20 137 [(.t 19)]]) (.block 0 (.seq (.reg [bC 22 .eql 20 2,mO 21 22]) (.cond (.t 21) (.reg [mO 23 0,vO 24 (.meth 138 [(.t 23)]),mO 4 24]) (.seq (.reg [bC 26 .eql 20 3,mO 25 26]) (.cond (.t 25) (.reg [mO 27 0,vO 28 (.meth 139 [(.t 27)]),mO 4 28]) (.seq (.reg [bC 30 .eql 20 4,mO 29 30]) (.cond (.t 29) (.reg [mO 31 0,vO 32 (.meth 140 [(.t 31)]),mO 4 32]) .skip)))))))) c_Q98_1
def c_Q98_3:SC:=.seq (.reg [mO 12 0,vO 13 (.meth 136 [(.t 12)]),mO 4 13]) c_Q98_2
def c_Q98_4:SC:=.seq (.reg [mO 7 0,nO 8 7,fO 9 0 8,fO 10 1 9,lO 11 10,mO 3 11]) c_Q98_3
def sc_Q98:zh:=⟨1,51,.seq (.reg [vO 2 (.mov (.c (.bool false)))]) c_Q98_4,[(.t 2)]⟩
theorem zzS:type_of% (aI (ue c_Q98_1.eq_1)<|aI (ue c_Q98_2.eq_1)<|aI (ue c_Q98_3.eq_1)<|aI (ue c_Q98_4.eq_1)<|sc_Q98.eq_1):=aI (ue c_Q98_1.eq_1)<|aI (ue c_Q98_2.eq_1)<|aI (ue c_Q98_3.eq_1)<|aI (ue c_Q98_4.eq_1)<|sc_Q98.eq_1
theorem comp_Q98:comp Tryz.prog Tryz.f98=some sc_Q98:=by kernel_rfl
def c_Q60_1:SC:=.seq (.dreg [mO 25 4,nO 26 25,fO 27 2 26,lO 28 27,mO 29 4,nO 30 29,fO 31 0 30,fO 32 1 31,lO 33 32,vO 34 (.build [(.int .i64 0),(.str []),(.int .i64 0),(.nils 2),(.int .i64 0)] [(0,1,(cI 0)),(4,1,(.t 33))]),⟨some 35,none,.bslice 5 1 [(.int .i64 0),(.str []),(.int .i64 0),(.nils 2),(.int .i64 0)] [(0,(.t 34))]⟩,⟨some 36,none,.append 5 64 (.t 28) (.t 35)⟩,mO 2 36,vO 3 (.mov (cI 0))] [false,false,false,false,false,false,false,false,false,false,false,true,true,true]) .ret
def b_Q60_1:SC:=.seq (.seq (.reg [mO 14 4,nO 15 14,fO 16 0 15,fO 17 0 16,lO 18 17,vO 19 (.bin .neq (.t 18) (.c (.str [])))]) (.cond (.t 19) .skip (.exit 0))) (.seq (.block 1 (.seq (.reg [mO 22 4,kO 23 98 [(.t 22)],uO 24 23]) (.cond (.t 24) (.seq (.reg [⟨some 2,none,.nilv 5⟩,vO 3 (.mov (cI 5))]) .ret) .skip))) (.reg [mO 20 4,kO 21 97 [(.t 20)]]))
def c_Q60_2:SC:=.seq (.seq (.reg [mO 12 4,kO 13 97 [(.t 12)]]) (.block 0 (.loop b_Q60_1))) c_Q60_1
def c_Q60_3:SC:=.seq (.reg [mO 8 0,vO 9 (.build [(.str []),(.int .i64 0)] [(0,1,(.t 8))]),vO 10 (.build [(.str []),(.int .i64 0),(.nils 5)] [(0,2,(.t 9))]),⟨some 11,none,.box (.t 10)⟩,mO 4 11]) c_Q60_2
def c_Q60_4:SC:=.seq (.seq (.reg [mO 5 0,vO 6 (.len true (.t 5)),bC 7 .gtr 6 6000]) (.cond (.t 7) (.seq (.reg [⟨some 2,none,.nilv 5⟩,vO 3 (.mov (cI 4))]) .ret) .skip)) c_Q60_3
def sc_Q60:zh:=⟨1,37,.seq (.reg [⟨some 2,none,.nilv 5⟩,vO 3 (.mov (cI 0))]) c_Q60_4,[(.t 2),(.t 3)]⟩
noncomputable def zpu (SP:Prg) (x:EO):CO:=fin [(.t 2),(.t 3)] (thC SP (zx 0 (x)) c_Q60_1)
theorem zvA:type_of% (aI (ue c_Q60_1.eq_1)<|aI (ue b_Q60_1.eq_1)<|aI (ue c_Q60_2.eq_1)<|aI (ue c_Q60_3.eq_1)<|aI (ue c_Q60_4.eq_1)<|sc_Q60.eq_1):=aI (ue c_Q60_1.eq_1)<|aI (ue b_Q60_1.eq_1)<|aI (ue c_Q60_2.eq_1)<|aI (ue c_Q60_3.eq_1)<|aI (ue c_Q60_4.eq_1)<|sc_Q60.eq_1
theorem comp_Q60:comp Tryz.prog Tryz.f60=some sc_Q60:=by kernel_rfl
def sc_Q81:zh:=⟨1,16,.seq (.reg [vO 2 (.mov (.c (.bool false)))]) (.seq (.reg [mO 3 0,kO 4 120 [(.t 3),(.c (.str [45])),(.c (.str [95]))],kO 5 115 [(.t 4)],mO 6 5,gO 7 6 true (.mov (.t 0)),gO 8 6 true (.istr (.t 7) (cI 0)),gO 9 6 true (.bin .neq (.t 8) (.c (.int .u8 45))),vO 10 (.pick (.t 6) (.t 9) (.c (.bool false))),mO 11 10,gO 12 11 true (.mov (.t 0)),gO 13 11 true (.istr (.t 12) (cI 0)),gO 14 11 true (.bin .neq (.t 13) (.c (.int .u8 95))),vO 15 (.pick (.t 11) (.t 14) (.c (.bool false))),mO 2 15]) .ret),[(.t 2)]⟩
theorem zAg:type_of% (sc_Q81.eq_1):=sc_Q81.eq_1
theorem comp_Q81:comp Tryz.prog Tryz.f81=some sc_Q81:=by kernel_rfl
def c_Q122_1:SC:=.seq (.reg [mO 38 0,vO 39 (.len true (.t 38)),bC 40 .geq 39 1,mO 41 40,gO 42 41 true (.mov (.t 0)),gO 43 41 true (.len true (.t 42)),gO 44 41 true (.bin .leq (.t 43) (cI 24)),vO 45 (.pick (.t 41) (.t 44) (.c (.bool false))),mO 2 45]) .ret
def c_Q122_2:SC:=.reg [mO 9 3,bC 10 .add 9 1,mO 3 10]
def c_Q122_3:SC:=.cond (.t 37) (.seq (.reg [vO 2 (.mov (.c (.bool false)))]) .ret) .skip
def c_Q122_4:SC:=.seq (.reg [mO 14 4,vO 15 (.bin .geq (.t 14) (.c (.int .u8 97))),mO 16 15,gO 17 16 true (.mov (.t 4)),gO 18 16 true (.bin .leq (.t 17) (.c (.int .u8 122))),vO 19 (.pick (.t 16) (.t 18) (.c (.bool false))),uO 20 19,mO 21 20,gO 22 21 true (.mov (.t 3)),gO 23 21 true (.bin .gtr (.t 22) (cI 0)),gO 24 21 true (.mov (.t 23)),gO 25 24 true (.mov (.t 4)),⟨some 26,some (24,true),.call (.c (.func 119 [])) [(.t 25)]⟩,gO 27 24 true (.mov (.t 26)),gO 28 27 false (.mov (.t 4)),gO 29 27 false (.bin .eql (.t 28) (.c (.int .u8 45))),gO 30 24 true (.pick (.t 27) (.c (.bool true)) (.t 29)),gO 31 24 true (.mov (.t 30)),gO 32 31 false (.mov (.t 4)),gO 33 31 false (.bin .eql (.t 32) (.c (.int .u8 95))),gO 34 24 true (.pick (.t 31) (.c (.bool true)) (.t 33)),gO 35 21 true (.pick (.t 24) (.t 34) (.c (.bool false))),gO 36 21 true (.un .not (.t 35)),vO 37 (.pick (.t 21) (.t 36) (.c (.bool false)))]) c_Q122_3
def c_Q122_5:SC:=.seq (.block 1 (.seq (.reg [mO 11 0,mO 12 3,vO 13 (.istr (.t 11) (.t 12)),mO 4 13]) c_Q122_4)) c_Q122_2
def b_Q122_1:SC:=.seq (.seq (.reg [mO 5 3,mO 6 0,vO 7 (.len true (.t 6)),bO 8 .lss 5 7]) (.cond (.t 8) .skip (.exit 0))) c_Q122_5
def c_Q122_6:SC:=.block 0 (.loop b_Q122_1)
def c_Q122_7:SC:=.seq (.seq (.reg [vO 3 (.mov (cI 0))]) c_Q122_6) c_Q122_1
def sc_Q122:zh:=⟨1,46,.seq (.reg [vO 2 (.mov (.c (.bool false)))]) c_Q122_7,[(.t 2)]⟩
noncomputable def zmT (SP:Prg) (x:EO):CO:=fin [(.t 2)] (thC SP (zx 0 (x)) c_Q122_1)
theorem zsC:type_of% (aI (ue c_Q122_1.eq_1)<|aI (ue c_Q122_2.eq_1)<|aI (ue c_Q122_3.eq_1)<|aI (ue c_Q122_4.eq_1)<|aI (ue c_Q122_5.eq_1)<|aI (ue b_Q122_1.eq_1)<|aI (ue c_Q122_6.eq_1)<|aI (ue c_Q122_7.eq_1)<|sc_Q122.eq_1):=aI (ue c_Q122_1.eq_1)<|aI (ue c_Q122_2.eq_1)<|aI (ue c_Q122_3.eq_1)<|aI (ue c_Q122_4.eq_1)<|aI (ue c_Q122_5.eq_1)<|aI (ue b_Q122_1.eq_1)<|aI (ue c_Q122_6.eq_1)<|aI (ue c_Q122_7.eq_1)<|sc_Q122.eq_1
theorem comp_Q122:comp Tryz.prog Tryz.f122=some sc_Q122:=by kernel_rfl
def sc_slices_Contains_int_int:zh:=⟨2,9,.seq (.reg [vO 4 (.mov (.c (.bool false)))]) (.seq (.reg [mO 5 0,mO 6 1,kO 7 190 [(.t 5),(.t 6)],bC 8 .geq 7 0,mO 4 8]) .ret),[(.t 4)]⟩
theorem zfl:type_of% (sc_slices_Contains_int_int.eq_1):=sc_slices_Contains_int_int.eq_1
theorem comp_slices_Contains_int_int:comp Tryz.prog Tryz.f170=some sc_slices_Contains_int_int:=by kernel_rfl
def c_slices_Index_int_int_1:SC:=.seq (.reg [vO 4 (.mov (cI (-1)))]) .ret
def b_slices_Index_int_int_1:SC:=.seq (.reg [bO 9 .lss 8 7]) (.seq (.cond (.t 9) .skip (.exit 0)) (.seq (.block 1 (.seq (.reg [mO 10 8,mO 5 10]) (.seq (.reg [mO 11 1,mO 12 0,mO 13 5,vO 14 (.iaddr 1 (.t 12) (.t 13)),lO 15 14,bO 16 .eql 11 15]) (.cond (.t 16) (.seq (.reg [mO 17 5,mO 4 17]) .ret) .skip)))) (.reg [bC 18 .add 8 1,mO 8 18])))
def sc_slices_Index_int_int:zh:=⟨2,19,.seq (.reg [vO 4 (.mov (cI 0))]) (.seq (.seq (.reg [mO 6 0,vO 7 (.len false (.t 6)),vO 8 (.mov (cI 0))]) (.block 0 (.loop b_slices_Index_int_int_1))) c_slices_Index_int_int_1),[(.t 4)]⟩
noncomputable def zcM (SP:Prg) (x:EO):CO:=fin [(.t 4)] (thC SP (zx 0 (x)) c_slices_Index_int_int_1)
theorem zde:type_of% (aI (ue c_slices_Index_int_int_1.eq_1)<|aI (ue b_slices_Index_int_int_1.eq_1)<|sc_slices_Index_int_int.eq_1):=aI (ue c_slices_Index_int_int_1.eq_1)<|aI (ue b_slices_Index_int_int_1.eq_1)<|sc_slices_Index_int_int.eq_1
theorem comp_slices_Index_int_int:comp Tryz.prog Tryz.f190=some sc_slices_Index_int_int:=by kernel_rfl
def sc_slices_Contains_string_string:zh:=⟨2,9,.seq (.reg [vO 4 (.mov (.c (.bool false)))]) (.seq (.reg [mO 5 0,mO 6 1,kO 7 62 [(.t 5),(.t 6)],bC 8 .geq 7 0,mO 4 8]) .ret),[(.t 4)]⟩
theorem zdV:type_of% (sc_slices_Contains_string_string.eq_1):=sc_slices_Contains_string_string.eq_1
theorem comp_slices_Contains_string_string:comp Tryz.prog Tryz.f161=some sc_slices_Contains_string_string:=by kernel_rfl
end Go.Proofs.YtfbcnpbhhooapaaGreatDoor.M
namespace Go.Proofs.YtfbcnpbhhooapaaGreatDoor.M
open Go Classical
theorem zyA:SP 97=some (.code sc_Q97):=ze rfl Tryz.func97 comp_Q97
def zhh (t3:LTokens) (g4:Nat) (z5:Bool) (t':LTokens) (t'_g2:Nat) (t'_z2:Bool):Prop:=∀ (S:Sto) (e:Nat→PV) (f:Fr) (n0 t0:Nat),((getBox S n0 t0).map (List.take 3)=some [.str t3.text.left,.int .i64 t3.text.pos,.sl 0 (.cell t0 2) 0 t3.out.length t3.out.length g4 false]∧getArr S n0 (.cell t0 2)=some ⟨5,t3.out.map eToken,z5,g4⟩)→e 0=.ptr (n0+1) t0 0→zo1 SP (E SP (.loop b_Q97_1) ⟨e,f::S⟩)=.ok (.v (.tup [])) (setArr (setBox S n0 t0 ([.str t'.text.left,.int .i64 t'.text.pos,.sl 0 (.cell t0 2) 0 t'.out.length t'.out.length t'_g2 false]++((getBox S n0 t0).getD []).drop 3)) n0 (.cell t0 2) ⟨5,t'.out.map eToken,t'_z2,t'_g2⟩)
theorem zdz (t3:LTokens) (g4:Nat) (z5:Bool) (t':LTokens) (t'_g2:Nat) (t'_z2:Bool) (T :
  ∃ (r6:Bool),(zcC t3.text.left [35] r6) ∧
 ((r6=true) →
  ∃ (r7:List UInt8) (r8:List UInt8) (r9:Bool),(zbx t3.text.left [10] r7 r8 r9) ∧
  ∃ (r10:List UInt8) (y11:LText),(zbq t3.text (r7.length:Int) r10 y11) ∧
  ∃ (r12:List UInt8) (y13:LText),(zeX y11 [1] r12 y13) ∧
  zhh (LTokens.mk y13 t3.out) g4 z5 t' t'_g2 t'_z2) ∧
 (¬ (r6=true) →
  t3=t'∧g4=t'_g2∧z5=t'_z2)):zhh t3 g4 z5 t' t'_g2 t'_z2:=by
 intro S e f n0 t0 H0 h
 obtain⟨hb0,ha0⟩:=H0
 obtain⟨w0,hB0⟩:=zg hb0
 have hn0:=zc hB0
 unfold zo1
 rw[zm]
 have F:=zvi
 exact rp n0 t0 (aa ha0<|aa hB0<|aa hn0<|aa h<|F) T
theorem zuN (t:LTokens) (t_g2:Nat) (t_z2:Bool) (t':LTokens) (t'_g2:Nat) (t'_z2:Bool) (T :
  ∃ (r1:List UInt8) (y2:LText),(zeX t.text [1] r1 y2) ∧
 zhh (LTokens.mk y2 t.out) t_g2 t_z2 t' t'_g2 t'_z2):zmK t t_g2 t_z2 t' t'_g2 t'_z2:=by
 intro S n0 t0 H0
 obtain⟨hb0,ha0⟩:=H0
 obtain⟨w0,hB0⟩:=zg hb0
 have hn0:=zc hB0
 rw[zd zyA _ _ rfl]
 have F:=zvi
 exact rp n0 t0 (aa ha0<|aa hB0<|aa hn0<|F) T
theorem zwh:SP 138=some (.code sc_Q138):=ze rfl Tryz.func138 comp_Q138
theorem zsZ (t:LTokens) (t_g2:Nat) (t_z2:Bool) (ra:Token) (rb:Bool) (t':LTokens) (t'_g2:Nat) (t'_z2:Bool) (T :
  ∃ (r1:List UInt8) (y2:LText),(zeX t.text [2,3] r1 y2) ∧
 ∃ (r3:Bool),(zcz r1 r3) ∧
 (Token.mk 3 r1 0 [] 0)=ra∧r3=rb∧(LTokens.mk y2 t.out)=t'∧t_g2=t'_g2∧t_z2=t'_z2):zkH t t_g2 t_z2 ra rb t' t'_g2 t'_z2:=by
 intro S n0 t0 H0
 obtain⟨hb0,ha0⟩:=H0
 obtain⟨w0,hB0⟩:=zg hb0
 have hn0:=zc hB0
 rw[zd zwh _ _ rfl]
 have F:=zyj
 obtain⟨r1,y2,q1,r3,q2,rfl,rfl,rfl,rfl,rfl⟩:=T
 simp only[zeX,lF] at q1
 simp only[zcz,lF] at q2
 exact fi (aa ha0<|aa hB0<|aa hn0<|aa q1<|aa q2<|F)
theorem zwZ:SP 139=some (.code sc_Q139):=ze rfl Tryz.func139 comp_Q139
theorem ziq (t:LTokens) (t_g2:Nat) (t_z2:Bool) (ra:Token) (rb:Bool) (t':LTokens) (t'_g2:Nat) (t'_z2:Bool) (T :
  ∃ (r1:List UInt8) (y2:LText),(zeX t.text [3] r1 y2) ∧
 ∃ (r3:Int) (r4:Bool),(zei r1 r3 r4) ∧
 ((r4=true) →
  (Token.mk 1 [] r3 [] 0)=ra∧false=rb∧(LTokens.mk y2 t.out)=t'∧t_g2=t'_g2∧t_z2=t'_z2) ∧
 (¬ (r4=true) →
  ∃ (r5:List UInt8),(zem r3 r5) ∧
  (Token.mk 1 [] r3 [] 0)=ra∧(decide (r5=r1))=rb∧(LTokens.mk y2 t.out)=t'∧t_g2=t'_g2∧t_z2=t'_z2)):zh1 t t_g2 t_z2 ra rb t' t'_g2 t'_z2:=by
 intro S n0 t0 H0
 obtain⟨hb0,ha0⟩:=H0
 obtain⟨w0,hB0⟩:=zg hb0
 have hn0:=zc hB0
 rw[zd zwZ _ _ rfl]
 have F:=zx3
 obtain⟨r1,y2,q1,r3,r4,q2,T⟩:=T
 simp only[zeX,lF] at q1
 simp only[zei,lF] at q2
 replace F:=aa ha0<|aa hB0<|aa hn0<|aa q1<|aa q2<|F
 by_cases c3:r4=true
 ·replace T:=T.1 c3
  obtain⟨rfl,rfl,rfl,rfl,rfl⟩:=T
  exact fi (aa c3<|F)
 replace T:=T.2 c3
 replace c3:=Bool.eq_false_iff.2 c3
 obtain⟨r5,q4,rfl,rfl,rfl,rfl,rfl⟩:=T
 simp only[zem,lF] at q4
 exact fi (aa c3<|aa q4<|F)
theorem zxm:SP 140=some (.code sc_Q140):=ze rfl Tryz.func140 comp_Q140
def zbK (i3:Int) (s4:List UInt8) (i5:Int) (i6:Int) (l7:List Attr) (g8:Nat) (l9:List Part) (g10:Nat) (z11:Bool) (t12:LTokens) (g13:Nat) (z14:Bool) (ra:Token) (rb:Bool) (t':LTokens) (t'_g2:Nat) (t'_z2:Bool):Prop:=∀ (S:Sto) (e:Nat→PV) (f:Fr) (n0 t0:Nat),((getBox S n0 t0).map (List.take 3)=some [.str t12.text.left,.int .i64 t12.text.pos,.sl 0 (.cell t0 2) 0 t12.out.length t12.out.length g13 false]∧getArr S n0 (.cell t0 2)=some ⟨5,t12.out.map eToken,z14,g13⟩)→e 0=.ptr (n0+1) t0 0∧e 2=.ptr 0 2 0∧e 4=.ptr 0 4 0∧f.box 2=some [.int .i64 i3,.str s4,.int .i64 i5,.sl 0 (.cell 2 3) 0 l7.length l7.length g8 false,.int .i64 i6]∧f.box 4=some [.sl 0 (.cell 4 0) 0 l9.length l9.length g10 false]∧f.arr (.cell 2 3)=some ⟨2,l7.map eAttr,false,g8⟩∧f.arr (.cell 4 0)=some ⟨2,l9.map ePart,z11,g10⟩→zne SP (E SP (.loop b_Q140_1) ⟨e,f::S⟩)=.ok (.v (.tup [.agg [.int .i64 ra.Kind,.str ra.Text,.int .i64 ra.Num,.list 2 (ra.Parts.map ePart) false,.int .i64 ra.At],.bool rb])) (setArr (setBox S n0 t0 ([.str t'.text.left,.int .i64 t'.text.pos,.sl 0 (.cell t0 2) 0 t'.out.length t'.out.length t'_g2 false]++((getBox S n0 t0).getD []).drop 3)) n0 (.cell t0 2) ⟨5,t'.out.map eToken,t'_z2,t'_g2⟩)
theorem zaw (i3:Int) (s4:List UInt8) (i5:Int) (i6:Int) (l7:List Attr) (g8:Nat) (l9:List Part) (g10:Nat) (z11:Bool) (t12:LTokens) (g13:Nat) (z14:Bool) (ra:Token) (rb:Bool) (t':LTokens) (t'_g2:Nat) (t'_z2:Bool) (T :
  ((t12.text.left=[]) →
  (Token.mk 0 [] 0 [] 0)=ra∧false=rb∧t12=t'∧g13=t'_g2∧z14=t'_z2) ∧
 (¬ (t12.text.left=[]) →
  ∃ (b15:UInt8),(t12.text.left[0]?=some b15) ∧
  ∃ (r16:Int),(zfN b15 r16) ∧
  ((r16=4) →
   ∃ (r17:List UInt8) (y18:LText),(zbq t12.text 1 r17 y18) ∧
   (Token.mk 2 [] 0 l9 0)=ra∧true=rb∧(LTokens.mk y18 t12.out)=t'∧g13=t'_g2∧z14=t'_z2) ∧
  (¬ (r16=4) →
   (((b15.toNat:Int) < 32) →
    (Token.mk 0 [] 0 [] 0)=ra∧false=rb∧t12=t'∧g13=t'_g2∧z14=t'_z2) ∧
   (¬ ((b15.toNat:Int) < 32) →
    (((b15.toNat:Int)=92) →
     ∃ (r19:UInt8) (r20:Bool),(zny t12.text.left r19 r20) ∧
     ((r20=true) →
      ∃ (y21:List Part) (g22:Nat) (z23:Bool),(zk2 l9 g10 z11 r19 y21 g22 z23) ∧
      ∃ (r24:List UInt8) (y25:LText),(zbq t12.text 2 r24 y25) ∧
      zbK i3 s4 i5 i6 l7 g8 y21 g22 z23 (LTokens.mk y25 t12.out) g13 z14 ra rb t' t'_g2 t'_z2) ∧
     (¬ (r20=true) →
      (Token.mk 0 [] 0 [] 0)=ra∧false=rb∧t12=t'∧g13=t'_g2∧z14=t'_z2)) ∧
    (¬ ((b15.toNat:Int)=92) →
     ∃ (r26:Bool),(zcC t12.text.left [36,123] r26) ∧
     ((r26=true) →
      ∃ (r27:List UInt8) (r28:Bool),(ziF t12.text.left r27 r28) ∧
      ((r28=true) →
       (bigRow (l9.length+1) 24) ∧
       (I64 (3+(r27.length:Int))) ∧
       ∃ (r29:List UInt8) (y30:LText),(zbq t12.text (3+(r27.length:Int)) r29 y30) ∧
       zbK i3 s4 i5 i6 l7 g8 (l9++[(Part.mk true r27)]) g10 z11 (LTokens.mk y30 t12.out) g13 z14 ra rb t' t'_g2 t'_z2) ∧
      (¬ (r28=true) →
       (Token.mk 0 [] 0 [] 0)=ra∧false=rb∧t12=t'∧g13=t'_g2∧z14=t'_z2)) ∧
     (¬ (r26=true) →
      ∃ (y31:List Part) (g32:Nat) (z33:Bool),(zk2 l9 g10 z11 b15 y31 g32 z33) ∧
      ∃ (r34:List UInt8) (y35:LText),(zbq t12.text 1 r34 y35) ∧
      zbK i3 s4 i5 i6 l7 g8 y31 g32 z33 (LTokens.mk y35 t12.out) g13 z14 ra rb t' t'_g2 t'_z2)))))):zbK i3 s4 i5 i6 l7 g8 l9 g10 z11 t12 g13 z14 ra rb t' t'_g2 t'_z2:=by
 intro S e f n0 t0 H0 h
 obtain⟨hb0,ha0⟩:=H0
 obtain⟨w0,hB0⟩:=zg hb0
 have hn0:=zc hB0
 unfold zne
 rw[zm]
 have F:=zr3
 exact rp n0 t0 (aa ha0<|aa hB0<|aa hn0<|aa h<|F) T
theorem zlL (t:LTokens) (t_g2:Nat) (t_z2:Bool) (ra:Token) (rb:Bool) (t':LTokens) (t'_g2:Nat) (t'_z2:Bool) (T :
  ∃ (r1:List UInt8) (y2:LText),(zbq t.text 1 r1 y2) ∧
 zbK 0 [] 0 0 [] 0 [] 0 false (LTokens.mk y2 t.out) t_g2 t_z2 ra rb t' t'_g2 t'_z2):zio t t_g2 t_z2 ra rb t' t'_g2 t'_z2:=by
 intro S n0 t0 H0
 obtain⟨hb0,ha0⟩:=H0
 obtain⟨w0,hB0⟩:=zg hb0
 have hn0:=zc hB0
 rw[zd zxm _ _ rfl]
 have F:=zr3
 exact rp n0 t0 (aa ha0<|aa hB0<|aa hn0<|F) T
theorem zv3:SP 136=some (.code sc_Q136):=ze rfl Tryz.func136 comp_Q136
theorem zsn (t:LTokens) (t_g2:Nat) (t_z2:Bool) (ra:Token) (rb:Bool) (t':LTokens) (t'_g2:Nat) (t'_z2:Bool) (T :
  (0≤(if (t.text.left.length:Int) < 2 then (t.text.left.length:Int) else 2))∧((if (t.text.left.length:Int) < 2 then (t.text.left.length:Int) else 2).toNat≤t.text.left.length) ∧
 ∃ (r1:Bool),(zao [[61,61],[33,61],[60,61],[62,61],[38,38],[124,124]] (t.text.left.take ((if (t.text.left.length:Int) < 2 then (t.text.left.length:Int) else 2).toNat)) r1) ∧
 ((r1=true) →
  ∃ (r2:List UInt8) (y3:LText),(zbq t.text (((t.text.left.take ((if (t.text.left.length:Int) < 2 then (t.text.left.length:Int) else 2).toNat)).length:Nat):Int) r2 y3) ∧
  (Token.mk 4 r2 0 [] 0)=ra∧true=rb∧(LTokens.mk y3 t.out)=t'∧t_g2=t'_g2∧t_z2=t'_z2) ∧
 (¬ (r1=true) →
  (1≤(t.text.left.take ((if (t.text.left.length:Int) < 2 then (t.text.left.length:Int) else 2).toNat)).length) ∧
  ∃ (r4:Bool),(zcT [123,125,91,93,40,41,61,44,46,43,45,42,47,37,60,62,33,63,58] ((t.text.left.take ((if (t.text.left.length:Int) < 2 then (t.text.left.length:Int) else 2).toNat)).take (1)) r4) ∧
  ((r4=true) →
   ∃ (r5:List UInt8) (y6:LText),(zbq t.text ((((t.text.left.take ((if (t.text.left.length:Int) < 2 then (t.text.left.length:Int) else 2).toNat)).take (1)).length:Nat):Int) r5 y6) ∧
   (Token.mk 4 r5 0 [] 0)=ra∧true=rb∧(LTokens.mk y6 t.out)=t'∧t_g2=t'_g2∧t_z2=t'_z2) ∧
  (¬ (r4=true) →
   (Token.mk 0 [] 0 [] 0)=ra∧false=rb∧t=t'∧t_g2=t'_g2∧t_z2=t'_z2))):zkt t t_g2 t_z2 ra rb t' t'_g2 t'_z2:=by
 intro S n0 t0 H0
 obtain⟨hb0,ha0⟩:=H0
 obtain⟨w0,hB0⟩:=zg hb0
 have hn0:=zc hB0
 rw[zd zv3 _ _ rfl]
 have F:=zzq
 obtain⟨p1,p2,r1,q3,T⟩:=T
 simp only[zao,lF] at q3
 replace F:=aa ha0<|aa hB0<|aa hn0<|aa p1<|aa p2<|aa q3<|F
 by_cases c4:r1=true
 ·replace T:=T.1 c4
  obtain⟨r2,y3,q5,rfl,rfl,rfl,rfl,rfl⟩:=T
  simp only[zbq,lF] at q5
  exact fi (aa c4<|aa q5<|F)
 replace T:=T.2 c4
 replace c4:=Bool.eq_false_iff.2 c4
 obtain⟨p6,r4,q7,T⟩:=T
 simp only[zcT,lF] at q7
 replace F:=aa c4<|aa p6<|aa q7<|F
 by_cases c8:r4=true
 ·replace T:=T.1 c8
  obtain⟨r5,y6,q9,rfl,rfl,rfl,rfl,rfl⟩:=T
  simp only[zbq,lF] at q9
  exact fi (aa c8<|aa q9<|F)
 replace T:=T.2 c8
 replace c8:=Bool.eq_false_iff.2 c8
 obtain⟨rfl,rfl,rfl,rfl,rfl⟩:=T
 exact fi (aa c8<|F)
theorem zzJ:SP 98=some (.code sc_Q98):=ze rfl Tryz.func98 comp_Q98
theorem zcW (t:LTokens) (t_g2:Nat) (t_z2:Bool) (r:Bool) (t':LTokens) (t'_g2:Nat) (t'_z2:Bool) (T :
  ∃ (b1:UInt8),(t.text.left[0]?=some b1) ∧
 ∃ (r2:Int),(zfN b1 r2) ∧
 ((r2=2) →
  ∃ (r3:Token) (r4:Bool) (y5:LTokens) (g6:Nat) (z7:Bool),(zkH t t_g2 t_z2 r3 r4 y5 g6 z7) ∧
  (bigRow (y5.out.length+1) 64) ∧
  r4=r∧(LTokens.mk y5.text (y5.out++[(Token.mk r3.Kind r3.Text r3.Num r3.Parts t.text.pos)]))=t'∧g6=t'_g2∧z7=t'_z2) ∧
 (¬ (r2=2) →
  ((r2=3) →
   ∃ (r8:Token) (r9:Bool) (y10:LTokens) (g11:Nat) (z12:Bool),(zh1 t t_g2 t_z2 r8 r9 y10 g11 z12) ∧
   (bigRow (y10.out.length+1) 64) ∧
   r9=r∧(LTokens.mk y10.text (y10.out++[(Token.mk r8.Kind r8.Text r8.Num r8.Parts t.text.pos)]))=t'∧g11=t'_g2∧z12=t'_z2) ∧
  (¬ (r2=3) →
   ((r2=4) →
    ∃ (r13:Token) (r14:Bool) (y15:LTokens) (g16:Nat) (z17:Bool),(zio t t_g2 t_z2 r13 r14 y15 g16 z17) ∧
    (bigRow (y15.out.length+1) 64) ∧
    r14=r∧(LTokens.mk y15.text (y15.out++[(Token.mk r13.Kind r13.Text r13.Num r13.Parts t.text.pos)]))=t'∧g16=t'_g2∧z17=t'_z2) ∧
   (¬ (r2=4) →
    ∃ (r18:Token) (r19:Bool) (y20:LTokens) (g21:Nat) (z22:Bool),(zkt t t_g2 t_z2 r18 r19 y20 g21 z22) ∧
    (bigRow (y20.out.length+1) 64) ∧
    r19=r∧(LTokens.mk y20.text (y20.out++[(Token.mk r18.Kind r18.Text r18.Num r18.Parts t.text.pos)]))=t'∧g21=t'_g2∧z22=t'_z2)))):zmD t t_g2 t_z2 r t' t'_g2 t'_z2:=by
 intro S n0 t0 H0
 obtain⟨hb0,ha0⟩:=H0
 obtain⟨w0,hB0⟩:=zg hb0
 have hn0:=zc hB0
 rw[zd zzJ _ _ rfl]
 have F:=zzS
 obtain⟨b1,q1,r2,q2,T⟩:=T
 simp only[zfN,lF] at q2
 replace F:=aa ha0<|aa hB0<|aa hn0<|aa q1<|aa q2<|F
 by_cases c3:r2=2
 ·replace T:=T.1 c3
  obtain⟨r3,r4,y5,g6,z7,q4,p5,rfl,rfl,rfl,rfl⟩:=T
  simp only[zkH,lF] at q4
  simp only[bigRow] at p5
  exact fi (aa (eq_true c3)<|aa q4<|aa p5<|F)
 replace T:=T.2 c3
 replace F:=aa (eq_false c3)<|F
 by_cases c6:r2=3
 ·replace T:=T.1 c6
  obtain⟨r8,r9,y10,g11,z12,q7,p8,rfl,rfl,rfl,rfl⟩:=T
  simp only[zh1,lF] at q7
  simp only[bigRow] at p8
  exact fi (aa (eq_true c6)<|aa q7<|aa p8<|F)
 replace T:=T.2 c6
 replace F:=aa (eq_false c6)<|F
 by_cases c9:r2=4
 ·replace T:=T.1 c9
  obtain⟨r13,r14,y15,g16,z17,q10,p11,rfl,rfl,rfl,rfl⟩:=T
  simp only[zio,lF] at q10
  simp only[bigRow] at p11
  exact fi (aa (eq_true c9)<|aa q10<|aa p11<|F)
 replace T:=T.2 c9
 obtain⟨r18,r19,y20,g21,z22,q12,p13,rfl,rfl,rfl,rfl⟩:=T
 simp only[zkt,lF] at q12
 simp only[bigRow] at p13
 exact fi (aa (eq_false c9)<|aa q12<|aa p13<|F)
theorem zzj:SP 60=some (.code sc_Q60):=ze rfl Tryz.func60 comp_Q60
def zhB (s4:List UInt8) (i5:Int) (l6:List Token) (g7:Nat) (z8:Bool) (ra:List Token) (rb:Int):Prop:=∀ (S:Sto) (e:Nat→PV) (f:Fr),e 4=.ptr 0 11 0∧f.box 11=some [.str s4,.int .i64 i5,.sl 0 (.cell 11 2) 0 l6.length l6.length g7 false]∧f.arr (.cell 11 2)=some ⟨5,l6.map eToken,z8,g7⟩→zpu SP (E SP (.loop b_Q60_1) ⟨e,f::S⟩)=.ok (.v (.tup [.list 5 (ra.map eToken) false,.int .i64 rb])) S
theorem zdB (s4:List UInt8) (i5:Int) (l6:List Token) (g7:Nat) (z8:Bool) (ra:List Token) (rb:Int) (T :
  ((s4=[]) →
  (bigRow (l6.length+1) 64) ∧
  (l6++[(Token.mk 0 [] 0 [] i5)])=ra∧0=rb) ∧
 (¬ (s4=[]) →
  ∃ (r9:Bool) (y10:LTokens) (g11:Nat) (z12:Bool),(zmD (LTokens.mk (LText.mk s4 i5) l6) g7 z8 r9 y10 g11 z12) ∧
  ((r9=true) →
   ∃ (y13:LTokens) (g14:Nat) (z15:Bool),(zmK y10 g11 z12 y13 g14 z15) ∧
   zhB y13.text.left y13.text.pos y13.out g14 z15 ra rb) ∧
  (¬ (r9=true) →
   []=ra∧5=rb))):zhB s4 i5 l6 g7 z8 ra rb:=by
 intro S e f h
 unfold zpu
 rw[zm]
 have F:=zvA
 exact rn (aa h<|F) T
theorem znk (s:List UInt8) (ra:List Token) (rb:Int) (T :
  ((6000 < (s.length:Int)) →
  []=ra∧4=rb) ∧
 (¬ (6000 < (s.length:Int)) →
  ∃ (y1:LTokens) (g2:Nat) (z3:Bool),(zmK (LTokens.mk (LText.mk s 0) []) 0 false y1 g2 z3) ∧
  zhB y1.text.left y1.text.pos y1.out g2 z3 ra rb)):zbI s ra rb:=by
 intro S
 rw[zd zzj _ _ rfl]
 have F:=zvA
 exact rn F T
theorem zxZ:SP 81=some (.code sc_Q81):=ze rfl Tryz.func81 comp_Q81
theorem zux (s:List UInt8) (r:Bool) (T :
  ∃ (r1:List UInt8),(zd1 s [45] [95] r1) ∧
 ∃ (r2:Bool),(zcz r1 r2) ∧
 ((r2=true) →
  ∃ (b3:UInt8),(s[0]?=some b3) ∧
  (((b3.toNat:Int)=45) →
   false=r) ∧
  (¬ ((b3.toNat:Int)=45) →
   (!(decide ((b3.toNat:Int)=95)))=r)) ∧
 (¬ (r2=true) →
  false=r)):zds s r:=by
 intro S
 rw[zd zxZ _ _ rfl]
 have F:=zAg
 exact rn F T
theorem zw1:SP 122=some (.code sc_Q122):=ze rfl Tryz.func122 comp_Q122
def za5 (s:List UInt8) (i1:Int) (r:Bool):Prop:=∀ (S:Sto) (e:Nat→PV) (f:Fr),e 0=.str s∧e 3=.int .i64 i1→zmT SP (E SP (.loop b_Q122_1) ⟨e,f::S⟩)=.ok (.v (.bool r)) S
theorem zc5 (s:List UInt8) (i1:Int) (r:Bool) (T :
  ((i1 < (s.length:Int)) →
  (0≤i1) ∧
  ∃ (b2:UInt8),(s[i1.toNat]?=some b2) ∧
  ((97≤(b2.toNat:Int)) →
   (((b2.toNat:Int)≤122) →
    (I64 (i1+1)) ∧
    za5 s (i1+1) r) ∧
   (¬ ((b2.toNat:Int)≤122) →
    ((0 < i1) →
     ∃ (r3:Bool),(zdi b2 r3) ∧
     ((r3=true) →
      (I64 (i1+1)) ∧
      za5 s (i1+1) r) ∧
     (¬ (r3=true) →
      (((b2.toNat:Int)=45) →
       (I64 (i1+1)) ∧
       za5 s (i1+1) r) ∧
      (¬ ((b2.toNat:Int)=45) →
       (((b2.toNat:Int)=95) →
        (I64 (i1+1)) ∧
        za5 s (i1+1) r) ∧
       (¬ ((b2.toNat:Int)=95) →
        false=r)))) ∧
    (¬ (0 < i1) →
     false=r))) ∧
  (¬ (97≤(b2.toNat:Int)) →
   ((0 < i1) →
    ∃ (r4:Bool),(zdi b2 r4) ∧
    ((r4=true) →
     (I64 (i1+1)) ∧
     za5 s (i1+1) r) ∧
    (¬ (r4=true) →
     (((b2.toNat:Int)=45) →
      (I64 (i1+1)) ∧
      za5 s (i1+1) r) ∧
     (¬ ((b2.toNat:Int)=45) →
      (((b2.toNat:Int)=95) →
       (I64 (i1+1)) ∧
       za5 s (i1+1) r) ∧
      (¬ ((b2.toNat:Int)=95) →
       false=r)))) ∧
   (¬ (0 < i1) →
    false=r))) ∧
 (¬ (i1 < (s.length:Int)) →
  ((1≤(s.length:Int)) →
   (decide ((s.length:Int)≤24))=r) ∧
  (¬ (1≤(s.length:Int)) →
   false=r))):za5 s i1 r:=by
 intro S e f h
 unfold zmT
 rw[zm]
 have F:=zsC
 exact rn (aa h<|F) T
theorem zrk (s:List UInt8) (r:Bool) (T :
  za5 s 0 r):zkX s r:=by
 intro S
 rw[zd zw1 _ _ rfl]
 have F:=zsC
 exact rn F T
theorem ze9:SP 170=some (.code sc_slices_Contains_int_int):=ze rfl Tryz.func170 comp_slices_Contains_int_int
theorem zes (s:List Int) (v:Int) (r:Bool) (T :
  ∃ (r1:Int),(zdf s v r1) ∧
 (decide (0≤r1))=r):zbh s v r:=by
 intro S
 rw[zd ze9 _ _ rfl]
 have F:=zfl
 exact rn F T
theorem zfW:SP 190=some (.code sc_slices_Index_int_int):=ze rfl Tryz.func190 comp_slices_Index_int_int
def zaH (s:List Int) (v:Int) (i1:Int) (r:Int):Prop:=∀ (S:Sto) (e:Nat→PV) (f:Fr),e 0=.list 1 (s.map eI) false∧e 1=.int .i64 v∧e 7=.int .i64 (s.length:Int)∧e 8=.int .i64 i1→zcM SP (E SP (.loop b_slices_Index_int_int_1) ⟨e,f::S⟩)=.ok (.v (.int .i64 r)) S
theorem zaJ (s:List Int) (v:Int) (i1:Int) (r:Int) (T :
  ((i1 < (s.length:Int)) →
  (0≤i1) ∧
  ∃ (v2:Int),(s[i1.toNat]?=some v2) ∧
  ((v=v2) →
   i1=r) ∧
  (¬ (v=v2) →
   (I64 (i1+1)) ∧
   zaH s v (i1+1) r)) ∧
 (¬ (i1 < (s.length:Int)) →
  (-1)=r)):zaH s v i1 r:=by
 intro S e f h
 unfold zcM
 rw[zm]
 have F:=zde
 exact rn (aa h<|F) T
theorem zfj (s:List Int) (v:Int) (r:Int) (T :
  zaH s v 0 r):zdf s v r:=by
 intro S
 rw[zd zfW _ _ rfl]
 have F:=zde
 exact rn F T
theorem zdE:SP 161=some (.code sc_slices_Contains_string_string):=ze rfl Tryz.func161 comp_slices_Contains_string_string
theorem zdc (s:List (List UInt8)) (v:List UInt8) (r:Bool) (T :
  ∃ (r1:Int),(zr s v r1) ∧
 (decide (0≤r1))=r):zao s v r:=by
 intro S
 rw[zd zdE _ _ rfl]
 have F:=zdV
 exact rn F T
end Go.Proofs.YtfbcnpbhhooapaaGreatDoor.M

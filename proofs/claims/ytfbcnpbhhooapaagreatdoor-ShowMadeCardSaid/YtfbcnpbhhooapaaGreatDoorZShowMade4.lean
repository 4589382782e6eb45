/- Parts of a proof, one behind another: Lt2, Wl1, Wl2, Wl3, Wl4, Wl5, Wl6, Wl7, Wl8, Wl9, Wl10, WlD, Wu1, Wu2, Sc9, Lt9, Wt1, Wt2, Wu3, Wu4, Wp2, G4, Lt5, Wp3, Lt6, Wp1, Wp4, Wp5, Wp8, Wx1, Wx2, Wx3, Wx4, Wx5, Wx6, Wl11, Wl12. -/
import Derived.Test.YtfbcnpbhhooapaaGreatDoorZShowMade3
import Derived.Lib.ItoaLen
import Derived.Test.YtfbcnpbhhooapaaGreatDoorProg
import Derived.KernelRfl
set_option linter.unusedSimpArgs false
set_option linter.unusedVariables false
set_option linter.unusedSectionVars false
set_option maxHeartbeats 4000000
namespace Go.Proofs.YtfbcnpbhhooapaaGreatDoor.M
open Go Classical
theorem zxv:SP 97=some (.code sc_Q97):=zb rfl Tryz.func97 comp_Q97
def zgc (t3:LTokens) (g4:Nat) (z5:Bool) (t':LTokens) (t'_g2:Nat) (t'_z2:Bool):Prop:=∀ (S:Sto) (e:Nat→PV) (f:Fr) (n0 t0:Nat),((getBox S n0 t0).map (List.take 3)=some [.str t3.text.left,.int .i64 t3.text.pos,.sl 0 (.cell t0 2) 0 t3.out.length t3.out.length g4 false]∧getArr S n0 (.cell t0 2)=some ⟨5,t3.out.map eToken,z5,g4⟩)→e 0=.ptr (n0+1) t0 0→zps SP (E SP (.loop b_Q97_1) ⟨e,f::S⟩)=.ok (.v (.tup [])) (setArr (setBox S n0 t0 ([.str t'.text.left,.int .i64 t'.text.pos,.sl 0 (.cell t0 2) 0 t'.out.length t'.out.length t'_g2 false]++((getBox S n0 t0).getD []).drop 3)) n0 (.cell t0 2) ⟨5,t'.out.map eToken,t'_z2,t'_g2⟩)
theorem zcv (t3:LTokens) (g4:Nat) (z5:Bool) (t':LTokens) (t'_g2:Nat) (t'_z2:Bool) (T :
  ∃ (r6:Bool),(zbQ t3.text.left [35] r6) ∧
 ((r6=true) →
  ∃ (r7:List UInt8) (r8:List UInt8) (r9:Bool),(zbe t3.text.left [10] r7 r8 r9) ∧
  ∃ (r10:List UInt8) (y11:LText),(za7 t3.text (r7.length:Int) r10 y11) ∧
  ∃ (r12:List UInt8) (y13:LText),(zdZ y11 [1] r12 y13) ∧
  zgc (LTokens.mk y13 t3.out) g4 z5 t' t'_g2 t'_z2) ∧
 (¬ (r6=true) →
  t3=t'∧g4=t'_g2∧z5=t'_z2)):zgc t3 g4 z5 t' t'_g2 t'_z2:=by
 intro S e f n0 t0 H0 h
 obtain⟨hb0,ha0⟩:=H0
 obtain⟨w0,hB0⟩:=zh hb0
 have hn0:=zc hB0
 unfold zps
 rw[zo]
 have F:=zvg
 exact rp n0 t0 (aa ha0<|aa hB0<|aa hn0<|aa h<|F) T
theorem zuN (t:LTokens) (t_g2:Nat) (t_z2:Bool) (t':LTokens) (t'_g2:Nat) (t'_z2:Bool) (T :
  ∃ (r1:List UInt8) (y2:LText),(zdZ t.text [1] r1 y2) ∧
 zgc (LTokens.mk y2 t.out) t_g2 t_z2 t' t'_g2 t'_z2):zmz t t_g2 t_z2 t' t'_g2 t'_z2:=by
 intro S n0 t0 H0
 obtain⟨hb0,ha0⟩:=H0
 obtain⟨w0,hB0⟩:=zh hb0
 have hn0:=zc hB0
 rw[za zxv _ _ rfl]
 have F:=zvg
 exact rp n0 t0 (aa ha0<|aa hB0<|aa hn0<|F) T
theorem zwj:SP 138=some (.code sc_Q138):=zb rfl Tryz.func138 comp_Q138
theorem zsO (t:LTokens) (t_g2:Nat) (t_z2:Bool) (ra:Token) (rb:Bool) (t':LTokens) (t'_g2:Nat) (t'_z2:Bool) (T :
  ∃ (r1:List UInt8) (y2:LText),(zdZ t.text [2,3] r1 y2) ∧
 ∃ (r3:Bool),(zdd r1 r3) ∧
 (Token.mk 3 r1 0 [] 0)=ra∧r3=rb∧(LTokens.mk y2 t.out)=t'∧t_g2=t'_g2∧t_z2=t'_z2):zj7 t t_g2 t_z2 ra rb t' t'_g2 t'_z2:=by
 intro S n0 t0 H0
 obtain⟨hb0,ha0⟩:=H0
 obtain⟨w0,hB0⟩:=zh hb0
 have hn0:=zc hB0
 rw[za zwj _ _ rfl]
 have F:=zyW
 obtain⟨r1,y2,q1,r3,q2,rfl,rfl,rfl,rfl,rfl⟩:=T
 simp only[zdZ,lF] at q1
 simp only[zdd,lF] at q2
 exact fi (aa ha0<|aa hB0<|aa hn0<|aa q1<|aa q2<|F)
theorem zwv:SP 139=some (.code sc_Q139):=zb rfl Tryz.func139 comp_Q139
theorem zgP (t:LTokens) (t_g2:Nat) (t_z2:Bool) (ra:Token) (rb:Bool) (t':LTokens) (t'_g2:Nat) (t'_z2:Bool) (T :
  ∃ (r1:List UInt8) (y2:LText),(zdZ t.text [3] r1 y2) ∧
 ∃ (r3:Int) (r4:Bool),(zdy r1 r3 r4) ∧
 ((r4=true) →
  (Token.mk 1 [] r3 [] 0)=ra∧false=rb∧(LTokens.mk y2 t.out)=t'∧t_g2=t'_g2∧t_z2=t'_z2) ∧
 (¬ (r4=true) →
  ∃ (r5:List UInt8),(zcg r3 r5) ∧
  (Token.mk 1 [] r3 [] 0)=ra∧(decide (r5=r1))=rb∧(LTokens.mk y2 t.out)=t'∧t_g2=t'_g2∧t_z2=t'_z2)):zhv t t_g2 t_z2 ra rb t' t'_g2 t'_z2:=by
 intro S n0 t0 H0
 obtain⟨hb0,ha0⟩:=H0
 obtain⟨w0,hB0⟩:=zh hb0
 have hn0:=zc hB0
 rw[za zwv _ _ rfl]
 have F:=zxr
 obtain⟨r1,y2,q1,r3,r4,q2,T⟩:=T
 simp only[zdZ,lF] at q1
 simp only[zdy,lF] at q2
 replace F:=aa ha0<|aa hB0<|aa hn0<|aa q1<|aa q2<|F
 by_cases c3:r4=true
 ·replace T:=T.1 c3
  obtain⟨rfl,rfl,rfl,rfl,rfl⟩:=T
  exact fi (aa c3<|F)
 replace T:=T.2 c3
 replace c3:=Bool.eq_false_iff.2 c3
 obtain⟨r5,q4,rfl,rfl,rfl,rfl,rfl⟩:=T
 simp only[zcg,lF] at q4
 exact fi (aa c3<|aa q4<|F)
theorem zwH:SP 140=some (.code sc_Q140):=zb rfl Tryz.func140 comp_Q140
def zbk (i3:Int) (s4:List UInt8) (i5:Int) (i6:Int) (l7:List zhe) (g8:Nat) (l9:List Part) (g10:Nat) (z11:Bool) (t12:LTokens) (g13:Nat) (z14:Bool) (ra:Token) (rb:Bool) (t':LTokens) (t'_g2:Nat) (t'_z2:Bool):Prop:=∀ (S:Sto) (e:Nat→PV) (f:Fr) (n0 t0:Nat),((getBox S n0 t0).map (List.take 3)=some [.str t12.text.left,.int .i64 t12.text.pos,.sl 0 (.cell t0 2) 0 t12.out.length t12.out.length g13 false]∧getArr S n0 (.cell t0 2)=some ⟨5,t12.out.map eToken,z14,g13⟩)→e 0=.ptr (n0+1) t0 0∧e 2=.ptr 0 2 0∧e 4=.ptr 0 4 0∧f.box 2=some [.int .i64 i3,.str s4,.int .i64 i5,.sl 0 (.cell 2 3) 0 l7.length l7.length g8 false,.int .i64 i6]∧f.box 4=some [.sl 0 (.cell 4 0) 0 l9.length l9.length g10 false]∧f.arr (.cell 2 3)=some ⟨2,l7.map eAttr,false,g8⟩∧f.arr (.cell 4 0)=some ⟨2,l9.map ePart,z11,g10⟩→znU SP (E SP (.loop b_Q140_1) ⟨e,f::S⟩)=.ok (.v (.tup [.agg [.int .i64 ra.Kind,.str ra.Text,.int .i64 ra.Num,.list 2 (ra.Parts.map ePart) false,.int .i64 ra.At],.bool rb])) (setArr (setBox S n0 t0 ([.str t'.text.left,.int .i64 t'.text.pos,.sl 0 (.cell t0 2) 0 t'.out.length t'.out.length t'_g2 false]++((getBox S n0 t0).getD []).drop 3)) n0 (.cell t0 2) ⟨5,t'.out.map eToken,t'_z2,t'_g2⟩)
theorem zaj (i3:Int) (s4:List UInt8) (i5:Int) (i6:Int) (l7:List zhe) (g8:Nat) (l9:List Part) (g10:Nat) (z11:Bool) (t12:LTokens) (g13:Nat) (z14:Bool) (ra:Token) (rb:Bool) (t':LTokens) (t'_g2:Nat) (t'_z2:Bool) (T :
  ((t12.text.left=[]) →
  (Token.mk 0 [] 0 [] 0)=ra∧false=rb∧t12=t'∧g13=t'_g2∧z14=t'_z2) ∧
 (¬ (t12.text.left=[]) →
  ∃ (b15:UInt8),(t12.text.left[0]?=some b15) ∧
  ∃ (r16:Int),(zeH b15 r16) ∧
  ((r16=4) →
   ∃ (r17:List UInt8) (y18:LText),(za7 t12.text 1 r17 y18) ∧
   (Token.mk 2 [] 0 l9 0)=ra∧true=rb∧(LTokens.mk y18 t12.out)=t'∧g13=t'_g2∧z14=t'_z2) ∧
  (¬ (r16=4) →
   (((b15.toNat:Int) < 32) →
    (Token.mk 0 [] 0 [] 0)=ra∧false=rb∧t12=t'∧g13=t'_g2∧z14=t'_z2) ∧
   (¬ ((b15.toNat:Int) < 32) →
    (((b15.toNat:Int)=92) →
     ∃ (r19:UInt8) (r20:Bool),(zm0 t12.text.left r19 r20) ∧
     ((r20=true) →
      ∃ (y21:List Part) (g22:Nat) (z23:Bool),(zjB l9 g10 z11 r19 y21 g22 z23) ∧
      ∃ (r24:List UInt8) (y25:LText),(za7 t12.text 2 r24 y25) ∧
      zbk i3 s4 i5 i6 l7 g8 y21 g22 z23 (LTokens.mk y25 t12.out) g13 z14 ra rb t' t'_g2 t'_z2) ∧
     (¬ (r20=true) →
      (Token.mk 0 [] 0 [] 0)=ra∧false=rb∧t12=t'∧g13=t'_g2∧z14=t'_z2)) ∧
    (¬ ((b15.toNat:Int)=92) →
     ∃ (r26:Bool),(zbQ t12.text.left [36,123] r26) ∧
     ((r26=true) →
      ∃ (r27:List UInt8) (r28:Bool),(zhH t12.text.left r27 r28) ∧
      ((r28=true) →
       (bigRow (l9.length+1) 24) ∧
       (I64 (3+(r27.length:Int))) ∧
       ∃ (r29:List UInt8) (y30:LText),(za7 t12.text (3+(r27.length:Int)) r29 y30) ∧
       zbk i3 s4 i5 i6 l7 g8 (l9++[(Part.mk true r27)]) g10 z11 (LTokens.mk y30 t12.out) g13 z14 ra rb t' t'_g2 t'_z2) ∧
      (¬ (r28=true) →
       (Token.mk 0 [] 0 [] 0)=ra∧false=rb∧t12=t'∧g13=t'_g2∧z14=t'_z2)) ∧
     (¬ (r26=true) →
      ∃ (y31:List Part) (g32:Nat) (z33:Bool),(zjB l9 g10 z11 b15 y31 g32 z33) ∧
      ∃ (r34:List UInt8) (y35:LText),(za7 t12.text 1 r34 y35) ∧
      zbk i3 s4 i5 i6 l7 g8 y31 g32 z33 (LTokens.mk y35 t12.out) g13 z14 ra rb t' t'_g2 t'_z2)))))):zbk i3 s4 i5 i6 l7 g8 l9 g10 z11 t12 g13 z14 ra rb t' t'_g2 t'_z2:=by
 intro S e f n0 t0 H0 h
 obtain⟨hb0,ha0⟩:=H0
 obtain⟨w0,hB0⟩:=zh hb0
 have hn0:=zc hB0
 unfold znU
 rw[zo]
 have F:=zsa
 exact rp n0 t0 (aa ha0<|aa hB0<|aa hn0<|aa h<|F) T
theorem zlx (t:LTokens) (t_g2:Nat) (t_z2:Bool) (ra:Token) (rb:Bool) (t':LTokens) (t'_g2:Nat) (t'_z2:Bool) (T :
  ∃ (r1:List UInt8) (y2:LText),(za7 t.text 1 r1 y2) ∧
 zbk 0 [] 0 0 [] 0 [] 0 false (LTokens.mk y2 t.out) t_g2 t_z2 ra rb t' t'_g2 t'_z2):zg6 t t_g2 t_z2 ra rb t' t'_g2 t'_z2:=by
 intro S n0 t0 H0
 obtain⟨hb0,ha0⟩:=H0
 obtain⟨w0,hB0⟩:=zh hb0
 have hn0:=zc hB0
 rw[za zwH _ _ rfl]
 have F:=zsa
 exact rp n0 t0 (aa ha0<|aa hB0<|aa hn0<|F) T
theorem zv9:SP 136=some (.code sc_Q136):=zb rfl Tryz.func136 comp_Q136
theorem zrT (t:LTokens) (t_g2:Nat) (t_z2:Bool) (ra:Token) (rb:Bool) (t':LTokens) (t'_g2:Nat) (t'_z2:Bool) (T :
  (0≤(if (t.text.left.length:Int) < 2 then (t.text.left.length:Int) else 2))∧((if (t.text.left.length:Int) < 2 then (t.text.left.length:Int) else 2).toNat≤t.text.left.length) ∧
 ∃ (r1:Bool),(zV [[61,61],[33,61],[60,61],[62,61],[38,38],[124,124]] (t.text.left.take ((if (t.text.left.length:Int) < 2 then (t.text.left.length:Int) else 2).toNat)) r1) ∧
 ((r1=true) →
  ∃ (r2:List UInt8) (y3:LText),(za7 t.text (((t.text.left.take ((if (t.text.left.length:Int) < 2 then (t.text.left.length:Int) else 2).toNat)).length:Nat):Int) r2 y3) ∧
  (Token.mk 4 r2 0 [] 0)=ra∧true=rb∧(LTokens.mk y3 t.out)=t'∧t_g2=t'_g2∧t_z2=t'_z2) ∧
 (¬ (r1=true) →
  (1≤(t.text.left.take ((if (t.text.left.length:Int) < 2 then (t.text.left.length:Int) else 2).toNat)).length) ∧
  ∃ (r4:Bool),(zbY [123,125,91,93,40,41,61,44,46,43,45,42,47,37,60,62,33,63,58] ((t.text.left.take ((if (t.text.left.length:Int) < 2 then (t.text.left.length:Int) else 2).toNat)).take (1)) r4) ∧
  ((r4=true) →
   ∃ (r5:List UInt8) (y6:LText),(za7 t.text ((((t.text.left.take ((if (t.text.left.length:Int) < 2 then (t.text.left.length:Int) else 2).toNat)).take (1)).length:Nat):Int) r5 y6) ∧
   (Token.mk 4 r5 0 [] 0)=ra∧true=rb∧(LTokens.mk y6 t.out)=t'∧t_g2=t'_g2∧t_z2=t'_z2) ∧
  (¬ (r4=true) →
   (Token.mk 0 [] 0 [] 0)=ra∧false=rb∧t=t'∧t_g2=t'_g2∧t_z2=t'_z2))):zjh t t_g2 t_z2 ra rb t' t'_g2 t'_z2:=by
 intro S n0 t0 H0
 obtain⟨hb0,ha0⟩:=H0
 obtain⟨w0,hB0⟩:=zh hb0
 have hn0:=zc hB0
 rw[za zv9 _ _ rfl]
 have F:=zxG
 obtain⟨p1,p2,r1,q3,T⟩:=T
 simp only[zV,lF] at q3
 replace F:=aa ha0<|aa hB0<|aa hn0<|aa p1<|aa p2<|aa q3<|F
 by_cases c4:r1=true
 ·replace T:=T.1 c4
  obtain⟨r2,y3,q5,rfl,rfl,rfl,rfl,rfl⟩:=T
  simp only[za7,lF] at q5
  exact fi (aa c4<|aa q5<|F)
 replace T:=T.2 c4
 replace c4:=Bool.eq_false_iff.2 c4
 obtain⟨p6,r4,q7,T⟩:=T
 simp only[zbY,lF] at q7
 replace F:=aa c4<|aa p6<|aa q7<|F
 by_cases c8:r4=true
 ·replace T:=T.1 c8
  obtain⟨r5,y6,q9,rfl,rfl,rfl,rfl,rfl⟩:=T
  simp only[za7,lF] at q9
  exact fi (aa c8<|aa q9<|F)
 replace T:=T.2 c8
 replace c8:=Bool.eq_false_iff.2 c8
 obtain⟨rfl,rfl,rfl,rfl,rfl⟩:=T
 exact fi (aa c8<|F)
theorem zxF:SP 98=some (.code sc_Q98):=zb rfl Tryz.func98 comp_Q98
theorem zb3 (t:LTokens) (t_g2:Nat) (t_z2:Bool) (r:Bool) (t':LTokens) (t'_g2:Nat) (t'_z2:Bool) (T :
  ∃ (b1:UInt8),(t.text.left[0]?=some b1) ∧
 ∃ (r2:Int),(zeH b1 r2) ∧
 ((r2=2) →
  ∃ (r3:Token) (r4:Bool) (y5:LTokens) (g6:Nat) (z7:Bool),(zj7 t t_g2 t_z2 r3 r4 y5 g6 z7) ∧
  (bigRow (y5.out.length+1) 64) ∧
  r4=r∧(LTokens.mk y5.text (y5.out++[(Token.mk r3.Kind r3.Text r3.Num r3.Parts t.text.pos)]))=t'∧g6=t'_g2∧z7=t'_z2) ∧
 (¬ (r2=2) →
  ((r2=3) →
   ∃ (r8:Token) (r9:Bool) (y10:LTokens) (g11:Nat) (z12:Bool),(zhv t t_g2 t_z2 r8 r9 y10 g11 z12) ∧
   (bigRow (y10.out.length+1) 64) ∧
   r9=r∧(LTokens.mk y10.text (y10.out++[(Token.mk r8.Kind r8.Text r8.Num r8.Parts t.text.pos)]))=t'∧g11=t'_g2∧z12=t'_z2) ∧
  (¬ (r2=3) →
   ((r2=4) →
    ∃ (r13:Token) (r14:Bool) (y15:LTokens) (g16:Nat) (z17:Bool),(zg6 t t_g2 t_z2 r13 r14 y15 g16 z17) ∧
    (bigRow (y15.out.length+1) 64) ∧
    r14=r∧(LTokens.mk y15.text (y15.out++[(Token.mk r13.Kind r13.Text r13.Num r13.Parts t.text.pos)]))=t'∧g16=t'_g2∧z17=t'_z2) ∧
   (¬ (r2=4) →
    ∃ (r18:Token) (r19:Bool) (y20:LTokens) (g21:Nat) (z22:Bool),(zjh t t_g2 t_z2 r18 r19 y20 g21 z22) ∧
    (bigRow (y20.out.length+1) 64) ∧
    r19=r∧(LTokens.mk y20.text (y20.out++[(Token.mk r18.Kind r18.Text r18.Num r18.Parts t.text.pos)]))=t'∧g21=t'_g2∧z22=t'_z2)))):zmx t t_g2 t_z2 r t' t'_g2 t'_z2:=by
 intro S n0 t0 H0
 obtain⟨hb0,ha0⟩:=H0
 obtain⟨w0,hB0⟩:=zh hb0
 have hn0:=zc hB0
 rw[za zxF _ _ rfl]
 have F:=zzH
 obtain⟨b1,q1,r2,q2,T⟩:=T
 simp only[zeH,lF] at q2
 replace F:=aa ha0<|aa hB0<|aa hn0<|aa q1<|aa q2<|F
 by_cases c3:r2=2
 ·replace T:=T.1 c3
  obtain⟨r3,r4,y5,g6,z7,q4,p5,rfl,rfl,rfl,rfl⟩:=T
  simp only[zj7,lF] at q4
  simp only[bigRow] at p5
  exact fi (aa (eq_true c3)<|aa q4<|aa p5<|F)
 replace T:=T.2 c3
 replace F:=aa (eq_false c3)<|F
 by_cases c6:r2=3
 ·replace T:=T.1 c6
  obtain⟨r8,r9,y10,g11,z12,q7,p8,rfl,rfl,rfl,rfl⟩:=T
  simp only[zhv,lF] at q7
  simp only[bigRow] at p8
  exact fi (aa (eq_true c6)<|aa q7<|aa p8<|F)
 replace T:=T.2 c6
 replace F:=aa (eq_false c6)<|F
 by_cases c9:r2=4
 ·replace T:=T.1 c9
  obtain⟨r13,r14,y15,g16,z17,q10,p11,rfl,rfl,rfl,rfl⟩:=T
  simp only[zg6,lF] at q10
  simp only[bigRow] at p11
  exact fi (aa (eq_true c9)<|aa q10<|aa p11<|F)
 replace T:=T.2 c9
 obtain⟨r18,r19,y20,g21,z22,q12,p13,rfl,rfl,rfl,rfl⟩:=T
 simp only[zjh,lF] at q12
 simp only[bigRow] at p13
 exact fi (aa (eq_false c9)<|aa q12<|aa p13<|F)
theorem zyE:SP 60=some (.code sc_Q60):=zb rfl Tryz.func60 comp_Q60
def zga (s4:List UInt8) (i5:Int) (l6:List Token) (g7:Nat) (z8:Bool) (ra:List Token) (rb:Int):Prop:=∀ (S:Sto) (e:Nat→PV) (f:Fr),e 4=.ptr 0 11 0∧f.box 11=some [.str s4,.int .i64 i5,.sl 0 (.cell 11 2) 0 l6.length l6.length g7 false]∧f.arr (.cell 11 2)=some ⟨5,l6.map eToken,z8,g7⟩→zp8 SP (E SP (.loop b_Q60_1) ⟨e,f::S⟩)=.ok (.v (.tup [.list 5 (ra.map eToken) false,.int .i64 rb])) S
theorem zcC (s4:List UInt8) (i5:Int) (l6:List Token) (g7:Nat) (z8:Bool) (ra:List Token) (rb:Int) (T :
  ((s4=[]) →
  (bigRow (l6.length+1) 64) ∧
  (l6++[(Token.mk 0 [] 0 [] i5)])=ra∧0=rb) ∧
 (¬ (s4=[]) →
  ∃ (r9:Bool) (y10:LTokens) (g11:Nat) (z12:Bool),(zmx (LTokens.mk (LText.mk s4 i5) l6) g7 z8 r9 y10 g11 z12) ∧
  ((r9=true) →
   ∃ (y13:LTokens) (g14:Nat) (z15:Bool),(zmz y10 g11 z12 y13 g14 z15) ∧
   zga y13.text.left y13.text.pos y13.out g14 z15 ra rb) ∧
  (¬ (r9=true) →
   []=ra∧5=rb))):zga s4 i5 l6 g7 z8 ra rb:=by
 intro S e f h
 unfold zp8
 rw[zo]
 have F:=zvy
 exact rn (aa h<|F) T
theorem ztC (s:List UInt8) (ra:List Token) (rb:Int) (T :
  ((6000 < (s.length:Int)) →
  []=ra∧4=rb) ∧
 (¬ (6000 < (s.length:Int)) →
  ∃ (y1:LTokens) (g2:Nat) (z3:Bool),(zmz (LTokens.mk (LText.mk s 0) []) 0 false y1 g2 z3) ∧
  zga y1.text.left y1.text.pos y1.out g2 z3 ra rb)):zc8 s ra rb:=by
 intro S
 rw[za zyE _ _ rfl]
 have F:=zvy
 exact rn F T
theorem zd9:SP 170=some (.code sc_slices_Contains_int_int):=zb rfl Tryz.func170 comp_slices_Contains_int_int
theorem zdr (s:List Int) (v:Int) (r:Bool) (T :
  ∃ (r1:Int),(zcr s v r1) ∧
 (decide (0≤r1))=r):zaX s v r:=by
 intro S
 rw[za zd9 _ _ rfl]
 have F:=zel
 exact rn F T
theorem zeY:SP 190=some (.code sc_slices_Index_int_int):=zb rfl Tryz.func190 comp_slices_Index_int_int
def zav (s:List Int) (v:Int) (i1:Int) (r:Int):Prop:=∀ (S:Sto) (e:Nat→PV) (f:Fr),e 0=.list 1 (s.map eI) false∧e 1=.int .i64 v∧e 7=.int .i64 (s.length:Int)∧e 8=.int .i64 i1→zb4 SP (E SP (.loop b_slices_Index_int_int_1) ⟨e,f::S⟩)=.ok (.v (.int .i64 r)) S
theorem zax (s:List Int) (v:Int) (i1:Int) (r:Int) (T :
  ((i1 < (s.length:Int)) →
  (0≤i1) ∧
  ∃ (v2:Int),(s[i1.toNat]?=some v2) ∧
  ((v=v2) →
   i1=r) ∧
  (¬ (v=v2) →
   (I64 (i1+1)) ∧
   zav s v (i1+1) r)) ∧
 (¬ (i1 < (s.length:Int)) →
  (-1)=r)):zav s v i1 r:=by
 intro S e f h
 unfold zb4
 rw[zo]
 have F:=zcp
 exact rn (aa h<|F) T
theorem zeo (s:List Int) (v:Int) (r:Int) (T :
  zav s v 0 r):zcr s v r:=by
 intro S
 rw[za zeY _ _ rfl]
 have F:=zcp
 exact rn F T
theorem zcH:SP 161=some (.code sc_slices_Contains_string_string):=zb rfl Tryz.func161 comp_slices_Contains_string_string
theorem zcn (s:List (List UInt8)) (v:List UInt8) (r:Bool) (T :
  ∃ (r1:Int),(zL s v r1) ∧
 (decide (0≤r1))=r):zV s v r:=by
 intro S
 rw[za zcH _ _ rfl]
 have F:=zcW
 exact rn F T
def zy (c:UInt8):Int :=
 if c.toNat=32∨c.toNat=10 then 1 else if c.toNat=95∨(97≤c.toNat∧c.toNat≤122) then 2
 else if 48≤c.toNat∧c.toNat≤57 then 3 else if c.toNat=34 then 4 else if c.toNat=35 then 5 else 0
theorem zan (c:UInt8):zeH c (zy c):=by
 apply zr2
 unfold zy
 repeat' first
  | refine⟨fun h=>?_,fun h=>?_⟩
  | ((repeat' split) <;> omega)
theorem ztr (s:List Int) (v:Int) (hs:s.length < 1000000):∀ (k i:Nat),i+k=s.length→∃ r:Int,zav s v i r∧(0≤r↔v ∈ s.drop i)
 | 0,i,h=>⟨-1,by
   apply zax
   exact⟨fun h=>by omega,fun _=>rfl⟩,by rw[List.drop_eq_nil_of_le (by omega)];simp⟩
 | k+1,i,h=>by
  have hi:i < s.length:=by omega
  have hg:s[((i:Nat):Int).toNat]?=some s[i]:=by rw[Int.toNat_natCast];exact List.getElem?_eq_getElem hi
  have hd:s.drop i=s[i]::s.drop (i+1):=List.drop_eq_getElem_cons hi
  by_cases c:v=s[i]
  ·refine⟨i,?_,?_⟩
   ·apply zax
    exact⟨fun _=>⟨by omega,s[i],hg,fun _=>rfl,fun h=>absurd c h⟩,fun h=>by omega⟩
   rw[hd,←c];simp
  obtain⟨r,h1,h2⟩:=ztr s v hs k (i+1) (by omega)
  refine⟨r,?_,?_⟩
  ·apply zax
   exact⟨fun _=>⟨by omega,s[i],hg,fun h=>absurd h c,fun _=>⟨⟨by omega,by omega⟩,h1⟩⟩,fun h=>by omega⟩
  rw[hd,h2,List.mem_cons];simp[c]
theorem zoL (s:List Int) (v:Int) (hs:s.length < 1000000):zaX s v (decide (v ∈ s)):=by
 apply zdr
 obtain⟨r,h1,h2⟩:=ztr s v hs s.length 0 (by omega)
 refine⟨r,zeo s v r h1,?_⟩
 rw[List.drop_zero] at h2
 exact decide_eq_decide.2 h2
theorem zti (s:List (List UInt8)) (v:List UInt8) (hs:s.length < 1000000):∀ (k i:Nat),i+k=s.length→∃ r:Int,zF s v i r∧(0≤r↔v ∈ s.drop i)
 | 0,i,h=>⟨-1,by
   apply zz
   exact⟨fun h=>by omega,fun _=>rfl⟩,by rw[List.drop_eq_nil_of_le (by omega)];simp⟩
 | k+1,i,h=>by
  have hi:i < s.length:=by omega
  have hg:s[((i:Nat):Int).toNat]?=some s[i]:=by rw[Int.toNat_natCast];exact List.getElem?_eq_getElem hi
  have hd:s.drop i=s[i]::s.drop (i+1):=List.drop_eq_getElem_cons hi
  by_cases c:v=s[i]
  ·refine⟨i,?_,?_⟩
   ·apply zz
    exact⟨fun _=>⟨by omega,s[i],hg,fun _=>rfl,fun h=>absurd c h⟩,fun h=>by omega⟩
   rw[hd,←c];simp
  obtain⟨r,h1,h2⟩:=zti s v hs k (i+1) (by omega)
  refine⟨r,?_,?_⟩
  ·apply zz
   exact⟨fun _=>⟨by omega,s[i],hg,fun h=>absurd h c,fun _=>⟨⟨by omega,by omega⟩,h1⟩⟩,fun h=>by omega⟩
  rw[hd,h2,List.mem_cons];simp[c]
theorem zin (s:List (List UInt8)) (v:List UInt8) (hs:s.length < 1000000):zV s v (decide (v ∈ s)):=by
 apply zcn
 obtain⟨r,h1,h2⟩:=zti s v hs s.length 0 (by omega)
 refine⟨r,zbc s v r h1,?_⟩
 rw[List.drop_zero] at h2
 exact decide_eq_decide.2 h2
def inC (cl:List Int) (c:UInt8):Bool:=decide (zy c ∈ cl)
def zB (cl:List Int) (s:List UInt8):Nat:=(s.takeWhile (inC cl)).length
theorem zcL (cl:List Int):∀ s:List UInt8,zB cl s≤s.length
 | []=>Nat.le_refl _
 | c::s=>by
  unfold zB
  rw[List.takeWhile_cons]
  split
  ·have:=zcL cl s;unfold zB at this;simp only[List.length_cons];omega
  simp
theorem zoN (s:List UInt8) (cl:List Int) (hc:cl.length < 1000000) (hs:s.length≤1000000):∀ (k i:Nat),i+k=s.length→∀ r:Int,r=(i:Int)+zB cl (s.drop i)→ze9 s cl i r:=by
 intro k
 induction k with
 | zero =>
  intro i hi r hr
  apply zfH
  rw[List.drop_eq_nil_of_le (by omega)] at hr
  exact⟨fun h=>by omega,fun _=>by rw[hr];simp[zB];omega⟩
 | succ k ih =>
  intro i hi r hr
  have hlt:i < s.length:=by omega
  have hg:s[((i:Nat):Int).toNat]?=some s[i]:=by rw[Int.toNat_natCast];exact List.getElem?_eq_getElem hlt
  have hd:s.drop i=s[i]::s.drop (i+1):=List.drop_eq_getElem_cons hlt
  rw[hd,zB,List.takeWhile_cons] at hr
  apply zfH
  refine⟨fun _=>⟨by omega,s[i],hg,_,zan _,_,zoL cl _ hc,fun h=>?_,fun h=>?_⟩,fun h=>by omega⟩
  ·refine⟨⟨by omega,by omega⟩,ih (i+1) (by omega) r ?_⟩
   have h':inC cl s[i]=true:=h
   rw[hr,if_pos h',zB]
   simp only[List.length_cons]
   omega
  have h':¬ inC cl s[i]=true:=h
  rw[hr,if_neg h']
  simp
theorem zsZ (s:List UInt8) (cl:List Int) (hc:cl.length < 1000000) (hs:s.length≤1000000):zhx s cl (zB cl s):=by
 apply zrK
 exact zoN s cl hc hs s.length 0 (by omega) _ (by simp)
theorem zoi (c:UInt8):zjl c (decide (zy c=2)):=by
 apply zrz
 have hc:zy c=2↔(c.toNat=95∨(97≤c.toNat∧c.toNat≤122)):=by
  unfold zy
  repeat' split
  all_goals (first | omega | (constructor <;> intro h <;> first | omega | exact absurd h (by decide)))
 refine⟨fun h1=>⟨fun h2=>?_,fun h2=>?_⟩,fun h1=>?_⟩
 ·exact (decide_eq_true (hc.2 (by omega))).symm
 ·exact decide_eq_decide.2 (by rw[hc];omega)
 exact decide_eq_decide.2 (by rw[hc];omega)
theorem zvV (c:UInt8):zof c (decide (zy c=3)):=by
 apply zs0
 have hc:zy c=3↔(48≤c.toNat∧c.toNat≤57):=by
  unfold zy
  repeat' split
  all_goals (first | omega | (constructor <;> intro h <;> first | omega | exact absurd h (by decide)))
 refine⟨fun h1=>?_,fun h1=>?_⟩
 ·exact decide_eq_decide.2 (by rw[hc];omega)
 exact (decide_eq_false (by rw[hc];omega)).symm
theorem zfj (c:UInt8):inC [2,3] c=true↔zy c=2∨zy c=3:=by
 unfold inC
 simp
theorem zkH (s:List UInt8) (hs:s.length≤1000000):∀ (k i:Nat),i+k=s.length→∀ r:Int,r=(i:Int)+zB [2,3] (s.drop i)→zdH s i r:=by
 intro k
 induction k with
 | zero =>
  intro i hi r hr
  apply zgF
  rw[List.drop_eq_nil_of_le (by omega)] at hr
  exact⟨fun h=>by omega,fun _=>by rw[hr];simp[zB]⟩
 | succ k ih =>
  intro i hi r hr
  have hlt:i < s.length:=by omega
  have hg:s[((i:Nat):Int).toNat]?=some s[i]:=by rw[Int.toNat_natCast];exact List.getElem?_eq_getElem hlt
  have hd:s.drop i=s[i]::s.drop (i+1):=List.drop_eq_getElem_cons hlt
  rw[hd,zB,List.takeWhile_cons] at hr
  have next:(zy s[i]=2∨zy s[i]=3)→zdH s ((i+1:Nat):Int) r:=fun h=>ih (i+1) (by omega) r (by
   rw[hr,if_pos ((zfj _).2 h),zB]
   simp only[List.length_cons]
   omega)
  apply zgF
  refine⟨fun _=>⟨by omega,s[i],hg,_,zoi _,fun h=>⟨⟨by omega,by omega⟩,next (.inl (of_decide_eq_true h))⟩,fun h1=>⟨_,zvV _,fun h=>⟨⟨by omega,by omega⟩,next (.inr (of_decide_eq_true h))⟩,fun h2=>?_⟩⟩,fun h=>by omega⟩
  rw[hr,if_neg]
  ·simp
  rw[zfj]
  simp only[decide_eq_true_eq] at h1 h2
  omega
def zah (s:List UInt8):Nat:=match s with
 | []=>0
 | c::_=>if zy c=2 then zB [2,3] s else 0
theorem zg7 (s:List UInt8) (hs:s.length≤1000000) (i:Nat):zkb s i ((i:Int)+zah (s.drop i)):=by
 apply ztJ
 refine⟨fun h=>?_,fun h=>?_⟩
 ·rw[List.drop_eq_nil_of_le (by omega)]
  simp[zah]
 have hlt:i < s.length:=by omega
 have hg:s[((i:Nat):Int).toNat]?=some s[i]:=by rw[Int.toNat_natCast];exact List.getElem?_eq_getElem hlt
 have hd:s.drop i=s[i]::s.drop (i+1):=List.drop_eq_getElem_cons hlt
 refine⟨by omega,s[i],hg,_,zoi _,fun h=>?_,fun h=>?_⟩
 ·refine zkH s hs (s.length - i) i (by omega) _ ?_
  rw[hd,zah,if_pos (of_decide_eq_true h)]
 rw[hd,zah,if_neg (fun e=>h (decide_eq_true e))]
 simp
def zN (s:List UInt8):Bool:=decide (s≠[]∧s.length≤24∧zah s=s.length)
theorem zcO (s:List UInt8) (hs:s.length≤1000000):zdd s (zN s):=by
 apply zrG
 refine⟨fun h=>?_,fun h=>⟨fun h2=>?_,fun h2=>?_⟩⟩
 ·simp[zN,h]
 ·cases s with
  | nil=>exact absurd rfl h
  | cons c t =>
   refine⟨c,rfl,_,zan c,fun h3=>⟨_,zsZ _ _ (by decide) hs,?_⟩,fun h3=>?_⟩
   ·refine decide_eq_decide.2 ?_
    rw[zah,if_pos h3]
    constructor
    ·intro e;exact⟨by simp,by omega,by omega⟩
    intro e;have:=e.2.2;omega
   refine (decide_eq_false ?_).symm
   rw[zah,if_neg h3]
   intro e
   have:=e.2.2
   simp at this
 refine (decide_eq_false fun e=>?_).symm
 have:=e.2.1
 omega
theorem zoc (b:UInt8):∀ s:List UInt8,Lib.index s [b]=if b ∈ s then ((s.takeWhile (· != b)).length:Int) else -1
 | []=>by simp[Lib.index]
 | c::l=>by
  unfold Lib.index
  rw[zoc b l]
  by_cases h:b=c
  ·subst h
   simp[List.takeWhile_cons]
  have h':¬ c=b:=fun e=>h e.symm
  by_cases hm:b ∈ l
  ·simp[List.takeWhile_cons,h,h',hm]
  simp[h,hm]
theorem za6 (p:UInt8→Bool):∀ s:List UInt8,s.take (s.takeWhile p).length=s.takeWhile p
 | []=>rfl
 | c::s=>by
  rw[List.takeWhile_cons]
  split
  ·simp[za6 p s]
  rfl
theorem zar (p:UInt8→Bool):∀ s:List UInt8,s.drop (s.takeWhile p).length=s.dropWhile p
 | []=>rfl
 | c::s=>by
  rw[List.takeWhile_cons,List.dropWhile_cons]
  split
  ·simp[zar p s]
  rfl
theorem ztR (b:UInt8) (s:List UInt8):Lib.cut s [b]=if b ∈ s then (s.takeWhile (· != b),(s.dropWhile (· != b)).drop 1,true) else (s,[],false):=by
 unfold Lib.cut
 rw[zoc]
 by_cases h:b ∈ s
 ·simp only[h,if_true]
  rw[if_pos (by omega)]
  simp only[Int.toNat_natCast,List.length_cons,List.length_nil,Nat.zero_add]
  rw[za6,←zar,List.drop_drop]
 simp[h]
theorem zjv (s p:List UInt8) (hs:s.length≤1000000):zbe s p (Lib.cut s p).1 (Lib.cut s p).2.1 (Lib.cut s p).2.2:=fun S=>zbF zkU S (if_pos (by omega))
theorem zbs (s p:List UInt8):zbQ s p (Lib.hasPrefix s p):=fun S=>zbF zf9 S rfl
theorem ziu (s p:List UInt8) (hs:s.length≤1000000):zbY s p (Lib.contains s p):=fun S=>zbF zgL S (if_pos (by omega))
theorem ze8 (s:List UInt8) (hs:s.length≤1000000):zj2 s (zN s):=by
 apply zuX
 refine⟨fun h=>?_,fun h=>⟨fun h2=>⟨_,zg7 s hs 0,?_⟩,fun h2=>?_⟩⟩
 ·simp[zN,h]
 ·refine decide_eq_decide.2 ?_
  rw[List.drop_zero]
  constructor
  ·intro e;exact⟨h,by omega,by omega⟩
  intro e;have:=e.2.2;omega
 refine (decide_eq_false fun e=>?_).symm
 have:=e.2.1
 omega
def zJ (s:List UInt8):Bool:=(Lib.cut s [46]).2.2 && zN (Lib.cut s [46]).1 && zN (Lib.cut s [46]).2.1
def zH (s:List UInt8):List UInt8 × Bool:=((Lib.cut s [125]).1,(Lib.cut s [125]).2.2 && zJ (Lib.cut s [125]).1)
theorem zjb (s p:List UInt8):(Lib.cut s p).1.length≤s.length:=by
 unfold Lib.cut
 split
 ·simp;omega
 simp
theorem znH (s p:List UInt8):(Lib.cut s p).2.1.length≤s.length:=by
 unfold Lib.cut
 split
 ·simp
 simp
theorem ziz (s:List UInt8) (h2:2≤s.length) (hs:s.length≤1000000):zhH s (zH (s.drop 2)).1 (zH (s.drop 2)).2:=by
 apply zta
 have e:(s.drop 2).take (s.length - 2)=s.drop 2:=List.take_of_length_le (by simp)
 rw[e]
 have l0:(s.drop 2).length≤1000000:=by simp;omega
 generalize s.drop 2=t at l0
 have l1:=zjb t [125]
 have l2:=zjb (Lib.cut t [125]).1 [46]
 have l3:=znH (Lib.cut t [125]).1 [46]
 refine⟨h2,_,_,_,zjv t [125] l0,_,_,_,zjv _ [46] (by omega),fun h3=>⟨fun h6=>⟨_,zcO _ (by omega),fun h7=>⟨_,zcO _ (by omega),rfl,?_⟩,fun h7=>⟨rfl,?_⟩⟩,fun h6=>⟨rfl,?_⟩⟩,fun h3=>⟨rfl,?_⟩⟩
 ·simp[zH,zJ,h3,h6,h7]
 ·simp[zH,zJ,h7]
 ·simp[zH,zJ,h6]
 simp[zH,h3]
theorem zcm (p:UInt8→Bool):∀ (u:List UInt8) (c:UInt8) (v:List UInt8),(∀ x ∈ u,p x=true)→p c=false→(u++c::v).takeWhile p=u
 | [],c,v,_,hc=>by simp[List.takeWhile_cons,hc]
 | x::u,c,v,h,hc=>by
  rw[List.cons_append,List.takeWhile_cons,if_pos (h x (by simp)),zcm p u c v (fun y hy=>h y (by simp[hy])) hc]
theorem zcc (b:UInt8) (u v:List UInt8) (h:b ∉ u):Lib.cut (u++b::v) [b]=(u,v,true):=by
 have h1:(u++b::v).takeWhile (· != b)=u:=zcm _ u b v (fun x hx=>by simp;intro e;exact h (e ▸ hx)) (by simp)
 rw[ztR,if_pos (by simp),←zar,h1]
 simp
theorem zgq (b:UInt8) (s:List UInt8) (h:b ∉ s):Lib.cut s [b]=(s,[],false):=by rw[ztR,if_neg h]
theorem zbM (b:UInt8):∀ s:List UInt8,b ∈ s→∃ u v,s=u++b::v∧b ∉ u
 | [],h=>by cases h
 | c::s,h=>by
  by_cases e:b=c
  ·exact⟨[],s,by rw[e];rfl,by simp⟩
  obtain⟨u,v,h1,h2⟩:=zbM b s (by rcases List.mem_cons.1 h with h | h;exact absurd h e;exact h)
  exact⟨c::u,v,by rw[h1];rfl,by simp[e,h2]⟩
theorem zpr (s:List UInt8):zah s≤s.length:=by
 unfold zah
 split
 ·exact Nat.zero_le _
 split
 ·exact zcL _ _
 exact Nat.zero_le _
theorem zv8 (cl:List Int):∀ (s:List UInt8) (x:UInt8),x ∈ s.take (zB cl s)→inC cl x=true:=fun s x h=>by
 unfold zB at h
 rw[za6] at h
 exact List.all_eq_true.1 List.all_takeWhile x h
theorem zoQ (s:List UInt8) (x:UInt8) (h:x ∈ s.take (zah s)):inC [2,3] x=true:=by
 unfold zah at h
 split at h
 ·simp at h
 split at h
 ·exact zv8 _ _ x h
 simp at h
theorem zds {s:List UInt8} (h:zN s=true) (x:UInt8) (hx:x ∈ s):inC [2,3] x=true:=by
 obtain⟨_,_,h3⟩:=of_decide_eq_true h
 refine zoQ s x ?_
 rw[h3,List.take_length]
 exact hx
theorem znI {u:List UInt8} (h:zN u=true) (c:UInt8) (v:List UInt8) (hc:inC [2,3] c=false):zah (u++c::v)=u.length:=by
 obtain⟨h1,_,h3⟩:=of_decide_eq_true h
 cases u with
 | nil=>exact absurd rfl h1
 | cons a u =>
  have ha:zy a=2:=by
   rw[zah] at h3
   split at h3
   ·assumption
   simp at h3
  rw[List.cons_append,zah,if_pos ha,zB,←List.cons_append,zcm _ (a::u) c v (fun x hx=>zds h x hx) hc]
theorem zmN:inC [2,3] 46=false:=by
 rw[←Bool.not_eq_true,zfj]
 decide
theorem zol (s:List UInt8) (hs:s.length≤1000000):zmA s (zJ s):=by
 apply zuZ
 have hle:=zpr s
 refine⟨_,zg7 s hs 0,?_⟩
 rw[List.drop_zero]
 by_cases hm:(46:UInt8) ∈ s
 ·obtain⟨u,v,rfl,hu⟩:=zbM 46 s hm
  have hd:zJ (u++46::v)=(zN u && zN v):=by unfold zJ;rw[zcc 46 u v hu];simp
  rw[hd]
  by_cases hn:zN u=true
  ·have he:=znI hn 46 v zmN
   obtain⟨h1,_,_⟩:=of_decide_eq_true hn
   have hpos:0 < u.length:=List.length_pos_iff.2 h1
   rw[he]
   simp only[List.length_append,List.length_cons] at hs
   refine⟨fun _=>⟨fun _=>⟨by omega,46,by simp,fun _=>⟨by omega,by rw[List.length_append,List.length_cons];omega,zN u,?_,fun _=>⟨⟨by omega,by omega⟩,by omega,by rw[List.length_append,List.length_cons];omega,zN v,?_,by simp[hn]⟩,fun h=>absurd hn h⟩,fun h=>absurd (by decide) h⟩,fun h=>absurd (by simp;omega) h⟩,fun h=>absurd (by omega) h⟩
   ·have e:(u++46::v).take ((0:Nat)+(u.length:Nat):Int).toNat=u:=by
     rw[show (((0:Nat):Int)+((u.length:Nat):Int)).toNat=u.length by omega];simp
    rw[e]
    exact ze8 u (by omega)
   have e1:(((0:Nat):Int)+((u.length:Nat):Int)+1).toNat=u.length+1:=by omega
   rw[e1]
   have e2:(u++46::v).drop (u.length+1)=v:=by rw[List.drop_append];simp
   rw[e2,List.take_of_length_le (by rw[List.length_append,List.length_cons];omega)]
   exact ze8 v (by omega)
  have hnf:zN u=false:=by simpa using hn
  rw[hnf,Bool.false_and]
  refine⟨fun h1=>⟨fun h2=>?_,fun _=>rfl⟩,fun _=>rfl⟩
  have hlt:zah (u++46::v) < (u++46::v).length:=by omega
  have et:(((0:Nat):Int)+((zah (u++46::v):Nat):Int)).toNat=zah (u++46::v):=by omega
  rw[et]
  refine⟨by omega,_,List.getElem?_eq_getElem hlt,fun h3=>?_,fun _=>rfl⟩
  have h46:(u++46::v)[zah (u++46::v)]=46:=by
   apply UInt8.toNat_inj.1
   exact Int.ofNat.inj h3
  have he:zah (u++46::v)=u.length:=by
   rcases Nat.lt_trichotomy (zah (u++46::v)) u.length with h | h | h
   ·exfalso
    rw[List.getElem_append_left h] at h46
    exact hu (h46 ▸ List.getElem_mem h)
   ·exact h
   exfalso
   have:(46:UInt8) ∈ (u++46::v).take (zah (u++46::v)):=by
    rw[List.take_append]
    refine List.mem_append.2 (.inr ?_)
    obtain⟨k,hk⟩:∃ k,zah (u++46::v) - u.length=k+1:=⟨zah (u++46::v) - u.length - 1,by omega⟩
    rw[hk]
    simp
   have:=zoQ _ _ this
   rw[zmN] at this
   cases this
  have e:(u++46::v).take (zah (u++46::v))=u:=by rw[he];simp
  rw[e]
  have hs2:u.length≤1000000:=by simp at hs;omega
  exact⟨by omega,by omega,zN u,ze8 u hs2,fun h=>absurd h hn,fun _=>rfl⟩
 have hd:zJ s=false:=by unfold zJ;rw[zgq 46 s hm];rfl
 rw[hd]
 refine⟨fun h1=>⟨fun h2=>?_,fun _=>rfl⟩,fun _=>rfl⟩
 have hlt:zah s < s.length:=by omega
 have et:(((0:Nat):Int)+((zah s:Nat):Int)).toNat=zah s:=by omega
 rw[et]
 refine⟨by omega,_,List.getElem?_eq_getElem hlt,fun h3=>?_,fun _=>rfl⟩
 exfalso
 have h46:s[zah s]=46:=by
  apply UInt8.toNat_inj.1
  exact Int.ofNat.inj h3
 exact hm (h46 ▸ List.getElem_mem hlt)
theorem zvD:inC [2,3] 125=false:=by
 rw[←Bool.not_eq_true,zfj]
 decide
theorem zcX {s:List UInt8} (h:zJ s=true):∃ x y,s=x++46::y∧zN x=true∧zN y=true:=by
 unfold zJ at h
 by_cases hm:(46:UInt8) ∈ s
 ·obtain⟨u,v,rfl,hu⟩:=zbM 46 s hm
  rw[zcc 46 u v hu] at h
  simp only[Bool.and_eq_true] at h
  exact⟨u,v,rfl,h.1.2,h.2⟩
 rw[zgq 46 s hm] at h
 cases h
theorem zlQ {t:List UInt8} (h:(zH t).2=true):∃ x y v,t=x++46::(y++125::v)∧zN x=true∧zN y=true∧(zH t).1=x++46::y:=by
 unfold zH at h ⊢
 by_cases hm:(125:UInt8) ∈ t
 ·obtain⟨u,v,rfl,hu⟩:=zbM 125 t hm
  rw[zcc 125 u v hu] at h ⊢
  obtain⟨x,y,rfl,hx,hy⟩:=zcX (by simpa using h)
  exact⟨x,y,v,by simp,hx,hy,rfl⟩
 rw[zgq 125 t hm] at h
 cases h
theorem zor (b:UInt8) (x w:List UInt8):(x++b::w).drop (x.length+1)=w:=by rw[List.drop_append];simp
theorem zu0 {s:List UInt8} (h:zN s=true):0 < s.length:=List.length_pos_iff.2 (of_decide_eq_true h).1
def zku:List Int:=[123,125,91,93,40,41,61,44,46,43,45,42,47,37,60,62,33,63,58]
def zco:List (List UInt8):=[[61,61],[33,61],[60,61],[62,61],[38,38],[124,124]]
def zbT (a:UInt8):List UInt8:=if ((a.toNat:Nat):Int) ∈ zku then [a] else []
def zcy (a b:UInt8):List UInt8:=if [a,b] ∈ zco then [a,b] else zbT a
def zt:List UInt8→List UInt8
 | []=>[]
 | [a]=>zbT a
 | a::b::_=>zcy a b
def TI (t:LText):Prop:=t.left.length≤6000∧0≤t.pos∧t.pos+(t.left.length:Nat)≤6000
def zu (t:LText) (n:Nat):LText:=⟨t.left.drop n,t.pos+n⟩
theorem TI.take {t:LText} (h:TI t) {n:Nat} (hn:n≤t.left.length):TI (zu t n):=by
 obtain⟨h1,h2,h3⟩:=h
 refine⟨?_,?_,?_⟩ <;> simp only[zu,List.length_drop] <;> omega
theorem zb0 {t:LText} (h:TI t) {n:Nat} (hn:n≤t.left.length):za7 t n (t.left.take n) (zu t n):=by
 apply zth
 obtain⟨h1,h2,h3⟩:=h
 rw[Int.toNat_natCast]
 refine⟨by omega,hn,by omega,hn,⟨by omega,by omega⟩,rfl,?_⟩
 rw[List.take_of_length_le (by simp)]
 rfl
theorem zkh {t:LText} (h:TI t) (cl:List Int) (hc:cl.length < 1000000):zdZ t cl (t.left.takeWhile (inC cl)) (zu t (zB cl t.left)):=by
 apply zrU
 have h1:=h.1
 refine⟨_,zsZ t.left cl hc (by omega),_,_,zb0 h (zcL cl t.left),?_,rfl⟩
 exact za6 _ _
theorem zyR (t:LTokens) (g:Nat) (z:Bool) (h:TI t.text):zj7 t g z (Token.mk 3 (t.text.left.takeWhile (inC [2,3])) 0 [] 0) (zN (t.text.left.takeWhile (inC [2,3]))) (LTokens.mk (zu t.text (zB [2,3] t.text.left)) t.out) g z:=by
 apply zsO
 have h1:=h.1
 have h2:=zcL [2,3] t.text.left
 exact⟨_,_,zkh h [2,3] (by decide),_,zcO _ (by unfold zB at h2;omega),rfl,rfl,rfl,rfl,rfl⟩
theorem zf5 (a:UInt8):Lib.contains [123,125,91,93,40,41,61,44,46,43,45,42,47,37,60,62,33,63,58] [a]=decide (((a.toNat:Nat):Int) ∈ zku):=by
 unfold Lib.contains
 rw[zoc]
 refine decide_eq_decide.2 ?_
 have e:a ∈ ([123,125,91,93,40,41,61,44,46,43,45,42,47,37,60,62,33,63,58]:List UInt8)↔((a.toNat:Nat):Int) ∈ zku:=by
  simp only[zku,List.mem_cons,List.not_mem_nil,or_false,←UInt8.toNat_inj,UInt8.reduceToNat]
  omega
 rw[←e]
 split
 ·rename_i h;simp only[h,iff_true];omega
 rename_i h;simp only[h,iff_false];omega
theorem zyP (t:LTokens) (g:Nat) (z:Bool) (h:TI t.text) (hne:t.text.left≠[]):zjh t g z (if zt t.text.left=[] then Token.mk 0 [] 0 [] 0 else Token.mk 4 (zt t.text.left) 0 [] 0) (decide (zt t.text.left≠[])) (if zt t.text.left=[] then t else LTokens.mk (zu t.text (zt t.text.left).length) t.out) g z:=by
 apply zrT
 obtain⟨⟨left,pos⟩,out⟩:=t
 have h1:=h.1
 simp only at h1 hne ⊢
 match left,hne,h1,h with
 | [a],hne,h1,h =>
  have hn:¬ [a] ∈ zco:=by unfold zco;simp
  have e0:(if (([a].length:Nat):Int) < 2 then (([a].length:Nat):Int) else 2).toNat=1:=by simp
  rw[e0]
  simp only[List.take_succ_cons,List.take_zero,List.length_cons,List.length_nil]
  refine⟨by simp,by omega,_,zin zco [a] (by decide),fun hq=>absurd (of_decide_eq_true hq) hn,fun _=>⟨by omega,_,ziu _ [a] (by simp),fun hq=>?_,fun hq=>?_⟩⟩
  ·rw[zf5] at hq
   have hq:=of_decide_eq_true hq
   have hs:zt [a]=[a]:=by simp[zt,zbT,hq]
   rw[hs]
   exact⟨_,_,zb0 h (n:=1) (by simp),by simp⟩
  rw[zf5] at hq
  have hq:¬ ((a.toNat:Nat):Int) ∈ zku:=fun e=>hq (decide_eq_true e)
  have hs:zt [a]=[]:=by simp[zt,zbT,hq]
  rw[hs]
  simp
 | a::b::u,hne,h1,h =>
  have e0:(if (((a::b::u).length:Nat):Int) < 2 then (((a::b::u).length:Nat):Int) else 2)=2:=by
   rw[if_neg];simp only[List.length_cons];omega
  have e00:(2:Int).toNat=2:=rfl
  rw[e0,e00]
  simp only[List.take_succ_cons,List.take_zero,List.length_cons,List.length_nil]
  refine⟨by simp,by omega,_,zin zco [a,b] (by decide),fun hq=>?_,fun hn=>⟨by omega,_,ziu _ [a] (by simp),fun hq=>?_,fun hq=>?_⟩⟩
  ·have hq:=of_decide_eq_true hq
   have hs:zt (a::b::u)=[a,b]:=by simp[zt,zcy,hq]
   rw[hs]
   exact⟨_,_,zb0 h (n:=2) (by simp),by simp⟩
  ·have hn:¬ [a,b] ∈ zco:=fun e=>hn (decide_eq_true e)
   rw[zf5] at hq
   have hq:=of_decide_eq_true hq
   have hs:zt (a::b::u)=[a]:=by simp[zt,zcy,zbT,hn,hq]
   rw[hs]
   exact⟨_,_,zb0 h (n:=1) (by simp),by simp⟩
  have hn:¬ [a,b] ∈ zco:=fun e=>hn (decide_eq_true e)
  rw[zf5] at hq
  have hq:¬ ((a.toNat:Nat):Int) ∈ zku:=fun e=>hq (decide_eq_true e)
  have hs:zt (a::b::u)=[]:=by simp[zt,zcy,zbT,hn,hq]
  rw[hs]
  simp
def zgo (x:UInt8):Option UInt8:=if x=34∨x=92∨x=36 then some x else if x=110 then some 10 else none
theorem zoH (s:List UInt8) (c:UInt8):zdo s c (Lib.indexByte s c):=fun S=>zbF zfZ S (by simp[zhr])
theorem zlq (y x:UInt8) (u:List UInt8):zm0 (y::x::u) ((zgo x).getD 0) (zgo x).isSome:=by
 apply zlR
 refine⟨fun h=>absurd h (by simp;omega),fun _=>⟨x,rfl,_,zoH _ x,?_⟩⟩
 unfold zgo
 by_cases h1:x=34
 ·subst h1
  exact⟨fun h=>absurd h (by decide),fun _=>⟨by decide,34,rfl,rfl,rfl⟩⟩
 by_cases h2:x=92
 ·subst h2
  exact⟨fun h=>absurd h (by decide),fun _=>⟨by decide,92,rfl,rfl,rfl⟩⟩
 by_cases h3:x=36
 ·subst h3
  exact⟨fun h=>absurd h (by decide),fun _=>⟨by decide,36,rfl,rfl,rfl⟩⟩
 by_cases h4:x=110
 ·subst h4
  exact⟨fun h=>absurd h (by decide),fun _=>⟨by decide,10,rfl,rfl,rfl⟩⟩
 have e:Lib.indexByte [34,92,36,110] x=-1:=by
  have:=Lib.indexByte_ge [34,92,36,110] x
  simp[Lib.indexByte,Ne.symm h1,Ne.symm h2,Ne.symm h3,Ne.symm h4]
 rw[e]
 simp[h1,h2,h3,h4]
def zI (l:List Part) (b:List UInt8):List Part:=l++(if b=[] then [] else [Part.mk false b])
def okP (l:List Part):Prop:=l=[]∨∃ l0 q,l=l0++[Part.mk true q]
theorem zjd {α:Type} (l:List α) (x y:α):(l++[x]).set l.length y=l++[y]:=by simp
theorem zpD (l:List Part) (b:List UInt8) (c:UInt8) (g:Nat) (hl:okP l) (h1:l.length≤10000) (h2:b.length≤10000):zjB (zI l b) g false c (zI l (b++[c])) g false:=by
 apply zsp
 have hb:b++[c]≠[]:=by simp
 by_cases e:b=[]
 ·subst e
  have e1:zI l []=l:=by simp[zI]
  have e2:zI l ([]++[c])=l++[Part.mk false [c]]:=by simp[zI]
  have e3:(((l.length:Nat):Int)+1 - 1).toNat=l.length:=by omega
  have big:bigRow (l.length+1) 24:=⟨by omega,by omega,by decide⟩
  rw[e1,e2,e3]
  refine⟨fun h=>⟨big,⟨by omega,by omega⟩,⟨by omega,by omega⟩,by omega,by omega,Part.mk false [],by simp,by simp[zd],by omega,by omega,rfl,?_,rfl,rfl⟩,fun h=>?_⟩
  ·rw[zjd];rfl
  rcases hl with rfl | ⟨l0,q,rfl⟩
  ·exact absurd rfl h
  have e4:((((l0++[Part.mk true q]).length:Nat):Int) - 1).toNat=l0.length:=by simp
  have hlen:(l0++[Part.mk true q]).length=l0.length+1:=by simp
  rw[e4]
  refine⟨⟨by omega,by omega⟩,by omega,by omega,Part.mk true q,by simp,fun _=>⟨big,⟨by omega,by omega⟩,⟨by omega,by omega⟩,by omega,by omega,Part.mk false [],by simp,by simp[zd],by omega,by omega,rfl,?_,rfl,rfl⟩,fun h=>absurd rfl h⟩
  rw[zjd];rfl
 have e1:zI l b=l++[Part.mk false b]:=by simp[zI,e]
 have e2:zI l (b++[c])=l++[Part.mk false (b++[c])]:=by simp[zI]
 have hlen:(l++[Part.mk false b]).length=l.length+1:=by simp
 have e3:((((l++[Part.mk false b]).length:Nat):Int) - 1).toNat=l.length:=by omega
 rw[e1,e2]
 refine⟨fun h=>by omega,fun h=>?_⟩
 rw[e3]
 refine⟨⟨by omega,by omega⟩,by omega,by omega,Part.mk false b,by simp,fun h=>by simp at h,fun _=>⟨⟨by omega,by omega⟩,by omega,by omega,by simp only[zd];omega,by omega,by omega,rfl,?_,rfl,rfl⟩⟩
 rw[zjd]
inductive Qx:List UInt8→List Part→List UInt8→Option (List Part × Nat)→Prop
 | nil (l b):Qx [] l b none
 | shut (t l b):Qx (34::t) l b (some (zI l b,1))
 | low (c t l b) (h1:c≠34) (h2:c.toNat < 32):Qx (c::t) l b none
 | esc (x y t l b r) (h1:zgo x=some y) (h:Qx t l (b++[y]) r):Qx (92::x::t) l b (r.map fun q=>(q.1,q.2+2))
 | esc0 (l b):Qx [92] l b none
 | escbad (x t l b) (h1:zgo x=none):Qx (92::x::t) l b none
 | ref (t l b r) (h1:(zH t).2=true) (h:Qx (t.drop ((zH t).1.length+1)) (zI l b++[Part.mk true (zH t).1]) [] r):Qx (36::123::t) l b (r.map fun q=>(q.1,q.2+(3+(zH t).1.length)))
 | refbad (t l b) (h1:(zH t).2=false):Qx (36::123::t) l b none
 | plain (c t l b r) (h1:c≠34) (h2:¬ c.toNat < 32) (h3:c≠92) (h4:c=36→t.head?≠some 123) (h:Qx t l (b++[c]) r):Qx (c::t) l b (r.map fun q=>(q.1,q.2+1))
theorem ziJ {t:List UInt8} (h:(zH t).2=true):(zH t).1.length+1≤t.length:=by
 obtain⟨x,y,v,e,_,_,e2⟩:=zlQ h
 rw[e2,e]
 simp
 omega
theorem zfx (c:UInt8):zy c=4↔c=34:=by
 have e:c=34↔c.toNat=34:=by rw[←UInt8.toNat_inj];rfl
 rw[e]
 unfold zy
 repeat' split
 all_goals (first | omega | (constructor <;> intro h <;> first | omega | exact absurd h (by decide)))
theorem zct (t:LText) (a b:Nat):zu (zu t a) b=zu t (a+b):=by
 unfold zu
 simp only[LText.mk.injEq,List.drop_drop]
 exact⟨trivial,by omega⟩
theorem zbB {t:LText} {c:UInt8} {u:List UInt8} (h:t.left=c::u):¬ t.left=[]∧t.left[0]?=some c:=by rw[h];simp
def QOut (gp:Nat) (lt:LTokens) (g:Nat) (z:Bool) (l:List Part) (b:List UInt8):Option (List Part × Nat)→Prop
 | none=>∃ t':LTokens,t'.out=lt.out∧zbk 0 [] 0 0 [] 0 (zI l b) gp false lt g z (Token.mk 0 [] 0 [] 0) false t' g z
 | some (ps,n)=>n≤lt.text.left.length∧zbk 0 [] 0 0 [] 0 (zI l b) gp false lt g z (Token.mk 2 [] 0 ps 0) true (LTokens.mk (zu lt.text n) lt.out) g z
theorem ztg (l:List Part) (b:List UInt8):(zI l b).length≤l.length+1:=by
 unfold zI
 split <;> simp
theorem ztp (l:List Part) (q:List UInt8):zI (l++[Part.mk true q]) []=l++[Part.mk true q]:=by simp[zI]
theorem QOut.next {gp:Nat} {lt:LTokens} {g:Nat} {z:Bool} {l:List Part} {b:List UInt8} {l2:List Part} {b2:List UInt8} {m:Nat} (hm:m≤lt.text.left.length)
  (step:∀ ra rb t' , zbk 0 [] 0 0 [] 0 (zI l2 b2) gp false (LTokens.mk (zu lt.text m) lt.out) g z ra rb t' g z→zbk 0 [] 0 0 [] 0 (zI l b) gp false lt g z ra rb t' g z) {r:Option (List Part × Nat)}
  (h:QOut gp (LTokens.mk (zu lt.text m) lt.out) g z l2 b2 r):QOut gp lt g z l b (r.map fun q=>(q.1,q.2+m)):=by
 cases r with
 | none=>obtain⟨t',ho,h⟩:=h;exact⟨t',ho,step _ _ _ h⟩
 | some q =>
  obtain⟨ps,n⟩:=q
  obtain⟨h1,h2⟩:=h
  simp only[zu,List.length_drop] at h1
  refine⟨by omega,?_⟩
  have:=step _ _ _ h2
  simp only[zct] at this
  rw[Nat.add_comm] at this
  exact this
theorem zl2 {t:List UInt8} {l:List Part} {b:List UInt8} {r:Option (List Part × Nat)} (h:Qx t l b r):∀ (gp:Nat) (lt:LTokens) (g:Nat) (z:Bool),lt.text.left=t→TI lt.text→okP l→l.length+t.length≤7000→b.length+t.length≤7000→QOut gp lt g z l b r:=by
 induction h with
 | nil l b =>
  intro gp lt g z e hT hl h1 h2
  refine⟨lt,rfl,?_⟩
  apply zaj
  exact⟨fun _=>⟨rfl,rfl,rfl,rfl,rfl⟩,fun h=>absurd e h⟩
 | shut t l b =>
  intro gp lt g z e hT hl h1 h2
  obtain⟨e1,e2⟩:=zbB e
  have hlen:1≤lt.text.left.length:=by rw[e];simp
  refine⟨hlen,?_⟩
  apply zaj
  exact⟨fun h=>absurd h e1,fun _=>⟨34,e2,_,zan 34,fun _=>⟨_,_,zb0 hT hlen,rfl,rfl,rfl,rfl,rfl⟩,fun h=>absurd ((zfx 34).2 rfl) h⟩⟩
 | low c t l b c1 c2 =>
  intro gp lt g z e hT hl h1 h2
  obtain⟨e1,e2⟩:=zbB e
  refine⟨lt,rfl,?_⟩
  apply zaj
  exact⟨fun h=>absurd h e1,fun _=>⟨c,e2,_,zan c,fun h=>absurd ((zfx c).1 h) c1,fun _=>⟨fun _=>⟨rfl,rfl,rfl,rfl,rfl⟩,fun h=>absurd (by omega) h⟩⟩⟩
 | esc x y t l b r hx _ ih =>
  intro gp lt g z e hT hl h1 h2
  obtain⟨e1,e2⟩:=zbB e
  simp only[List.length_cons] at h1 h2
  have hlen:2≤lt.text.left.length:=by rw[e];simp
  refine QOut.next (m:=2) hlen (fun ra rb t' hA=>?_) (ih gp _ g z (by simp only[zu,e];rfl) (hT.take hlen) hl (by omega) (by simp;omega))
  apply zaj
  refine⟨fun h=>absurd h e1,fun _=>⟨92,e2,_,zan 92,fun h=>absurd ((zfx 92).1 h) (by decide),fun _=>⟨fun h=>absurd h (by decide),fun _=>⟨fun _=>?_,fun h=>absurd (by decide) h⟩⟩⟩⟩
  rw[e]
  refine⟨_,_,zlq 92 x t,fun _=>⟨_,_,_,?_,_,_,zb0 hT hlen,hA⟩,fun h=>absurd (by rw[hx];rfl) h⟩
  rw[hx]
  exact zpD l b y gp hl (by omega) (by omega)
 | esc0 l b =>
  intro gp lt g z e hT hl h1 h2
  obtain⟨e1,e2⟩:=zbB e
  refine⟨lt,rfl,?_⟩
  apply zaj
  refine⟨fun h=>absurd h e1,fun _=>⟨92,e2,_,zan 92,fun h=>absurd ((zfx 92).1 h) (by decide),fun _=>⟨fun h=>absurd h (by decide),fun _=>⟨fun _=>?_,fun h=>absurd (by decide) h⟩⟩⟩⟩
  rw[e]
  refine⟨0,false,?_,fun h=>(by cases h),fun _=>⟨rfl,rfl,rfl,rfl,rfl⟩⟩
  apply zlR
  exact⟨fun _=>⟨rfl,rfl⟩,fun h=>absurd (by decide) h⟩
 | escbad x t l b hx =>
  intro gp lt g z e hT hl h1 h2
  obtain⟨e1,e2⟩:=zbB e
  refine⟨lt,rfl,?_⟩
  apply zaj
  refine⟨fun h=>absurd h e1,fun _=>⟨92,e2,_,zan 92,fun h=>absurd ((zfx 92).1 h) (by decide),fun _=>⟨fun h=>absurd h (by decide),fun _=>⟨fun _=>?_,fun h=>absurd (by decide) h⟩⟩⟩⟩
  rw[e]
  exact⟨_,_,zlq 92 x t,fun h=>(by rw[hx] at h;cases h),fun _=>⟨rfl,rfl,rfl,rfl,rfl⟩⟩
 | ref t l b r hr _ ih =>
  intro gp lt g z e hT hl h1 h2
  obtain⟨e1,e2⟩:=zbB e
  simp only[List.length_cons] at h1 h2
  have hrl:=ziJ hr
  have hj:=ztg l b
  have hlen:3+(zH t).1.length≤lt.text.left.length:=by rw[e];simp only[List.length_cons];omega
  have hT1:=hT.1
  refine QOut.next (m:=3+(zH t).1.length) hlen (fun ra rb t' hA=>?_) (ih gp _ g z ?_ (hT.take hlen) (.inr ⟨_,_,rfl⟩) ?_ ?_)
  ·apply zaj
   have hR:zhH lt.text.left (zH t).1 (zH t).2:=by
    have:=ziz lt.text.left (by omega) (by omega)
    rw[e] at this ⊢
    exact this
   have hTake:za7 lt.text (3+(((zH t).1.length:Nat):Int)) (lt.text.left.take (3+(zH t).1.length)) (zu lt.text (3+(zH t).1.length)):=by
    have:=zb0 hT hlen
    rw[Int.natCast_add] at this
    exact this
   rw[ztp] at hA
   exact⟨fun h=>absurd h e1,fun _=>⟨36,e2,_,zan 36,fun h=>absurd ((zfx 36).1 h) (by decide),fun _=>⟨fun h=>absurd h (by decide),fun _=>⟨fun h=>absurd h (by decide),fun _=>⟨_,zbs _ _,fun _=>⟨_,_,hR,fun _=>⟨⟨by omega,by omega,by decide⟩,⟨by omega,by omega⟩,_,_,hTake,hA⟩,fun h=>absurd hr h⟩,fun h=>absurd (by rw[e];simp[Lib.hasPrefix]) h⟩⟩⟩⟩⟩
  ·simp only[zu,e]
   rw[show 3+(zH t).1.length=((zH t).1.length+1)+1+1 by omega]
   rfl
  ·simp;omega
  simp;omega
 | refbad t l b hr =>
  intro gp lt g z e hT hl h1 h2
  obtain⟨e1,e2⟩:=zbB e
  have hT1:=hT.1
  refine⟨lt,rfl,?_⟩
  apply zaj
  have hR:zhH lt.text.left (zH t).1 (zH t).2:=by
   have:=ziz lt.text.left (by rw[e];simp) (by omega)
   rw[e] at this ⊢
   exact this
  exact⟨fun h=>absurd h e1,fun _=>⟨36,e2,_,zan 36,fun h=>absurd ((zfx 36).1 h) (by decide),fun _=>⟨fun h=>absurd h (by decide),fun _=>⟨fun h=>absurd h (by decide),fun _=>⟨_,zbs _ _,fun _=>⟨_,_,hR,fun h=>(by rw[hr] at h;cases h),fun _=>⟨rfl,rfl,rfl,rfl,rfl⟩⟩,fun h=>absurd (by rw[e];simp[Lib.hasPrefix]) h⟩⟩⟩⟩⟩
 | plain c t l b r c1 c2 c3 c4 _ ih =>
  intro gp lt g z e hT hl h1 h2
  obtain⟨e1,e2⟩:=zbB e
  simp only[List.length_cons] at h1 h2
  have hlen:1≤lt.text.left.length:=by rw[e];simp
  have hp:¬ Lib.hasPrefix lt.text.left [36,123]=true:=by
   rw[e]
   unfold Lib.hasPrefix
   intro h
   cases t with
   | nil=>simp at h
   | cons x t =>
    simp at h
    exact c4 h.1.symm (by rw[←h.2];rfl)
  have hc3:¬ ((c.toNat:Nat):Int)=92:=fun h=>c3 (by apply UInt8.toNat_inj.1;exact Int.ofNat.inj h)
  refine QOut.next (m:=1) hlen (fun ra rb t' hA=>?_) (ih gp _ g z (by simp only[zu,e];rfl) (hT.take hlen) hl (by omega) (by simp;omega))
  apply zaj
  exact⟨fun h=>absurd h e1,fun _=>⟨c,e2,_,zan c,fun h=>absurd ((zfx c).1 h) c1,fun _=>⟨fun h=>absurd h (by omega),fun _=>⟨fun h=>absurd h hc3,fun _=>⟨_,zbs _ _,fun h=>absurd h hp,fun _=>⟨_,_,_,zpD l b c gp hl (by omega) (by omega),_,_,zb0 hT hlen,hA⟩⟩⟩⟩⟩⟩
theorem zv3 (n:Nat) (h:n < 18446744073709551616):IntKind.u64.wrap (n:Int)=n:=U64.wrap ⟨by omega,by omega⟩
theorem zy8 (a:Nat) (b:Nat):((a:Nat):Int).tdiv (b:Int)=((a / b:Nat):Int):=by
 rw[Int.tdiv_eq_ediv_of_nonneg (by omega)];simp
theorem zzj (a:Nat) (b:Nat):((a:Nat):Int).tmod (b:Int)=((a % b:Nat):Int):=by
 rw[Int.tmod_eq_emod_of_nonneg (by omega)];simp
theorem zee (n:Int):∀ (j u:Nat) (s:List UInt8),Lib.nDigits u≤j→u < 18446744073709551616→s.length+j≤1000→zeI n u s ((if n < 0 then [45] else [])++(Lib.decDigits u++s))
 | 0,u,s,h,_,_=>by have:=Lib.nDigits_pos u;omega
 | j+1,u,s,h,hu,hs=>by
  apply zme
  have d10:((u:Nat):Int).tdiv 10=((u / 10:Nat):Int):=zy8 u 10
  have m10:((u:Nat):Int).tmod 10=((u % 10:Nat):Int):=zzj u 10
  have e48:∀ x:Nat,(48+((x:Nat):Int)).toNat=48+x:=fun x=>by omega
  refine⟨fun h10=>?_,fun h10=>?_⟩
  ·have hu10:¬ u < 10:=by omega
   rw[d10,m10,e48]
   have hn:Lib.nDigits u=Lib.nDigits (u / 10)+1:=Lib.nDigits_big hu10
   refine⟨⟨by omega,by omega⟩,⟨by omega,by omega⟩,by simp[zd];omega,⟨by omega,by omega⟩,?_⟩
   have:=zee n j (u / 10) ([UInt8.ofNat (48+u % 10)]++s) (by omega) (by omega) (by simp;omega)
   rw[show Lib.decDigits u=Lib.decDigits (u / 10)++[UInt8.ofNat (48+u % 10)] from by rw[Lib.decDigits,dif_neg hu10],List.append_assoc]
   exact this
  have hu10:u < 10:=by omega
  rw[e48,show Lib.decDigits u=[UInt8.ofNat (48+u)] from by rw[Lib.decDigits,dif_pos hu10]]
  refine⟨⟨by omega,by omega⟩,⟨by omega,by omega⟩,by simp[zd];omega,fun hn=>⟨by simp[zd];omega,by simp[hn]⟩,fun hn=>by simp[hn]⟩
theorem znJ {n:Int} (h0:-9223372036854775808≤n) (h:n < 0):IntKind.u64.wrap (0 - (IntKind.u64.wrap n))=((n.natAbs:Nat):Int):=by
 have e1:IntKind.u64.wrap n=n % 18446744073709551616:=by
  simp[IntKind.wrap,IntKind.signed,IntKind.bits]
 rw[e1]
 have e2:∀ x:Int,IntKind.u64.wrap x=x % 18446744073709551616:=fun x=>by
  simp[IntKind.wrap,IntKind.signed,IntKind.bits]
 rw[e2]
 omega
theorem zt6 (n:Int) (h:I64 n):zqT n (Lib.itoa n):=by
 obtain⟨h0,h1⟩:=h
 apply zuF
 refine⟨fun hn=>?_,fun hn=>?_⟩
 ·rw[znJ h0 hn]
  have:=zee n 20 n.natAbs [] (Lib.nDigits_le20 _ (by omega)) (by omega) (by simp)
  simpa [Lib.itoa,hn] using this
 obtain⟨m,rfl⟩:∃ m:Nat,n=m:=⟨n.toNat,by omega⟩
 rw[zv3 m (by omega)]
 have:=zee m 20 m [] (Lib.nDigits_le20 _ (by omega)) (by omega) (by simp)
 simpa [Lib.itoa,hn] using this
theorem znv (n:Int) (h:I64 n):zcg n (Lib.itoa n):=fun S=>zbF zjt S (if_pos h)
end Go.Proofs.YtfbcnpbhhooapaaGreatDoor.M
namespace Go.Proofs.YtfbcnpbhhooapaaGreatDoor.M
open Go Classical
theorem zeR {n:Nat} (h:n≤1000000000000):bigRow n 1:=⟨by omega,by omega,by decide⟩
def rkS (k:Int):Int:=if k=10 then 0 else if k=11 then 1 else if k=12 then 2 else if 13≤k∧k≤18 then 3 else if k=19∨k=20 then 4 else if 21≤k then 5 else if k=8∨k=9 then 6 else 7
theorem zj5 (k:Int):zjW k (rkS k):=by
 apply zsJ
 unfold rkS
 repeat' first | (refine⟨fun h=>?_,fun h=>?_⟩) | omega | (split <;> try omega)
theorem zbi (k:Int) (hk:k≤23):zc7 k (rkS k):=by
 apply ztW
 unfold rkS
 repeat' first | (refine⟨fun h=>?_,fun h=>?_⟩) | omega | (split <;> try omega)
theorem znp (k:Int):0≤rkS k∧rkS k≤7:=by
 unfold rkS
 repeat' first | omega | split
def signs:List (List UInt8):=[[124,124],[38,38],[61,61],[33,61],[60],[60,61],[62],[62,61],[43],[45],[42],[47],[37]]
def zaS (k:Int):List UInt8:=(signs[(k - 11).toNat]?).getD []
theorem zp5 {k:Int} (h0:11≤k) (h1:k≤23):signs[(k - 11).toNat]?=some (zaS k):=by
 have h:(k - 11).toNat < signs.length:=by simp[signs];omega
 rw[zaS,List.getElem?_eq_getElem h]
 rfl
theorem zhM (k:Int):(zaS k).length≤2:=by
 unfold zaS
 have h:∀ x ∈ signs,x.length≤2:=by decide
 cases e:signs[(k - 11).toNat]? with
 | none=>simp
 | some v=>exact h v (List.mem_of_getElem? e)
theorem zjy {k:Int} (h0:11≤k) (h1:k≤23):zjZ k (zaS k) :=
 zsx k _ ⟨⟨by omega,by omega⟩,by omega,_,zp5 h0 h1,rfl⟩
theorem zaf (w:SWriter) (g:Nat) (z:Bool) (l:List (List UInt8)) (hl:l.length≤1000000) (h:w.out.length+l.flatten.length≤1000000000000):zY w g z l ⟨w.out++l.flatten⟩ g z:=by
 have loop:∀ (m i:Nat) (w:SWriter),i+m=l.length→w.out.length+(l.drop i).flatten.length≤1000000000000→zf3 l i w g z ⟨w.out++(l.drop i).flatten⟩ g z:=by
  intro m
  induction m with
  | zero =>
   intro i w hi hw
   apply zgE
   exact⟨fun h=>by omega,fun _=>by rw[List.drop_of_length_le (by omega),List.flatten_nil,List.append_nil];exact⟨rfl,rfl,rfl⟩⟩
  | succ m ih =>
   intro i w hi hw
   have hlt:i < l.length:=by omega
   have hg:l[((i:Nat):Int).toNat]?=some l[i]:=by rw[Int.toNat_natCast];exact List.getElem?_eq_getElem hlt
   have hd:l.drop i=l[i]::l.drop (i+1):=List.drop_eq_getElem_cons hlt
   rw[hd,List.flatten_cons,List.length_append] at hw
   apply zgE
   refine⟨fun _=>⟨by omega,_,hg,zeR (by omega),⟨by omega,by omega⟩,?_⟩,fun h=>by omega⟩
   have:=ih (i+1) ⟨w.out++l[i]⟩ (by omega) (by simp only[List.length_append];omega)
   rw[hd,List.flatten_cons,←List.append_assoc]
   exact this
 have:=loop l.length 0 w (by omega) h
 exact ztt _ _ _ _ _ _ _ this
def qC (c:UInt8):List UInt8:=if c.toNat=34∨c.toNat=92∨c.toNat=36 then [92,c] else if c.toNat=10 then [92,110] else [c]
def qS (s:List UInt8):List UInt8:=s.flatMap qC
theorem zsL (c:UInt8):(qC c).length≤2:=by
 unfold qC
 split
 ·simp
 split <;> simp
theorem zs3:∀ s:List UInt8,(qS s).length≤2*s.length
 | []=>Nat.le_refl _
 | c::s=>by
  have:=zs3 s
  have:=zsL c
  unfold qS at *
  rw[List.flatMap_cons,List.length_append,List.length_cons]
  omega
theorem i32w {n:Nat} (h:n < 256):IntKind.i32.wrap (n:Int)=n:=by
 simp only[IntKind.wrap,IntKind.signed,IntKind.bits]
 simp
 omega
theorem zoD (w:SWriter) (g:Nat) (z:Bool) (s:List UInt8) (hs:s.length≤1000000) (h:w.out.length+2*s.length≤999000000000):znW w g z s ⟨w.out++qS s⟩ g z:=by
 have loop:∀ (m i:Nat) (w:SWriter),i+m=s.length→w.out.length+2*m≤999000000000→zbo s i w g z ⟨w.out++qS (s.drop i)⟩ g z:=by
  intro m
  induction m with
  | zero =>
   intro i w hi hw
   apply zfQ
   exact⟨fun h=>by omega,fun _=>by rw[List.drop_of_length_le (by omega)];simp[qS]⟩
  | succ m ih =>
   intro i w hi hw
   have hlt:i < s.length:=by omega
   have hg:s[((i:Nat):Int).toNat]?=some s[i]:=by rw[Int.toNat_natCast];exact List.getElem?_eq_getElem hlt
   have hd:s.drop i=s[i]::s.drop (i+1):=List.drop_eq_getElem_cons hlt
   have hc:=s[i].toNat_lt
   generalize s[i]=c at *
   have e:=i32w (show c.toNat < 256 by omega)
   have ec:UInt8.ofNat ((c.toNat:Int)).toNat=c:=by simp
   have key:∀ t:List UInt8,qC c=t→zbo s ((i:Int)+1) ⟨w.out++t⟩ g z ⟨w.out++qS (s.drop i)⟩ g z:=by
    intro t ht
    have h2:=zsL c
    have:=ih (i+1) ⟨w.out++t⟩ (by omega) (by rw[←ht];simp only[List.length_append];omega)
    rw[hd,qS,List.flatMap_cons,ht,←List.append_assoc]
    exact this
   have p1:zY w g z [[92],[UInt8.ofNat (IntKind.i32.wrap (c.toNat:Int)).toNat]] ⟨w.out++[92,c]⟩ g z:=by
    rw[e,ec]
    exact zaf w g z [[92],[c]] (by simp) (by simp;omega)
   have p2:zY w g z [[92,110]] ⟨w.out++[92,110]⟩ g z:=zaf w g z [[92,110]] (by decide) (by simp;omega)
   apply zfQ
   refine⟨fun _=>⟨by omega,_,hg,fun h=>⟨by rw[e];omega,by rw[e];omega,_,_,_,p1,⟨by omega,by omega⟩,key _ ?_⟩,fun h=>⟨fun h2=>⟨by rw[e];omega,by rw[e];omega,_,_,_,p1,⟨by omega,by omega⟩,key _ ?_⟩,fun h2=>⟨fun h3=>⟨by rw[e];omega,by rw[e];omega,_,_,_,p1,⟨by omega,by omega⟩,key _ ?_⟩,fun h3=>⟨fun h4=>⟨_,_,_,p2,⟨by omega,by omega⟩,key _ ?_⟩,fun h4=>⟨zeR (by omega),⟨by omega,by omega⟩,key _ ?_⟩⟩⟩⟩⟩,fun h=>by omega⟩
   ·rw[qC,if_pos (by omega)]
   ·rw[qC,if_pos (by omega)]
   ·rw[qC,if_pos (by omega)]
   ·rw[qC,if_neg (by omega),if_pos (by omega)]
   rw[qC,if_neg (by omega),if_neg (by omega)]
 have:=loop s.length 0 w (by omega) h
 exact zsY _ _ _ _ _ _ _ this
def ptS (p:Part):List UInt8:=if p.Ref=true then [36,123]++p.Text++[125] else qS p.Text
def qtS (l:List Part):List UInt8:=[34]++(l.flatMap ptS++[34])
def QB (l:List Part):Prop:=l.length≤60∧∀ p ∈ l,p.Text.length≤300
theorem zo7 {p:Part} (h:p.Text.length≤300):(ptS p).length≤603:=by
 unfold ptS
 split
 ·simp only[List.length_append,List.length_cons,List.length_nil];omega
 have:=zs3 p.Text;omega
theorem zpy:∀ {l:List Part},(∀ p ∈ l,p.Text.length≤300)→(l.flatMap ptS).length≤603*l.length
 | [],_=>Nat.le_refl _
 | p::l,h=>by
  have h1:=zpy (l:=l) fun q hq=>h q (List.mem_cons_of_mem _ hq)
  have h2:=zo7 (h p (List.mem_cons_self ..))
  rw[List.flatMap_cons,List.length_append,List.length_cons]
  omega
theorem zwU {l:List Part} (h:QB l):(qtS l).length≤36200:=by
 have h1:=zpy h.2
 have h2:=h.1
 simp only[qtS,List.length_append,List.length_cons,List.length_nil]
 omega
theorem zq1 (x:SWriter) (g:Nat) (z:Bool) (xl:List Node) (l:List Part) (hl:QB l) (h:x.out.length≤900000000000):zoe x g z xl l ⟨x.out++qtS l⟩ g z:=by
 have loop:∀ (m i:Nat) (w:SWriter),i+m=l.length→w.out.length+603*m≤900000100000→zcS xl l i w g z ⟨w.out++((l.drop i).flatMap ptS++[34])⟩ g z:=by
  intro m
  induction m with
  | zero =>
   intro i w hi hw
   apply zfP
   refine⟨fun h=>by omega,fun _=>⟨_,_,_,zaf w g z [[34]] (by decide) (by simp;omega),?_,rfl,rfl⟩⟩
   rw[List.drop_of_length_le (by omega)]
   rfl
  | succ m ih =>
   intro i w hi hw
   have hlt:i < l.length:=by omega
   have hg:l[((i:Nat):Int).toNat]?=some l[i]:=by rw[Int.toNat_natCast];exact List.getElem?_eq_getElem hlt
   have hd:l.drop i=l[i]::l.drop (i+1):=List.drop_eq_getElem_cons hlt
   have hp:=hl.2 _ (List.getElem_mem hlt)
   have h60:=hl.1
   generalize l[i]=p at *
   have key:∀ t:List UInt8,ptS p=t→zcS xl l ((i:Int)+1) ⟨w.out++t⟩ g z ⟨w.out++((l.drop i).flatMap ptS++[34])⟩ g z:=by
    intro t ht
    have h2:=zo7 hp
    have:=ih (i+1) ⟨w.out++t⟩ (by omega) (by rw[←ht];simp only[List.length_append];omega)
    rw[hd,List.flatMap_cons,ht,List.append_assoc,←List.append_assoc]
    exact this
   apply zfP
   refine⟨fun _=>⟨by omega,_,hg,fun hr=>⟨_,_,_,zaf w g z [[36,123],p.Text,[125]] (by simp) (by simp;omega),⟨by omega,by omega⟩,key _ ?_⟩,fun hr=>⟨_,_,_,zoD w g z p.Text (by omega) (by omega),⟨by omega,by omega⟩,key _ ?_⟩⟩,fun h=>by omega⟩
   ·rw[ptS,if_pos hr];simp
   rw[ptS,if_neg hr]
 have h60:=hl.1
 have:=loop l.length 0 ⟨x.out++[34]⟩ (by omega) (by simp only[List.length_append,List.length_cons,List.length_nil];omega)
 refine zrS _ _ _ _ _ _ _ _ ⟨_,_,_,zaf x g z [[34]] (by decide) (by simp;omega),?_⟩
 rw[qtS,←List.append_assoc]
 exact this
def T1Q (l:List Part) (P1 P2:Int→List UInt8→List UInt8→Prop) (i:Int) (b r:List UInt8):Prop :=
 ((i < (l.length:Int))→(0≤i)∧∃ (v:Part),(l[i.toNat]?=some v) ∧
  ((v.Ref=true)→(bigRow (b.length+2) 1)∧(bigRow (b.length+2+v.Text.length) 1)∧(bigRow (b.length+2+v.Text.length+1) 1)∧(I64 (i+1))∧P1 (i+1) (b++[36,123]++v.Text++[(125:UInt8)]) r) ∧
  (¬ (v.Ref=true)→P2 i b r)) ∧
 (¬ (i < (l.length:Int))→(bigRow (b.length+1) 1)∧(b++[(34:UInt8)])=r)
def T2Q (l:List Part) (P1:Int→List UInt8→List UInt8→Prop) (Pe Pn Po:Int→Int→List UInt8→List UInt8→Prop) (i k:Int) (b r:List UInt8):Prop :=
 (0≤i)∧∃ (v:Part),(l[i.toNat]?=some v) ∧
  ((k < (v.Text.length:Int))→(0≤k)∧∃ (c:UInt8),(v.Text[k.toNat]?=some c) ∧
   (((c.toNat:Int)=34)→(bigRow (b.length+2) 1)∧(I64 (k+1))∧Pe i (k+1) (b++[(92:UInt8),c]) r) ∧
   (¬ ((c.toNat:Int)=34) →
    (((c.toNat:Int)=92)→(bigRow (b.length+2) 1)∧(I64 (k+1))∧Pe i (k+1) (b++[(92:UInt8),c]) r) ∧
    (¬ ((c.toNat:Int)=92) →
     (((c.toNat:Int)=36)→(bigRow (b.length+2) 1)∧(I64 (k+1))∧Pe i (k+1) (b++[(92:UInt8),c]) r) ∧
     (¬ ((c.toNat:Int)=36) →
      (((c.toNat:Int)=10)→(bigRow (b.length+2) 1)∧(I64 (k+1))∧Pn i (k+1) (b++[(92:UInt8),(110:UInt8)]) r) ∧
      (¬ ((c.toNat:Int)=10)→(bigRow (b.length+1) 1)∧(I64 (k+1))∧Po i (k+1) (b++[c]) r))))) ∧
  (¬ (k < (v.Text.length:Int))→(I64 (i+1))∧P1 (i+1) b r)
theorem znk {l:List Part} {P1:Int→List UInt8→List UInt8→Prop} {Pe Pn Po:Int→Int→List UInt8→List UInt8→Prop} {i k:Nat} {b R:List UInt8} (hi:i < l.length) (hl:l.length≤60) (ht:l[i].Text.length≤300) (hb:b.length≤1000000) (hk:k≤l[i].Text.length)
  (he:∀ t,t.length≤2→k < l[i].Text.length→Pe i ((k:Int)+1) (b++t) (b++t++qS (l[i].Text.drop (k+1))++R))
  (hn:∀ t,t.length≤2→k < l[i].Text.length→Pn i ((k:Int)+1) (b++t) (b++t++qS (l[i].Text.drop (k+1))++R))
  (ho:∀ t,t.length≤2→k < l[i].Text.length→Po i ((k:Int)+1) (b++t) (b++t++qS (l[i].Text.drop (k+1))++R))
  (h1:P1 ((i:Int)+1) b (b++R)):T2Q l P1 Pe Pn Po i k b (b++qS (l[i].Text.drop k)++R):=by
 have hgi:l[((i:Nat):Int).toNat]?=some l[i]:=by rw[Int.toNat_natCast];exact List.getElem?_eq_getElem hi
 refine⟨by omega,_,hgi,fun hlt=>?_,fun hge=>⟨⟨by omega,by omega⟩,?_⟩⟩
 ·have hlt:k < l[i].Text.length:=by omega
  have hg:l[i].Text[((k:Nat):Int).toNat]?=some l[i].Text[k]:=by rw[Int.toNat_natCast];exact List.getElem?_eq_getElem hlt
  have hd:l[i].Text.drop k=l[i].Text[k]::l[i].Text.drop (k+1):=List.drop_eq_getElem_cons hlt
  rw[hd,qS,List.flatMap_cons]
  generalize l[i].Text[k]=c at *
  refine⟨by omega,_,hg,fun h=>⟨zeR (by omega),⟨by omega,by omega⟩,?_⟩,fun h=>⟨fun h2=>⟨zeR (by omega),⟨by omega,by omega⟩,?_⟩,fun h2=>⟨fun h3=>⟨zeR (by omega),⟨by omega,by omega⟩,?_⟩,fun h3=>⟨fun h4=>⟨zeR (by omega),⟨by omega,by omega⟩,?_⟩,fun h4=>⟨zeR (by omega),⟨by omega,by omega⟩,?_⟩⟩⟩⟩⟩
  ·rw[qC,if_pos (by omega),←List.append_assoc];exact he _ (by simp) hlt
  ·rw[qC,if_pos (by omega),←List.append_assoc];exact he _ (by simp) hlt
  ·rw[qC,if_pos (by omega),←List.append_assoc];exact he _ (by simp) hlt
  ·rw[qC,if_neg (by omega),if_pos (by omega),←List.append_assoc];exact hn _ (by simp) hlt
  rw[qC,if_neg (by omega),if_neg (by omega),←List.append_assoc];exact ho _ (by simp) hlt
 rw[List.drop_of_length_le (by omega)]
 simpa [qS] using h1
theorem zez {l:List Part} {P1:Int→List UInt8→List UInt8→Prop} {P:Int→Int→List UInt8→List UInt8→Prop} (hs:∀ i k b r,T2Q l P1 P P P i k b r→P i k b r) {i:Nat} (hi:i < l.length) (hl:l.length≤60) (ht:l[i].Text.length≤300) (R:List UInt8):∀ (m k:Nat) (b:List UInt8),k+m=l[i].Text.length→b.length+2*m≤1000000→(∀ b':List UInt8,b'.length≤b.length+2*m→P1 ((i:Int)+1) b' (b'++R))→P i k b (b++qS (l[i].Text.drop k)++R)
 | 0,k,b,hk,hb,h1=>hs _ _ _ _ (znk hi hl ht (by omega) (by omega) (fun t _ h=>by omega) (fun t _ h=>by omega) (fun t _ h=>by omega) (h1 b (by omega)))
 | m+1,k,b,hk,hb,h1=>by
  have st:∀ t:List UInt8,t.length≤2→k < l[i].Text.length→P i ((k:Int)+1) (b++t) (b++t++qS (l[i].Text.drop (k+1))++R):=fun t h2 h =>
   zez hs hi hl ht R m (k+1) (b++t) (by omega) (by rw[List.length_append];omega) fun b' h'=>h1 b' (by rw[List.length_append] at h';omega)
  exact hs _ _ _ _ (znk hi hl ht (by omega) (by omega) st st st (h1 b (by omega)))
theorem zkc {l:List Part} {P1 P2:Int→List UInt8→List UInt8→Prop} {i:Nat} {b:List UInt8} (hl:QB l) (hi:i≤l.length) (hb:b.length≤1000000)
  (h1:∀ hlt:i < l.length,∀ t,t.length≤603→P1 ((i:Int)+1) (b++t) (b++t++((l.drop (i+1)).flatMap ptS++[34])))
  (h2:∀ hlt:i < l.length,P2 i b (b++qS l[i].Text++((l.drop (i+1)).flatMap ptS++[34]))):T1Q l P1 P2 i b (b++((l.drop i).flatMap ptS++[34])):=by
 have h60:=hl.1
 refine⟨fun hlt=>?_,fun hge=>⟨zeR (by omega),by rw[List.drop_of_length_le (by omega)];rfl⟩⟩
 have hlt:i < l.length:=by omega
 have hg:l[((i:Nat):Int).toNat]?=some l[i]:=by rw[Int.toNat_natCast];exact List.getElem?_eq_getElem hlt
 have hd:l.drop i=l[i]::l.drop (i+1):=List.drop_eq_getElem_cons hlt
 have hp:=hl.2 _ (List.getElem_mem hlt)
 have h1:=h1 hlt
 have h2:=h2 hlt
 rw[hd,List.flatMap_cons]
 generalize l[i]=p at *
 refine⟨by omega,_,hg,fun hr=>⟨zeR (by omega),zeR (by omega),zeR (by omega),⟨by omega,by omega⟩,?_⟩,fun hr=>?_⟩
 ·have:=h1 ([36,123]++p.Text++[125]) (by simp;omega)
  rw[ptS,if_pos hr]
  simpa using this
 rw[ptS,if_neg hr]
 simpa using h2
theorem zcU {l:List Part} (hl:QB l) {P1:Int→List UInt8→List UInt8→Prop} {P:Int→Int→List UInt8→List UInt8→Prop} (h1:∀ i b r,T1Q l P1 (fun i b r=>P i 0 b r) i b r→P1 i b r) (hs:∀ i k b r,T2Q l P1 P P P i k b r→P i k b r):∀ (m i:Nat) (b:List UInt8),i+m=l.length→b.length+603*m≤900000→P1 i b (b++((l.drop i).flatMap ptS++[34]))
 | 0,i,b,hi,hb=>h1 _ _ _ (zkc hl (by omega) (by omega) (fun h=>by omega) (fun h=>by omega))
 | m+1,i,b,hi,hb=>by
  have hlt:i < l.length:=by omega
  have hp:=hl.2 _ (List.getElem_mem hlt)
  refine h1 _ _ _ (zkc hl (by omega) (by omega) (fun _ t ht=>?_) (fun _=>?_))
  ·exact zcU hl h1 hs m (i+1) (b++t) (by omega) (by rw[List.length_append];omega)
  refine zez hs hlt hl.1 hp _ l[i].Text.length 0 b (by omega) (by omega) fun b' hb'=>?_
  exact zcU hl h1 hs m (i+1) b' (by omega) (by omega)
theorem zqE (l:List Part) (hl:QB l):zqI l (qtS l):=by
 have h60:=hl.1
 have b1:=zcU hl (fun i b r h=>zkG l i b r h) (fun i k b r h=>zks l i k b r h)
 have c1:=zcU hl (fun i b r h=>zkJ l i b r h) (fun i k b r h=>zkT l i k b r h)
 have d1:=zcU hl (fun i b r h=>zkF l i b r h) (fun i k b r h=>zky l i k b r h)
 have e1:=zcU hl (fun i b r h=>zkr l i b r h) (fun i k b r h=>zkZ l i k b r h)
 have loop:∀ (m i:Nat) (b:List UInt8),i+m=l.length→b.length+603*m≤900000→zeK l b i (b++((l.drop i).flatMap ptS++[34])):=by
  intro m
  induction m with
  | zero=>exact fun i b hi hb=>zgI _ _ _ _ (zkc (P1:=fun i b r=>zcN l i b r) (P2:=fun i b r=>zgj l i b 0 r) hl (by omega) (by omega) (fun h=>by omega) (fun h=>by omega))
  | succ m ih =>
   intro i b hi hb
   have hlt:i < l.length:=by omega
   have hp:=hl.2 _ (List.getElem_mem hlt)
   refine zgI _ _ _ _ (zkc (P1:=fun i b r=>zcN l i b r) (P2:=fun i b r=>zgj l i b 0 r) hl (by omega) (by omega) (fun _ t ht=>?_) (fun _=>?_))
   ·exact b1 m (i+1) (b++t) (by omega) (by rw[List.length_append];omega)
   have hz:l[i].Text=l[i].Text.drop 0:=rfl
   rw[hz]
   refine zmc l i b 0 _ (znk (P1:=fun i b r=>zeK l b i r) (Pe:=fun i k b r=>zaN l i k b r) (Pn:=fun i k b r=>zbm l i k b r) (Po:=fun i k b r=>zbq l i k b r) (k:=0) hlt hl.1 hp (by omega) (by omega) (fun t ht h0=>?_) (fun t ht h0=>?_) (fun t ht h0=>?_) ?_)
   ·exact zez (P1:=fun i b r=>zdT l i b r) (P:=fun i k b r=>zaN l i k b r) (fun i k b r h=>zkk l i k b r h) hlt hl.1 hp _ (l[i].Text.length - 1) 1 (b++t) (by omega) (by rw[List.length_append];omega) fun b' hb'=>c1 m (i+1) b' (by omega) (by rw[List.length_append] at hb';omega)
   ·exact zez (P1:=fun i b r=>zd3 l i b r) (P:=fun i k b r=>zbm l i k b r) (fun i k b r h=>zkm l i k b r h) hlt hl.1 hp _ (l[i].Text.length - 1) 1 (b++t) (by omega) (by rw[List.length_append];omega) fun b' hb'=>d1 m (i+1) b' (by omega) (by rw[List.length_append] at hb';omega)
   ·exact zez (P1:=fun i b r=>zdQ l i b r) (P:=fun i k b r=>zbq l i k b r) (fun i k b r h=>zkn l i k b r h) hlt hl.1 hp _ (l[i].Text.length - 1) 1 (b++t) (by omega) (by rw[List.length_append];omega) fun b' hb'=>e1 m (i+1) b' (by omega) (by rw[List.length_append] at hb';omega)
   exact ih (i+1) b (by omega) (by omega)
 have:=loop l.length 0 [34] (by omega) (by simp;omega)
 exact zuh _ _ this
end Go.Proofs.YtfbcnpbhhooapaaGreatDoor.M
namespace Go.Proofs.YtfbcnpbhhooapaaGreatDoor.M
open Go
def c_Q73_1:SC:=.seq (.reg [vO 2 (.mov (cI 2))]) .ret
def c_Q73_2:SC:=.cond (.t 3) (.seq (.reg [vO 2 (.mov (cI (-2)))]) .ret) (.seq (.reg [mO 11 0,vO 12 (.bin .leq (.t 11) (cI 4)),mO 10 12]) (.cond (.t 10) (.seq (.reg [vO 2 (.mov (cI 0))]) .ret) (.seq (.reg [mO 14 0,vO 15 (.bin .eql (.t 14) (cI 5)),mO 16 15,gO 17 16 false (.mov (.t 0)),gO 18 16 false (.bin .eql (.t 17) (cI 6)),vO 19 (.pick (.t 16) (.c (.bool true)) (.t 18)),mO 13 19]) (.cond (.t 13) (.seq (.reg [vO 2 (.mov (cI (-1)))]) .ret) (.seq (.reg [mO 21 0,vO 22 (.bin .eql (.t 21) (cI 8)),mO 23 22,gO 24 23 false (.mov (.t 0)),gO 25 23 false (.bin .eql (.t 24) (cI 9)),vO 26 (.pick (.t 23) (.c (.bool true)) (.t 25)),mO 20 26]) (.cond (.t 20) (.seq (.reg [vO 2 (.mov (cI 1))]) .ret) (.seq (.reg [mO 28 0,vO 29 (.bin .eql (.t 28) (cI 10)),mO 27 29]) (.cond (.t 27) (.seq (.reg [vO 2 (.mov (cI 3))]) .ret) .skip))))))))
def c_Q73_3:SC:=.seq (.block 0 (.seq (.reg [mO 4 0,vO 5 (.bin .lss (.t 4) (cI 1)),mO 6 5,gO 7 6 false (.mov (.t 0)),gO 8 6 false (.bin .gtr (.t 7) (cI 23)),vO 9 (.pick (.t 6) (.c (.bool true)) (.t 8)),mO 3 9]) c_Q73_2)) c_Q73_1
def sc_Q73:zf:=⟨1,30,.seq (.reg [vO 2 (.mov (cI 0))]) c_Q73_3,[(.t 2)]⟩
theorem zy7:type_of% (aI (ue c_Q73_1.eq_1)<|aI (ue c_Q73_2.eq_1)<|aI (ue c_Q73_3.eq_1)<|sc_Q73.eq_1):=aI (ue c_Q73_1.eq_1)<|aI (ue c_Q73_2.eq_1)<|aI (ue c_Q73_3.eq_1)<|sc_Q73.eq_1
theorem comp_Q73:comp Tryz.prog Tryz.f73=some sc_Q73:=by kernel_rfl
def sc_Q114:zf:=⟨1,9,.seq (.reg [vO 2 (.mov (.c (.bool false)))]) (.seq (.reg [mO 3 0,vO 4 (.bin .eql (.t 3) (.c (.str [116,114,117,101]))),mO 5 4,gO 6 5 false (.mov (.t 0)),gO 7 5 false (.bin .eql (.t 6) (.c (.str [102,97,108,115,101]))),vO 8 (.pick (.t 5) (.c (.bool true)) (.t 7)),mO 2 8]) .ret),[(.t 2)]⟩
theorem zxn:type_of% (sc_Q114.eq_1):=sc_Q114.eq_1
theorem comp_Q114:comp Tryz.prog Tryz.f114=some sc_Q114:=by kernel_rfl
def sc_Q113:zf:=⟨1,21,.seq (.reg [vO 2 (.mov (.c (.bool false)))]) (.seq (.reg [mO 7 0,kO 8 112 [(.t 7),(.c (.str [46]))],mO 6 8,vO 9 (.extract 0 (.t 6)),vO 10 (.extract 1 (.t 6)),vO 11 (.extract 2 (.t 6)),mO 3 9,mO 4 10,mO 5 11]) (.seq (.reg [mO 12 5,mO 13 12,gO 14 13 true (.mov (.t 3)),⟨some 15,some (13,true),.call (.c (.func 115 [])) [(.t 14)]⟩,vO 16 (.pick (.t 13) (.t 15) (.c (.bool false))),mO 17 16,gO 18 17 true (.mov (.t 4)),⟨some 19,some (17,true),.call (.c (.func 115 [])) [(.t 18)]⟩,vO 20 (.pick (.t 17) (.t 19) (.c (.bool false))),mO 2 20]) .ret)),[(.t 2)]⟩
theorem zxD:type_of% (sc_Q113.eq_1):=sc_Q113.eq_1
theorem comp_Q113:comp Tryz.prog Tryz.f113=some sc_Q113:=by kernel_rfl
def c_Q152_1:SC:=.seq (.reg [vO 2 (.mov (.c (.bool true)))]) .ret
def b_Q152_1:SC:=.seq (.reg [vO 7 (.bin .lss (.t 6) (.t 5))]) (.seq (.cond (.t 7) .skip (.exit 0)) (.seq (.block 1 (.seq (.reg [mO 8 6,mO 3 8]) (.seq (.reg [mO 9 0,mO 10 3,vO 11 (.istr (.t 9) (.t 10)),vO 12 (.bin .lss (.t 11) (.c (.int .u8 32))),mO 13 12,gO 14 13 true (.mov (.t 0)),gO 15 13 true (.mov (.t 3)),gO 16 13 true (.istr (.t 14) (.t 15)),gO 17 13 true (.bin .neq (.t 16) (.c (.int .u8 10))),vO 18 (.pick (.t 13) (.t 17) (.c (.bool false)))]) (.cond (.t 18) (.seq (.reg [vO 2 (.mov (.c (.bool false)))]) .ret) .skip)))) (.reg [vO 19 (.bin .add (.t 6) (cI 1)),mO 6 19])))
def sc_Q152:zf:=⟨1,20,.seq (.reg [vO 2 (.mov (.c (.bool false)))]) (.seq (.seq (.reg [mO 4 0,vO 5 (.len true (.t 4)),vO 6 (.mov (cI 0))]) (.block 0 (.loop b_Q152_1))) c_Q152_1),[(.t 2)]⟩
noncomputable def zmF (SP:Prg) (x:EO):CO:=fin [(.t 2)] (thC SP (zw 0 (x)) c_Q152_1)
theorem zsy:type_of% (aI (ue c_Q152_1.eq_1)<|aI (ue b_Q152_1.eq_1)<|sc_Q152.eq_1):=aI (ue c_Q152_1.eq_1)<|aI (ue b_Q152_1.eq_1)<|sc_Q152.eq_1
theorem comp_Q152:comp Tryz.prog Tryz.f152=some sc_Q152:=by kernel_rfl
def c_Q116_1:SC:=.seq (.reg [vO 2 (.mov (.c (.bool true)))]) .ret
def c_Q116_2:SC:=.reg [vO 40 (.bin .add (.t 7) (cI 1)),mO 7 40]
def c_Q116_3:SC:=.seq (.reg [vO 18 (.faddr 1 (.t 4)),vO 19 (.load none (.t 18)),vO 20 (.bin .eql (.t 19) (.c (.str []))),mO 21 20,gO 22 21 false (.mov (.t 3)),gO 23 21 false (.bin .gtr (.t 22) (cI 0)),gO 24 21 false (.mov (.t 23)),gO 25 24 true (.mov (.t 0)),gO 26 24 true (.mov (.t 3)),gO 27 24 true (.bin .sub (.t 26) (cI 1)),gO 28 24 true (.iaddr 2 (.t 25) (.t 27)),gO 29 24 true (.faddr 0 (.t 28)),gO 30 24 true (.load none (.t 29)),gO 31 24 true (.un .not (.t 30)),gO 32 21 false (.pick (.t 24) (.t 31) (.c (.bool false))),vO 33 (.pick (.t 21) (.c (.bool true)) (.t 32)),mO 34 33,gO 35 34 false (.faddr 1 (.t 4)),gO 36 34 false (.load none (.t 35)),⟨some 37,some (34,false),.call (.c (.func 152 [])) [(.t 36)]⟩,gO 38 34 false (.un .not (.t 37)),vO 39 (.pick (.t 34) (.c (.bool true)) (.t 38))]) (.cond (.t 39) (.seq (.reg [vO 2 (.mov (.c (.bool false)))]) .ret) .skip)
def c_Q116_4:SC:=.seq (.seq (.reg [vO 12 (.faddr 0 (.t 4)),vO 13 (.load none (.t 12))]) (.cond (.t 13) (.seq (.seq (.reg [vO 14 (.faddr 1 (.t 4)),vO 15 (.load none (.t 14)),kO 16 113 [(.t 15)],vO 17 (.un .not (.t 16))]) (.cond (.t 17) (.seq (.reg [vO 2 (.mov (.c (.bool false)))]) .ret) .skip)) (.exit 1)) .skip)) c_Q116_3
def c_Q116_5:SC:=.seq (.block 1 (.seq (.reg [mO 9 7,vO 10 (.iaddr 2 (.t 5) (.t 7)),vO 11 (.load (some 2) (.t 10)),⟨some 4,none,.alloc [(.bool false),(.str [])]⟩,mO 3 9,⟨none,none,.store 2 (.t 4) (.t 11)⟩]) c_Q116_4)) c_Q116_2
def c_Q116_6:SC:=.seq (.cond (.t 8) .skip (.exit 0)) c_Q116_5
def b_Q116_1:SC:=.seq (.reg [vO 8 (.bin .lss (.t 7) (.t 6))]) c_Q116_6
def c_Q116_7:SC:=.block 0 (.loop b_Q116_1)
def c_Q116_8:SC:=.seq (.seq (.reg [mO 5 0,vO 6 (.len false (.t 5)),vO 7 (.mov (cI 0))]) c_Q116_7) c_Q116_1
def sc_Q116:zf:=⟨1,41,.seq (.reg [vO 2 (.mov (.c (.bool false)))]) c_Q116_8,[(.t 2)]⟩
noncomputable def znm (SP:Prg) (x:EO):CO:=fin [(.t 2)] (thC SP (zw 0 (x)) c_Q116_1)
theorem zr3:type_of% (aI (ue c_Q116_1.eq_1)<|aI (ue c_Q116_2.eq_1)<|aI (ue c_Q116_3.eq_1)<|aI (ue c_Q116_4.eq_1)<|aI (ue c_Q116_5.eq_1)<|aI (ue c_Q116_6.eq_1)<|aI (ue b_Q116_1.eq_1)<|aI (ue c_Q116_7.eq_1)<|aI (ue c_Q116_8.eq_1)<|sc_Q116.eq_1):=aI (ue c_Q116_1.eq_1)<|aI (ue c_Q116_2.eq_1)<|aI (ue c_Q116_3.eq_1)<|aI (ue c_Q116_4.eq_1)<|aI (ue c_Q116_5.eq_1)<|aI (ue c_Q116_6.eq_1)<|aI (ue b_Q116_1.eq_1)<|aI (ue c_Q116_7.eq_1)<|aI (ue c_Q116_8.eq_1)<|sc_Q116.eq_1
theorem comp_Q116:comp Tryz.prog Tryz.f116=some sc_Q116:=by kernel_rfl
def c_Q74_1:SC:=.seq (.reg [mO 69 3,mO 70 69,gO 71 70 true (.mov (.t 4)),vO 72 (.pick (.t 70) (.t 71) (.c (.bool false))),mO 73 72,gO 74 73 true (.mov (.t 5)),vO 75 (.pick (.t 73) (.t 74) (.c (.bool false))),mO 2 75]) .ret
def c_Q74_2:SC:=.cond (.t 36) (.seq (.reg [vO 39 (.faddr 2 (.t 1)),vO 40 (.load none (.t 39)),kO 41 112 [(.t 40),(.c (.str [46]))],mO 38 41,vO 42 (.extract 0 (.t 38)),vO 43 (.extract 1 (.t 38)),vO 44 (.extract 2 (.t 38)),mO 6 42,mO 7 43,mO 8 44]) (.reg [vO 45 (.faddr 2 (.t 1)),vO 46 (.load none (.t 45)),kO 47 113 [(.t 46)],mO 48 47,gO 49 48 true (.mov (.t 6)),⟨some 50,some (48,true),.call (.c (.func 114 [])) [(.t 49)]⟩,gO 51 48 true (.un .not (.t 50)),vO 52 (.pick (.t 48) (.t 51) (.c (.bool false))),mO 4 52])) (.seq (.reg [vO 54 (.bin .eql (.t 20) (cI 5)),mO 53 54]) (.cond (.t 53) (.reg [vO 55 (.faddr 2 (.t 1)),vO 56 (.load none (.t 55)),kO 57 115 [(.t 56)],mO 58 57,gO 59 58 true (.faddr 2 (.t 1)),gO 60 58 true (.load none (.t 59)),⟨some 61,some (58,true),.call (.c (.func 114 [])) [(.t 60)]⟩,gO 62 58 true (.un .not (.t 61)),vO 63 (.pick (.t 58) (.t 62) (.c (.bool false))),mO 4 63]) (.seq (.reg [vO 65 (.bin .eql (.t 20) (cI 2)),mO 64 65]) (.cond (.t 64) (.reg [vO 66 (.faddr 3 (.t 1)),vO 67 (.load none (.t 66)),kO 68 116 [(.t 67)],mO 5 68]) .skip))))
def c_Q74_3:SC:=.cond (.t 26) (.reg [vO 28 (.faddr 1 (.t 1)),vO 29 (.load none (.t 28)),vO 30 (.bin .eql (.t 29) (cI 0)),mO 31 30,gO 32 31 false (.faddr 1 (.t 1)),gO 33 31 false (.load none (.t 32)),gO 34 31 false (.bin .eql (.t 33) (cI 1)),vO 35 (.pick (.t 31) (.c (.bool true)) (.t 34)),mO 3 35]) (.seq (.reg [vO 37 (.bin .eql (.t 20) (cI 4)),mO 36 37]) c_Q74_2)
def c_Q74_4:SC:=.cond (.t 21) (.reg [vO 23 (.faddr 1 (.t 1)),vO 24 (.load none (.t 23)),vO 25 (.bin .geq (.t 24) (cI 0)),mO 3 25]) (.seq (.reg [vO 27 (.bin .eql (.t 20) (cI 3)),mO 26 27]) c_Q74_3)
def c_Q74_5:SC:=.block 0 (.seq (.reg [vO 22 (.bin .eql (.t 20) (cI 1)),mO 21 22]) c_Q74_4)
def c_Q74_6:SC:=.seq (.seq (.reg [vO 19 (.faddr 0 (.t 1)),vO 20 (.load none (.t 19))]) c_Q74_5) c_Q74_1
def c_Q74_7:SC:=.seq (.dreg [vO 9 (.faddr 1 (.t 1)),vO 10 (.load none (.t 9)),vO 11 (.bin .eql (.t 10) (cI 0)),vO 12 (.faddr 2 (.t 1)),vO 13 (.load none (.t 12)),vO 14 (.bin .eql (.t 13) (.c (.str []))),vO 15 (.faddr 3 (.t 1)),vO 16 (.load none (.t 15)),vO 17 (.len false (.t 16)),vO 18 (.bin .eql (.t 17) (cI 0)),mO 3 11,mO 4 14,mO 5 18] [false,false,false,false,false,false,false,false,false,false,false,false,true]) c_Q74_6
def sc_Q74:zf:=⟨1,76,.seq (.reg [⟨some 1,none,.box (.t 0)⟩,vO 2 (.mov (.c (.bool false)))]) c_Q74_7,[(.t 2)]⟩
theorem zzB:type_of% (aI (ue c_Q74_1.eq_1)<|aI (ue c_Q74_2.eq_1)<|aI (ue c_Q74_3.eq_1)<|aI (ue c_Q74_4.eq_1)<|aI (ue c_Q74_5.eq_1)<|aI (ue c_Q74_6.eq_1)<|aI (ue c_Q74_7.eq_1)<|sc_Q74.eq_1):=aI (ue c_Q74_1.eq_1)<|aI (ue c_Q74_2.eq_1)<|aI (ue c_Q74_3.eq_1)<|aI (ue c_Q74_4.eq_1)<|aI (ue c_Q74_5.eq_1)<|aI (ue c_Q74_6.eq_1)<|aI (ue c_Q74_7.eq_1)<|sc_Q74.eq_1
theorem comp_Q74:comp Tryz.prog Tryz.f74=some sc_Q74:=by kernel_rfl
def sc_Q26:zf:=⟨1,14,.seq (.reg [vO 2 (.mov (.c (.bool false)))]) (.seq (.reg [mO 3 0,vO 4 (.len false (.t 3)),vO 5 (.bin .gtr (.t 4) (cI 0)),mO 6 5,gO 7 6 true (.mov (.t 0)),gO 8 6 true (.mov (.t 0)),gO 9 6 true (.len false (.t 8)),gO 10 6 true (.bin .sub (.t 9) (cI 1)),⟨some 11,some (6,true),.call (.c (.func 47 [])) [(.t 7),(.t 10)]⟩,gO 12 6 true (.bin .eql (.t 11) (cI 0)),vO 13 (.pick (.t 6) (.t 12) (.c (.bool false))),mO 2 13]) .ret),[(.t 2)]⟩
theorem zzC:type_of% (sc_Q26.eq_1):=sc_Q26.eq_1
theorem comp_Q26:comp Tryz.prog Tryz.f26=some sc_Q26:=by kernel_rfl
end Go.Proofs.YtfbcnpbhhooapaaGreatDoor.M
namespace Go.Proofs.YtfbcnpbhhooapaaGreatDoor.M
open Go Classical
theorem zyk:SP 73=some (.code sc_Q73):=zb rfl Tryz.func73 comp_Q73
theorem zuq (kind:Int) (r:Int) (T :
  ((kind < 1) →
  (-2)=r) ∧
 (¬ (kind < 1) →
  ((23 < kind) →
   (-2)=r) ∧
  (¬ (23 < kind) →
   ((kind≤4) →
    0=r) ∧
   (¬ (kind≤4) →
    ((kind=5) →
     (-1)=r) ∧
    (¬ (kind=5) →
     ((kind=6) →
      (-1)=r) ∧
     (¬ (kind=6) →
      ((kind=8) →
       1=r) ∧
      (¬ (kind=8) →
       ((kind=9) →
        1=r) ∧
       (¬ (kind=9) →
        ((kind=10) →
         3=r) ∧
        (¬ (kind=10) →
         2=r))))))))):zvw kind r:=by
 intro S
 rw[za zyk _ _ rfl]
 have F:=zy7
 exact rn F T
theorem zxd:SP 114=some (.code sc_Q114):=zb rfl Tryz.func114 comp_Q114
theorem zsd (s:List UInt8) (r:Bool) (T :
  ((s=[116,114,117,101]) →
  true=r) ∧
 (¬ (s=[116,114,117,101]) →
  (decide (s=[102,97,108,115,101]))=r)):zjj s r:=by
 intro S
 rw[za zxd _ _ rfl]
 have F:=zxn
 exact rn F T
theorem zv6:SP 113=some (.code sc_Q113):=zb rfl Tryz.func113 comp_Q113
theorem zsK (s:List UInt8) (r:Bool) (T :
  ∃ (r1:List UInt8) (r2:List UInt8) (r3:Bool),(zbe s [46] r1 r2 r3) ∧
 ((r3=true) →
  ∃ (r4:Bool),(zdd r1 r4) ∧
  ((r4=true) →
   ∃ (r5:Bool),(zdd r2 r5) ∧
   r5=r) ∧
  (¬ (r4=true) →
   false=r)) ∧
 (¬ (r3=true) →
  false=r)):zjM s r:=by
 intro S
 rw[za zv6 _ _ rfl]
 have F:=zxD
 exact rn F T
theorem zwE:SP 152=some (.code sc_Q152):=zb rfl Tryz.func152 comp_Q152
def zd7 (s:List UInt8) (i1:Int) (r:Bool):Prop:=∀ (S:Sto) (e:Nat→PV) (f:Fr),e 0=.str s∧e 5=.int .i64 (s.length:Int)∧e 6=.int .i64 i1→zmF SP (E SP (.loop b_Q152_1) ⟨e,f::S⟩)=.ok (.v (.bool r)) S
theorem zfO (s:List UInt8) (i1:Int) (r:Bool) (T :
  ((i1 < (s.length:Int)) →
  (0≤i1) ∧
  ∃ (b2:UInt8),(s[i1.toNat]?=some b2) ∧
  (((b2.toNat:Int) < 32) →
   (((b2.toNat:Int)=10) →
    (I64 (i1+1)) ∧
    zd7 s (i1+1) r) ∧
   (¬ ((b2.toNat:Int)=10) →
    false=r)) ∧
  (¬ ((b2.toNat:Int) < 32) →
   (I64 (i1+1)) ∧
   zd7 s (i1+1) r)) ∧
 (¬ (i1 < (s.length:Int)) →
  true=r)):zd7 s i1 r:=by
 intro S e f h
 unfold zmF
 rw[zo]
 have F:=zsy
 exact rn (aa h<|F) T
theorem zrF (s:List UInt8) (r:Bool) (T :
  zd7 s 0 r):zji s r:=by
 intro S
 rw[za zwE _ _ rfl]
 have F:=zsy
 exact rn F T
theorem zwX:SP 116=some (.code sc_Q116):=zb rfl Tryz.func116 comp_Q116
def zcM (l_:List Part) (i1:Int) (r:Bool):Prop:=∀ (S:Sto) (e:Nat→PV) (f:Fr),e 0=.list 2 (l_.map ePart) false∧e 5=.list 2 (l_.map ePart) false∧e 6=.int .i64 (l_.length:Int)∧e 7=.int .i64 i1→znm SP (E SP (.loop b_Q116_1) ⟨e,f::S⟩)=.ok (.v (.bool r)) S
theorem zfD (l_:List Part) (i1:Int) (r:Bool) (T :
  ((i1 < (l_.length:Int)) →
  (0≤i1) ∧
  ∃ (v2:Part),(l_[i1.toNat]?=some v2) ∧
  ((v2.Ref=true) →
   ∃ (r3:Bool),(zjM v2.Text r3) ∧
   ((r3=true) →
    (I64 (i1+1)) ∧
    zcM l_ (i1+1) r) ∧
   (¬ (r3=true) →
    false=r)) ∧
  (¬ (v2.Ref=true) →
   ((v2.Text=[]) →
    false=r) ∧
   (¬ (v2.Text=[]) →
    ((0 < i1) →
     (I64 (i1 - 1)) ∧
     (0≤(i1 - 1)) ∧
     ∃ (v4:Part),(l_[(i1 - 1).toNat]?=some v4) ∧
     ((v4.Ref=true) →
      ∃ (r5:Bool),(zji v2.Text r5) ∧
      ((r5=true) →
       (I64 (i1+1)) ∧
       zcM l_ (i1+1) r) ∧
      (¬ (r5=true) →
       false=r)) ∧
     (¬ (v4.Ref=true) →
      false=r)) ∧
    (¬ (0 < i1) →
     ∃ (r6:Bool),(zji v2.Text r6) ∧
     ((r6=true) →
      (I64 (i1+1)) ∧
      zcM l_ (i1+1) r) ∧
     (¬ (r6=true) →
      false=r))))) ∧
 (¬ (i1 < (l_.length:Int)) →
  true=r)):zcM l_ i1 r:=by
 intro S e f h
 unfold znm
 rw[zo]
 have F:=zr3
 exact rn (aa h<|F) T
theorem zsX (l_:List Part) (r:Bool) (T :
  zcM l_ 0 r):zmH l_ r:=by
 intro S
 rw[za zwX _ _ rfl]
 have F:=zr3
 exact rn F T
theorem zxx:SP 74=some (.code sc_Q74):=zb rfl Tryz.func74 comp_Q74
theorem ztv (n:Node) (r:Bool) (T :
  ((n.Kind=1) →
  ((0≤n.Num) →
   ((n.Text=[]) →
    (decide ((n.Parts.length:Int)=0))=r) ∧
   (¬ (n.Text=[]) →
    false=r)) ∧
  (¬ (0≤n.Num) →
   false=r)) ∧
 (¬ (n.Kind=1) →
  ((n.Kind=3) →
   ((n.Num=0) →
    ((n.Text=[]) →
     (decide ((n.Parts.length:Int)=0))=r) ∧
    (¬ (n.Text=[]) →
     false=r)) ∧
   (¬ (n.Num=0) →
    ((n.Num=1) →
     ((n.Text=[]) →
      (decide ((n.Parts.length:Int)=0))=r) ∧
     (¬ (n.Text=[]) →
      false=r)) ∧
    (¬ (n.Num=1) →
     false=r))) ∧
  (¬ (n.Kind=3) →
   ((n.Kind=4) →
    ∃ (r1:List UInt8) (r2:List UInt8) (r3:Bool),(zbe n.Text [46] r1 r2 r3) ∧
    ∃ (r4:Bool),(zjM n.Text r4) ∧
    ((r4=true) →
     ∃ (r5:Bool),(zjj r1 r5) ∧
     ((n.Num=0) →
      ((r5=true) →
       false=r) ∧
      (¬ (r5=true) →
       (decide ((n.Parts.length:Int)=0))=r)) ∧
     (¬ (n.Num=0) →
      false=r)) ∧
    (¬ (r4=true) →
     ((n.Num=0) →
      false=r) ∧
     (¬ (n.Num=0) →
      false=r))) ∧
   (¬ (n.Kind=4) →
    ((n.Kind=5) →
     ∃ (r6:Bool),(zdd n.Text r6) ∧
     ((r6=true) →
      ∃ (r7:Bool),(zjj n.Text r7) ∧
      ((n.Num=0) →
       ((r7=true) →
        false=r) ∧
       (¬ (r7=true) →
        (decide ((n.Parts.length:Int)=0))=r)) ∧
      (¬ (n.Num=0) →
       false=r)) ∧
     (¬ (r6=true) →
      ((n.Num=0) →
       false=r) ∧
      (¬ (n.Num=0) →
       false=r))) ∧
    (¬ (n.Kind=5) →
     ((n.Kind=2) →
      ∃ (r8:Bool),(zmH n.Parts r8) ∧
      ((n.Num=0) →
       ((n.Text=[]) →
        r8=r) ∧
       (¬ (n.Text=[]) →
        false=r)) ∧
      (¬ (n.Num=0) →
       false=r)) ∧
     (¬ (n.Kind=2) →
      ((n.Num=0) →
       ((n.Text=[]) →
        (decide ((n.Parts.length:Int)=0))=r) ∧
       (¬ (n.Text=[]) →
        false=r)) ∧
      (¬ (n.Num=0) →
       false=r))))))):zva n r:=by
 intro S
 rw[za zxx _ _ rfl]
 have F:=zzB
 exact rn F T
theorem zxH:SP 26=some (.code sc_Q26):=zb rfl Tryz.func26 comp_Q26
theorem zt5 (l_:List Node) (r:Bool) (T :
  ((0 < (l_.length:Int)) →
  (I64 ((l_.length:Int) - 1)) ∧
  ∃ (r1:Int),(zvh l_ ((l_.length:Int) - 1) r1) ∧
  (decide (r1=0))=r) ∧
 (¬ (0 < (l_.length:Int)) →
  false=r)):zrf l_ r:=by
 intro S
 rw[za zxH _ _ rfl]
 have F:=zzC
 exact rn F T
end Go.Proofs.YtfbcnpbhhooapaaGreatDoor.M
namespace Go.Proofs.YtfbcnpbhhooapaaGreatDoor.M
open Go Classical
def kdS (k:Int):Int :=
 if k < 1 then -2 else if 23 < k then -2 else if k≤4 then 0 else if k=5 then -1 else if k=6 then -1 else if k=8 then 1 else if k=9 then 1 else if k=10 then 3 else 2
theorem zyZ (k:Int):zvw k (kdS k):=by
 apply zuq
 unfold kdS
 repeat' first | (refine⟨fun h=>?_,fun h=>?_⟩) | (simp[*];done) | (split <;> rename_i h <;> first | rfl | omega)
def zaT (s:List UInt8):Bool:=decide (s=[116,114,117,101]) || decide (s=[102,97,108,115,101])
theorem zpL (s:List UInt8):zjj s (zaT s):=by
 apply zsd
 refine⟨fun h=>by simp[zaT,h],fun h=>by simp[zaT,h]⟩
theorem zjH (s:List UInt8) (hs:s.length≤1000000):zjM s (zJ s):=by
 apply zsK
 have h1:(Lib.cut s [46]).1.length≤s.length:=zjb _ _
 have h2:(Lib.cut s [46]).2.1.length≤s.length:=znH _ _
 refine⟨_,_,_,zjv s [46] hs,fun h=>⟨_,zcO _ (by omega),fun h'=>⟨_,zcO _ (by omega),by simp[zJ,h,h']⟩,fun h'=>by simp[zJ,h,h']⟩,fun h=>by simp[zJ,h]⟩
def zaW (c:UInt8):Bool:=decide (¬ c.toNat < 32) || decide (c.toNat=10)
def zdB (s:List UInt8):Bool:=s.all zaW
theorem zk0 (s:List UInt8) (hs:s.length≤1000000):zji s (zdB s):=by
 have loop:∀ (m i:Nat),i+m=s.length→zd7 s i ((s.drop i).all zaW):=by
  intro m
  induction m with
  | zero =>
   intro i hi
   apply zfO
   exact⟨fun h=>by omega,fun _=>by rw[List.drop_of_length_le (by omega)];rfl⟩
  | succ m ih =>
   intro i hi
   have hlt:i < s.length:=by omega
   have hg:s[((i:Nat):Int).toNat]?=some s[i]:=by rw[Int.toNat_natCast];exact List.getElem?_eq_getElem hlt
   have hd:s.drop i=s[i]::s.drop (i+1):=List.drop_eq_getElem_cons hlt
   have ih:=ih (i+1) (by omega)
   apply zfO
   refine⟨fun _=>⟨by omega,_,hg,fun h=>⟨fun h'=>⟨⟨by omega,by omega⟩,?_⟩,fun h'=>?_⟩,fun h=>⟨⟨by omega,by omega⟩,?_⟩⟩,fun h=>by omega⟩
   ·rw[hd,List.all_cons,show zaW s[i]=true by simp[zaW];omega,Bool.true_and]
    exact ih
   ·rw[hd,List.all_cons,show zaW s[i]=false by simp[zaW];omega,Bool.false_and]
   rw[hd,List.all_cons,show zaW s[i]=true by simp[zaW];omega,Bool.true_and]
   exact ih
 exact zrF _ _ (loop s.length 0 (by omega))
def zU:Bool→List Part→Bool
 | _,[]=>true
 | b,p::l=>if p.Ref=true then zJ p.Text && zU false l else !(decide (p.Text=[])) && !b && zdB p.Text && zU true l
def plP (l:List Part):Prop:=l.length≤1000000∧∀ p ∈ l,p.Text.length≤1000000
theorem zt0 (l:List Part) (hl:plP l):zmH l (zU false l):=by
 obtain⟨hl,ht⟩:=hl
 have loop:∀ (m i:Nat),i+m=l.length→zcM l i (zU (decide (∃ p,0 < i∧l[i - 1]?=some p∧p.Ref=false)) (l.drop i)):=by
  intro m
  induction m with
  | zero =>
   intro i hi
   apply zfD
   exact⟨fun h=>by omega,fun _=>by rw[List.drop_of_length_le (by omega)];rfl⟩
  | succ m ih =>
   intro i hi
   have hlt:i < l.length:=by omega
   have hg:l[((i:Nat):Int).toNat]?=some l[i]:=by rw[Int.toNat_natCast];exact List.getElem?_eq_getElem hlt
   have hd:l.drop i=l[i]::l.drop (i+1):=List.drop_eq_getElem_cons hlt
   have htx:=ht _ (List.getElem_mem hlt)
   have ih:=ih (i+1) (by omega)
   have hnext:decide (∃ p,0 < i+1∧l[i+1 - 1]?=some p∧p.Ref=false)=!l[i].Ref:=by
    rw[show i+1 - 1=i by omega,List.getElem?_eq_getElem hlt]
    cases h:l[i].Ref <;> simp[h]
   rw[hnext] at ih
   rw[hd]
   generalize hb:decide (∃ p,0 < i∧l[i - 1]?=some p∧p.Ref=false)=b
   apply zfD
   refine⟨fun _=>⟨by omega,_,hg,fun hr=>⟨_,zjH _ htx,fun h=>⟨⟨by omega,by omega⟩,?_⟩,fun h=>?_⟩,fun hr=>⟨fun h=>?_,fun h=>⟨fun h0=>?_,fun h0=>?_⟩⟩⟩,fun h=>by omega⟩
   ·rw[zU,if_pos hr,h,Bool.true_and]
    rw[hr] at ih
    exact ih
   ·rw[zU,if_pos hr,show zJ l[i].Text=false by simpa using h,Bool.false_and]
   ·rw[zU,if_neg hr,decide_eq_true h]
    rfl
   ·have hlt':i - 1 < l.length:=by omega
    have hg':l[((i:Int) - 1).toNat]?=some l[i - 1]:=by rw[show ((i:Int) - 1).toNat=i - 1 by omega];exact List.getElem?_eq_getElem hlt'
    refine⟨⟨by omega,by omega⟩,by omega,_,hg',fun hp=>?_,fun hp=>?_⟩
    ·have hb':b=false:=by
      rw[←hb,List.getElem?_eq_getElem hlt']
      simp[hp]
     refine⟨_,zk0 _ htx,fun h5=>⟨⟨by omega,by omega⟩,?_⟩,fun h5=>?_⟩
     ·rw[zU,if_neg hr,decide_eq_false h,hb',h5]
      rw[show l[i].Ref=false by simpa using hr] at ih
      exact ih
     rw[zU,if_neg hr,decide_eq_false h,hb',show zdB l[i].Text=false by simpa using h5]
     rfl
    have hb':b=true:=by
     rw[←hb,List.getElem?_eq_getElem hlt']
     simp[hp]
     omega
    rw[zU,if_neg hr,decide_eq_false h,hb']
    rfl
   have hb':b=false:=by
    rw[←hb]
    simp
    omega
   refine⟨_,zk0 _ htx,fun h5=>⟨⟨by omega,by omega⟩,?_⟩,fun h5=>?_⟩
   ·rw[zU,if_neg hr,decide_eq_false h,hb',h5]
    rw[show l[i].Ref=false by simpa using hr] at ih
    exact ih
   rw[zU,if_neg hr,decide_eq_false h,hb',show zdB l[i].Text=false by simpa using h5]
   rfl
 have:=loop l.length 0 (by omega)
 have e:decide (∃ p,0 < 0∧l[0 - 1]?=some p∧p.Ref=false)=false:=by simp
 rw[e] at this
 exact zsX _ _ this
def plS (n:Node):Bool :=
 if n.Kind=1 then decide (0≤n.Num) && decide (n.Text=[]) && decide (n.Parts=[])
 else if n.Kind=3 then (decide (n.Num=0) || decide (n.Num=1)) && decide (n.Text=[]) && decide (n.Parts=[])
 else if n.Kind=4 then zJ n.Text && decide (n.Num=0) && !(zaT (Lib.cut n.Text [46]).1) && decide (n.Parts=[])
 else if n.Kind=5 then zN n.Text && decide (n.Num=0) && !(zaT n.Text) && decide (n.Parts=[])
 else if n.Kind=2 then decide (n.Num=0) && decide (n.Text=[]) && zU false n.Parts
 else decide (n.Num=0) && decide (n.Text=[]) && decide (n.Parts=[])
structure NB (n:Node):Prop where
 text:n.Text.length≤1000000
 parts:plP n.Parts
 kids:n.Kids.length≤1000000
theorem zhF {α:Type} (l:List α):decide ((l.length:Int)=0)=decide (l=[]):=decide_eq_decide.2 (by rw[←List.length_eq_zero_iff];omega)
theorem zt1 (n:Node) (h:NB n):zva n (plS n):=by
 apply ztv
 unfold plS
 rw[zhF]
 refine⟨fun k=>?_,fun k=>⟨fun k3=>?_,fun k3=>⟨fun k4=>?_,fun k4=>⟨fun k5=>?_,fun k5=>⟨fun k2=>?_,fun k2=>?_⟩⟩⟩⟩⟩
 ·rw[if_pos k]
  exact⟨fun a=>⟨fun b=>by simp[a,b],fun b=>by simp[a,b]⟩,fun a=>by simp[a]⟩
 ·rw[if_neg k,if_pos k3]
  exact⟨fun a=>⟨fun b=>by simp[a,b],fun b=>by simp[a,b]⟩,fun a=>⟨fun a'=>⟨fun b=>by simp[a',b],fun b=>by simp[a',b]⟩,fun a'=>by simp[a,a']⟩⟩
 ·rw[if_neg k,if_neg k3,if_pos k4]
  refine⟨_,_,_,zjv _ [46] h.text,_,zjH _ h.text,fun a=>⟨_,zpL _,fun b=>⟨fun c=>by simp[a,b,c],fun c=>by simp[a,b,c]⟩,fun b=>by simp[b]⟩,fun a=>⟨fun _=>by simp[a],fun _=>by simp[a]⟩⟩
 ·rw[if_neg k,if_neg k3,if_neg k4,if_pos k5]
  refine⟨_,zcO _ h.text,fun a=>⟨_,zpL _,fun b=>⟨fun c=>by simp[a,b,c],fun c=>by simp[a,b,c]⟩,fun b=>by simp[b]⟩,fun a=>⟨fun _=>by simp[a],fun _=>by simp[a]⟩⟩
 ·rw[if_neg k,if_neg k3,if_neg k4,if_neg k5,if_pos k2]
  refine⟨_,zt0 _ h.parts,fun a=>⟨fun b=>by simp[a,b],fun b=>by simp[b]⟩,fun a=>by simp[a]⟩
 rw[if_neg k,if_neg k3,if_neg k4,if_neg k5,if_neg k2]
 refine⟨fun a=>⟨fun b=>by simp[a,b],fun b=>by simp[b]⟩,fun a=>by simp[a]⟩
def zn4 (l:List Node) (rs:List Int) (e:Nat):Int:=match l[e]? with
 | none=>-1
 | some n=>if (kdS n.Kind≠(n.Kids.length:Nat)∧kdS n.Kind≠-1)∨plS n=false then -1 else Bk.run (fun k=>(rs[k.toNat]?).getD 0) e n.Kids.reverse
def zaH (l:List Node):Nat→List Int
 | 0=>[]
 | n+1=>zaH l n++[zn4 l (zaH l n) n]
theorem zdS (l:List Node):∀ n,(zaH l n).length=n
 | 0=>rfl
 | n+1=>by rw[zaH,List.length_append,zdS l n];rfl
def zaq (l:List Node) (e:Nat):Int:=zn4 l (zaH l e) e
theorem zb1 (l:List Node):∀ {n j:Nat},j < n→(zaH l n)[j]?=some (zaq l j)
 | 0,j,h=>absurd h (Nat.not_lt_zero _)
 | n+1,j,h=>by
  rw[zaH]
  by_cases hj:j < n
  ·rw[List.getElem?_append_left (by rw[zdS];exact hj)]
   exact zb1 l hj
  obtain rfl:j=n:=by omega
  rw[List.getElem?_append_right (by rw[zdS];omega),zdS,Nat.sub_self]
  rfl
theorem zmX (o:Int→Int):∀ (ks:List Int) (f:Int),(∀ k,0≤k→k < f→o k≤k)→-1≤f→Bk.run o f ks≤f
 | [],f,_,_=>Int.le_refl _
 | k::ks,f,h,hf=>by
  rw[Bk.run]
  split
  ·exact hf
  split
  ·exact hf
  rename_i h1 h2
  have h3:=h k (by omega) (by omega)
  have:=zmX o ks (o k) (fun q a b=>h q a (by omega)) (by omega)
  omega
theorem zbO (l:List Node):∀ (e:Nat),zaq l e≤e:=by
 intro e
 induction e using Nat.strongRecOn with
 | _ e ih =>
  unfold zaq zn4
  split
  ·omega
  split
  ·omega
  refine zmX _ _ _ (fun k k0 k1=>?_) (by omega)
  rw[zb1 l (show k.toNat < e by omega)]
  have:=ih k.toNat (by omega)
  simp only[Option.getD_some]
  omega
theorem zql (ks:List Int):zeU (ks.map eI)=some ks:=by
 induction ks with
 | nil=>rfl
 | cons k ks ih =>
  rw[List.map_cons]
  show zeU ([PV.int .i64 k]::_)=_
  rw[zeU,ih]
  rfl
theorem zlE {o:Nat→List PV→Option PV} {lv:PV} {k:List Int→Qn} (l:List Node) (n:Nat) (h:∀ j,j < n→o 47 [lv,.int .i64 (j:Nat)]=some (.int .i64 (zaq l j))):∀ (m i:Nat),i+m=n→(zfR lv k m (zaH l i)).ev o=(k (zaH l n)).ev o
 | 0,i,hi=>by
  obtain rfl:i=n:=by omega
  rfl
 | m+1,i,hi=>by
  rw[zfR,Qn.ev,zdS,h i (by omega)]
  simp only
  rw[if_pos (zbO l i)]
  exact zlE l n h m (i+1) (by omega)
theorem zwn (l:List Node) (hl:l.length≤1000000) (hn:∀ n ∈ l,NB n):∀ e,e < l.length→zvh l (e:Nat) (zaq l e):=by
 intro e
 induction e using Nat.strongRecOn with
 | _ e ih =>
  intro he S
  have hb:=hn _ (List.getElem_mem he)
  have hg:l[e]?=some l[e]:=List.getElem?_eq_getElem he
  refine zt3 zxL S ?_
  have hrow:(l.map eNode)[((e:Nat):Int).toNat]?=some [PV.int .i64 l[e].Kind,.int .i64 l[e].Num,.str l[e].Text,.list 2 (l[e].Parts.map ePart) false,.list 1 (l[e].Kids.map eI) false]:=by
   rw[Int.toNat_natCast,List.getElem?_map,hg]
   rfl
  simp only[zg9]
  rw[if_pos ⟨by omega,by rw[Int.toNat_natCast,List.length_map];exact he,by rw[List.length_map];omega⟩,hrow]
  simp only[zql]
  rw[if_pos (show l[e].Kids.length≤1000000000 by have:=hb.kids;omega)]
  have hk:zaz (call SP) 73 [.int .i64 l[e].Kind]=some (.int .i64 (kdS l[e].Kind)):=zeS (zyZ _ [])
  have hp:zaz (call SP) 74 [.agg [PV.int .i64 l[e].Kind,.int .i64 l[e].Num,.str l[e].Text,.list 2 (l[e].Parts.map ePart) false,.list 1 (l[e].Kids.map eI) false]]=some (.bool (plS l[e])):=zeS (zt1 _ hb [])
  have hv:zaq l e=if (kdS l[e].Kind≠(l[e].Kids.length:Nat)∧kdS l[e].Kind≠-1)∨plS l[e]=false then -1 else Bk.run (fun k=>((zaH l e)[k.toNat]?).getD 0) e l[e].Kids.reverse:=by
   unfold zaq zn4
   rw[hg]
  simp only[zoh,Qn.ev,hk]
  by_cases hkk:kdS l[e].Kind≠(l[e].Kids.length:Nat)∧kdS l[e].Kind≠-1
  ·rw[if_pos hkk,hv,if_pos (.inl hkk)]
   rfl
  rw[if_neg hkk]
  simp only[Qn.ev,hp]
  cases hpl:plS l[e] with
  | false =>
   have hv':zaq l e=-1:=by rw[hv,if_pos (.inr hpl)]
   rw[hv']
   rfl
  | true =>
   have hv':zaq l e=Bk.run (fun k=>((zaH l e)[k.toNat]?).getD 0) e l[e].Kids.reverse:=by
    rw[hv,if_neg]
    rintro (h | h)
    ·exact hkk h
    rw[hpl] at h;cases h
   rw[hv']
   simp only[Bool.true_eq_false,if_false,Int.toNat_natCast]
   exact zlE (o:=zaz (call SP)) (lv:=.list 5 (l.map eNode) false) (k:=fun rs=>.ret (.int .i64 (Bk.run (fun k=>(rs[k.toNat]?).getD 0) e l[e].Kids.reverse))) l e (fun j hj=>zeS (ih j hj (by omega) [])) e 0 (by omega)
def zaY (l:List Node):Bool:=decide (0 < l.length) && decide (zaq l (l.length - 1)=0)
theorem zyJ (l:List Node) (hl:l.length≤1000000) (hn:∀ n ∈ l,NB n):zrf l (zaY l):=by
 apply zt5
 refine⟨fun h=>⟨⟨by omega,by omega⟩,zaq l (l.length - 1),?_,?_⟩,fun h=>?_⟩
 ·have:=zwn l hl hn (l.length - 1) (by omega)
  rw[show ((l.length - 1:Nat):Int)=(l.length:Int) - 1 by omega] at this
  exact this
 ·rw[zaY,decide_eq_true (show 0 < l.length by omega),Bool.true_and]
 rw[zaY,decide_eq_false (show ¬ 0 < l.length by omega),Bool.false_and]
def zp (n:Node):Bool:=(decide (kdS n.Kind=(n.Kids.length:Nat)) || decide (kdS n.Kind=-1)) && plS n
def stk:Nat→List Int→List Node→Bool
 | _,st,[]=>decide (st.length=1)
 | i,st,n::l=>if zp n=true∧st.take n.Kids.length=n.Kids.reverse then stk (i+1) ((i:Int)::st.drop n.Kids.length) l else false
theorem zev (l:List Node) {e:Nat} {n:Node} (h:l[e]?=some n):zaq l e=if zp n=true then Bk.run (fun k=>((zaH l e)[k.toNat]?).getD 0) e n.Kids.reverse else -1:=by
 unfold zaq zn4
 rw[h]
 simp only
 by_cases hk:zp n=true
 ·rw[if_pos hk,if_neg]
  simp only[zp,Bool.and_eq_true,Bool.or_eq_true,decide_eq_true_eq] at hk
  rintro (h | h)
  ·rcases hk.1 with h' | h'
   ·exact h.1 h'
   exact h.2 h'
  rw[h] at hk;exact absurd hk.2 (by decide)
 rw[if_neg hk,if_pos]
 simp only[zp,Bool.and_eq_true,Bool.or_eq_true,decide_eq_true_eq] at hk
 by_cases hp:plS n=true
 ·exact .inl ⟨fun h=>hk ⟨.inl h,hp⟩,fun h=>hk ⟨.inr h,hp⟩⟩
 exact .inr (by simpa using hp)
def Ch (l:List Node):Nat→List Int→Prop
 | i,[]=>i=0
 | i,s::st=>0 < i∧s=(i:Int) - 1∧∃ b:Nat,zaq l (i - 1)=b∧Ch l b st
theorem zho (l:List Node) (e:Nat):∀ (st:List Int) (i k:Nat),i≤e→Ch l i st→k≤st.length→∃ b:Nat,Bk.run (fun k=>((zaH l e)[k.toNat]?).getD 0) i (st.take k)=b∧Ch l b (st.drop k)
 | st,i,0,_,h,_=>⟨i,rfl,h⟩
 | [],i,k+1,_,_,hk=>absurd hk (by simp)
 | s::st,i,k+1,hi,⟨h0,hs,b,hb,hc⟩,hk=>by
  have hle:=zbO l (i - 1)
  obtain⟨b',h1,h2⟩:=zho l e st b k (by omega) hc (by simpa using hk)
  refine⟨b',?_,h2⟩
  rw[List.take_succ_cons,Bk.run]
  have e1:s.toNat=i - 1:=by omega
  have e2:((zaH l e)[s.toNat]?).getD 0=b:=by rw[e1,zb1 l (show i - 1 < e by omega),Option.getD_some,hb]
  simp only[e2]
  rw[if_neg (by omega),if_neg (by omega)]
  exact h1
theorem zm5 (l:List Node):∀ (m i:Nat) (st:List Int),i+m=l.length→Ch l i st→stk i st (l.drop i)=true→zaY l=true
 | 0,i,st,hi,hc,h=>by
  rw[List.drop_of_length_le (by omega),stk,decide_eq_true_eq] at h
  match st,h,hc with
  | [s],_,⟨h0,hs,b,hb,hc⟩ =>
   have hb0:b=0:=hc
   rw[zaY,decide_eq_true (show 0 < l.length by omega),Bool.true_and,decide_eq_true_eq,show l.length - 1=i - 1 by omega,hb,hb0]
   rfl
 | m+1,i,st,hi,hc,h=>by
  have hlt:i < l.length:=by omega
  rw[List.drop_eq_getElem_cons hlt,stk] at h
  split at h
  ·rename_i hn
   obtain⟨h1,h2⟩:=hn
   have hk:l[i].Kids.length≤st.length:=by
    have:=congrArg List.length h2
    rw[List.length_take,List.length_reverse] at this
    omega
   obtain⟨b,hb,hc'⟩:=zho l i st i l[i].Kids.length (Nat.le_refl _) hc hk
   rw[h2] at hb
   refine zm5 l m (i+1) ((i:Int)::st.drop l[i].Kids.length) (by omega) ⟨by omega,by omega,b,?_,hc'⟩ h
   rw[show i+1 - 1=i by omega,zev l (List.getElem?_eq_getElem hlt),if_pos h1]
   exact hb
  cases h
theorem proc (l:List Node):∀ (e:Nat),e < l.length→∀ (b:Nat),zaq l e=b→∀ st,stk b st (l.drop b)=stk (e+1) ((e:Int)::st) (l.drop (e+1)):=by
 intro e
 induction e using Nat.strongRecOn with
 | _ e ih =>
  intro he b hb st
  rw[zev l (List.getElem?_eq_getElem he)] at hb
  split at hb
  ·rename_i hn
   have rp:∀ (ks:List Int) (f:Nat),f≤e→Bk.run (fun k=>((zaH l e)[k.toNat]?).getD 0) f ks=b→stk b st (l.drop b)=stk f (ks++st) (l.drop f):=by
    intro ks
    induction ks with
    | nil =>
     intro f hf h
     have hf':f=b:=by simp only[Bk.run] at h;omega
     rw[hf']
     rfl
    | cons k ks ihk =>
     intro f hf h
     rw[Bk.run] at h
     split at h
     ·omega
     rename_i h1
     split at h
     ·omega
     rename_i h2
     have hk:k.toNat < e:=by omega
     have ek:((zaH l e)[k.toNat]?).getD 0=zaq l k.toNat:=by rw[zb1 l hk,Option.getD_some]
     simp only[ek] at h h2
     have hle:=zbO l k.toNat
     obtain⟨b1,hb1⟩:∃ b1:Nat,zaq l k.toNat=b1:=⟨(zaq l k.toNat).toNat,by omega⟩
     rw[hb1] at h
     rw[ihk b1 (by omega) h,ih k.toNat hk (by omega) b1 hb1 (ks++st)]
     have e1:k.toNat+1=f:=by omega
     have e2:((k.toNat:Nat):Int)=k:=by omega
     rw[e1,e2]
     rfl
   have hr:=rp l[e].Kids.reverse e (Nat.le_refl _) hb
   rw[hr,List.drop_eq_getElem_cons he,stk,if_pos]
   ·have:(l[e].Kids.reverse++st).drop l[e].Kids.length=st:=by
     have:=List.drop_left (l₁:=l[e].Kids.reverse) (l₂:=st)
     rwa [List.length_reverse] at this
    rw[this]
   refine⟨hn,?_⟩
   have:=List.take_left (l₁:=l[e].Kids.reverse) (l₂:=st)
   rwa [List.length_reverse] at this
  omega
theorem zgi (l:List Node):zaY l=stk 0 [] l:=by
 cases h:stk 0 [] l with
 | true=>exact zm5 l l.length 0 [] (by omega) rfl h
 | false =>
  rw[←Bool.not_eq_true]
  intro ht
  simp only[zaY,Bool.and_eq_true,decide_eq_true_eq] at ht
  have:=proc l (l.length - 1) (by omega) 0 ht.2 []
  rw[List.drop_zero,h,show l.length - 1+1=l.length by omega,List.drop_length,stk] at this
  simp at this
def rkK (l:List Node) (k:Int):Int:=match l[k.toNat]? with
 | some n=>rkS n.Kind
 | none=>7
def wrS (l:List Node) (o:Int→List UInt8) (k least:Int):List UInt8:=if rkK l k < least then [40]++o k++[41] else o k
def zbx (o:Int→List UInt8):List Int→List UInt8
 | []=>[]
 | k::r=>[44,32]++o k++zbx o r
def zbt (o:Int→List UInt8):List Int→List UInt8
 | []=>[]
 | k::r=>o k++zbx o r
def kid (n:Node) (i:Nat):Int:=(n.Kids[i]?).getD 0
def ndS (l:List Node) (o:Int→List UInt8) (n:Node):List UInt8 :=
 if n.Kind=1 then Lib.itoa n.Num
 else if n.Kind=2 then qtS n.Parts
 else if n.Kind=3 then Lib.formatBool (decide (n.Num=1))
 else if n.Kind=4 then n.Text
 else if n.Kind=5 then n.Text++[40]++zbt o n.Kids++[41]
 else if n.Kind=6 then [91]++zbt o n.Kids++[93]
 else if n.Kind=7 then wrS l o (kid n 0) 7++[91]++o (kid n 1)++[93]
 else if n.Kind=8 then [33]++wrS l o (kid n 0) 6
 else if n.Kind=9 then [45]++wrS l o (kid n 0) 6
 else if n.Kind=10 then wrS l o (kid n 0) 1++[32,63,32]++o (kid n 1)++[32,58,32]++o (kid n 2)
 else wrS l o (kid n 0) (if rkS n.Kind=3 then rkS n.Kind+1 else rkS n.Kind)++[32]++zaS n.Kind++[32]++wrS l o (kid n 1) (rkS n.Kind+1)
def txv (l:List Node) (rs:List (List UInt8)) (e:Nat):List UInt8:=match l[e]? with
 | some n=>ndS l (fun k=>(rs[k.toNat]?).getD []) n
 | none=>[]
def txs (l:List Node):Nat→List (List UInt8)
 | 0=>[]
 | n+1=>txs l n++[txv l (txs l n) n]
theorem zh5 (l:List Node):∀ n,(txs l n).length=n
 | 0=>rfl
 | n+1=>by rw[txs,List.length_append,zh5 l n];rfl
def txS (l:List Node) (e:Nat):List UInt8:=txv l (txs l e) e
theorem zo9 (l:List Node):∀ {n j:Nat},j < n→(txs l n)[j]?=some (txS l j)
 | 0,j,h=>absurd h (Nat.not_lt_zero _)
 | n+1,j,h=>by
  rw[txs]
  by_cases hj:j < n
  ·rw[List.getElem?_append_left (by rw[zh5];exact hj)]
   exact zo9 l hj
  obtain rfl:j=n:=by omega
  rw[List.getElem?_append_right (by rw[zh5];omega),zh5,Nat.sub_self]
  rfl
structure NS (n:Node):Prop where
 num:I64 n.Num
 text:n.Text.length≤300
 parts:QB n.Parts
 kids:n.Kids.length≤100
theorem zjG {o o':Int→List UInt8}:∀ {ks:List Int},(∀ k ∈ ks,o k=o' k)→zbx o ks=zbx o' ks
 | [],_=>rfl
 | k::r,h=>by rw[zbx,zbx,h k (List.mem_cons_self ..),zjG fun q hq=>h q (List.mem_cons_of_mem _ hq)]
theorem zjT {o o':Int→List UInt8}:∀ {ks:List Int},(∀ k ∈ ks,o k=o' k)→zbt o ks=zbt o' ks
 | [],_=>rfl
 | k::r,h=>by rw[zbt,zbt,h k (List.mem_cons_self ..),zjG fun q hq=>h q (List.mem_cons_of_mem _ hq)]
theorem zcV {l:List Node} {o o':Int→List UInt8} {k:Int} (least:Int) (h:o k=o' k):wrS l o k least=wrS l o' k least:=by rw[wrS,wrS,h]
theorem zm {n:Node} {i:Nat} (h:i < n.Kids.length):kid n i ∈ n.Kids:=by
 rw[kid,List.getElem?_eq_getElem h]
 exact List.getElem_mem h
theorem za2 {n:Node} {i:Nat} (h:i < n.Kids.length):n.Kids[i]?=some (kid n i):=by
 rw[kid,List.getElem?_eq_getElem h]
 rfl
theorem zbl {n:Node} (h:zp n=true):1≤n.Kind∧n.Kind≤23∧(n.Kind≠5→n.Kind≠6→kdS n.Kind=n.Kids.length):=by
 simp only[zp,Bool.and_eq_true,Bool.or_eq_true,decide_eq_true_eq] at h
 have h1:=h.1
 unfold kdS at *
 repeat' first | omega | split at h1
theorem kd2 {n:Node} (h:zp n=true) (h10:10 < n.Kind):n.Kids.length=2:=by
 have h1:=zbl h
 have:=h1.2.2 (by omega) (by omega)
 rw[show kdS n.Kind=2 by unfold kdS;repeat' first | omega | split] at this
 omega
theorem kdk {n:Node} (h:zp n=true) (k:Int) (c:Nat) (hk:n.Kind=k) (hc:kdS k=c) (h5:k≠5) (h6:k≠6):n.Kids.length=c:=by
 have:=(zbl h).2.2 (by omega) (by omega)
 rw[hk,hc] at this
 omega
theorem zse {l:List Node} {o o':Int→List UInt8} {n:Node} (hn:zp n=true) (h:∀ k ∈ n.Kids,o k=o' k):ndS l o n=ndS l o' n:=by
 rw[ndS,ndS]
 by_cases k1:n.Kind=1
 ·rw[if_pos k1,if_pos k1]
 rw[if_neg k1,if_neg k1]
 by_cases k2:n.Kind=2
 ·rw[if_pos k2,if_pos k2]
 rw[if_neg k2,if_neg k2]
 by_cases k3:n.Kind=3
 ·rw[if_pos k3,if_pos k3]
 rw[if_neg k3,if_neg k3]
 by_cases k4:n.Kind=4
 ·rw[if_pos k4,if_pos k4]
 rw[if_neg k4,if_neg k4]
 by_cases k5:n.Kind=5
 ·rw[if_pos k5,if_pos k5,zjT h]
 rw[if_neg k5,if_neg k5]
 by_cases k6:n.Kind=6
 ·rw[if_pos k6,if_pos k6,zjT h]
 rw[if_neg k6,if_neg k6]
 by_cases k7:n.Kind=7
 ·have hl:=kdk hn 7 2 k7 (by decide) (by decide) (by decide)
  rw[if_pos k7,if_pos k7,zcV 7 (h _ (zm (i:=0) (by omega))),h _ (zm (i:=1) (by omega))]
 rw[if_neg k7,if_neg k7]
 by_cases k8:n.Kind=8
 ·have hl:=kdk hn 8 1 k8 (by decide) (by decide) (by decide)
  rw[if_pos k8,if_pos k8,zcV 6 (h _ (zm (i:=0) (by omega)))]
 rw[if_neg k8,if_neg k8]
 by_cases k9:n.Kind=9
 ·have hl:=kdk hn 9 1 k9 (by decide) (by decide) (by decide)
  rw[if_pos k9,if_pos k9,zcV 6 (h _ (zm (i:=0) (by omega)))]
 rw[if_neg k9,if_neg k9]
 by_cases k10:n.Kind=10
 ·have hl:=kdk hn 10 3 k10 (by decide) (by decide) (by decide)
  rw[if_pos k10,if_pos k10,zcV 1 (h _ (zm (i:=0) (by omega))),h _ (zm (i:=1) (by omega)),h _ (zm (i:=2) (by omega))]
 rw[if_neg k10,if_neg k10]
 have h1:=zbl hn
 have hl:=kd2 hn (by omega)
 rw[zcV _ (h _ (zm (i:=0) (by omega))),zcV _ (h _ (zm (i:=1) (by omega)))]
theorem zhC {l:List Node} {e:Nat} (he:e < l.length) (hn:zp l[e]=true) (hk:∀ k ∈ l[e].Kids,0≤k∧k < (e:Int)):txS l e=ndS l (fun k=>txS l k.toNat) l[e]:=by
 unfold txS txv
 rw[List.getElem?_eq_getElem he]
 refine zse hn fun k hk'=>?_
 have:=hk k hk'
 rw[zo9 l (show k.toNat < e by omega)]
 rfl
def zT (o:Int→List UInt8):List Int→Nat
 | []=>0
 | k::r=>(o k).length+zT o r
theorem ziA (o:Int→List UInt8):∀ a b,zT o (a++b)=zT o a+zT o b
 | [],b=>by simp[zT]
 | k::a,b=>by rw[List.cons_append,zT,zT,ziA o a b];omega
theorem zeV (o:Int→List UInt8):∀ a,zT o a.reverse=zT o a
 | []=>rfl
 | k::a=>by rw[List.reverse_cons,ziA,zeV o a,zT,zT,zT];omega
theorem zmM (o:Int→List UInt8):∀ ks:List Int,(zbx o ks).length=zT o ks+2*ks.length
 | []=>rfl
 | k::r=>by
  have:=zmM o r
  simp only[zbx,zT,List.length_append,List.length_cons,List.length_nil]
  omega
theorem ziK (o:Int→List UInt8):∀ ks:List Int,(zbt o ks).length≤zT o ks+2*ks.length
 | []=>Nat.le_refl _
 | k::r=>by
  have:=zmM o r
  simp only[zbt,zT,List.length_append,List.length_cons,List.length_nil]
  omega
theorem zby (l:List Node) (o:Int→List UInt8) (k least:Int):(wrS l o k least).length≤(o k).length+2:=by
 unfold wrS
 split
 ·simp only[List.length_append,List.length_cons,List.length_nil];omega
 omega
theorem zmZ {n:Int} (h:I64 n):(Lib.itoa n).length≤30:=by
 have:=Lib.itoa_length_le n h.1 h.2
 omega
theorem znh (b:Bool):(Lib.formatBool b).length≤5:=by cases b <;> decide
theorem zQ {n:Node}:∀ {c:Nat},n.Kids.length=c→n.Kids=(List.range c).map (kid n):=by
 intro c hc
 apply List.ext_getElem?
 intro i
 by_cases hi:i < c
 ·rw[za2 (by omega)]
  simp[hi]
 rw[List.getElem?_eq_none (by omega),List.getElem?_eq_none (by simp;omega)]
theorem zwW {l:List Node} {o:Int→List UInt8} {n:Node} (hn:zp n=true) (hs:NS n):(ndS l o n).length≤40000+zT o n.Kids:=by
 have t1:=hs.text
 have t2:=zwU hs.parts
 have t3:=zmZ hs.num
 have t4:=znh (decide (n.Num=1))
 have t5:=ziK o n.Kids
 have t6:=hs.kids
 have w:=zby l o
 have sg:=zhM n.Kind
 have h1:=zbl hn
 rw[ndS]
 by_cases k1:n.Kind=1
 ·rw[if_pos k1];omega
 rw[if_neg k1]
 by_cases k2:n.Kind=2
 ·rw[if_pos k2];omega
 rw[if_neg k2]
 by_cases k3:n.Kind=3
 ·rw[if_pos k3];omega
 rw[if_neg k3]
 by_cases k4:n.Kind=4
 ·rw[if_pos k4];omega
 rw[if_neg k4]
 by_cases k5:n.Kind=5
 ·rw[if_pos k5];simp only[List.length_append,List.length_cons,List.length_nil];omega
 rw[if_neg k5]
 by_cases k6:n.Kind=6
 ·rw[if_pos k6];simp only[List.length_append,List.length_cons,List.length_nil];omega
 rw[if_neg k6]
 by_cases k7:n.Kind=7
 ·have e:zT o n.Kids=(o (kid n 0)).length+((o (kid n 1)).length+0):=by rw[zQ (kdk hn 7 2 k7 (by decide) (by decide) (by decide))];rfl
  have:=w (kid n 0) 7
  rw[if_pos k7];simp only[List.length_append,List.length_cons,List.length_nil];omega
 rw[if_neg k7]
 by_cases k8:n.Kind=8
 ·have e:zT o n.Kids=(o (kid n 0)).length+0:=by rw[zQ (kdk hn 8 1 k8 (by decide) (by decide) (by decide))];rfl
  have:=w (kid n 0) 6
  rw[if_pos k8];simp only[List.length_append,List.length_cons,List.length_nil];omega
 rw[if_neg k8]
 by_cases k9:n.Kind=9
 ·have e:zT o n.Kids=(o (kid n 0)).length+0:=by rw[zQ (kdk hn 9 1 k9 (by decide) (by decide) (by decide))];rfl
  have:=w (kid n 0) 6
  rw[if_pos k9];simp only[List.length_append,List.length_cons,List.length_nil];omega
 rw[if_neg k9]
 by_cases k10:n.Kind=10
 ·have e:zT o n.Kids=(o (kid n 0)).length+((o (kid n 1)).length+((o (kid n 2)).length+0)):=by rw[zQ (kdk hn 10 3 k10 (by decide) (by decide) (by decide))];rfl
  have:=w (kid n 0) 1
  rw[if_pos k10];simp only[List.length_append,List.length_cons,List.length_nil];omega
 rw[if_neg k10]
 have e:zT o n.Kids=(o (kid n 0)).length+((o (kid n 1)).length+0):=by rw[zQ (kd2 hn (by omega))];rfl
 generalize (if rkS n.Kind=3 then rkS n.Kind+1 else rkS n.Kind)=q
 have:=w (kid n 0) q
 have:=w (kid n 1) (rkS n.Kind+1)
 simp only[List.length_append,List.length_cons,List.length_nil];omega
theorem znA (l:List Node):∀ (m i:Nat) (st:List Int),i+m=l.length→Ch l i st→stk i st (l.drop i)=true→∀ (e:Nat) (he:e < l.length),i≤e→zp l[e]=true∧∃ st,Ch l e st∧l[e].Kids.length≤st.length∧st.take l[e].Kids.length=l[e].Kids.reverse
 | 0,i,st,hi,hc,h,e,he,hie=>by omega
 | m+1,i,st,hi,hc,h,e,he,hie=>by
  have hlt:i < l.length:=by omega
  rw[List.drop_eq_getElem_cons hlt,stk] at h
  split at h
  ·rename_i hn
   obtain⟨h1,h2⟩:=hn
   have hk:l[i].Kids.length≤st.length:=by
    have:=congrArg List.length h2
    rw[List.length_take,List.length_reverse] at this
    omega
   by_cases hei:e=i
   ·subst hei
    exact⟨h1,st,hc,hk,h2⟩
   obtain⟨b,hb,hc'⟩:=zho l i st i l[i].Kids.length (Nat.le_refl _) hc hk
   rw[h2] at hb
   refine znA l m (i+1) ((i:Int)::st.drop l[i].Kids.length) (by omega) ⟨by omega,by omega,b,?_,hc'⟩ h e he (by omega)
   rw[show i+1 - 1=i by omega,zev l (List.getElem?_eq_getElem hlt),if_pos h1]
   exact hb
  cases h
theorem zk7 (l:List Node) (e:Nat) (hf:∀ j < e,∃ b:Nat,zaq l j=b∧(txS l j).length+40000*b≤40000*(j+1)):∀ (st:List Int) (i k:Nat),i≤e→Ch l i st→k≤st.length→∃ b:Nat,b≤i∧Bk.run (fun k=>((zaH l e)[k.toNat]?).getD 0) i (st.take k)=b∧(∀ s ∈ st.take k,0≤s∧s < (i:Int))∧zT (fun k=>txS l k.toNat) (st.take k)+40000*b≤40000*i
 | st,i,0,_,h,_=>⟨i,Nat.le_refl _,rfl,by simp,by simp[zT]⟩
 | [],i,k+1,_,_,hk=>absurd hk (by simp)
 | s::st,i,k+1,hi,⟨h0,hs,b,hb,hc⟩,hk=>by
  have hle:=zbO l (i - 1)
  obtain⟨b',h1,h2,h3,h4⟩:=zk7 l e hf st b k (by omega) hc (by simpa using hk)
  obtain⟨b2,hb2,hl2⟩:=hf (i - 1) (by omega)
  have e1:s.toNat=i - 1:=by omega
  refine⟨b',by omega,?_,?_,?_⟩
  ·rw[List.take_succ_cons,Bk.run]
   have e2:((zaH l e)[s.toNat]?).getD 0=b:=by rw[e1,zb1 l (show i - 1 < e by omega),Option.getD_some,hb]
   simp only[e2]
   rw[if_neg (by omega),if_neg (by omega)]
   exact h2
  ·intro q hq
   rw[List.take_succ_cons] at hq
   rcases List.mem_cons.1 hq with rfl | hq
   ·omega
   have:=h3 q hq;omega
  rw[List.take_succ_cons,zT]
  simp only[e1]
  omega
theorem zm3 {l:List Node} (ht:zaY l=true) (hn:∀ n ∈ l,NS n):∀ (e:Nat) (he:e < l.length),zp l[e]=true∧(∀ k ∈ l[e].Kids,0≤k∧k < (e:Int))∧∃ b:Nat,zaq l e=b∧(txS l e).length+40000*b≤40000*(e+1):=by
 have hst:=znA l l.length 0 [] (by omega) rfl (by rw[List.drop_zero,←zgi];exact ht)
 intro e
 induction e using Nat.strongRecOn with
 | _ e ih =>
  intro he
  obtain⟨h1,st,h2,h3,h4⟩:=hst e he (Nat.zero_le _)
  obtain⟨b,b1,b2,b3,b4⟩:=zk7 l e (fun j hj=>(ih j hj (by omega)).2.2) st e l[e].Kids.length (Nat.le_refl _) h2 h3
  rw[h4] at b2 b3 b4
  have hk:∀ k ∈ l[e].Kids,0≤k∧k < (e:Int):=fun k hk=>b3 k (List.mem_reverse.2 hk)
  refine⟨h1,hk,b,?_,?_⟩
  ·rw[zev l (List.getElem?_eq_getElem he),if_pos h1]
   exact b2
  rw[zeV] at b4
  rw[zhC he h1 hk]
  have:=zwW (l:=l) (o:=fun k=>txS l k.toNat) h1 (hn _ (List.getElem_mem he))
  omega
structure TR (l:List Node):Prop where
 tree:zaY l=true
 ns:∀ n ∈ l,NS n
 len:l.length≤80
theorem TR.node {l:List Node} (h:TR l) (e:Nat) (he:e < l.length):zp l[e]=true∧(∀ k ∈ l[e].Kids,0≤k∧k < (e:Int))∧(txS l e).length≤3300000:=by
 obtain⟨h1,h2,b,h3,h4⟩:=zm3 h.tree h.ns e he
 have:=h.len
 exact⟨h1,h2,by omega⟩
theorem zn1 {l:List Node} (h:TR l) {e:Nat} (he:e < l.length) {i:Nat} (hi:i < l[e].Kids.length):∃ v,l[e].Kids[i]?=some (kid l[e] i)∧0≤kid l[e] i∧(kid l[e] i).toNat < e∧l[(kid l[e] i).toNat]?=some v∧rkK l (kid l[e] i)=rkS v.Kind∧v.Kind≤23∧(txS l (kid l[e] i).toNat).length≤3300000:=by
 obtain⟨h1,h2,h3⟩:=h.node e he
 have hk:=h2 _ (zm hi)
 have hlt:(kid l[e] i).toNat < l.length:=by omega
 obtain⟨g1,g2,g3⟩:=h.node _ hlt
 have hg:=List.getElem?_eq_getElem hlt
 exact⟨_,za2 hi,by omega,by omega,hg,by rw[rkK,hg],(zbl g1).2.1,g3⟩
theorem ze6 {l:List Node} {o:Int→List UInt8} {k least:Int} {d:Bool} (hd:d=true↔rkK l k < least) (hl:(o k).length≤10000000):zcB (o k) d (wrS l o k least):=by
 apply zuH
 refine⟨fun h=>⟨by simp only[zd];omega,by simp only[zd];omega,?_⟩,fun h=>?_⟩
 ·rw[wrS,if_pos (hd.1 h)]
 rw[wrS,if_neg fun h'=>h (hd.2 h')]
section
variable {l:List Node} {o:Int→List UInt8} {n:Node}
theorem nd1 (h:n.Kind=1):ndS l o n=Lib.itoa n.Num:=by rw[ndS,if_pos h]
theorem nd2 (h:n.Kind=2):ndS l o n=qtS n.Parts:=by rw[ndS,if_neg (by omega),if_pos h]
theorem nd3 (h:n.Kind=3):ndS l o n=Lib.formatBool (decide (n.Num=1)):=by rw[ndS,if_neg (by omega),if_neg (by omega),if_pos h]
theorem nd4 (h:n.Kind=4):ndS l o n=n.Text:=by rw[ndS,if_neg (by omega),if_neg (by omega),if_neg (by omega),if_pos h]
theorem nd5 (h:n.Kind=5):ndS l o n=n.Text++[40]++zbt o n.Kids++[41]:=by rw[ndS,if_neg (by omega),if_neg (by omega),if_neg (by omega),if_neg (by omega),if_pos h]
theorem nd6 (h:n.Kind=6):ndS l o n=[91]++zbt o n.Kids++[93]:=by rw[ndS,if_neg (by omega),if_neg (by omega),if_neg (by omega),if_neg (by omega),if_neg (by omega),if_pos h]
theorem nd7 (h:n.Kind=7):ndS l o n=wrS l o (kid n 0) 7++[91]++o (kid n 1)++[93]:=by rw[ndS,if_neg (by omega),if_neg (by omega),if_neg (by omega),if_neg (by omega),if_neg (by omega),if_neg (by omega),if_pos h]
theorem nd8 (h:n.Kind=8):ndS l o n=[33]++wrS l o (kid n 0) 6:=by rw[ndS,if_neg (by omega),if_neg (by omega),if_neg (by omega),if_neg (by omega),if_neg (by omega),if_neg (by omega),if_neg (by omega),if_pos h]
theorem nd9 (h:n.Kind=9):ndS l o n=[45]++wrS l o (kid n 0) 6:=by rw[ndS,if_neg (by omega),if_neg (by omega),if_neg (by omega),if_neg (by omega),if_neg (by omega),if_neg (by omega),if_neg (by omega),if_neg (by omega),if_pos h]
theorem zqf (h:n.Kind=10):ndS l o n=wrS l o (kid n 0) 1++[32,63,32]++o (kid n 1)++[32,58,32]++o (kid n 2):=by rw[ndS,if_neg (by omega),if_neg (by omega),if_neg (by omega),if_neg (by omega),if_neg (by omega),if_neg (by omega),if_neg (by omega),if_neg (by omega),if_neg (by omega),if_pos h]
theorem zi0 (h:10 < n.Kind):ndS l o n=wrS l o (kid n 0) (if rkS n.Kind=3 then rkS n.Kind+1 else rkS n.Kind)++[32]++zaS n.Kind++[32]++wrS l o (kid n 1) (rkS n.Kind+1):=by rw[ndS,if_neg (by omega),if_neg (by omega),if_neg (by omega),if_neg (by omega),if_neg (by omega),if_neg (by omega),if_neg (by omega),if_neg (by omega),if_neg (by omega),if_neg (by omega)]
end
theorem zkA:Lib.formatBool true=[116,114,117,101]:=by decide
theorem ziV:Lib.formatBool false=[102,97,108,115,101]:=by decide
theorem zhp {l:List Node} {n:Node} {o:Int→List UInt8} (ht:n.Text.length≤300) (h100:n.Kids.length≤100) (hk:∀ k ∈ n.Kids,zaQ l k (o k)∧(o k).length≤3300000):zcG l n [] 0 (if n.Kind=6 then [91]++zbt o n.Kids++[93] else n.Text++[40]++zbt o n.Kids++[41]):=by
 have loop:∀ (m i:Nat) (s:List UInt8),0 < i→i+m=n.Kids.length→s.length+3300002*m≤1000000000→zcG l n s i (if n.Kind=6 then [91]++(s++zbx o (n.Kids.drop i))++[93] else n.Text++[40]++(s++zbx o (n.Kids.drop i))++[41]):=by
  intro m
  induction m with
  | zero =>
   intro i s h0 hi hs
   rw[List.drop_of_length_le (by omega),zbx,List.append_nil]
   apply zeb
   exact⟨fun h=>by omega,fun _=>⟨fun h6=>⟨by simp only[zd];omega,by simp only[zd];omega,by rw[if_pos h6]⟩,fun h6=>⟨by simp only[zd];omega,by simp only[zd];omega,by simp only[zd];omega,by rw[if_neg h6]⟩⟩⟩
  | succ m ih =>
   intro i s h0 hi hs
   have hlt:i < n.Kids.length:=by omega
   have hg:n.Kids[((i:Nat):Int).toNat]?=some n.Kids[i]:=by rw[Int.toNat_natCast];exact List.getElem?_eq_getElem hlt
   have hd:n.Kids.drop i=n.Kids[i]::n.Kids.drop (i+1):=List.drop_eq_getElem_cons hlt
   obtain⟨k1,k2⟩:=hk _ (List.getElem_mem hlt)
   have:=ih (i+1) (s++[44,32]++o n.Kids[i]) (by omega) (by omega) (by simp only[List.length_append,List.length_cons,List.length_nil];omega)
   apply zeb
   refine⟨fun _=>⟨fun _=>⟨by simp only[zd];omega,by omega,_,hg,_,k1,by simp only[zd];omega,⟨by omega,by omega⟩,?_⟩,fun h=>by omega⟩,fun h=>by omega⟩
   rw[hd,zbx]
   simpa [List.append_assoc] using this
 apply zeb
 refine⟨fun h0=>⟨fun h=>by omega,fun _=>?_⟩,fun h0=>?_⟩
 ·have hlt:0 < n.Kids.length:=by omega
  have hg:n.Kids[((0:Int)).toNat]?=some n.Kids[0]:=List.getElem?_eq_getElem hlt
  have hd:n.Kids=n.Kids[0]::n.Kids.drop 1:=List.drop_eq_getElem_cons hlt
  obtain⟨k1,k2⟩:=hk _ (List.getElem_mem hlt)
  have:=loop (n.Kids.length - 1) 1 (o n.Kids[0]) (by omega) (by omega) (by omega)
  have e:zbt o n.Kids=o n.Kids[0]++zbx o (n.Kids.drop 1):=by
   conv=>lhs;rw[hd]
   rw[zbt]
  refine⟨by omega,_,hg,_,k1,by simp only[zd,List.length_nil];omega,⟨by omega,by omega⟩,?_⟩
  rw[e]
  exact this
 have h0:n.Kids=[]:=List.length_eq_zero_iff.1 (by omega)
 rw[h0,zbt]
 exact⟨fun h6=>⟨by decide,by decide,by rw[if_pos h6]⟩,fun h6=>⟨by simp only[zd];omega,by simp only[zd,List.length_nil];omega,by simp only[zd,List.length_nil];omega,by rw[if_neg h6]⟩⟩
theorem zwo {l:List Node} (h:TR l):∀ (e:Nat),e < l.length→zaQ l (e:Int) (txS l e):=by
 intro e
 induction e using Nat.strongRecOn with
 | _ e ih =>
  intro he
  obtain⟨hok,hk,hlen⟩:=h.node e he
  have hs:=h.ns _ (List.getElem_mem he)
  have hg:l[((e:Nat):Int).toNat]?=some l[e]:=by rw[Int.toNat_natCast];exact List.getElem?_eq_getElem he
  have sh:∀ k ∈ l[e].Kids,zaQ l k (txS l k.toNat)∧(txS l k.toNat).length≤3300000:=fun k hk'=>by
   have h1:=hk k hk'
   have h2:=ih k.toNat (by omega) (by omega)
   rw[show ((k.toNat:Nat):Int)=k by omega] at h2
   exact⟨h2,(h.node k.toNat (by omega)).2.2⟩
  have kd:=fun i (hi:i < l[e].Kids.length)=>zn1 h he (i:=i) hi
  rw[zhC he hok hk]
  generalize l[e]=n at *
  have hkl:=zbl hok
  apply zus
  refine⟨by omega,n,hg,fun k1=>⟨_,zt6 _ hs.num,(nd1 k1).symm⟩,fun k1=>⟨fun k2=>⟨_,zqE _ hs.parts,(nd2 k2).symm⟩,fun k2=>⟨fun k3=>⟨fun b=>?_,fun b=>?_⟩,fun k3=>⟨fun k4=>(nd4 k4).symm,fun k4=>⟨fun k5=>?_,fun k5=>⟨fun k6=>?_,fun k6=>⟨fun k7=>?_,fun k7=>⟨fun k8=>?_,fun k8=>⟨fun k9=>?_,fun k9=>⟨fun k10=>?_,fun k10=>?_⟩⟩⟩⟩⟩⟩⟩⟩⟩⟩
  ·rw[nd3 k3,decide_eq_true b,zkA]
  ·rw[nd3 k3,decide_eq_false b,ziV]
  ·have:=zhp (o:=fun k=>txS l k.toNat) hs.text hs.kids sh
   rw[if_neg (by omega)] at this
   rw[nd5 k5]
   exact this
  ·have:=zhp (o:=fun k=>txS l k.toNat) hs.text hs.kids sh
   rw[if_pos k6] at this
   rw[nd6 k6]
   exact this
  ·have hc:=kdk hok 7 2 k7 (by decide) (by decide) (by decide)
   obtain⟨v,a1,a2,a3,a4,a5,a6,a7⟩:=kd 0 (by omega)
   obtain⟨v',b1,b2,b3,b4,b5,b6,b7⟩:=kd 1 (by omega)
   have s0:=(sh _ (zm (n:=n) (i:=0) (by omega))).1
   have s1:=(sh _ (zm (n:=n) (i:=1) (by omega))).1
   have w:=zby l (fun k=>txS l k.toNat) (kid n 0) 7
   refine⟨_,a1,_,s0,a2,_,a4,_,zbi _ a6,_,ze6 (o:=fun k=>txS l k.toNat) (least:=7) (by rw[decide_eq_true_eq,a5]) (by omega),by simp only[zd];omega,_,b1,_,s1,by simp only[zd];omega,by simp only[zd];omega,?_⟩
   rw[nd7 k7]
  ·have hc:=kdk hok 8 1 k8 (by decide) (by decide) (by decide)
   obtain⟨v,a1,a2,a3,a4,a5,a6,a7⟩:=kd 0 (by omega)
   have s0:=(sh _ (zm (n:=n) (i:=0) (by omega))).1
   have w:=zby l (fun k=>txS l k.toNat) (kid n 0) 6
   refine⟨_,a1,_,s0,a2,_,a4,_,zbi _ a6,_,ze6 (o:=fun k=>txS l k.toNat) (least:=6) (by rw[decide_eq_true_eq,a5]) (by omega),by simp only[zd];omega,?_⟩
   rw[nd8 k8]
  ·have hc:=kdk hok 9 1 k9 (by decide) (by decide) (by decide)
   obtain⟨v,a1,a2,a3,a4,a5,a6,a7⟩:=kd 0 (by omega)
   have s0:=(sh _ (zm (n:=n) (i:=0) (by omega))).1
   have w:=zby l (fun k=>txS l k.toNat) (kid n 0) 6
   refine⟨_,a1,_,s0,a2,_,a4,_,zbi _ a6,_,ze6 (o:=fun k=>txS l k.toNat) (least:=6) (by rw[decide_eq_true_eq,a5]) (by omega),by simp only[zd];omega,?_⟩
   rw[nd9 k9]
  ·have hc:=kdk hok 10 3 k10 (by decide) (by decide) (by decide)
   obtain⟨v,a1,a2,a3,a4,a5,a6,a7⟩:=kd 0 (by omega)
   obtain⟨v',b1,b2,b3,b4,b5,b6,b7⟩:=kd 1 (by omega)
   obtain⟨v2,c1,c2,c3,c4,c5,c6,c7⟩:=kd 2 (by omega)
   have s0:=(sh _ (zm (n:=n) (i:=0) (by omega))).1
   have s1:=(sh _ (zm (n:=n) (i:=1) (by omega))).1
   have s2:=(sh _ (zm (n:=n) (i:=2) (by omega))).1
   have w:=zby l (fun k=>txS l k.toNat) (kid n 0) 1
   have rr:=znp v.Kind
   refine⟨_,a1,_,s0,a2,_,a4,_,zbi _ a6,_,ze6 (o:=fun k=>txS l k.toNat) (least:=1) (by rw[decide_eq_true_eq,a5];omega) (by omega),by simp only[zd];omega,_,b1,_,s1,by simp only[zd];omega,by simp only[zd];omega,_,c1,_,s2,by simp only[zd];omega,?_⟩
   rw[zqf k10]
  have hc:=kd2 hok (by omega)
  obtain⟨v,a1,a2,a3,a4,a5,a6,a7⟩:=kd 0 (by omega)
  obtain⟨v',b1,b2,b3,b4,b5,b6,b7⟩:=kd 1 (by omega)
  have s0:=(sh _ (zm (n:=n) (i:=0) (by omega))).1
  have s1:=(sh _ (zm (n:=n) (i:=1) (by omega))).1
  have sg:=zhM n.Kind
  have sgn:=zp5 (k:=n.Kind) (by omega) (by omega)
  have i1:=ze6 (l:=l) (o:=fun k=>txS l k.toNat) (k:=kid n 1) (least:=rkS n.Kind+1) (d:=decide (rkS v'.Kind≤rkS n.Kind)) (by rw[decide_eq_true_eq,b5];omega) (by omega)
  have w1:=zby l (fun k=>txS l k.toNat) (kid n 1) (rkS n.Kind+1)
  refine⟨_,a1,_,b1,_,zbi _ (by omega),a2,_,a4,_,zbi _ a6,fun q=>?_,fun q=>⟨fun q3=>?_,fun q3=>?_⟩⟩
  ·have w:=zby l (fun k=>txS l k.toNat) (kid n 0) (if rkS n.Kind=3 then rkS n.Kind+1 else rkS n.Kind)
   refine⟨_,s0,_,ze6 (o:=fun k=>txS l k.toNat) (least:=if rkS n.Kind=3 then rkS n.Kind+1 else rkS n.Kind) (by rw[a5];simp only[true_iff];split <;> omega) (by omega),by simp only[zd];omega,⟨by omega,by omega⟩,by omega,_,sgn,by simp only[zd];omega,by simp only[zd];omega,_,s1,b2,_,b4,_,zbi _ b6,_,i1,by simp only[zd];omega,?_⟩
   rw[zi0 (by omega)]
  ·have w:=zby l (fun k=>txS l k.toNat) (kid n 0) (if rkS n.Kind=3 then rkS n.Kind+1 else rkS n.Kind)
   refine⟨_,s0,_,ze6 (o:=fun k=>txS l k.toNat) (least:=if rkS n.Kind=3 then rkS n.Kind+1 else rkS n.Kind) (by rw[a5,decide_eq_true_eq,if_pos q3];omega) (by omega),by simp only[zd];omega,⟨by omega,by omega⟩,by omega,_,sgn,by simp only[zd];omega,by simp only[zd];omega,_,s1,b2,_,b4,_,zbi _ b6,_,i1,by simp only[zd];omega,?_⟩
   rw[zi0 (by omega)]
  have w:=zby l (fun k=>txS l k.toNat) (kid n 0) (if rkS n.Kind=3 then rkS n.Kind+1 else rkS n.Kind)
  refine⟨_,s0,_,ze6 (o:=fun k=>txS l k.toNat) (least:=if rkS n.Kind=3 then rkS n.Kind+1 else rkS n.Kind) (by rw[a5,if_neg q3];simp only[Bool.false_eq_true,false_iff];omega) (by omega),by simp only[zd];omega,⟨by omega,by omega⟩,by omega,_,sgn,by simp only[zd];omega,by simp only[zd];omega,_,s1,b2,_,b4,_,zbi _ b6,_,i1,by simp only[zd];omega,?_⟩
  rw[zi0 (by omega)]
end Go.Proofs.YtfbcnpbhhooapaaGreatDoor.M
namespace Go.Proofs.YtfbcnpbhhooapaaGreatDoor.M
open Go Classical
inductive PR (α:Type) where
 | ok (a:α) (ts:List Token) (out:List Node)
 | er (e:Int)
 | no
def PR.bind {α β:Type}:PR α→(α→List Token→List Node→PR β)→PR β
 | .ok a ts out,f=>f a ts out
 | .er e,_=>.er e
 | .no,_=>.no
def isS (s:List UInt8):List Token→Bool
 | t::_=>decide (t.Kind=4) && decide (t.Text=s)
 | []=>false
def zal {α:Type} (s:List UInt8) (ts:List Token) (k:List Token→PR α):PR α:=if isS s ts=true then k ts.tail else .er 5
def zW {α:Type} (s:List UInt8) (d:Nat) (ts:List Token) (k:List Token→PR α):PR α:=if isS s ts=true then (if 64≤d then .er 6 else k ts.tail) else .er 5
def nd (kind:Int) (text:List UInt8) (kids:List Int):Node:=⟨kind,0,text,[],kids⟩
def zbI (s:List UInt8):List (List UInt8)→Nat→Option Nat
 | [],_=>none
 | v::l,i=>if s=v then some i else zbI s l (i+1)
def zon:Nat→List (List UInt8)
 | 0=>[[124,124]]
 | 1=>[[38,38]]
 | 2=>[[61,61],[33,61],[60],[60,61],[62],[62,61]]
 | 3=>[[43],[45]]
 | _=>[[42],[47],[37]]
def zrY:Nat→Int
 | 0=>11
 | 1=>12
 | 2=>13
 | 3=>19
 | _=>21
def opS (rank:Nat) (s:List UInt8):Option Int:=(zbI s (zon rank) 0).map fun (i:Nat)=>zrY rank+(i:Int)
mutual
def zA:Nat→Nat→List Token→List Node→PR Int
 | 0,_,_,_=>.no
 | n+1,d,ts,out=>(zq n 0 d ts out).bind fun a ts out =>
  if isS [63] ts=true then zW [63] d ts fun ts=>(zA n (d+1) ts out).bind fun b ts out=>zal [58] ts fun ts=>(zA n (d+1) ts out).bind fun c ts out=>.ok (out.length:Nat) ts (out++[nd 10 [] [a,b,c]])
  else .ok a ts out
def zq:Nat→Nat→Nat→List Token→List Node→PR Int
 | 0,_,_,_,_=>.no
 | n+1,rank,d,ts,out=>if rank=5 then unS n d ts out else (zq n (rank+1) d ts out).bind fun a ts out=>zM n rank d a ts out
def zM:Nat→Nat→Nat→Int→List Token→List Node→PR Int
 | 0,_,_,_,_,_=>.no
 | _+1,_,_,_,[],_=>.no
 | n+1,rank,d,a,t::ts,out =>
  if t.Kind=4 then
   match opS rank t.Text with
   | none=>.ok a (t::ts) out
   | some kind=>(zq n (rank+1) d ts out).bind fun b ts out=>if rank=2 then .ok (out.length:Nat) ts (out++[nd kind [] [a,b]]) else zM n rank d (out.length:Nat) ts (out++[nd kind [] [a,b]])
  else .ok a (t::ts) out
def unS:Nat→Nat→List Token→List Node→PR Int
 | 0,_,_,_=>.no
 | n+1,d,ts,out =>
  if isS [45] ts=true then zW [45] d ts fun ts=>(unS n (d+1) ts out).bind fun a ts out=>.ok (out.length:Nat) ts (out++[nd 9 [] [a]])
  else if isS [33] ts=true then zW [33] d ts fun ts=>(unS n (d+1) ts out).bind fun a ts out=>.ok (out.length:Nat) ts (out++[nd 8 [] [a]])
  else zay n d ts out
def zay:Nat→Nat→List Token→List Node→PR Int
 | 0,_,_,_=>.no
 | n+1,d,ts,out=>(zx n d ts out).bind fun a ts out=>zad n d a ts out
def zad:Nat→Nat→Int→List Token→List Node→PR Int
 | 0,_,_,_,_=>.no
 | n+1,d,a,ts,out =>
  if isS [91] ts=true then zW [91] d ts fun ts=>(zA n (d+1) ts out).bind fun b ts out=>zal [93] ts fun ts=>zad n d (out.length:Nat) ts (out++[nd 7 [] [a,b]])
  else .ok a ts out
def zam:Nat→Nat→List UInt8→List Token→List Node→PR (List Int)
 | 0,_,_,_,_=>.no
 | n+1,d,e,ts,out=>if isS e ts=true then .ok [] ts.tail out else (zA n d ts out).bind fun a ts out=>zaG n d e [a] ts out
def zaG:Nat→Nat→List UInt8→List Int→List Token→List Node→PR (List Int)
 | 0,_,_,_,_,_=>.no
 | n+1,d,e,l,ts,out=>if isS [44] ts=true then (zA n d ts.tail out).bind fun a ts out=>zaG n d e (l++[a]) ts out else zal e ts fun ts=>.ok l ts out
def zx:Nat→Nat→List Token→List Node→PR Int
 | 0,_,_,_=>.no
 | _+1,_,[],_=>.no
 | n+1,d,t::ts,out =>
  if t.Kind=3 then
   if t.Text=[116,114,117,101] then .ok (out.length:Nat) ts (out++[⟨3,1,[],[],[]⟩])
   else if t.Text=[102,97,108,115,101] then .ok (out.length:Nat) ts (out++[⟨3,0,[],[],[]⟩])
   else if isS [46] ts=true then
    match ts.tail with
    | []=>.no
    | u::ts=>if u.Kind=3 then .ok (out.length:Nat) ts (out++[nd 4 ((t.Text++[46])++u.Text) []]) else .er 5
   else zW [40] d ts fun ts=>(zam n (d+1) [41] ts out).bind fun l ts out=>.ok (out.length:Nat) ts (out++[nd 5 t.Text l])
  else if t.Kind=1 then .ok (out.length:Nat) ts (out++[⟨1,t.Num,[],[],[]⟩])
  else if t.Kind=2 then .ok (out.length:Nat) ts (out++[⟨2,0,[],t.Parts,[]⟩])
  else if isS [91] (t::ts)=true then zW [91] d (t::ts) fun ts=>(zam n (d+1) [93] ts out).bind fun l ts out=>.ok (out.length:Nat) ts (out++[nd 6 [] l])
  else zW [40] d (t::ts) fun ts=>(zA n (d+1) ts out).bind fun a ts out=>zal [41] ts fun ts=>.ok a ts out
end
def W:List Token→Prop
 | []=>False
 | [e]=>e.Kind=0
 | t::u::ts=>t.Kind≠0∧W (u::ts)
theorem W.tail {t:Token} {ts:List Token} (h:W (t::ts)) (hk:t.Kind≠0):W ts:=by
 cases ts with
 | nil=>exact absurd h hk
 | cons u ts=>exact h.2
theorem W.ne {ts:List Token} (h:W ts):ts≠[]:=fun e=>by subst e;exact h
def pt (L ts:List Token):PTokens:=⟨L,((L.length - ts.length:Nat):Int)⟩
theorem zdA {L ts:List Token} {t:Token} (h:(t::ts) <:+ L):ts <:+ L:=(List.suffix_cons t ts).trans h
theorem zet {L ts:List Token} (h:ts <:+ L):ts.length≤L.length:=h.length_le
theorem zwm {L ts:List Token} {t:Token} (h:(t::ts) <:+ L):L[(pt L (t::ts)).pos.toNat]?=some t:=by
 obtain⟨p,rfl⟩:=h
 simp[pt]
theorem zfL {L ts:List Token} {t:Token} (h:(t::ts) <:+ L):(PTokens.mk (pt L (t::ts)).l ((pt L (t::ts)).pos+1))=pt L ts:=by
 have:=zet h
 simp only[pt,List.length_cons] at this ⊢
 congr 1
 omega
theorem zZ {L ts:List Token} {t:Token} (h:(t::ts) <:+ L):zbv (pt L (t::ts)) t (pt L (t::ts)):=ztD _ _ _ ⟨by simp[pt],t,zwm h,rfl,rfl⟩
theorem zjA (t:PTokens) (e:Int):zdM t e (some e) t:=ztA _ _ _ _ ⟨rfl,rfl⟩
theorem zi3 {L ts:List Token} (h:ts <:+ L) (hne:ts≠[]) (s:List UInt8):zas (pt L ts) s (isS s ts) (pt L ts):=by
 cases ts with
 | nil=>exact absurd rfl hne
 | cons t ts =>
  refine zsc _ _ _ _ ⟨t,_,zZ h,fun hk=>⟨t,_,zZ h,?_,rfl⟩,fun hk=>⟨?_,rfl⟩⟩
  ·simp[isS,hk]
  simp[isS,hk]
theorem zuO {s:List UInt8} {t:Token} {ts:List Token} (h:isS s (t::ts)=true):t.Kind≠0:=by
 simp only[isS,Bool.and_eq_true,decide_eq_true_eq] at h
 rw[h.1]
 decide
theorem W.shift {s:List UInt8} {ts:List Token} (h:W ts) (hi:isS s ts=true):W ts.tail:=by
 cases ts with
 | nil=>exact h.elim
 | cons t ts=>exact h.tail (zuO hi)
theorem zP {L ts:List Token} (h:ts <:+ L):ts.tail <:+ L:=by
 cases ts with
 | nil=>exact h
 | cons t ts=>exact zdA h
theorem zae {s:List UInt8} {ts:List Token} (hi:isS s ts=true):ts.tail.length+1=ts.length:=by
 cases ts with
 | nil=>cases hi
 | cons t ts=>rfl
theorem zg0 {L ts:List Token} (h:ts <:+ L) (hL:L.length≤1000000) {s:List UInt8} (hi:isS s ts=true):zei (pt L ts) s true (pt L ts.tail):=by
 cases ts with
 | nil=>cases hi
 | cons t ts =>
  refine znZ _ _ _ _ ⟨true,_,by have:=zi3 h (by simp) s;rw[hi] at this;exact this,fun _=>⟨?_,rfl,zfL h⟩,fun hf=>absurd rfl hf⟩
  have:=zet h
  simp only[pt,I64]
  omega
theorem zka {L ts:List Token} (h:ts <:+ L) (hne:ts≠[]) {s:List UInt8} (hi:isS s ts=false):zei (pt L ts) s false (pt L ts) :=
 znZ _ _ _ _ ⟨false,_,by have:=zi3 h hne s;rw[hi] at this;exact this,fun hf=>(by cases hf),fun _=>⟨rfl,rfl⟩⟩
theorem zhL {L ts:List Token} (h:ts <:+ L) (hL:L.length≤1000000) {s:List UInt8} (hi:isS s ts=true):zcZ (pt L ts) s none (pt L ts.tail) :=
 znl _ _ _ _ ⟨true,_,zg0 h hL hi,fun _=>⟨rfl,rfl⟩,fun hf=>absurd rfl hf⟩
theorem zkl {L ts:List Token} (h:ts <:+ L) (hne:ts≠[]) {s:List UInt8} (hi:isS s ts=false):zcZ (pt L ts) s (some 5) (pt L ts) :=
 znl _ _ _ _ ⟨false,_,zka h hne hi,fun hf=>(by cases hf),fun _=>⟨_,_,zjA _ _,rfl,rfl⟩⟩
theorem zpm {L ts:List Token} {t:Token} (h:(t::ts) <:+ L) (hL:L.length≤1000000) (hk:t.Kind=3):zeQ (pt L (t::ts)) none t.Text (pt L ts):=by
 refine zlW _ _ _ _ ⟨t,_,zZ h,fun _=>⟨?_,rfl,rfl,zfL h⟩,fun hf=>absurd hk hf⟩
 have:=zet h
 simp only[pt,I64]
 omega
theorem zwZ {L ts:List Token} {t:Token} (h:(t::ts) <:+ L) (hk:¬ t.Kind=3) (r:List UInt8):zeQ (pt L (t::ts)) (some 5) r (pt L (t::ts)) :=
 zlW _ _ _ _ ⟨t,_,zZ h,fun hf=>absurd hf hk,fun _=>⟨_,_,zjA _ _,rfl,rfl⟩⟩
def pe (L ts:List Token) (out:List Node) (d:Nat):PExprs:=⟨pt L ts,out,(d:Int)⟩
theorem zdv {L ts:List Token} (h:ts <:+ L) (hL:L.length≤1000000) {s:List UInt8} (hi:isS s ts=true) {d:Nat} (hd:¬ 64≤d) (out:List Node) (g:Nat) (z:Bool):zaI (pe L ts out d) g z s none (pe L ts.tail out (d+1)) g z:=by
 cases ts with
 | nil=>cases hi
 | cons t ts =>
  refine zhs _ _ _ _ _ _ _ _ ⟨true,_,by have:=zi3 h (by simp) s;rw[hi] at this;exact this,fun _=>⟨fun hf=>?_,fun _=>⟨none,_,zhL h hL hi,?_,rfl,?_,rfl,rfl⟩⟩,fun hf=>absurd rfl hf⟩
  ·simp only[pe] at hf;omega
  ·simp only[pe,I64];omega
  simp[pe]
theorem zdE {L ts:List Token} (h:ts <:+ L) (hne:ts≠[]) {s:List UInt8} (hi:isS s ts=true) {d:Nat} (hd:64≤d) (out:List Node) (g:Nat) (z:Bool):∃ x' g' z',zaI (pe L ts out d) g z s (some 6) x' g' z' :=
 ⟨_,_,_,zhs _ _ _ _ _ _ _ _ ⟨true,_,by have:=zi3 h hne s;rw[hi] at this;exact this,fun _=>⟨fun _=>⟨_,_,zjA _ _,rfl,rfl,rfl,rfl⟩,fun hf=>absurd (by simp only[pe];omega) hf⟩,fun hf=>absurd rfl hf⟩⟩
theorem zpe {L ts:List Token} (h:ts <:+ L) (hne:ts≠[]) {s:List UInt8} (hi:isS s ts=false) (d:Nat) (out:List Node) (g:Nat) (z:Bool):∃ x' g' z',zaI (pe L ts out d) g z s (some 5) x' g' z' :=
 ⟨_,_,_,zhs _ _ _ _ _ _ _ _ ⟨false,_,by have:=zi3 h hne s;rw[hi] at this;exact this,fun hf=>(by cases hf),fun _=>⟨_,_,zkl h hne hi,rfl,rfl,rfl,rfl⟩⟩⟩
theorem zhJ {L ts:List Token} (h:ts <:+ L) (hL:L.length≤1000000) {s:List UInt8} (hi:isS s ts=true) {d:Nat} (hd:d≤1000) (out:List Node) (g:Nat) (z:Bool):zce (pe L ts out (d+1)) g z s none (pe L ts.tail out d) g z:=by
 refine zlJ _ _ _ _ _ _ _ _ ⟨none,_,zhL h hL hi,?_,rfl,?_,rfl,rfl⟩
 ·simp only[pe,I64];omega
 simp only[pe];congr 1;omega
theorem zkC {L ts:List Token} (h:ts <:+ L) (hne:ts≠[]) {s:List UInt8} (hi:isS s ts=false) (d:Nat) (out:List Node) (g:Nat) (z:Bool):∃ x' g' z',zce (pe L ts out d) g z s (some 5) x' g' z' :=
 ⟨_,_,_,zlJ _ _ _ _ _ _ _ _ ⟨_,_,zkl h hne hi,rfl,rfl,rfl,rfl⟩⟩
theorem zuw (l:List Int) (h:l.length≤1000000000):zcs l l:=fun S=>zbF zeZ S (by
 simp only[zgY,List.length_map]
 rw[if_pos ⟨trivial,by omega,by omega⟩])
theorem zci (x:PTokens) (out:List Node) (d:Int) (g:Nat) (z:Bool) (kind:Int) (text:List UInt8) (kids:List Int) (hk:kids.length≤1000000) (ho:out.length≤1000000):zao (PExprs.mk x out d) g z kind text kids (out.length:Nat) (PExprs.mk x (out++[nd kind text kids]) d) g z:=by
 refine zst _ _ _ _ _ _ _ _ _ _ ⟨kids,zuw kids (by omega),?_,?_,?_,rfl,rfl,rfl⟩
 ·simp only[bigRow];omega
 ·simp only[I64];omega
 simp
theorem zqN (x:PTokens) (out:List Node) (d:Int) (g:Nat) (kind n:Int) (ho:out.length≤1000000):zdV (PExprs.mk x out d) g false kind n (out.length:Nat) (PExprs.mk x (out++[⟨kind,n,[],[],[]⟩]) d) g false:=by
 refine zsi _ _ _ _ _ _ _ _ _ ⟨_,_,_,_,zci x out d g false kind [] [] (by simp) ho,by omega,?_,rfl,nd kind [] [],?_,rfl,?_,rfl,rfl⟩
 ·simp
 ·simp
 simp[nd]
theorem zxc:SP 103=some (.code sc_Q103):=zb rfl Tryz.func103 comp_Q103
def zdY (rank:Int) (i13:Int) (x14:PExprs) (g15:Nat) (z16:Bool) (o:Option Int) (r:Int) (x':PExprs) (x'_g2:Nat) (x'_z2:Bool):Prop:=∀ (S:Sto) (e:Nat→PV) (f:Fr) (n0 t0:Nat),((getBox S n0 t0).map (List.take 4)=some [.list 5 (x14.tokens.l.map eToken) false,.int .i64 x14.tokens.pos,.sl 0 (.cell t0 2) 0 x14.out.length x14.out.length g15 false,.int .i64 x14.deep]∧getArr S n0 (.cell t0 2)=some ⟨5,x14.out.map eNode,z16,g15⟩)→e 0=.ptr (n0+1) t0 0∧e 1=.int .i64 rank∧e 5=.int .i64 i13→zmT SP (E SP (.loop b_Q103_1) ⟨e,f::S⟩)=po 116 o (.v (.int .i64 r)) (setArr (setBox S n0 t0 ([.list 5 (x'.tokens.l.map eToken) false,.int .i64 x'.tokens.pos,.sl 0 (.cell t0 2) 0 x'.out.length x'.out.length x'_g2 false,.int .i64 x'.deep]++((getBox S n0 t0).getD []).drop 4)) n0 (.cell t0 2) ⟨5,x'.out.map eNode,x'_z2,x'_g2⟩)
theorem za5 (rank:Int) (i13:Int) (x14:PExprs) (g15:Nat) (z16:Bool) (o:Option Int) (r:Int) (x':PExprs) (x'_g2:Nat) (x'_z2:Bool) (T :
  ∃ (r17:Token) (y18:PTokens),(zbv x14.tokens r17 y18) ∧
 ((r17.Kind=4) →
  ∃ (r19:Token) (y20:PTokens),(zbv y18 r19 y20) ∧
  ∃ (r21:Int) (r22:Bool),(zhk rank r19.Text r21 r22) ∧
  ((r22=true) →
   (I64 (y20.pos+1)) ∧
   (I64 (rank+1)) ∧
   ∃ (o24:Option Int) (r23:Int) (y25:PExprs) (g26:Nat) (z27:Bool),(zdg (PExprs.mk (PTokens.mk y20.l (y20.pos+1)) x14.out x14.deep) g15 z16 (rank+1) o24 r23 y25 g26 z27) ∧
   (match o24 with
   | none=>(∃ (r29:Int) (y30:PExprs) (g31:Nat) (z32:Bool),(zao y25 g26 z27 r21 [] [i13,r23] r29 y30 g31 z32) ∧
    ((rank=2) →
     none=o∧r29=r∧y30=x'∧g31=x'_g2∧z32=x'_z2) ∧
    (¬ (rank=2) →
     zdY rank r29 y30 g31 z32 o r x' x'_g2 x'_z2))
   | some e28=>(some e28=o∧y25=x'∧g26=x'_g2∧z27=x'_z2))) ∧
  (¬ (r22=true) →
   none=o∧i13=r∧(PExprs.mk y20 x14.out x14.deep)=x'∧g15=x'_g2∧z16=x'_z2)) ∧
 (¬ (r17.Kind=4) →
  none=o∧i13=r∧(PExprs.mk y18 x14.out x14.deep)=x'∧g15=x'_g2∧z16=x'_z2)):zdY rank i13 x14 g15 z16 o r x' x'_g2 x'_z2:=by
 intro S e f n0 t0 H0 h
 obtain⟨hb0,ha0⟩:=H0
 obtain⟨w0,hB0⟩:=zh hb0
 have hn0:=zc hB0
 unfold zmT
 rw[zo]
 have F:=zrD
 obtain⟨r17,y18,q1,T⟩:=T
 simp only[zbv,lF] at q1
 replace F:=aa ha0<|aa hB0<|aa hn0<|aa h<|aa q1<|F
 by_cases c2:r17.Kind=4
 ·replace T:=T.1 c2
  obtain⟨r19,y20,q3,r21,r22,q4,T⟩:=T
  simp only[zbv,lF] at q3
  simp only[zhk,lF] at q4
  replace F:=aa (eq_true c2)<|aa q3<|aa q4<|F
  by_cases c5:r22=true
  ·replace T:=T.1 c5
   obtain⟨p6,p7,o24,r23,y25,g26,z27,q8,T⟩:=T
   simp only[zdg,lF] at q8
   replace F:=aa c5<|aa p6.wrap<|aa p7.wrap<|aa q8<|F
   cases o24 with
   | none =>
     dsimp only at T
     obtain⟨r29,y30,g31,z32,q9,T⟩:=T
     simp only[zao,lF] at q9
     replace F:=aa q9<|F
     by_cases c10:rank=2
     ·replace T:=T.1 c10
      obtain⟨rfl,rfl,rfl,rfl,rfl⟩:=T
      exact fi (aa (eq_true c10)<|F)
     replace T:=T.2 c10
     replace F:=aa (eq_false c10)<|F
     try simp only[F,lw,lx,le,Nat.reduceMul,UInt8.reduceToNat,reduceIte,reduceCtorEq,Nat.reduceEqDiff,Nat.reduceAdd,Nat.reduceLeDiff,Nat.reduceSub,Nat.reduceLT,Int.reduceEq,Int.reduceLT,Int.reduceLE,Int.reduceToNat,Int.reduceAdd,Int.reduceSub,Int.reduceMul,Int.reduceNeg]
     refine (T _ _ _ n0 t0 ?_ ?_).trans ?_
     all_goals exact fi F
   | some e28 =>
     dsimp only at T
     obtain⟨rfl,rfl,rfl,rfl⟩:=T
     exact fi F
  replace T:=T.2 c5
  replace c5:=Bool.eq_false_iff.2 c5
  obtain⟨rfl,rfl,rfl,rfl,rfl⟩:=T
  exact fi (aa c5<|F)
 replace T:=T.2 c2
 obtain⟨rfl,rfl,rfl,rfl,rfl⟩:=T
 exact fi (aa (eq_false c2)<|F)
theorem zdU (x:PExprs) (x_g2:Nat) (x_z2:Bool) (rank:Int) (o:Option Int) (r:Int) (x':PExprs) (x'_g2:Nat) (x'_z2:Bool) (T :
  ((rank=5) →
  ∃ (o2:Option Int) (r1:Int) (y3:PExprs) (g4:Nat) (z5:Bool),(zc2 x x_g2 x_z2 o2 r1 y3 g4 z5) ∧
  (match o2 with
  | none=>(none=o∧r1=r∧y3=x'∧g4=x'_g2∧z5=x'_z2)
  | some e6=>(some e6=o∧y3=x'∧g4=x'_g2∧z5=x'_z2))) ∧
 (¬ (rank=5) →
  (I64 (rank+1)) ∧
  ∃ (o8:Option Int) (r7:Int) (y9:PExprs) (g10:Nat) (z11:Bool),(zdg x x_g2 x_z2 (rank+1) o8 r7 y9 g10 z11) ∧
  (match o8 with
  | none=>(zdY rank r7 y9 g10 z11 o r x' x'_g2 x'_z2)
  | some e12=>(some e12=o∧y9=x'∧g10=x'_g2∧z11=x'_z2)))):zdg x x_g2 x_z2 rank o r x' x'_g2 x'_z2:=by
 intro S n0 t0 H0
 obtain⟨hb0,ha0⟩:=H0
 obtain⟨w0,hB0⟩:=zh hb0
 have hn0:=zc hB0
 rw[za zxc _ _ rfl]
 have F:=zrD
 replace F:=aa ha0<|aa hB0<|aa hn0<|F
 by_cases c1:rank=5
 ·replace T:=T.1 c1
  obtain⟨o2,r1,y3,g4,z5,q2,T⟩:=T
  simp only[zc2,lF] at q2
  replace F:=aa (eq_true c1)<|aa q2<|F
  cases o2 with
  | none =>
    dsimp only at T
    obtain⟨rfl,rfl,rfl,rfl,rfl⟩:=T
    exact fi F
  | some e6 =>
    dsimp only at T
    obtain⟨rfl,rfl,rfl,rfl⟩:=T
    exact fi F
 replace T:=T.2 c1
 obtain⟨p3,o8,r7,y9,g10,z11,q4,T⟩:=T
 simp only[zdg,lF] at q4
 replace F:=aa (eq_false c1)<|aa p3.wrap<|aa q4<|F
 cases o8 with
 | none =>
   dsimp only at T
   try simp only[F,lw,lx,le,Nat.reduceMul,UInt8.reduceToNat,reduceIte,reduceCtorEq,Nat.reduceEqDiff,Nat.reduceAdd,Nat.reduceLeDiff,Nat.reduceSub,Nat.reduceLT,Int.reduceEq,Int.reduceLT,Int.reduceLE,Int.reduceToNat,Int.reduceAdd,Int.reduceSub,Int.reduceMul,Int.reduceNeg]
   refine (T _ _ _ n0 t0 ?_ ?_).trans ?_
   all_goals exact fi F
 | some e12 =>
   dsimp only at T
   obtain⟨rfl,rfl,rfl,rfl⟩:=T
   exact fi F
theorem zy6:SP 68=some (.code sc_Q68):=zb rfl Tryz.func68 comp_Q68
theorem zcI (x:PExprs) (x_g2:Nat) (x_z2:Bool) (o:Option Int) (r:Int) (x':PExprs) (x'_g2:Nat) (x'_z2:Bool) (T :
  ∃ (o2:Option Int) (r1:Int) (y3:PExprs) (g4:Nat) (z5:Bool),(zdg x x_g2 x_z2 0 o2 r1 y3 g4 z5) ∧
 (match o2 with
 | none=>(∃ (r7:Bool) (y8:PTokens),(zas y3.tokens [63] r7 y8) ∧
  ((r7=true) →
   ∃ (o9:Option Int) (y10:PExprs) (g11:Nat) (z12:Bool),(zaI (PExprs.mk y8 y3.out y3.deep) g4 z5 [63] o9 y10 g11 z12) ∧
   (match o9 with
   | none=>(∃ (o15:Option Int) (r14:Int) (y16:PExprs) (g17:Nat) (z18:Bool),(zbh y10 g11 z12 o15 r14 y16 g17 z18) ∧
    (match o15 with
    | none=>(∃ (o20:Option Int) (y21:PTokens),(zcZ y16.tokens [58] o20 y21) ∧
     (match o20 with
     | none=>(∃ (o24:Option Int) (r23:Int) (y25:PExprs) (g26:Nat) (z27:Bool),(zbh (PExprs.mk y21 y16.out y16.deep) g17 z18 o24 r23 y25 g26 z27) ∧
      (match o24 with
      | none=>((I64 (y25.deep - 1)) ∧
       ∃ (r29:Int) (y30:PExprs) (g31:Nat) (z32:Bool),(zao (PExprs.mk y25.tokens y25.out (y25.deep - 1)) g26 z27 10 [] [r1,r14,r23] r29 y30 g31 z32) ∧
       none=o∧r29=r∧y30=x'∧g31=x'_g2∧z32=x'_z2)
      | some e28=>(some e28=o∧y25=x'∧g26=x'_g2∧z27=x'_z2)))
     | some e22=>(some e22=o∧(PExprs.mk y21 y16.out y16.deep)=x'∧g17=x'_g2∧z18=x'_z2)))
    | some e19=>(some e19=o∧y16=x'∧g17=x'_g2∧z18=x'_z2)))
   | some e13=>(some e13=o∧y10=x'∧g11=x'_g2∧z12=x'_z2))) ∧
  (¬ (r7=true) →
   none=o∧r1=r∧(PExprs.mk y8 y3.out y3.deep)=x'∧g4=x'_g2∧z5=x'_z2))
 | some e6=>(some e6=o∧y3=x'∧g4=x'_g2∧z5=x'_z2))):zbh x x_g2 x_z2 o r x' x'_g2 x'_z2:=by
 intro S n0 t0 H0
 obtain⟨hb0,ha0⟩:=H0
 obtain⟨w0,hB0⟩:=zh hb0
 have hn0:=zc hB0
 rw[za zy6 _ _ rfl]
 have F:=zza
 obtain⟨o2,r1,y3,g4,z5,q1,T⟩:=T
 simp only[zdg,lF] at q1
 replace F:=aa ha0<|aa hB0<|aa hn0<|aa q1<|F
 cases o2 with
 | none =>
   dsimp only at T
   obtain⟨r7,y8,q2,T⟩:=T
   simp only[zas,lF] at q2
   replace F:=aa q2<|F
   by_cases c3:r7=true
   ·replace T:=T.1 c3
    obtain⟨o9,y10,g11,z12,q4,T⟩:=T
    simp only[zaI,lF] at q4
    replace F:=aa c3<|aa q4<|F
    cases o9 with
    | none =>
      dsimp only at T
      obtain⟨o15,r14,y16,g17,z18,q5,T⟩:=T
      simp only[zbh,lF] at q5
      replace F:=aa q5<|F
      cases o15 with
      | none =>
        dsimp only at T
        obtain⟨o20,y21,q6,T⟩:=T
        simp only[zcZ,lF] at q6
        replace F:=aa q6<|F
        cases o20 with
        | none =>
          dsimp only at T
          obtain⟨o24,r23,y25,g26,z27,q7,T⟩:=T
          simp only[zbh,lF] at q7
          replace F:=aa q7<|F
          cases o24 with
          | none =>
            dsimp only at T
            obtain⟨p8,r29,y30,g31,z32,q9,rfl,rfl,rfl,rfl,rfl⟩:=T
            simp only[zao,lF] at q9
            exact fi (aa p8.wrap<|aa q9<|F)
          | some e28 =>
            dsimp only at T
            obtain⟨rfl,rfl,rfl,rfl⟩:=T
            exact fi F
        | some e22 =>
          dsimp only at T
          obtain⟨rfl,rfl,rfl,rfl⟩:=T
          exact fi F
      | some e19 =>
        dsimp only at T
        obtain⟨rfl,rfl,rfl,rfl⟩:=T
        exact fi F
    | some e13 =>
      dsimp only at T
      obtain⟨rfl,rfl,rfl,rfl⟩:=T
      exact fi F
   replace T:=T.2 c3
   replace c3:=Bool.eq_false_iff.2 c3
   obtain⟨rfl,rfl,rfl,rfl,rfl⟩:=T
   exact fi (aa c3<|F)
 | some e6 =>
   dsimp only at T
   obtain⟨rfl,rfl,rfl,rfl⟩:=T
   exact fi F
theorem zwV:SP 142=some (.code sc_Q142):=zb rfl Tryz.func142 comp_Q142
theorem zbE (x:PExprs) (x_g2:Nat) (x_z2:Bool) (o:Option Int) (r:Int) (x':PExprs) (x'_g2:Nat) (x'_z2:Bool) (T :
  ∃ (r1:Bool) (y2:PTokens),(zas x.tokens [45] r1 y2) ∧
 ((r1=true) →
  ∃ (o3:Option Int) (y4:PExprs) (g5:Nat) (z6:Bool),(zaI (PExprs.mk y2 x.out x.deep) x_g2 x_z2 [45] o3 y4 g5 z6) ∧
  (match o3 with
  | none=>(∃ (o9:Option Int) (r8:Int) (y10:PExprs) (g11:Nat) (z12:Bool),(zc2 y4 g5 z6 o9 r8 y10 g11 z12) ∧
   (match o9 with
   | none=>((I64 (y10.deep - 1)) ∧
    ∃ (r14:Int) (y15:PExprs) (g16:Nat) (z17:Bool),(zao (PExprs.mk y10.tokens y10.out (y10.deep - 1)) g11 z12 9 [] [r8] r14 y15 g16 z17) ∧
    none=o∧r14=r∧y15=x'∧g16=x'_g2∧z17=x'_z2)
   | some e13=>(some e13=o∧y10=x'∧g11=x'_g2∧z12=x'_z2)))
  | some e7=>(some e7=o∧y4=x'∧g5=x'_g2∧z6=x'_z2))) ∧
 (¬ (r1=true) →
  ∃ (r18:Bool) (y19:PTokens),(zas y2 [33] r18 y19) ∧
  ((r18=true) →
   ∃ (o20:Option Int) (y21:PExprs) (g22:Nat) (z23:Bool),(zaI (PExprs.mk y19 x.out x.deep) x_g2 x_z2 [33] o20 y21 g22 z23) ∧
   (match o20 with
   | none=>(∃ (o26:Option Int) (r25:Int) (y27:PExprs) (g28:Nat) (z29:Bool),(zc2 y21 g22 z23 o26 r25 y27 g28 z29) ∧
    (match o26 with
    | none=>((I64 (y27.deep - 1)) ∧
     ∃ (r31:Int) (y32:PExprs) (g33:Nat) (z34:Bool),(zao (PExprs.mk y27.tokens y27.out (y27.deep - 1)) g28 z29 8 [] [r25] r31 y32 g33 z34) ∧
     none=o∧r31=r∧y32=x'∧g33=x'_g2∧z34=x'_z2)
    | some e30=>(some e30=o∧y27=x'∧g28=x'_g2∧z29=x'_z2)))
   | some e24=>(some e24=o∧y21=x'∧g22=x'_g2∧z23=x'_z2))) ∧
  (¬ (r18=true) →
   ∃ (o36:Option Int) (r35:Int) (y37:PExprs) (g38:Nat) (z39:Bool),(zhG (PExprs.mk y19 x.out x.deep) x_g2 x_z2 o36 r35 y37 g38 z39) ∧
   (match o36 with
   | none=>(none=o∧r35=r∧y37=x'∧g38=x'_g2∧z39=x'_z2)
   | some e40=>(some e40=o∧y37=x'∧g38=x'_g2∧z39=x'_z2))))):zc2 x x_g2 x_z2 o r x' x'_g2 x'_z2:=by
 intro S n0 t0 H0
 obtain⟨hb0,ha0⟩:=H0
 obtain⟨w0,hB0⟩:=zh hb0
 have hn0:=zc hB0
 rw[za zwV _ _ rfl]
 have F:=zx8
 obtain⟨r1,y2,q1,T⟩:=T
 simp only[zas,lF] at q1
 replace F:=aa ha0<|aa hB0<|aa hn0<|aa q1<|F
 by_cases c2:r1=true
 ·replace T:=T.1 c2
  obtain⟨o3,y4,g5,z6,q3,T⟩:=T
  simp only[zaI,lF] at q3
  replace F:=aa c2<|aa q3<|F
  cases o3 with
  | none =>
    dsimp only at T
    obtain⟨o9,r8,y10,g11,z12,q4,T⟩:=T
    simp only[zc2,lF] at q4
    replace F:=aa q4<|F
    cases o9 with
    | none =>
      dsimp only at T
      obtain⟨p5,r14,y15,g16,z17,q6,rfl,rfl,rfl,rfl,rfl⟩:=T
      simp only[zao,lF] at q6
      exact fi (aa p5.wrap<|aa q6<|F)
    | some e13 =>
      dsimp only at T
      obtain⟨rfl,rfl,rfl,rfl⟩:=T
      exact fi F
  | some e7 =>
    dsimp only at T
    obtain⟨rfl,rfl,rfl,rfl⟩:=T
    exact fi F
 replace T:=T.2 c2
 replace c2:=Bool.eq_false_iff.2 c2
 obtain⟨r18,y19,q7,T⟩:=T
 simp only[zas,lF] at q7
 replace F:=aa c2<|aa q7<|F
 by_cases c8:r18=true
 ·replace T:=T.1 c8
  obtain⟨o20,y21,g22,z23,q9,T⟩:=T
  simp only[zaI,lF] at q9
  replace F:=aa c8<|aa q9<|F
  cases o20 with
  | none =>
    dsimp only at T
    obtain⟨o26,r25,y27,g28,z29,q10,T⟩:=T
    simp only[zc2,lF] at q10
    replace F:=aa q10<|F
    cases o26 with
    | none =>
      dsimp only at T
      obtain⟨p11,r31,y32,g33,z34,q12,rfl,rfl,rfl,rfl,rfl⟩:=T
      simp only[zao,lF] at q12
      exact fi (aa p11.wrap<|aa q12<|F)
    | some e30 =>
      dsimp only at T
      obtain⟨rfl,rfl,rfl,rfl⟩:=T
      exact fi F
  | some e24 =>
    dsimp only at T
    obtain⟨rfl,rfl,rfl,rfl⟩:=T
    exact fi F
 replace T:=T.2 c8
 replace c8:=Bool.eq_false_iff.2 c8
 obtain⟨o36,r35,y37,g38,z39,q13,T⟩:=T
 simp only[zhG,lF] at q13
 replace F:=aa c8<|aa q13<|F
 cases o36 with
 | none =>
   dsimp only at T
   obtain⟨rfl,rfl,rfl,rfl,rfl⟩:=T
   exact fi F
 | some e40 =>
   dsimp only at T
   obtain⟨rfl,rfl,rfl,rfl⟩:=T
   exact fi F
theorem zwA:SP 167=some (.code sc_Q167):=zb rfl Tryz.func167 comp_Q167
def zdX (i7:Int) (x8:PExprs) (g9:Nat) (z10:Bool) (o:Option Int) (r:Int) (x':PExprs) (x'_g2:Nat) (x'_z2:Bool):Prop:=∀ (S:Sto) (e:Nat→PV) (f:Fr) (n0 t0:Nat),((getBox S n0 t0).map (List.take 4)=some [.list 5 (x8.tokens.l.map eToken) false,.int .i64 x8.tokens.pos,.sl 0 (.cell t0 2) 0 x8.out.length x8.out.length g9 false,.int .i64 x8.deep]∧getArr S n0 (.cell t0 2)=some ⟨5,x8.out.map eNode,z10,g9⟩)→e 0=.ptr (n0+1) t0 0∧e 3=.int .i64 i7→znP SP (E SP (.loop b_Q167_1) ⟨e,f::S⟩)=po 116 o (.v (.int .i64 r)) (setArr (setBox S n0 t0 ([.list 5 (x'.tokens.l.map eToken) false,.int .i64 x'.tokens.pos,.sl 0 (.cell t0 2) 0 x'.out.length x'.out.length x'_g2 false,.int .i64 x'.deep]++((getBox S n0 t0).getD []).drop 4)) n0 (.cell t0 2) ⟨5,x'.out.map eNode,x'_z2,x'_g2⟩)
theorem za4 (i7:Int) (x8:PExprs) (g9:Nat) (z10:Bool) (o:Option Int) (r:Int) (x':PExprs) (x'_g2:Nat) (x'_z2:Bool) (T :
  ∃ (r11:Bool) (y12:PTokens),(zas x8.tokens [91] r11 y12) ∧
 ((r11=true) →
  ∃ (o13:Option Int) (y14:PExprs) (g15:Nat) (z16:Bool),(zaI (PExprs.mk y12 x8.out x8.deep) g9 z10 [91] o13 y14 g15 z16) ∧
  (match o13 with
  | none=>(∃ (o19:Option Int) (r18:Int) (y20:PExprs) (g21:Nat) (z22:Bool),(zbh y14 g15 z16 o19 r18 y20 g21 z22) ∧
   (match o19 with
   | none=>(∃ (o24:Option Int) (y25:PExprs) (g26:Nat) (z27:Bool),(zce y20 g21 z22 [93] o24 y25 g26 z27) ∧
    (match o24 with
    | none=>(∃ (r29:Int) (y30:PExprs) (g31:Nat) (z32:Bool),(zao y25 g26 z27 7 [] [i7,r18] r29 y30 g31 z32) ∧
     zdX r29 y30 g31 z32 o r x' x'_g2 x'_z2)
    | some e28=>(some e28=o∧y25=x'∧g26=x'_g2∧z27=x'_z2)))
   | some e23=>(some e23=o∧y20=x'∧g21=x'_g2∧z22=x'_z2)))
  | some e17=>(some e17=o∧y14=x'∧g15=x'_g2∧z16=x'_z2))) ∧
 (¬ (r11=true) →
  none=o∧i7=r∧(PExprs.mk y12 x8.out x8.deep)=x'∧g9=x'_g2∧z10=x'_z2)):zdX i7 x8 g9 z10 o r x' x'_g2 x'_z2:=by
 intro S e f n0 t0 H0 h
 obtain⟨hb0,ha0⟩:=H0
 obtain⟨w0,hB0⟩:=zh hb0
 have hn0:=zc hB0
 unfold znP
 rw[zo]
 have F:=zrI
 obtain⟨r11,y12,q1,T⟩:=T
 simp only[zas,lF] at q1
 replace F:=aa ha0<|aa hB0<|aa hn0<|aa h<|aa q1<|F
 by_cases c2:r11=true
 ·replace T:=T.1 c2
  obtain⟨o13,y14,g15,z16,q3,T⟩:=T
  simp only[zaI,lF] at q3
  replace F:=aa c2<|aa q3<|F
  cases o13 with
  | none =>
    dsimp only at T
    obtain⟨o19,r18,y20,g21,z22,q4,T⟩:=T
    simp only[zbh,lF] at q4
    replace F:=aa q4<|F
    cases o19 with
    | none =>
      dsimp only at T
      obtain⟨o24,y25,g26,z27,q5,T⟩:=T
      simp only[zce,lF] at q5
      replace F:=aa q5<|F
      cases o24 with
      | none =>
        dsimp only at T
        obtain⟨r29,y30,g31,z32,q6,T⟩:=T
        simp only[zao,lF] at q6
        replace F:=aa q6<|F
        try simp only[F,lw,lx,le,Nat.reduceMul,UInt8.reduceToNat,reduceIte,reduceCtorEq,Nat.reduceEqDiff,Nat.reduceAdd,Nat.reduceLeDiff,Nat.reduceSub,Nat.reduceLT,Int.reduceEq,Int.reduceLT,Int.reduceLE,Int.reduceToNat,Int.reduceAdd,Int.reduceSub,Int.reduceMul,Int.reduceNeg]
        refine (T _ _ _ n0 t0 ?_ ?_).trans ?_
        all_goals exact fi F
      | some e28 =>
        dsimp only at T
        obtain⟨rfl,rfl,rfl,rfl⟩:=T
        exact fi F
    | some e23 =>
      dsimp only at T
      obtain⟨rfl,rfl,rfl,rfl⟩:=T
      exact fi F
  | some e17 =>
    dsimp only at T
    obtain⟨rfl,rfl,rfl,rfl⟩:=T
    exact fi F
 replace T:=T.2 c2
 replace c2:=Bool.eq_false_iff.2 c2
 obtain⟨rfl,rfl,rfl,rfl,rfl⟩:=T
 exact fi (aa c2<|F)
theorem zg8 (x:PExprs) (x_g2:Nat) (x_z2:Bool) (o:Option Int) (r:Int) (x':PExprs) (x'_g2:Nat) (x'_z2:Bool) (T :
  ∃ (o2:Option Int) (r1:Int) (y3:PExprs) (g4:Nat) (z5:Bool),(zhc x x_g2 x_z2 o2 r1 y3 g4 z5) ∧
 (match o2 with
 | none=>(zdX r1 y3 g4 z5 o r x' x'_g2 x'_z2)
 | some e6=>(some e6=o∧y3=x'∧g4=x'_g2∧z5=x'_z2))):zhG x x_g2 x_z2 o r x' x'_g2 x'_z2:=by
 intro S n0 t0 H0
 obtain⟨hb0,ha0⟩:=H0
 obtain⟨w0,hB0⟩:=zh hb0
 have hn0:=zc hB0
 rw[za zwA _ _ rfl]
 have F:=zrI
 obtain⟨o2,r1,y3,g4,z5,q1,T⟩:=T
 simp only[zhc,lF] at q1
 replace F:=aa ha0<|aa hB0<|aa hn0<|aa q1<|F
 cases o2 with
 | none =>
   dsimp only at T
   try simp only[F,lw,lx,le,Nat.reduceMul,UInt8.reduceToNat,reduceIte,reduceCtorEq,Nat.reduceEqDiff,Nat.reduceAdd,Nat.reduceLeDiff,Nat.reduceSub,Nat.reduceLT,Int.reduceEq,Int.reduceLT,Int.reduceLE,Int.reduceToNat,Int.reduceAdd,Int.reduceSub,Int.reduceMul,Int.reduceNeg]
   refine (T _ _ _ n0 t0 ?_ ?_).trans ?_
   all_goals exact fi F
 | some e6 =>
   dsimp only at T
   obtain⟨rfl,rfl,rfl,rfl⟩:=T
   exact fi F
theorem zwi:SP 203=some (.code sc_Q203):=zb rfl Tryz.func203 comp_Q203
def zdW (end_:List UInt8) (l14:List Int) (x15:PExprs) (g16:Nat) (z17:Bool) (o:Option Int) (r:List Int) (x':PExprs) (x'_g2:Nat) (x'_z2:Bool):Prop:=∀ (S:Sto) (e:Nat→PV) (f:Fr) (n0 t0:Nat),((getBox S n0 t0).map (List.take 4)=some [.list 5 (x15.tokens.l.map eToken) false,.int .i64 x15.tokens.pos,.sl 0 (.cell t0 2) 0 x15.out.length x15.out.length g16 false,.int .i64 x15.deep]∧getArr S n0 (.cell t0 2)=some ⟨5,x15.out.map eNode,z17,g16⟩)→e 0=.ptr (n0+1) t0 0∧e 1=.str end_∧e 5=.sl 0 (.slot 5) 0 l14.length l14.length 0 false∧f.arr (.slot 5)=some ⟨1,l14.map eI,false,0⟩→zmK SP (E SP (.loop b_Q203_1) ⟨e,f::S⟩)=po 116 o (.arr 1 (r.map eI) false) (setArr (setBox S n0 t0 ([.list 5 (x'.tokens.l.map eToken) false,.int .i64 x'.tokens.pos,.sl 0 (.cell t0 2) 0 x'.out.length x'.out.length x'_g2 false,.int .i64 x'.deep]++((getBox S n0 t0).getD []).drop 4)) n0 (.cell t0 2) ⟨5,x'.out.map eNode,x'_z2,x'_g2⟩)
theorem zbz (end_:List UInt8) (l14:List Int) (x15:PExprs) (g16:Nat) (z17:Bool) (o:Option Int) (r:List Int) (x':PExprs) (x'_g2:Nat) (x'_z2:Bool) (T :
  ∃ (r18:Bool) (y19:PTokens),(zei x15.tokens [44] r18 y19) ∧
 ((r18=true) →
  ∃ (o21:Option Int) (r20:Int) (y22:PExprs) (g23:Nat) (z24:Bool),(zbh (PExprs.mk y19 x15.out x15.deep) g16 z17 o21 r20 y22 g23 z24) ∧
  (match o21 with
  | none=>((bigRow (l14.length+1) 8) ∧
   zdW end_ (l14++[r20]) y22 g23 z24 o r x' x'_g2 x'_z2)
  | some e25=>(some e25=o∧y22=x'∧g23=x'_g2∧z24=x'_z2))) ∧
 (¬ (r18=true) →
  ∃ (o26:Option Int) (y27:PExprs) (g28:Nat) (z29:Bool),(zce (PExprs.mk y19 x15.out x15.deep) g16 z17 end_ o26 y27 g28 z29) ∧
  (match o26 with
  | none=>(none=o∧l14=r∧y27=x'∧g28=x'_g2∧z29=x'_z2)
  | some e30=>(some e30=o∧y27=x'∧g28=x'_g2∧z29=x'_z2)))):zdW end_ l14 x15 g16 z17 o r x' x'_g2 x'_z2:=by
 intro S e f n0 t0 H0 h
 obtain⟨hb0,ha0⟩:=H0
 obtain⟨w0,hB0⟩:=zh hb0
 have hn0:=zc hB0
 unfold zmK
 rw[zo]
 have F:=zsU
 obtain⟨r18,y19,q1,T⟩:=T
 simp only[zei,lF] at q1
 replace F:=aa ha0<|aa hB0<|aa hn0<|aa h<|aa q1<|F
 by_cases c2:r18=true
 ·replace T:=T.1 c2
  obtain⟨o21,r20,y22,g23,z24,q3,T⟩:=T
  simp only[zbh,lF] at q3
  replace F:=aa c2<|aa q3<|F
  cases o21 with
  | none =>
    dsimp only at T
    obtain⟨p4,T⟩:=T
    simp only[bigRow] at p4
    replace F:=aa p4<|F
    try simp only[F,lw,lx,le,Nat.reduceMul,UInt8.reduceToNat,reduceIte,reduceCtorEq,Nat.reduceEqDiff,Nat.reduceAdd,Nat.reduceLeDiff,Nat.reduceSub,Nat.reduceLT,Int.reduceEq,Int.reduceLT,Int.reduceLE,Int.reduceToNat,Int.reduceAdd,Int.reduceSub,Int.reduceMul,Int.reduceNeg]
    refine (T _ _ _ n0 t0 ?_ ?_).trans ?_
    all_goals exact fi F
  | some e25 =>
    dsimp only at T
    obtain⟨rfl,rfl,rfl,rfl⟩:=T
    exact fi F
 replace T:=T.2 c2
 replace c2:=Bool.eq_false_iff.2 c2
 obtain⟨o26,y27,g28,z29,q5,T⟩:=T
 simp only[zce,lF] at q5
 replace F:=aa c2<|aa q5<|F
 cases o26 with
 | none =>
   dsimp only at T
   obtain⟨rfl,rfl,rfl,rfl,rfl⟩:=T
   exact fi F
 | some e30 =>
   dsimp only at T
   obtain⟨rfl,rfl,rfl,rfl⟩:=T
   exact fi F
theorem zfa (x:PExprs) (x_g2:Nat) (x_z2:Bool) (end_:List UInt8) (o:Option Int) (r:List Int) (x':PExprs) (x'_g2:Nat) (x'_z2:Bool) (T :
  ∃ (r1:Bool) (y2:PTokens),(zas x.tokens end_ r1 y2) ∧
 ((r1=true) →
  ∃ (o3:Option Int) (y4:PExprs) (g5:Nat) (z6:Bool),(zce (PExprs.mk y2 x.out x.deep) x_g2 x_z2 end_ o3 y4 g5 z6) ∧
  (match o3 with
  | none=>(none=o∧[]=r∧y4=x'∧g5=x'_g2∧z6=x'_z2)
  | some e7=>(some e7=o∧y4=x'∧g5=x'_g2∧z6=x'_z2))) ∧
 (¬ (r1=true) →
  ∃ (o9:Option Int) (r8:Int) (y10:PExprs) (g11:Nat) (z12:Bool),(zbh (PExprs.mk y2 x.out x.deep) x_g2 x_z2 o9 r8 y10 g11 z12) ∧
  (match o9 with
  | none=>(zdW end_ [r8] y10 g11 z12 o r x' x'_g2 x'_z2)
  | some e13=>(some e13=o∧y10=x'∧g11=x'_g2∧z12=x'_z2)))):zeT x x_g2 x_z2 end_ o r x' x'_g2 x'_z2:=by
 intro S n0 t0 H0
 obtain⟨hb0,ha0⟩:=H0
 obtain⟨w0,hB0⟩:=zh hb0
 have hn0:=zc hB0
 rw[za zwi _ _ rfl]
 have F:=zsU
 obtain⟨r1,y2,q1,T⟩:=T
 simp only[zas,lF] at q1
 replace F:=aa ha0<|aa hB0<|aa hn0<|aa q1<|F
 by_cases c2:r1=true
 ·replace T:=T.1 c2
  obtain⟨o3,y4,g5,z6,q3,T⟩:=T
  simp only[zce,lF] at q3
  replace F:=aa c2<|aa q3<|F
  cases o3 with
  | none =>
    dsimp only at T
    obtain⟨rfl,rfl,rfl,rfl,rfl⟩:=T
    exact fi F
  | some e7 =>
    dsimp only at T
    obtain⟨rfl,rfl,rfl,rfl⟩:=T
    exact fi F
 replace T:=T.2 c2
 replace c2:=Bool.eq_false_iff.2 c2
 obtain⟨o9,r8,y10,g11,z12,q4,T⟩:=T
 simp only[zbh,lF] at q4
 replace F:=aa c2<|aa q4<|F
 cases o9 with
 | none =>
   dsimp only at T
   try simp only[F,lw,lx,le,Nat.reduceMul,UInt8.reduceToNat,reduceIte,reduceCtorEq,Nat.reduceEqDiff,Nat.reduceAdd,Nat.reduceLeDiff,Nat.reduceSub,Nat.reduceLT,Int.reduceEq,Int.reduceLT,Int.reduceLE,Int.reduceToNat,Int.reduceAdd,Int.reduceSub,Int.reduceMul,Int.reduceNeg]
   refine (T _ _ _ n0 t0 ?_ ?_).trans ?_
   all_goals exact fi F
 | some e13 =>
   dsimp only at T
   obtain⟨rfl,rfl,rfl,rfl⟩:=T
   exact fi F
def zdk:Option Nat→Int
 | some i=>(i:Int)
 | none=>-1
theorem zgX (s:List (List UInt8)) (v:List UInt8) (hs:s.length≤1000):∀ (l:List (List UInt8)) (i:Nat),s.drop i=l→i+l.length=s.length→zF s v (i:Nat) (zdk (zbI v l i))
 | [],i,h,hi=>by
  refine zz _ _ _ _ ⟨fun hf=>?_,fun _=>rfl⟩
  simp at hi
  omega
 | u::l,i,h,hi=>by
  have hlt:i < s.length:=by simp at hi;omega
  have hg:s[i]?=some u:=by
   have:=congrArg List.head? h
   rw[List.head?_drop] at this
   simpa using this
  refine zz _ _ _ _ ⟨fun _=>⟨by omega,u,by simpa using hg,fun he=>?_,fun he=>⟨⟨by omega,by omega⟩,?_⟩⟩,fun hf=>absurd (by omega) hf⟩
  ·simp[zbI,he,zdk]
  have:=zgX s v hs l (i+1) (by rw[←List.drop_drop,h];rfl) (by simp at hi ⊢;omega)
  simp only[zbI,if_neg he]
  exact this
theorem ztu (s:List (List UInt8)) (v:List UInt8) (hs:s.length≤1000):zL s v (zdk (zbI v s 0)) :=
 zbc _ _ _ (zgX s v hs s 0 rfl (by simp))
theorem zzf (rank:Nat) (hr:rank < 5) (s:List UInt8):∃ k,zhk (rank:Int) s k (opS rank s).isSome∧∀ q,opS rank s=some q→k=q:=by
 have key:∀ (l:List (List UInt8)) (f:Int),([[[124,124]],[[38,38]],[[61,61],[33,61],[60],[60,61],[62],[62,61]],[[43],[45]],[[42],[47],[37]]]:List (List (List UInt8)))[rank]?=some l→([11,12,13,19,21]:List Int)[rank]?=some f→l.length≤6→0≤f→f≤30→zon rank=l→zrY rank=f→∃ k,zhk (rank:Int) s k (opS rank s).isSome∧∀ q,opS rank s=some q→k=q:=by
  intro l f h1 h2 h3 h4 h5 h6 h7
  have hb:-1≤zdk (zbI s l 0)∧zdk (zbI s l 0)≤6:=by
   have gen:∀ (l:List (List UInt8)) (i:Nat),-1≤zdk (zbI s l i)∧zdk (zbI s l i)≤i+l.length:=by
    intro l
    induction l with
    | nil=>intro i;simp[zbI,zdk]
    | cons u l ih =>
     intro i
     simp only[zbI]
     split
     ·simp only[zdk,List.length_cons];omega
     have:=ih (i+1)
     simp only[List.length_cons]
     omega
   have:=gen l 0
   omega
  refine⟨f+zdk (zbI s l 0),zrR _ _ _ _ ⟨by omega,l,by simpa using h1,zdk (zbI s l 0),ztu l s (by omega),by omega,f,by simpa using h2,⟨by omega,by omega⟩,rfl,?_⟩,?_⟩
  ·simp only[opS,h6]
   cases zbI s l 0 with
   | none=>simp[zdk]
   | some i=>simp[zdk]
  intro q hq
  simp only[opS,h6,h7] at hq
  cases hi:zbI s l 0 with
  | none=>rw[hi] at hq;cases hq
  | some i=>rw[hi] at hq;simpa [zdk] using hq
 match rank,hr with
 | 0,_=>exact key _ _ rfl rfl (by decide) (by decide) (by decide) rfl rfl
 | 1,_=>exact key _ _ rfl rfl (by decide) (by decide) (by decide) rfl rfl
 | 2,_=>exact key _ _ rfl rfl (by decide) (by decide) (by decide) rfl rfl
 | 3,_=>exact key _ _ rfl rfl (by decide) (by decide) (by decide) rfl rfl
 | 4,_=>exact key _ _ rfl rfl (by decide) (by decide) (by decide) rfl rfl
theorem zaR {L ts:List Token} (h:ts <:+ L) {s:List UInt8} (hi:isS s ts=true):zas (pt L ts) s true (pt L ts):=by
 have:=zi3 h (fun e=>by subst e;cases hi) s
 rw[hi] at this
 exact this
theorem zbn {L ts:List Token} (h:ts <:+ L) (hne:ts≠[]) {s:List UInt8} (hi:isS s ts=false):zas (pt L ts) s false (pt L ts):=by
 have:=zi3 h hne s
 rw[hi] at this
 exact this
def OkE {α:Type} (L ts:List Token) (out:List Node) (d d' g c m n:Nat) (R:PExprs→Nat→Bool→Option Int→α→PExprs→Nat→Bool→Prop):PR α→Prop
 | .ok a ts' out'=>ts' <:+ L∧W ts'∧ts'.length+c≤ts.length∧out'.length+ts'.length≤out.length+ts.length∧R (pe L ts out d) g false none a (pe L ts' out' d') g false
 | .er e=>∃ a x' g' z',R (pe L ts out d) g false (some e) a x' g' z'
 | .no=>n≤m
structure Sp (n:Nat) (L ts:List Token) (out:List Node) (d g:Nat):Prop where
 expr:OkE L ts out d d g 1 (20*ts.length+9) n zbh (zA n d ts out)
 chain:∀ rank:Nat,rank≤5→OkE L ts out d d g 1 (20*ts.length+8 - rank) n (fun x g z=>zdg x g z (rank:Int)) (zq n rank d ts out)
 loop:∀ (rank:Nat) (a:Int),rank < 5→OkE L ts out d d g 0 (20*ts.length) n (zdY (rank:Int) a) (zM n rank d a ts out)
 un:OkE L ts out d d g 1 (20*ts.length+2) n zc2 (unS n d ts out)
 post:OkE L ts out d d g 1 (20*ts.length+1) n zhG (zay n d ts out)
 postl:∀ a:Int,OkE L ts out d d g 0 (20*ts.length) n (zdX a) (zad n d a ts out)
 many:∀ e:List UInt8,d+1≤64→OkE L ts out (d+1) d g 1 (20*ts.length+10) n (fun x g z=>zeT x g z e) (zam n (d+1) e ts out)
 manyl:∀ (e:List UInt8) (l:List Int),l.length+ts.length≤1000000→d+1≤64→OkE L ts out (d+1) d g 1 (20*ts.length) n (zdW e l) (zaG n (d+1) e l ts out)
 prim:OkE L ts out d d g 1 (20*ts.length) n zhc (zx n d ts out)
 manyn:∀ e:List UInt8,d+1≤64→∀ b ts2 out2,zam n (d+1) e ts out=.ok b ts2 out2→b.length≤ts.length
 manyln:∀ (e:List UInt8) (l:List Int),d+1≤64→∀ b ts2 out2,zaG n (d+1) e l ts out=.ok b ts2 out2→b.length≤l.length+ts.length
def SpA (n:Nat):Prop:=∀ (L:List Token),L.length≤1000000→(∀ t ∈ L,t.Text.length≤1000000)→∀ (ts:List Token),ts <:+ L→W ts→∀ (out:List Node),out.length+ts.length≤1000000→∀ (d:Nat),d≤64→∀ (g:Nat),Sp n L ts out d g
theorem zwa:SpA 0:=fun L hL hT ts hs hw out ho d hd g=>by
 constructor
 iterate 9 (intros;simp only[zA,zq,zM,unS,zay,zad,zam,zaG,zx,OkE];exact Nat.zero_le _)
 ·intro e h b ts2 out2 hb;simp[zam] at hb
 intro e l h b ts2 out2 hb;simp[zaG] at hb
section
variable {n:Nat} (ih:SpA n) {L ts:List Token} (hL:L.length≤1000000) (hT:∀ t ∈ L,t.Text.length≤1000000) (hs:ts <:+ L) (hw:W ts) {out:List Node} (ho:out.length+ts.length≤1000000) {d:Nat} (hd:d≤64) (g:Nat)
include ih hL hT hs hw ho hd
theorem zv2:OkE L ts out d d g 1 (20*ts.length+9) (n+1) zbh (zA (n+1) d ts out):=by
 have h1:=(ih L hL hT ts hs hw out ho d hd g).chain 0 (by omega)
 simp only[zA]
 cases hc:zq n 0 d ts out with
 | no=>rw[hc] at h1;simp only[PR.bind,OkE] at h1 ⊢;omega
 | er e =>
  rw[hc] at h1
  obtain⟨a,x',g',z',q⟩:=h1
  exact⟨0,x',g',z',zcI _ _ _ _ _ _ _ _ ⟨some e,a,x',g',z',q,rfl,rfl,rfl,rfl⟩⟩
 | ok a ts1 out1 =>
  rw[hc] at h1
  obtain⟨s1,w1,l1,o1,q1⟩:=h1
  simp only[PR.bind]
  by_cases hi:isS [63] ts1=true
  ·rw[if_pos hi]
   simp only[zW,if_pos hi]
   have hlen:=zae hi
   by_cases h64:64≤d
   ·rw[if_pos h64]
    obtain⟨x',g',z',q⟩:=zdE s1 w1.ne hi h64 out1 g false
    exact⟨0,x',g',z',zcI _ _ _ _ _ _ _ _ ⟨none,a,_,_,_,q1,true,_,zaR s1 hi,fun _=>⟨some 6,x',g',z',q,rfl,rfl,rfl,rfl⟩,fun hf=>absurd rfl hf⟩⟩
   rw[if_neg h64]
   have q2:=zdv s1 hL hi h64 out1 g false
   have h3:=(ih L hL hT ts1.tail (zP s1) (w1.shift hi) out1 (by omega) (d+1) (by omega) g).expr
   cases hb:zA n (d+1) ts1.tail out1 with
   | no=>rw[hb] at h3;simp only[OkE] at h3 ⊢;omega
   | er e =>
    rw[hb] at h3
    obtain⟨b,x',g',z',q3⟩:=h3
    exact⟨0,x',g',z',zcI _ _ _ _ _ _ _ _ ⟨none,a,_,_,_,q1,true,_,zaR s1 hi,fun _=>⟨none,_,_,_,q2,some e,b,x',g',z',q3,rfl,rfl,rfl,rfl⟩,fun hf=>absurd rfl hf⟩⟩
   | ok b ts2 out2 =>
    rw[hb] at h3
    obtain⟨s2,w2,l2,o2,q3⟩:=h3
    simp only[zal]
    by_cases hi2:isS [58] ts2=true
    ·rw[if_pos hi2]
     have hlen2:=zae hi2
     have h4:=(ih L hL hT ts2.tail (zP s2) (w2.shift hi2) out2 (by omega) (d+1) (by omega) g).expr
     cases hc3:zA n (d+1) ts2.tail out2 with
     | no=>rw[hc3] at h4;simp only[OkE] at h4 ⊢;omega
     | er e =>
      rw[hc3] at h4
      obtain⟨c,x',g',z',q4⟩:=h4
      exact⟨0,x',g',z',zcI _ _ _ _ _ _ _ _ ⟨none,a,_,_,_,q1,true,_,zaR s1 hi,fun _=>⟨none,_,_,_,q2,none,b,_,_,_,q3,none,_,zhL s2 hL hi2,some e,c,x',g',z',q4,rfl,rfl,rfl,rfl⟩,fun hf=>absurd rfl hf⟩⟩
     | ok c ts3 out3 =>
      rw[hc3] at h4
      obtain⟨s3,w3,l3,o3,q4⟩:=h4
      refine⟨s3,w3,by omega,by simp;omega,zcI _ _ _ _ _ _ _ _ ⟨none,a,_,_,_,q1,true,_,zaR s1 hi,fun _=>⟨none,_,_,_,q2,none,b,_,_,_,q3,none,_,zhL s2 hL hi2,none,c,_,_,_,q4,⟨by simp only[pe];omega,by simp only[pe];omega⟩,_,_,_,_,zci _ out3 _ g false 10 [] [a,b,c] (by simp) (by omega),rfl,rfl,?_,rfl,rfl⟩,fun hf=>absurd rfl hf⟩⟩
      simp only[pe]
      congr 1
      omega
    rw[if_neg hi2]
    exact⟨0,_,_,_,zcI _ _ _ _ _ _ _ _ ⟨none,a,_,_,_,q1,true,_,zaR s1 hi,fun _=>⟨none,_,_,_,q2,none,b,_,_,_,q3,some 5,_,zkl s2 w2.ne (by simpa using hi2),rfl,rfl,rfl,rfl⟩,fun hf=>absurd rfl hf⟩⟩
  rw[if_neg hi]
  exact⟨s1,w1,l1,o1,zcI _ _ _ _ _ _ _ _ ⟨none,a,_,_,_,q1,false,_,zbn s1 w1.ne (by simpa using hi),fun hf=>(by cases hf),fun _=>⟨rfl,rfl,rfl,rfl,rfl⟩⟩⟩
theorem ztK (rank:Nat) (hr:rank≤5):OkE L ts out d d g 1 (20*ts.length+8 - rank) (n+1) (fun x g z=>zdg x g z (rank:Int)) (zq (n+1) rank d ts out):=by
 simp only[zq]
 by_cases h5:rank=5
 ·subst h5
  have h1:=(ih L hL hT ts hs hw out ho d hd g).un
  rw[if_pos rfl]
  cases hc:unS n d ts out with
  | no=>rw[hc] at h1;simp only[OkE] at h1 ⊢;omega
  | er e =>
   rw[hc] at h1
   obtain⟨a,x',g',z',q⟩:=h1
   exact⟨a,x',g',z',zdU _ _ _ _ _ _ _ _ _ ⟨fun _=>⟨some e,a,x',g',z',q,rfl,rfl,rfl,rfl⟩,fun hf=>absurd rfl hf⟩⟩
  | ok a ts1 out1 =>
   rw[hc] at h1
   obtain⟨s1,w1,l1,o1,q1⟩:=h1
   exact⟨s1,w1,l1,o1,zdU _ _ _ _ _ _ _ _ _ ⟨fun _=>⟨none,a,_,_,_,q1,rfl,rfl,rfl,rfl,rfl⟩,fun hf=>absurd rfl hf⟩⟩
 rw[if_neg h5]
 have h5':¬ ((rank:Nat):Int)=5:=by omega
 have h1:=(ih L hL hT ts hs hw out ho d hd g).chain (rank+1) (by omega)
 cases hc:zq n (rank+1) d ts out with
 | no=>rw[hc] at h1;simp only[PR.bind,OkE] at h1 ⊢;omega
 | er e =>
  rw[hc] at h1
  obtain⟨a,x',g',z',q⟩:=h1
  exact⟨a,x',g',z',zdU _ _ _ _ _ _ _ _ _ ⟨fun hf=>absurd hf h5',fun _=>⟨⟨by omega,by omega⟩,some e,a,x',g',z',q,rfl,rfl,rfl,rfl⟩⟩⟩
 | ok a ts1 out1 =>
  rw[hc] at h1
  obtain⟨s1,w1,l1,o1,q1⟩:=h1
  simp only[PR.bind]
  have h2:=(ih L hL hT ts1 s1 w1 out1 (by omega) d hd g).loop rank a (by omega)
  cases hl:zM n rank d a ts1 out1 with
  | no=>rw[hl] at h2;simp only[OkE] at h2 ⊢;omega
  | er e =>
   rw[hl] at h2
   obtain⟨b,x',g',z',q⟩:=h2
   exact⟨b,x',g',z',zdU _ _ _ _ _ _ _ _ _ ⟨fun hf=>absurd hf h5',fun _=>⟨⟨by omega,by omega⟩,none,a,_,_,_,q1,q⟩⟩⟩
  | ok b ts2 out2 =>
   rw[hl] at h2
   obtain⟨s2,w2,l2,o2,q2⟩:=h2
   exact⟨s2,w2,by omega,by omega,zdU _ _ _ _ _ _ _ _ _ ⟨fun hf=>absurd hf h5',fun _=>⟨⟨by omega,by omega⟩,none,a,_,_,_,q1,q2⟩⟩⟩
theorem zwF (rank:Nat) (a:Int) (hr:rank < 5):OkE L ts out d d g 0 (20*ts.length) (n+1) (zdY (rank:Int) a) (zM (n+1) rank d a ts out):=by
 cases ts with
 | nil=>exact hw.elim
 | cons t ts =>
  simp only[zM]
  by_cases hk:t.Kind=4
  ·rw[if_pos hk]
   obtain⟨k,hk2,hkq⟩:=zzf rank hr t.Text
   cases hop:opS rank t.Text with
   | none =>
    rw[hop] at hk2
    exact⟨hs,hw,by simp,by simp,za5 _ _ _ _ _ _ _ _ _ _ ⟨t,_,zZ hs,fun _=>⟨t,_,zZ hs,k,false,hk2,fun hf=>(by cases hf),fun _=>⟨rfl,rfl,rfl,rfl,rfl⟩⟩,fun hf=>absurd hk hf⟩⟩
   | some kind =>
    rw[hop] at hk2
    obtain rfl:=hkq kind hop
    simp only
    have hk0:t.Kind≠0:=by rw[hk];decide
    have hp:=zet hs
    have h1:=(ih L hL hT ts (zdA hs) (hw.tail hk0) out (by simp at ho;omega) d hd g).chain (rank+1) (by omega)
    have hI:I64 ((pt L (t::ts)).pos+1):=by simp only[pt,I64];omega
    have hI2:I64 (((rank:Nat):Int)+1):=⟨by omega,by omega⟩
    have e1:(PExprs.mk (PTokens.mk (pt L (t::ts)).l ((pt L (t::ts)).pos+1)) (pe L (t::ts) out d).out (pe L (t::ts) out d).deep)=pe L ts out d:=by rw[zfL hs];rfl
    cases hc:zq n (rank+1) d ts out with
    | no=>rw[hc] at h1;simp only[PR.bind,OkE,List.length_cons] at h1 ⊢;omega
    | er e =>
     rw[hc] at h1
     obtain⟨b,x',g',z',q⟩:=h1
     exact⟨b,x',g',z',za5 _ _ _ _ _ _ _ _ _ _ ⟨t,_,zZ hs,fun _=>⟨t,_,zZ hs,k,true,hk2,fun _=>⟨hI,hI2,some e,b,x',g',z',e1 ▸ q,rfl,rfl,rfl,rfl⟩,fun hf=>absurd rfl hf⟩,fun hf=>absurd hk hf⟩⟩
    | ok b ts1 out1 =>
     rw[hc] at h1
     obtain⟨s1,w1,l1,o1,q1⟩:=h1
     simp only[PR.bind]
     simp only[List.length_cons] at ho hp
     by_cases h2:rank=2
     ·subst h2
      rw[if_pos rfl]
      exact⟨s1,w1,by simp;omega,by simp;omega,za5 _ _ _ _ _ _ _ _ _ _ ⟨t,_,zZ hs,fun _=>⟨t,_,zZ hs,k,true,hk2,fun _=>⟨hI,hI2,none,b,_,_,_,e1 ▸ q1,_,_,_,_,zci _ out1 _ g false k [] [a,b] (by simp) (by omega),fun _=>⟨rfl,rfl,rfl,rfl,rfl⟩,fun hf=>absurd rfl hf⟩,fun hf=>absurd rfl hf⟩,fun hf=>absurd hk hf⟩⟩
     rw[if_neg h2]
     have h2':¬ ((rank:Nat):Int)=2:=by omega
     have h3:=(ih L hL hT ts1 s1 w1 (out1++[nd k [] [a,b]]) (by simp;omega) d hd g).loop rank (out1.length:Nat) hr
     cases hl:zM n rank d (out1.length:Nat) ts1 (out1++[nd k [] [a,b]]) with
     | no=>rw[hl] at h3;simp only[OkE,List.length_cons] at h3 ⊢;omega
     | er e =>
      rw[hl] at h3
      obtain⟨c,x',g',z',q⟩:=h3
      exact⟨c,x',g',z',za5 _ _ _ _ _ _ _ _ _ _ ⟨t,_,zZ hs,fun _=>⟨t,_,zZ hs,k,true,hk2,fun _=>⟨hI,hI2,none,b,_,_,_,e1 ▸ q1,_,_,_,_,zci _ out1 _ g false k [] [a,b] (by simp) (by omega),fun hf=>absurd hf h2',fun _=>q⟩,fun hf=>absurd rfl hf⟩,fun hf=>absurd hk hf⟩⟩
     | ok c ts2 out2 =>
      rw[hl] at h3
      obtain⟨s2,w2,l2,o2,q2⟩:=h3
      simp only[List.length_append,List.length_cons,List.length_nil] at o2
      exact⟨s2,w2,by simp;omega,by simp;omega,za5 _ _ _ _ _ _ _ _ _ _ ⟨t,_,zZ hs,fun _=>⟨t,_,zZ hs,k,true,hk2,fun _=>⟨hI,hI2,none,b,_,_,_,e1 ▸ q1,_,_,_,_,zci _ out1 _ g false k [] [a,b] (by simp) (by omega),fun hf=>absurd hf h2',fun _=>q2⟩,fun hf=>absurd rfl hf⟩,fun hf=>absurd hk hf⟩⟩
  rw[if_neg hk]
  exact⟨hs,hw,by simp,by simp,za5 _ _ _ _ _ _ _ _ _ _ ⟨t,_,zZ hs,fun hf=>absurd hf hk,fun _=>⟨rfl,rfl,rfl,rfl,rfl⟩⟩⟩
theorem zzs:OkE L ts out d d g 1 (20*ts.length+2) (n+1) zc2 (unS (n+1) d ts out):=by
 simp only[unS]
 by_cases hi:isS [45] ts=true
 ·rw[if_pos hi]
  simp only[zW,if_pos hi]
  have hlen:=zae hi
  by_cases h64:64≤d
  ·rw[if_pos h64]
   obtain⟨x',g',z',q⟩:=zdE hs hw.ne hi h64 out g false
   exact⟨0,x',g',z',zbE _ _ _ _ _ _ _ _ ⟨true,_,zaR hs hi,fun _=>⟨some 6,x',g',z',q,rfl,rfl,rfl,rfl⟩,fun hf=>absurd rfl hf⟩⟩
  rw[if_neg h64]
  have q2:=zdv hs hL hi h64 out g false
  have h3:=(ih L hL hT ts.tail (zP hs) (hw.shift hi) out (by omega) (d+1) (by omega) g).un
  cases hb:unS n (d+1) ts.tail out with
  | no=>rw[hb] at h3;simp only[PR.bind,OkE] at h3 ⊢;omega
  | er e =>
   rw[hb] at h3
   obtain⟨b,x',g',z',q3⟩:=h3
   exact⟨0,x',g',z',zbE _ _ _ _ _ _ _ _ ⟨true,_,zaR hs hi,fun _=>⟨none,_,_,_,q2,some e,b,x',g',z',q3,rfl,rfl,rfl,rfl⟩,fun hf=>absurd rfl hf⟩⟩
  | ok b ts2 out2 =>
   rw[hb] at h3
   obtain⟨s2,w2,l2,o2,q3⟩:=h3
   simp only[PR.bind]
   refine⟨s2,w2,by omega,by simp;omega,zbE _ _ _ _ _ _ _ _ ⟨true,_,zaR hs hi,fun _=>⟨none,_,_,_,q2,none,b,_,_,_,q3,⟨by simp only[pe];omega,by simp only[pe];omega⟩,_,_,_,_,zci _ out2 _ g false 9 [] [b] (by simp) (by omega),rfl,rfl,?_,rfl,rfl⟩,fun hf=>absurd rfl hf⟩⟩
   simp only[pe]
   congr 1
   omega
 rw[if_neg hi]
 have hi0:isS [45] ts=false:=by simpa using hi
 clear hi
 by_cases hi:isS [33] ts=true
 ·rw[if_pos hi]
  simp only[zW,if_pos hi]
  have hlen:=zae hi
  by_cases h64:64≤d
  ·rw[if_pos h64]
   obtain⟨x',g',z',q⟩:=zdE hs hw.ne hi h64 out g false
   exact⟨0,x',g',z',zbE _ _ _ _ _ _ _ _ ⟨false,_,zbn hs hw.ne hi0,fun hf=>(by cases hf),fun _=>⟨true,_,zaR hs hi,fun _=>⟨some 6,x',g',z',q,rfl,rfl,rfl,rfl⟩,fun hf=>absurd rfl hf⟩⟩⟩
  rw[if_neg h64]
  have q2:=zdv hs hL hi h64 out g false
  have h3:=(ih L hL hT ts.tail (zP hs) (hw.shift hi) out (by omega) (d+1) (by omega) g).un
  cases hb:unS n (d+1) ts.tail out with
  | no=>rw[hb] at h3;simp only[PR.bind,OkE] at h3 ⊢;omega
  | er e =>
   rw[hb] at h3
   obtain⟨b,x',g',z',q3⟩:=h3
   exact⟨0,x',g',z',zbE _ _ _ _ _ _ _ _ ⟨false,_,zbn hs hw.ne hi0,fun hf=>(by cases hf),fun _=>⟨true,_,zaR hs hi,fun _=>⟨none,_,_,_,q2,some e,b,x',g',z',q3,rfl,rfl,rfl,rfl⟩,fun hf=>absurd rfl hf⟩⟩⟩
  | ok b ts2 out2 =>
   rw[hb] at h3
   obtain⟨s2,w2,l2,o2,q3⟩:=h3
   simp only[PR.bind]
   refine⟨s2,w2,by omega,by simp;omega,zbE _ _ _ _ _ _ _ _ ⟨false,_,zbn hs hw.ne hi0,fun hf=>(by cases hf),fun _=>⟨true,_,zaR hs hi,fun _=>⟨none,_,_,_,q2,none,b,_,_,_,q3,⟨by simp only[pe];omega,by simp only[pe];omega⟩,_,_,_,_,zci _ out2 _ g false 8 [] [b] (by simp) (by omega),rfl,rfl,?_,rfl,rfl⟩,fun hf=>absurd rfl hf⟩⟩⟩
   simp only[pe]
   congr 1
   omega
 rw[if_neg hi]
 have h1:=(ih L hL hT ts hs hw out ho d hd g).post
 cases hc:zay n d ts out with
 | no=>rw[hc] at h1;simp only[OkE] at h1 ⊢;omega
 | er e =>
  rw[hc] at h1
  obtain⟨a,x',g',z',q⟩:=h1
  exact⟨a,x',g',z',zbE _ _ _ _ _ _ _ _ ⟨false,_,zbn hs hw.ne hi0,fun hf=>(by cases hf),fun _=>⟨false,_,zbn hs hw.ne (by simpa using hi),fun hf=>(by cases hf),fun _=>⟨some e,a,x',g',z',q,rfl,rfl,rfl,rfl⟩⟩⟩⟩
 | ok a ts1 out1 =>
  rw[hc] at h1
  obtain⟨s1,w1,l1,o1,q1⟩:=h1
  exact⟨s1,w1,l1,o1,zbE _ _ _ _ _ _ _ _ ⟨false,_,zbn hs hw.ne hi0,fun hf=>(by cases hf),fun _=>⟨false,_,zbn hs hw.ne (by simpa using hi),fun hf=>(by cases hf),fun _=>⟨none,a,_,_,_,q1,rfl,rfl,rfl,rfl,rfl⟩⟩⟩⟩
theorem zwO:OkE L ts out d d g 1 (20*ts.length+1) (n+1) zhG (zay (n+1) d ts out):=by
 simp only[zay]
 have h1:=(ih L hL hT ts hs hw out ho d hd g).prim
 cases hc:zx n d ts out with
 | no=>rw[hc] at h1;simp only[PR.bind,OkE] at h1 ⊢;omega
 | er e =>
  rw[hc] at h1
  obtain⟨a,x',g',z',q⟩:=h1
  exact⟨a,x',g',z',zg8 _ _ _ _ _ _ _ _ ⟨some e,a,x',g',z',q,rfl,rfl,rfl,rfl⟩⟩
 | ok a ts1 out1 =>
  rw[hc] at h1
  obtain⟨s1,w1,l1,o1,q1⟩:=h1
  simp only[PR.bind]
  have h2:=(ih L hL hT ts1 s1 w1 out1 (by omega) d hd g).postl a
  cases hl:zad n d a ts1 out1 with
  | no=>rw[hl] at h2;simp only[OkE] at h2 ⊢;omega
  | er e =>
   rw[hl] at h2
   obtain⟨b,x',g',z',q⟩:=h2
   exact⟨b,x',g',z',zg8 _ _ _ _ _ _ _ _ ⟨none,a,_,_,_,q1,q⟩⟩
  | ok b ts2 out2 =>
   rw[hl] at h2
   obtain⟨s2,w2,l2,o2,q2⟩:=h2
   exact⟨s2,w2,by omega,by omega,zg8 _ _ _ _ _ _ _ _ ⟨none,a,_,_,_,q1,q2⟩⟩
theorem zuU (a:Int):OkE L ts out d d g 0 (20*ts.length) (n+1) (zdX a) (zad (n+1) d a ts out):=by
 simp only[zad]
 by_cases hi:isS [91] ts=true
 ·rw[if_pos hi]
  simp only[zW,if_pos hi]
  have hlen:=zae hi
  by_cases h64:64≤d
  ·rw[if_pos h64]
   obtain⟨x',g',z',q⟩:=zdE hs hw.ne hi h64 out g false
   exact⟨0,x',g',z',za4 _ _ _ _ _ _ _ _ _ ⟨true,_,zaR hs hi,fun _=>⟨some 6,x',g',z',q,rfl,rfl,rfl,rfl⟩,fun hf=>absurd rfl hf⟩⟩
  rw[if_neg h64]
  have q2:=zdv hs hL hi h64 out g false
  have h3:=(ih L hL hT ts.tail (zP hs) (hw.shift hi) out (by omega) (d+1) (by omega) g).expr
  cases hb:zA n (d+1) ts.tail out with
  | no=>rw[hb] at h3;simp only[PR.bind,OkE] at h3 ⊢;omega
  | er e =>
   rw[hb] at h3
   obtain⟨b,x',g',z',q3⟩:=h3
   exact⟨0,x',g',z',za4 _ _ _ _ _ _ _ _ _ ⟨true,_,zaR hs hi,fun _=>⟨none,_,_,_,q2,some e,b,x',g',z',q3,rfl,rfl,rfl,rfl⟩,fun hf=>absurd rfl hf⟩⟩
  | ok b ts2 out2 =>
   rw[hb] at h3
   obtain⟨s2,w2,l2,o2,q3⟩:=h3
   simp only[PR.bind,zal]
   by_cases hi2:isS [93] ts2=true
   ·rw[if_pos hi2]
    have hlen2:=zae hi2
    have q4:=zhJ s2 hL hi2 (d:=d) (by omega) out2 g false
    have h4:=(ih L hL hT ts2.tail (zP s2) (w2.shift hi2) (out2++[nd 7 [] [a,b]]) (by simp;omega) d hd g).postl (out2.length:Nat)
    cases hl:zad n d (out2.length:Nat) ts2.tail (out2++[nd 7 [] [a,b]]) with
    | no=>rw[hl] at h4;simp only[OkE] at h4 ⊢;omega
    | er e =>
     rw[hl] at h4
     obtain⟨c,x',g',z',q⟩:=h4
     exact⟨c,x',g',z',za4 _ _ _ _ _ _ _ _ _ ⟨true,_,zaR hs hi,fun _=>⟨none,_,_,_,q2,none,b,_,_,_,q3,none,_,_,_,q4,_,_,_,_,zci _ out2 _ g false 7 [] [a,b] (by simp) (by omega),q⟩,fun hf=>absurd rfl hf⟩⟩
    | ok c ts3 out3 =>
     rw[hl] at h4
     obtain⟨s3,w3,l3,o3,q⟩:=h4
     simp only[List.length_append,List.length_cons,List.length_nil] at o3
     exact⟨s3,w3,by omega,by omega,za4 _ _ _ _ _ _ _ _ _ ⟨true,_,zaR hs hi,fun _=>⟨none,_,_,_,q2,none,b,_,_,_,q3,none,_,_,_,q4,_,_,_,_,zci _ out2 _ g false 7 [] [a,b] (by simp) (by omega),q⟩,fun hf=>absurd rfl hf⟩⟩
   rw[if_neg hi2]
   obtain⟨x',g',z',q⟩:=zkC s2 w2.ne (by simpa using hi2) (d+1) out2 g false
   exact⟨0,x',g',z',za4 _ _ _ _ _ _ _ _ _ ⟨true,_,zaR hs hi,fun _=>⟨none,_,_,_,q2,none,b,_,_,_,q3,some 5,x',g',z',q,rfl,rfl,rfl,rfl⟩,fun hf=>absurd rfl hf⟩⟩
 rw[if_neg hi]
 exact⟨hs,hw,by omega,by omega,za4 _ _ _ _ _ _ _ _ _ ⟨false,_,zbn hs hw.ne (by simpa using hi),fun hf=>(by cases hf),fun _=>⟨rfl,rfl,rfl,rfl,rfl⟩⟩⟩
theorem zw0 (e:List UInt8) (h65:d+1≤64):OkE L ts out (d+1) d g 1 (20*ts.length+10) (n+1) (fun x g z=>zeT x g z e) (zam (n+1) (d+1) e ts out):=by
 simp only[zam]
 by_cases hi:isS e ts=true
 ·rw[if_pos hi]
  have hlen:=zae hi
  exact⟨zP hs,hw.shift hi,by omega,by omega,zfa _ _ _ _ _ _ _ _ _ ⟨true,_,zaR hs hi,fun _=>⟨none,_,_,_,zhJ hs hL hi (d:=d) (by omega) out g false,rfl,rfl,rfl,rfl,rfl⟩,fun hf=>absurd rfl hf⟩⟩
 rw[if_neg hi]
 have hi0:isS e ts=false:=by simpa using hi
 have h1:=(ih L hL hT ts hs hw out ho (d+1) h65 g).expr
 cases hc:zA n (d+1) ts out with
 | no=>rw[hc] at h1;simp only[PR.bind,OkE] at h1 ⊢;omega
 | er e' =>
  rw[hc] at h1
  obtain⟨a,x',g',z',q⟩:=h1
  exact⟨[],x',g',z',zfa _ _ _ _ _ _ _ _ _ ⟨false,_,zbn hs hw.ne hi0,fun hf=>(by cases hf),fun _=>⟨some e',a,x',g',z',q,rfl,rfl,rfl,rfl⟩⟩⟩
 | ok a ts1 out1 =>
  rw[hc] at h1
  obtain⟨s1,w1,l1,o1,q1⟩:=h1
  simp only[PR.bind]
  have h2:=(ih L hL hT ts1 s1 w1 out1 (by omega) d hd g).manyl e [a] (by have:=zet s1;simp;omega) h65
  cases hl:zaG n (d+1) e [a] ts1 out1 with
  | no=>rw[hl] at h2;simp only[OkE] at h2 ⊢;omega
  | er e' =>
   rw[hl] at h2
   obtain⟨b,x',g',z',q⟩:=h2
   exact⟨b,x',g',z',zfa _ _ _ _ _ _ _ _ _ ⟨false,_,zbn hs hw.ne hi0,fun hf=>(by cases hf),fun _=>⟨none,a,_,_,_,q1,q⟩⟩⟩
  | ok b ts2 out2 =>
   rw[hl] at h2
   obtain⟨s2,w2,l2,o2,q2⟩:=h2
   exact⟨s2,w2,by omega,by omega,zfa _ _ _ _ _ _ _ _ _ ⟨false,_,zbn hs hw.ne hi0,fun hf=>(by cases hf),fun _=>⟨none,a,_,_,_,q1,q2⟩⟩⟩
theorem ztS (e:List UInt8) (l:List Int) (hl:l.length+ts.length≤1000000) (h65:d+1≤64):OkE L ts out (d+1) d g 1 (20*ts.length) (n+1) (zdW e l) (zaG (n+1) (d+1) e l ts out):=by
 simp only[zaG]
 by_cases hi:isS [44] ts=true
 ·rw[if_pos hi]
  have hlen:=zae hi
  have h1:=(ih L hL hT ts.tail (zP hs) (hw.shift hi) out (by omega) (d+1) h65 g).expr
  cases hc:zA n (d+1) ts.tail out with
  | no=>rw[hc] at h1;simp only[PR.bind,OkE] at h1 ⊢;omega
  | er e' =>
   rw[hc] at h1
   obtain⟨a,x',g',z',q⟩:=h1
   exact⟨[],x',g',z',zbz _ _ _ _ _ _ _ _ _ _ ⟨true,_,zg0 hs hL hi,fun _=>⟨some e',a,x',g',z',q,rfl,rfl,rfl,rfl⟩,fun hf=>absurd rfl hf⟩⟩
  | ok a ts1 out1 =>
   rw[hc] at h1
   obtain⟨s1,w1,l1,o1,q1⟩:=h1
   simp only[PR.bind]
   have h2:=(ih L hL hT ts1 s1 w1 out1 (by omega) d hd g).manyl e (l++[a]) (by simp;omega) h65
   have hb:bigRow (l.length+1) 8:=by simp only[bigRow];omega
   cases hl2:zaG n (d+1) e (l++[a]) ts1 out1 with
   | no=>rw[hl2] at h2;simp only[OkE] at h2 ⊢;omega
   | er e' =>
    rw[hl2] at h2
    obtain⟨b,x',g',z',q⟩:=h2
    exact⟨b,x',g',z',zbz _ _ _ _ _ _ _ _ _ _ ⟨true,_,zg0 hs hL hi,fun _=>⟨none,a,_,_,_,q1,hb,q⟩,fun hf=>absurd rfl hf⟩⟩
   | ok b ts2 out2 =>
    rw[hl2] at h2
    obtain⟨s2,w2,l2,o2,q2⟩:=h2
    exact⟨s2,w2,by omega,by omega,zbz _ _ _ _ _ _ _ _ _ _ ⟨true,_,zg0 hs hL hi,fun _=>⟨none,a,_,_,_,q1,hb,q2⟩,fun hf=>absurd rfl hf⟩⟩
 rw[if_neg hi]
 have hi0:isS [44] ts=false:=by simpa using hi
 simp only[zal]
 by_cases hi2:isS e ts=true
 ·rw[if_pos hi2]
  have hlen:=zae hi2
  exact⟨zP hs,hw.shift hi2,by omega,by omega,zbz _ _ _ _ _ _ _ _ _ _ ⟨false,_,zka hs hw.ne hi0,fun hf=>(by cases hf),fun _=>⟨none,_,_,_,zhJ hs hL hi2 (d:=d) (by omega) out g false,rfl,rfl,rfl,rfl,rfl⟩⟩⟩
 rw[if_neg hi2]
 obtain⟨x',g',z',q⟩:=zkC hs hw.ne (by simpa using hi2) (d+1) out g false
 exact⟨[],x',g',z',zbz _ _ _ _ _ _ _ _ _ _ ⟨false,_,zka hs hw.ne hi0,fun hf=>(by cases hf),fun _=>⟨some 5,x',g',z',q,rfl,rfl,rfl,rfl⟩⟩⟩
theorem zuJ (e:List UInt8) (h65:d+1≤64):∀ b ts2 out2,zam (n+1) (d+1) e ts out=.ok b ts2 out2→b.length≤ts.length:=by
 intro b ts2 out2 hb
 simp only[zam] at hb
 by_cases hi:isS e ts=true
 ·rw[if_pos hi] at hb
  cases hb
  simp
 rw[if_neg hi] at hb
 have h1:=(ih L hL hT ts hs hw out ho (d+1) h65 0).expr
 cases hc:zA n (d+1) ts out with
 | no=>rw[hc] at hb;cases hb
 | er e'=>rw[hc] at hb;cases hb
 | ok a ts1 out1 =>
  rw[hc] at hb h1
  obtain⟨s1,w1,l1,o1,_⟩:=h1
  have:=(ih L hL hT ts1 s1 w1 out1 (by omega) d hd 0).manyln e [a] h65 b ts2 out2 hb
  simp at this
  omega
theorem zsF (e:List UInt8) (l:List Int) (h65:d+1≤64):∀ b ts2 out2,zaG (n+1) (d+1) e l ts out=.ok b ts2 out2→b.length≤l.length+ts.length:=by
 intro b ts2 out2 hb
 simp only[zaG] at hb
 by_cases hi:isS [44] ts=true
 ·rw[if_pos hi] at hb
  have hlen:=zae hi
  have h1:=(ih L hL hT ts.tail (zP hs) (hw.shift hi) out (by omega) (d+1) h65 0).expr
  cases hc:zA n (d+1) ts.tail out with
  | no=>rw[hc] at hb;cases hb
  | er e'=>rw[hc] at hb;cases hb
  | ok a ts1 out1 =>
   rw[hc] at hb h1
   obtain⟨s1,w1,l1,o1,_⟩:=h1
   have:=(ih L hL hT ts1 s1 w1 out1 (by omega) d hd 0).manyln e (l++[a]) h65 b ts2 out2 hb
   simp at this
   omega
 rw[if_neg hi] at hb
 simp only[zal] at hb
 split at hb
 ·cases hb;omega
 cases hb
omit hs hw ho in
theorem zvW {t:Token} {ts:List Token} (hs:(t::ts) <:+ L) (hw:W (t::ts)) (ho:out.length+(t::ts).length≤1000000) (hk:t.Kind=3):OkE L (t::ts) out d d g 1 (20*(t::ts).length) (n+1) zjm (zx (n+1) d (t::ts) out):=by
 have hk0:t.Kind≠0:=by rw[hk];decide
 have hs1:=zdA hs
 have hw1:=hw.tail hk0
 have q0:=zpm hs hL hk
 have hT1:t.Text.length+1≤zd:=by have:=hT t (hs.mem (by simp));simp only[zd];omega
 simp only[List.length_cons] at ho
 simp only[zx,if_pos hk]
 by_cases h1:t.Text=[116,114,117,101]
 ·rw[if_pos h1]
  exact⟨hs1,hw1,by simp,by simp;omega,zbC _ _ _ _ _ _ _ _ ⟨none,_,_,q0,fun _=>⟨_,_,_,_,zqN _ out _ g 3 1 (by omega),rfl,rfl,rfl,rfl,rfl⟩,fun hf=>absurd h1 hf⟩⟩
 rw[if_neg h1]
 by_cases h2:t.Text=[102,97,108,115,101]
 ·rw[if_pos h2]
  exact⟨hs1,hw1,by simp,by simp;omega,zbC _ _ _ _ _ _ _ _ ⟨none,_,_,q0,fun hf=>absurd hf h1,fun _=>⟨fun _=>⟨_,_,_,_,zqN _ out _ g 3 0 (by omega),rfl,rfl,rfl,rfl,rfl⟩,fun hf=>absurd h2 hf⟩⟩⟩
 rw[if_neg h2]
 by_cases hi:isS [46] ts=true
 ·rw[if_pos hi]
  have hlen:=zae hi
  have hs2:=zP hs1
  have hw2:=hw1.shift hi
  have q1:=zg0 hs1 hL hi
  cases he:ts.tail with
  | nil=>rw[he] at hw2;exact hw2.elim
  | cons u us =>
   rw[he] at hs2 hw2 q1 hlen
   simp only[List.length_cons] at hlen
   have hT2:t.Text.length+1+u.Text.length≤zd:=by have:=hT t (hs.mem (by simp));have:=hT u (hs2.mem (by simp));simp only[zd];omega
   by_cases hu:u.Kind=3
   ·simp only[if_pos hu]
    have hu0:u.Kind≠0:=by rw[hu];decide
    exact⟨zdA hs2,hw2.tail hu0,by simp;omega,by simp;omega,zbC _ _ _ _ _ _ _ _ ⟨none,_,_,q0,fun hf=>absurd hf h1,fun _=>⟨fun hf=>absurd hf h2,fun _=>⟨true,_,q1,fun _=>⟨hT1,none,_,_,zpm hs2 hL hu,hT2,_,_,_,_,zci _ out _ g false 4 _ [] (by simp) (by omega),rfl,rfl,rfl,rfl,rfl⟩,fun hf=>absurd rfl hf⟩⟩⟩⟩
   simp only[if_neg hu]
   exact⟨0,_,_,_,zbC _ _ _ _ _ _ _ _ ⟨none,_,_,q0,fun hf=>absurd hf h1,fun _=>⟨fun hf=>absurd hf h2,fun _=>⟨true,_,q1,fun _=>⟨hT1,some 5,[],_,zwZ hs2 hu [],rfl,rfl,rfl,rfl⟩,fun hf=>absurd rfl hf⟩⟩⟩⟩
 rw[if_neg hi]
 have hi0:isS [46] ts=false:=by simpa using hi
 have q1:=zka hs1 hw1.ne hi0
 simp only[zW]
 by_cases hp:isS [40] ts=true
 ·rw[if_pos hp]
  have hlen:=zae hp
  by_cases h64:64≤d
  ·rw[if_pos h64]
   obtain⟨x',g',z',q⟩:=zdE hs1 hw1.ne hp h64 out g false
   exact⟨0,x',g',z',zbC _ _ _ _ _ _ _ _ ⟨none,_,_,q0,fun hf=>absurd hf h1,fun _=>⟨fun hf=>absurd hf h2,fun _=>⟨false,_,q1,fun hf=>(by cases hf),fun _=>⟨some 6,x',g',z',q,rfl,rfl,rfl,rfl⟩⟩⟩⟩⟩
  rw[if_neg h64]
  have q2:=zdv hs1 hL hp h64 out g false
  have h3:=(ih L hL hT ts.tail (zP hs1) (hw1.shift hp) out (by omega) d hd g).many [41] (by omega)
  cases hb:zam n (d+1) [41] ts.tail out with
  | no=>rw[hb] at h3;simp only[PR.bind,OkE,List.length_cons] at h3 ⊢;omega
  | er e =>
   rw[hb] at h3
   obtain⟨b,x',g',z',q3⟩:=h3
   exact⟨0,x',g',z',zbC _ _ _ _ _ _ _ _ ⟨none,_,_,q0,fun hf=>absurd hf h1,fun _=>⟨fun hf=>absurd hf h2,fun _=>⟨false,_,q1,fun hf=>(by cases hf),fun _=>⟨none,_,_,_,q2,some e,b,x',g',z',q3,rfl,rfl,rfl,rfl⟩⟩⟩⟩⟩
  | ok b ts2 out2 =>
   rw[hb] at h3
   obtain⟨s2,w2,l2,o2,q3⟩:=h3
   simp only[PR.bind]
   have hbl:b.length≤1000000:=by
    have:=(ih L hL hT ts.tail (zP hs1) (hw1.shift hp) out (by omega) d hd g).manyn [41] (by omega) b ts2 out2 hb
    omega
   exact⟨s2,w2,by simp;omega,by simp;omega,zbC _ _ _ _ _ _ _ _ ⟨none,_,_,q0,fun hf=>absurd hf h1,fun _=>⟨fun hf=>absurd hf h2,fun _=>⟨false,_,q1,fun hf=>(by cases hf),fun _=>⟨none,_,_,_,q2,none,b,_,_,_,q3,_,_,_,_,zci _ out2 _ g false 5 t.Text b hbl (by omega),rfl,rfl,rfl,rfl,rfl⟩⟩⟩⟩⟩
 rw[if_neg hp]
 obtain⟨x',g',z',q⟩:=zpe hs1 hw1.ne (by simpa using hp) d out g false
 exact⟨0,x',g',z',zbC _ _ _ _ _ _ _ _ ⟨none,_,_,q0,fun hf=>absurd hf h1,fun _=>⟨fun hf=>absurd hf h2,fun _=>⟨false,_,q1,fun hf=>(by cases hf),fun _=>⟨some 5,x',g',z',q,rfl,rfl,rfl,rfl⟩⟩⟩⟩⟩
theorem zwB:OkE L ts out d d g 1 (20*ts.length) (n+1) zhc (zx (n+1) d ts out):=by
 cases ts with
 | nil=>exact hw.elim
 | cons t ts =>
  by_cases hk:t.Kind=3
  ·have h:=zvW ih hL hT hd g hs hw ho hk
   cases hc:zx (n+1) d (t::ts) out with
   | no=>rw[hc] at h;exact h
   | er e =>
    rw[hc] at h
    obtain⟨a,x',g',z',q⟩:=h
    exact⟨a,x',g',z',zaE _ _ _ _ _ _ _ _ ⟨t,_,zZ hs,fun _=>⟨some e,a,x',g',z',q,rfl,rfl,rfl,rfl⟩,fun hf=>absurd hk hf⟩⟩
   | ok a ts1 out1 =>
    rw[hc] at h
    obtain⟨s1,w1,l1,o1,q⟩:=h
    exact⟨s1,w1,l1,o1,zaE _ _ _ _ _ _ _ _ ⟨t,_,zZ hs,fun _=>⟨none,a,_,_,_,q,rfl,rfl,rfl,rfl,rfl⟩,fun hf=>absurd hk hf⟩⟩
  have hI:I64 ((pt L (t::ts)).pos+1):=by simp only[pt,I64];omega
  have ho1:out.length≤1000000:=by omega
  have hlc:(t::ts).length=ts.length+1:=rfl
  simp only[zx,if_neg hk]
  by_cases h1:t.Kind=1
  ·rw[if_pos h1]
   have hk0:t.Kind≠0:=by rw[h1];decide
   refine⟨zdA hs,hw.tail hk0,by simp,by simp;omega,zaE _ _ _ _ _ _ _ _ ⟨t,_,zZ hs,fun hf=>absurd hf hk,fun _=>⟨fun _=>⟨hI,_,_,_,_,zqN _ out _ g 1 t.Num ho1,rfl,rfl,?_,rfl,rfl⟩,fun hf=>absurd h1 hf⟩⟩⟩
   rw[zfL hs]
   rfl
  rw[if_neg h1]
  by_cases h2:t.Kind=2
  ·rw[if_pos h2]
   have hk0:t.Kind≠0:=by rw[h2];decide
   refine⟨zdA hs,hw.tail hk0,by simp,by simp;omega,zaE _ _ _ _ _ _ _ _ ⟨t,_,zZ hs,fun hf=>absurd hf hk,fun _=>⟨fun hf=>absurd hf h1,fun _=>⟨fun _=>⟨hI,_,_,_,_,zci _ out _ g false 2 [] [] (by simp) ho1,by omega,by simp,rfl,nd 2 [] [],by simp,rfl,rfl,?_,rfl,rfl⟩,fun hf=>absurd h2 hf⟩⟩⟩⟩
   rw[zfL hs]
   simp[pe,nd]
  rw[if_neg h2]
  by_cases hi:isS [91] (t::ts)=true
  ·rw[if_pos hi]
   simp only[zW,if_pos hi]
   have hlen:=zae hi
   by_cases h64:64≤d
   ·rw[if_pos h64]
    obtain⟨x',g',z',q⟩:=zdE hs hw.ne hi h64 out g false
    exact⟨0,x',g',z',zaE _ _ _ _ _ _ _ _ ⟨t,_,zZ hs,fun hf=>absurd hf hk,fun _=>⟨fun hf=>absurd hf h1,fun _=>⟨fun hf=>absurd hf h2,fun _=>⟨true,_,zaR hs hi,fun _=>⟨some 6,x',g',z',q,rfl,rfl,rfl,rfl⟩,fun hf=>absurd rfl hf⟩⟩⟩⟩⟩
   rw[if_neg h64]
   have q2:=zdv hs hL hi h64 out g false
   have h3:=(ih L hL hT (t::ts).tail (zP hs) (hw.shift hi) out (by omega) d hd g).many [93] (by omega)
   cases hb:zam n (d+1) [93] (t::ts).tail out with
   | no=>rw[hb] at h3;simp only[PR.bind,OkE] at h3 ⊢;omega
   | er e =>
    rw[hb] at h3
    obtain⟨b,x',g',z',q3⟩:=h3
    exact⟨0,x',g',z',zaE _ _ _ _ _ _ _ _ ⟨t,_,zZ hs,fun hf=>absurd hf hk,fun _=>⟨fun hf=>absurd hf h1,fun _=>⟨fun hf=>absurd hf h2,fun _=>⟨true,_,zaR hs hi,fun _=>⟨none,_,_,_,q2,some e,b,x',g',z',q3,rfl,rfl,rfl,rfl⟩,fun hf=>absurd rfl hf⟩⟩⟩⟩⟩
   | ok b ts2 out2 =>
    have hbl:b.length≤1000000:=by
     have:=(ih L hL hT (t::ts).tail (zP hs) (hw.shift hi) out (by omega) d hd 0).manyn [93] (by omega) b ts2 out2 hb
     omega
    rw[hb] at h3
    obtain⟨s2,w2,l2,o2,q3⟩:=h3
    simp only[PR.bind]
    exact⟨s2,w2,by omega,by simp only[List.length_append,List.length_cons,List.length_nil] at *;omega,zaE _ _ _ _ _ _ _ _ ⟨t,_,zZ hs,fun hf=>absurd hf hk,fun _=>⟨fun hf=>absurd hf h1,fun _=>⟨fun hf=>absurd hf h2,fun _=>⟨true,_,zaR hs hi,fun _=>⟨none,_,_,_,q2,none,b,_,_,_,q3,_,_,_,_,zci _ out2 _ g false 6 [] b hbl (by omega),rfl,rfl,rfl,rfl,rfl⟩,fun hf=>absurd rfl hf⟩⟩⟩⟩⟩
  rw[if_neg hi]
  have hi0:isS [91] (t::ts)=false:=by simpa using hi
  simp only[zW]
  by_cases hp:isS [40] (t::ts)=true
  ·rw[if_pos hp]
   have hlen:=zae hp
   by_cases h64:64≤d
   ·rw[if_pos h64]
    obtain⟨x',g',z',q⟩:=zdE hs hw.ne hp h64 out g false
    exact⟨0,x',g',z',zaE _ _ _ _ _ _ _ _ ⟨t,_,zZ hs,fun hf=>absurd hf hk,fun _=>⟨fun hf=>absurd hf h1,fun _=>⟨fun hf=>absurd hf h2,fun _=>⟨false,_,zbn hs hw.ne hi0,fun hf=>(by cases hf),fun _=>⟨some 6,x',g',z',q,rfl,rfl,rfl,rfl⟩⟩⟩⟩⟩⟩
   rw[if_neg h64]
   have q2:=zdv hs hL hp h64 out g false
   have h3:=(ih L hL hT (t::ts).tail (zP hs) (hw.shift hp) out (by omega) (d+1) (by omega) g).expr
   cases hb:zA n (d+1) (t::ts).tail out with
   | no=>rw[hb] at h3;simp only[PR.bind,OkE] at h3 ⊢;omega
   | er e =>
    rw[hb] at h3
    obtain⟨b,x',g',z',q3⟩:=h3
    exact⟨0,x',g',z',zaE _ _ _ _ _ _ _ _ ⟨t,_,zZ hs,fun hf=>absurd hf hk,fun _=>⟨fun hf=>absurd hf h1,fun _=>⟨fun hf=>absurd hf h2,fun _=>⟨false,_,zbn hs hw.ne hi0,fun hf=>(by cases hf),fun _=>⟨none,_,_,_,q2,some e,b,x',g',z',q3,rfl,rfl,rfl,rfl⟩⟩⟩⟩⟩⟩
   | ok b ts2 out2 =>
    rw[hb] at h3
    obtain⟨s2,w2,l2,o2,q3⟩:=h3
    simp only[PR.bind,zal]
    by_cases hi2:isS [41] ts2=true
    ·rw[if_pos hi2]
     have hlen2:=zae hi2
     exact⟨zP s2,w2.shift hi2,by omega,by omega,zaE _ _ _ _ _ _ _ _ ⟨t,_,zZ hs,fun hf=>absurd hf hk,fun _=>⟨fun hf=>absurd hf h1,fun _=>⟨fun hf=>absurd hf h2,fun _=>⟨false,_,zbn hs hw.ne hi0,fun hf=>(by cases hf),fun _=>⟨none,_,_,_,q2,none,b,_,_,_,q3,none,_,_,_,zhJ s2 hL hi2 (d:=d) (by omega) out2 g false,rfl,rfl,rfl,rfl,rfl⟩⟩⟩⟩⟩⟩
    rw[if_neg hi2]
    obtain⟨x',g',z',q⟩:=zkC s2 w2.ne (by simpa using hi2) (d+1) out2 g false
    exact⟨0,x',g',z',zaE _ _ _ _ _ _ _ _ ⟨t,_,zZ hs,fun hf=>absurd hf hk,fun _=>⟨fun hf=>absurd hf h1,fun _=>⟨fun hf=>absurd hf h2,fun _=>⟨false,_,zbn hs hw.ne hi0,fun hf=>(by cases hf),fun _=>⟨none,_,_,_,q2,none,b,_,_,_,q3,some 5,x',g',z',q,rfl,rfl,rfl,rfl⟩⟩⟩⟩⟩⟩
  rw[if_neg hp]
  obtain⟨x',g',z',q⟩:=zpe hs hw.ne (by simpa using hp) d out g false
  exact⟨0,x',g',z',zaE _ _ _ _ _ _ _ _ ⟨t,_,zZ hs,fun hf=>absurd hf hk,fun _=>⟨fun hf=>absurd hf h1,fun _=>⟨fun hf=>absurd hf h2,fun _=>⟨false,_,zbn hs hw.ne hi0,fun hf=>(by cases hf),fun _=>⟨some 5,x',g',z',q,rfl,rfl,rfl,rfl⟩⟩⟩⟩⟩⟩
end
theorem zrW:∀ n,SpA n
 | 0=>zwa
 | n+1=>fun L hL hT ts hs hw out ho d hd g =>
  have ih:=zrW n
  ⟨zv2 ih hL hT hs hw ho hd g,ztK ih hL hT hs hw ho hd g,zwF ih hL hT hs hw ho hd g,zzs ih hL hT hs hw ho hd g,zwO ih hL hT hs hw ho hd g,zuU ih hL hT hs hw ho hd g,zw0 ih hL hT hs hw ho hd g,ztS ih hL hT hs hw ho hd g,zwB ih hL hT hs hw ho hd g,zuJ ih hL hT hs hw ho hd,zsF ih hL hT hs hw ho hd⟩
theorem zy1:SP 40=some (.code sc_Q40):=zb rfl Tryz.func40 comp_Q40
theorem ziG (b:PBlocks) (b_g2:Nat) (b_z2:Bool) (c0_:PV) (o:Option Int) (b':PBlocks) (b'_g2:Nat) (b'_z2:Bool) (c0_':PV) (T :
  ∃ (o2:Option Int) (r1:List Node) (y3:PExprs) (g4:Nat) (z5:Bool),(zjo b.exprs b_g2 b_z2 o2 r1 y3 g4 z5) ∧
 (match o2 with
 | none=>(∃ (r7:Token) (y8:PTokens),(zbv y3.tokens r7 y8) ∧
  ((r7.Kind=0) →
   none=o∧(PBlocks.mk (PExprs.mk y8 y3.out y3.deep))=b'∧g4=b'_g2∧z5=b'_z2∧(.list 5 (r1.map eNode) false)=c0_') ∧
  (¬ (r7.Kind=0) →
   ∃ (o9:Option Int) (y10:PTokens),(zdM y8 5 o9 y10) ∧
   (match o9 with
   | none=>(False )
   | some e11=>(some e11=o∧(PBlocks.mk (PExprs.mk y10 y3.out y3.deep))=b'∧g4=b'_g2∧z5=b'_z2∧(.list 5 (r1.map eNode) false)=c0_'))))
 | some e6=>(some e6=o∧(PBlocks.mk y3)=b'∧g4=b'_g2∧z5=b'_z2∧c0_=c0_'))):zjV b b_g2 b_z2 c0_ o b' b'_g2 b'_z2 c0_':=by
 intro S n0 t0 n1 t1 H0 H1 Hn
 obtain⟨hb0,ha0⟩:=H0
 have hne:=zxu Hn
 obtain⟨w0,hB0⟩:=zh hb0
 have hn0:=zc hB0
 have hb1:=H1
 obtain⟨w1,hB1⟩:=zh hb1
 have hn1:=zc hB1
 rw[za zy1 _ _ rfl]
 have F:=zzg
 obtain⟨o2,r1,y3,g4,z5,q1,T⟩:=T
 simp only[zjo,lF] at q1
 replace F:=aa ha0<|aa hne<|aa hB0<|aa hn0<|aa hB1<|aa hn1<|aa q1<|F
 cases o2 with
 | none =>
   dsimp only at T
   obtain⟨r7,y8,q2,T⟩:=T
   simp only[zbv,lF] at q2
   replace F:=aa q2<|F
   by_cases c3:r7.Kind=0
   ·replace T:=T.1 c3
    obtain⟨rfl,rfl,rfl,rfl,rfl⟩:=T
    exact fi (aa (eq_true c3)<|F)
   replace T:=T.2 c3
   obtain⟨o9,y10,q4,T⟩:=T
   simp only[zdM,lF] at q4
   replace F:=aa (eq_false c3)<|aa q4<|F
   cases o9 with
   | none=>exact False.elim T
   | some e11 =>
     dsimp only at T
     obtain⟨rfl,rfl,rfl,rfl,rfl⟩:=T
     exact fi F
 | some e6 =>
   dsimp only at T
   obtain⟨rfl,rfl,rfl,rfl,rfl⟩:=T
   exact fi F
theorem zop {r:zb7} {ops post:Ac→EO} {ac:Ac}:zcJ r ops post (.nor ac)=zfw r (ac.e r.t0=.ptr 0 r.t0 0) post (ops (ac.put (some r.d) .junk)):=rfl
theorem znt {r:zb7} {ops post:Ac→EO} {ac:Ac}:zcJ r ops post (.ret ac)=retOf r.res ac:=rfl
theorem znV {r:zb7} {b:Prop} {post:Ac→EO} {ac:Ac}:zfw r b post (.nor ac)=zfq r.res (post ac):=rfl
theorem zny {r:zb7} {b:Prop} {post:Ac→EO} {v:PV} {S:Sto}:zfw r b post (.pan v S)=zhl r b v S:=rfl
theorem znX {res:List RX} {ac:Ac}:zfq res (.nor ac)=retOf res ac:=rfl
theorem znY {res:List RX} {ac:Ac}:zfq res (.ret ac)=retOf res ac:=rfl
theorem zpM {r:zb7} {b:Prop} {t:Nat} {k:IntKind} {n:Int} {S:Sto}:zhl r b (.iface t (.int k n)) S=if b∧t=r.T then (match storeP S 1 (.ptr 0 r.t0 0) (.int k n) with | some S=>retOf r.res ⟨upd (fun _=>.junk) r.t0 (.ptr 0 r.t0 0),S⟩ | none=>.bad) else .bad:=rfl
def pb0 (L:List Token):PBlocks:=.mk (.mk (.mk L 0) [] 0)
theorem zzD {s:List UInt8} {L:List Token} {e:Int} (hl:zc8 s L e) (he:¬ e=0) (c:PV) (hc:PV.dn c.up=some c) (g:Nat) (S:Sto):call SP 36 [.str s,.func g [c]] S=.ok (.v (.int .i64 e)) S:=by
 rw[zmU zrl _ _ rfl]
 simp only[zc8] at hl
 have F:=aa hl<|aa (eq_false he)<|aa @zop<|aa @znt<|aa @znV<|aa @zny<|aa @znX<|aa @znY<|aa @zpM<|rcv_Q36.eq_1
 exact fi F
theorem znu:SP 20=some (.code sc_Q20):=zb rfl Tryz.func20 comp_Q20
theorem zso {s:List UInt8} {L:List Token} {e:Int} (hl:zc8 s L e) (he:¬ e=0):zbb s [] e:=by
 intro S
 have h:=fun S=>zzD hl he (.ptr 0 4 0) rfl 40 S
 rw[za znu _ _ rfl]
 exact fi (aa h<|aa (eq_false he)<|zq9)
theorem zp9 {s:List UInt8} {L:List Token} (hl:zc8 s L 0) {t:Nat} {c c':PV} {f:Fr} {S:Sto} (hb:f.box t=some [c]) {o:Option Int} {b':PBlocks} {bg:Nat} {bz:Bool}
  (hc:zjV (pb0 L) 0 false c o b' bg bz c') :
  call SP 36 [.str s,.func 40 [.ptr 0 t 0]] (f::S)=.ok (.v (.int .i64 (o.getD 0))) (setBox (f::S) 0 t [c']):=by
 rw[zmU zrl _ _ rfl]
 simp only[zc8] at hl
 simp only[zjV,pb0,lF] at hc
 have F:=aa hl<|aa hb<|aa hc<|aa @zop<|aa @znt<|aa @znV<|aa @zny<|aa @znX<|aa @znY<|aa @zpM<|rcv_Q36.eq_1
 cases o with
 | none=>exact fi F
 | some e=>exact fi F
theorem zsn {s:List UInt8} {L:List Token} (hl:zc8 s L 0) {b':PBlocks} {bg:Nat} {bz:Bool} {l:List Node}
  (hc:zjV (pb0 L) 0 false (.sl 0 (.cell 4 0) 0 0 0 0 false) none b' bg bz (.list 5 (l.map eNode) false)):zbb s l 0:=by
 intro S
 have h:=fun (f:Fr) (h1:f.box 4=some [.sl 0 (.cell 4 0) 0 0 0 0 false])=>zp9 (S:=S) hl h1 hc
 rw[za znu _ _ rfl]
 exact fi (aa h<|aa (Option.getD_none (a:=(0:Int)))<|zq9)
theorem zjf {s:List UInt8} {L:List Token} (hl:zc8 s L 0) {b':PBlocks} {bg:Nat} {bz:Bool} {e:Int} (he:¬ e=0) {c':PV}
  (hc:zjV (pb0 L) 0 false (.sl 0 (.cell 4 0) 0 0 0 0 false) (some e) b' bg bz c'):zbb s [] e:=by
 intro S
 have h:=fun (f:Fr) (h1:f.box 4=some [.sl 0 (.cell 4 0) 0 0 0 0 false])=>zp9 (S:=S) hl h1 hc
 rw[za znu _ _ rfl]
 exact fi (aa h<|aa (Option.getD_some (a:=e) (b:=(0:Int)))<|aa (eq_false he)<|zq9)
def zbX (N:Nat) (ts:List Token):PR (List Node) :=
 match zA N 0 ts [] with
 | .ok _ ts out=>.ok out ts []
 | .er e=>.er e
 | .no=>.no
def zqK (lab:List UInt8→Bool):List Token→PR (List UInt8)
 | []=>.no
 | t::ts=>if t.Kind=2 then (match t.Parts with | [p]=>if p.Ref=true then .er 5 else if lab p.Text=true then .ok p.Text ts [] else .er 5 | _=>.er 5) else .er 5
def zod (N:Nat):Nat→List zhe→List Token→PR (List zhe)
 | 0,_,_=>.no
 | _+1,_,[]=>.no
 | n+1,acc,t::ts =>
  if isS [125] (t::ts)=true then .ok acc ts []
  else if t.Kind=3 then
   if acc.any (fun a=>decide (a.Name=t.Text))=true then .er 3
   else zal [61] ts fun ts=>(zbX N ts).bind fun nodes ts _=>zod N n (acc++[⟨t.Text,nodes⟩]) ts
  else .er 5
def zqj (N:Nat) (ts:List Token):PR (List zhe):=zal [123] ts fun ts=>zod N N [] ts
def ztn:List (List UInt8):=[[118,97,114,105,97,98,108,101],[108,111,99,97,108,115],[110,111,100,101],[109,111,100,117,108,101],[100,101,102,105,110,101]]
def zmS (lab:List UInt8→Bool) (N i:Nat) (ts:List Token):PR zdj :=
 if i=1 then (zqj N ts).bind fun as_ ts _=>.ok ⟨2,[],as_,[]⟩ ts []
 else (zqK lab ts).bind fun l ts _=>(zqj N ts).bind fun as_ ts _=>.ok ⟨1+(i:Int),l,as_,[]⟩ ts []
def blkIn (lab:List UInt8→Bool) (N:Nat):List Token→PR zdj
 | []=>.no
 | t::ts=>if t.Kind=3 then (match zbI t.Text ztn 0 with | none=>.er 5 | some i=>if i=4 then .er 5 else zmS lab N i ts) else .er 5
def zqJ (lab:List UInt8→Bool) (N:Nat):Nat→List zdj→List Token→PR (List zdj)
 | 0,_,_=>.no
 | n+1,acc,ts=>if isS [125] ts=true then .ok acc ts.tail [] else (blkIn lab N ts).bind fun b ts _=>zqJ lab N n (acc++[b]) ts
def blkS (lab:List UInt8→Bool) (N:Nat):List Token→PR zdj
 | []=>.no
 | t::ts=>if t.Kind=3 then (match zbI t.Text ztn 0 with | none=>.er 5 | some i=>if i=4 then (zqK lab ts).bind fun l ts _=>zal [123] ts fun ts=>(zqJ lab N N [] ts).bind fun bs ts _=>.ok ⟨5,l,[],bs⟩ ts [] else zmS lab N i ts) else .er 5
structure TL (L:List Token):Prop where
 len:L.length≤1000000
 text:∀ t ∈ L,t.Text.length≤1000000
 part:∀ t ∈ L,∀ p ∈ t.Parts,p.Text.length≤1000000
def pb (L ts:List Token) (out:List Node):PBlocks:=⟨pe L ts out 0⟩
section
variable {L ts:List Token} (hT:TL L) (hs:ts <:+ L) (hw:W ts)
include hT hs hw
theorem zwp {N:Nat} (hN:20*ts.length+10≤N):match zbX N ts with
  | .ok nodes ts' _=>ts' <:+ L∧W ts'∧ts'.length+1≤ts.length∧∀ out g z,∃ g' z',zjo (pe L ts out 0) g z none nodes (pe L ts' nodes 0) g' z'
  | .er e=>∀ out g z,∃ a x' g' z',zjo (pe L ts out 0) g z (some e) a x' g' z'
  | .no=>False:=by
 have h:=fun g=>(zrW N L hT.len hT.text ts hs hw [] (by have:=zet hs;have:=hT.len;simp;omega) 0 (by omega) g).expr
 simp only[zbX]
 cases hc:zA N 0 ts [] with
 | no=>have:=h 0;rw[hc] at this;simp only[OkE] at this;omega
 | er e =>
  intro out g z
  have:=h (g+1)
  rw[hc] at this
  obtain⟨a,x',g',z',q⟩:=this
  exact⟨[],x',g',z',zos _ _ _ _ _ _ _ _ ⟨some e,a,x',g',z',q,rfl,rfl,rfl,rfl⟩⟩
 | ok a ts1 out1 =>
  have h0:=h 0
  rw[hc] at h0
  obtain⟨s1,w1,l1,o1,_⟩:=h0
  refine⟨s1,w1,l1,fun out g z=>?_⟩
  have:=h (g+1)
  rw[hc] at this
  obtain⟨_,_,_,_,q⟩:=this
  exact⟨_,_,zos _ _ _ _ _ _ _ _ ⟨none,a,_,_,_,q,rfl,rfl,rfl,rfl,rfl⟩⟩
end
theorem zn8 (L:List Token):pb0 L=pb L L []:=by simp[pb0,pb,pe,pt]
def exprT (L:List Token):PR (List Node):=(zbX (20*L.length+10) L).bind fun nodes ts _=>match ts with | []=>.no | t::_=>if t.Kind=0 then .ok nodes ts [] else .er 5
theorem zp6 {s:List UInt8} {L:List Token} (hx:zc8 s L 0) (hT:TL L) (hw:W L) :
  match exprT L with
  | .ok l _ _=>zbb s l 0
  | .er e=>e≠0→zbb s [] e
  | .no=>False:=by
 have h:=zwp hT (List.suffix_refl L) hw (Nat.le_refl _)
 unfold exprT
 cases hc:zbX (20*L.length+10) L with
 | no=>rw[hc] at h;exact h.elim
 | er e =>
  rw[hc] at h
  intro he
  obtain⟨a,x',g',z',q⟩:=h [] 0 false
  exact zjf hx he (by rw[zn8];exact ziG _ _ _ _ _ _ _ _ _ ⟨some e,a,x',g',z',q,rfl,rfl,rfl,rfl,rfl⟩)
 | ok nodes ts out =>
  rw[hc] at h
  obtain⟨s1,w1,l1,q⟩:=h
  obtain⟨g',z',q⟩:=q [] 0 false
  simp only[PR.bind]
  cases ts with
  | nil=>exact w1.elim
  | cons t ts =>
   simp only
   by_cases hk:t.Kind=0
   ·rw[if_pos hk]
    exact zsn hx (by rw[zn8];exact ziG _ _ _ _ _ _ _ _ _ ⟨none,nodes,_,g',z',q,t,_,zZ s1,fun _=>⟨rfl,rfl,rfl,rfl,rfl⟩,fun hf=>absurd hk hf⟩)
   rw[if_neg hk]
   intro he
   exact zjf hx he (by rw[zn8];exact ziG _ _ _ _ _ _ _ _ _ ⟨none,nodes,_,g',z',q,t,_,zZ s1,fun hf=>absurd hf hk,fun _=>⟨_,_,zjA _ _,rfl,rfl,rfl,rfl,rfl⟩⟩)
end Go.Proofs.YtfbcnpbhhooapaaGreatDoor.M
namespace Go.Proofs.YtfbcnpbhhooapaaGreatDoor.M
open Go Classical
def σ (x:Token):Token:=⟨x.Kind,x.Text,x.Num,x.Parts,0⟩
theorem σ_K (t:Token):(σ t).Kind=t.Kind:=rfl
theorem σ_T (t:Token):(σ t).Text=t.Text:=rfl
def PR.mapT {α:Type}:PR α→PR α
 | .ok a ts out=>.ok a (ts.map σ) out
 | .er e=>.er e
 | .no=>.no
theorem zer (s:List UInt8) (ts:List Token):isS s (ts.map σ)=isS s ts:=by cases ts <;> rfl
theorem zha (ts:List Token):(ts.map σ).tail=ts.tail.map σ:=by cases ts <;> rfl
theorem zjR {α:Type} (s:List UInt8) (ts:List Token) (k k':List Token→PR α) (h:∀ ts,k' (ts.map σ)=(k ts).mapT):zal s (ts.map σ) k'=(zal s ts k).mapT:=by
 simp only[zal,zer,zha,h]
 split <;> rfl
theorem zeE {α:Type} (s:List UInt8) (d:Nat) (ts:List Token) (k k':List Token→PR α) (h:∀ ts,k' (ts.map σ)=(k ts).mapT):zW s d (ts.map σ) k'=(zW s d ts k).mapT:=by
 simp only[zW,zer,zha,h]
 split
 ·split <;> rfl
 rfl
theorem za9 {α β:Type} (p p':PR α) (f f':α→List Token→List Node→PR β) (hp:p'=p.mapT) (h:∀ a ts out,f' a (ts.map σ) out=(f a ts out).mapT):p'.bind f'=(p.bind f).mapT:=by
 subst hp
 cases p <;> simp[PR.mapT,PR.bind,h]
theorem zbR {α:Type} (c:Prop) [Decidable c] (p p' q q':PR α) (hp:p'=p.mapT) (hq:q'=q.mapT):(if c then p' else q')=(if c then p else q).mapT:=by
 split <;> assumption
structure StA (n:Nat):Prop where
 expr:∀ d ts out,zA n d (ts.map σ) out=(zA n d ts out).mapT
 chain:∀ r d ts out,zq n r d (ts.map σ) out=(zq n r d ts out).mapT
 loop:∀ r d a ts out,zM n r d a (ts.map σ) out=(zM n r d a ts out).mapT
 un:∀ d ts out,unS n d (ts.map σ) out=(unS n d ts out).mapT
 post:∀ d ts out,zay n d (ts.map σ) out=(zay n d ts out).mapT
 postl:∀ d a ts out,zad n d a (ts.map σ) out=(zad n d a ts out).mapT
 many:∀ d e ts out,zam n d e (ts.map σ) out=(zam n d e ts out).mapT
 manyl:∀ d e l ts out,zaG n d e l (ts.map σ) out=(zaG n d e l ts out).mapT
 prim:∀ d ts out,zx n d (ts.map σ) out=(zx n d ts out).mapT
theorem stA:∀ n,StA n
 | 0=>by refine⟨?_,?_,?_,?_,?_,?_,?_,?_,?_⟩ <;> intros <;> simp only[zA,zq,zM,unS,zay,zad,zam,zaG,zx,PR.mapT]
 | n+1=>by
  have ih:=stA n
  refine⟨fun d ts out=>?_,fun r d ts out=>?_,fun r d a ts out=>?_,fun d ts out=>?_,fun d ts out=>?_,fun d a ts out=>?_,fun d e ts out=>?_,fun d e l ts out=>?_,fun d ts out=>?_⟩
  ·simp only[zA]
   refine za9 _ _ _ _ (ih.chain _ _ _ _) fun a ts out=>?_
   rw[zer]
   refine zbR _ _ _ _ _ (zeE _ _ _ _ _ fun ts=>za9 _ _ _ _ (ih.expr _ _ _) fun b ts out=>zjR _ _ _ _ fun ts=>za9 _ _ _ _ (ih.expr _ _ _) fun c ts out=>rfl) rfl
  ·simp only[zq]
   exact zbR _ _ _ _ _ (ih.un _ _ _) (za9 _ _ _ _ (ih.chain _ _ _ _) fun a ts out=>ih.loop _ _ _ _ _)
  ·cases ts with
   | nil=>simp[zM,zx,PR.mapT]
   | cons t ts =>
    simp only[zM,List.map_cons,σ_K,σ_T]
    refine zbR _ _ _ _ _ ?_ rfl
    cases opS r t.Text with
    | none=>rfl
    | some kind=>exact za9 _ _ _ _ (ih.chain _ _ _ _) fun b ts out=>zbR _ _ _ _ _ rfl (ih.loop _ _ _ _ _)
  ·simp only[unS,zer]
   exact zbR _ _ _ _ _ (zeE _ _ _ _ _ fun ts=>za9 _ _ _ _ (ih.un _ _ _) fun a ts out=>rfl) (zbR _ _ _ _ _ (zeE _ _ _ _ _ fun ts=>za9 _ _ _ _ (ih.un _ _ _) fun a ts out=>rfl) (ih.post _ _ _))
  ·simp only[zay]
   exact za9 _ _ _ _ (ih.prim _ _ _) fun a ts out=>ih.postl _ _ _ _
  ·simp only[zad,zer]
   exact zbR _ _ _ _ _ (zeE _ _ _ _ _ fun ts=>za9 _ _ _ _ (ih.expr _ _ _) fun b ts out=>zjR _ _ _ _ fun ts=>ih.postl _ _ _ _) rfl
  ·simp only[zam,zer,zha]
   exact zbR _ _ _ _ _ rfl (za9 _ _ _ _ (ih.expr _ _ _) fun a ts out=>ih.manyl _ _ _ _ _)
  ·simp only[zaG,zer,zha]
   exact zbR _ _ _ _ _ (za9 _ _ _ _ (ih.expr _ _ _) fun a ts out=>ih.manyl _ _ _ _ _) (zjR _ _ _ _ fun ts=>rfl)
  cases ts with
  | nil=>simp[zM,zx,PR.mapT]
  | cons t ts =>
   have e:=zer [91] (t::ts)
   rw[List.map_cons] at e
   simp only[zx,List.map_cons,e,zer,zha]
   refine zbR _ _ _ _ _ (zbR _ _ _ _ _ rfl (zbR _ _ _ _ _ rfl (zbR _ _ _ _ _ ?_ (zeE _ _ _ _ _ fun ts=>za9 _ _ _ _ (ih.many _ _ _ _) fun l ts out=>rfl)))) (zbR _ _ _ _ _ rfl (zbR _ _ _ _ _ rfl (zbR _ _ _ _ _ ?_ ?_)))
   ·cases ts.tail with
    | nil=>rfl
    | cons u ts=>exact zbR _ _ _ _ _ rfl rfl
   ·exact zeE _ d (t::ts) _ _ fun ts=>za9 _ _ _ _ (ih.many _ _ _ _) fun l ts out=>rfl
   exact zeE _ d (t::ts) _ _ fun ts=>za9 _ _ _ _ (ih.expr _ _ _) fun a ts out=>zjR _ _ _ _ fun ts=>rfl
theorem zvQ (N:Nat) (ts:List Token):zbX N (ts.map σ)=(zbX N ts).mapT:=by
 simp only[zbX,(stA N).expr]
 cases zA N 0 ts [] <;> rfl
theorem zw3 (L:List Token):exprT (L.map σ)=(exprT L).mapT:=by
 simp only[exprT,List.length_map]
 refine za9 _ _ _ _ (zvQ _ _) fun a ts out=>?_
 cases ts with
 | nil=>rfl
 | cons t ts=>exact zbR _ _ _ _ _ rfl rfl
def Quiet (r:Token):Prop:=r.Kind=0∨(r.Kind=4∧(r.Text=[125]∨r.Text=[41]))
inductive Exs (r:Token) (rest:List Token):List Token→List Token→Prop
 | nil (e:Token) (he:e.Kind=0):Exs r rest [e] (r::rest)
 | cons (x:Token) (ts ts':List Token) (hx:x.Kind≠0) (h:Exs r rest ts ts'):Exs r rest (x::ts) (x::ts')
def Fol {α:Type} (r:Token) (rest:List Token) (d d':Nat) (p q:PR α):Prop:=∀ a ts out,p=.ok a ts out→(∃ ts',q=.ok a ts' out∧Exs r rest ts ts')∨(d < d'∧q=.er 6)
section
variable {r:Token} {rest:List Token} {d d':Nat}
theorem Fol.ok {α:Type} {a:α} {ts ts':List Token} {out:List Node} (h:Exs r rest ts ts'):Fol r rest d d' (.ok a ts out) (.ok a ts' out):=by
 intro a1 ts1 out1 e
 cases e
 exact .inl ⟨ts',rfl,h⟩
theorem Fol.er {α:Type} {e:Int} {q:PR α}:Fol r rest d d' (.er e) q:=fun _ _ _ h=>by cases h
theorem Fol.no {α:Type} {q:PR α}:Fol r rest d d' .no q:=fun _ _ _ h=>by cases h
theorem Fol.bind {α β:Type} {p q:PR α} {f g:α→List Token→List Node→PR β} (hp:Fol r rest d d' p q) (h:∀ a ts out ts',Exs r rest ts ts'→Fol r rest d d' (f a ts out) (g a ts' out)):Fol r rest d d' (p.bind f) (q.bind g):=by
 cases p with
 | er e=>exact Fol.er
 | no=>exact Fol.no
 | ok a ts out =>
  rcases hp a ts out rfl with⟨ts',rfl,hx⟩ | ⟨h1,rfl⟩
  ·exact h a ts out ts' hx
  exact fun _ _ _ _=>.inr ⟨h1,rfl⟩
theorem Fol.up {α:Type} {p q:PR α} (h:Fol r rest (d+1) (d'+1) p q):Fol r rest d d' p q:=by
 intro a ts out e
 rcases h a ts out e with h | ⟨h1,h2⟩
 ·exact .inl h
 exact .inr ⟨by omega,h2⟩
theorem Exs.is1 {s:List UInt8} {ts ts':List Token} (h:Exs r rest ts ts') (hi:isS s ts=true):isS s ts'=true∧Exs r rest ts.tail ts'.tail:=by
 cases h with
 | nil e he=>simp[isS,he] at hi
 | cons x ts ts' hx h=>exact⟨hi,h⟩
theorem Fol.need {α:Type} {s:List UInt8} {ts ts':List Token} {k k':List Token→PR α} (h:Exs r rest ts ts') (hk:∀ ts ts',Exs r rest ts ts'→Fol r rest d d' (k ts) (k' ts')):Fol r rest d d' (zal s ts k) (zal s ts' k'):=by
 simp only[zal]
 by_cases hi:isS s ts=true
 ·obtain⟨h1,h2⟩:=h.is1 hi
  rw[if_pos hi,if_pos h1]
  exact hk _ _ h2
 rw[if_neg hi]
 exact Fol.er
theorem Fol.opn {α:Type} {s:List UInt8} {ts ts':List Token} {k k':List Token→PR α} (hd:d≤d') (h:Exs r rest ts ts') (hk:∀ ts ts',Exs r rest ts ts'→Fol r rest (d+1) (d'+1) (k ts) (k' ts')):Fol r rest d d' (zW s d ts k) (zW s d' ts' k'):=by
 simp only[zW]
 by_cases hi:isS s ts=true
 ·obtain⟨h1,h2⟩:=h.is1 hi
  rw[if_pos hi,if_pos h1]
  by_cases h64:64≤d
  ·rw[if_pos h64];exact Fol.er
  rw[if_neg h64]
  by_cases h64':64≤d'
  ·rw[if_pos h64']
   exact fun _ _ _ _=>.inr ⟨by omega,rfl⟩
  rw[if_neg h64']
  exact (hk _ _ h2).up
 rw[if_neg hi]
 exact Fol.er
theorem Fol.ite {α:Type} {c:Prop} [Decidable c] {p p' q q':PR α} (h1:c→Fol r rest d d' p p') (h2:¬ c→Fol r rest d d' q q'):Fol r rest d d' (if c then p else q) (if c then p' else q'):=by
 split
 ·exact h1 ‹_›
 exact h2 ‹_›
theorem ztB {r:Token} (hq:Quiet r) (h4:r.Kind=4) (rank:Nat):opS rank r.Text=none:=by
 rcases hq with h | ⟨_,h⟩
 ·rw[h4] at h;exact absurd h (by decide)
 have:∀ s:List UInt8,s=[125]∨s=[41]→opS rank s=none:=by
  intro s hs
  unfold opS zon
  rcases hs with rfl | rfl <;> (split <;> simp[zbI])
 exact this _ h
end
def NE {α:Type} (p:PR α):Prop:=∀ e,p=.er e→e=3∨e=5∨e=6
theorem NE.ok {α:Type} {a:α} {ts:List Token} {out:List Node}:NE (PR.ok a ts out):=fun _ h=>by cases h
theorem NE.no {α:Type}:NE (PR.no:PR α):=fun _ h=>by cases h
theorem NE.e3 {α:Type}:NE (PR.er 3:PR α):=fun _ h=>by cases h;exact .inl rfl
theorem NE.e5 {α:Type}:NE (PR.er 5:PR α):=fun _ h=>by cases h;exact .inr (.inl rfl)
theorem NE.e6 {α:Type}:NE (PR.er 6:PR α):=fun _ h=>by cases h;exact .inr (.inr rfl)
theorem NE.bind {α β:Type} {p:PR α} {f:α→List Token→List Node→PR β} (h:NE p) (hf:∀ a ts out,NE (f a ts out)):NE (p.bind f):=by
 cases p with
 | ok a ts out=>exact hf _ _ _
 | er e=>intro e' h';cases h';exact h _ rfl
 | no=>exact NE.no
theorem NE.ite {α:Type} {c:Prop} [Decidable c] {p q:PR α} (hp:NE p) (hq:NE q):NE (if c then p else q):=by split <;> assumption
theorem NE.need {α:Type} {s:List UInt8} {ts:List Token} {k:List Token→PR α} (h:∀ ts,NE (k ts)):NE (zal s ts k):=NE.ite (h _) NE.e5
theorem NE.opn {α:Type} {s:List UInt8} {d:Nat} {ts:List Token} {k:List Token→PR α} (h:∀ ts,NE (k ts)):NE (zW s d ts k):=NE.ite (NE.ite NE.e6 (h _)) NE.e5
structure NeA (n:Nat):Prop where
 expr:∀ d ts out,NE (zA n d ts out)
 chain:∀ r d ts out,NE (zq n r d ts out)
 loop:∀ r d a ts out,NE (zM n r d a ts out)
 un:∀ d ts out,NE (unS n d ts out)
 post:∀ d ts out,NE (zay n d ts out)
 postl:∀ d a ts out,NE (zad n d a ts out)
 many:∀ d e ts out,NE (zam n d e ts out)
 manyl:∀ d e l ts out,NE (zaG n d e l ts out)
 prim:∀ d ts out,NE (zx n d ts out)
theorem neA:∀ n,NeA n
 | 0=>by refine⟨?_,?_,?_,?_,?_,?_,?_,?_,?_⟩ <;> intros <;> simp only[zA,zq,zM,unS,zay,zad,zam,zaG,zx] <;> exact NE.no
 | n+1=>by
  have ih:=neA n
  refine⟨fun d ts out=>?_,fun r d ts out=>?_,fun r d a ts out=>?_,fun d ts out=>?_,fun d ts out=>?_,fun d a ts out=>?_,fun d e ts out=>?_,fun d e l ts out=>?_,fun d ts out=>?_⟩
  ·simp only[zA]
   exact (ih.chain _ _ _ _).bind fun a ts out=>NE.ite (NE.opn fun ts=>(ih.expr _ _ _).bind fun b ts out=>NE.need fun ts=>(ih.expr _ _ _).bind fun c ts out=>NE.ok) NE.ok
  ·simp only[zq]
   exact NE.ite (ih.un _ _ _) ((ih.chain _ _ _ _).bind fun a ts out=>ih.loop _ _ _ _ _)
  ·cases ts with
   | nil=>simp only[zM];exact NE.no
   | cons t ts =>
    simp only[zM]
    refine NE.ite ?_ NE.ok
    split
    ·exact NE.ok
    exact (ih.chain _ _ _ _).bind fun b ts out=>NE.ite NE.ok (ih.loop _ _ _ _ _)
  ·simp only[unS]
   exact NE.ite (NE.opn fun ts=>(ih.un _ _ _).bind fun a ts out=>NE.ok) (NE.ite (NE.opn fun ts=>(ih.un _ _ _).bind fun a ts out=>NE.ok) (ih.post _ _ _))
  ·simp only[zay]
   exact (ih.prim _ _ _).bind fun a ts out=>ih.postl _ _ _ _
  ·simp only[zad]
   exact NE.ite (NE.opn fun ts=>(ih.expr _ _ _).bind fun b ts out=>NE.need fun ts=>ih.postl _ _ _ _) NE.ok
  ·simp only[zam]
   exact NE.ite NE.ok ((ih.expr _ _ _).bind fun a ts out=>ih.manyl _ _ _ _ _)
  ·simp only[zaG]
   exact NE.ite ((ih.expr _ _ _).bind fun a ts out=>ih.manyl _ _ _ _ _) (NE.need fun ts=>NE.ok)
  cases ts with
  | nil=>simp only[zx];exact NE.no
  | cons t ts =>
   simp only[zx]
   refine NE.ite (NE.ite NE.ok (NE.ite NE.ok (NE.ite ?_ (NE.opn fun ts=>(ih.many _ _ _ _).bind fun l ts out=>NE.ok)))) (NE.ite NE.ok (NE.ite NE.ok (NE.ite (NE.opn fun ts=>(ih.many _ _ _ _).bind fun l ts out=>NE.ok) (NE.opn fun ts=>(ih.expr _ _ _).bind fun a ts out=>NE.need fun ts=>NE.ok))))
   split
   ·exact NE.no
   exact NE.ite NE.ok NE.e5
theorem NE.whole (N:Nat) (ts:List Token):NE (zbX N ts):=by
 have:=(neA N).expr 0 ts []
 simp only[zbX]
 cases h:zA N 0 ts [] with
 | ok a ts out=>exact NE.ok
 | er e=>intro e' h';cases h';exact this e h
 | no=>exact NE.no
theorem NE.exprT (L:List Token):NE (exprT L):=by
 refine (NE.whole _ _).bind fun a ts out=>?_
 split
 ·exact NE.no
 exact NE.ite NE.ok NE.e5
theorem NE.lab (lab:List UInt8→Bool) (ts:List Token):NE (zqK lab ts):=by
 cases ts with
 | nil=>exact NE.no
 | cons t ts =>
  simp only[zqK]
  refine NE.ite ?_ NE.e5
  split
  ·exact NE.ite NE.e5 (NE.ite NE.ok NE.e5)
  exact NE.e5
theorem NE.attrs (N:Nat):∀ (n:Nat) (acc:List zhe) (ts:List Token),NE (zod N n acc ts)
 | 0,_,_=>NE.no
 | n+1,acc,[]=>NE.no
 | n+1,acc,t::ts=>NE.ite NE.ok (NE.ite (NE.ite NE.e3 (NE.need fun ts=>(NE.whole _ _).bind fun a ts out=>NE.attrs N n _ _)) NE.e5)
theorem NE.body (N:Nat) (ts:List Token):NE (zqj N ts):=NE.need fun ts=>NE.attrs N N [] ts
theorem NE.plain (lab:List UInt8→Bool) (N i:Nat) (ts:List Token):NE (zmS lab N i ts):=NE.ite ((NE.body _ _).bind fun a ts out=>NE.ok) ((NE.lab _ _).bind fun a ts out=>(NE.body _ _).bind fun a ts out=>NE.ok)
theorem NE.blkIn (lab:List UInt8→Bool) (N:Nat) (ts:List Token):NE (blkIn lab N ts):=by
 cases ts with
 | nil=>exact NE.no
 | cons t ts =>
  simp only[M.blkIn]
  refine NE.ite ?_ NE.e5
  split
  ·exact NE.e5
  exact NE.ite NE.e5 (NE.plain _ _ _ _)
theorem NE.blks (lab:List UInt8→Bool) (N:Nat):∀ (n:Nat) (acc:List zdj) (ts:List Token),NE (zqJ lab N n acc ts)
 | 0,_,_=>NE.no
 | n+1,acc,ts=>NE.ite NE.ok ((NE.blkIn _ _ _).bind fun a ts out=>NE.blks lab N n _ _)
theorem NE.blk (lab:List UInt8→Bool) (N:Nat) (ts:List Token):NE (blkS lab N ts):=by
 cases ts with
 | nil=>exact NE.no
 | cons t ts =>
  simp only[blkS]
  refine NE.ite ?_ NE.e5
  split
  ·exact NE.e5
  exact NE.ite ((NE.lab _ _).bind fun a ts out=>NE.need fun ts=>(NE.blks _ _ _ _ _).bind fun a ts out=>NE.ok) (NE.plain _ _ _ _)
def lpT:Token:=⟨4,[40],0,[],0⟩
def rpT:Token:=⟨4,[41],0,[],0⟩
theorem Quiet.isS {u:Token} (h:Quiet u) {s:List UInt8} (hs:s≠[125]∧s≠[41]) (rest:List Token):isS s (u::rest)=false:=by
 rw[←Bool.not_eq_true]
 simp only[M.isS,Bool.and_eq_true,decide_eq_true_eq]
 intro hf
 rcases h with h | ⟨_,h⟩
 ·rw[h] at hf;exact absurd hf.1 (by decide)
 rcases h with h | h <;> rw[h] at hf
 ·exact hs.1 hf.2.symm
 exact hs.2 hf.2.symm
theorem zqt {u:Token} (h:Quiet u) (n k d:Nat) (a:Int) (rest:List Token) (out:List Node):zM (n+1) k d a (u::rest) out=.ok a (u::rest) out:=by
 simp only[zM]
 by_cases h4:u.Kind=4
 ·rw[if_pos h4,ztB h h4]
 rw[if_neg h4]
def zC {α:Type} (p:PR α) (a:α) (ts:List Token) (o:List Node):Prop:=p=.ok a ts o∨p=.er 6
theorem brk {u:Token} (hu:Quiet u) {N d:Nat} {T rest:List Token} {out o:List Node} {a:Int} (h:zC (zA N (d+1) T out) a (rpT::u::rest) o):zC (zA (N+10) d (lpT::T) out) a (u::rest) o:=by
 have hp:zC (zx (N+1) d (lpT::T) out) a (u::rest) o:=by
  have e:zx (N+1) d (lpT::T) out=if 64≤d then .er 6 else (zA N (d+1) T out).bind fun a ts out=>zal [41] ts fun ts=>.ok a ts out:=by
   simp[zx,lpT,M.isS,zW]
  rw[e]
  by_cases hd:64≤d
  ·rw[if_pos hd];exact .inr rfl
  rw[if_neg hd]
  rcases h with h | h
  ·rw[h];exact .inl rfl
  rw[h];exact .inr rfl
 have hpo:zC (zay (N+2) d (lpT::T) out) a (u::rest) o:=by
  simp only[zay]
  rcases hp with h | h
  ·rw[h]
   left
   simp only[PR.bind,zad]
   rw[hu.isS (by decide)]
   rfl
  rw[h];exact .inr rfl
 have hun:zC (unS (N+3) d (lpT::T) out) a (u::rest) o:=by
  have e:unS (N+3) d (lpT::T) out=zay (N+2) d (lpT::T) out:=by simp[unS,lpT,M.isS]
  rw[e]
  exact hpo
 have h5:zC (zq (N+4) 5 d (lpT::T) out) a (u::rest) o:=by
  simp only[zq]
  exact hun
 have up:∀ m k,k≠5→zC (zq (m+1) (k+1) d (lpT::T) out) a (u::rest) o→zC (zq (m+2) k d (lpT::T) out) a (u::rest) o:=by
  intro m k hk h
  rw[zq,if_neg hk]
  rcases h with h | h
  ·rw[h]
   left
   simp only[PR.bind]
   exact zqt hu _ _ _ _ _ _
  rw[h];exact .inr rfl
 have h0:=up _ 0 (by decide) (up _ 1 (by decide) (up _ 2 (by decide) (up _ 3 (by decide) (up _ 4 (by decide) h5))))
 simp only[zA]
 rcases h0 with h | h
 ·rw[h]
  left
  simp only[PR.bind]
  rw[hu.isS (by decide)]
  rfl
 rw[h];exact .inr rfl
def tn (s:List UInt8):Token:=⟨3,s,0,[],0⟩
def tg (s:List UInt8):Token:=⟨4,s,0,[],0⟩
def zja (z:Int):Token:=⟨1,[],z,[],0⟩
def zhb (l:List Part):Token:=⟨2,[],0,l,0⟩
def wrK (l:List Node) (o:Int→List Token) (k least:Int):List Token:=if rkK l k < least then lpT::(o k++[rpT]) else o k
def tcG (o:Int→List Token):List Int→List Token
 | []=>[]
 | k::r=>tg [44]::(o k++tcG o r)
def tcS (o:Int→List Token):List Int→List Token
 | []=>[]
 | k::r=>o k++tcG o r
def zm7 (s:List UInt8):List Token:=[tn (Lib.cut s [46]).1,tg [46],tn (Lib.cut s [46]).2.1]
def ndK (l:List Node) (o:Int→List Token) (n:Node):List Token :=
 if n.Kind=1 then [zja n.Num]
 else if n.Kind=2 then [zhb n.Parts]
 else if n.Kind=3 then [tn (Lib.formatBool (decide (n.Num=1)))]
 else if n.Kind=4 then zm7 n.Text
 else if n.Kind=5 then tn n.Text::lpT::(tcS o n.Kids++[rpT])
 else if n.Kind=6 then tg [91]::(tcS o n.Kids++[tg [93]])
 else if n.Kind=7 then wrK l o (kid n 0) 7++tg [91]::(o (kid n 1)++[tg [93]])
 else if n.Kind=8 then tg [33]::wrK l o (kid n 0) 6
 else if n.Kind=9 then tg [45]::wrK l o (kid n 0) 6
 else if n.Kind=10 then wrK l o (kid n 0) 1++tg [63]::(o (kid n 1)++tg [58]::o (kid n 2))
 else wrK l o (kid n 0) (if rkS n.Kind=3 then rkS n.Kind+1 else rkS n.Kind)++tg (zaS n.Kind)::wrK l o (kid n 1) (rkS n.Kind+1)
def tkv (l:List Node) (rs:List (List Token)) (e:Nat):List Token:=match l[e]? with
 | some n=>ndK l (fun k=>(rs[k.toNat]?).getD []) n
 | none=>[]
def tks (l:List Node):Nat→List (List Token)
 | 0=>[]
 | n+1=>tks l n++[tkv l (tks l n) n]
theorem zhU (l:List Node):∀ n,(tks l n).length=n
 | 0=>rfl
 | n+1=>by rw[tks,List.length_append,zhU l n];rfl
def tkS (l:List Node) (e:Nat):List Token:=tkv l (tks l e) e
theorem zo3 (l:List Node):∀ {n j:Nat},j < n→(tks l n)[j]?=some (tkS l j)
 | 0,j,h=>absurd h (Nat.not_lt_zero _)
 | n+1,j,h=>by
  rw[tks]
  by_cases hj:j < n
  ·rw[List.getElem?_append_left (by rw[zhU];exact hj)]
   exact zo3 l hj
  obtain rfl:j=n:=by omega
  rw[List.getElem?_append_right (by rw[zhU];omega),zhU,Nat.sub_self]
  rfl
theorem zlF {o o':Int→List Token}:∀ {ks:List Int},(∀ k ∈ ks,o k=o' k)→tcG o ks=tcG o' ks
 | [],_=>rfl
 | k::r,h=>by rw[tcG,tcG,h k (List.mem_cons_self ..),zlF fun q hq=>h q (List.mem_cons_of_mem _ hq)]
theorem zk5 {o o':Int→List Token}:∀ {ks:List Int},(∀ k ∈ ks,o k=o' k)→tcS o ks=tcS o' ks
 | [],_=>rfl
 | k::r,h=>by rw[tcS,tcS,h k (List.mem_cons_self ..),zlF fun q hq=>h q (List.mem_cons_of_mem _ hq)]
theorem zcR {l:List Node} {o o':Int→List Token} {k:Int} (least:Int) (h:o k=o' k):wrK l o k least=wrK l o' k least:=by rw[wrK,wrK,h]
theorem zsz {l:List Node} {o o':Int→List Token} {n:Node} (hn:zp n=true) (h:∀ k ∈ n.Kids,o k=o' k):ndK l o n=ndK l o' n:=by
 rw[ndK,ndK]
 by_cases k1:n.Kind=1
 ·rw[if_pos k1,if_pos k1]
 rw[if_neg k1,if_neg k1]
 by_cases k2:n.Kind=2
 ·rw[if_pos k2,if_pos k2]
 rw[if_neg k2,if_neg k2]
 by_cases k3:n.Kind=3
 ·rw[if_pos k3,if_pos k3]
 rw[if_neg k3,if_neg k3]
 by_cases k4:n.Kind=4
 ·rw[if_pos k4,if_pos k4]
 rw[if_neg k4,if_neg k4]
 by_cases k5:n.Kind=5
 ·rw[if_pos k5,if_pos k5,zk5 h]
 rw[if_neg k5,if_neg k5]
 by_cases k6:n.Kind=6
 ·rw[if_pos k6,if_pos k6,zk5 h]
 rw[if_neg k6,if_neg k6]
 by_cases k7:n.Kind=7
 ·have hl:=kdk hn 7 2 k7 (by decide) (by decide) (by decide)
  rw[if_pos k7,if_pos k7,zcR 7 (h _ (zm (i:=0) (by omega))),h _ (zm (i:=1) (by omega))]
 rw[if_neg k7,if_neg k7]
 by_cases k8:n.Kind=8
 ·have hl:=kdk hn 8 1 k8 (by decide) (by decide) (by decide)
  rw[if_pos k8,if_pos k8,zcR 6 (h _ (zm (i:=0) (by omega)))]
 rw[if_neg k8,if_neg k8]
 by_cases k9:n.Kind=9
 ·have hl:=kdk hn 9 1 k9 (by decide) (by decide) (by decide)
  rw[if_pos k9,if_pos k9,zcR 6 (h _ (zm (i:=0) (by omega)))]
 rw[if_neg k9,if_neg k9]
 by_cases k10:n.Kind=10
 ·have hl:=kdk hn 10 3 k10 (by decide) (by decide) (by decide)
  rw[if_pos k10,if_pos k10,zcR 1 (h _ (zm (i:=0) (by omega))),h _ (zm (i:=1) (by omega)),h _ (zm (i:=2) (by omega))]
 rw[if_neg k10,if_neg k10]
 have h1:=zbl hn
 have hl:=kd2 hn (by omega)
 rw[zcR _ (h _ (zm (i:=0) (by omega))),zcR _ (h _ (zm (i:=1) (by omega)))]
theorem zj0 {l:List Node} {e:Nat} (he:e < l.length) (hn:zp l[e]=true) (hk:∀ k ∈ l[e].Kids,0≤k∧k < (e:Int)):tkS l e=ndK l (fun k=>tkS l k.toNat) l[e]:=by
 unfold tkS tkv
 rw[List.getElem?_eq_getElem he]
 refine zsz hn fun k hk'=>?_
 have:=hk k hk'
 rw[zo3 l (show k.toNat < e by omega)]
 rfl
def KC (l:List Node):Nat→List Int→Nat→Prop
 | b,[],e=>b=e
 | b,k::r,e=>0≤k∧zaq l k.toNat=b∧KC l (k.toNat+1) r e
theorem zo0 {l:List Node}:∀ {ks:List Int} {b e:Nat} {k:Int},KC l b ks e→0≤k→zaq l k.toNat=e→KC l b (ks++[k]) (k.toNat+1)
 | [],b,e,k,h,h0,hk=>by
  obtain rfl:b=e:=h
  exact⟨h0,hk,rfl⟩
 | q::ks,b,e,k,⟨h1,h2,h3⟩,h0,hk=>⟨h1,h2,zo0 h3 h0 hk⟩
theorem zsh (l:List Node) (e:Nat):∀ (ks:List Int) (f b:Nat),f≤e→Bk.run (fun k=>((zaH l e)[k.toNat]?).getD 0) f ks=b→KC l b ks.reverse f
 | [],f,b,hf,h=>by
  have:(f:Int)=b:=h
  rw[List.reverse_nil]
  show b=f
  omega
 | k::ks,f,b,hf,h=>by
  rw[Bk.run] at h
  split at h
  ·omega
  rename_i h1
  split at h
  ·omega
  rename_i h2
  have hk:k.toNat < e:=by omega
  have ek:((zaH l e)[k.toNat]?).getD 0=zaq l k.toNat:=by rw[zb1 l hk,Option.getD_some]
  simp only[ek] at h h2
  have hle:=zbO l k.toNat
  obtain⟨b1,hb1⟩:∃ b1:Nat,zaq l k.toNat=b1:=⟨(zaq l k.toNat).toNat,by omega⟩
  rw[hb1] at h
  have:=zo0 (zsh l e ks b1 b (by omega) h) (by omega) hb1
  rw[List.reverse_cons]
  rwa [show f=k.toNat+1 by omega]
theorem zoY {l:List Node} (h:TR l) {e:Nat} (he:e < l.length):∃ b:Nat,zaq l e=b∧b≤e∧KC l b l[e].Kids e:=by
 obtain⟨h1,h2,b,h3,h4⟩:=zm3 h.tree h.ns e he
 have hr:=h3
 rw[zev l (List.getElem?_eq_getElem he),if_pos h1] at hr
 have:=zsh l e l[e].Kids.reverse e b (Nat.le_refl _) hr
 rw[List.reverse_reverse] at this
 have hle:=zbO l e
 exact⟨b,h3,by omega,this⟩
theorem zcQ {α β:Type} {p:PR α} {f:α→List Token→List Node→PR β} {a:α} {ts:List Token} {o:List Node} {b:β} {ts':List Token} {o':List Node} (h:zC p a ts o) (hf:zC (f a ts o) b ts' o'):zC (p.bind f) b ts' o':=by
 rcases h with h | h
 ·rw[h];exact hf
 rw[h];exact .inr rfl
def Stop (r:Nat) (u:Token):Prop:=(∀ k,r < k→k≤4→u.Kind=4→opS k u.Text=none)∧∀ rest,isS [91] (u::rest)=false
theorem zg3 {r:Nat} {u:Token} (h:u.Kind=4→opS r u.Text=none) (n d:Nat) (a:Int) (rest:List Token) (out:List Node):zM (n+1) r d a (u::rest) out=.ok a (u::rest) out:=by
 simp only[zM]
 by_cases h4:u.Kind=4
 ·rw[if_pos h4,h h4]
 rw[if_neg h4]
def eqOr {α:Type} (p q:PR α):Prop:=p=q∨p=.er 6
theorem znL {N d:Nat} {T X:List Token} {out o:List Node} {a:Int} (h:zC (zA N (d+1) T out) a (rpT::X) o):zC (zx (N+1) d (lpT::T) out) a X o:=by
 have e:zx (N+1) d (lpT::T) out=if 64≤d then .er 6 else (zA N (d+1) T out).bind fun a ts out=>zal [41] ts fun ts=>.ok a ts out:=by
  simp[zx,lpT,M.isS,zW]
 rw[e]
 by_cases hd:64≤d
 ·rw[if_pos hd];exact .inr rfl
 rw[if_neg hd]
 rcases h with h | h
 ·rw[h];exact .inl rfl
 rw[h];exact .inr rfl
theorem zhE {N d:Nat} {T X:List Token} {out o:List Node} {a:Int} (h:zC (zx N d T out) a X o):eqOr (zay (N+1) d T out) (zad N d a X o):=by
 simp only[zay]
 rcases h with h | h
 ·rw[h];exact .inl rfl
 rw[h];exact .inr rfl
theorem zjg {N d:Nat} {X:List Token} {o:List Node} {a:Int} (h:isS [91] X=false):zad (N+1) d a X o=.ok a X o:=by
 rw[zad,h]
 rfl
theorem zoT {N d:Nat} {T:List Token} {out:List Node} (h1:isS [45] T=false) (h2:isS [33] T=false):unS (N+1) d T out=zay N d T out:=by
 rw[unS,h1,h2]
 rfl
theorem zhj {d:Nat} {T rest:List Token} {u:Token} {out o:List Node} {a:Int}:∀ (w r:Nat),r+w=5→∀ n,w+2≤n→zC (unS (n - (w+1)) d T out) a (u::rest) o→(∀ k,r≤k→k≤4→u.Kind=4→opS k u.Text=none)→zC (zq n r d T out) a (u::rest) o
 | 0,r,hr,n,hn,h,_=>by
  obtain rfl:r=5:=by omega
  obtain⟨m,rfl⟩:∃ m,n=m+1:=⟨n - 1,by omega⟩
  rw[zq,if_pos rfl]
  exact h
 | w+1,r,hr,n,hn,h,hs=>by
  obtain⟨m,rfl⟩:∃ m,n=m+2:=⟨n - 2,by omega⟩
  have:=zhj w (r+1) (by omega) (m+1) (by omega) (by rwa [show m+2 - (w+1+1)=m+1 - (w+1) by omega] at h) (fun k h1 h2=>hs k (by omega) h2)
  rw[zq,if_neg (by omega)]
  rcases this with h | h
  ·rw[h]
   left
   simp only[PR.bind]
   exact zg3 (hs r (Nat.le_refl _) (by omega)) _ _ _ _ _
  rw[h];exact .inr rfl
theorem zf8 {d r m:Nat} (hr:r < 5) {T X:List Token} {out o:List Node} {a:Int} (h:zC (zq m (r+1) d T out) a X o):eqOr (zq (m+1) r d T out) (zM m r d a X o):=by
 rw[zq,if_neg (by omega)]
 rcases h with h | h
 ·rw[h];exact .inl rfl
 rw[h];exact .inr rfl
theorem zls {d r m:Nat} {s:List UInt8} {kind a b:Int} {Y X:List Token} {out o:List Node} (hs:opS r s=some kind) (h:zC (zq m (r+1) d Y out) b X o):eqOr (zM (m+1) r d a (tg s::Y) out) (if r=2 then .ok ((o.length:Nat):Int) X (o++[nd kind [] [a,b]]) else zM m r d (o.length:Nat) X (o++[nd kind [] [a,b]])):=by
 have e:zM (m+1) r d a (tg s::Y) out=(zq m (r+1) d Y out).bind fun b ts out=>if r=2 then .ok ((out.length:Nat):Int) ts (out++[nd kind [] [a,b]]) else zM m r d (out.length:Nat) ts (out++[nd kind [] [a,b]]):=by
  simp only[zM,tg,if_true,hs]
 rw[e]
 rcases h with h | h
 ·rw[h];exact .inl rfl
 rw[h];exact .inr rfl
theorem eqOr.trans {α:Type} {p q r:PR α} (h:eqOr p q) (h':eqOr q r):eqOr p r:=by
 rcases h with h | h
 ·rw[h];exact h'
 exact .inr h
theorem eqOr.ok {α:Type} {p q:PR α} {a:α} {ts:List Token} {o:List Node} (h:eqOr p q) (h':zC q a ts o):zC p a ts o:=by
 rcases h with h | h
 ·rw[h];exact h'
 exact .inr h
theorem zxl {N d:Nat} {T rest:List Token} {u:Token} {out o:List Node} {a:Int} (hu:isS [91] (u::rest)=false) (h:zC (zA N (d+1) T out) a (rpT::u::rest) o):zC (unS (N+3) d (lpT::T) out) a (u::rest) o:=by
 rw[zoT (by simp[lpT,M.isS]) (by simp[lpT,M.isS])]
 exact (zhE (znL h)).ok (.inl (zjg hu))
theorem zsM {k:Int} (h0:11≤k) (h1:k≤23):∃ r:Nat,r≤4∧rkS k=(r:Int)+1∧opS r (zaS k)=some k∧∀ j,j≤4→j≠r→opS j (zaS k)=none:=by
 have:k=11∨k=12∨k=13∨k=14∨k=15∨k=16∨k=17∨k=18∨k=19∨k=20∨k=21∨k=22∨k=23:=by omega
 have five:∀ {P:Nat→Prop},P 0→P 1→P 2→P 3→P 4→∀ j,j≤4→P j:=fun h0 h1 h2 h3 h4 j hj=>by
  match j,hj with
  | 0,_=>exact h0
  | 1,_=>exact h1
  | 2,_=>exact h2
  | 3,_=>exact h3
  | 4,_=>exact h4
 rcases this with rfl | rfl | rfl | rfl | rfl | rfl | rfl | rfl | rfl | rfl | rfl | rfl | rfl
 ·exact⟨0,by decide,by decide,by decide,five (by decide) (by decide) (by decide) (by decide) (by decide)⟩
 ·exact⟨1,by decide,by decide,by decide,five (by decide) (by decide) (by decide) (by decide) (by decide)⟩
 ·exact⟨2,by decide,by decide,by decide,five (by decide) (by decide) (by decide) (by decide) (by decide)⟩
 ·exact⟨2,by decide,by decide,by decide,five (by decide) (by decide) (by decide) (by decide) (by decide)⟩
 ·exact⟨2,by decide,by decide,by decide,five (by decide) (by decide) (by decide) (by decide) (by decide)⟩
 ·exact⟨2,by decide,by decide,by decide,five (by decide) (by decide) (by decide) (by decide) (by decide)⟩
 ·exact⟨2,by decide,by decide,by decide,five (by decide) (by decide) (by decide) (by decide) (by decide)⟩
 ·exact⟨2,by decide,by decide,by decide,five (by decide) (by decide) (by decide) (by decide) (by decide)⟩
 ·exact⟨3,by decide,by decide,by decide,five (by decide) (by decide) (by decide) (by decide) (by decide)⟩
 ·exact⟨3,by decide,by decide,by decide,five (by decide) (by decide) (by decide) (by decide) (by decide)⟩
 ·exact⟨4,by decide,by decide,by decide,five (by decide) (by decide) (by decide) (by decide) (by decide)⟩
 ·exact⟨4,by decide,by decide,by decide,five (by decide) (by decide) (by decide) (by decide) (by decide)⟩
 exact⟨4,by decide,by decide,by decide,five (by decide) (by decide) (by decide) (by decide) (by decide)⟩
def zeM (l:List Node) (k:Int):Nat:=(zaq l k.toNat).toNat
def OB (l:List Node) (k:Int):List Node:=l.take (zeM l k)
def OA (l:List Node) (k:Int):List Node:=l.take (k.toNat+1)
def szN (l:List Node) (k:Int):Nat:=k.toNat+1 - zeM l k
def FU (l:List Node) (k:Int):Nat:=20*szN l k+20
def tkI (l:List Node) (k:Int):List Token:=tkS l k.toNat
def zau (u:Token):Prop:=∀ rest,isS [91] (u::rest)=false
def zkP (u:Token):Prop:=∀ rest,isS [63] (u::rest)=false
def NoOp (r:Nat) (u:Token):Prop:=∀ k,r≤k→k≤4→u.Kind=4→opS k u.Text=none
theorem NoOp.mono {r r':Nat} {u:Token} (h:NoOp r u) (hr:r≤r'):NoOp r' u:=fun k h1 h2 h3=>h k (by omega) h2 h3
structure PE (l:List Node) (k:Int):Prop where
 ex:∀ n d u rest,FU l k≤n→NoOp 0 u→zau u→zkP u→zC (zA n d (tkI l k++u::rest) (OB l k)) k (u::rest) (OA l k)
 cv:∀ r:Nat,r≤5→(r:Int) < rkK l k→∀ n d u rest,FU l k≤n+1+r→NoOp r u→zau u→zC (zq n r d (tkI l k++u::rest) (OB l k)) k (u::rest) (OA l k)
 lp:∀ r:Nat,r < 5→r≠2→(r:Int) < rkK l k→∀ n d u rest,FU l k≤n+1+r→NoOp (r+1) u→zau u→∃ n',n≤n'+szN l k∧eqOr (zq n r d (tkI l k++u::rest) (OB l k)) (zM n' r d k (u::rest) (OA l k))
 un:6≤rkK l k→∀ n d u rest,FU l k≤n+7→zau u→zC (unS n d (tkI l k++u::rest) (OB l k)) k (u::rest) (OA l k)
 po:7≤rkK l k→∀ n d X,FU l k≤n+8→X≠[]→∃ n',n≤n'+szN l k+1∧eqOr (zay n d (tkI l k++X) (OB l k)) (zad n' d k X (OA l k))
 sz:0 < szN l k
theorem zpS:NoOp 0 rpT:=fun k _ h4 _=>by
 match k,h4 with
 | 0,_=>decide
 | 1,_=>decide
 | 2,_=>decide
 | 3,_=>decide
 | 4,_=>decide
theorem znc:zau rpT:=fun _=>by simp[isS,rpT]
theorem zp3:zkP rpT:=fun _=>by simp[isS,rpT]
theorem zjq {l:List Node} {k least:Int} (h:rkK l k < least) (X:List Token):wrK l (tkI l) k least++X=lpT::(tkI l k++rpT::X):=by
 rw[wrK,if_pos h]
 simp
theorem zib {l:List Node} {k least:Int} (h:¬ rkK l k < least) (X:List Token):wrK l (tkI l) k least++X=tkI l k++X:=by rw[wrK,if_neg h]
section
variable {l:List Node} {k:Int} (p:PE l k)
include p
theorem zkD (n d:Nat) (u:Token) (rest:List Token) (hn:FU l k+3≤n) (hu:zau u):zC (unS n d (lpT::(tkI l k++rpT::u::rest)) (OB l k)) k (u::rest) (OA l k):=by
 obtain⟨m,rfl⟩:∃ m,n=m+3:=⟨n - 3,by omega⟩
 exact zxl (hu rest) (p.ex m (d+1) rpT (u::rest) (by omega) zpS znc zp3)
theorem zmB {least:Int} {r:Nat} (hr:r≤5) (hle:(r:Int) < least) (n d:Nat) (u:Token) (rest:List Token) (hn:FU l k+9≤n) (ho:NoOp r u) (hu:zau u):zC (zq n r d (wrK l (tkI l) k least++u::rest) (OB l k)) k (u::rest) (OA l k):=by
 by_cases h:rkK l k < least
 ·rw[zjq h]
  exact zhj (5 - r) r (by omega) n (by omega) (zkD p _ d u rest (by omega) hu) ho
 rw[zib h]
 exact p.cv r hr (by omega) n d u rest (by omega) ho hu
theorem w_un (n d:Nat) (u:Token) (rest:List Token) (hn:FU l k+9≤n) (hu:zau u):zC (unS n d (wrK l (tkI l) k 6++u::rest) (OB l k)) k (u::rest) (OA l k):=by
 by_cases h:rkK l k < 6
 ·rw[zjq h]
  exact zkD p n d u rest (by omega) hu
 rw[zib h]
 exact p.un (by omega) n d u rest (by omega) hu
theorem w_po (n d:Nat) (X:List Token) (hX:X≠[]) (hn:FU l k+9≤n):∃ n',n≤n'+szN l k+1∧eqOr (zay n d (wrK l (tkI l) k 7++X) (OB l k)) (zad n' d k X (OA l k)):=by
 by_cases h:rkK l k < 7
 ·rw[zjq h]
  obtain⟨m,rfl⟩:∃ m,n=m+2:=⟨n - 2,by omega⟩
  exact⟨m+1,by omega,zhE (znL (p.ex m (d+1) rpT X (by omega) zpS znc zp3))⟩
 rw[zib h]
 exact p.po (by omega) n d X (by omega) hX
theorem w_lp {r:Nat} (hr:r < 5) (h2:r≠2) (n d:Nat) (u:Token) (rest:List Token) (hn:FU l k+10≤n) (ho:NoOp (r+1) u) (hu:zau u):∃ n',n≤n'+szN l k∧eqOr (zq n r d (wrK l (tkI l) k ((r:Int)+1)++u::rest) (OB l k)) (zM n' r d k (u::rest) (OA l k)):=by
 by_cases h:rkK l k < (r:Int)+1
 ·rw[zjq h]
  obtain⟨m,rfl⟩:∃ m,n=m+1:=⟨n - 1,by omega⟩
  have:=p.sz
  exact⟨m,by omega,zf8 hr (zhj (4 - r) (r+1) (by omega) m (by omega) (zkD p _ d u rest (by omega) hu) ho)⟩
 rw[zib h]
 exact p.lp r hr h2 (by omega) n d u rest (by omega) ho hu
end
theorem zvp {l:List Node} {k:Int} {q:Nat} (hq:q≤5) (h:∀ n d u rest,FU l k≤n+1+q→NoOp q u→zau u→zC (zq n q d (tkI l k++u::rest) (OB l k)) k (u::rest) (OA l k)):∀ (w r:Nat),r+w=q→∀ n d u rest,FU l k≤n+1+r→NoOp r u→zau u→zC (zq n r d (tkI l k++u::rest) (OB l k)) k (u::rest) (OA l k)
 | 0,r,hr,n,d,u,rest,hn,ho,hu=>by
  obtain rfl:r=q:=by omega
  exact h n d u rest hn ho hu
 | w+1,r,hr,n,d,u,rest,hn,ho,hu=>by
  have hf:20≤FU l k:=by unfold FU;omega
  obtain⟨m,rfl⟩:∃ m,n=m+2:=⟨n - 2,by omega⟩
  have:=zvp hq h w (r+1) (by omega) (m+1) d u rest (by omega) (ho.mono (by omega)) hu
  rw[zq,if_neg (by omega)]
  rcases this with h | h
  ·rw[h]
   left
   simp only[PR.bind]
   exact zg3 (ho r (Nat.le_refl _) (by omega)) _ _ _ _ _
  rw[h];exact .inr rfl
theorem zbD {n:Node} (h:zp n=true):plS n=true:=by
 simp only[zp,Bool.and_eq_true] at h
 exact h.2
theorem zdp {n m:Node} (h1:n.Kind=m.Kind) (h2:n.Num=m.Num) (h3:n.Text=m.Text) (h4:n.Parts=m.Parts) (h5:n.Kids=m.Kids):n=m:=by
 cases n;cases m;simp_all
theorem zem {n:Node} (h:zp n=true) (h4:n.Kind≤4):n.Kids=[]:=by
 have h1:=zbl h
 have:=h1.2.2 (by omega) (by omega)
 rw[show kdS n.Kind=0 by unfold kdS;repeat' first | omega | split] at this
 exact List.length_eq_zero_iff.1 (by omega)
theorem zzz {n:Node} (h:zp n=true) (k:n.Kind=1):n=⟨1,n.Num,[],[],[]⟩:=by
 have hp:=zbD h
 rw[plS,if_pos k] at hp
 simp only[Bool.and_eq_true,decide_eq_true_eq] at hp
 exact zdp k rfl hp.1.2 hp.2 (zem h (by omega))
theorem zzm {n:Node} (h:zp n=true) (k:n.Kind=2):n=⟨2,0,[],n.Parts,[]⟩:=by
 have hp:=zbD h
 rw[plS,if_neg (by omega),if_neg (by omega),if_neg (by omega),if_neg (by omega),if_pos k] at hp
 simp only[Bool.and_eq_true,decide_eq_true_eq] at hp
 exact zdp k hp.1.1 hp.1.2 rfl (zem h (by omega))
theorem zzk {n:Node} (h:zp n=true) (k:n.Kind=3):(n.Num=0∨n.Num=1)∧n=⟨3,n.Num,[],[],[]⟩:=by
 have hp:=zbD h
 rw[plS,if_neg (by omega),if_pos k] at hp
 simp only[Bool.and_eq_true,Bool.or_eq_true,decide_eq_true_eq] at hp
 exact⟨hp.1.1,zdp k rfl hp.1.2 hp.2 (zem h (by omega))⟩
theorem zu7 {n:Node} (h:zp n=true) (k:n.Kind=4):zJ n.Text=true∧zaT (Lib.cut n.Text [46]).1=false∧n=nd 4 n.Text []:=by
 have hp:=zbD h
 rw[plS,if_neg (by omega),if_neg (by omega),if_pos k] at hp
 simp only[Bool.and_eq_true,decide_eq_true_eq,Bool.not_eq_true'] at hp
 exact⟨hp.1.1.1,hp.1.2,zdp k hp.1.1.2 rfl hp.2 (zem h (by omega))⟩
theorem zu8 {n:Node} (h:zp n=true) (k:n.Kind=5):zN n.Text=true∧zaT n.Text=false∧n=nd 5 n.Text n.Kids:=by
 have hp:=zbD h
 rw[plS,if_neg (by omega),if_neg (by omega),if_neg (by omega),if_pos k] at hp
 simp only[Bool.and_eq_true,decide_eq_true_eq,Bool.not_eq_true'] at hp
 exact⟨hp.1.1.1,hp.1.2,zdp k hp.1.1.2 rfl hp.2 rfl⟩
theorem zhP {n:Node} (h:zp n=true) (k:6≤n.Kind):n=nd n.Kind [] n.Kids:=by
 have hp:=zbD h
 rw[plS,if_neg (by omega),if_neg (by omega),if_neg (by omega),if_neg (by omega),if_neg (by omega)] at hp
 simp only[Bool.and_eq_true,decide_eq_true_eq] at hp
 exact zdp rfl hp.1.1 hp.1.2 hp.2 rfl
theorem ztb {l:List Node} {e:Nat} (he:e < l.length):l.take (e+1)=l.take e++[l[e]]:=by
 rw[List.take_add_one,List.getElem?_eq_getElem he]
 rfl
def HdOk (s:List (List UInt8)) (T:List Token):Prop:=∃ t r,T=t::r∧(t.Kind≠4∨t.Text ∈ s)
theorem HdOk.isS {s:List (List UInt8)} {T:List Token} (h:HdOk s T) {x:List UInt8} (hx:x ∉ s) (X:List Token):isS x (T++X)=false:=by
 obtain⟨t,r,rfl,h⟩:=h
 rw[←Bool.not_eq_true]
 simp only[List.cons_append,M.isS,Bool.and_eq_true,decide_eq_true_eq]
 rintro ⟨h4,ht⟩
 rcases h with h | h
 ·exact h h4
 exact hx (ht ▸ h)
theorem HdOk.app {s:List (List UInt8)} {T:List Token} (h:HdOk s T) (X:List Token):HdOk s (T++X):=by
 obtain⟨t,r,rfl,h⟩:=h
 exact⟨t,r++X,rfl,h⟩
theorem HdOk.mono {s s':List (List UInt8)} {T:List Token} (h:HdOk s T) (hs:∀ x ∈ s,x ∈ s'):HdOk s' T:=by
 obtain⟨t,r,e,h⟩:=h
 exact⟨t,r,e,h.imp id (hs _)⟩
def hd7:List (List UInt8):=[[40],[91]]
def hd0:List (List UInt8):=[[40],[91],[33],[45]]
theorem zpU {l:List Node} (h:TR l):∀ (e:Nat) (he:e < l.length),HdOk hd0 (tkS l e)∧(7≤rkS l[e].Kind→HdOk hd7 (tkS l e)):=by
 intro e
 induction e using Nat.strongRecOn with
 | _ e ih =>
  intro he
  obtain⟨hok,hk,hlen⟩:=h.node e he
  have kd:=fun i (hi:i < l[e].Kids.length)=>zn1 h he (i:=i) hi
  have hki:∀ i (hi:i < l[e].Kids.length),HdOk hd0 (tkI l (kid l[e] i))∧(7≤rkK l (kid l[e] i)→HdOk hd7 (tkI l (kid l[e] i))):=fun i hi=>by
   obtain⟨v,a1,a2,a3,a4,a5,a6,a7⟩:=kd i hi
   have hlt:(kid l[e] i).toNat < l.length:=by omega
   have:=ih _ a3 hlt
   rw[List.getElem?_eq_getElem hlt] at a4
   have hv:=Option.some.inj a4
   rw[hv] at this
   rw[a5]
   exact this
  rw[zj0 he hok hk]
  generalize l[e]=n at *
  have h1:=zbl hok
  have w0:0 < n.Kids.length→∀ least X,HdOk hd0 (wrK l (fun k=>tkS l k.toNat) (kid n 0) least++X):=fun hc least X=>by
   unfold wrK
   split
   ·exact HdOk.app ⟨lpT,_,rfl,.inr (by decide)⟩ X
   exact (hki 0 hc).1.app X
  rw[ndK]
  by_cases k1:n.Kind=1
  ·rw[if_pos k1];exact⟨⟨_,_,rfl,.inl (by simp[zja])⟩,fun _=>⟨_,_,rfl,.inl (by simp[zja])⟩⟩
  rw[if_neg k1]
  by_cases k2:n.Kind=2
  ·rw[if_pos k2];exact⟨⟨_,_,rfl,.inl (by simp[zhb])⟩,fun _=>⟨_,_,rfl,.inl (by simp[zhb])⟩⟩
  rw[if_neg k2]
  by_cases k3:n.Kind=3
  ·rw[if_pos k3];exact⟨⟨_,_,rfl,.inl (by simp[tn])⟩,fun _=>⟨_,_,rfl,.inl (by simp[tn])⟩⟩
  rw[if_neg k3]
  by_cases k4:n.Kind=4
  ·rw[if_pos k4];exact⟨⟨_,_,rfl,.inl (by simp[tn])⟩,fun _=>⟨_,_,rfl,.inl (by simp[tn])⟩⟩
  rw[if_neg k4]
  by_cases k5:n.Kind=5
  ·rw[if_pos k5];exact⟨⟨_,_,rfl,.inl (by simp[tn])⟩,fun _=>⟨_,_,rfl,.inl (by simp[tn])⟩⟩
  rw[if_neg k5]
  by_cases k6:n.Kind=6
  ·rw[if_pos k6];exact⟨⟨_,_,rfl,.inr (by decide)⟩,fun _=>⟨_,_,rfl,.inr (by decide)⟩⟩
  rw[if_neg k6]
  by_cases k7:n.Kind=7
  ·have hc:=kdk hok 7 2 k7 (by decide) (by decide) (by decide)
   rw[if_pos k7]
   refine⟨w0 (by omega) _ _,fun _=>?_⟩
   unfold wrK
   split
   ·exact HdOk.app ⟨lpT,_,rfl,.inr (by decide)⟩ _
   exact ((hki 0 (by omega)).2 (by omega)).app _
  rw[if_neg k7]
  by_cases k8:n.Kind=8
  ·rw[if_pos k8];exact⟨⟨_,_,rfl,.inr (by decide)⟩,fun hf=>by rw[k8] at hf;exact absurd hf (by decide)⟩
  rw[if_neg k8]
  by_cases k9:n.Kind=9
  ·rw[if_pos k9];exact⟨⟨_,_,rfl,.inr (by decide)⟩,fun hf=>by rw[k9] at hf;exact absurd hf (by decide)⟩
  rw[if_neg k9]
  by_cases k10:n.Kind=10
  ·have hc:=kdk hok 10 3 k10 (by decide) (by decide) (by decide)
   rw[if_pos k10];exact⟨w0 (by omega) _ _,fun hf=>by rw[k10] at hf;exact absurd hf (by decide)⟩
  rw[if_neg k10]
  have hc:=kd2 hok (by omega)
  refine⟨w0 (by omega) _ _,fun hf=>?_⟩
  obtain⟨r,r4,hr,_⟩:=zsM (k:=n.Kind) (by omega) (by omega)
  omega
def CL (c:List UInt8):Prop:=c=[41]∨c=[93]
theorem zeJ {c:List UInt8} (h:c=[44]∨CL c):NoOp 0 (tg c)∧zau (tg c)∧zkP (tg c):=by
 refine⟨fun k _ h4 _=>?_,fun _=>?_,fun _=>?_⟩
 ·match k,h4 with
  | 0,_=>rcases h with rfl | rfl | rfl <;> decide
  | 1,_=>rcases h with rfl | rfl | rfl <;> decide
  | 2,_=>rcases h with rfl | rfl | rfl <;> decide
  | 3,_=>rcases h with rfl | rfl | rfl <;> decide
  | 4,_=>rcases h with rfl | rfl | rfl <;> decide
 ·rcases h with rfl | rfl | rfl <;> simp[isS,tg]
 rcases h with rfl | rfl | rfl <;> simp[isS,tg]
theorem za3 (c:List UInt8) (X:List Token):isS c (tg c::X)=true:=by simp[isS,tg]
theorem zkj {c s:List UInt8} (h:c≠s) (X:List Token):isS s (tg c::X)=false:=by simp[isS,tg,h]
theorem zeq {l:List Node} {k:Int} {b:Nat} (h:zaq l k.toNat=b):OB l k=l.take b∧zeM l k=b:=by
 have:zeM l k=b:=by unfold zeM;omega
 exact⟨by rw[OB,this],this⟩
theorem zju {l:List Node} {c:List UInt8} (hc:CL c) (d:Nat) (X:List Token):∀ (ks:List Int) (b e:Nat) (acc:List Int) (n:Nat),KC l b ks e→(∀ k ∈ ks,PE l k)→20*(e - b)+21≤n→zC (zaG n d c acc (tcG (tkI l) ks++tg c::X) (l.take b)) (acc++ks) X (l.take e)
 | [],b,e,acc,n,hk,_,hn=>by
  obtain rfl:b=e:=hk
  obtain⟨m,rfl⟩:∃ m,n=m+1:=⟨n - 1,by omega⟩
  rw[tcG,List.nil_append,zaG,zkj (by rcases hc with rfl | rfl <;> decide),if_neg (by decide),zal,za3,if_pos rfl]
  exact .inl (by simp)
 | k::ks,b,e,acc,n,⟨h0,hb,hr⟩,hp,hn=>by
  obtain⟨m,rfl⟩:∃ m,n=m+1:=⟨n - 1,by omega⟩
  have pk:=hp k (List.mem_cons_self ..)
  obtain⟨o1,o2⟩:=zeq hb
  have hsz:=pk.sz
  have hle:k.toNat+1≤e:=by
   clear hn hsz pk hp o1 o2 hb
   induction ks generalizing k b acc with
   | nil=>exact Nat.le_of_eq hr
   | cons q ks ih =>
    obtain⟨q0,qb,qr⟩:=hr
    have:=ih (k:=q) (b:=k.toNat+1) (acc:=acc) q0 qr
    have hle:=zbO l q.toNat
    omega
  have hs:szN l k=k.toNat+1 - b:=by unfold szN;rw[o2]
  rw[tcG,List.cons_append,zaG,za3,if_pos rfl,List.tail_cons,List.append_assoc]
  obtain⟨u,rest,hu,hX⟩:∃ u rest,(u=tg [44]∨u=tg c)∧tcG (tkI l) ks++tg c::X=u::rest:=by
   cases ks with
   | nil=>exact⟨tg c,X,.inr rfl,rfl⟩
   | cons q ks=>exact⟨tg [44],_,.inl rfl,rfl⟩
  have hno:NoOp 0 u∧zau u∧zkP u:=by
   rcases hu with rfl | rfl
   ·exact zeJ (.inl rfl)
   exact zeJ (.inr hc)
  have h1:=pk.ex m d u rest (by unfold FU;omega) hno.1 hno.2.1 hno.2.2
  rw[o1] at h1
  rw[hX]
  refine zcQ h1 ?_
  have:=zju hc d X ks (k.toNat+1) e (acc++[k]) m hr (fun q hq=>hp q (List.mem_cons_of_mem _ hq)) (by omega)
  rw[hX] at this
  rw[show acc++k::ks=(acc++[k])++ks by simp]
  exact this
theorem PE.of {l:List Node} {k:Int} {q:Nat} (hq:q≤5) (hmax:∀ r:Nat,r≤5→(r:Int) < rkK l k→r≤q) (sz:0 < szN l k)
  (cvq:∀ n d u rest,FU l k≤n+1+q→NoOp q u→zau u→zC (zq n q d (tkI l k++u::rest) (OB l k)) k (u::rest) (OA l k))
  (lpq:q < 5→q≠2→∀ n d u rest,FU l k≤n+1+q→NoOp (q+1) u→zau u→∃ n',n≤n'+szN l k∧eqOr (zq n q d (tkI l k++u::rest) (OB l k)) (zM n' q d k (u::rest) (OA l k)))
  (un:6≤rkK l k→∀ n d u rest,FU l k≤n+7→zau u→zC (unS n d (tkI l k++u::rest) (OB l k)) k (u::rest) (OA l k))
  (po:7≤rkK l k→∀ n d X,FU l k≤n+8→X≠[]→∃ n',n≤n'+szN l k+1∧eqOr (zay n d (tkI l k++X) (OB l k)) (zad n' d k X (OA l k))):PE l k:=by
 have cl:∀ r,r≤q→∀ n d u rest,FU l k≤n+1+r→NoOp r u→zau u→zC (zq n r d (tkI l k++u::rest) (OB l k)) k (u::rest) (OA l k):=fun r hr=>zvp hq cvq (q - r) r (by omega)
 have hf:20≤FU l k:=by unfold FU;omega
 refine⟨fun n d u rest hn ho hu hi=>?_,fun r hr hrk=>cl r (hmax r hr hrk),fun r hr h2 hrk n d u rest hn ho hu=>?_,un,po,sz⟩
 ·obtain⟨m,rfl⟩:∃ m,n=m+1:=⟨n - 1,by omega⟩
  rw[zA]
  refine zcQ (cl 0 (by omega) m d u rest (by omega) ho hu) ?_
  rw[hi rest,if_neg (by decide)]
  exact .inl rfl
 have hrq:=hmax r (by omega) hrk
 by_cases e:r=q
 ·subst e
  exact lpq hr h2 n d u rest hn ho hu
 obtain⟨m,rfl⟩:∃ m,n=m+1:=⟨n - 1,by omega⟩
 exact⟨m,by omega,zf8 hr (cl (r+1) (by omega) m d u rest (by omega) ho hu)⟩
theorem PE.ofUn {l:List Node} {k:Int} (hr:rkK l k=6) (sz:0 < szN l k)
  (un:∀ n d u rest,FU l k≤n+7→zau u→zC (unS n d (tkI l k++u::rest) (OB l k)) k (u::rest) (OA l k)):PE l k:=by
 refine PE.of (q:=5) (Nat.le_refl _) (fun r h _=>h) sz (fun n d u rest hn ho hu=>?_) (fun h=>by omega) (fun _=>un) (fun h=>by omega)
 have hf:20≤FU l k:=by unfold FU;omega
 obtain⟨m,rfl⟩:∃ m,n=m+1:=⟨n - 1,by omega⟩
 rw[zq,if_pos rfl]
 exact un m d u rest (by omega) hu
theorem PE.ofPo {l:List Node} {k:Int} (hd:HdOk hd7 (tkI l k)) (sz:0 < szN l k)
  (po:∀ n d X,FU l k≤n+8→X≠[]→∃ n',n≤n'+szN l k+1∧eqOr (zay n d (tkI l k++X) (OB l k)) (zad n' d k X (OA l k))):PE l k:=by
 have un:∀ n d u rest,FU l k≤n+7→zau u→zC (unS n d (tkI l k++u::rest) (OB l k)) k (u::rest) (OA l k):=fun n d u rest hn hu=>by
  have hf:20*szN l k+20=FU l k:=rfl
  obtain⟨m,rfl⟩:∃ m,n=m+1:=⟨n - 1,by omega⟩
  rw[zoT (hd.isS (by decide) _) (hd.isS (by decide) _)]
  obtain⟨n',h1,h2⟩:=po m d (u::rest) (by omega) (by simp)
  obtain⟨m',rfl⟩:∃ m',n'=m'+1:=⟨n' - 1,by omega⟩
  exact h2.ok (.inl (zjg (hu rest)))
 refine PE.of (q:=5) (Nat.le_refl _) (fun r h _=>h) sz (fun n d u rest hn ho hu=>?_) (fun h=>by omega) (fun _=>un) (fun _=>po)
 have hf:20≤FU l k:=by unfold FU;omega
 obtain⟨m,rfl⟩:∃ m,n=m+1:=⟨n - 1,by omega⟩
 rw[zq,if_pos rfl]
 exact un m d u rest (by omega) hu
theorem PE.ofPrim {l:List Node} {k:Int} (hd:HdOk hd7 (tkI l k)) (sz:0 < szN l k)
  (pr:∀ n d X,FU l k≤n+9→X≠[]→zC (zx n d (tkI l k++X) (OB l k)) k X (OA l k)):PE l k :=
 PE.ofPo hd sz fun n d X hn hX=>by
  have hf:20≤FU l k:=by unfold FU;omega
  obtain⟨m,rfl⟩:∃ m,n=m+1:=⟨n - 1,by omega⟩
  exact⟨m,by omega,zhE (pr m d X (by omega) hX)⟩
theorem zvt {l:List Node}:∀ {ks:List Int} {b e:Nat},KC l b ks e→b≤e
 | [],b,e,h=>Nat.le_of_eq h
 | k::ks,b,e,⟨h0,hb,hr⟩=>by
  have:=zvt hr
  have hle:=zbO l k.toNat
  omega
theorem zjQ {l:List Node} {c:List UInt8} (hc:CL c) (d:Nat) (X:List Token) (ks:List Int) (b e n:Nat) (hk:KC l b ks e) (hp:∀ k ∈ ks,PE l k∧HdOk hd0 (tkI l k)) (hn:20*(e - b)+22≤n):zC (zam n d c (tcS (tkI l) ks++tg c::X) (l.take b)) ks X (l.take e):=by
 obtain⟨m,rfl⟩:∃ m,n=m+1:=⟨n - 1,by omega⟩
 cases ks with
 | nil =>
  obtain rfl:b=e:=hk
  rw[tcS,List.nil_append,zam,za3,if_pos rfl]
  exact .inl rfl
 | cons k ks =>
  obtain⟨h0,hb,hr⟩:=hk
  obtain⟨pk,hd⟩:=hp k (List.mem_cons_self ..)
  obtain⟨o1,o2⟩:=zeq hb
  have hle:=zvt hr
  have hsz:=pk.sz
  have hs:szN l k=k.toNat+1 - b:=by unfold szN;rw[o2]
  rw[tcS,List.append_assoc,zam,hd.isS (by rcases hc with rfl | rfl <;> decide),if_neg (by decide)]
  obtain⟨u,rest,hu,hX⟩:∃ u rest,(u=tg [44]∨u=tg c)∧tcG (tkI l) ks++tg c::X=u::rest:=by
   cases ks with
   | nil=>exact⟨tg c,X,.inr rfl,rfl⟩
   | cons q ks=>exact⟨tg [44],_,.inl rfl,rfl⟩
  have hno:NoOp 0 u∧zau u∧zkP u:=by
   rcases hu with rfl | rfl
   ·exact zeJ (.inl rfl)
   exact zeJ (.inr hc)
  have h1:=pk.ex m d u rest (by unfold FU;omega) hno.1 hno.2.1 hno.2.2
  rw[o1] at h1
  rw[hX]
  refine zcQ h1 ?_
  have:=zju hc d X ks (k.toNat+1) e [k] m hr (fun q hq=>(hp q (List.mem_cons_of_mem _ hq)).1) (by omega)
  rw[hX] at this
  exact this
section
variable {l:List Node} {o:Int→List Token} {n:Node}
theorem nk1 (h:n.Kind=1):ndK l o n=[zja n.Num]:=by rw[ndK,if_pos h]
theorem nk2 (h:n.Kind=2):ndK l o n=[zhb n.Parts]:=by rw[ndK,if_neg (by omega),if_pos h]
theorem nk3 (h:n.Kind=3):ndK l o n=[tn (Lib.formatBool (decide (n.Num=1)))]:=by rw[ndK,if_neg (by omega),if_neg (by omega),if_pos h]
theorem nk4 (h:n.Kind=4):ndK l o n=zm7 n.Text:=by rw[ndK,if_neg (by omega),if_neg (by omega),if_neg (by omega),if_pos h]
theorem nk5 (h:n.Kind=5):ndK l o n=tn n.Text::lpT::(tcS o n.Kids++[rpT]):=by rw[ndK,if_neg (by omega),if_neg (by omega),if_neg (by omega),if_neg (by omega),if_pos h]
theorem nk6 (h:n.Kind=6):ndK l o n=tg [91]::(tcS o n.Kids++[tg [93]]):=by rw[ndK,if_neg (by omega),if_neg (by omega),if_neg (by omega),if_neg (by omega),if_neg (by omega),if_pos h]
theorem nk7 (h:n.Kind=7):ndK l o n=wrK l o (kid n 0) 7++tg [91]::(o (kid n 1)++[tg [93]]):=by rw[ndK,if_neg (by omega),if_neg (by omega),if_neg (by omega),if_neg (by omega),if_neg (by omega),if_neg (by omega),if_pos h]
theorem nk8 (h:n.Kind=8):ndK l o n=tg [33]::wrK l o (kid n 0) 6:=by rw[ndK,if_neg (by omega),if_neg (by omega),if_neg (by omega),if_neg (by omega),if_neg (by omega),if_neg (by omega),if_neg (by omega),if_pos h]
theorem nk9 (h:n.Kind=9):ndK l o n=tg [45]::wrK l o (kid n 0) 6:=by rw[ndK,if_neg (by omega),if_neg (by omega),if_neg (by omega),if_neg (by omega),if_neg (by omega),if_neg (by omega),if_neg (by omega),if_neg (by omega),if_pos h]
theorem zuS (h:n.Kind=10):ndK l o n=wrK l o (kid n 0) 1++tg [63]::(o (kid n 1)++tg [58]::o (kid n 2)):=by rw[ndK,if_neg (by omega),if_neg (by omega),if_neg (by omega),if_neg (by omega),if_neg (by omega),if_neg (by omega),if_neg (by omega),if_neg (by omega),if_neg (by omega),if_pos h]
theorem zqs (h:10 < n.Kind):ndK l o n=wrK l o (kid n 0) (if rkS n.Kind=3 then rkS n.Kind+1 else rkS n.Kind)++tg (zaS n.Kind)::wrK l o (kid n 1) (rkS n.Kind+1):=by rw[ndK,if_neg (by omega),if_neg (by omega),if_neg (by omega),if_neg (by omega),if_neg (by omega),if_neg (by omega),if_neg (by omega),if_neg (by omega),if_neg (by omega),if_neg (by omega)]
end
theorem zuM (m d:Nat) (z:Int) (X:List Token) (out:List Node):zx (m+1) d (zja z::X) out=.ok (out.length:Nat) X (out++[⟨1,z,[],[],[]⟩]):=by simp[zx,zja]
theorem zuf (m d:Nat) (p:List Part) (X:List Token) (out:List Node):zx (m+1) d (zhb p::X) out=.ok (out.length:Nat) X (out++[⟨2,0,[],p,[]⟩]):=by simp[zx,zhb]
theorem zrC (m d:Nat) (X:List Token) (out:List Node):zx (m+1) d (tn [116,114,117,101]::X) out=.ok (out.length:Nat) X (out++[⟨3,1,[],[],[]⟩]):=by simp[zx,tn]
theorem zq6 (m d:Nat) (X:List Token) (out:List Node):zx (m+1) d (tn [102,97,108,115,101]::X) out=.ok (out.length:Nat) X (out++[⟨3,0,[],[],[]⟩]):=by simp[zx,tn]
theorem znd {s:List UInt8} (h:zaT s=false):s≠[116,114,117,101]∧s≠[102,97,108,115,101]:=by
 simpa [zaT] using h
theorem zu1 (m d:Nat) {x y:List UInt8} (hx:zaT x=false) (X:List Token) (out:List Node):zx (m+1) d (tn x::tg [46]::tn y::X) out=.ok (out.length:Nat) X (out++[nd 4 ((x++[46])++y) []]):=by
 obtain⟨h1,h2⟩:=znd hx
 simp[zx,tn,tg,isS,h1,h2]
theorem zrB (m d:Nat) {x:List UInt8} (hx:zaT x=false) {T X:List Token} {out o:List Node} {ks:List Int} (h:zC (zam m (d+1) [41] T out) ks X o):zC (zx (m+1) d (tn x::lpT::T) out) (o.length:Nat) X (o++[nd 5 x ks]):=by
 obtain⟨h1,h2⟩:=znd hx
 have e:zx (m+1) d (tn x::lpT::T) out=if 64≤d then .er 6 else (zam m (d+1) [41] T out).bind fun l ts out=>.ok ((out.length:Nat):Int) ts (out++[nd 5 x l]):=by
  simp[zx,tn,lpT,isS,zW,h1,h2]
 rw[e]
 by_cases hd:64≤d
 ·rw[if_pos hd];exact .inr rfl
 rw[if_neg hd]
 rcases h with h | h
 ·rw[h];exact .inl rfl
 rw[h];exact .inr rfl
theorem zr9 (m d:Nat) {T X:List Token} {out o:List Node} {ks:List Int} (h:zC (zam m (d+1) [93] T out) ks X o):zC (zx (m+1) d (tg [91]::T) out) (o.length:Nat) X (o++[nd 6 [] ks]):=by
 have e:zx (m+1) d (tg [91]::T) out=if 64≤d then .er 6 else (zam m (d+1) [93] T out).bind fun l ts out=>.ok ((out.length:Nat):Int) ts (out++[nd 6 [] l]):=by
  simp[zx,tg,isS,zW]
 rw[e]
 by_cases hd:64≤d
 ·rw[if_pos hd];exact .inr rfl
 rw[if_neg hd]
 rcases h with h | h
 ·rw[h];exact .inl rfl
 rw[h];exact .inr rfl
theorem zsj {m d:Nat} {a b:Int} {T X:List Token} {out o:List Node} (h:zC (zA m (d+1) T out) b (tg [93]::X) o):eqOr (zad (m+1) d a (tg [91]::T) out) (zad m d (o.length:Nat) X (o++[nd 7 [] [a,b]])):=by
 have e:zad (m+1) d a (tg [91]::T) out=if 64≤d then .er 6 else (zA m (d+1) T out).bind fun b ts out=>zal [93] ts fun ts=>zad m d (out.length:Nat) ts (out++[nd 7 [] [a,b]]):=by
  rw[zad,za3,if_pos rfl,zW,za3,if_pos rfl,List.tail_cons]
 rw[e]
 by_cases hd:64≤d
 ·rw[if_pos hd];exact .inr rfl
 rw[if_neg hd]
 rcases h with h | h
 ·rw[h]
  left
  simp only[PR.bind,zal]
  rw[za3,if_pos rfl,List.tail_cons]
 rw[h];exact .inr rfl
theorem zxz {m d:Nat} {a:Int} {T X:List Token} {out o:List Node} (h:zC (unS m (d+1) T out) a X o):zC (unS (m+1) d (tg [45]::T) out) (o.length:Nat) X (o++[nd 9 [] [a]]):=by
 rw[unS,za3,if_pos rfl,zW,za3,if_pos rfl,List.tail_cons]
 by_cases hd:64≤d
 ·rw[if_pos hd];exact .inr rfl
 rw[if_neg hd]
 rcases h with h | h
 ·rw[h];exact .inl rfl
 rw[h];exact .inr rfl
theorem zy5 {m d:Nat} {a:Int} {T X:List Token} {out o:List Node} (h:zC (unS m (d+1) T out) a X o):zC (unS (m+1) d (tg [33]::T) out) (o.length:Nat) X (o++[nd 8 [] [a]]):=by
 rw[unS,zkj (by decide),if_neg (by decide),za3,if_pos rfl,zW,za3,if_pos rfl,List.tail_cons]
 by_cases hd:64≤d
 ·rw[if_pos hd];exact .inr rfl
 rw[if_neg hd]
 rcases h with h | h
 ·rw[h];exact .inl rfl
 rw[h];exact .inr rfl
end Go.Proofs.YtfbcnpbhhooapaaGreatDoor.M
namespace Go.Proofs.YtfbcnpbhhooapaaGreatDoor.M
open Go Classical
def Dg (l:List UInt8):Prop:=∀ c ∈ l,48≤c.toNat∧c.toNat≤57
theorem zux (c:UInt8):inC [3] c=true↔48≤c.toNat∧c.toNat≤57:=by
 unfold inC zy
 simp only[List.mem_singleton,decide_eq_true_eq]
 repeat' split
 all_goals (first | omega | (constructor <;> intro h <;> first | omega | exact absurd h (by decide)))
theorem zvN (t:List UInt8):Dg (t.takeWhile (inC [3])):=fun c hc=>(zux c).1 (List.all_eq_true.1 List.all_takeWhile c hc)
def zai (acc:Nat) (l:List UInt8):Nat:=l.foldl (fun a c=>a*10+(c.toNat - 48)) acc
theorem za1 (acc:Nat) (c:UInt8) (r:List UInt8):zai acc (c::r)=zai (acc*10+(c.toNat - 48)) r:=by
 unfold zai
 rw[List.foldl_cons]
theorem zdz (acc:Nat):zai acc []=acc:=by
 unfold zai
 rw[List.foldl_nil]
theorem zoV:∀ (l:List UInt8) (acc:Nat),acc≤zai acc l
 | [],acc=>by rw[zdz];exact Nat.le_refl _
 | c::r,acc=>by
  rw[za1]
  have:=zoV r (acc*10+(c.toNat - 48))
  omega
theorem zsS (l:List UInt8):∀ (acc:Nat),Dg l→acc < 18446744073709551616→Lib.parseUint10 acc l=if zai acc l < 18446744073709551616 then .ok (zai acc l) else .range:=by
 induction l with
 | nil=>intro acc _ h;rw[zdz,if_pos h,Lib.parseUint10]
 | cons c r ih =>
  intro acc hd h
  have hc:=hd c (by simp)
  have hge:=zoV r (acc*10+(c.toNat - 48))
  rw[za1]
  unfold Lib.parseUint10
  rw[if_pos hc]
  by_cases h1:1844674407370955162≤acc
  ·rw[if_pos h1,if_neg (by omega)]
  rw[if_neg h1]
  by_cases h2:18446744073709551616≤acc*10+(c.toNat - 48)
  ·rw[if_pos h2,if_neg (by omega)]
  rw[if_neg h2]
  exact ih _ (fun x hx=>hd x (by simp[hx])) (by omega)
theorem ztP {l:List UInt8} (hd:Dg l) (hne:l≠[]):Lib.atoiAll l=if zai 0 l < 9223372036854775808 then .ok (zai 0 l:Int) else .range:=by
 cases l with
 | nil=>exact absurd rfl hne
 | cons c r =>
  have hc:=hd c (by simp)
  rw[Lib.atoiAll_plain c r (by omega) (by omega),Lib.parseMag,if_neg (by simp),zsS _ 0 hd (by omega)]
  by_cases h:zai 0 (c::r) < 18446744073709551616
  ·rw[if_pos h]
   by_cases h2:zai 0 (c::r) < 9223372036854775808
   ·simp only[Lib.signless,if_pos h2,if_neg (show ¬ 9223372036854775808≤zai 0 (c::r) by omega)]
   simp only[Lib.signless,if_neg h2,if_pos (show 9223372036854775808≤zai 0 (c::r) by omega)]
  rw[if_neg h,if_neg (show ¬ zai 0 (c::r) < 9223372036854775808 by omega)]
  rfl
theorem zuB {a d:Nat} (ha:0 < a) (hd:d < 10):Lib.decDigits (a*10+d)=Lib.decDigits a++[UInt8.ofNat (48+d)]:=by
 rw[Lib.decDigits,dif_neg (by omega),show (a*10+d) / 10=a by omega,show (a*10+d) % 10=d by omega]
theorem zpT:∀ (l:List UInt8) (acc:Nat),0 < acc→Dg l→Lib.decDigits (zai acc l)=Lib.decDigits acc++l
 | [],acc,_,_=>by rw[zdz,List.append_nil]
 | c::r,acc,h,hd=>by
  have hc:=hd c (by simp)
  rw[za1,zpT r _ (by omega) (fun x hx=>hd x (by simp[hx])),zuB h (by omega)]
  have:UInt8.ofNat (48+(c.toNat - 48))=c:=by
   rw[show 48+(c.toNat - 48)=c.toNat by omega];simp
  rw[this]
  simp
theorem zln {c:UInt8} {r:List UInt8} (hd:Dg (c::r)) (h:c.toNat≠48):Lib.decDigits (zai 0 (c::r))=c::r:=by
 have hc:=hd c (by simp)
 rw[za1,zpT r _ (by omega) (fun x hx=>hd x (by simp[hx])),Nat.zero_mul,Nat.zero_add,Lib.decDigits_one (by omega)]
 have:UInt8.ofNat (48+(c.toNat - 48))=c:=by
  rw[show 48+(c.toNat - 48)=c.toNat by omega];simp
 rw[this]
 rfl
theorem zpB:∀ (r:List UInt8),Dg r→r≠[]→(Lib.decDigits (zai 0 r)).length≤r.length
 | [],_,h=>absurd rfl h
 | c::r,hd,_=>by
  by_cases h:c.toNat=48
  ·rw[za1,h]
   cases r with
   | nil=>simp[zdz,Lib.decDigits_one (show 0 < 10 by omega)]
   | cons b r =>
    have:=zpB (b::r) (fun x hx=>hd x (by simp at hx ⊢;exact .inr hx)) (by simp)
    simp only[Nat.zero_mul,Nat.sub_self,Nat.add_zero,List.length_cons] at this ⊢
    omega
  rw[zln hd h]
  exact Nat.le_refl _
def zmo (d:List UInt8):Prop:=zai 0 d < 9223372036854775808∧(d.head?=some 48→d.length=1)
instance (d:List UInt8):Decidable (zmo d):=by unfold zmo;infer_instance
theorem zn9 {d:List UInt8} (hd:Dg d) (hne:d≠[]):Lib.itoa ((zai 0 d:Nat):Int)=d↔(d.head?=some 48→d.length=1):=by
 have e:Lib.itoa ((zai 0 d:Nat):Int)=Lib.decDigits (zai 0 d):=by
  unfold Lib.itoa
  rw[if_neg (by omega)]
  rfl
 rw[e]
 cases d with
 | nil=>exact absurd rfl hne
 | cons c r =>
  by_cases h:c.toNat=48
  ·have hc:c=48:=UInt8.toNat_inj.1 h
   subst hc
   simp only[List.head?_cons,List.length_cons,forall_const]
   cases r with
   | nil =>
    have h0:zai 0 [48]=0:=by rw[za1,zdz];rfl
    rw[h0,Lib.decDigits_one (show 0 < 10 by omega)]
    simp
   | cons b r =>
    have:=zpB (b::r) (fun x hx=>hd x (by simp at hx ⊢;exact .inr hx)) (by simp)
    constructor
    ·intro h2
     have h3:zai 0 (48::b::r)=zai 0 (b::r):=by rw[za1];rfl
     rw[←h3,h2] at this
     simp at this
     omega
    intro h2
    simp at h2
  rw[zln hd h]
  simp only[List.head?_cons,Option.some.injEq,true_iff]
  intro e
  exact absurd (by rw[e];rfl) h
def zfl (t:List UInt8):Option (Token × Nat):=if zmo (t.takeWhile (inC [3])) then some (Token.mk 1 [] (zai 0 (t.takeWhile (inC [3])):Nat) [] 0,(t.takeWhile (inC [3])).length) else none
theorem zya {l:List UInt8} (hd:Dg l) (hne:l≠[]) (hl:l.length≤1000000):∃ v:Int,zdy l v (decide (¬ zai 0 l < 9223372036854775808))∧(zai 0 l < 9223372036854775808→v=(zai 0 l:Nat)):=by
 have ha:=ztP hd hne
 by_cases h:zai 0 l < 9223372036854775808
 ·rw[if_pos h] at ha
  exact⟨_,fun S=>zbF ze0 S (by simp only[zhK,ha];rw[if_pos (by omega)];simp[h]),fun _=>rfl⟩
 rw[if_neg h] at ha
 exact⟨Lib.atoiSat l,fun S=>zbF ze0 S (by simp only[zhK,ha];rw[if_pos (by omega)];simp[h]),fun e=>absurd e h⟩
theorem ztM (t:LTokens) (g:Nat) (z:Bool) (h:TI t.text) (hne:t.text.left.takeWhile (inC [3])≠[]):match zfl t.text.left with
  | none=>∃ (x:Token) (t':LTokens),t'.out=t.out∧zhv t g z x false t' g z
  | some (x,n)=>zhv t g z x true (LTokens.mk (zu t.text n) t.out) g z:=by
 have h1:=h.1
 have hd:=zvN t.text.left
 have hw:=zkh h [3] (by decide)
 have hl:=zcL [3] t.text.left
 unfold zB at hw hl
 unfold zfl
 generalize t.text.left.takeWhile (inC [3])=d at *
 obtain⟨v,ha,hv⟩:=zya hd hne (by omega)
 by_cases hb:zai 0 d < 9223372036854775808
 ·obtain rfl:=hv hb
  have hi:=zn9 hd hne
  by_cases h0:d.head?=some 48→d.length=1
  ·rw[if_pos ⟨hb,h0⟩]
   apply zgP
   refine⟨_,_,hw,_,_,ha,fun e=>?_,fun _=>⟨_,znv _ ⟨by omega,by omega⟩,rfl,?_,rfl,rfl,rfl⟩⟩
   ·simp[hb] at e
   exact decide_eq_true (hi.2 h0)
  rw[if_neg (fun e=>h0 e.2)]
  refine⟨_,LTokens.mk (zu t.text d.length) t.out,rfl,zgP _ _ _ _ _ _ _ _ ⟨_,_,hw,_,_,ha,fun e=>?_,fun _=>⟨_,znv _ ⟨by omega,by omega⟩,rfl,?_,rfl,rfl,rfl⟩⟩⟩
  ·simp[hb] at e
  exact decide_eq_false (fun e=>h0 (hi.1 e))
 rw[if_neg (fun e=>hb e.1)]
 exact⟨_,LTokens.mk (zu t.text d.length) t.out,rfl,zgP _ _ _ _ _ _ _ _ ⟨_,_,hw,_,_,ha,fun _=>⟨rfl,rfl,rfl,rfl,rfl⟩,fun e=>absurd (decide_eq_true hb) e⟩⟩
def atT (x:Token) (i:Int):Token:=⟨x.Kind,x.Text,x.Num,x.Parts,i⟩
theorem zuK (t:LTokens) (g:Nat) (z:Bool) (h:TI t.text) {u:List UInt8} (e:t.text.left=34::u) {r:Option (List Part × Nat)} (hq:Qx u [] [] r):match r with
  | none=>∃ t':LTokens,t'.out=t.out∧zg6 t g z (Token.mk 0 [] 0 [] 0) false t' g z
  | some (ps,n)=>n+1≤t.text.left.length∧zg6 t g z (Token.mk 2 [] 0 ps 0) true (LTokens.mk (zu t.text (n+1)) t.out) g z:=by
 have hlen:1≤t.text.left.length:=by rw[e];simp
 have h1:=h.1
 have hu:u.length≤6000:=by rw[e] at h1;simp at h1;omega
 have hl:(zu t.text 1).left=u:=by simp only[zu,e];rfl
 have key:=zl2 hq 0 (LTokens.mk (zu t.text 1) t.out) g z hl (h.take hlen) (.inl rfl) (by simp;omega) (by simp;omega)
 cases r with
 | none =>
  obtain⟨t',ho,hA⟩:=key
  exact⟨t',ho,zlx _ _ _ _ _ _ _ _ ⟨_,_,zb0 h hlen,hA⟩⟩
 | some q =>
  obtain⟨ps,n⟩:=q
  obtain⟨hn,hA⟩:=key
  simp only[zct] at hA
  simp only at hn
  rw[hl] at hn
  refine⟨by rw[e];simp;omega,zlx _ _ _ _ _ _ _ _ ⟨_,_,zb0 h hlen,?_⟩⟩
  rw[Nat.add_comm n 1]
  exact hA
def TOut (s:List UInt8) (i k:Nat) (l:List Part) (b:List UInt8):Option (List Part × Nat)→Prop
 | none=>zch s i k 0 [] 0 0 [] 0 l b (Token.mk 0 [] 0 [] 0) 0
 | some (ps,n)=>zch s i k 0 [] 0 0 [] 0 l b (Token.mk 2 [] 0 ps i) ((k:Int)+n - i)
theorem TOut.next {s:List UInt8} {i k:Nat} {l l2:List Part} {b b2:List UInt8} {m:Nat} (step:∀ ra rb,zch s i ((k+m:Nat):Int) 0 [] 0 0 [] 0 l2 b2 ra rb→zch s i k 0 [] 0 0 [] 0 l b ra rb) {r:Option (List Part × Nat)} (h:TOut s i (k+m) l2 b2 r):TOut s i k l b (r.map fun q=>(q.1,q.2+m)):=by
 cases r with
 | none=>exact step _ _ h
 | some q =>
  obtain⟨ps,n⟩:=q
  have:=step _ _ h
  simp only[TOut,Option.map_some]
  rw[show (k:Int)+((n+m:Nat):Int) - (i:Int)=((k+m:Nat):Int)+(n:Int) - (i:Int) by omega]
  exact this
end Go.Proofs.YtfbcnpbhhooapaaGreatDoor.M

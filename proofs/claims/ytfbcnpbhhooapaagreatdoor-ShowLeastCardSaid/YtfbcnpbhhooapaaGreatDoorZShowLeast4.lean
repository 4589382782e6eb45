/- Parts of a proof, one behind another: Sc9, Lt9, Wt1, Wt2, Wu3, Wu4, G4, Lt5, Wp3, Lt6, Wp1, Wp4, Wp5, Wp8, Wx1, Wx2, Wx3, Wx4, Wx5, Wx6, Wy2, Wl11, Wl12, Wl13, Wl14, WlL, Wp6, WlS, Wx7, Sc10, G10, Lt10, Sc7, Lt7, Wp7, Wt5, Wt6, Wu5, Wx8, Wx9, Wx10. -/
import Derived.Test.YtfbcnpbhhooapaaGreatDoorZShowLeast3
import Derived.Test.YtfbcnpbhhooapaaGreatDoorProg
import Derived.KernelRfl
set_option linter.unusedSimpArgs false
set_option linter.unusedVariables false
set_option linter.unusedSectionVars false
set_option maxHeartbeats 4000000
namespace Go.Proofs.YtfbcnpbhhooapaaGreatDoor.M
open Go
def c_Q73_1:SC:=.seq (.reg [vO 2 (.mov (cI 2))]) .ret
def c_Q73_2:SC:=.cond (.t 3) (.seq (.reg [vO 2 (.mov (cI (-2)))]) .ret) (.seq (.reg [mO 11 0,vO 12 (.bin .leq (.t 11) (cI 4)),mO 10 12]) (.cond (.t 10) (.seq (.reg [vO 2 (.mov (cI 0))]) .ret) (.seq (.reg [mO 14 0,vO 15 (.bin .eql (.t 14) (cI 5)),mO 16 15,gO 17 16 false (.mov (.t 0)),gO 18 16 false (.bin .eql (.t 17) (cI 6)),vO 19 (.pick (.t 16) (.c (.bool true)) (.t 18)),mO 13 19]) (.cond (.t 13) (.seq (.reg [vO 2 (.mov (cI (-1)))]) .ret) (.seq (.reg [mO 21 0,vO 22 (.bin .eql (.t 21) (cI 8)),mO 23 22,gO 24 23 false (.mov (.t 0)),gO 25 23 false (.bin .eql (.t 24) (cI 9)),vO 26 (.pick (.t 23) (.c (.bool true)) (.t 25)),mO 20 26]) (.cond (.t 20) (.seq (.reg [vO 2 (.mov (cI 1))]) .ret) (.seq (.reg [mO 28 0,vO 29 (.bin .eql (.t 28) (cI 10)),mO 27 29]) (.cond (.t 27) (.seq (.reg [vO 2 (.mov (cI 3))]) .ret) .skip))))))))
def c_Q73_3:SC:=.seq (.block 0 (.seq (.reg [mO 4 0,vO 5 (.bin .lss (.t 4) (cI 1)),mO 6 5,gO 7 6 false (.mov (.t 0)),gO 8 6 false (.bin .gtr (.t 7) (cI 23)),vO 9 (.pick (.t 6) (.c (.bool true)) (.t 8)),mO 3 9]) c_Q73_2)) c_Q73_1
def sc_Q73:zk:=⟨1,30,.seq (.reg [vO 2 (.mov (cI 0))]) c_Q73_3,[(.t 2)]⟩
theorem zyy:type_of% (aI (ue c_Q73_1.eq_1)<|aI (ue c_Q73_2.eq_1)<|aI (ue c_Q73_3.eq_1)<|sc_Q73.eq_1):=aI (ue c_Q73_1.eq_1)<|aI (ue c_Q73_2.eq_1)<|aI (ue c_Q73_3.eq_1)<|sc_Q73.eq_1
theorem comp_Q73:comp Tryz.prog Tryz.f73=some sc_Q73:=by kernel_rfl
def sc_Q114:zk:=⟨1,9,.seq (.reg [vO 2 (.mov (.c (.bool false)))]) (.seq (.reg [mO 3 0,vO 4 (.bin .eql (.t 3) (.c (.str [116,114,117,101]))),mO 5 4,gO 6 5 false (.mov (.t 0)),gO 7 5 false (.bin .eql (.t 6) (.c (.str [102,97,108,115,101]))),vO 8 (.pick (.t 5) (.c (.bool true)) (.t 7)),mO 2 8]) .ret),[(.t 2)]⟩
theorem zw9:type_of% (sc_Q114.eq_1):=sc_Q114.eq_1
theorem comp_Q114:comp Tryz.prog Tryz.f114=some sc_Q114:=by kernel_rfl
def sc_Q113:zk:=⟨1,21,.seq (.reg [vO 2 (.mov (.c (.bool false)))]) (.seq (.reg [mO 7 0,kO 8 112 [(.t 7),(.c (.str [46]))],mO 6 8,vO 9 (.extract 0 (.t 6)),vO 10 (.extract 1 (.t 6)),vO 11 (.extract 2 (.t 6)),mO 3 9,mO 4 10,mO 5 11]) (.seq (.reg [mO 12 5,mO 13 12,gO 14 13 true (.mov (.t 3)),⟨some 15,some (13,true),.call (.c (.func 115 [])) [(.t 14)]⟩,vO 16 (.pick (.t 13) (.t 15) (.c (.bool false))),mO 17 16,gO 18 17 true (.mov (.t 4)),⟨some 19,some (17,true),.call (.c (.func 115 [])) [(.t 18)]⟩,vO 20 (.pick (.t 17) (.t 19) (.c (.bool false))),mO 2 20]) .ret)),[(.t 2)]⟩
theorem zx0:type_of% (sc_Q113.eq_1):=sc_Q113.eq_1
theorem comp_Q113:comp Tryz.prog Tryz.f113=some sc_Q113:=by kernel_rfl
def c_Q152_1:SC:=.seq (.reg [vO 2 (.mov (.c (.bool true)))]) .ret
def b_Q152_1:SC:=.seq (.reg [vO 7 (.bin .lss (.t 6) (.t 5))]) (.seq (.cond (.t 7) .skip (.exit 0)) (.seq (.block 1 (.seq (.reg [mO 8 6,mO 3 8]) (.seq (.reg [mO 9 0,mO 10 3,vO 11 (.istr (.t 9) (.t 10)),vO 12 (.bin .lss (.t 11) (.c (.int .u8 32))),mO 13 12,gO 14 13 true (.mov (.t 0)),gO 15 13 true (.mov (.t 3)),gO 16 13 true (.istr (.t 14) (.t 15)),gO 17 13 true (.bin .neq (.t 16) (.c (.int .u8 10))),vO 18 (.pick (.t 13) (.t 17) (.c (.bool false)))]) (.cond (.t 18) (.seq (.reg [vO 2 (.mov (.c (.bool false)))]) .ret) .skip)))) (.reg [vO 19 (.bin .add (.t 6) (cI 1)),mO 6 19])))
def sc_Q152:zk:=⟨1,20,.seq (.reg [vO 2 (.mov (.c (.bool false)))]) (.seq (.seq (.reg [mO 4 0,vO 5 (.len true (.t 4)),vO 6 (.mov (cI 0))]) (.block 0 (.loop b_Q152_1))) c_Q152_1),[(.t 2)]⟩
noncomputable def zmR (SP:Prg) (x:EO):CO:=fin [(.t 2)] (thC SP (zK 0 (x)) c_Q152_1)
theorem zsh:type_of% (aI (ue c_Q152_1.eq_1)<|aI (ue b_Q152_1.eq_1)<|sc_Q152.eq_1):=aI (ue c_Q152_1.eq_1)<|aI (ue b_Q152_1.eq_1)<|sc_Q152.eq_1
theorem comp_Q152:comp Tryz.prog Tryz.f152=some sc_Q152:=by kernel_rfl
def c_Q116_1:SC:=.seq (.reg [vO 2 (.mov (.c (.bool true)))]) .ret
def c_Q116_2:SC:=.reg [vO 40 (.bin .add (.t 7) (cI 1)),mO 7 40]
def c_Q116_3:SC:=.seq (.reg [vO 18 (.faddr 1 (.t 4)),vO 19 (.load none (.t 18)),vO 20 (.bin .eql (.t 19) (.c (.str []))),mO 21 20,gO 22 21 false (.mov (.t 3)),gO 23 21 false (.bin .gtr (.t 22) (cI 0)),gO 24 21 false (.mov (.t 23)),gO 25 24 true (.mov (.t 0)),gO 26 24 true (.mov (.t 3)),gO 27 24 true (.bin .sub (.t 26) (cI 1)),gO 28 24 true (.iaddr 2 (.t 25) (.t 27)),gO 29 24 true (.faddr 0 (.t 28)),gO 30 24 true (.load none (.t 29)),gO 31 24 true (.un .not (.t 30)),gO 32 21 false (.pick (.t 24) (.t 31) (.c (.bool false))),vO 33 (.pick (.t 21) (.c (.bool true)) (.t 32)),mO 34 33,gO 35 34 false (.faddr 1 (.t 4)),gO 36 34 false (.load none (.t 35)),⟨some 37,some (34,false),.call (.c (.func 152 [])) [(.t 36)]⟩,gO 38 34 false (.un .not (.t 37)),vO 39 (.pick (.t 34) (.c (.bool true)) (.t 38))]) (.cond (.t 39) (.seq (.reg [vO 2 (.mov (.c (.bool false)))]) .ret) .skip)
def c_Q116_4:SC:=.seq (.seq (.reg [vO 12 (.faddr 0 (.t 4)),vO 13 (.load none (.t 12))]) (.cond (.t 13) (.seq (.seq (.reg [vO 14 (.faddr 1 (.t 4)),vO 15 (.load none (.t 14)),kO 16 113 [(.t 15)],vO 17 (.un .not (.t 16))]) (.cond (.t 17) (.seq (.reg [vO 2 (.mov (.c (.bool false)))]) .ret) .skip)) (.exit 1)) .skip)) c_Q116_3
def c_Q116_5:SC:=.seq (.block 1 (.seq (.reg [mO 9 7,vO 10 (.iaddr 2 (.t 5) (.t 7)),vO 11 (.load (some 2) (.t 10)),⟨some 4,none,.alloc [(.bool false),(.str [])]⟩,mO 3 9,⟨none,none,.store 2 (.t 4) (.t 11)⟩]) c_Q116_4)) c_Q116_2
def c_Q116_6:SC:=.seq (.cond (.t 8) .skip (.exit 0)) c_Q116_5
def b_Q116_1:SC:=.seq (.reg [vO 8 (.bin .lss (.t 7) (.t 6))]) c_Q116_6
def c_Q116_7:SC:=.block 0 (.loop b_Q116_1)
def c_Q116_8:SC:=.seq (.seq (.reg [mO 5 0,vO 6 (.len false (.t 5)),vO 7 (.mov (cI 0))]) c_Q116_7) c_Q116_1
def sc_Q116:zk:=⟨1,41,.seq (.reg [vO 2 (.mov (.c (.bool false)))]) c_Q116_8,[(.t 2)]⟩
noncomputable def zmO (SP:Prg) (x:EO):CO:=fin [(.t 2)] (thC SP (zK 0 (x)) c_Q116_1)
theorem zru:type_of% (aI (ue c_Q116_1.eq_1)<|aI (ue c_Q116_2.eq_1)<|aI (ue c_Q116_3.eq_1)<|aI (ue c_Q116_4.eq_1)<|aI (ue c_Q116_5.eq_1)<|aI (ue c_Q116_6.eq_1)<|aI (ue b_Q116_1.eq_1)<|aI (ue c_Q116_7.eq_1)<|aI (ue c_Q116_8.eq_1)<|sc_Q116.eq_1):=aI (ue c_Q116_1.eq_1)<|aI (ue c_Q116_2.eq_1)<|aI (ue c_Q116_3.eq_1)<|aI (ue c_Q116_4.eq_1)<|aI (ue c_Q116_5.eq_1)<|aI (ue c_Q116_6.eq_1)<|aI (ue b_Q116_1.eq_1)<|aI (ue c_Q116_7.eq_1)<|aI (ue c_Q116_8.eq_1)<|sc_Q116.eq_1
theorem comp_Q116:comp Tryz.prog Tryz.f116=some sc_Q116:=by kernel_rfl
def c_Q74_1:SC:=.seq (.reg [mO 69 3,mO 70 69,gO 71 70 true (.mov (.t 4)),vO 72 (.pick (.t 70) (.t 71) (.c (.bool false))),mO 73 72,gO 74 73 true (.mov (.t 5)),vO 75 (.pick (.t 73) (.t 74) (.c (.bool false))),mO 2 75]) .ret
def c_Q74_2:SC:=.cond (.t 36) (.seq (.reg [vO 39 (.faddr 2 (.t 1)),vO 40 (.load none (.t 39)),kO 41 112 [(.t 40),(.c (.str [46]))],mO 38 41,vO 42 (.extract 0 (.t 38)),vO 43 (.extract 1 (.t 38)),vO 44 (.extract 2 (.t 38)),mO 6 42,mO 7 43,mO 8 44]) (.reg [vO 45 (.faddr 2 (.t 1)),vO 46 (.load none (.t 45)),kO 47 113 [(.t 46)],mO 48 47,gO 49 48 true (.mov (.t 6)),⟨some 50,some (48,true),.call (.c (.func 114 [])) [(.t 49)]⟩,gO 51 48 true (.un .not (.t 50)),vO 52 (.pick (.t 48) (.t 51) (.c (.bool false))),mO 4 52])) (.seq (.reg [vO 54 (.bin .eql (.t 20) (cI 5)),mO 53 54]) (.cond (.t 53) (.reg [vO 55 (.faddr 2 (.t 1)),vO 56 (.load none (.t 55)),kO 57 115 [(.t 56)],mO 58 57,gO 59 58 true (.faddr 2 (.t 1)),gO 60 58 true (.load none (.t 59)),⟨some 61,some (58,true),.call (.c (.func 114 [])) [(.t 60)]⟩,gO 62 58 true (.un .not (.t 61)),vO 63 (.pick (.t 58) (.t 62) (.c (.bool false))),mO 4 63]) (.seq (.reg [vO 65 (.bin .eql (.t 20) (cI 2)),mO 64 65]) (.cond (.t 64) (.reg [vO 66 (.faddr 3 (.t 1)),vO 67 (.load none (.t 66)),kO 68 116 [(.t 67)],mO 5 68]) .skip))))
def c_Q74_3:SC:=.cond (.t 26) (.reg [vO 28 (.faddr 1 (.t 1)),vO 29 (.load none (.t 28)),vO 30 (.bin .eql (.t 29) (cI 0)),mO 31 30,gO 32 31 false (.faddr 1 (.t 1)),gO 33 31 false (.load none (.t 32)),gO 34 31 false (.bin .eql (.t 33) (cI 1)),vO 35 (.pick (.t 31) (.c (.bool true)) (.t 34)),mO 3 35]) (.seq (.reg [vO 37 (.bin .eql (.t 20) (cI 4)),mO 36 37]) c_Q74_2)
def c_Q74_4:SC:=.cond (.t 21) (.reg [vO 23 (.faddr 1 (.t 1)),vO 24 (.load none (.t 23)),vO 25 (.bin .geq (.t 24) (cI 0)),mO 3 25]) (.seq (.reg [vO 27 (.bin .eql (.t 20) (cI 3)),mO 26 27]) c_Q74_3)
def c_Q74_5:SC:=.block 0 (.seq (.reg [vO 22 (.bin .eql (.t 20) (cI 1)),mO 21 22]) c_Q74_4)
def c_Q74_6:SC:=.seq (.seq (.reg [vO 19 (.faddr 0 (.t 1)),vO 20 (.load none (.t 19))]) c_Q74_5) c_Q74_1
def c_Q74_7:SC:=.seq (.dreg [vO 9 (.faddr 1 (.t 1)),vO 10 (.load none (.t 9)),vO 11 (.bin .eql (.t 10) (cI 0)),vO 12 (.faddr 2 (.t 1)),vO 13 (.load none (.t 12)),vO 14 (.bin .eql (.t 13) (.c (.str []))),vO 15 (.faddr 3 (.t 1)),vO 16 (.load none (.t 15)),vO 17 (.len false (.t 16)),vO 18 (.bin .eql (.t 17) (cI 0)),mO 3 11,mO 4 14,mO 5 18] [false,false,false,false,false,false,false,false,false,false,false,false,true]) c_Q74_6
def sc_Q74:zk:=⟨1,76,.seq (.reg [⟨some 1,none,.box (.t 0)⟩,vO 2 (.mov (.c (.bool false)))]) c_Q74_7,[(.t 2)]⟩
theorem zyF:type_of% (aI (ue c_Q74_1.eq_1)<|aI (ue c_Q74_2.eq_1)<|aI (ue c_Q74_3.eq_1)<|aI (ue c_Q74_4.eq_1)<|aI (ue c_Q74_5.eq_1)<|aI (ue c_Q74_6.eq_1)<|aI (ue c_Q74_7.eq_1)<|sc_Q74.eq_1):=aI (ue c_Q74_1.eq_1)<|aI (ue c_Q74_2.eq_1)<|aI (ue c_Q74_3.eq_1)<|aI (ue c_Q74_4.eq_1)<|aI (ue c_Q74_5.eq_1)<|aI (ue c_Q74_6.eq_1)<|aI (ue c_Q74_7.eq_1)<|sc_Q74.eq_1
theorem comp_Q74:comp Tryz.prog Tryz.f74=some sc_Q74:=by kernel_rfl
def sc_Q26:zk:=⟨1,14,.seq (.reg [vO 2 (.mov (.c (.bool false)))]) (.seq (.reg [mO 3 0,vO 4 (.len false (.t 3)),vO 5 (.bin .gtr (.t 4) (cI 0)),mO 6 5,gO 7 6 true (.mov (.t 0)),gO 8 6 true (.mov (.t 0)),gO 9 6 true (.len false (.t 8)),gO 10 6 true (.bin .sub (.t 9) (cI 1)),⟨some 11,some (6,true),.call (.c (.func 47 [])) [(.t 7),(.t 10)]⟩,gO 12 6 true (.bin .eql (.t 11) (cI 0)),vO 13 (.pick (.t 6) (.t 12) (.c (.bool false))),mO 2 13]) .ret),[(.t 2)]⟩
theorem zyj:type_of% (sc_Q26.eq_1):=sc_Q26.eq_1
theorem comp_Q26:comp Tryz.prog Tryz.f26=some sc_Q26:=by kernel_rfl
end Go.Proofs.YtfbcnpbhhooapaaGreatDoor.M
namespace Go.Proofs.YtfbcnpbhhooapaaGreatDoor.M
open Go Classical
theorem zx3:SP 73=some (.code sc_Q73):=zb rfl Tryz.func73 comp_Q73
theorem zt1 (kind:Int) (r:Int) (T :
  ((kind < 1) →
  (-2)=r) ∧
 (¬ (kind < 1) →
  ((23 < kind) →
   (-2)=r) ∧
  (¬ (23 < kind) →
   ((kind≤4) →
    0=r) ∧
   (¬ (kind≤4) →
    ((kind=5) →
     (-1)=r) ∧
    (¬ (kind=5) →
     ((kind=6) →
      (-1)=r) ∧
     (¬ (kind=6) →
      ((kind=8) →
       1=r) ∧
      (¬ (kind=8) →
       ((kind=9) →
        1=r) ∧
       (¬ (kind=9) →
        ((kind=10) →
         3=r) ∧
        (¬ (kind=10) →
         2=r))))))))):zuh kind r:=by
 intro S
 rw[za zx3 _ _ rfl]
 have F:=zyy
 exact rn F T
theorem zu3:SP 114=some (.code sc_Q114):=zb rfl Tryz.func114 comp_Q114
theorem zrF (s:List UInt8) (r:Bool) (T :
  ((s=[116,114,117,101]) →
  true=r) ∧
 (¬ (s=[116,114,117,101]) →
  (decide (s=[102,97,108,115,101]))=r)):zjT s r:=by
 intro S
 rw[za zu3 _ _ rfl]
 have F:=zw9
 exact rn F T
theorem zvK:SP 113=some (.code sc_Q113):=zb rfl Tryz.func113 comp_Q113
theorem zsn (s:List UInt8) (r:Bool) (T :
  ∃ (r1:List UInt8) (r2:List UInt8) (r3:Bool),(zbe s [46] r1 r2 r3) ∧
 ((r3=true) →
  ∃ (r4:Bool),(zc0 r1 r4) ∧
  ((r4=true) →
   ∃ (r5:Bool),(zc0 r2 r5) ∧
   r5=r) ∧
  (¬ (r4=true) →
   false=r)) ∧
 (¬ (r3=true) →
  false=r)):zi7 s r:=by
 intro S
 rw[za zvK _ _ rfl]
 have F:=zx0
 exact rn F T
theorem zwb:SP 152=some (.code sc_Q152):=zb rfl Tryz.func152 comp_Q152
def zdB (s:List UInt8) (i1:Int) (r:Bool):Prop:=∀ (S:Sto) (e:Nat→PV) (f:Fr),e 0=.str s∧e 5=.int .i64 (s.length:Int)∧e 6=.int .i64 i1→zmR SP (E SP (.loop b_Q152_1) ⟨e,f::S⟩)=.ok (.v (.bool r)) S
theorem zfp (s:List UInt8) (i1:Int) (r:Bool) (T :
  ((i1 < (s.length:Int)) →
  (0≤i1) ∧
  ∃ (b2:UInt8),(s[i1.toNat]?=some b2) ∧
  (((b2.toNat:Int) < 32) →
   (((b2.toNat:Int)=10) →
    (I64 (i1+1)) ∧
    zdB s (i1+1) r) ∧
   (¬ ((b2.toNat:Int)=10) →
    false=r)) ∧
  (¬ ((b2.toNat:Int) < 32) →
   (I64 (i1+1)) ∧
   zdB s (i1+1) r)) ∧
 (¬ (i1 < (s.length:Int)) →
  true=r)):zdB s i1 r:=by
 intro S e f h
 unfold zmR
 rw[zS]
 have F:=zsh
 exact rn (aa h<|F) T
theorem zrY (s:List UInt8) (r:Bool) (T :
  zdB s 0 r):zju s r:=by
 intro S
 rw[za zwb _ _ rfl]
 have F:=zsh
 exact rn F T
theorem zuS:SP 116=some (.code sc_Q116):=zb rfl Tryz.func116 comp_Q116
def zcD (l_:List Part) (i1:Int) (r:Bool):Prop:=∀ (S:Sto) (e:Nat→PV) (f:Fr),e 0=.list 2 (l_.map ePart) false∧e 5=.list 2 (l_.map ePart) false∧e 6=.int .i64 (l_.length:Int)∧e 7=.int .i64 i1→zmO SP (E SP (.loop b_Q116_1) ⟨e,f::S⟩)=.ok (.v (.bool r)) S
theorem zfs (l_:List Part) (i1:Int) (r:Bool) (T :
  ((i1 < (l_.length:Int)) →
  (0≤i1) ∧
  ∃ (v2:Part),(l_[i1.toNat]?=some v2) ∧
  ((v2.Ref=true) →
   ∃ (r3:Bool),(zi7 v2.Text r3) ∧
   ((r3=true) →
    (I64 (i1+1)) ∧
    zcD l_ (i1+1) r) ∧
   (¬ (r3=true) →
    false=r)) ∧
  (¬ (v2.Ref=true) →
   ((v2.Text=[]) →
    false=r) ∧
   (¬ (v2.Text=[]) →
    ((0 < i1) →
     (I64 (i1 - 1)) ∧
     (0≤(i1 - 1)) ∧
     ∃ (v4:Part),(l_[(i1 - 1).toNat]?=some v4) ∧
     ((v4.Ref=true) →
      ∃ (r5:Bool),(zju v2.Text r5) ∧
      ((r5=true) →
       (I64 (i1+1)) ∧
       zcD l_ (i1+1) r) ∧
      (¬ (r5=true) →
       false=r)) ∧
     (¬ (v4.Ref=true) →
      false=r)) ∧
    (¬ (0 < i1) →
     ∃ (r6:Bool),(zju v2.Text r6) ∧
     ((r6=true) →
      (I64 (i1+1)) ∧
      zcD l_ (i1+1) r) ∧
     (¬ (r6=true) →
      false=r))))) ∧
 (¬ (i1 < (l_.length:Int)) →
  true=r)):zcD l_ i1 r:=by
 intro S e f h
 unfold zmO
 rw[zS]
 have F:=zru
 exact rn (aa h<|F) T
theorem zrp (l_:List Part) (r:Bool) (T :
  zcD l_ 0 r):zm2 l_ r:=by
 intro S
 rw[za zuS _ _ rfl]
 have F:=zru
 exact rn F T
theorem zwR:SP 74=some (.code sc_Q74):=zb rfl Tryz.func74 comp_Q74
theorem ztl (n:Node) (r:Bool) (T :
  ((n.Kind=1) →
  ((0≤n.Num) →
   ((n.Text=[]) →
    (decide ((n.Parts.length:Int)=0))=r) ∧
   (¬ (n.Text=[]) →
    false=r)) ∧
  (¬ (0≤n.Num) →
   false=r)) ∧
 (¬ (n.Kind=1) →
  ((n.Kind=3) →
   ((n.Num=0) →
    ((n.Text=[]) →
     (decide ((n.Parts.length:Int)=0))=r) ∧
    (¬ (n.Text=[]) →
     false=r)) ∧
   (¬ (n.Num=0) →
    ((n.Num=1) →
     ((n.Text=[]) →
      (decide ((n.Parts.length:Int)=0))=r) ∧
     (¬ (n.Text=[]) →
      false=r)) ∧
    (¬ (n.Num=1) →
     false=r))) ∧
  (¬ (n.Kind=3) →
   ((n.Kind=4) →
    ∃ (r1:List UInt8) (r2:List UInt8) (r3:Bool),(zbe n.Text [46] r1 r2 r3) ∧
    ∃ (r4:Bool),(zi7 n.Text r4) ∧
    ((r4=true) →
     ∃ (r5:Bool),(zjT r1 r5) ∧
     ((n.Num=0) →
      ((r5=true) →
       false=r) ∧
      (¬ (r5=true) →
       (decide ((n.Parts.length:Int)=0))=r)) ∧
     (¬ (n.Num=0) →
      false=r)) ∧
    (¬ (r4=true) →
     ((n.Num=0) →
      false=r) ∧
     (¬ (n.Num=0) →
      false=r))) ∧
   (¬ (n.Kind=4) →
    ((n.Kind=5) →
     ∃ (r6:Bool),(zc0 n.Text r6) ∧
     ((r6=true) →
      ∃ (r7:Bool),(zjT n.Text r7) ∧
      ((n.Num=0) →
       ((r7=true) →
        false=r) ∧
       (¬ (r7=true) →
        (decide ((n.Parts.length:Int)=0))=r)) ∧
      (¬ (n.Num=0) →
       false=r)) ∧
     (¬ (r6=true) →
      ((n.Num=0) →
       false=r) ∧
      (¬ (n.Num=0) →
       false=r))) ∧
    (¬ (n.Kind=5) →
     ((n.Kind=2) →
      ∃ (r8:Bool),(zm2 n.Parts r8) ∧
      ((n.Num=0) →
       ((n.Text=[]) →
        r8=r) ∧
       (¬ (n.Text=[]) →
        false=r)) ∧
      (¬ (n.Num=0) →
       false=r)) ∧
     (¬ (n.Kind=2) →
      ((n.Num=0) →
       ((n.Text=[]) →
        (decide ((n.Parts.length:Int)=0))=r) ∧
       (¬ (n.Text=[]) →
        false=r)) ∧
      (¬ (n.Num=0) →
       false=r))))))):zuv n r:=by
 intro S
 rw[za zwR _ _ rfl]
 have F:=zyF
 exact rn F T
theorem zxW:SP 26=some (.code sc_Q26):=zb rfl Tryz.func26 comp_Q26
theorem ztw (l_:List Node) (r:Bool) (T :
  ((0 < (l_.length:Int)) →
  (I64 ((l_.length:Int) - 1)) ∧
  ∃ (r1:Int),(zus l_ ((l_.length:Int) - 1) r1) ∧
  (decide (r1=0))=r) ∧
 (¬ (0 < (l_.length:Int)) →
  false=r)):zp0 l_ r:=by
 intro S
 rw[za zxW _ _ rfl]
 have F:=zyj
 exact rn F T
end Go.Proofs.YtfbcnpbhhooapaaGreatDoor.M
namespace Go.Proofs.YtfbcnpbhhooapaaGreatDoor.M
open Go Classical
def kdS (k:Int):Int :=
 if k < 1 then -2 else if 23 < k then -2 else if k≤4 then 0 else if k=5 then -1 else if k=6 then -1 else if k=8 then 1 else if k=9 then 1 else if k=10 then 3 else 2
theorem zwT (k:Int):zuh k (kdS k):=by
 apply zt1
 unfold kdS
 repeat' first | (refine⟨fun h=>?_,fun h=>?_⟩) | (simp[*];done) | (split <;> rename_i h <;> first | rfl | omega)
def zaO (s:List UInt8):Bool:=decide (s=[116,114,117,101]) || decide (s=[102,97,108,115,101])
theorem zo2 (s:List UInt8):zjT s (zaO s):=by
 apply zrF
 refine⟨fun h=>by simp[zaO,h],fun h=>by simp[zaO,h]⟩
theorem zjM (s:List UInt8) (hs:s.length≤1000000):zi7 s (zai s):=by
 apply zsn
 have h1:(Lib.cut s [46]).1.length≤s.length:=ziq _ _
 have h2:(Lib.cut s [46]).2.1.length≤s.length:=zmT _ _
 refine⟨_,_,_,zjs s [46] hs,fun h=>⟨_,zcJ _ (by omega),fun h'=>⟨_,zcJ _ (by omega),by simp[zai,h,h']⟩,fun h'=>by simp[zai,h,h']⟩,fun h=>by simp[zai,h]⟩
def zbL (c:UInt8):Bool:=decide (¬ c.toNat < 32) || decide (c.toNat=10)
def zaV (s:List UInt8):Bool:=s.all zbL
theorem zkO (s:List UInt8) (hs:s.length≤1000000):zju s (zaV s):=by
 have loop:∀ (m i:Nat),i+m=s.length→zdB s i ((s.drop i).all zbL):=by
  intro m
  induction m with
  | zero =>
   intro i hi
   apply zfp
   exact⟨fun h=>by omega,fun _=>by rw[List.drop_of_length_le (by omega)];rfl⟩
  | succ m ih =>
   intro i hi
   have hlt:i < s.length:=by omega
   have hg:s[((i:Nat):Int).toNat]?=some s[i]:=by rw[Int.toNat_natCast];exact List.getElem?_eq_getElem hlt
   have hd:s.drop i=s[i]::s.drop (i+1):=List.drop_eq_getElem_cons hlt
   have ih:=ih (i+1) (by omega)
   apply zfp
   refine⟨fun _=>⟨by omega,_,hg,fun h=>⟨fun h'=>⟨⟨by omega,by omega⟩,?_⟩,fun h'=>?_⟩,fun h=>⟨⟨by omega,by omega⟩,?_⟩⟩,fun h=>by omega⟩
   ·rw[hd,List.all_cons,show zbL s[i]=true by simp[zbL];omega,Bool.true_and]
    exact ih
   ·rw[hd,List.all_cons,show zbL s[i]=false by simp[zbL];omega,Bool.false_and]
   rw[hd,List.all_cons,show zbL s[i]=true by simp[zbL];omega,Bool.true_and]
   exact ih
 exact zrY _ _ (loop s.length 0 (by omega))
def zx:Bool→List Part→Bool
 | _,[]=>true
 | b,p::l=>if p.Ref=true then zai p.Text && zx false l else !(decide (p.Text=[])) && !b && zaV p.Text && zx true l
def plP (l:List Part):Prop:=l.length≤1000000∧∀ p ∈ l,p.Text.length≤1000000
theorem zsI (l:List Part) (hl:plP l):zm2 l (zx false l):=by
 obtain⟨hl,ht⟩:=hl
 have loop:∀ (m i:Nat),i+m=l.length→zcD l i (zx (decide (∃ p,0 < i∧l[i - 1]?=some p∧p.Ref=false)) (l.drop i)):=by
  intro m
  induction m with
  | zero =>
   intro i hi
   apply zfs
   exact⟨fun h=>by omega,fun _=>by rw[List.drop_of_length_le (by omega)];rfl⟩
  | succ m ih =>
   intro i hi
   have hlt:i < l.length:=by omega
   have hg:l[((i:Nat):Int).toNat]?=some l[i]:=by rw[Int.toNat_natCast];exact List.getElem?_eq_getElem hlt
   have hd:l.drop i=l[i]::l.drop (i+1):=List.drop_eq_getElem_cons hlt
   have htx:=ht _ (List.getElem_mem hlt)
   have ih:=ih (i+1) (by omega)
   have hnext:decide (∃ p,0 < i+1∧l[i+1 - 1]?=some p∧p.Ref=false)=!l[i].Ref:=by
    rw[show i+1 - 1=i by omega,List.getElem?_eq_getElem hlt]
    cases h:l[i].Ref <;> simp[h]
   rw[hnext] at ih
   rw[hd]
   generalize hb:decide (∃ p,0 < i∧l[i - 1]?=some p∧p.Ref=false)=b
   apply zfs
   refine⟨fun _=>⟨by omega,_,hg,fun hr=>⟨_,zjM _ htx,fun h=>⟨⟨by omega,by omega⟩,?_⟩,fun h=>?_⟩,fun hr=>⟨fun h=>?_,fun h=>⟨fun h0=>?_,fun h0=>?_⟩⟩⟩,fun h=>by omega⟩
   ·rw[zx,if_pos hr,h,Bool.true_and]
    rw[hr] at ih
    exact ih
   ·rw[zx,if_pos hr,show zai l[i].Text=false by simpa using h,Bool.false_and]
   ·rw[zx,if_neg hr,decide_eq_true h]
    rfl
   ·have hlt':i - 1 < l.length:=by omega
    have hg':l[((i:Int) - 1).toNat]?=some l[i - 1]:=by rw[show ((i:Int) - 1).toNat=i - 1 by omega];exact List.getElem?_eq_getElem hlt'
    refine⟨⟨by omega,by omega⟩,by omega,_,hg',fun hp=>?_,fun hp=>?_⟩
    ·have hb':b=false:=by
      rw[←hb,List.getElem?_eq_getElem hlt']
      simp[hp]
     refine⟨_,zkO _ htx,fun h5=>⟨⟨by omega,by omega⟩,?_⟩,fun h5=>?_⟩
     ·rw[zx,if_neg hr,decide_eq_false h,hb',h5]
      rw[show l[i].Ref=false by simpa using hr] at ih
      exact ih
     rw[zx,if_neg hr,decide_eq_false h,hb',show zaV l[i].Text=false by simpa using h5]
     rfl
    have hb':b=true:=by
     rw[←hb,List.getElem?_eq_getElem hlt']
     simp[hp]
     omega
    rw[zx,if_neg hr,decide_eq_false h,hb']
    rfl
   have hb':b=false:=by
    rw[←hb]
    simp
    omega
   refine⟨_,zkO _ htx,fun h5=>⟨⟨by omega,by omega⟩,?_⟩,fun h5=>?_⟩
   ·rw[zx,if_neg hr,decide_eq_false h,hb',h5]
    rw[show l[i].Ref=false by simpa using hr] at ih
    exact ih
   rw[zx,if_neg hr,decide_eq_false h,hb',show zaV l[i].Text=false by simpa using h5]
   rfl
 have:=loop l.length 0 (by omega)
 have e:decide (∃ p,0 < 0∧l[0 - 1]?=some p∧p.Ref=false)=false:=by simp
 rw[e] at this
 exact zrp _ _ this
def plS (n:Node):Bool :=
 if n.Kind=1 then decide (0≤n.Num) && decide (n.Text=[]) && decide (n.Parts=[])
 else if n.Kind=3 then (decide (n.Num=0) || decide (n.Num=1)) && decide (n.Text=[]) && decide (n.Parts=[])
 else if n.Kind=4 then zai n.Text && decide (n.Num=0) && !(zaO (Lib.cut n.Text [46]).1) && decide (n.Parts=[])
 else if n.Kind=5 then zak n.Text && decide (n.Num=0) && !(zaO n.Text) && decide (n.Parts=[])
 else if n.Kind=2 then decide (n.Num=0) && decide (n.Text=[]) && zx false n.Parts
 else decide (n.Num=0) && decide (n.Text=[]) && decide (n.Parts=[])
structure NB (n:Node):Prop where
 text:n.Text.length≤1000000
 parts:plP n.Parts
 kids:n.Kids.length≤1000000
theorem zgS {α:Type} (l:List α):decide ((l.length:Int)=0)=decide (l=[]):=decide_eq_decide.2 (by rw[←List.length_eq_zero_iff];omega)
theorem zt0 (n:Node) (h:NB n):zuv n (plS n):=by
 apply ztl
 unfold plS
 rw[zgS]
 refine⟨fun k=>?_,fun k=>⟨fun k3=>?_,fun k3=>⟨fun k4=>?_,fun k4=>⟨fun k5=>?_,fun k5=>⟨fun k2=>?_,fun k2=>?_⟩⟩⟩⟩⟩
 ·rw[if_pos k]
  exact⟨fun a=>⟨fun b=>by simp[a,b],fun b=>by simp[a,b]⟩,fun a=>by simp[a]⟩
 ·rw[if_neg k,if_pos k3]
  exact⟨fun a=>⟨fun b=>by simp[a,b],fun b=>by simp[a,b]⟩,fun a=>⟨fun a'=>⟨fun b=>by simp[a',b],fun b=>by simp[a',b]⟩,fun a'=>by simp[a,a']⟩⟩
 ·rw[if_neg k,if_neg k3,if_pos k4]
  refine⟨_,_,_,zjs _ [46] h.text,_,zjM _ h.text,fun a=>⟨_,zo2 _,fun b=>⟨fun c=>by simp[a,b,c],fun c=>by simp[a,b,c]⟩,fun b=>by simp[b]⟩,fun a=>⟨fun _=>by simp[a],fun _=>by simp[a]⟩⟩
 ·rw[if_neg k,if_neg k3,if_neg k4,if_pos k5]
  refine⟨_,zcJ _ h.text,fun a=>⟨_,zo2 _,fun b=>⟨fun c=>by simp[a,b,c],fun c=>by simp[a,b,c]⟩,fun b=>by simp[b]⟩,fun a=>⟨fun _=>by simp[a],fun _=>by simp[a]⟩⟩
 ·rw[if_neg k,if_neg k3,if_neg k4,if_neg k5,if_pos k2]
  refine⟨_,zsI _ h.parts,fun a=>⟨fun b=>by simp[a,b],fun b=>by simp[b]⟩,fun a=>by simp[a]⟩
 rw[if_neg k,if_neg k3,if_neg k4,if_neg k5,if_neg k2]
 refine⟨fun a=>⟨fun b=>by simp[a,b],fun b=>by simp[b]⟩,fun a=>by simp[a]⟩
def zmc (l:List Node) (rs:List Int) (e:Nat):Int:=match l[e]? with
 | none=>-1
 | some n=>if (kdS n.Kind≠(n.Kids.length:Nat)∧kdS n.Kind≠-1)∨plS n=false then -1 else Bk.run (fun k=>(rs[k.toNat]?).getD 0) e n.Kids.reverse
def zaH (l:List Node):Nat→List Int
 | 0=>[]
 | n+1=>zaH l n++[zmc l (zaH l n) n]
theorem zdE (l:List Node):∀ n,(zaH l n).length=n
 | 0=>rfl
 | n+1=>by rw[zaH,List.length_append,zdE l n];rfl
def zar (l:List Node) (e:Nat):Int:=zmc l (zaH l e) e
theorem zbT (l:List Node):∀ {n j:Nat},j < n→(zaH l n)[j]?=some (zar l j)
 | 0,j,h=>absurd h (Nat.not_lt_zero _)
 | n+1,j,h=>by
  rw[zaH]
  by_cases hj:j < n
  ·rw[List.getElem?_append_left (by rw[zdE];exact hj)]
   exact zbT l hj
  obtain rfl:j=n:=by omega
  rw[List.getElem?_append_right (by rw[zdE];omega),zdE,Nat.sub_self]
  rfl
theorem znP (o:Int→Int):∀ (ks:List Int) (f:Int),(∀ k,0≤k→k < f→o k≤k)→-1≤f→Bk.run o f ks≤f
 | [],f,_,_=>Int.le_refl _
 | k::ks,f,h,hf=>by
  rw[Bk.run]
  split
  ·exact hf
  split
  ·exact hf
  rename_i h1 h2
  have h3:=h k (by omega) (by omega)
  have:=znP o ks (o k) (fun q a b=>h q a (by omega)) (by omega)
  omega
theorem zbw (l:List Node):∀ (e:Nat),zar l e≤e:=by
 intro e
 induction e using Nat.strongRecOn with
 | _ e ih =>
  unfold zar zmc
  split
  ·omega
  split
  ·omega
  refine znP _ _ _ (fun k k0 k1=>?_) (by omega)
  rw[zbT l (show k.toNat < e by omega)]
  have:=ih k.toNat (by omega)
  simp only[Option.getD_some]
  omega
theorem zpw (ks:List Int):zep (ks.map eI)=some ks:=by
 induction ks with
 | nil=>rfl
 | cons k ks ih =>
  rw[List.map_cons]
  show zep ([PV.int .i64 k]::_)=_
  rw[zep,ih]
  rfl
theorem zkD {o:Nat→List PV→Option PV} {lv:PV} {k:List Int→Qn} (l:List Node) (n:Nat) (h:∀ j,j < n→o 47 [lv,.int .i64 (j:Nat)]=some (.int .i64 (zar l j))):∀ (m i:Nat),i+m=n→(zfm lv k m (zaH l i)).ev o=(k (zaH l n)).ev o
 | 0,i,hi=>by
  obtain rfl:i=n:=by omega
  rfl
 | m+1,i,hi=>by
  rw[zfm,Qn.ev,zdE,h i (by omega)]
  simp only
  rw[if_pos (zbw l i)]
  exact zkD l n h m (i+1) (by omega)
theorem zwg (l:List Node) (hl:l.length≤1000000) (hn:∀ n ∈ l,NB n):∀ e,e < l.length→zus l (e:Nat) (zar l e):=by
 intro e
 induction e using Nat.strongRecOn with
 | _ e ih =>
  intro he S
  have hb:=hn _ (List.getElem_mem he)
  have hg:l[e]?=some l[e]:=List.getElem?_eq_getElem he
  refine ztz zwC S ?_
  have hrow:(l.map eNode)[((e:Nat):Int).toNat]?=some [PV.int .i64 l[e].Kind,.int .i64 l[e].Num,.str l[e].Text,.list 2 (l[e].Parts.map ePart) false,.list 1 (l[e].Kids.map eI) false]:=by
   rw[Int.toNat_natCast,List.getElem?_map,hg]
   rfl
  simp only[zgM]
  rw[if_pos ⟨by omega,by rw[Int.toNat_natCast,List.length_map];exact he,by rw[List.length_map];omega⟩,hrow]
  simp only[zpw]
  rw[if_pos (show l[e].Kids.length≤1000000000 by have:=hb.kids;omega)]
  have hk:zaB (call SP) 73 [.int .i64 l[e].Kind]=some (.int .i64 (kdS l[e].Kind)):=zeB (zwT _ [])
  have hp:zaB (call SP) 74 [.agg [PV.int .i64 l[e].Kind,.int .i64 l[e].Num,.str l[e].Text,.list 2 (l[e].Parts.map ePart) false,.list 1 (l[e].Kids.map eI) false]]=some (.bool (plS l[e])):=zeB (zt0 _ hb [])
  have hv:zar l e=if (kdS l[e].Kind≠(l[e].Kids.length:Nat)∧kdS l[e].Kind≠-1)∨plS l[e]=false then -1 else Bk.run (fun k=>((zaH l e)[k.toNat]?).getD 0) e l[e].Kids.reverse:=by
   unfold zar zmc
   rw[hg]
  simp only[zmJ,Qn.ev,hk]
  by_cases hkk:kdS l[e].Kind≠(l[e].Kids.length:Nat)∧kdS l[e].Kind≠-1
  ·rw[if_pos hkk,hv,if_pos (.inl hkk)]
   rfl
  rw[if_neg hkk]
  simp only[Qn.ev,hp]
  cases hpl:plS l[e] with
  | false =>
   have hv':zar l e=-1:=by rw[hv,if_pos (.inr hpl)]
   rw[hv']
   rfl
  | true =>
   have hv':zar l e=Bk.run (fun k=>((zaH l e)[k.toNat]?).getD 0) e l[e].Kids.reverse:=by
    rw[hv,if_neg]
    rintro (h | h)
    ·exact hkk h
    rw[hpl] at h;cases h
   rw[hv']
   simp only[Bool.true_eq_false,if_false,Int.toNat_natCast]
   exact zkD (o:=zaB (call SP)) (lv:=.list 5 (l.map eNode) false) (k:=fun rs=>.ret (.int .i64 (Bk.run (fun k=>(rs[k.toNat]?).getD 0) e l[e].Kids.reverse))) l e (fun j hj=>zeB (ih j hj (by omega) [])) e 0 (by omega)
def zaU (l:List Node):Bool:=decide (0 < l.length) && decide (zar l (l.length - 1)=0)
theorem zwq (l:List Node) (hl:l.length≤1000000) (hn:∀ n ∈ l,NB n):zp0 l (zaU l):=by
 apply ztw
 refine⟨fun h=>⟨⟨by omega,by omega⟩,zar l (l.length - 1),?_,?_⟩,fun h=>?_⟩
 ·have:=zwg l hl hn (l.length - 1) (by omega)
  rw[show ((l.length - 1:Nat):Int)=(l.length:Int) - 1 by omega] at this
  exact this
 ·rw[zaU,decide_eq_true (show 0 < l.length by omega),Bool.true_and]
 rw[zaU,decide_eq_false (show ¬ 0 < l.length by omega),Bool.false_and]
def zi (n:Node):Bool:=(decide (kdS n.Kind=(n.Kids.length:Nat)) || decide (kdS n.Kind=-1)) && plS n
def stk:Nat→List Int→List Node→Bool
 | _,st,[]=>decide (st.length=1)
 | i,st,n::l=>if zi n=true∧st.take n.Kids.length=n.Kids.reverse then stk (i+1) ((i:Int)::st.drop n.Kids.length) l else false
theorem zel (l:List Node) {e:Nat} {n:Node} (h:l[e]?=some n):zar l e=if zi n=true then Bk.run (fun k=>((zaH l e)[k.toNat]?).getD 0) e n.Kids.reverse else -1:=by
 unfold zar zmc
 rw[h]
 simp only
 by_cases hk:zi n=true
 ·rw[if_pos hk,if_neg]
  simp only[zi,Bool.and_eq_true,Bool.or_eq_true,decide_eq_true_eq] at hk
  rintro (h | h)
  ·rcases hk.1 with h' | h'
   ·exact h.1 h'
   exact h.2 h'
  rw[h] at hk;exact absurd hk.2 (by decide)
 rw[if_neg hk,if_pos]
 simp only[zi,Bool.and_eq_true,Bool.or_eq_true,decide_eq_true_eq] at hk
 by_cases hp:plS n=true
 ·exact .inl ⟨fun h=>hk ⟨.inl h,hp⟩,fun h=>hk ⟨.inr h,hp⟩⟩
 exact .inr (by simpa using hp)
def Ch (l:List Node):Nat→List Int→Prop
 | i,[]=>i=0
 | i,s::st=>0 < i∧s=(i:Int) - 1∧∃ b:Nat,zar l (i - 1)=b∧Ch l b st
theorem zgN (l:List Node) (e:Nat):∀ (st:List Int) (i k:Nat),i≤e→Ch l i st→k≤st.length→∃ b:Nat,Bk.run (fun k=>((zaH l e)[k.toNat]?).getD 0) i (st.take k)=b∧Ch l b (st.drop k)
 | st,i,0,_,h,_=>⟨i,rfl,h⟩
 | [],i,k+1,_,_,hk=>absurd hk (by simp)
 | s::st,i,k+1,hi,⟨h0,hs,b,hb,hc⟩,hk=>by
  have hle:=zbw l (i - 1)
  obtain⟨b',h1,h2⟩:=zgN l e st b k (by omega) hc (by simpa using hk)
  refine⟨b',?_,h2⟩
  rw[List.take_succ_cons,Bk.run]
  have e1:s.toNat=i - 1:=by omega
  have e2:((zaH l e)[s.toNat]?).getD 0=b:=by rw[e1,zbT l (show i - 1 < e by omega),Option.getD_some,hb]
  simp only[e2]
  rw[if_neg (by omega),if_neg (by omega)]
  exact h1
theorem zmI (l:List Node):∀ (m i:Nat) (st:List Int),i+m=l.length→Ch l i st→stk i st (l.drop i)=true→zaU l=true
 | 0,i,st,hi,hc,h=>by
  rw[List.drop_of_length_le (by omega),stk,decide_eq_true_eq] at h
  match st,h,hc with
  | [s],_,⟨h0,hs,b,hb,hc⟩ =>
   have hb0:b=0:=hc
   rw[zaU,decide_eq_true (show 0 < l.length by omega),Bool.true_and,decide_eq_true_eq,show l.length - 1=i - 1 by omega,hb,hb0]
   rfl
 | m+1,i,st,hi,hc,h=>by
  have hlt:i < l.length:=by omega
  rw[List.drop_eq_getElem_cons hlt,stk] at h
  split at h
  ·rename_i hn
   obtain⟨h1,h2⟩:=hn
   have hk:l[i].Kids.length≤st.length:=by
    have:=congrArg List.length h2
    rw[List.length_take,List.length_reverse] at this
    omega
   obtain⟨b,hb,hc'⟩:=zgN l i st i l[i].Kids.length (Nat.le_refl _) hc hk
   rw[h2] at hb
   refine zmI l m (i+1) ((i:Int)::st.drop l[i].Kids.length) (by omega) ⟨by omega,by omega,b,?_,hc'⟩ h
   rw[show i+1 - 1=i by omega,zel l (List.getElem?_eq_getElem hlt),if_pos h1]
   exact hb
  cases h
theorem proc (l:List Node):∀ (e:Nat),e < l.length→∀ (b:Nat),zar l e=b→∀ st,stk b st (l.drop b)=stk (e+1) ((e:Int)::st) (l.drop (e+1)):=by
 intro e
 induction e using Nat.strongRecOn with
 | _ e ih =>
  intro he b hb st
  rw[zel l (List.getElem?_eq_getElem he)] at hb
  split at hb
  ·rename_i hn
   have rp:∀ (ks:List Int) (f:Nat),f≤e→Bk.run (fun k=>((zaH l e)[k.toNat]?).getD 0) f ks=b→stk b st (l.drop b)=stk f (ks++st) (l.drop f):=by
    intro ks
    induction ks with
    | nil =>
     intro f hf h
     have hf':f=b:=by simp only[Bk.run] at h;omega
     rw[hf']
     rfl
    | cons k ks ihk =>
     intro f hf h
     rw[Bk.run] at h
     split at h
     ·omega
     rename_i h1
     split at h
     ·omega
     rename_i h2
     have hk:k.toNat < e:=by omega
     have ek:((zaH l e)[k.toNat]?).getD 0=zar l k.toNat:=by rw[zbT l hk,Option.getD_some]
     simp only[ek] at h h2
     have hle:=zbw l k.toNat
     obtain⟨b1,hb1⟩:∃ b1:Nat,zar l k.toNat=b1:=⟨(zar l k.toNat).toNat,by omega⟩
     rw[hb1] at h
     rw[ihk b1 (by omega) h,ih k.toNat hk (by omega) b1 hb1 (ks++st)]
     have e1:k.toNat+1=f:=by omega
     have e2:((k.toNat:Nat):Int)=k:=by omega
     rw[e1,e2]
     rfl
   have hr:=rp l[e].Kids.reverse e (Nat.le_refl _) hb
   rw[hr,List.drop_eq_getElem_cons he,stk,if_pos]
   ·have:(l[e].Kids.reverse++st).drop l[e].Kids.length=st:=by
     have:=List.drop_left (l₁:=l[e].Kids.reverse) (l₂:=st)
     rwa [List.length_reverse] at this
    rw[this]
   refine⟨hn,?_⟩
   have:=List.take_left (l₁:=l[e].Kids.reverse) (l₂:=st)
   rwa [List.length_reverse] at this
  omega
theorem zf7 (l:List Node):zaU l=stk 0 [] l:=by
 cases h:stk 0 [] l with
 | true=>exact zmI l l.length 0 [] (by omega) rfl h
 | false =>
  rw[←Bool.not_eq_true]
  intro ht
  simp only[zaU,Bool.and_eq_true,decide_eq_true_eq] at ht
  have:=proc l (l.length - 1) (by omega) 0 ht.2 []
  rw[List.drop_zero,h,show l.length - 1+1=l.length by omega,List.drop_length,stk] at this
  simp at this
def rkK (l:List Node) (k:Int):Int:=match l[k.toNat]? with
 | some n=>rkS n.Kind
 | none=>7
def wrS (l:List Node) (o:Int→List UInt8) (k least:Int):List UInt8:=if rkK l k < least then [40]++o k++[41] else o k
def comG (o:Int→List UInt8):List Int→List UInt8
 | []=>[]
 | k::r=>[44,32]++o k++comG o r
def comS (o:Int→List UInt8):List Int→List UInt8
 | []=>[]
 | k::r=>o k++comG o r
def kid (n:Node) (i:Nat):Int:=(n.Kids[i]?).getD 0
def ndS (l:List Node) (o:Int→List UInt8) (n:Node):List UInt8 :=
 if n.Kind=1 then Lib.itoa n.Num
 else if n.Kind=2 then qtS n.Parts
 else if n.Kind=3 then Lib.formatBool (decide (n.Num=1))
 else if n.Kind=4 then n.Text
 else if n.Kind=5 then n.Text++[40]++comS o n.Kids++[41]
 else if n.Kind=6 then [91]++comS o n.Kids++[93]
 else if n.Kind=7 then wrS l o (kid n 0) 7++[91]++o (kid n 1)++[93]
 else if n.Kind=8 then [33]++wrS l o (kid n 0) 6
 else if n.Kind=9 then [45]++wrS l o (kid n 0) 6
 else if n.Kind=10 then wrS l o (kid n 0) 1++[32,63,32]++o (kid n 1)++[32,58,32]++o (kid n 2)
 else wrS l o (kid n 0) (if rkS n.Kind=3 then rkS n.Kind+1 else rkS n.Kind)++[32]++zaq n.Kind++[32]++wrS l o (kid n 1) (rkS n.Kind+1)
def txv (l:List Node) (rs:List (List UInt8)) (e:Nat):List UInt8:=match l[e]? with
 | some n=>ndS l (fun k=>(rs[k.toNat]?).getD []) n
 | none=>[]
def txs (l:List Node):Nat→List (List UInt8)
 | 0=>[]
 | n+1=>txs l n++[txv l (txs l n) n]
theorem zhR (l:List Node):∀ n,(txs l n).length=n
 | 0=>rfl
 | n+1=>by rw[txs,List.length_append,zhR l n];rfl
def txS (l:List Node) (e:Nat):List UInt8:=txv l (txs l e) e
theorem zoC (l:List Node):∀ {n j:Nat},j < n→(txs l n)[j]?=some (txS l j)
 | 0,j,h=>absurd h (Nat.not_lt_zero _)
 | n+1,j,h=>by
  rw[txs]
  by_cases hj:j < n
  ·rw[List.getElem?_append_left (by rw[zhR];exact hj)]
   exact zoC l hj
  obtain rfl:j=n:=by omega
  rw[List.getElem?_append_right (by rw[zhR];omega),zhR,Nat.sub_self]
  rfl
structure NS (n:Node):Prop where
 num:I64 n.Num
 text:n.Text.length≤300
 parts:QB n.Parts
 kids:n.Kids.length≤100
theorem ziX {o o':Int→List UInt8}:∀ {ks:List Int},(∀ k ∈ ks,o k=o' k)→comG o ks=comG o' ks
 | [],_=>rfl
 | k::r,h=>by rw[comG,comG,h k (List.mem_cons_self ..),ziX fun q hq=>h q (List.mem_cons_of_mem _ hq)]
theorem zjh {o o':Int→List UInt8}:∀ {ks:List Int},(∀ k ∈ ks,o k=o' k)→comS o ks=comS o' ks
 | [],_=>rfl
 | k::r,h=>by rw[comS,comS,h k (List.mem_cons_self ..),ziX fun q hq=>h q (List.mem_cons_of_mem _ hq)]
theorem zcI {l:List Node} {o o':Int→List UInt8} {k:Int} (least:Int) (h:o k=o' k):wrS l o k least=wrS l o' k least:=by rw[wrS,wrS,h]
theorem zl {n:Node} {i:Nat} (h:i < n.Kids.length):kid n i ∈ n.Kids:=by
 rw[kid,List.getElem?_eq_getElem h]
 exact List.getElem_mem h
theorem za3 {n:Node} {i:Nat} (h:i < n.Kids.length):n.Kids[i]?=some (kid n i):=by
 rw[kid,List.getElem?_eq_getElem h]
 rfl
theorem zaS {n:Node} (h:zi n=true):1≤n.Kind∧n.Kind≤23∧(n.Kind≠5→n.Kind≠6→kdS n.Kind=n.Kids.length):=by
 simp only[zi,Bool.and_eq_true,Bool.or_eq_true,decide_eq_true_eq] at h
 have h1:=h.1
 unfold kdS at *
 repeat' first | omega | split at h1
theorem kd2 {n:Node} (h:zi n=true) (h10:10 < n.Kind):n.Kids.length=2:=by
 have h1:=zaS h
 have:=h1.2.2 (by omega) (by omega)
 rw[show kdS n.Kind=2 by unfold kdS;repeat' first | omega | split] at this
 omega
theorem kdk {n:Node} (h:zi n=true) (k:Int) (c:Nat) (hk:n.Kind=k) (hc:kdS k=c) (h5:k≠5) (h6:k≠6):n.Kids.length=c:=by
 have:=(zaS h).2.2 (by omega) (by omega)
 rw[hk,hc] at this
 omega
theorem zqH {l:List Node} {o o':Int→List UInt8} {n:Node} (hn:zi n=true) (h:∀ k ∈ n.Kids,o k=o' k):ndS l o n=ndS l o' n:=by
 rw[ndS,ndS]
 by_cases k1:n.Kind=1
 ·rw[if_pos k1,if_pos k1]
 rw[if_neg k1,if_neg k1]
 by_cases k2:n.Kind=2
 ·rw[if_pos k2,if_pos k2]
 rw[if_neg k2,if_neg k2]
 by_cases k3:n.Kind=3
 ·rw[if_pos k3,if_pos k3]
 rw[if_neg k3,if_neg k3]
 by_cases k4:n.Kind=4
 ·rw[if_pos k4,if_pos k4]
 rw[if_neg k4,if_neg k4]
 by_cases k5:n.Kind=5
 ·rw[if_pos k5,if_pos k5,zjh h]
 rw[if_neg k5,if_neg k5]
 by_cases k6:n.Kind=6
 ·rw[if_pos k6,if_pos k6,zjh h]
 rw[if_neg k6,if_neg k6]
 by_cases k7:n.Kind=7
 ·have hl:=kdk hn 7 2 k7 (by decide) (by decide) (by decide)
  rw[if_pos k7,if_pos k7,zcI 7 (h _ (zl (i:=0) (by omega))),h _ (zl (i:=1) (by omega))]
 rw[if_neg k7,if_neg k7]
 by_cases k8:n.Kind=8
 ·have hl:=kdk hn 8 1 k8 (by decide) (by decide) (by decide)
  rw[if_pos k8,if_pos k8,zcI 6 (h _ (zl (i:=0) (by omega)))]
 rw[if_neg k8,if_neg k8]
 by_cases k9:n.Kind=9
 ·have hl:=kdk hn 9 1 k9 (by decide) (by decide) (by decide)
  rw[if_pos k9,if_pos k9,zcI 6 (h _ (zl (i:=0) (by omega)))]
 rw[if_neg k9,if_neg k9]
 by_cases k10:n.Kind=10
 ·have hl:=kdk hn 10 3 k10 (by decide) (by decide) (by decide)
  rw[if_pos k10,if_pos k10,zcI 1 (h _ (zl (i:=0) (by omega))),h _ (zl (i:=1) (by omega)),h _ (zl (i:=2) (by omega))]
 rw[if_neg k10,if_neg k10]
 have h1:=zaS hn
 have hl:=kd2 hn (by omega)
 rw[zcI _ (h _ (zl (i:=0) (by omega))),zcI _ (h _ (zl (i:=1) (by omega)))]
theorem zfu {l:List Node} {e:Nat} (he:e < l.length) (hn:zi l[e]=true) (hk:∀ k ∈ l[e].Kids,0≤k∧k < (e:Int)):txS l e=ndS l (fun k=>txS l k.toNat) l[e]:=by
 unfold txS txv
 rw[List.getElem?_eq_getElem he]
 refine zqH hn fun k hk'=>?_
 have:=hk k hk'
 rw[zoC l (show k.toNat < e by omega)]
 rfl
def zT (o:Int→List UInt8):List Int→Nat
 | []=>0
 | k::r=>(o k).length+zT o r
theorem zif (o:Int→List UInt8):∀ a b,zT o (a++b)=zT o a+zT o b
 | [],b=>by simp[zT]
 | k::a,b=>by rw[List.cons_append,zT,zT,zif o a b];omega
theorem zeE (o:Int→List UInt8):∀ a,zT o a.reverse=zT o a
 | []=>rfl
 | k::a=>by rw[List.reverse_cons,zif,zeE o a,zT,zT,zT];omega
theorem znL (o:Int→List UInt8):∀ ks:List Int,(comG o ks).length=zT o ks+2*ks.length
 | []=>rfl
 | k::r=>by
  have:=znL o r
  simp only[comG,zT,List.length_append,List.length_cons,List.length_nil]
  omega
theorem ziE (o:Int→List UInt8):∀ ks:List Int,(comS o ks).length≤zT o ks+2*ks.length
 | []=>Nat.le_refl _
 | k::r=>by
  have:=znL o r
  simp only[comS,zT,List.length_append,List.length_cons,List.length_nil]
  omega
theorem zjZ (l:List Node) (o:Int→List UInt8) (k least:Int):(wrS l o k least).length≤(o k).length+2:=by
 unfold wrS
 split
 ·simp only[List.length_append,List.length_cons,List.length_nil];omega
 omega
theorem znM {n:Int} (h:I64 n):(Lib.itoa n).length≤30:=by
 have:=Lib.itoa_length_le n h.1 h.2
 omega
theorem zmQ (b:Bool):(Lib.formatBool b).length≤5:=by cases b <;> decide
theorem zO {n:Node}:∀ {c:Nat},n.Kids.length=c→n.Kids=(List.range c).map (kid n):=by
 intro c hc
 apply List.ext_getElem?
 intro i
 by_cases hi:i < c
 ·rw[za3 (by omega)]
  simp[hi]
 rw[List.getElem?_eq_none (by omega),List.getElem?_eq_none (by simp;omega)]
theorem zvU {l:List Node} {o:Int→List UInt8} {n:Node} (hn:zi n=true) (hs:NS n):(ndS l o n).length≤40000+zT o n.Kids:=by
 have t1:=hs.text
 have t2:=zvD hs.parts
 have t3:=znM hs.num
 have t4:=zmQ (decide (n.Num=1))
 have t5:=ziE o n.Kids
 have t6:=hs.kids
 have w:=zjZ l o
 have sg:=zkl n.Kind
 have h1:=zaS hn
 rw[ndS]
 by_cases k1:n.Kind=1
 ·rw[if_pos k1];omega
 rw[if_neg k1]
 by_cases k2:n.Kind=2
 ·rw[if_pos k2];omega
 rw[if_neg k2]
 by_cases k3:n.Kind=3
 ·rw[if_pos k3];omega
 rw[if_neg k3]
 by_cases k4:n.Kind=4
 ·rw[if_pos k4];omega
 rw[if_neg k4]
 by_cases k5:n.Kind=5
 ·rw[if_pos k5];simp only[List.length_append,List.length_cons,List.length_nil];omega
 rw[if_neg k5]
 by_cases k6:n.Kind=6
 ·rw[if_pos k6];simp only[List.length_append,List.length_cons,List.length_nil];omega
 rw[if_neg k6]
 by_cases k7:n.Kind=7
 ·have e:zT o n.Kids=(o (kid n 0)).length+((o (kid n 1)).length+0):=by rw[zO (kdk hn 7 2 k7 (by decide) (by decide) (by decide))];rfl
  have:=w (kid n 0) 7
  rw[if_pos k7];simp only[List.length_append,List.length_cons,List.length_nil];omega
 rw[if_neg k7]
 by_cases k8:n.Kind=8
 ·have e:zT o n.Kids=(o (kid n 0)).length+0:=by rw[zO (kdk hn 8 1 k8 (by decide) (by decide) (by decide))];rfl
  have:=w (kid n 0) 6
  rw[if_pos k8];simp only[List.length_append,List.length_cons,List.length_nil];omega
 rw[if_neg k8]
 by_cases k9:n.Kind=9
 ·have e:zT o n.Kids=(o (kid n 0)).length+0:=by rw[zO (kdk hn 9 1 k9 (by decide) (by decide) (by decide))];rfl
  have:=w (kid n 0) 6
  rw[if_pos k9];simp only[List.length_append,List.length_cons,List.length_nil];omega
 rw[if_neg k9]
 by_cases k10:n.Kind=10
 ·have e:zT o n.Kids=(o (kid n 0)).length+((o (kid n 1)).length+((o (kid n 2)).length+0)):=by rw[zO (kdk hn 10 3 k10 (by decide) (by decide) (by decide))];rfl
  have:=w (kid n 0) 1
  rw[if_pos k10];simp only[List.length_append,List.length_cons,List.length_nil];omega
 rw[if_neg k10]
 have e:zT o n.Kids=(o (kid n 0)).length+((o (kid n 1)).length+0):=by rw[zO (kd2 hn (by omega))];rfl
 generalize (if rkS n.Kind=3 then rkS n.Kind+1 else rkS n.Kind)=q
 have:=w (kid n 0) q
 have:=w (kid n 1) (rkS n.Kind+1)
 simp only[List.length_append,List.length_cons,List.length_nil];omega
theorem ziV (l:List Node):∀ (m i:Nat) (st:List Int),i+m=l.length→Ch l i st→stk i st (l.drop i)=true→∀ (e:Nat) (he:e < l.length),i≤e→zi l[e]=true∧∃ st,Ch l e st∧l[e].Kids.length≤st.length∧st.take l[e].Kids.length=l[e].Kids.reverse
 | 0,i,st,hi,hc,h,e,he,hie=>by omega
 | m+1,i,st,hi,hc,h,e,he,hie=>by
  have hlt:i < l.length:=by omega
  rw[List.drop_eq_getElem_cons hlt,stk] at h
  split at h
  ·rename_i hn
   obtain⟨h1,h2⟩:=hn
   have hk:l[i].Kids.length≤st.length:=by
    have:=congrArg List.length h2
    rw[List.length_take,List.length_reverse] at this
    omega
   by_cases hei:e=i
   ·subst hei
    exact⟨h1,st,hc,hk,h2⟩
   obtain⟨b,hb,hc'⟩:=zgN l i st i l[i].Kids.length (Nat.le_refl _) hc hk
   rw[h2] at hb
   refine ziV l m (i+1) ((i:Int)::st.drop l[i].Kids.length) (by omega) ⟨by omega,by omega,b,?_,hc'⟩ h e he (by omega)
   rw[show i+1 - 1=i by omega,zel l (List.getElem?_eq_getElem hlt),if_pos h1]
   exact hb
  cases h
theorem zkE (l:List Node) (e:Nat) (hf:∀ j < e,∃ b:Nat,zar l j=b∧(txS l j).length+40000*b≤40000*(j+1)):∀ (st:List Int) (i k:Nat),i≤e→Ch l i st→k≤st.length→∃ b:Nat,b≤i∧Bk.run (fun k=>((zaH l e)[k.toNat]?).getD 0) i (st.take k)=b∧(∀ s ∈ st.take k,0≤s∧s < (i:Int))∧zT (fun k=>txS l k.toNat) (st.take k)+40000*b≤40000*i
 | st,i,0,_,h,_=>⟨i,Nat.le_refl _,rfl,by simp,by simp[zT]⟩
 | [],i,k+1,_,_,hk=>absurd hk (by simp)
 | s::st,i,k+1,hi,⟨h0,hs,b,hb,hc⟩,hk=>by
  have hle:=zbw l (i - 1)
  obtain⟨b',h1,h2,h3,h4⟩:=zkE l e hf st b k (by omega) hc (by simpa using hk)
  obtain⟨b2,hb2,hl2⟩:=hf (i - 1) (by omega)
  have e1:s.toNat=i - 1:=by omega
  refine⟨b',by omega,?_,?_,?_⟩
  ·rw[List.take_succ_cons,Bk.run]
   have e2:((zaH l e)[s.toNat]?).getD 0=b:=by rw[e1,zbT l (show i - 1 < e by omega),Option.getD_some,hb]
   simp only[e2]
   rw[if_neg (by omega),if_neg (by omega)]
   exact h2
  ·intro q hq
   rw[List.take_succ_cons] at hq
   rcases List.mem_cons.1 hq with rfl | hq
   ·omega
   have:=h3 q hq;omega
  rw[List.take_succ_cons,zT]
  simp only[e1]
  omega
theorem zl4 {l:List Node} (ht:zaU l=true) (hn:∀ n ∈ l,NS n):∀ (e:Nat) (he:e < l.length),zi l[e]=true∧(∀ k ∈ l[e].Kids,0≤k∧k < (e:Int))∧∃ b:Nat,zar l e=b∧(txS l e).length+40000*b≤40000*(e+1):=by
 have hst:=ziV l l.length 0 [] (by omega) rfl (by rw[List.drop_zero,←zf7];exact ht)
 intro e
 induction e using Nat.strongRecOn with
 | _ e ih =>
  intro he
  obtain⟨h1,st,h2,h3,h4⟩:=hst e he (Nat.zero_le _)
  obtain⟨b,b1,b2,b3,b4⟩:=zkE l e (fun j hj=>(ih j hj (by omega)).2.2) st e l[e].Kids.length (Nat.le_refl _) h2 h3
  rw[h4] at b2 b3 b4
  have hk:∀ k ∈ l[e].Kids,0≤k∧k < (e:Int):=fun k hk=>b3 k (List.mem_reverse.2 hk)
  refine⟨h1,hk,b,?_,?_⟩
  ·rw[zel l (List.getElem?_eq_getElem he),if_pos h1]
   exact b2
  rw[zeE] at b4
  rw[zfu he h1 hk]
  have:=zvU (l:=l) (o:=fun k=>txS l k.toNat) h1 (hn _ (List.getElem_mem he))
  omega
structure TR (l:List Node):Prop where
 tree:zaU l=true
 ns:∀ n ∈ l,NS n
 len:l.length≤80
theorem TR.node {l:List Node} (h:TR l) (e:Nat) (he:e < l.length):zi l[e]=true∧(∀ k ∈ l[e].Kids,0≤k∧k < (e:Int))∧(txS l e).length≤3300000:=by
 obtain⟨h1,h2,b,h3,h4⟩:=zl4 h.tree h.ns e he
 have:=h.len
 exact⟨h1,h2,by omega⟩
theorem zr5 {l:List Node} (h:TR l) {e:Nat} (he:e < l.length) {i:Nat} (hi:i < l[e].Kids.length):∃ v,l[e].Kids[i]?=some (kid l[e] i)∧0≤kid l[e] i∧(kid l[e] i).toNat < e∧l[(kid l[e] i).toNat]?=some v∧rkK l (kid l[e] i)=rkS v.Kind∧v.Kind≤23∧(txS l (kid l[e] i).toNat).length≤3300000:=by
 obtain⟨h1,h2,h3⟩:=h.node e he
 have hk:=h2 _ (zl hi)
 have hlt:(kid l[e] i).toNat < l.length:=by omega
 obtain⟨g1,g2,g3⟩:=h.node _ hlt
 have hg:=List.getElem?_eq_getElem hlt
 exact⟨_,za3 hi,by omega,by omega,hg,by rw[rkK,hg],(zaS g1).2.1,g3⟩
section
variable {l:List Node} {o:Int→List UInt8} {n:Node}
theorem nd1 (h:n.Kind=1):ndS l o n=Lib.itoa n.Num:=by rw[ndS,if_pos h]
theorem nd2 (h:n.Kind=2):ndS l o n=qtS n.Parts:=by rw[ndS,if_neg (by omega),if_pos h]
theorem nd3 (h:n.Kind=3):ndS l o n=Lib.formatBool (decide (n.Num=1)):=by rw[ndS,if_neg (by omega),if_neg (by omega),if_pos h]
theorem nd4 (h:n.Kind=4):ndS l o n=n.Text:=by rw[ndS,if_neg (by omega),if_neg (by omega),if_neg (by omega),if_pos h]
theorem nd5 (h:n.Kind=5):ndS l o n=n.Text++[40]++comS o n.Kids++[41]:=by rw[ndS,if_neg (by omega),if_neg (by omega),if_neg (by omega),if_neg (by omega),if_pos h]
theorem nd6 (h:n.Kind=6):ndS l o n=[91]++comS o n.Kids++[93]:=by rw[ndS,if_neg (by omega),if_neg (by omega),if_neg (by omega),if_neg (by omega),if_neg (by omega),if_pos h]
theorem nd7 (h:n.Kind=7):ndS l o n=wrS l o (kid n 0) 7++[91]++o (kid n 1)++[93]:=by rw[ndS,if_neg (by omega),if_neg (by omega),if_neg (by omega),if_neg (by omega),if_neg (by omega),if_neg (by omega),if_pos h]
theorem nd8 (h:n.Kind=8):ndS l o n=[33]++wrS l o (kid n 0) 6:=by rw[ndS,if_neg (by omega),if_neg (by omega),if_neg (by omega),if_neg (by omega),if_neg (by omega),if_neg (by omega),if_neg (by omega),if_pos h]
theorem nd9 (h:n.Kind=9):ndS l o n=[45]++wrS l o (kid n 0) 6:=by rw[ndS,if_neg (by omega),if_neg (by omega),if_neg (by omega),if_neg (by omega),if_neg (by omega),if_neg (by omega),if_neg (by omega),if_neg (by omega),if_pos h]
theorem zl2 (h:n.Kind=10):ndS l o n=wrS l o (kid n 0) 1++[32,63,32]++o (kid n 1)++[32,58,32]++o (kid n 2):=by rw[ndS,if_neg (by omega),if_neg (by omega),if_neg (by omega),if_neg (by omega),if_neg (by omega),if_neg (by omega),if_neg (by omega),if_neg (by omega),if_neg (by omega),if_pos h]
theorem zjW (h:10 < n.Kind):ndS l o n=wrS l o (kid n 0) (if rkS n.Kind=3 then rkS n.Kind+1 else rkS n.Kind)++[32]++zaq n.Kind++[32]++wrS l o (kid n 1) (rkS n.Kind+1):=by rw[ndS,if_neg (by omega),if_neg (by omega),if_neg (by omega),if_neg (by omega),if_neg (by omega),if_neg (by omega),if_neg (by omega),if_neg (by omega),if_neg (by omega),if_neg (by omega)]
end
theorem zfn:Lib.formatBool true=[116,114,117,101]:=by decide
theorem zen:Lib.formatBool false=[102,97,108,115,101]:=by decide
end Go.Proofs.YtfbcnpbhhooapaaGreatDoor.M
namespace Go.Proofs.YtfbcnpbhhooapaaGreatDoor.M
open Go Classical
theorem zvX:SP 103=some (.code sc_Q103):=zb rfl Tryz.func103 comp_Q103
def zdM (rank:Int) (i13:Int) (x14:PExprs) (g15:Nat) (z16:Bool) (o:Option Int) (r:Int) (x':PExprs) (x'_g2:Nat) (x'_z2:Bool):Prop:=∀ (S:Sto) (e:Nat→PV) (f:Fr) (n0 t0:Nat),((getBox S n0 t0).map (List.take 4)=some [.list 5 (x14.tokens.l.map eToken) false,.int .i64 x14.tokens.pos,.sl 0 (.cell t0 2) 0 x14.out.length x14.out.length g15 false,.int .i64 x14.deep]∧getArr S n0 (.cell t0 2)=some ⟨5,x14.out.map eNode,z16,g15⟩)→e 0=.ptr (n0+1) t0 0∧e 1=.int .i64 rank∧e 5=.int .i64 i13→zmt SP (E SP (.loop b_Q103_1) ⟨e,f::S⟩)=po 116 o (.v (.int .i64 r)) (setArr (setBox S n0 t0 ([.list 5 (x'.tokens.l.map eToken) false,.int .i64 x'.tokens.pos,.sl 0 (.cell t0 2) 0 x'.out.length x'.out.length x'_g2 false,.int .i64 x'.deep]++((getBox S n0 t0).getD []).drop 4)) n0 (.cell t0 2) ⟨5,x'.out.map eNode,x'_z2,x'_g2⟩)
theorem za2 (rank:Int) (i13:Int) (x14:PExprs) (g15:Nat) (z16:Bool) (o:Option Int) (r:Int) (x':PExprs) (x'_g2:Nat) (x'_z2:Bool) (T :
  ∃ (r17:Token) (y18:PTokens),(zbt x14.tokens r17 y18) ∧
 ((r17.Kind=4) →
  ∃ (r19:Token) (y20:PTokens),(zbt y18 r19 y20) ∧
  ∃ (r21:Int) (r22:Bool),(zgU rank r19.Text r21 r22) ∧
  ((r22=true) →
   (I64 (y20.pos+1)) ∧
   (I64 (rank+1)) ∧
   ∃ (o24:Option Int) (r23:Int) (y25:PExprs) (g26:Nat) (z27:Bool),(zcT (PExprs.mk (PTokens.mk y20.l (y20.pos+1)) x14.out x14.deep) g15 z16 (rank+1) o24 r23 y25 g26 z27) ∧
   (match o24 with
   | none=>(∃ (r29:Int) (y30:PExprs) (g31:Nat) (z32:Bool),(zan y25 g26 z27 r21 [] [i13,r23] r29 y30 g31 z32) ∧
    ((rank=2) →
     none=o∧r29=r∧y30=x'∧g31=x'_g2∧z32=x'_z2) ∧
    (¬ (rank=2) →
     zdM rank r29 y30 g31 z32 o r x' x'_g2 x'_z2))
   | some e28=>(some e28=o∧y25=x'∧g26=x'_g2∧z27=x'_z2))) ∧
  (¬ (r22=true) →
   none=o∧i13=r∧(PExprs.mk y20 x14.out x14.deep)=x'∧g15=x'_g2∧z16=x'_z2)) ∧
 (¬ (r17.Kind=4) →
  none=o∧i13=r∧(PExprs.mk y18 x14.out x14.deep)=x'∧g15=x'_g2∧z16=x'_z2)):zdM rank i13 x14 g15 z16 o r x' x'_g2 x'_z2:=by
 intro S e f n0 t0 H0 h
 obtain⟨hb0,ha0⟩:=H0
 obtain⟨w0,hB0⟩:=zf hb0
 have hn0:=zc hB0
 unfold zmt
 rw[zS]
 have F:=zsc
 obtain⟨r17,y18,q1,T⟩:=T
 simp only[zbt,lF] at q1
 replace F:=aa ha0<|aa hB0<|aa hn0<|aa h<|aa q1<|F
 by_cases c2:r17.Kind=4
 ·replace T:=T.1 c2
  obtain⟨r19,y20,q3,r21,r22,q4,T⟩:=T
  simp only[zbt,lF] at q3
  simp only[zgU,lF] at q4
  replace F:=aa (eq_true c2)<|aa q3<|aa q4<|F
  by_cases c5:r22=true
  ·replace T:=T.1 c5
   obtain⟨p6,p7,o24,r23,y25,g26,z27,q8,T⟩:=T
   simp only[zcT,lF] at q8
   replace F:=aa c5<|aa p6.wrap<|aa p7.wrap<|aa q8<|F
   cases o24 with
   | none =>
     dsimp only at T
     obtain⟨r29,y30,g31,z32,q9,T⟩:=T
     simp only[zan,lF] at q9
     replace F:=aa q9<|F
     by_cases c10:rank=2
     ·replace T:=T.1 c10
      obtain⟨rfl,rfl,rfl,rfl,rfl⟩:=T
      exact fi (aa (eq_true c10)<|F)
     replace T:=T.2 c10
     replace F:=aa (eq_false c10)<|F
     try simp only[F,lw,lx,le,Nat.reduceMul,UInt8.reduceToNat,reduceIte,reduceCtorEq,Nat.reduceEqDiff,Nat.reduceAdd,Nat.reduceLeDiff,Nat.reduceSub,Nat.reduceLT,Int.reduceEq,Int.reduceLT,Int.reduceLE,Int.reduceToNat,Int.reduceAdd,Int.reduceSub,Int.reduceMul,Int.reduceNeg]
     refine (T _ _ _ n0 t0 ?_ ?_).trans ?_
     all_goals exact fi F
   | some e28 =>
     dsimp only at T
     obtain⟨rfl,rfl,rfl,rfl⟩:=T
     exact fi F
  replace T:=T.2 c5
  replace c5:=Bool.eq_false_iff.2 c5
  obtain⟨rfl,rfl,rfl,rfl,rfl⟩:=T
  exact fi (aa c5<|F)
 replace T:=T.2 c2
 obtain⟨rfl,rfl,rfl,rfl,rfl⟩:=T
 exact fi (aa (eq_false c2)<|F)
theorem zdy (x:PExprs) (x_g2:Nat) (x_z2:Bool) (rank:Int) (o:Option Int) (r:Int) (x':PExprs) (x'_g2:Nat) (x'_z2:Bool) (T :
  ((rank=5) →
  ∃ (o2:Option Int) (r1:Int) (y3:PExprs) (g4:Nat) (z5:Bool),(zcR x x_g2 x_z2 o2 r1 y3 g4 z5) ∧
  (match o2 with
  | none=>(none=o∧r1=r∧y3=x'∧g4=x'_g2∧z5=x'_z2)
  | some e6=>(some e6=o∧y3=x'∧g4=x'_g2∧z5=x'_z2))) ∧
 (¬ (rank=5) →
  (I64 (rank+1)) ∧
  ∃ (o8:Option Int) (r7:Int) (y9:PExprs) (g10:Nat) (z11:Bool),(zcT x x_g2 x_z2 (rank+1) o8 r7 y9 g10 z11) ∧
  (match o8 with
  | none=>(zdM rank r7 y9 g10 z11 o r x' x'_g2 x'_z2)
  | some e12=>(some e12=o∧y9=x'∧g10=x'_g2∧z11=x'_z2)))):zcT x x_g2 x_z2 rank o r x' x'_g2 x'_z2:=by
 intro S n0 t0 H0
 obtain⟨hb0,ha0⟩:=H0
 obtain⟨w0,hB0⟩:=zf hb0
 have hn0:=zc hB0
 rw[za zvX _ _ rfl]
 have F:=zsc
 replace F:=aa ha0<|aa hB0<|aa hn0<|F
 by_cases c1:rank=5
 ·replace T:=T.1 c1
  obtain⟨o2,r1,y3,g4,z5,q2,T⟩:=T
  simp only[zcR,lF] at q2
  replace F:=aa (eq_true c1)<|aa q2<|F
  cases o2 with
  | none =>
    dsimp only at T
    obtain⟨rfl,rfl,rfl,rfl,rfl⟩:=T
    exact fi F
  | some e6 =>
    dsimp only at T
    obtain⟨rfl,rfl,rfl,rfl⟩:=T
    exact fi F
 replace T:=T.2 c1
 obtain⟨p3,o8,r7,y9,g10,z11,q4,T⟩:=T
 simp only[zcT,lF] at q4
 replace F:=aa (eq_false c1)<|aa p3.wrap<|aa q4<|F
 cases o8 with
 | none =>
   dsimp only at T
   try simp only[F,lw,lx,le,Nat.reduceMul,UInt8.reduceToNat,reduceIte,reduceCtorEq,Nat.reduceEqDiff,Nat.reduceAdd,Nat.reduceLeDiff,Nat.reduceSub,Nat.reduceLT,Int.reduceEq,Int.reduceLT,Int.reduceLE,Int.reduceToNat,Int.reduceAdd,Int.reduceSub,Int.reduceMul,Int.reduceNeg]
   refine (T _ _ _ n0 t0 ?_ ?_).trans ?_
   all_goals exact fi F
 | some e12 =>
   dsimp only at T
   obtain⟨rfl,rfl,rfl,rfl⟩:=T
   exact fi F
theorem zw2:SP 68=some (.code sc_Q68):=zb rfl Tryz.func68 comp_Q68
theorem zcw (x:PExprs) (x_g2:Nat) (x_z2:Bool) (o:Option Int) (r:Int) (x':PExprs) (x'_g2:Nat) (x'_z2:Bool) (T :
  ∃ (o2:Option Int) (r1:Int) (y3:PExprs) (g4:Nat) (z5:Bool),(zcT x x_g2 x_z2 0 o2 r1 y3 g4 z5) ∧
 (match o2 with
 | none=>(∃ (r7:Bool) (y8:PTokens),(zat y3.tokens [63] r7 y8) ∧
  ((r7=true) →
   ∃ (o9:Option Int) (y10:PExprs) (g11:Nat) (z12:Bool),(zaJ (PExprs.mk y8 y3.out y3.deep) g4 z5 [63] o9 y10 g11 z12) ∧
   (match o9 with
   | none=>(∃ (o15:Option Int) (r14:Int) (y16:PExprs) (g17:Nat) (z18:Bool),(zbh y10 g11 z12 o15 r14 y16 g17 z18) ∧
    (match o15 with
    | none=>(∃ (o20:Option Int) (y21:PTokens),(zcV y16.tokens [58] o20 y21) ∧
     (match o20 with
     | none=>(∃ (o24:Option Int) (r23:Int) (y25:PExprs) (g26:Nat) (z27:Bool),(zbh (PExprs.mk y21 y16.out y16.deep) g17 z18 o24 r23 y25 g26 z27) ∧
      (match o24 with
      | none=>((I64 (y25.deep - 1)) ∧
       ∃ (r29:Int) (y30:PExprs) (g31:Nat) (z32:Bool),(zan (PExprs.mk y25.tokens y25.out (y25.deep - 1)) g26 z27 10 [] [r1,r14,r23] r29 y30 g31 z32) ∧
       none=o∧r29=r∧y30=x'∧g31=x'_g2∧z32=x'_z2)
      | some e28=>(some e28=o∧y25=x'∧g26=x'_g2∧z27=x'_z2)))
     | some e22=>(some e22=o∧(PExprs.mk y21 y16.out y16.deep)=x'∧g17=x'_g2∧z18=x'_z2)))
    | some e19=>(some e19=o∧y16=x'∧g17=x'_g2∧z18=x'_z2)))
   | some e13=>(some e13=o∧y10=x'∧g11=x'_g2∧z12=x'_z2))) ∧
  (¬ (r7=true) →
   none=o∧r1=r∧(PExprs.mk y8 y3.out y3.deep)=x'∧g4=x'_g2∧z5=x'_z2))
 | some e6=>(some e6=o∧y3=x'∧g4=x'_g2∧z5=x'_z2))):zbh x x_g2 x_z2 o r x' x'_g2 x'_z2:=by
 intro S n0 t0 H0
 obtain⟨hb0,ha0⟩:=H0
 obtain⟨w0,hB0⟩:=zf hb0
 have hn0:=zc hB0
 rw[za zw2 _ _ rfl]
 have F:=zyI
 obtain⟨o2,r1,y3,g4,z5,q1,T⟩:=T
 simp only[zcT,lF] at q1
 replace F:=aa ha0<|aa hB0<|aa hn0<|aa q1<|F
 cases o2 with
 | none =>
   dsimp only at T
   obtain⟨r7,y8,q2,T⟩:=T
   simp only[zat,lF] at q2
   replace F:=aa q2<|F
   by_cases c3:r7=true
   ·replace T:=T.1 c3
    obtain⟨o9,y10,g11,z12,q4,T⟩:=T
    simp only[zaJ,lF] at q4
    replace F:=aa c3<|aa q4<|F
    cases o9 with
    | none =>
      dsimp only at T
      obtain⟨o15,r14,y16,g17,z18,q5,T⟩:=T
      simp only[zbh,lF] at q5
      replace F:=aa q5<|F
      cases o15 with
      | none =>
        dsimp only at T
        obtain⟨o20,y21,q6,T⟩:=T
        simp only[zcV,lF] at q6
        replace F:=aa q6<|F
        cases o20 with
        | none =>
          dsimp only at T
          obtain⟨o24,r23,y25,g26,z27,q7,T⟩:=T
          simp only[zbh,lF] at q7
          replace F:=aa q7<|F
          cases o24 with
          | none =>
            dsimp only at T
            obtain⟨p8,r29,y30,g31,z32,q9,rfl,rfl,rfl,rfl,rfl⟩:=T
            simp only[zan,lF] at q9
            exact fi (aa p8.wrap<|aa q9<|F)
          | some e28 =>
            dsimp only at T
            obtain⟨rfl,rfl,rfl,rfl⟩:=T
            exact fi F
        | some e22 =>
          dsimp only at T
          obtain⟨rfl,rfl,rfl,rfl⟩:=T
          exact fi F
      | some e19 =>
        dsimp only at T
        obtain⟨rfl,rfl,rfl,rfl⟩:=T
        exact fi F
    | some e13 =>
      dsimp only at T
      obtain⟨rfl,rfl,rfl,rfl⟩:=T
      exact fi F
   replace T:=T.2 c3
   replace c3:=Bool.eq_false_iff.2 c3
   obtain⟨rfl,rfl,rfl,rfl,rfl⟩:=T
   exact fi (aa c3<|F)
 | some e6 =>
   dsimp only at T
   obtain⟨rfl,rfl,rfl,rfl⟩:=T
   exact fi F
theorem zvv:SP 142=some (.code sc_Q142):=zb rfl Tryz.func142 comp_Q142
theorem zbB (x:PExprs) (x_g2:Nat) (x_z2:Bool) (o:Option Int) (r:Int) (x':PExprs) (x'_g2:Nat) (x'_z2:Bool) (T :
  ∃ (r1:Bool) (y2:PTokens),(zat x.tokens [45] r1 y2) ∧
 ((r1=true) →
  ∃ (o3:Option Int) (y4:PExprs) (g5:Nat) (z6:Bool),(zaJ (PExprs.mk y2 x.out x.deep) x_g2 x_z2 [45] o3 y4 g5 z6) ∧
  (match o3 with
  | none=>(∃ (o9:Option Int) (r8:Int) (y10:PExprs) (g11:Nat) (z12:Bool),(zcR y4 g5 z6 o9 r8 y10 g11 z12) ∧
   (match o9 with
   | none=>((I64 (y10.deep - 1)) ∧
    ∃ (r14:Int) (y15:PExprs) (g16:Nat) (z17:Bool),(zan (PExprs.mk y10.tokens y10.out (y10.deep - 1)) g11 z12 9 [] [r8] r14 y15 g16 z17) ∧
    none=o∧r14=r∧y15=x'∧g16=x'_g2∧z17=x'_z2)
   | some e13=>(some e13=o∧y10=x'∧g11=x'_g2∧z12=x'_z2)))
  | some e7=>(some e7=o∧y4=x'∧g5=x'_g2∧z6=x'_z2))) ∧
 (¬ (r1=true) →
  ∃ (r18:Bool) (y19:PTokens),(zat y2 [33] r18 y19) ∧
  ((r18=true) →
   ∃ (o20:Option Int) (y21:PExprs) (g22:Nat) (z23:Bool),(zaJ (PExprs.mk y19 x.out x.deep) x_g2 x_z2 [33] o20 y21 g22 z23) ∧
   (match o20 with
   | none=>(∃ (o26:Option Int) (r25:Int) (y27:PExprs) (g28:Nat) (z29:Bool),(zcR y21 g22 z23 o26 r25 y27 g28 z29) ∧
    (match o26 with
    | none=>((I64 (y27.deep - 1)) ∧
     ∃ (r31:Int) (y32:PExprs) (g33:Nat) (z34:Bool),(zan (PExprs.mk y27.tokens y27.out (y27.deep - 1)) g28 z29 8 [] [r25] r31 y32 g33 z34) ∧
     none=o∧r31=r∧y32=x'∧g33=x'_g2∧z34=x'_z2)
    | some e30=>(some e30=o∧y27=x'∧g28=x'_g2∧z29=x'_z2)))
   | some e24=>(some e24=o∧y21=x'∧g22=x'_g2∧z23=x'_z2))) ∧
  (¬ (r18=true) →
   ∃ (o36:Option Int) (r35:Int) (y37:PExprs) (g38:Nat) (z39:Bool),(zgX (PExprs.mk y19 x.out x.deep) x_g2 x_z2 o36 r35 y37 g38 z39) ∧
   (match o36 with
   | none=>(none=o∧r35=r∧y37=x'∧g38=x'_g2∧z39=x'_z2)
   | some e40=>(some e40=o∧y37=x'∧g38=x'_g2∧z39=x'_z2))))):zcR x x_g2 x_z2 o r x' x'_g2 x'_z2:=by
 intro S n0 t0 H0
 obtain⟨hb0,ha0⟩:=H0
 obtain⟨w0,hB0⟩:=zf hb0
 have hn0:=zc hB0
 rw[za zvv _ _ rfl]
 have F:=zxh
 obtain⟨r1,y2,q1,T⟩:=T
 simp only[zat,lF] at q1
 replace F:=aa ha0<|aa hB0<|aa hn0<|aa q1<|F
 by_cases c2:r1=true
 ·replace T:=T.1 c2
  obtain⟨o3,y4,g5,z6,q3,T⟩:=T
  simp only[zaJ,lF] at q3
  replace F:=aa c2<|aa q3<|F
  cases o3 with
  | none =>
    dsimp only at T
    obtain⟨o9,r8,y10,g11,z12,q4,T⟩:=T
    simp only[zcR,lF] at q4
    replace F:=aa q4<|F
    cases o9 with
    | none =>
      dsimp only at T
      obtain⟨p5,r14,y15,g16,z17,q6,rfl,rfl,rfl,rfl,rfl⟩:=T
      simp only[zan,lF] at q6
      exact fi (aa p5.wrap<|aa q6<|F)
    | some e13 =>
      dsimp only at T
      obtain⟨rfl,rfl,rfl,rfl⟩:=T
      exact fi F
  | some e7 =>
    dsimp only at T
    obtain⟨rfl,rfl,rfl,rfl⟩:=T
    exact fi F
 replace T:=T.2 c2
 replace c2:=Bool.eq_false_iff.2 c2
 obtain⟨r18,y19,q7,T⟩:=T
 simp only[zat,lF] at q7
 replace F:=aa c2<|aa q7<|F
 by_cases c8:r18=true
 ·replace T:=T.1 c8
  obtain⟨o20,y21,g22,z23,q9,T⟩:=T
  simp only[zaJ,lF] at q9
  replace F:=aa c8<|aa q9<|F
  cases o20 with
  | none =>
    dsimp only at T
    obtain⟨o26,r25,y27,g28,z29,q10,T⟩:=T
    simp only[zcR,lF] at q10
    replace F:=aa q10<|F
    cases o26 with
    | none =>
      dsimp only at T
      obtain⟨p11,r31,y32,g33,z34,q12,rfl,rfl,rfl,rfl,rfl⟩:=T
      simp only[zan,lF] at q12
      exact fi (aa p11.wrap<|aa q12<|F)
    | some e30 =>
      dsimp only at T
      obtain⟨rfl,rfl,rfl,rfl⟩:=T
      exact fi F
  | some e24 =>
    dsimp only at T
    obtain⟨rfl,rfl,rfl,rfl⟩:=T
    exact fi F
 replace T:=T.2 c8
 replace c8:=Bool.eq_false_iff.2 c8
 obtain⟨o36,r35,y37,g38,z39,q13,T⟩:=T
 simp only[zgX,lF] at q13
 replace F:=aa c8<|aa q13<|F
 cases o36 with
 | none =>
   dsimp only at T
   obtain⟨rfl,rfl,rfl,rfl,rfl⟩:=T
   exact fi F
 | some e40 =>
   dsimp only at T
   obtain⟨rfl,rfl,rfl,rfl⟩:=T
   exact fi F
theorem zu8:SP 167=some (.code sc_Q167):=zb rfl Tryz.func167 comp_Q167
def zdH (i7:Int) (x8:PExprs) (g9:Nat) (z10:Bool) (o:Option Int) (r:Int) (x':PExprs) (x'_g2:Nat) (x'_z2:Bool):Prop:=∀ (S:Sto) (e:Nat→PV) (f:Fr) (n0 t0:Nat),((getBox S n0 t0).map (List.take 4)=some [.list 5 (x8.tokens.l.map eToken) false,.int .i64 x8.tokens.pos,.sl 0 (.cell t0 2) 0 x8.out.length x8.out.length g9 false,.int .i64 x8.deep]∧getArr S n0 (.cell t0 2)=some ⟨5,x8.out.map eNode,z10,g9⟩)→e 0=.ptr (n0+1) t0 0∧e 3=.int .i64 i7→zns SP (E SP (.loop b_Q167_1) ⟨e,f::S⟩)=po 116 o (.v (.int .i64 r)) (setArr (setBox S n0 t0 ([.list 5 (x'.tokens.l.map eToken) false,.int .i64 x'.tokens.pos,.sl 0 (.cell t0 2) 0 x'.out.length x'.out.length x'_g2 false,.int .i64 x'.deep]++((getBox S n0 t0).getD []).drop 4)) n0 (.cell t0 2) ⟨5,x'.out.map eNode,x'_z2,x'_g2⟩)
theorem za5 (i7:Int) (x8:PExprs) (g9:Nat) (z10:Bool) (o:Option Int) (r:Int) (x':PExprs) (x'_g2:Nat) (x'_z2:Bool) (T :
  ∃ (r11:Bool) (y12:PTokens),(zat x8.tokens [91] r11 y12) ∧
 ((r11=true) →
  ∃ (o13:Option Int) (y14:PExprs) (g15:Nat) (z16:Bool),(zaJ (PExprs.mk y12 x8.out x8.deep) g9 z10 [91] o13 y14 g15 z16) ∧
  (match o13 with
  | none=>(∃ (o19:Option Int) (r18:Int) (y20:PExprs) (g21:Nat) (z22:Bool),(zbh y14 g15 z16 o19 r18 y20 g21 z22) ∧
   (match o19 with
   | none=>(∃ (o24:Option Int) (y25:PExprs) (g26:Nat) (z27:Bool),(zbS y20 g21 z22 [93] o24 y25 g26 z27) ∧
    (match o24 with
    | none=>(∃ (r29:Int) (y30:PExprs) (g31:Nat) (z32:Bool),(zan y25 g26 z27 7 [] [i7,r18] r29 y30 g31 z32) ∧
     zdH r29 y30 g31 z32 o r x' x'_g2 x'_z2)
    | some e28=>(some e28=o∧y25=x'∧g26=x'_g2∧z27=x'_z2)))
   | some e23=>(some e23=o∧y20=x'∧g21=x'_g2∧z22=x'_z2)))
  | some e17=>(some e17=o∧y14=x'∧g15=x'_g2∧z16=x'_z2))) ∧
 (¬ (r11=true) →
  none=o∧i7=r∧(PExprs.mk y12 x8.out x8.deep)=x'∧g9=x'_g2∧z10=x'_z2)):zdH i7 x8 g9 z10 o r x' x'_g2 x'_z2:=by
 intro S e f n0 t0 H0 h
 obtain⟨hb0,ha0⟩:=H0
 obtain⟨w0,hB0⟩:=zf hb0
 have hn0:=zc hB0
 unfold zns
 rw[zS]
 have F:=zso
 obtain⟨r11,y12,q1,T⟩:=T
 simp only[zat,lF] at q1
 replace F:=aa ha0<|aa hB0<|aa hn0<|aa h<|aa q1<|F
 by_cases c2:r11=true
 ·replace T:=T.1 c2
  obtain⟨o13,y14,g15,z16,q3,T⟩:=T
  simp only[zaJ,lF] at q3
  replace F:=aa c2<|aa q3<|F
  cases o13 with
  | none =>
    dsimp only at T
    obtain⟨o19,r18,y20,g21,z22,q4,T⟩:=T
    simp only[zbh,lF] at q4
    replace F:=aa q4<|F
    cases o19 with
    | none =>
      dsimp only at T
      obtain⟨o24,y25,g26,z27,q5,T⟩:=T
      simp only[zbS,lF] at q5
      replace F:=aa q5<|F
      cases o24 with
      | none =>
        dsimp only at T
        obtain⟨r29,y30,g31,z32,q6,T⟩:=T
        simp only[zan,lF] at q6
        replace F:=aa q6<|F
        try simp only[F,lw,lx,le,Nat.reduceMul,UInt8.reduceToNat,reduceIte,reduceCtorEq,Nat.reduceEqDiff,Nat.reduceAdd,Nat.reduceLeDiff,Nat.reduceSub,Nat.reduceLT,Int.reduceEq,Int.reduceLT,Int.reduceLE,Int.reduceToNat,Int.reduceAdd,Int.reduceSub,Int.reduceMul,Int.reduceNeg]
        refine (T _ _ _ n0 t0 ?_ ?_).trans ?_
        all_goals exact fi F
      | some e28 =>
        dsimp only at T
        obtain⟨rfl,rfl,rfl,rfl⟩:=T
        exact fi F
    | some e23 =>
      dsimp only at T
      obtain⟨rfl,rfl,rfl,rfl⟩:=T
      exact fi F
  | some e17 =>
    dsimp only at T
    obtain⟨rfl,rfl,rfl,rfl⟩:=T
    exact fi F
 replace T:=T.2 c2
 replace c2:=Bool.eq_false_iff.2 c2
 obtain⟨rfl,rfl,rfl,rfl,rfl⟩:=T
 exact fi (aa c2<|F)
theorem zgH (x:PExprs) (x_g2:Nat) (x_z2:Bool) (o:Option Int) (r:Int) (x':PExprs) (x'_g2:Nat) (x'_z2:Bool) (T :
  ∃ (o2:Option Int) (r1:Int) (y3:PExprs) (g4:Nat) (z5:Bool),(zhl x x_g2 x_z2 o2 r1 y3 g4 z5) ∧
 (match o2 with
 | none=>(zdH r1 y3 g4 z5 o r x' x'_g2 x'_z2)
 | some e6=>(some e6=o∧y3=x'∧g4=x'_g2∧z5=x'_z2))):zgX x x_g2 x_z2 o r x' x'_g2 x'_z2:=by
 intro S n0 t0 H0
 obtain⟨hb0,ha0⟩:=H0
 obtain⟨w0,hB0⟩:=zf hb0
 have hn0:=zc hB0
 rw[za zu8 _ _ rfl]
 have F:=zso
 obtain⟨o2,r1,y3,g4,z5,q1,T⟩:=T
 simp only[zhl,lF] at q1
 replace F:=aa ha0<|aa hB0<|aa hn0<|aa q1<|F
 cases o2 with
 | none =>
   dsimp only at T
   try simp only[F,lw,lx,le,Nat.reduceMul,UInt8.reduceToNat,reduceIte,reduceCtorEq,Nat.reduceEqDiff,Nat.reduceAdd,Nat.reduceLeDiff,Nat.reduceSub,Nat.reduceLT,Int.reduceEq,Int.reduceLT,Int.reduceLE,Int.reduceToNat,Int.reduceAdd,Int.reduceSub,Int.reduceMul,Int.reduceNeg]
   refine (T _ _ _ n0 t0 ?_ ?_).trans ?_
   all_goals exact fi F
 | some e6 =>
   dsimp only at T
   obtain⟨rfl,rfl,rfl,rfl⟩:=T
   exact fi F
theorem zvb:SP 203=some (.code sc_Q203):=zb rfl Tryz.func203 comp_Q203
def zdD (end_:List UInt8) (l14:List Int) (x15:PExprs) (g16:Nat) (z17:Bool) (o:Option Int) (r:List Int) (x':PExprs) (x'_g2:Nat) (x'_z2:Bool):Prop:=∀ (S:Sto) (e:Nat→PV) (f:Fr) (n0 t0:Nat),((getBox S n0 t0).map (List.take 4)=some [.list 5 (x15.tokens.l.map eToken) false,.int .i64 x15.tokens.pos,.sl 0 (.cell t0 2) 0 x15.out.length x15.out.length g16 false,.int .i64 x15.deep]∧getArr S n0 (.cell t0 2)=some ⟨5,x15.out.map eNode,z17,g16⟩)→e 0=.ptr (n0+1) t0 0∧e 1=.str end_∧e 5=.sl 0 (.slot 5) 0 l14.length l14.length 0 false∧f.arr (.slot 5)=some ⟨1,l14.map eI,false,0⟩→znq SP (E SP (.loop b_Q203_1) ⟨e,f::S⟩)=po 116 o (.arr 1 (r.map eI) false) (setArr (setBox S n0 t0 ([.list 5 (x'.tokens.l.map eToken) false,.int .i64 x'.tokens.pos,.sl 0 (.cell t0 2) 0 x'.out.length x'.out.length x'_g2 false,.int .i64 x'.deep]++((getBox S n0 t0).getD []).drop 4)) n0 (.cell t0 2) ⟨5,x'.out.map eNode,x'_z2,x'_g2⟩)
theorem zbz (end_:List UInt8) (l14:List Int) (x15:PExprs) (g16:Nat) (z17:Bool) (o:Option Int) (r:List Int) (x':PExprs) (x'_g2:Nat) (x'_z2:Bool) (T :
  ∃ (r18:Bool) (y19:PTokens),(zd1 x15.tokens [44] r18 y19) ∧
 ((r18=true) →
  ∃ (o21:Option Int) (r20:Int) (y22:PExprs) (g23:Nat) (z24:Bool),(zbh (PExprs.mk y19 x15.out x15.deep) g16 z17 o21 r20 y22 g23 z24) ∧
  (match o21 with
  | none=>((bigRow (l14.length+1) 8) ∧
   zdD end_ (l14++[r20]) y22 g23 z24 o r x' x'_g2 x'_z2)
  | some e25=>(some e25=o∧y22=x'∧g23=x'_g2∧z24=x'_z2))) ∧
 (¬ (r18=true) →
  ∃ (o26:Option Int) (y27:PExprs) (g28:Nat) (z29:Bool),(zbS (PExprs.mk y19 x15.out x15.deep) g16 z17 end_ o26 y27 g28 z29) ∧
  (match o26 with
  | none=>(none=o∧l14=r∧y27=x'∧g28=x'_g2∧z29=x'_z2)
  | some e30=>(some e30=o∧y27=x'∧g28=x'_g2∧z29=x'_z2)))):zdD end_ l14 x15 g16 z17 o r x' x'_g2 x'_z2:=by
 intro S e f n0 t0 H0 h
 obtain⟨hb0,ha0⟩:=H0
 obtain⟨w0,hB0⟩:=zf hb0
 have hn0:=zc hB0
 unfold znq
 rw[zS]
 have F:=zr2
 obtain⟨r18,y19,q1,T⟩:=T
 simp only[zd1,lF] at q1
 replace F:=aa ha0<|aa hB0<|aa hn0<|aa h<|aa q1<|F
 by_cases c2:r18=true
 ·replace T:=T.1 c2
  obtain⟨o21,r20,y22,g23,z24,q3,T⟩:=T
  simp only[zbh,lF] at q3
  replace F:=aa c2<|aa q3<|F
  cases o21 with
  | none =>
    dsimp only at T
    obtain⟨p4,T⟩:=T
    simp only[bigRow] at p4
    replace F:=aa p4<|F
    try simp only[F,lw,lx,le,Nat.reduceMul,UInt8.reduceToNat,reduceIte,reduceCtorEq,Nat.reduceEqDiff,Nat.reduceAdd,Nat.reduceLeDiff,Nat.reduceSub,Nat.reduceLT,Int.reduceEq,Int.reduceLT,Int.reduceLE,Int.reduceToNat,Int.reduceAdd,Int.reduceSub,Int.reduceMul,Int.reduceNeg]
    refine (T _ _ _ n0 t0 ?_ ?_).trans ?_
    all_goals exact fi F
  | some e25 =>
    dsimp only at T
    obtain⟨rfl,rfl,rfl,rfl⟩:=T
    exact fi F
 replace T:=T.2 c2
 replace c2:=Bool.eq_false_iff.2 c2
 obtain⟨o26,y27,g28,z29,q5,T⟩:=T
 simp only[zbS,lF] at q5
 replace F:=aa c2<|aa q5<|F
 cases o26 with
 | none =>
   dsimp only at T
   obtain⟨rfl,rfl,rfl,rfl,rfl⟩:=T
   exact fi F
 | some e30 =>
   dsimp only at T
   obtain⟨rfl,rfl,rfl,rfl⟩:=T
   exact fi F
theorem ze2 (x:PExprs) (x_g2:Nat) (x_z2:Bool) (end_:List UInt8) (o:Option Int) (r:List Int) (x':PExprs) (x'_g2:Nat) (x'_z2:Bool) (T :
  ∃ (r1:Bool) (y2:PTokens),(zat x.tokens end_ r1 y2) ∧
 ((r1=true) →
  ∃ (o3:Option Int) (y4:PExprs) (g5:Nat) (z6:Bool),(zbS (PExprs.mk y2 x.out x.deep) x_g2 x_z2 end_ o3 y4 g5 z6) ∧
  (match o3 with
  | none=>(none=o∧[]=r∧y4=x'∧g5=x'_g2∧z6=x'_z2)
  | some e7=>(some e7=o∧y4=x'∧g5=x'_g2∧z6=x'_z2))) ∧
 (¬ (r1=true) →
  ∃ (o9:Option Int) (r8:Int) (y10:PExprs) (g11:Nat) (z12:Bool),(zbh (PExprs.mk y2 x.out x.deep) x_g2 x_z2 o9 r8 y10 g11 z12) ∧
  (match o9 with
  | none=>(zdD end_ [r8] y10 g11 z12 o r x' x'_g2 x'_z2)
  | some e13=>(some e13=o∧y10=x'∧g11=x'_g2∧z12=x'_z2)))):zex x x_g2 x_z2 end_ o r x' x'_g2 x'_z2:=by
 intro S n0 t0 H0
 obtain⟨hb0,ha0⟩:=H0
 obtain⟨w0,hB0⟩:=zf hb0
 have hn0:=zc hB0
 rw[za zvb _ _ rfl]
 have F:=zr2
 obtain⟨r1,y2,q1,T⟩:=T
 simp only[zat,lF] at q1
 replace F:=aa ha0<|aa hB0<|aa hn0<|aa q1<|F
 by_cases c2:r1=true
 ·replace T:=T.1 c2
  obtain⟨o3,y4,g5,z6,q3,T⟩:=T
  simp only[zbS,lF] at q3
  replace F:=aa c2<|aa q3<|F
  cases o3 with
  | none =>
    dsimp only at T
    obtain⟨rfl,rfl,rfl,rfl,rfl⟩:=T
    exact fi F
  | some e7 =>
    dsimp only at T
    obtain⟨rfl,rfl,rfl,rfl⟩:=T
    exact fi F
 replace T:=T.2 c2
 replace c2:=Bool.eq_false_iff.2 c2
 obtain⟨o9,r8,y10,g11,z12,q4,T⟩:=T
 simp only[zbh,lF] at q4
 replace F:=aa c2<|aa q4<|F
 cases o9 with
 | none =>
   dsimp only at T
   try simp only[F,lw,lx,le,Nat.reduceMul,UInt8.reduceToNat,reduceIte,reduceCtorEq,Nat.reduceEqDiff,Nat.reduceAdd,Nat.reduceLeDiff,Nat.reduceSub,Nat.reduceLT,Int.reduceEq,Int.reduceLT,Int.reduceLE,Int.reduceToNat,Int.reduceAdd,Int.reduceSub,Int.reduceMul,Int.reduceNeg]
   refine (T _ _ _ n0 t0 ?_ ?_).trans ?_
   all_goals exact fi F
 | some e13 =>
   dsimp only at T
   obtain⟨rfl,rfl,rfl,rfl⟩:=T
   exact fi F
def zc2:Option Nat→Int
 | some i=>(i:Int)
 | none=>-1
theorem zg4 (s:List (List UInt8)) (v:List UInt8) (hs:s.length≤1000):∀ (l:List (List UInt8)) (i:Nat),s.drop i=l→i+l.length=s.length→zE s v (i:Nat) (zc2 (zby v l i))
 | [],i,h,hi=>by
  refine zw _ _ _ _ ⟨fun hf=>?_,fun _=>rfl⟩
  simp at hi
  omega
 | u::l,i,h,hi=>by
  have hlt:i < s.length:=by simp at hi;omega
  have hg:s[i]?=some u:=by
   have:=congrArg List.head? h
   rw[List.head?_drop] at this
   simpa using this
  refine zw _ _ _ _ ⟨fun _=>⟨by omega,u,by simpa using hg,fun he=>?_,fun he=>⟨⟨by omega,by omega⟩,?_⟩⟩,fun hf=>absurd (by omega) hf⟩
  ·simp[zby,he,zc2]
  have:=zg4 s v hs l (i+1) (by rw[←List.drop_drop,h];rfl) (by simp at hi ⊢;omega)
  simp only[zby,if_neg he]
  exact this
theorem zsL (s:List (List UInt8)) (v:List UInt8) (hs:s.length≤1000):zJ s v (zc2 (zby v s 0)) :=
 zbb _ _ _ (zg4 s v hs s 0 rfl (by simp))
theorem zyi (rank:Nat) (hr:rank < 5) (s:List UInt8):∃ k,zgU (rank:Int) s k (opS rank s).isSome∧∀ q,opS rank s=some q→k=q:=by
 have key:∀ (l:List (List UInt8)) (f:Int),([[[124,124]],[[38,38]],[[61,61],[33,61],[60],[60,61],[62],[62,61]],[[43],[45]],[[42],[47],[37]]]:List (List (List UInt8)))[rank]?=some l→([11,12,13,19,21]:List Int)[rank]?=some f→l.length≤6→0≤f→f≤30→zjI rank=l→zmo rank=f→∃ k,zgU (rank:Int) s k (opS rank s).isSome∧∀ q,opS rank s=some q→k=q:=by
  intro l f h1 h2 h3 h4 h5 h6 h7
  have hb:-1≤zc2 (zby s l 0)∧zc2 (zby s l 0)≤6:=by
   have gen:∀ (l:List (List UInt8)) (i:Nat),-1≤zc2 (zby s l i)∧zc2 (zby s l i)≤i+l.length:=by
    intro l
    induction l with
    | nil=>intro i;simp[zby,zc2]
    | cons u l ih =>
     intro i
     simp only[zby]
     split
     ·simp only[zc2,List.length_cons];omega
     have:=ih (i+1)
     simp only[List.length_cons]
     omega
   have:=gen l 0
   omega
  refine⟨f+zc2 (zby s l 0),zr4 _ _ _ _ ⟨by omega,l,by simpa using h1,zc2 (zby s l 0),zsL l s (by omega),by omega,f,by simpa using h2,⟨by omega,by omega⟩,rfl,?_⟩,?_⟩
  ·simp only[opS,h6]
   cases zby s l 0 with
   | none=>simp[zc2]
   | some i=>simp[zc2]
  intro q hq
  simp only[opS,h6,h7] at hq
  cases hi:zby s l 0 with
  | none=>rw[hi] at hq;cases hq
  | some i=>rw[hi] at hq;simpa [zc2] using hq
 match rank,hr with
 | 0,_=>exact key _ _ rfl rfl (by decide) (by decide) (by decide) rfl rfl
 | 1,_=>exact key _ _ rfl rfl (by decide) (by decide) (by decide) rfl rfl
 | 2,_=>exact key _ _ rfl rfl (by decide) (by decide) (by decide) rfl rfl
 | 3,_=>exact key _ _ rfl rfl (by decide) (by decide) (by decide) rfl rfl
 | 4,_=>exact key _ _ rfl rfl (by decide) (by decide) (by decide) rfl rfl
theorem zaT {L ts:List Token} (h:ts <:+ L) {s:List UInt8} (hi:isS s ts=true):zat (pt L ts) s true (pt L ts):=by
 have:=ziM h (fun e=>by subst e;cases hi) s
 rw[hi] at this
 exact this
theorem zbn {L ts:List Token} (h:ts <:+ L) (hne:ts≠[]) {s:List UInt8} (hi:isS s ts=false):zat (pt L ts) s false (pt L ts):=by
 have:=ziM h hne s
 rw[hi] at this
 exact this
def OkE {α:Type} (L ts:List Token) (out:List Node) (d d' g c m n:Nat) (R:PExprs→Nat→Bool→Option Int→α→PExprs→Nat→Bool→Prop):PR α→Prop
 | .ok a ts' out'=>ts' <:+ L∧W ts'∧ts'.length+c≤ts.length∧out'.length+ts'.length≤out.length+ts.length∧R (pe L ts out d) g false none a (pe L ts' out' d') g false
 | .er e=>∃ a x' g' z',R (pe L ts out d) g false (some e) a x' g' z'
 | .no=>n≤m
structure Sp (n:Nat) (L ts:List Token) (out:List Node) (d g:Nat):Prop where
 expr:OkE L ts out d d g 1 (20*ts.length+9) n zbh (zu n d ts out)
 chain:∀ rank:Nat,rank≤5→OkE L ts out d d g 1 (20*ts.length+8 - rank) n (fun x g z=>zcT x g z (rank:Int)) (zo n rank d ts out)
 loop:∀ (rank:Nat) (a:Int),rank < 5→OkE L ts out d d g 0 (20*ts.length) n (zdM (rank:Int) a) (zF n rank d a ts out)
 un:OkE L ts out d d g 1 (20*ts.length+2) n zcR (unS n d ts out)
 post:OkE L ts out d d g 1 (20*ts.length+1) n zgX (zal n d ts out)
 postl:∀ a:Int,OkE L ts out d d g 0 (20*ts.length) n (zdH a) (zP n d a ts out)
 many:∀ e:List UInt8,d+1≤64→OkE L ts out (d+1) d g 1 (20*ts.length+10) n (fun x g z=>zex x g z e) (zW n (d+1) e ts out)
 manyl:∀ (e:List UInt8) (l:List Int),l.length+ts.length≤1000000→d+1≤64→OkE L ts out (d+1) d g 1 (20*ts.length) n (zdD e l) (zap n (d+1) e l ts out)
 prim:OkE L ts out d d g 1 (20*ts.length) n zhl (zq n d ts out)
 manyn:∀ e:List UInt8,d+1≤64→∀ b ts2 out2,zW n (d+1) e ts out=.ok b ts2 out2→b.length≤ts.length
 manyln:∀ (e:List UInt8) (l:List Int),d+1≤64→∀ b ts2 out2,zap n (d+1) e l ts out=.ok b ts2 out2→b.length≤l.length+ts.length
def SpA (n:Nat):Prop:=∀ (L:List Token),L.length≤1000000→(∀ t ∈ L,t.Text.length≤1000000)→∀ (ts:List Token),ts <:+ L→W ts→∀ (out:List Node),out.length+ts.length≤1000000→∀ (d:Nat),d≤64→∀ (g:Nat),Sp n L ts out d g
theorem zu7:SpA 0:=fun L hL hT ts hs hw out ho d hd g=>by
 constructor
 iterate 9 (intros;simp only[zu,zo,zF,unS,zal,zP,zW,zap,zq,OkE];exact Nat.zero_le _)
 ·intro e h b ts2 out2 hb;simp[zW] at hb
 intro e l h b ts2 out2 hb;simp[zap] at hb
section
variable {n:Nat} (ih:SpA n) {L ts:List Token} (hL:L.length≤1000000) (hT:∀ t ∈ L,t.Text.length≤1000000) (hs:ts <:+ L) (hw:W ts) {out:List Node} (ho:out.length+ts.length≤1000000) {d:Nat} (hd:d≤64) (g:Nat)
include ih hL hT hs hw ho hd
theorem zv8:OkE L ts out d d g 1 (20*ts.length+9) (n+1) zbh (zu (n+1) d ts out):=by
 have h1:=(ih L hL hT ts hs hw out ho d hd g).chain 0 (by omega)
 simp only[zu]
 cases hc:zo n 0 d ts out with
 | no=>rw[hc] at h1;simp only[PR.bind,OkE] at h1 ⊢;omega
 | er e =>
  rw[hc] at h1
  obtain⟨a,x',g',z',q⟩:=h1
  exact⟨0,x',g',z',zcw _ _ _ _ _ _ _ _ ⟨some e,a,x',g',z',q,rfl,rfl,rfl,rfl⟩⟩
 | ok a ts1 out1 =>
  rw[hc] at h1
  obtain⟨s1,w1,l1,o1,q1⟩:=h1
  simp only[PR.bind]
  by_cases hi:isS [63] ts1=true
  ·rw[if_pos hi]
   simp only[zL,if_pos hi]
   have hlen:=zad hi
   by_cases h64:64≤d
   ·rw[if_pos h64]
    obtain⟨x',g',z',q⟩:=zdl s1 w1.ne hi h64 out1 g false
    exact⟨0,x',g',z',zcw _ _ _ _ _ _ _ _ ⟨none,a,_,_,_,q1,true,_,zaT s1 hi,fun _=>⟨some 6,x',g',z',q,rfl,rfl,rfl,rfl⟩,fun hf=>absurd rfl hf⟩⟩
   rw[if_neg h64]
   have q2:=zdr s1 hL hi h64 out1 g false
   have h3:=(ih L hL hT ts1.tail (zM s1) (w1.shift hi) out1 (by omega) (d+1) (by omega) g).expr
   cases hb:zu n (d+1) ts1.tail out1 with
   | no=>rw[hb] at h3;simp only[OkE] at h3 ⊢;omega
   | er e =>
    rw[hb] at h3
    obtain⟨b,x',g',z',q3⟩:=h3
    exact⟨0,x',g',z',zcw _ _ _ _ _ _ _ _ ⟨none,a,_,_,_,q1,true,_,zaT s1 hi,fun _=>⟨none,_,_,_,q2,some e,b,x',g',z',q3,rfl,rfl,rfl,rfl⟩,fun hf=>absurd rfl hf⟩⟩
   | ok b ts2 out2 =>
    rw[hb] at h3
    obtain⟨s2,w2,l2,o2,q3⟩:=h3
    simp only[zac]
    by_cases hi2:isS [58] ts2=true
    ·rw[if_pos hi2]
     have hlen2:=zad hi2
     have h4:=(ih L hL hT ts2.tail (zM s2) (w2.shift hi2) out2 (by omega) (d+1) (by omega) g).expr
     cases hc3:zu n (d+1) ts2.tail out2 with
     | no=>rw[hc3] at h4;simp only[OkE] at h4 ⊢;omega
     | er e =>
      rw[hc3] at h4
      obtain⟨c,x',g',z',q4⟩:=h4
      exact⟨0,x',g',z',zcw _ _ _ _ _ _ _ _ ⟨none,a,_,_,_,q1,true,_,zaT s1 hi,fun _=>⟨none,_,_,_,q2,none,b,_,_,_,q3,none,_,zhu s2 hL hi2,some e,c,x',g',z',q4,rfl,rfl,rfl,rfl⟩,fun hf=>absurd rfl hf⟩⟩
     | ok c ts3 out3 =>
      rw[hc3] at h4
      obtain⟨s3,w3,l3,o3,q4⟩:=h4
      refine⟨s3,w3,by omega,by simp;omega,zcw _ _ _ _ _ _ _ _ ⟨none,a,_,_,_,q1,true,_,zaT s1 hi,fun _=>⟨none,_,_,_,q2,none,b,_,_,_,q3,none,_,zhu s2 hL hi2,none,c,_,_,_,q4,⟨by simp only[pe];omega,by simp only[pe];omega⟩,_,_,_,_,zb9 _ out3 _ g false 10 [] [a,b,c] (by simp) (by omega),rfl,rfl,?_,rfl,rfl⟩,fun hf=>absurd rfl hf⟩⟩
      simp only[pe]
      congr 1
      omega
    rw[if_neg hi2]
    exact⟨0,_,_,_,zcw _ _ _ _ _ _ _ _ ⟨none,a,_,_,_,q1,true,_,zaT s1 hi,fun _=>⟨none,_,_,_,q2,none,b,_,_,_,q3,some 5,_,zkt s2 w2.ne (by simpa using hi2),rfl,rfl,rfl,rfl⟩,fun hf=>absurd rfl hf⟩⟩
  rw[if_neg hi]
  exact⟨s1,w1,l1,o1,zcw _ _ _ _ _ _ _ _ ⟨none,a,_,_,_,q1,false,_,zbn s1 w1.ne (by simpa using hi),fun hf=>(by cases hf),fun _=>⟨rfl,rfl,rfl,rfl,rfl⟩⟩⟩
theorem ztr (rank:Nat) (hr:rank≤5):OkE L ts out d d g 1 (20*ts.length+8 - rank) (n+1) (fun x g z=>zcT x g z (rank:Int)) (zo (n+1) rank d ts out):=by
 simp only[zo]
 by_cases h5:rank=5
 ·subst h5
  have h1:=(ih L hL hT ts hs hw out ho d hd g).un
  rw[if_pos rfl]
  cases hc:unS n d ts out with
  | no=>rw[hc] at h1;simp only[OkE] at h1 ⊢;omega
  | er e =>
   rw[hc] at h1
   obtain⟨a,x',g',z',q⟩:=h1
   exact⟨a,x',g',z',zdy _ _ _ _ _ _ _ _ _ ⟨fun _=>⟨some e,a,x',g',z',q,rfl,rfl,rfl,rfl⟩,fun hf=>absurd rfl hf⟩⟩
  | ok a ts1 out1 =>
   rw[hc] at h1
   obtain⟨s1,w1,l1,o1,q1⟩:=h1
   exact⟨s1,w1,l1,o1,zdy _ _ _ _ _ _ _ _ _ ⟨fun _=>⟨none,a,_,_,_,q1,rfl,rfl,rfl,rfl,rfl⟩,fun hf=>absurd rfl hf⟩⟩
 rw[if_neg h5]
 have h5':¬ ((rank:Nat):Int)=5:=by omega
 have h1:=(ih L hL hT ts hs hw out ho d hd g).chain (rank+1) (by omega)
 cases hc:zo n (rank+1) d ts out with
 | no=>rw[hc] at h1;simp only[PR.bind,OkE] at h1 ⊢;omega
 | er e =>
  rw[hc] at h1
  obtain⟨a,x',g',z',q⟩:=h1
  exact⟨a,x',g',z',zdy _ _ _ _ _ _ _ _ _ ⟨fun hf=>absurd hf h5',fun _=>⟨⟨by omega,by omega⟩,some e,a,x',g',z',q,rfl,rfl,rfl,rfl⟩⟩⟩
 | ok a ts1 out1 =>
  rw[hc] at h1
  obtain⟨s1,w1,l1,o1,q1⟩:=h1
  simp only[PR.bind]
  have h2:=(ih L hL hT ts1 s1 w1 out1 (by omega) d hd g).loop rank a (by omega)
  cases hl:zF n rank d a ts1 out1 with
  | no=>rw[hl] at h2;simp only[OkE] at h2 ⊢;omega
  | er e =>
   rw[hl] at h2
   obtain⟨b,x',g',z',q⟩:=h2
   exact⟨b,x',g',z',zdy _ _ _ _ _ _ _ _ _ ⟨fun hf=>absurd hf h5',fun _=>⟨⟨by omega,by omega⟩,none,a,_,_,_,q1,q⟩⟩⟩
  | ok b ts2 out2 =>
   rw[hl] at h2
   obtain⟨s2,w2,l2,o2,q2⟩:=h2
   exact⟨s2,w2,by omega,by omega,zdy _ _ _ _ _ _ _ _ _ ⟨fun hf=>absurd hf h5',fun _=>⟨⟨by omega,by omega⟩,none,a,_,_,_,q1,q2⟩⟩⟩
theorem zuK (rank:Nat) (a:Int) (hr:rank < 5):OkE L ts out d d g 0 (20*ts.length) (n+1) (zdM (rank:Int) a) (zF (n+1) rank d a ts out):=by
 cases ts with
 | nil=>exact hw.elim
 | cons t ts =>
  simp only[zF]
  by_cases hk:t.Kind=4
  ·rw[if_pos hk]
   obtain⟨k,hk2,hkq⟩:=zyi rank hr t.Text
   cases hop:opS rank t.Text with
   | none =>
    rw[hop] at hk2
    exact⟨hs,hw,by simp,by simp,za2 _ _ _ _ _ _ _ _ _ _ ⟨t,_,zX hs,fun _=>⟨t,_,zX hs,k,false,hk2,fun hf=>(by cases hf),fun _=>⟨rfl,rfl,rfl,rfl,rfl⟩⟩,fun hf=>absurd hk hf⟩⟩
   | some kind =>
    rw[hop] at hk2
    obtain rfl:=hkq kind hop
    simp only
    have hk0:t.Kind≠0:=by rw[hk];decide
    have hp:=zek hs
    have h1:=(ih L hL hT ts (zdc hs) (hw.tail hk0) out (by simp at ho;omega) d hd g).chain (rank+1) (by omega)
    have hI:I64 ((pt L (t::ts)).pos+1):=by simp only[pt,I64];omega
    have hI2:I64 (((rank:Nat):Int)+1):=⟨by omega,by omega⟩
    have e1:(PExprs.mk (PTokens.mk (pt L (t::ts)).l ((pt L (t::ts)).pos+1)) (pe L (t::ts) out d).out (pe L (t::ts) out d).deep)=pe L ts out d:=by rw[zfj hs];rfl
    cases hc:zo n (rank+1) d ts out with
    | no=>rw[hc] at h1;simp only[PR.bind,OkE,List.length_cons] at h1 ⊢;omega
    | er e =>
     rw[hc] at h1
     obtain⟨b,x',g',z',q⟩:=h1
     exact⟨b,x',g',z',za2 _ _ _ _ _ _ _ _ _ _ ⟨t,_,zX hs,fun _=>⟨t,_,zX hs,k,true,hk2,fun _=>⟨hI,hI2,some e,b,x',g',z',e1 ▸ q,rfl,rfl,rfl,rfl⟩,fun hf=>absurd rfl hf⟩,fun hf=>absurd hk hf⟩⟩
    | ok b ts1 out1 =>
     rw[hc] at h1
     obtain⟨s1,w1,l1,o1,q1⟩:=h1
     simp only[PR.bind]
     simp only[List.length_cons] at ho hp
     by_cases h2:rank=2
     ·subst h2
      rw[if_pos rfl]
      exact⟨s1,w1,by simp;omega,by simp;omega,za2 _ _ _ _ _ _ _ _ _ _ ⟨t,_,zX hs,fun _=>⟨t,_,zX hs,k,true,hk2,fun _=>⟨hI,hI2,none,b,_,_,_,e1 ▸ q1,_,_,_,_,zb9 _ out1 _ g false k [] [a,b] (by simp) (by omega),fun _=>⟨rfl,rfl,rfl,rfl,rfl⟩,fun hf=>absurd rfl hf⟩,fun hf=>absurd rfl hf⟩,fun hf=>absurd hk hf⟩⟩
     rw[if_neg h2]
     have h2':¬ ((rank:Nat):Int)=2:=by omega
     have h3:=(ih L hL hT ts1 s1 w1 (out1++[nd k [] [a,b]]) (by simp;omega) d hd g).loop rank (out1.length:Nat) hr
     cases hl:zF n rank d (out1.length:Nat) ts1 (out1++[nd k [] [a,b]]) with
     | no=>rw[hl] at h3;simp only[OkE,List.length_cons] at h3 ⊢;omega
     | er e =>
      rw[hl] at h3
      obtain⟨c,x',g',z',q⟩:=h3
      exact⟨c,x',g',z',za2 _ _ _ _ _ _ _ _ _ _ ⟨t,_,zX hs,fun _=>⟨t,_,zX hs,k,true,hk2,fun _=>⟨hI,hI2,none,b,_,_,_,e1 ▸ q1,_,_,_,_,zb9 _ out1 _ g false k [] [a,b] (by simp) (by omega),fun hf=>absurd hf h2',fun _=>q⟩,fun hf=>absurd rfl hf⟩,fun hf=>absurd hk hf⟩⟩
     | ok c ts2 out2 =>
      rw[hl] at h3
      obtain⟨s2,w2,l2,o2,q2⟩:=h3
      simp only[List.length_append,List.length_cons,List.length_nil] at o2
      exact⟨s2,w2,by simp;omega,by simp;omega,za2 _ _ _ _ _ _ _ _ _ _ ⟨t,_,zX hs,fun _=>⟨t,_,zX hs,k,true,hk2,fun _=>⟨hI,hI2,none,b,_,_,_,e1 ▸ q1,_,_,_,_,zb9 _ out1 _ g false k [] [a,b] (by simp) (by omega),fun hf=>absurd hf h2',fun _=>q2⟩,fun hf=>absurd rfl hf⟩,fun hf=>absurd hk hf⟩⟩
  rw[if_neg hk]
  exact⟨hs,hw,by simp,by simp,za2 _ _ _ _ _ _ _ _ _ _ ⟨t,_,zX hs,fun hf=>absurd hf hk,fun _=>⟨rfl,rfl,rfl,rfl,rfl⟩⟩⟩
theorem zx8:OkE L ts out d d g 1 (20*ts.length+2) (n+1) zcR (unS (n+1) d ts out):=by
 simp only[unS]
 by_cases hi:isS [45] ts=true
 ·rw[if_pos hi]
  simp only[zL,if_pos hi]
  have hlen:=zad hi
  by_cases h64:64≤d
  ·rw[if_pos h64]
   obtain⟨x',g',z',q⟩:=zdl hs hw.ne hi h64 out g false
   exact⟨0,x',g',z',zbB _ _ _ _ _ _ _ _ ⟨true,_,zaT hs hi,fun _=>⟨some 6,x',g',z',q,rfl,rfl,rfl,rfl⟩,fun hf=>absurd rfl hf⟩⟩
  rw[if_neg h64]
  have q2:=zdr hs hL hi h64 out g false
  have h3:=(ih L hL hT ts.tail (zM hs) (hw.shift hi) out (by omega) (d+1) (by omega) g).un
  cases hb:unS n (d+1) ts.tail out with
  | no=>rw[hb] at h3;simp only[PR.bind,OkE] at h3 ⊢;omega
  | er e =>
   rw[hb] at h3
   obtain⟨b,x',g',z',q3⟩:=h3
   exact⟨0,x',g',z',zbB _ _ _ _ _ _ _ _ ⟨true,_,zaT hs hi,fun _=>⟨none,_,_,_,q2,some e,b,x',g',z',q3,rfl,rfl,rfl,rfl⟩,fun hf=>absurd rfl hf⟩⟩
  | ok b ts2 out2 =>
   rw[hb] at h3
   obtain⟨s2,w2,l2,o2,q3⟩:=h3
   simp only[PR.bind]
   refine⟨s2,w2,by omega,by simp;omega,zbB _ _ _ _ _ _ _ _ ⟨true,_,zaT hs hi,fun _=>⟨none,_,_,_,q2,none,b,_,_,_,q3,⟨by simp only[pe];omega,by simp only[pe];omega⟩,_,_,_,_,zb9 _ out2 _ g false 9 [] [b] (by simp) (by omega),rfl,rfl,?_,rfl,rfl⟩,fun hf=>absurd rfl hf⟩⟩
   simp only[pe]
   congr 1
   omega
 rw[if_neg hi]
 have hi0:isS [45] ts=false:=by simpa using hi
 clear hi
 by_cases hi:isS [33] ts=true
 ·rw[if_pos hi]
  simp only[zL,if_pos hi]
  have hlen:=zad hi
  by_cases h64:64≤d
  ·rw[if_pos h64]
   obtain⟨x',g',z',q⟩:=zdl hs hw.ne hi h64 out g false
   exact⟨0,x',g',z',zbB _ _ _ _ _ _ _ _ ⟨false,_,zbn hs hw.ne hi0,fun hf=>(by cases hf),fun _=>⟨true,_,zaT hs hi,fun _=>⟨some 6,x',g',z',q,rfl,rfl,rfl,rfl⟩,fun hf=>absurd rfl hf⟩⟩⟩
  rw[if_neg h64]
  have q2:=zdr hs hL hi h64 out g false
  have h3:=(ih L hL hT ts.tail (zM hs) (hw.shift hi) out (by omega) (d+1) (by omega) g).un
  cases hb:unS n (d+1) ts.tail out with
  | no=>rw[hb] at h3;simp only[PR.bind,OkE] at h3 ⊢;omega
  | er e =>
   rw[hb] at h3
   obtain⟨b,x',g',z',q3⟩:=h3
   exact⟨0,x',g',z',zbB _ _ _ _ _ _ _ _ ⟨false,_,zbn hs hw.ne hi0,fun hf=>(by cases hf),fun _=>⟨true,_,zaT hs hi,fun _=>⟨none,_,_,_,q2,some e,b,x',g',z',q3,rfl,rfl,rfl,rfl⟩,fun hf=>absurd rfl hf⟩⟩⟩
  | ok b ts2 out2 =>
   rw[hb] at h3
   obtain⟨s2,w2,l2,o2,q3⟩:=h3
   simp only[PR.bind]
   refine⟨s2,w2,by omega,by simp;omega,zbB _ _ _ _ _ _ _ _ ⟨false,_,zbn hs hw.ne hi0,fun hf=>(by cases hf),fun _=>⟨true,_,zaT hs hi,fun _=>⟨none,_,_,_,q2,none,b,_,_,_,q3,⟨by simp only[pe];omega,by simp only[pe];omega⟩,_,_,_,_,zb9 _ out2 _ g false 8 [] [b] (by simp) (by omega),rfl,rfl,?_,rfl,rfl⟩,fun hf=>absurd rfl hf⟩⟩⟩
   simp only[pe]
   congr 1
   omega
 rw[if_neg hi]
 have h1:=(ih L hL hT ts hs hw out ho d hd g).post
 cases hc:zal n d ts out with
 | no=>rw[hc] at h1;simp only[OkE] at h1 ⊢;omega
 | er e =>
  rw[hc] at h1
  obtain⟨a,x',g',z',q⟩:=h1
  exact⟨a,x',g',z',zbB _ _ _ _ _ _ _ _ ⟨false,_,zbn hs hw.ne hi0,fun hf=>(by cases hf),fun _=>⟨false,_,zbn hs hw.ne (by simpa using hi),fun hf=>(by cases hf),fun _=>⟨some e,a,x',g',z',q,rfl,rfl,rfl,rfl⟩⟩⟩⟩
 | ok a ts1 out1 =>
  rw[hc] at h1
  obtain⟨s1,w1,l1,o1,q1⟩:=h1
  exact⟨s1,w1,l1,o1,zbB _ _ _ _ _ _ _ _ ⟨false,_,zbn hs hw.ne hi0,fun hf=>(by cases hf),fun _=>⟨false,_,zbn hs hw.ne (by simpa using hi),fun hf=>(by cases hf),fun _=>⟨none,a,_,_,_,q1,rfl,rfl,rfl,rfl,rfl⟩⟩⟩⟩
theorem zvc:OkE L ts out d d g 1 (20*ts.length+1) (n+1) zgX (zal (n+1) d ts out):=by
 simp only[zal]
 have h1:=(ih L hL hT ts hs hw out ho d hd g).prim
 cases hc:zq n d ts out with
 | no=>rw[hc] at h1;simp only[PR.bind,OkE] at h1 ⊢;omega
 | er e =>
  rw[hc] at h1
  obtain⟨a,x',g',z',q⟩:=h1
  exact⟨a,x',g',z',zgH _ _ _ _ _ _ _ _ ⟨some e,a,x',g',z',q,rfl,rfl,rfl,rfl⟩⟩
 | ok a ts1 out1 =>
  rw[hc] at h1
  obtain⟨s1,w1,l1,o1,q1⟩:=h1
  simp only[PR.bind]
  have h2:=(ih L hL hT ts1 s1 w1 out1 (by omega) d hd g).postl a
  cases hl:zP n d a ts1 out1 with
  | no=>rw[hl] at h2;simp only[OkE] at h2 ⊢;omega
  | er e =>
   rw[hl] at h2
   obtain⟨b,x',g',z',q⟩:=h2
   exact⟨b,x',g',z',zgH _ _ _ _ _ _ _ _ ⟨none,a,_,_,_,q1,q⟩⟩
  | ok b ts2 out2 =>
   rw[hl] at h2
   obtain⟨s2,w2,l2,o2,q2⟩:=h2
   exact⟨s2,w2,by omega,by omega,zgH _ _ _ _ _ _ _ _ ⟨none,a,_,_,_,q1,q2⟩⟩
theorem ztB (a:Int):OkE L ts out d d g 0 (20*ts.length) (n+1) (zdH a) (zP (n+1) d a ts out):=by
 simp only[zP]
 by_cases hi:isS [91] ts=true
 ·rw[if_pos hi]
  simp only[zL,if_pos hi]
  have hlen:=zad hi
  by_cases h64:64≤d
  ·rw[if_pos h64]
   obtain⟨x',g',z',q⟩:=zdl hs hw.ne hi h64 out g false
   exact⟨0,x',g',z',za5 _ _ _ _ _ _ _ _ _ ⟨true,_,zaT hs hi,fun _=>⟨some 6,x',g',z',q,rfl,rfl,rfl,rfl⟩,fun hf=>absurd rfl hf⟩⟩
  rw[if_neg h64]
  have q2:=zdr hs hL hi h64 out g false
  have h3:=(ih L hL hT ts.tail (zM hs) (hw.shift hi) out (by omega) (d+1) (by omega) g).expr
  cases hb:zu n (d+1) ts.tail out with
  | no=>rw[hb] at h3;simp only[PR.bind,OkE] at h3 ⊢;omega
  | er e =>
   rw[hb] at h3
   obtain⟨b,x',g',z',q3⟩:=h3
   exact⟨0,x',g',z',za5 _ _ _ _ _ _ _ _ _ ⟨true,_,zaT hs hi,fun _=>⟨none,_,_,_,q2,some e,b,x',g',z',q3,rfl,rfl,rfl,rfl⟩,fun hf=>absurd rfl hf⟩⟩
  | ok b ts2 out2 =>
   rw[hb] at h3
   obtain⟨s2,w2,l2,o2,q3⟩:=h3
   simp only[PR.bind,zac]
   by_cases hi2:isS [93] ts2=true
   ·rw[if_pos hi2]
    have hlen2:=zad hi2
    have q4:=zhq s2 hL hi2 (d:=d) (by omega) out2 g false
    have h4:=(ih L hL hT ts2.tail (zM s2) (w2.shift hi2) (out2++[nd 7 [] [a,b]]) (by simp;omega) d hd g).postl (out2.length:Nat)
    cases hl:zP n d (out2.length:Nat) ts2.tail (out2++[nd 7 [] [a,b]]) with
    | no=>rw[hl] at h4;simp only[OkE] at h4 ⊢;omega
    | er e =>
     rw[hl] at h4
     obtain⟨c,x',g',z',q⟩:=h4
     exact⟨c,x',g',z',za5 _ _ _ _ _ _ _ _ _ ⟨true,_,zaT hs hi,fun _=>⟨none,_,_,_,q2,none,b,_,_,_,q3,none,_,_,_,q4,_,_,_,_,zb9 _ out2 _ g false 7 [] [a,b] (by simp) (by omega),q⟩,fun hf=>absurd rfl hf⟩⟩
    | ok c ts3 out3 =>
     rw[hl] at h4
     obtain⟨s3,w3,l3,o3,q⟩:=h4
     simp only[List.length_append,List.length_cons,List.length_nil] at o3
     exact⟨s3,w3,by omega,by omega,za5 _ _ _ _ _ _ _ _ _ ⟨true,_,zaT hs hi,fun _=>⟨none,_,_,_,q2,none,b,_,_,_,q3,none,_,_,_,q4,_,_,_,_,zb9 _ out2 _ g false 7 [] [a,b] (by simp) (by omega),q⟩,fun hf=>absurd rfl hf⟩⟩
   rw[if_neg hi2]
   obtain⟨x',g',z',q⟩:=zj8 s2 w2.ne (by simpa using hi2) (d+1) out2 g false
   exact⟨0,x',g',z',za5 _ _ _ _ _ _ _ _ _ ⟨true,_,zaT hs hi,fun _=>⟨none,_,_,_,q2,none,b,_,_,_,q3,some 5,x',g',z',q,rfl,rfl,rfl,rfl⟩,fun hf=>absurd rfl hf⟩⟩
 rw[if_neg hi]
 exact⟨hs,hw,by omega,by omega,za5 _ _ _ _ _ _ _ _ _ ⟨false,_,zbn hs hw.ne (by simpa using hi),fun hf=>(by cases hf),fun _=>⟨rfl,rfl,rfl,rfl,rfl⟩⟩⟩
theorem zvV (e:List UInt8) (h65:d+1≤64):OkE L ts out (d+1) d g 1 (20*ts.length+10) (n+1) (fun x g z=>zex x g z e) (zW (n+1) (d+1) e ts out):=by
 simp only[zW]
 by_cases hi:isS e ts=true
 ·rw[if_pos hi]
  have hlen:=zad hi
  exact⟨zM hs,hw.shift hi,by omega,by omega,ze2 _ _ _ _ _ _ _ _ _ ⟨true,_,zaT hs hi,fun _=>⟨none,_,_,_,zhq hs hL hi (d:=d) (by omega) out g false,rfl,rfl,rfl,rfl,rfl⟩,fun hf=>absurd rfl hf⟩⟩
 rw[if_neg hi]
 have hi0:isS e ts=false:=by simpa using hi
 have h1:=(ih L hL hT ts hs hw out ho (d+1) h65 g).expr
 cases hc:zu n (d+1) ts out with
 | no=>rw[hc] at h1;simp only[PR.bind,OkE] at h1 ⊢;omega
 | er e' =>
  rw[hc] at h1
  obtain⟨a,x',g',z',q⟩:=h1
  exact⟨[],x',g',z',ze2 _ _ _ _ _ _ _ _ _ ⟨false,_,zbn hs hw.ne hi0,fun hf=>(by cases hf),fun _=>⟨some e',a,x',g',z',q,rfl,rfl,rfl,rfl⟩⟩⟩
 | ok a ts1 out1 =>
  rw[hc] at h1
  obtain⟨s1,w1,l1,o1,q1⟩:=h1
  simp only[PR.bind]
  have h2:=(ih L hL hT ts1 s1 w1 out1 (by omega) d hd g).manyl e [a] (by have:=zek s1;simp;omega) h65
  cases hl:zap n (d+1) e [a] ts1 out1 with
  | no=>rw[hl] at h2;simp only[OkE] at h2 ⊢;omega
  | er e' =>
   rw[hl] at h2
   obtain⟨b,x',g',z',q⟩:=h2
   exact⟨b,x',g',z',ze2 _ _ _ _ _ _ _ _ _ ⟨false,_,zbn hs hw.ne hi0,fun hf=>(by cases hf),fun _=>⟨none,a,_,_,_,q1,q⟩⟩⟩
  | ok b ts2 out2 =>
   rw[hl] at h2
   obtain⟨s2,w2,l2,o2,q2⟩:=h2
   exact⟨s2,w2,by omega,by omega,ze2 _ _ _ _ _ _ _ _ _ ⟨false,_,zbn hs hw.ne hi0,fun hf=>(by cases hf),fun _=>⟨none,a,_,_,_,q1,q2⟩⟩⟩
theorem zs4 (e:List UInt8) (l:List Int) (hl:l.length+ts.length≤1000000) (h65:d+1≤64):OkE L ts out (d+1) d g 1 (20*ts.length) (n+1) (zdD e l) (zap (n+1) (d+1) e l ts out):=by
 simp only[zap]
 by_cases hi:isS [44] ts=true
 ·rw[if_pos hi]
  have hlen:=zad hi
  have h1:=(ih L hL hT ts.tail (zM hs) (hw.shift hi) out (by omega) (d+1) h65 g).expr
  cases hc:zu n (d+1) ts.tail out with
  | no=>rw[hc] at h1;simp only[PR.bind,OkE] at h1 ⊢;omega
  | er e' =>
   rw[hc] at h1
   obtain⟨a,x',g',z',q⟩:=h1
   exact⟨[],x',g',z',zbz _ _ _ _ _ _ _ _ _ _ ⟨true,_,zgY hs hL hi,fun _=>⟨some e',a,x',g',z',q,rfl,rfl,rfl,rfl⟩,fun hf=>absurd rfl hf⟩⟩
  | ok a ts1 out1 =>
   rw[hc] at h1
   obtain⟨s1,w1,l1,o1,q1⟩:=h1
   simp only[PR.bind]
   have h2:=(ih L hL hT ts1 s1 w1 out1 (by omega) d hd g).manyl e (l++[a]) (by simp;omega) h65
   have hb:bigRow (l.length+1) 8:=by simp only[bigRow];omega
   cases hl2:zap n (d+1) e (l++[a]) ts1 out1 with
   | no=>rw[hl2] at h2;simp only[OkE] at h2 ⊢;omega
   | er e' =>
    rw[hl2] at h2
    obtain⟨b,x',g',z',q⟩:=h2
    exact⟨b,x',g',z',zbz _ _ _ _ _ _ _ _ _ _ ⟨true,_,zgY hs hL hi,fun _=>⟨none,a,_,_,_,q1,hb,q⟩,fun hf=>absurd rfl hf⟩⟩
   | ok b ts2 out2 =>
    rw[hl2] at h2
    obtain⟨s2,w2,l2,o2,q2⟩:=h2
    exact⟨s2,w2,by omega,by omega,zbz _ _ _ _ _ _ _ _ _ _ ⟨true,_,zgY hs hL hi,fun _=>⟨none,a,_,_,_,q1,hb,q2⟩,fun hf=>absurd rfl hf⟩⟩
 rw[if_neg hi]
 have hi0:isS [44] ts=false:=by simpa using hi
 simp only[zac]
 by_cases hi2:isS e ts=true
 ·rw[if_pos hi2]
  have hlen:=zad hi2
  exact⟨zM hs,hw.shift hi2,by omega,by omega,zbz _ _ _ _ _ _ _ _ _ _ ⟨false,_,zjp hs hw.ne hi0,fun hf=>(by cases hf),fun _=>⟨none,_,_,_,zhq hs hL hi2 (d:=d) (by omega) out g false,rfl,rfl,rfl,rfl,rfl⟩⟩⟩
 rw[if_neg hi2]
 obtain⟨x',g',z',q⟩:=zj8 hs hw.ne (by simpa using hi2) (d+1) out g false
 exact⟨[],x',g',z',zbz _ _ _ _ _ _ _ _ _ _ ⟨false,_,zjp hs hw.ne hi0,fun hf=>(by cases hf),fun _=>⟨some 5,x',g',z',q,rfl,rfl,rfl,rfl⟩⟩⟩
theorem zt2 (e:List UInt8) (h65:d+1≤64):∀ b ts2 out2,zW (n+1) (d+1) e ts out=.ok b ts2 out2→b.length≤ts.length:=by
 intro b ts2 out2 hb
 simp only[zW] at hb
 by_cases hi:isS e ts=true
 ·rw[if_pos hi] at hb
  cases hb
  simp
 rw[if_neg hi] at hb
 have h1:=(ih L hL hT ts hs hw out ho (d+1) h65 0).expr
 cases hc:zu n (d+1) ts out with
 | no=>rw[hc] at hb;cases hb
 | er e'=>rw[hc] at hb;cases hb
 | ok a ts1 out1 =>
  rw[hc] at hb h1
  obtain⟨s1,w1,l1,o1,_⟩:=h1
  have:=(ih L hL hT ts1 s1 w1 out1 (by omega) d hd 0).manyln e [a] h65 b ts2 out2 hb
  simp at this
  omega
theorem zqW (e:List UInt8) (l:List Int) (h65:d+1≤64):∀ b ts2 out2,zap (n+1) (d+1) e l ts out=.ok b ts2 out2→b.length≤l.length+ts.length:=by
 intro b ts2 out2 hb
 simp only[zap] at hb
 by_cases hi:isS [44] ts=true
 ·rw[if_pos hi] at hb
  have hlen:=zad hi
  have h1:=(ih L hL hT ts.tail (zM hs) (hw.shift hi) out (by omega) (d+1) h65 0).expr
  cases hc:zu n (d+1) ts.tail out with
  | no=>rw[hc] at hb;cases hb
  | er e'=>rw[hc] at hb;cases hb
  | ok a ts1 out1 =>
   rw[hc] at hb h1
   obtain⟨s1,w1,l1,o1,_⟩:=h1
   have:=(ih L hL hT ts1 s1 w1 out1 (by omega) d hd 0).manyln e (l++[a]) h65 b ts2 out2 hb
   simp at this
   omega
 rw[if_neg hi] at hb
 simp only[zac] at hb
 split at hb
 ·cases hb;omega
 cases hb
omit hs hw ho in
theorem zvN {t:Token} {ts:List Token} (hs:(t::ts) <:+ L) (hw:W (t::ts)) (ho:out.length+(t::ts).length≤1000000) (hk:t.Kind=3):OkE L (t::ts) out d d g 1 (20*(t::ts).length) (n+1) zi4 (zq (n+1) d (t::ts) out):=by
 have hk0:t.Kind≠0:=by rw[hk];decide
 have hs1:=zdc hs
 have hw1:=hw.tail hk0
 have q0:=zpg hs hL hk
 have hT1:t.Text.length+1≤zaf:=by have:=hT t (hs.mem (by simp));simp only[zaf];omega
 simp only[List.length_cons] at ho
 simp only[zq,if_pos hk]
 by_cases h1:t.Text=[116,114,117,101]
 ·rw[if_pos h1]
  exact⟨hs1,hw1,by simp,by simp;omega,zbA _ _ _ _ _ _ _ _ ⟨none,_,_,q0,fun _=>⟨_,_,_,_,zpK _ out _ g 3 1 (by omega),rfl,rfl,rfl,rfl,rfl⟩,fun hf=>absurd h1 hf⟩⟩
 rw[if_neg h1]
 by_cases h2:t.Text=[102,97,108,115,101]
 ·rw[if_pos h2]
  exact⟨hs1,hw1,by simp,by simp;omega,zbA _ _ _ _ _ _ _ _ ⟨none,_,_,q0,fun hf=>absurd hf h1,fun _=>⟨fun _=>⟨_,_,_,_,zpK _ out _ g 3 0 (by omega),rfl,rfl,rfl,rfl,rfl⟩,fun hf=>absurd h2 hf⟩⟩⟩
 rw[if_neg h2]
 by_cases hi:isS [46] ts=true
 ·rw[if_pos hi]
  have hlen:=zad hi
  have hs2:=zM hs1
  have hw2:=hw1.shift hi
  have q1:=zgY hs1 hL hi
  cases he:ts.tail with
  | nil=>rw[he] at hw2;exact hw2.elim
  | cons u us =>
   rw[he] at hs2 hw2 q1 hlen
   simp only[List.length_cons] at hlen
   have hT2:t.Text.length+1+u.Text.length≤zaf:=by have:=hT t (hs.mem (by simp));have:=hT u (hs2.mem (by simp));simp only[zaf];omega
   by_cases hu:u.Kind=3
   ·simp only[if_pos hu]
    have hu0:u.Kind≠0:=by rw[hu];decide
    exact⟨zdc hs2,hw2.tail hu0,by simp;omega,by simp;omega,zbA _ _ _ _ _ _ _ _ ⟨none,_,_,q0,fun hf=>absurd hf h1,fun _=>⟨fun hf=>absurd hf h2,fun _=>⟨true,_,q1,fun _=>⟨hT1,none,_,_,zpg hs2 hL hu,hT2,_,_,_,_,zb9 _ out _ g false 4 _ [] (by simp) (by omega),rfl,rfl,rfl,rfl,rfl⟩,fun hf=>absurd rfl hf⟩⟩⟩⟩
   simp only[if_neg hu]
   exact⟨0,_,_,_,zbA _ _ _ _ _ _ _ _ ⟨none,_,_,q0,fun hf=>absurd hf h1,fun _=>⟨fun hf=>absurd hf h2,fun _=>⟨true,_,q1,fun _=>⟨hT1,some 5,[],_,zwd hs2 hu [],rfl,rfl,rfl,rfl⟩,fun hf=>absurd rfl hf⟩⟩⟩⟩
 rw[if_neg hi]
 have hi0:isS [46] ts=false:=by simpa using hi
 have q1:=zjp hs1 hw1.ne hi0
 simp only[zL]
 by_cases hp:isS [40] ts=true
 ·rw[if_pos hp]
  have hlen:=zad hp
  by_cases h64:64≤d
  ·rw[if_pos h64]
   obtain⟨x',g',z',q⟩:=zdl hs1 hw1.ne hp h64 out g false
   exact⟨0,x',g',z',zbA _ _ _ _ _ _ _ _ ⟨none,_,_,q0,fun hf=>absurd hf h1,fun _=>⟨fun hf=>absurd hf h2,fun _=>⟨false,_,q1,fun hf=>(by cases hf),fun _=>⟨some 6,x',g',z',q,rfl,rfl,rfl,rfl⟩⟩⟩⟩⟩
  rw[if_neg h64]
  have q2:=zdr hs1 hL hp h64 out g false
  have h3:=(ih L hL hT ts.tail (zM hs1) (hw1.shift hp) out (by omega) d hd g).many [41] (by omega)
  cases hb:zW n (d+1) [41] ts.tail out with
  | no=>rw[hb] at h3;simp only[PR.bind,OkE,List.length_cons] at h3 ⊢;omega
  | er e =>
   rw[hb] at h3
   obtain⟨b,x',g',z',q3⟩:=h3
   exact⟨0,x',g',z',zbA _ _ _ _ _ _ _ _ ⟨none,_,_,q0,fun hf=>absurd hf h1,fun _=>⟨fun hf=>absurd hf h2,fun _=>⟨false,_,q1,fun hf=>(by cases hf),fun _=>⟨none,_,_,_,q2,some e,b,x',g',z',q3,rfl,rfl,rfl,rfl⟩⟩⟩⟩⟩
  | ok b ts2 out2 =>
   rw[hb] at h3
   obtain⟨s2,w2,l2,o2,q3⟩:=h3
   simp only[PR.bind]
   have hbl:b.length≤1000000:=by
    have:=(ih L hL hT ts.tail (zM hs1) (hw1.shift hp) out (by omega) d hd g).manyn [41] (by omega) b ts2 out2 hb
    omega
   exact⟨s2,w2,by simp;omega,by simp;omega,zbA _ _ _ _ _ _ _ _ ⟨none,_,_,q0,fun hf=>absurd hf h1,fun _=>⟨fun hf=>absurd hf h2,fun _=>⟨false,_,q1,fun hf=>(by cases hf),fun _=>⟨none,_,_,_,q2,none,b,_,_,_,q3,_,_,_,_,zb9 _ out2 _ g false 5 t.Text b hbl (by omega),rfl,rfl,rfl,rfl,rfl⟩⟩⟩⟩⟩
 rw[if_neg hp]
 obtain⟨x',g',z',q⟩:=zoW hs1 hw1.ne (by simpa using hp) d out g false
 exact⟨0,x',g',z',zbA _ _ _ _ _ _ _ _ ⟨none,_,_,q0,fun hf=>absurd hf h1,fun _=>⟨fun hf=>absurd hf h2,fun _=>⟨false,_,q1,fun hf=>(by cases hf),fun _=>⟨some 5,x',g',z',q,rfl,rfl,rfl,rfl⟩⟩⟩⟩⟩
theorem zvY:OkE L ts out d d g 1 (20*ts.length) (n+1) zhl (zq (n+1) d ts out):=by
 cases ts with
 | nil=>exact hw.elim
 | cons t ts =>
  by_cases hk:t.Kind=3
  ·have h:=zvN ih hL hT hd g hs hw ho hk
   cases hc:zq (n+1) d (t::ts) out with
   | no=>rw[hc] at h;exact h
   | er e =>
    rw[hc] at h
    obtain⟨a,x',g',z',q⟩:=h
    exact⟨a,x',g',z',zaD _ _ _ _ _ _ _ _ ⟨t,_,zX hs,fun _=>⟨some e,a,x',g',z',q,rfl,rfl,rfl,rfl⟩,fun hf=>absurd hk hf⟩⟩
   | ok a ts1 out1 =>
    rw[hc] at h
    obtain⟨s1,w1,l1,o1,q⟩:=h
    exact⟨s1,w1,l1,o1,zaD _ _ _ _ _ _ _ _ ⟨t,_,zX hs,fun _=>⟨none,a,_,_,_,q,rfl,rfl,rfl,rfl,rfl⟩,fun hf=>absurd hk hf⟩⟩
  have hI:I64 ((pt L (t::ts)).pos+1):=by simp only[pt,I64];omega
  have ho1:out.length≤1000000:=by omega
  have hlc:(t::ts).length=ts.length+1:=rfl
  simp only[zq,if_neg hk]
  by_cases h1:t.Kind=1
  ·rw[if_pos h1]
   have hk0:t.Kind≠0:=by rw[h1];decide
   refine⟨zdc hs,hw.tail hk0,by simp,by simp;omega,zaD _ _ _ _ _ _ _ _ ⟨t,_,zX hs,fun hf=>absurd hf hk,fun _=>⟨fun _=>⟨hI,_,_,_,_,zpK _ out _ g 1 t.Num ho1,rfl,rfl,?_,rfl,rfl⟩,fun hf=>absurd h1 hf⟩⟩⟩
   rw[zfj hs]
   rfl
  rw[if_neg h1]
  by_cases h2:t.Kind=2
  ·rw[if_pos h2]
   have hk0:t.Kind≠0:=by rw[h2];decide
   refine⟨zdc hs,hw.tail hk0,by simp,by simp;omega,zaD _ _ _ _ _ _ _ _ ⟨t,_,zX hs,fun hf=>absurd hf hk,fun _=>⟨fun hf=>absurd hf h1,fun _=>⟨fun _=>⟨hI,_,_,_,_,zb9 _ out _ g false 2 [] [] (by simp) ho1,by omega,by simp,rfl,nd 2 [] [],by simp,rfl,rfl,?_,rfl,rfl⟩,fun hf=>absurd h2 hf⟩⟩⟩⟩
   rw[zfj hs]
   simp[pe,nd]
  rw[if_neg h2]
  by_cases hi:isS [91] (t::ts)=true
  ·rw[if_pos hi]
   simp only[zL,if_pos hi]
   have hlen:=zad hi
   by_cases h64:64≤d
   ·rw[if_pos h64]
    obtain⟨x',g',z',q⟩:=zdl hs hw.ne hi h64 out g false
    exact⟨0,x',g',z',zaD _ _ _ _ _ _ _ _ ⟨t,_,zX hs,fun hf=>absurd hf hk,fun _=>⟨fun hf=>absurd hf h1,fun _=>⟨fun hf=>absurd hf h2,fun _=>⟨true,_,zaT hs hi,fun _=>⟨some 6,x',g',z',q,rfl,rfl,rfl,rfl⟩,fun hf=>absurd rfl hf⟩⟩⟩⟩⟩
   rw[if_neg h64]
   have q2:=zdr hs hL hi h64 out g false
   have h3:=(ih L hL hT (t::ts).tail (zM hs) (hw.shift hi) out (by omega) d hd g).many [93] (by omega)
   cases hb:zW n (d+1) [93] (t::ts).tail out with
   | no=>rw[hb] at h3;simp only[PR.bind,OkE] at h3 ⊢;omega
   | er e =>
    rw[hb] at h3
    obtain⟨b,x',g',z',q3⟩:=h3
    exact⟨0,x',g',z',zaD _ _ _ _ _ _ _ _ ⟨t,_,zX hs,fun hf=>absurd hf hk,fun _=>⟨fun hf=>absurd hf h1,fun _=>⟨fun hf=>absurd hf h2,fun _=>⟨true,_,zaT hs hi,fun _=>⟨none,_,_,_,q2,some e,b,x',g',z',q3,rfl,rfl,rfl,rfl⟩,fun hf=>absurd rfl hf⟩⟩⟩⟩⟩
   | ok b ts2 out2 =>
    have hbl:b.length≤1000000:=by
     have:=(ih L hL hT (t::ts).tail (zM hs) (hw.shift hi) out (by omega) d hd 0).manyn [93] (by omega) b ts2 out2 hb
     omega
    rw[hb] at h3
    obtain⟨s2,w2,l2,o2,q3⟩:=h3
    simp only[PR.bind]
    exact⟨s2,w2,by omega,by simp only[List.length_append,List.length_cons,List.length_nil] at *;omega,zaD _ _ _ _ _ _ _ _ ⟨t,_,zX hs,fun hf=>absurd hf hk,fun _=>⟨fun hf=>absurd hf h1,fun _=>⟨fun hf=>absurd hf h2,fun _=>⟨true,_,zaT hs hi,fun _=>⟨none,_,_,_,q2,none,b,_,_,_,q3,_,_,_,_,zb9 _ out2 _ g false 6 [] b hbl (by omega),rfl,rfl,rfl,rfl,rfl⟩,fun hf=>absurd rfl hf⟩⟩⟩⟩⟩
  rw[if_neg hi]
  have hi0:isS [91] (t::ts)=false:=by simpa using hi
  simp only[zL]
  by_cases hp:isS [40] (t::ts)=true
  ·rw[if_pos hp]
   have hlen:=zad hp
   by_cases h64:64≤d
   ·rw[if_pos h64]
    obtain⟨x',g',z',q⟩:=zdl hs hw.ne hp h64 out g false
    exact⟨0,x',g',z',zaD _ _ _ _ _ _ _ _ ⟨t,_,zX hs,fun hf=>absurd hf hk,fun _=>⟨fun hf=>absurd hf h1,fun _=>⟨fun hf=>absurd hf h2,fun _=>⟨false,_,zbn hs hw.ne hi0,fun hf=>(by cases hf),fun _=>⟨some 6,x',g',z',q,rfl,rfl,rfl,rfl⟩⟩⟩⟩⟩⟩
   rw[if_neg h64]
   have q2:=zdr hs hL hp h64 out g false
   have h3:=(ih L hL hT (t::ts).tail (zM hs) (hw.shift hp) out (by omega) (d+1) (by omega) g).expr
   cases hb:zu n (d+1) (t::ts).tail out with
   | no=>rw[hb] at h3;simp only[PR.bind,OkE] at h3 ⊢;omega
   | er e =>
    rw[hb] at h3
    obtain⟨b,x',g',z',q3⟩:=h3
    exact⟨0,x',g',z',zaD _ _ _ _ _ _ _ _ ⟨t,_,zX hs,fun hf=>absurd hf hk,fun _=>⟨fun hf=>absurd hf h1,fun _=>⟨fun hf=>absurd hf h2,fun _=>⟨false,_,zbn hs hw.ne hi0,fun hf=>(by cases hf),fun _=>⟨none,_,_,_,q2,some e,b,x',g',z',q3,rfl,rfl,rfl,rfl⟩⟩⟩⟩⟩⟩
   | ok b ts2 out2 =>
    rw[hb] at h3
    obtain⟨s2,w2,l2,o2,q3⟩:=h3
    simp only[PR.bind,zac]
    by_cases hi2:isS [41] ts2=true
    ·rw[if_pos hi2]
     have hlen2:=zad hi2
     exact⟨zM s2,w2.shift hi2,by omega,by omega,zaD _ _ _ _ _ _ _ _ ⟨t,_,zX hs,fun hf=>absurd hf hk,fun _=>⟨fun hf=>absurd hf h1,fun _=>⟨fun hf=>absurd hf h2,fun _=>⟨false,_,zbn hs hw.ne hi0,fun hf=>(by cases hf),fun _=>⟨none,_,_,_,q2,none,b,_,_,_,q3,none,_,_,_,zhq s2 hL hi2 (d:=d) (by omega) out2 g false,rfl,rfl,rfl,rfl,rfl⟩⟩⟩⟩⟩⟩
    rw[if_neg hi2]
    obtain⟨x',g',z',q⟩:=zj8 s2 w2.ne (by simpa using hi2) (d+1) out2 g false
    exact⟨0,x',g',z',zaD _ _ _ _ _ _ _ _ ⟨t,_,zX hs,fun hf=>absurd hf hk,fun _=>⟨fun hf=>absurd hf h1,fun _=>⟨fun hf=>absurd hf h2,fun _=>⟨false,_,zbn hs hw.ne hi0,fun hf=>(by cases hf),fun _=>⟨none,_,_,_,q2,none,b,_,_,_,q3,some 5,x',g',z',q,rfl,rfl,rfl,rfl⟩⟩⟩⟩⟩⟩
  rw[if_neg hp]
  obtain⟨x',g',z',q⟩:=zoW hs hw.ne (by simpa using hp) d out g false
  exact⟨0,x',g',z',zaD _ _ _ _ _ _ _ _ ⟨t,_,zX hs,fun hf=>absurd hf hk,fun _=>⟨fun hf=>absurd hf h1,fun _=>⟨fun hf=>absurd hf h2,fun _=>⟨false,_,zbn hs hw.ne hi0,fun hf=>(by cases hf),fun _=>⟨some 5,x',g',z',q,rfl,rfl,rfl,rfl⟩⟩⟩⟩⟩⟩
end
theorem zqD:∀ n,SpA n
 | 0=>zu7
 | n+1=>fun L hL hT ts hs hw out ho d hd g =>
  have ih:=zqD n
  ⟨zv8 ih hL hT hs hw ho hd g,ztr ih hL hT hs hw ho hd g,zuK ih hL hT hs hw ho hd g,zx8 ih hL hT hs hw ho hd g,zvc ih hL hT hs hw ho hd g,ztB ih hL hT hs hw ho hd g,zvV ih hL hT hs hw ho hd g,zs4 ih hL hT hs hw ho hd g,zvY ih hL hT hs hw ho hd g,zt2 ih hL hT hs hw ho hd,zqW ih hL hT hs hw ho hd⟩
theorem zxQ:SP 40=some (.code sc_Q40):=zb rfl Tryz.func40 comp_Q40
theorem ziI (b:PBlocks) (b_g2:Nat) (b_z2:Bool) (c0_:PV) (o:Option Int) (b':PBlocks) (b'_g2:Nat) (b'_z2:Bool) (c0_':PV) (T :
  ∃ (o2:Option Int) (r1:List Node) (y3:PExprs) (g4:Nat) (z5:Bool),(zi2 b.exprs b_g2 b_z2 o2 r1 y3 g4 z5) ∧
 (match o2 with
 | none=>(∃ (r7:Token) (y8:PTokens),(zbt y3.tokens r7 y8) ∧
  ((r7.Kind=0) →
   none=o∧(PBlocks.mk (PExprs.mk y8 y3.out y3.deep))=b'∧g4=b'_g2∧z5=b'_z2∧(.list 5 (r1.map eNode) false)=c0_') ∧
  (¬ (r7.Kind=0) →
   ∃ (o9:Option Int) (y10:PTokens),(zdv y8 5 o9 y10) ∧
   (match o9 with
   | none=>(False )
   | some e11=>(some e11=o∧(PBlocks.mk (PExprs.mk y10 y3.out y3.deep))=b'∧g4=b'_g2∧z5=b'_z2∧(.list 5 (r1.map eNode) false)=c0_'))))
 | some e6=>(some e6=o∧(PBlocks.mk y3)=b'∧g4=b'_g2∧z5=b'_z2∧c0_=c0_'))):zjC b b_g2 b_z2 c0_ o b' b'_g2 b'_z2 c0_':=by
 intro S n0 t0 n1 t1 H0 H1 Hn
 obtain⟨hb0,ha0⟩:=H0
 have hne:=zxZ Hn
 obtain⟨w0,hB0⟩:=zf hb0
 have hn0:=zc hB0
 have hb1:=H1
 obtain⟨w1,hB1⟩:=zf hb1
 have hn1:=zc hB1
 rw[za zxQ _ _ rfl]
 have F:=zyK
 obtain⟨o2,r1,y3,g4,z5,q1,T⟩:=T
 simp only[zi2,lF] at q1
 replace F:=aa ha0<|aa hne<|aa hB0<|aa hn0<|aa hB1<|aa hn1<|aa q1<|F
 cases o2 with
 | none =>
   dsimp only at T
   obtain⟨r7,y8,q2,T⟩:=T
   simp only[zbt,lF] at q2
   replace F:=aa q2<|F
   by_cases c3:r7.Kind=0
   ·replace T:=T.1 c3
    obtain⟨rfl,rfl,rfl,rfl,rfl⟩:=T
    exact fi (aa (eq_true c3)<|F)
   replace T:=T.2 c3
   obtain⟨o9,y10,q4,T⟩:=T
   simp only[zdv,lF] at q4
   replace F:=aa (eq_false c3)<|aa q4<|F
   cases o9 with
   | none=>exact False.elim T
   | some e11 =>
     dsimp only at T
     obtain⟨rfl,rfl,rfl,rfl,rfl⟩:=T
     exact fi F
 | some e6 =>
   dsimp only at T
   obtain⟨rfl,rfl,rfl,rfl,rfl⟩:=T
   exact fi F
theorem zmV {r:zb1} {ops post:Ac→EO} {ac:Ac}:zcB r ops post (.nor ac)=zfg r (ac.e r.t0=.ptr 0 r.t0 0) post (ops (ac.put (some r.d) .junk)):=rfl
theorem znx {r:zb1} {ops post:Ac→EO} {ac:Ac}:zcB r ops post (.ret ac)=retOf r.res ac:=rfl
theorem zm9 {r:zb1} {b:Prop} {post:Ac→EO} {ac:Ac}:zfg r b post (.nor ac)=zfa r.res (post ac):=rfl
theorem zm1 {r:zb1} {b:Prop} {post:Ac→EO} {v:PV} {S:Sto}:zfg r b post (.pan v S)=zgy r b v S:=rfl
theorem zm4 {res:List RX} {ac:Ac}:zfa res (.nor ac)=retOf res ac:=rfl
theorem zmX {res:List RX} {ac:Ac}:zfa res (.ret ac)=retOf res ac:=rfl
theorem zoe {r:zb1} {b:Prop} {t:Nat} {k:IntKind} {n:Int} {S:Sto}:zgy r b (.iface t (.int k n)) S=if b∧t=r.T then (match storeP S 1 (.ptr 0 r.t0 0) (.int k n) with | some S=>retOf r.res ⟨upd (fun _=>.junk) r.t0 (.ptr 0 r.t0 0),S⟩ | none=>.bad) else .bad:=rfl
def pb0 (L:List Token):PBlocks:=.mk (.mk (.mk L 0) [] 0)
theorem zys {s:List UInt8} {L:List Token} {e:Int} (hl:zcP s L e) (he:¬ e=0) (c:PV) (hc:PV.dn c.up=some c) (g:Nat) (S:Sto):call SP 36 [.str s,.func g [c]] S=.ok (.v (.int .i64 e)) S:=by
 rw[zmx zrC _ _ rfl]
 simp only[zcP] at hl
 have F:=aa hl<|aa (eq_false he)<|aa @zmV<|aa @znx<|aa @zm9<|aa @zm1<|aa @zm4<|aa @zmX<|aa @zoe<|rcv_Q36.eq_1
 exact fi F
theorem zm7:SP 20=some (.code sc_Q20):=zb rfl Tryz.func20 comp_Q20
theorem zrj {s:List UInt8} {L:List Token} {e:Int} (hl:zcP s L e) (he:¬ e=0):zaI s [] e:=by
 intro S
 have h:=fun S=>zys hl he (.ptr 0 4 0) rfl 40 S
 rw[za zm7 _ _ rfl]
 exact fi (aa h<|aa (eq_false he)<|zqa)
theorem zoj {s:List UInt8} {L:List Token} (hl:zcP s L 0) {t:Nat} {c c':PV} {f:Fr} {S:Sto} (hb:f.box t=some [c]) {o:Option Int} {b':PBlocks} {bg:Nat} {bz:Bool}
  (hc:zjC (pb0 L) 0 false c o b' bg bz c') :
  call SP 36 [.str s,.func 40 [.ptr 0 t 0]] (f::S)=.ok (.v (.int .i64 (o.getD 0))) (setBox (f::S) 0 t [c']):=by
 rw[zmx zrC _ _ rfl]
 simp only[zcP] at hl
 simp only[zjC,pb0,lF] at hc
 have F:=aa hl<|aa hb<|aa hc<|aa @zmV<|aa @znx<|aa @zm9<|aa @zm1<|aa @zm4<|aa @zmX<|aa @zoe<|rcv_Q36.eq_1
 cases o with
 | none=>exact fi F
 | some e=>exact fi F
theorem zq2 {s:List UInt8} {L:List Token} (hl:zcP s L 0) {b':PBlocks} {bg:Nat} {bz:Bool} {l:List Node}
  (hc:zjC (pb0 L) 0 false (.sl 0 (.cell 4 0) 0 0 0 0 false) none b' bg bz (.list 5 (l.map eNode) false)):zaI s l 0:=by
 intro S
 have h:=fun (f:Fr) (h1:f.box 4=some [.sl 0 (.cell 4 0) 0 0 0 0 false])=>zoj (S:=S) hl h1 hc
 rw[za zm7 _ _ rfl]
 exact fi (aa h<|aa (Option.getD_none (a:=(0:Int)))<|zqa)
theorem zjn {s:List UInt8} {L:List Token} (hl:zcP s L 0) {b':PBlocks} {bg:Nat} {bz:Bool} {e:Int} (he:¬ e=0) {c':PV}
  (hc:zjC (pb0 L) 0 false (.sl 0 (.cell 4 0) 0 0 0 0 false) (some e) b' bg bz c'):zaI s [] e:=by
 intro S
 have h:=fun (f:Fr) (h1:f.box 4=some [.sl 0 (.cell 4 0) 0 0 0 0 false])=>zoj (S:=S) hl h1 hc
 rw[za zm7 _ _ rfl]
 exact fi (aa h<|aa (Option.getD_some (a:=e) (b:=(0:Int)))<|aa (eq_false he)<|zqa)
def zbu (N:Nat) (ts:List Token):PR (List Node) :=
 match zu N 0 ts [] with
 | .ok _ ts out=>.ok out ts []
 | .er e=>.er e
 | .no=>.no
def zp7 (lab:List UInt8→Bool):List Token→PR (List UInt8)
 | []=>.no
 | t::ts=>if t.Kind=2 then (match t.Parts with | [p]=>if p.Ref=true then .er 5 else if lab p.Text=true then .ok p.Text ts [] else .er 5 | _=>.er 5) else .er 5
def zmB (N:Nat):Nat→List zhc→List Token→PR (List zhc)
 | 0,_,_=>.no
 | _+1,_,[]=>.no
 | n+1,acc,t::ts =>
  if isS [125] (t::ts)=true then .ok acc ts []
  else if t.Kind=3 then
   if acc.any (fun a=>decide (a.Name=t.Text))=true then .er 3
   else zac [61] ts fun ts=>(zbu N ts).bind fun nodes ts _=>zmB N n (acc++[⟨t.Text,nodes⟩]) ts
  else .er 5
def zqj (N:Nat) (ts:List Token):PR (List zhc):=zac [123] ts fun ts=>zmB N N [] ts
def zrP:List (List UInt8):=[[118,97,114,105,97,98,108,101],[108,111,99,97,108,115],[110,111,100,101],[109,111,100,117,108,101],[100,101,102,105,110,101]]
def znO (lab:List UInt8→Bool) (N i:Nat) (ts:List Token):PR zcN :=
 if i=1 then (zqj N ts).bind fun as_ ts _=>.ok ⟨2,[],as_,[]⟩ ts []
 else (zp7 lab ts).bind fun l ts _=>(zqj N ts).bind fun as_ ts _=>.ok ⟨1+(i:Int),l,as_,[]⟩ ts []
def blkIn (lab:List UInt8→Bool) (N:Nat):List Token→PR zcN
 | []=>.no
 | t::ts=>if t.Kind=3 then (match zby t.Text zrP 0 with | none=>.er 5 | some i=>if i=4 then .er 5 else znO lab N i ts) else .er 5
def zp5 (lab:List UInt8→Bool) (N:Nat):Nat→List zcN→List Token→PR (List zcN)
 | 0,_,_=>.no
 | n+1,acc,ts=>if isS [125] ts=true then .ok acc ts.tail [] else (blkIn lab N ts).bind fun b ts _=>zp5 lab N n (acc++[b]) ts
def blkS (lab:List UInt8→Bool) (N:Nat):List Token→PR zcN
 | []=>.no
 | t::ts=>if t.Kind=3 then (match zby t.Text zrP 0 with | none=>.er 5 | some i=>if i=4 then (zp7 lab ts).bind fun l ts _=>zac [123] ts fun ts=>(zp5 lab N N [] ts).bind fun bs ts _=>.ok ⟨5,l,[],bs⟩ ts [] else znO lab N i ts) else .er 5
structure TL (L:List Token):Prop where
 len:L.length≤1000000
 text:∀ t ∈ L,t.Text.length≤1000000
 part:∀ t ∈ L,∀ p ∈ t.Parts,p.Text.length≤1000000
def pb (L ts:List Token) (out:List Node):PBlocks:=⟨pe L ts out 0⟩
section
variable {L ts:List Token} (hT:TL L) (hs:ts <:+ L) (hw:W ts)
include hT hs hw
theorem zvq {N:Nat} (hN:20*ts.length+10≤N):match zbu N ts with
  | .ok nodes ts' _=>ts' <:+ L∧W ts'∧ts'.length+1≤ts.length∧∀ out g z,∃ g' z',zi2 (pe L ts out 0) g z none nodes (pe L ts' nodes 0) g' z'
  | .er e=>∀ out g z,∃ a x' g' z',zi2 (pe L ts out 0) g z (some e) a x' g' z'
  | .no=>False:=by
 have h:=fun g=>(zqD N L hT.len hT.text ts hs hw [] (by have:=zek hs;have:=hT.len;simp;omega) 0 (by omega) g).expr
 simp only[zbu]
 cases hc:zu N 0 ts [] with
 | no=>have:=h 0;rw[hc] at this;simp only[OkE] at this;omega
 | er e =>
  intro out g z
  have:=h (g+1)
  rw[hc] at this
  obtain⟨a,x',g',z',q⟩:=this
  exact⟨[],x',g',z',zmA _ _ _ _ _ _ _ _ ⟨some e,a,x',g',z',q,rfl,rfl,rfl,rfl⟩⟩
 | ok a ts1 out1 =>
  have h0:=h 0
  rw[hc] at h0
  obtain⟨s1,w1,l1,o1,_⟩:=h0
  refine⟨s1,w1,l1,fun out g z=>?_⟩
  have:=h (g+1)
  rw[hc] at this
  obtain⟨_,_,_,_,q⟩:=this
  exact⟨_,_,zmA _ _ _ _ _ _ _ _ ⟨none,a,_,_,_,q,rfl,rfl,rfl,rfl,rfl⟩⟩
end
theorem zmE (L:List Token):pb0 L=pb L L []:=by simp[pb0,pb,pe,pt]
def exprT (L:List Token):PR (List Node):=(zbu (20*L.length+10) L).bind fun nodes ts _=>match ts with | []=>.no | t::_=>if t.Kind=0 then .ok nodes ts [] else .er 5
theorem zoJ {s:List UInt8} {L:List Token} (hx:zcP s L 0) (hT:TL L) (hw:W L) :
  match exprT L with
  | .ok l _ _=>zaI s l 0
  | .er e=>e≠0→zaI s [] e
  | .no=>False:=by
 have h:=zvq hT (List.suffix_refl L) hw (Nat.le_refl _)
 unfold exprT
 cases hc:zbu (20*L.length+10) L with
 | no=>rw[hc] at h;exact h.elim
 | er e =>
  rw[hc] at h
  intro he
  obtain⟨a,x',g',z',q⟩:=h [] 0 false
  exact zjn hx he (by rw[zmE];exact ziI _ _ _ _ _ _ _ _ _ ⟨some e,a,x',g',z',q,rfl,rfl,rfl,rfl,rfl⟩)
 | ok nodes ts out =>
  rw[hc] at h
  obtain⟨s1,w1,l1,q⟩:=h
  obtain⟨g',z',q⟩:=q [] 0 false
  simp only[PR.bind]
  cases ts with
  | nil=>exact w1.elim
  | cons t ts =>
   simp only
   by_cases hk:t.Kind=0
   ·rw[if_pos hk]
    exact zq2 hx (by rw[zmE];exact ziI _ _ _ _ _ _ _ _ _ ⟨none,nodes,_,g',z',q,t,_,zX s1,fun _=>⟨rfl,rfl,rfl,rfl,rfl⟩,fun hf=>absurd hk hf⟩)
   rw[if_neg hk]
   intro he
   exact zjn hx he (by rw[zmE];exact ziI _ _ _ _ _ _ _ _ _ ⟨none,nodes,_,g',z',q,t,_,zX s1,fun hf=>absurd hf hk,fun _=>⟨_,_,zjv _ _,rfl,rfl,rfl,rfl,rfl⟩⟩)
end Go.Proofs.YtfbcnpbhhooapaaGreatDoor.M
namespace Go.Proofs.YtfbcnpbhhooapaaGreatDoor.M
open Go Classical
def σ (x:Token):Token:=⟨x.Kind,x.Text,x.Num,x.Parts,0⟩
theorem σ_K (t:Token):(σ t).Kind=t.Kind:=rfl
theorem σ_T (t:Token):(σ t).Text=t.Text:=rfl
def PR.mapT {α:Type}:PR α→PR α
 | .ok a ts out=>.ok a (ts.map σ) out
 | .er e=>.er e
 | .no=>.no
theorem zd5 (s:List UInt8) (ts:List Token):isS s (ts.map σ)=isS s ts:=by cases ts <;> rfl
theorem zg1 (ts:List Token):(ts.map σ).tail=ts.tail.map σ:=by cases ts <;> rfl
theorem ziW {α:Type} (s:List UInt8) (ts:List Token) (k k':List Token→PR α) (h:∀ ts,k' (ts.map σ)=(k ts).mapT):zac s (ts.map σ) k'=(zac s ts k).mapT:=by
 simp only[zac,zd5,zg1,h]
 split <;> rfl
theorem zeq {α:Type} (s:List UInt8) (d:Nat) (ts:List Token) (k k':List Token→PR α) (h:∀ ts,k' (ts.map σ)=(k ts).mapT):zL s d (ts.map σ) k'=(zL s d ts k).mapT:=by
 simp only[zL,zd5,zg1,h]
 split
 ·split <;> rfl
 rfl
theorem za9 {α β:Type} (p p':PR α) (f f':α→List Token→List Node→PR β) (hp:p'=p.mapT) (h:∀ a ts out,f' a (ts.map σ) out=(f a ts out).mapT):p'.bind f'=(p.bind f).mapT:=by
 subst hp
 cases p <;> simp[PR.mapT,PR.bind,h]
theorem zbO {α:Type} (c:Prop) [Decidable c] (p p' q q':PR α) (hp:p'=p.mapT) (hq:q'=q.mapT):(if c then p' else q')=(if c then p else q).mapT:=by
 split <;> assumption
structure StA (n:Nat):Prop where
 expr:∀ d ts out,zu n d (ts.map σ) out=(zu n d ts out).mapT
 chain:∀ r d ts out,zo n r d (ts.map σ) out=(zo n r d ts out).mapT
 loop:∀ r d a ts out,zF n r d a (ts.map σ) out=(zF n r d a ts out).mapT
 un:∀ d ts out,unS n d (ts.map σ) out=(unS n d ts out).mapT
 post:∀ d ts out,zal n d (ts.map σ) out=(zal n d ts out).mapT
 postl:∀ d a ts out,zP n d a (ts.map σ) out=(zP n d a ts out).mapT
 many:∀ d e ts out,zW n d e (ts.map σ) out=(zW n d e ts out).mapT
 manyl:∀ d e l ts out,zap n d e l (ts.map σ) out=(zap n d e l ts out).mapT
 prim:∀ d ts out,zq n d (ts.map σ) out=(zq n d ts out).mapT
theorem stA:∀ n,StA n
 | 0=>by refine⟨?_,?_,?_,?_,?_,?_,?_,?_,?_⟩ <;> intros <;> simp only[zu,zo,zF,unS,zal,zP,zW,zap,zq,PR.mapT]
 | n+1=>by
  have ih:=stA n
  refine⟨fun d ts out=>?_,fun r d ts out=>?_,fun r d a ts out=>?_,fun d ts out=>?_,fun d ts out=>?_,fun d a ts out=>?_,fun d e ts out=>?_,fun d e l ts out=>?_,fun d ts out=>?_⟩
  ·simp only[zu]
   refine za9 _ _ _ _ (ih.chain _ _ _ _) fun a ts out=>?_
   rw[zd5]
   refine zbO _ _ _ _ _ (zeq _ _ _ _ _ fun ts=>za9 _ _ _ _ (ih.expr _ _ _) fun b ts out=>ziW _ _ _ _ fun ts=>za9 _ _ _ _ (ih.expr _ _ _) fun c ts out=>rfl) rfl
  ·simp only[zo]
   exact zbO _ _ _ _ _ (ih.un _ _ _) (za9 _ _ _ _ (ih.chain _ _ _ _) fun a ts out=>ih.loop _ _ _ _ _)
  ·cases ts with
   | nil=>simp[zF,zq,PR.mapT]
   | cons t ts =>
    simp only[zF,List.map_cons,σ_K,σ_T]
    refine zbO _ _ _ _ _ ?_ rfl
    cases opS r t.Text with
    | none=>rfl
    | some kind=>exact za9 _ _ _ _ (ih.chain _ _ _ _) fun b ts out=>zbO _ _ _ _ _ rfl (ih.loop _ _ _ _ _)
  ·simp only[unS,zd5]
   exact zbO _ _ _ _ _ (zeq _ _ _ _ _ fun ts=>za9 _ _ _ _ (ih.un _ _ _) fun a ts out=>rfl) (zbO _ _ _ _ _ (zeq _ _ _ _ _ fun ts=>za9 _ _ _ _ (ih.un _ _ _) fun a ts out=>rfl) (ih.post _ _ _))
  ·simp only[zal]
   exact za9 _ _ _ _ (ih.prim _ _ _) fun a ts out=>ih.postl _ _ _ _
  ·simp only[zP,zd5]
   exact zbO _ _ _ _ _ (zeq _ _ _ _ _ fun ts=>za9 _ _ _ _ (ih.expr _ _ _) fun b ts out=>ziW _ _ _ _ fun ts=>ih.postl _ _ _ _) rfl
  ·simp only[zW,zd5,zg1]
   exact zbO _ _ _ _ _ rfl (za9 _ _ _ _ (ih.expr _ _ _) fun a ts out=>ih.manyl _ _ _ _ _)
  ·simp only[zap,zd5,zg1]
   exact zbO _ _ _ _ _ (za9 _ _ _ _ (ih.expr _ _ _) fun a ts out=>ih.manyl _ _ _ _ _) (ziW _ _ _ _ fun ts=>rfl)
  cases ts with
  | nil=>simp[zF,zq,PR.mapT]
  | cons t ts =>
   have e:=zd5 [91] (t::ts)
   rw[List.map_cons] at e
   simp only[zq,List.map_cons,e,zd5,zg1]
   refine zbO _ _ _ _ _ (zbO _ _ _ _ _ rfl (zbO _ _ _ _ _ rfl (zbO _ _ _ _ _ ?_ (zeq _ _ _ _ _ fun ts=>za9 _ _ _ _ (ih.many _ _ _ _) fun l ts out=>rfl)))) (zbO _ _ _ _ _ rfl (zbO _ _ _ _ _ rfl (zbO _ _ _ _ _ ?_ ?_)))
   ·cases ts.tail with
    | nil=>rfl
    | cons u ts=>exact zbO _ _ _ _ _ rfl rfl
   ·exact zeq _ d (t::ts) _ _ fun ts=>za9 _ _ _ _ (ih.many _ _ _ _) fun l ts out=>rfl
   exact zeq _ d (t::ts) _ _ fun ts=>za9 _ _ _ _ (ih.expr _ _ _) fun a ts out=>ziW _ _ _ _ fun ts=>rfl
theorem zu0 (N:Nat) (ts:List Token):zbu N (ts.map σ)=(zbu N ts).mapT:=by
 simp only[zbu,(stA N).expr]
 cases zu N 0 ts [] <;> rfl
theorem zv9 (L:List Token):exprT (L.map σ)=(exprT L).mapT:=by
 simp only[exprT,List.length_map]
 refine za9 _ _ _ _ (zu0 _ _) fun a ts out=>?_
 cases ts with
 | nil=>rfl
 | cons t ts=>exact zbO _ _ _ _ _ rfl rfl
def Quiet (r:Token):Prop:=r.Kind=0∨(r.Kind=4∧(r.Text=[125]∨r.Text=[41]))
inductive Exs (r:Token) (rest:List Token):List Token→List Token→Prop
 | nil (e:Token) (he:e.Kind=0):Exs r rest [e] (r::rest)
 | cons (x:Token) (ts ts':List Token) (hx:x.Kind≠0) (h:Exs r rest ts ts'):Exs r rest (x::ts) (x::ts')
def Fol {α:Type} (r:Token) (rest:List Token) (d d':Nat) (p q:PR α):Prop:=∀ a ts out,p=.ok a ts out→(∃ ts',q=.ok a ts' out∧Exs r rest ts ts')∨(d < d'∧q=.er 6)
section
variable {r:Token} {rest:List Token} {d d':Nat}
theorem Fol.ok {α:Type} {a:α} {ts ts':List Token} {out:List Node} (h:Exs r rest ts ts'):Fol r rest d d' (.ok a ts out) (.ok a ts' out):=by
 intro a1 ts1 out1 e
 cases e
 exact .inl ⟨ts',rfl,h⟩
theorem Fol.er {α:Type} {e:Int} {q:PR α}:Fol r rest d d' (.er e) q:=fun _ _ _ h=>by cases h
theorem Fol.no {α:Type} {q:PR α}:Fol r rest d d' .no q:=fun _ _ _ h=>by cases h
theorem Fol.bind {α β:Type} {p q:PR α} {f g:α→List Token→List Node→PR β} (hp:Fol r rest d d' p q) (h:∀ a ts out ts',Exs r rest ts ts'→Fol r rest d d' (f a ts out) (g a ts' out)):Fol r rest d d' (p.bind f) (q.bind g):=by
 cases p with
 | er e=>exact Fol.er
 | no=>exact Fol.no
 | ok a ts out =>
  rcases hp a ts out rfl with⟨ts',rfl,hx⟩ | ⟨h1,rfl⟩
  ·exact h a ts out ts' hx
  exact fun _ _ _ _=>.inr ⟨h1,rfl⟩
theorem Fol.up {α:Type} {p q:PR α} (h:Fol r rest (d+1) (d'+1) p q):Fol r rest d d' p q:=by
 intro a ts out e
 rcases h a ts out e with h | ⟨h1,h2⟩
 ·exact .inl h
 exact .inr ⟨by omega,h2⟩
theorem Exs.is1 {s:List UInt8} {ts ts':List Token} (h:Exs r rest ts ts') (hi:isS s ts=true):isS s ts'=true∧Exs r rest ts.tail ts'.tail:=by
 cases h with
 | nil e he=>simp[isS,he] at hi
 | cons x ts ts' hx h=>exact⟨hi,h⟩
theorem Fol.need {α:Type} {s:List UInt8} {ts ts':List Token} {k k':List Token→PR α} (h:Exs r rest ts ts') (hk:∀ ts ts',Exs r rest ts ts'→Fol r rest d d' (k ts) (k' ts')):Fol r rest d d' (zac s ts k) (zac s ts' k'):=by
 simp only[zac]
 by_cases hi:isS s ts=true
 ·obtain⟨h1,h2⟩:=h.is1 hi
  rw[if_pos hi,if_pos h1]
  exact hk _ _ h2
 rw[if_neg hi]
 exact Fol.er
theorem Fol.opn {α:Type} {s:List UInt8} {ts ts':List Token} {k k':List Token→PR α} (hd:d≤d') (h:Exs r rest ts ts') (hk:∀ ts ts',Exs r rest ts ts'→Fol r rest (d+1) (d'+1) (k ts) (k' ts')):Fol r rest d d' (zL s d ts k) (zL s d' ts' k'):=by
 simp only[zL]
 by_cases hi:isS s ts=true
 ·obtain⟨h1,h2⟩:=h.is1 hi
  rw[if_pos hi,if_pos h1]
  by_cases h64:64≤d
  ·rw[if_pos h64];exact Fol.er
  rw[if_neg h64]
  by_cases h64':64≤d'
  ·rw[if_pos h64']
   exact fun _ _ _ _=>.inr ⟨by omega,rfl⟩
  rw[if_neg h64']
  exact (hk _ _ h2).up
 rw[if_neg hi]
 exact Fol.er
theorem Fol.ite {α:Type} {c:Prop} [Decidable c] {p p' q q':PR α} (h1:c→Fol r rest d d' p p') (h2:¬ c→Fol r rest d d' q q'):Fol r rest d d' (if c then p else q) (if c then p' else q'):=by
 split
 ·exact h1 ‹_›
 exact h2 ‹_›
theorem ztP {r:Token} (hq:Quiet r) (h4:r.Kind=4) (rank:Nat):opS rank r.Text=none:=by
 rcases hq with h | ⟨_,h⟩
 ·rw[h4] at h;exact absurd h (by decide)
 have:∀ s:List UInt8,s=[125]∨s=[41]→opS rank s=none:=by
  intro s hs
  unfold opS zjI
  rcases hs with rfl | rfl <;> (split <;> simp[zby])
 exact this _ h
end
def NE {α:Type} (p:PR α):Prop:=∀ e,p=.er e→e=3∨e=5∨e=6
theorem NE.ok {α:Type} {a:α} {ts:List Token} {out:List Node}:NE (PR.ok a ts out):=fun _ h=>by cases h
theorem NE.no {α:Type}:NE (PR.no:PR α):=fun _ h=>by cases h
theorem NE.e3 {α:Type}:NE (PR.er 3:PR α):=fun _ h=>by cases h;exact .inl rfl
theorem NE.e5 {α:Type}:NE (PR.er 5:PR α):=fun _ h=>by cases h;exact .inr (.inl rfl)
theorem NE.e6 {α:Type}:NE (PR.er 6:PR α):=fun _ h=>by cases h;exact .inr (.inr rfl)
theorem NE.bind {α β:Type} {p:PR α} {f:α→List Token→List Node→PR β} (h:NE p) (hf:∀ a ts out,NE (f a ts out)):NE (p.bind f):=by
 cases p with
 | ok a ts out=>exact hf _ _ _
 | er e=>intro e' h';cases h';exact h _ rfl
 | no=>exact NE.no
theorem NE.ite {α:Type} {c:Prop} [Decidable c] {p q:PR α} (hp:NE p) (hq:NE q):NE (if c then p else q):=by split <;> assumption
theorem NE.need {α:Type} {s:List UInt8} {ts:List Token} {k:List Token→PR α} (h:∀ ts,NE (k ts)):NE (zac s ts k):=NE.ite (h _) NE.e5
theorem NE.opn {α:Type} {s:List UInt8} {d:Nat} {ts:List Token} {k:List Token→PR α} (h:∀ ts,NE (k ts)):NE (zL s d ts k):=NE.ite (NE.ite NE.e6 (h _)) NE.e5
structure NeA (n:Nat):Prop where
 expr:∀ d ts out,NE (zu n d ts out)
 chain:∀ r d ts out,NE (zo n r d ts out)
 loop:∀ r d a ts out,NE (zF n r d a ts out)
 un:∀ d ts out,NE (unS n d ts out)
 post:∀ d ts out,NE (zal n d ts out)
 postl:∀ d a ts out,NE (zP n d a ts out)
 many:∀ d e ts out,NE (zW n d e ts out)
 manyl:∀ d e l ts out,NE (zap n d e l ts out)
 prim:∀ d ts out,NE (zq n d ts out)
theorem neA:∀ n,NeA n
 | 0=>by refine⟨?_,?_,?_,?_,?_,?_,?_,?_,?_⟩ <;> intros <;> simp only[zu,zo,zF,unS,zal,zP,zW,zap,zq] <;> exact NE.no
 | n+1=>by
  have ih:=neA n
  refine⟨fun d ts out=>?_,fun r d ts out=>?_,fun r d a ts out=>?_,fun d ts out=>?_,fun d ts out=>?_,fun d a ts out=>?_,fun d e ts out=>?_,fun d e l ts out=>?_,fun d ts out=>?_⟩
  ·simp only[zu]
   exact (ih.chain _ _ _ _).bind fun a ts out=>NE.ite (NE.opn fun ts=>(ih.expr _ _ _).bind fun b ts out=>NE.need fun ts=>(ih.expr _ _ _).bind fun c ts out=>NE.ok) NE.ok
  ·simp only[zo]
   exact NE.ite (ih.un _ _ _) ((ih.chain _ _ _ _).bind fun a ts out=>ih.loop _ _ _ _ _)
  ·cases ts with
   | nil=>simp only[zF];exact NE.no
   | cons t ts =>
    simp only[zF]
    refine NE.ite ?_ NE.ok
    split
    ·exact NE.ok
    exact (ih.chain _ _ _ _).bind fun b ts out=>NE.ite NE.ok (ih.loop _ _ _ _ _)
  ·simp only[unS]
   exact NE.ite (NE.opn fun ts=>(ih.un _ _ _).bind fun a ts out=>NE.ok) (NE.ite (NE.opn fun ts=>(ih.un _ _ _).bind fun a ts out=>NE.ok) (ih.post _ _ _))
  ·simp only[zal]
   exact (ih.prim _ _ _).bind fun a ts out=>ih.postl _ _ _ _
  ·simp only[zP]
   exact NE.ite (NE.opn fun ts=>(ih.expr _ _ _).bind fun b ts out=>NE.need fun ts=>ih.postl _ _ _ _) NE.ok
  ·simp only[zW]
   exact NE.ite NE.ok ((ih.expr _ _ _).bind fun a ts out=>ih.manyl _ _ _ _ _)
  ·simp only[zap]
   exact NE.ite ((ih.expr _ _ _).bind fun a ts out=>ih.manyl _ _ _ _ _) (NE.need fun ts=>NE.ok)
  cases ts with
  | nil=>simp only[zq];exact NE.no
  | cons t ts =>
   simp only[zq]
   refine NE.ite (NE.ite NE.ok (NE.ite NE.ok (NE.ite ?_ (NE.opn fun ts=>(ih.many _ _ _ _).bind fun l ts out=>NE.ok)))) (NE.ite NE.ok (NE.ite NE.ok (NE.ite (NE.opn fun ts=>(ih.many _ _ _ _).bind fun l ts out=>NE.ok) (NE.opn fun ts=>(ih.expr _ _ _).bind fun a ts out=>NE.need fun ts=>NE.ok))))
   split
   ·exact NE.no
   exact NE.ite NE.ok NE.e5
theorem NE.whole (N:Nat) (ts:List Token):NE (zbu N ts):=by
 have:=(neA N).expr 0 ts []
 simp only[zbu]
 cases h:zu N 0 ts [] with
 | ok a ts out=>exact NE.ok
 | er e=>intro e' h';cases h';exact this e h
 | no=>exact NE.no
theorem NE.exprT (L:List Token):NE (exprT L):=by
 refine (NE.whole _ _).bind fun a ts out=>?_
 split
 ·exact NE.no
 exact NE.ite NE.ok NE.e5
theorem NE.lab (lab:List UInt8→Bool) (ts:List Token):NE (zp7 lab ts):=by
 cases ts with
 | nil=>exact NE.no
 | cons t ts =>
  simp only[zp7]
  refine NE.ite ?_ NE.e5
  split
  ·exact NE.ite NE.e5 (NE.ite NE.ok NE.e5)
  exact NE.e5
theorem NE.attrs (N:Nat):∀ (n:Nat) (acc:List zhc) (ts:List Token),NE (zmB N n acc ts)
 | 0,_,_=>NE.no
 | n+1,acc,[]=>NE.no
 | n+1,acc,t::ts=>NE.ite NE.ok (NE.ite (NE.ite NE.e3 (NE.need fun ts=>(NE.whole _ _).bind fun a ts out=>NE.attrs N n _ _)) NE.e5)
theorem NE.body (N:Nat) (ts:List Token):NE (zqj N ts):=NE.need fun ts=>NE.attrs N N [] ts
theorem NE.plain (lab:List UInt8→Bool) (N i:Nat) (ts:List Token):NE (znO lab N i ts):=NE.ite ((NE.body _ _).bind fun a ts out=>NE.ok) ((NE.lab _ _).bind fun a ts out=>(NE.body _ _).bind fun a ts out=>NE.ok)
theorem NE.blkIn (lab:List UInt8→Bool) (N:Nat) (ts:List Token):NE (blkIn lab N ts):=by
 cases ts with
 | nil=>exact NE.no
 | cons t ts =>
  simp only[M.blkIn]
  refine NE.ite ?_ NE.e5
  split
  ·exact NE.e5
  exact NE.ite NE.e5 (NE.plain _ _ _ _)
theorem NE.blks (lab:List UInt8→Bool) (N:Nat):∀ (n:Nat) (acc:List zcN) (ts:List Token),NE (zp5 lab N n acc ts)
 | 0,_,_=>NE.no
 | n+1,acc,ts=>NE.ite NE.ok ((NE.blkIn _ _ _).bind fun a ts out=>NE.blks lab N n _ _)
theorem NE.blk (lab:List UInt8→Bool) (N:Nat) (ts:List Token):NE (blkS lab N ts):=by
 cases ts with
 | nil=>exact NE.no
 | cons t ts =>
  simp only[blkS]
  refine NE.ite ?_ NE.e5
  split
  ·exact NE.e5
  exact NE.ite ((NE.lab _ _).bind fun a ts out=>NE.need fun ts=>(NE.blks _ _ _ _ _).bind fun a ts out=>NE.ok) (NE.plain _ _ _ _)
def lpT:Token:=⟨4,[40],0,[],0⟩
def rpT:Token:=⟨4,[41],0,[],0⟩
theorem Quiet.isS {u:Token} (h:Quiet u) {s:List UInt8} (hs:s≠[125]∧s≠[41]) (rest:List Token):isS s (u::rest)=false:=by
 rw[←Bool.not_eq_true]
 simp only[M.isS,Bool.and_eq_true,decide_eq_true_eq]
 intro hf
 rcases h with h | ⟨_,h⟩
 ·rw[h] at hf;exact absurd hf.1 (by decide)
 rcases h with h | h <;> rw[h] at hf
 ·exact hs.1 hf.2.symm
 exact hs.2 hf.2.symm
theorem zpA {u:Token} (h:Quiet u) (n k d:Nat) (a:Int) (rest:List Token) (out:List Node):zF (n+1) k d a (u::rest) out=.ok a (u::rest) out:=by
 simp only[zF]
 by_cases h4:u.Kind=4
 ·rw[if_pos h4,ztP h h4]
 rw[if_neg h4]
def zy {α:Type} (p:PR α) (a:α) (ts:List Token) (o:List Node):Prop:=p=.ok a ts o∨p=.er 6
theorem brk {u:Token} (hu:Quiet u) {N d:Nat} {T rest:List Token} {out o:List Node} {a:Int} (h:zy (zu N (d+1) T out) a (rpT::u::rest) o):zy (zu (N+10) d (lpT::T) out) a (u::rest) o:=by
 have hp:zy (zq (N+1) d (lpT::T) out) a (u::rest) o:=by
  have e:zq (N+1) d (lpT::T) out=if 64≤d then .er 6 else (zu N (d+1) T out).bind fun a ts out=>zac [41] ts fun ts=>.ok a ts out:=by
   simp[zq,lpT,M.isS,zL]
  rw[e]
  by_cases hd:64≤d
  ·rw[if_pos hd];exact .inr rfl
  rw[if_neg hd]
  rcases h with h | h
  ·rw[h];exact .inl rfl
  rw[h];exact .inr rfl
 have hpo:zy (zal (N+2) d (lpT::T) out) a (u::rest) o:=by
  simp only[zal]
  rcases hp with h | h
  ·rw[h]
   left
   simp only[PR.bind,zP]
   rw[hu.isS (by decide)]
   rfl
  rw[h];exact .inr rfl
 have hun:zy (unS (N+3) d (lpT::T) out) a (u::rest) o:=by
  have e:unS (N+3) d (lpT::T) out=zal (N+2) d (lpT::T) out:=by simp[unS,lpT,M.isS]
  rw[e]
  exact hpo
 have h5:zy (zo (N+4) 5 d (lpT::T) out) a (u::rest) o:=by
  simp only[zo]
  exact hun
 have up:∀ m k,k≠5→zy (zo (m+1) (k+1) d (lpT::T) out) a (u::rest) o→zy (zo (m+2) k d (lpT::T) out) a (u::rest) o:=by
  intro m k hk h
  rw[zo,if_neg hk]
  rcases h with h | h
  ·rw[h]
   left
   simp only[PR.bind]
   exact zpA hu _ _ _ _ _ _
  rw[h];exact .inr rfl
 have h0:=up _ 0 (by decide) (up _ 1 (by decide) (up _ 2 (by decide) (up _ 3 (by decide) (up _ 4 (by decide) h5))))
 simp only[zu]
 rcases h0 with h | h
 ·rw[h]
  left
  simp only[PR.bind]
  rw[hu.isS (by decide)]
  rfl
 rw[h];exact .inr rfl
def tn (s:List UInt8):Token:=⟨3,s,0,[],0⟩
def tg (s:List UInt8):Token:=⟨4,s,0,[],0⟩
def ze9 (z:Int):Token:=⟨1,[],z,[],0⟩
def zeI (l:List Part):Token:=⟨2,[],0,l,0⟩
def wrK (l:List Node) (o:Int→List Token) (k least:Int):List Token:=if rkK l k < least then lpT::(o k++[rpT]) else o k
def tcG (o:Int→List Token):List Int→List Token
 | []=>[]
 | k::r=>tg [44]::(o k++tcG o r)
def tcS (o:Int→List Token):List Int→List Token
 | []=>[]
 | k::r=>o k++tcG o r
def zgT (s:List UInt8):List Token:=[tn (Lib.cut s [46]).1,tg [46],tn (Lib.cut s [46]).2.1]
def ndK (l:List Node) (o:Int→List Token) (n:Node):List Token :=
 if n.Kind=1 then [ze9 n.Num]
 else if n.Kind=2 then [zeI n.Parts]
 else if n.Kind=3 then [tn (Lib.formatBool (decide (n.Num=1)))]
 else if n.Kind=4 then zgT n.Text
 else if n.Kind=5 then tn n.Text::lpT::(tcS o n.Kids++[rpT])
 else if n.Kind=6 then tg [91]::(tcS o n.Kids++[tg [93]])
 else if n.Kind=7 then wrK l o (kid n 0) 7++tg [91]::(o (kid n 1)++[tg [93]])
 else if n.Kind=8 then tg [33]::wrK l o (kid n 0) 6
 else if n.Kind=9 then tg [45]::wrK l o (kid n 0) 6
 else if n.Kind=10 then wrK l o (kid n 0) 1++tg [63]::(o (kid n 1)++tg [58]::o (kid n 2))
 else wrK l o (kid n 0) (if rkS n.Kind=3 then rkS n.Kind+1 else rkS n.Kind)++tg (zaq n.Kind)::wrK l o (kid n 1) (rkS n.Kind+1)
def tkv (l:List Node) (rs:List (List Token)) (e:Nat):List Token:=match l[e]? with
 | some n=>ndK l (fun k=>(rs[k.toNat]?).getD []) n
 | none=>[]
def tks (l:List Node):Nat→List (List Token)
 | 0=>[]
 | n+1=>tks l n++[tkv l (tks l n) n]
theorem zhT (l:List Node):∀ n,(tks l n).length=n
 | 0=>rfl
 | n+1=>by rw[tks,List.length_append,zhT l n];rfl
def tkS (l:List Node) (e:Nat):List Token:=tkv l (tks l e) e
theorem zoF (l:List Node):∀ {n j:Nat},j < n→(tks l n)[j]?=some (tkS l j)
 | 0,j,h=>absurd h (Nat.not_lt_zero _)
 | n+1,j,h=>by
  rw[tks]
  by_cases hj:j < n
  ·rw[List.getElem?_append_left (by rw[zhT];exact hj)]
   exact zoF l hj
  obtain rfl:j=n:=by omega
  rw[List.getElem?_append_right (by rw[zhT];omega),zhT,Nat.sub_self]
  rfl
theorem zkB {o o':Int→List Token}:∀ {ks:List Int},(∀ k ∈ ks,o k=o' k)→tcG o ks=tcG o' ks
 | [],_=>rfl
 | k::r,h=>by rw[tcG,tcG,h k (List.mem_cons_self ..),zkB fun q hq=>h q (List.mem_cons_of_mem _ hq)]
theorem zdP {o o':Int→List Token}:∀ {ks:List Int},(∀ k ∈ ks,o k=o' k)→tcS o ks=tcS o' ks
 | [],_=>rfl
 | k::r,h=>by rw[tcS,tcS,h k (List.mem_cons_self ..),zkB fun q hq=>h q (List.mem_cons_of_mem _ hq)]
theorem zcE {l:List Node} {o o':Int→List Token} {k:Int} (least:Int) (h:o k=o' k):wrK l o k least=wrK l o' k least:=by rw[wrK,wrK,h]
theorem zrK {l:List Node} {o o':Int→List Token} {n:Node} (hn:zi n=true) (h:∀ k ∈ n.Kids,o k=o' k):ndK l o n=ndK l o' n:=by
 rw[ndK,ndK]
 by_cases k1:n.Kind=1
 ·rw[if_pos k1,if_pos k1]
 rw[if_neg k1,if_neg k1]
 by_cases k2:n.Kind=2
 ·rw[if_pos k2,if_pos k2]
 rw[if_neg k2,if_neg k2]
 by_cases k3:n.Kind=3
 ·rw[if_pos k3,if_pos k3]
 rw[if_neg k3,if_neg k3]
 by_cases k4:n.Kind=4
 ·rw[if_pos k4,if_pos k4]
 rw[if_neg k4,if_neg k4]
 by_cases k5:n.Kind=5
 ·rw[if_pos k5,if_pos k5,zdP h]
 rw[if_neg k5,if_neg k5]
 by_cases k6:n.Kind=6
 ·rw[if_pos k6,if_pos k6,zdP h]
 rw[if_neg k6,if_neg k6]
 by_cases k7:n.Kind=7
 ·have hl:=kdk hn 7 2 k7 (by decide) (by decide) (by decide)
  rw[if_pos k7,if_pos k7,zcE 7 (h _ (zl (i:=0) (by omega))),h _ (zl (i:=1) (by omega))]
 rw[if_neg k7,if_neg k7]
 by_cases k8:n.Kind=8
 ·have hl:=kdk hn 8 1 k8 (by decide) (by decide) (by decide)
  rw[if_pos k8,if_pos k8,zcE 6 (h _ (zl (i:=0) (by omega)))]
 rw[if_neg k8,if_neg k8]
 by_cases k9:n.Kind=9
 ·have hl:=kdk hn 9 1 k9 (by decide) (by decide) (by decide)
  rw[if_pos k9,if_pos k9,zcE 6 (h _ (zl (i:=0) (by omega)))]
 rw[if_neg k9,if_neg k9]
 by_cases k10:n.Kind=10
 ·have hl:=kdk hn 10 3 k10 (by decide) (by decide) (by decide)
  rw[if_pos k10,if_pos k10,zcE 1 (h _ (zl (i:=0) (by omega))),h _ (zl (i:=1) (by omega)),h _ (zl (i:=2) (by omega))]
 rw[if_neg k10,if_neg k10]
 have h1:=zaS hn
 have hl:=kd2 hn (by omega)
 rw[zcE _ (h _ (zl (i:=0) (by omega))),zcE _ (h _ (zl (i:=1) (by omega)))]
theorem zdS {l:List Node} {e:Nat} (he:e < l.length) (hn:zi l[e]=true) (hk:∀ k ∈ l[e].Kids,0≤k∧k < (e:Int)):tkS l e=ndK l (fun k=>tkS l k.toNat) l[e]:=by
 unfold tkS tkv
 rw[List.getElem?_eq_getElem he]
 refine zrK hn fun k hk'=>?_
 have:=hk k hk'
 rw[zoF l (show k.toNat < e by omega)]
 rfl
def KC (l:List Node):Nat→List Int→Nat→Prop
 | b,[],e=>b=e
 | b,k::r,e=>0≤k∧zar l k.toNat=b∧KC l (k.toNat+1) r e
theorem zon {l:List Node}:∀ {ks:List Int} {b e:Nat} {k:Int},KC l b ks e→0≤k→zar l k.toNat=e→KC l b (ks++[k]) (k.toNat+1)
 | [],b,e,k,h,h0,hk=>by
  obtain rfl:b=e:=h
  exact⟨h0,hk,rfl⟩
 | q::ks,b,e,k,⟨h1,h2,h3⟩,h0,hk=>⟨h1,h2,zon h3 h0 hk⟩
theorem zqS (l:List Node) (e:Nat):∀ (ks:List Int) (f b:Nat),f≤e→Bk.run (fun k=>((zaH l e)[k.toNat]?).getD 0) f ks=b→KC l b ks.reverse f
 | [],f,b,hf,h=>by
  have:(f:Int)=b:=h
  rw[List.reverse_nil]
  show b=f
  omega
 | k::ks,f,b,hf,h=>by
  rw[Bk.run] at h
  split at h
  ·omega
  rename_i h1
  split at h
  ·omega
  rename_i h2
  have hk:k.toNat < e:=by omega
  have ek:((zaH l e)[k.toNat]?).getD 0=zar l k.toNat:=by rw[zbT l hk,Option.getD_some]
  simp only[ek] at h h2
  have hle:=zbw l k.toNat
  obtain⟨b1,hb1⟩:∃ b1:Nat,zar l k.toNat=b1:=⟨(zar l k.toNat).toNat,by omega⟩
  rw[hb1] at h
  have:=zon (zqS l e ks b1 b (by omega) h) (by omega) hb1
  rw[List.reverse_cons]
  rwa [show f=k.toNat+1 by omega]
theorem zo7 {l:List Node} (h:TR l) {e:Nat} (he:e < l.length):∃ b:Nat,zar l e=b∧b≤e∧KC l b l[e].Kids e:=by
 obtain⟨h1,h2,b,h3,h4⟩:=zl4 h.tree h.ns e he
 have hr:=h3
 rw[zel l (List.getElem?_eq_getElem he),if_pos h1] at hr
 have:=zqS l e l[e].Kids.reverse e b (Nat.le_refl _) hr
 rw[List.reverse_reverse] at this
 have hle:=zbw l e
 exact⟨b,h3,by omega,this⟩
theorem zcC {α β:Type} {p:PR α} {f:α→List Token→List Node→PR β} {a:α} {ts:List Token} {o:List Node} {b:β} {ts':List Token} {o':List Node} (h:zy p a ts o) (hf:zy (f a ts o) b ts' o'):zy (p.bind f) b ts' o':=by
 rcases h with h | h
 ·rw[h];exact hf
 rw[h];exact .inr rfl
def Stop (r:Nat) (u:Token):Prop:=(∀ k,r < k→k≤4→u.Kind=4→opS k u.Text=none)∧∀ rest,isS [91] (u::rest)=false
theorem zhe {r:Nat} {u:Token} (h:u.Kind=4→opS r u.Text=none) (n d:Nat) (a:Int) (rest:List Token) (out:List Node):zF (n+1) r d a (u::rest) out=.ok a (u::rest) out:=by
 simp only[zF]
 by_cases h4:u.Kind=4
 ·rw[if_pos h4,h h4]
 rw[if_neg h4]
def eqOr {α:Type} (p q:PR α):Prop:=p=q∨p=.er 6
theorem zmu {N d:Nat} {T X:List Token} {out o:List Node} {a:Int} (h:zy (zu N (d+1) T out) a (rpT::X) o):zy (zq (N+1) d (lpT::T) out) a X o:=by
 have e:zq (N+1) d (lpT::T) out=if 64≤d then .er 6 else (zu N (d+1) T out).bind fun a ts out=>zac [41] ts fun ts=>.ok a ts out:=by
  simp[zq,lpT,M.isS,zL]
 rw[e]
 by_cases hd:64≤d
 ·rw[if_pos hd];exact .inr rfl
 rw[if_neg hd]
 rcases h with h | h
 ·rw[h];exact .inl rfl
 rw[h];exact .inr rfl
theorem zgJ {N d:Nat} {T X:List Token} {out o:List Node} {a:Int} (h:zy (zq N d T out) a X o):eqOr (zal (N+1) d T out) (zP N d a X o):=by
 simp only[zal]
 rcases h with h | h
 ·rw[h];exact .inl rfl
 rw[h];exact .inr rfl
theorem zjB {N d:Nat} {X:List Token} {o:List Node} {a:Int} (h:isS [91] X=false):zP (N+1) d a X o=.ok a X o:=by
 rw[zP,h]
 rfl
theorem zoR {N d:Nat} {T:List Token} {out:List Node} (h1:isS [45] T=false) (h2:isS [33] T=false):unS (N+1) d T out=zal N d T out:=by
 rw[unS,h1,h2]
 rfl
theorem zhj {d:Nat} {T rest:List Token} {u:Token} {out o:List Node} {a:Int}:∀ (w r:Nat),r+w=5→∀ n,w+2≤n→zy (unS (n - (w+1)) d T out) a (u::rest) o→(∀ k,r≤k→k≤4→u.Kind=4→opS k u.Text=none)→zy (zo n r d T out) a (u::rest) o
 | 0,r,hr,n,hn,h,_=>by
  obtain rfl:r=5:=by omega
  obtain⟨m,rfl⟩:∃ m,n=m+1:=⟨n - 1,by omega⟩
  rw[zo,if_pos rfl]
  exact h
 | w+1,r,hr,n,hn,h,hs=>by
  obtain⟨m,rfl⟩:∃ m,n=m+2:=⟨n - 2,by omega⟩
  have:=zhj w (r+1) (by omega) (m+1) (by omega) (by rwa [show m+2 - (w+1+1)=m+1 - (w+1) by omega] at h) (fun k h1 h2=>hs k (by omega) h2)
  rw[zo,if_neg (by omega)]
  rcases this with h | h
  ·rw[h]
   left
   simp only[PR.bind]
   exact zhe (hs r (Nat.le_refl _) (by omega)) _ _ _ _ _
  rw[h];exact .inr rfl
theorem zf4 {d r m:Nat} (hr:r < 5) {T X:List Token} {out o:List Node} {a:Int} (h:zy (zo m (r+1) d T out) a X o):eqOr (zo (m+1) r d T out) (zF m r d a X o):=by
 rw[zo,if_neg (by omega)]
 rcases h with h | h
 ·rw[h];exact .inl rfl
 rw[h];exact .inr rfl
theorem zk6 {d r m:Nat} {s:List UInt8} {kind a b:Int} {Y X:List Token} {out o:List Node} (hs:opS r s=some kind) (h:zy (zo m (r+1) d Y out) b X o):eqOr (zF (m+1) r d a (tg s::Y) out) (if r=2 then .ok ((o.length:Nat):Int) X (o++[nd kind [] [a,b]]) else zF m r d (o.length:Nat) X (o++[nd kind [] [a,b]])):=by
 have e:zF (m+1) r d a (tg s::Y) out=(zo m (r+1) d Y out).bind fun b ts out=>if r=2 then .ok ((out.length:Nat):Int) ts (out++[nd kind [] [a,b]]) else zF m r d (out.length:Nat) ts (out++[nd kind [] [a,b]]):=by
  simp only[zF,tg,if_true,hs]
 rw[e]
 rcases h with h | h
 ·rw[h];exact .inl rfl
 rw[h];exact .inr rfl
theorem eqOr.trans {α:Type} {p q r:PR α} (h:eqOr p q) (h':eqOr q r):eqOr p r:=by
 rcases h with h | h
 ·rw[h];exact h'
 exact .inr h
theorem eqOr.ok {α:Type} {p q:PR α} {a:α} {ts:List Token} {o:List Node} (h:eqOr p q) (h':zy q a ts o):zy p a ts o:=by
 rcases h with h | h
 ·rw[h];exact h'
 exact .inr h
theorem zwr {N d:Nat} {T rest:List Token} {u:Token} {out o:List Node} {a:Int} (hu:isS [91] (u::rest)=false) (h:zy (zu N (d+1) T out) a (rpT::u::rest) o):zy (unS (N+3) d (lpT::T) out) a (u::rest) o:=by
 rw[zoR (by simp[lpT,M.isS]) (by simp[lpT,M.isS])]
 exact (zgJ (zmu h)).ok (.inl (zjB hu))
theorem zss {k:Int} (h0:11≤k) (h1:k≤23):∃ r:Nat,r≤4∧rkS k=(r:Int)+1∧opS r (zaq k)=some k∧∀ j,j≤4→j≠r→opS j (zaq k)=none:=by
 have:k=11∨k=12∨k=13∨k=14∨k=15∨k=16∨k=17∨k=18∨k=19∨k=20∨k=21∨k=22∨k=23:=by omega
 have five:∀ {P:Nat→Prop},P 0→P 1→P 2→P 3→P 4→∀ j,j≤4→P j:=fun h0 h1 h2 h3 h4 j hj=>by
  match j,hj with
  | 0,_=>exact h0
  | 1,_=>exact h1
  | 2,_=>exact h2
  | 3,_=>exact h3
  | 4,_=>exact h4
 rcases this with rfl | rfl | rfl | rfl | rfl | rfl | rfl | rfl | rfl | rfl | rfl | rfl | rfl
 ·exact⟨0,by decide,by decide,by decide,five (by decide) (by decide) (by decide) (by decide) (by decide)⟩
 ·exact⟨1,by decide,by decide,by decide,five (by decide) (by decide) (by decide) (by decide) (by decide)⟩
 ·exact⟨2,by decide,by decide,by decide,five (by decide) (by decide) (by decide) (by decide) (by decide)⟩
 ·exact⟨2,by decide,by decide,by decide,five (by decide) (by decide) (by decide) (by decide) (by decide)⟩
 ·exact⟨2,by decide,by decide,by decide,five (by decide) (by decide) (by decide) (by decide) (by decide)⟩
 ·exact⟨2,by decide,by decide,by decide,five (by decide) (by decide) (by decide) (by decide) (by decide)⟩
 ·exact⟨2,by decide,by decide,by decide,five (by decide) (by decide) (by decide) (by decide) (by decide)⟩
 ·exact⟨2,by decide,by decide,by decide,five (by decide) (by decide) (by decide) (by decide) (by decide)⟩
 ·exact⟨3,by decide,by decide,by decide,five (by decide) (by decide) (by decide) (by decide) (by decide)⟩
 ·exact⟨3,by decide,by decide,by decide,five (by decide) (by decide) (by decide) (by decide) (by decide)⟩
 ·exact⟨4,by decide,by decide,by decide,five (by decide) (by decide) (by decide) (by decide) (by decide)⟩
 ·exact⟨4,by decide,by decide,by decide,five (by decide) (by decide) (by decide) (by decide) (by decide)⟩
 exact⟨4,by decide,by decide,by decide,five (by decide) (by decide) (by decide) (by decide) (by decide)⟩
def zey (l:List Node) (k:Int):Nat:=(zar l k.toNat).toNat
def OB (l:List Node) (k:Int):List Node:=l.take (zey l k)
def OA (l:List Node) (k:Int):List Node:=l.take (k.toNat+1)
def szN (l:List Node) (k:Int):Nat:=k.toNat+1 - zey l k
def FU (l:List Node) (k:Int):Nat:=20*szN l k+20
def tkI (l:List Node) (k:Int):List Token:=tkS l k.toNat
def zaw (u:Token):Prop:=∀ rest,isS [91] (u::rest)=false
def zko (u:Token):Prop:=∀ rest,isS [63] (u::rest)=false
def NoOp (r:Nat) (u:Token):Prop:=∀ k,r≤k→k≤4→u.Kind=4→opS k u.Text=none
theorem NoOp.mono {r r':Nat} {u:Token} (h:NoOp r u) (hr:r≤r'):NoOp r' u:=fun k h1 h2 h3=>h k (by omega) h2 h3
structure PE (l:List Node) (k:Int):Prop where
 ex:∀ n d u rest,FU l k≤n→NoOp 0 u→zaw u→zko u→zy (zu n d (tkI l k++u::rest) (OB l k)) k (u::rest) (OA l k)
 cv:∀ r:Nat,r≤5→(r:Int) < rkK l k→∀ n d u rest,FU l k≤n+1+r→NoOp r u→zaw u→zy (zo n r d (tkI l k++u::rest) (OB l k)) k (u::rest) (OA l k)
 lp:∀ r:Nat,r < 5→r≠2→(r:Int) < rkK l k→∀ n d u rest,FU l k≤n+1+r→NoOp (r+1) u→zaw u→∃ n',n≤n'+szN l k∧eqOr (zo n r d (tkI l k++u::rest) (OB l k)) (zF n' r d k (u::rest) (OA l k))
 un:6≤rkK l k→∀ n d u rest,FU l k≤n+7→zaw u→zy (unS n d (tkI l k++u::rest) (OB l k)) k (u::rest) (OA l k)
 po:7≤rkK l k→∀ n d X,FU l k≤n+8→X≠[]→∃ n',n≤n'+szN l k+1∧eqOr (zal n d (tkI l k++X) (OB l k)) (zP n' d k X (OA l k))
 sz:0 < szN l k
theorem zpn:NoOp 0 rpT:=fun k _ h4 _=>by
 match k,h4 with
 | 0,_=>decide
 | 1,_=>decide
 | 2,_=>decide
 | 3,_=>decide
 | 4,_=>decide
theorem zmL:zaw rpT:=fun _=>by simp[isS,rpT]
theorem zof:zko rpT:=fun _=>by simp[isS,rpT]
theorem zjR {l:List Node} {k least:Int} (h:rkK l k < least) (X:List Token):wrK l (tkI l) k least++X=lpT::(tkI l k++rpT::X):=by
 rw[wrK,if_pos h]
 simp
theorem zho {l:List Node} {k least:Int} (h:¬ rkK l k < least) (X:List Token):wrK l (tkI l) k least++X=tkI l k++X:=by rw[wrK,if_neg h]
section
variable {l:List Node} {k:Int} (p:PE l k)
include p
theorem zj5 (n d:Nat) (u:Token) (rest:List Token) (hn:FU l k+3≤n) (hu:zaw u):zy (unS n d (lpT::(tkI l k++rpT::u::rest)) (OB l k)) k (u::rest) (OA l k):=by
 obtain⟨m,rfl⟩:∃ m,n=m+3:=⟨n - 3,by omega⟩
 exact zwr (hu rest) (p.ex m (d+1) rpT (u::rest) (by omega) zpn zmL zof)
theorem zlR {least:Int} {r:Nat} (hr:r≤5) (hle:(r:Int) < least) (n d:Nat) (u:Token) (rest:List Token) (hn:FU l k+9≤n) (ho:NoOp r u) (hu:zaw u):zy (zo n r d (wrK l (tkI l) k least++u::rest) (OB l k)) k (u::rest) (OA l k):=by
 by_cases h:rkK l k < least
 ·rw[zjR h]
  exact zhj (5 - r) r (by omega) n (by omega) (zj5 p _ d u rest (by omega) hu) ho
 rw[zho h]
 exact p.cv r hr (by omega) n d u rest (by omega) ho hu
theorem w_un (n d:Nat) (u:Token) (rest:List Token) (hn:FU l k+9≤n) (hu:zaw u):zy (unS n d (wrK l (tkI l) k 6++u::rest) (OB l k)) k (u::rest) (OA l k):=by
 by_cases h:rkK l k < 6
 ·rw[zjR h]
  exact zj5 p n d u rest (by omega) hu
 rw[zho h]
 exact p.un (by omega) n d u rest (by omega) hu
theorem w_po (n d:Nat) (X:List Token) (hX:X≠[]) (hn:FU l k+9≤n):∃ n',n≤n'+szN l k+1∧eqOr (zal n d (wrK l (tkI l) k 7++X) (OB l k)) (zP n' d k X (OA l k)):=by
 by_cases h:rkK l k < 7
 ·rw[zjR h]
  obtain⟨m,rfl⟩:∃ m,n=m+2:=⟨n - 2,by omega⟩
  exact⟨m+1,by omega,zgJ (zmu (p.ex m (d+1) rpT X (by omega) zpn zmL zof))⟩
 rw[zho h]
 exact p.po (by omega) n d X (by omega) hX
theorem w_lp {r:Nat} (hr:r < 5) (h2:r≠2) (n d:Nat) (u:Token) (rest:List Token) (hn:FU l k+10≤n) (ho:NoOp (r+1) u) (hu:zaw u):∃ n',n≤n'+szN l k∧eqOr (zo n r d (wrK l (tkI l) k ((r:Int)+1)++u::rest) (OB l k)) (zF n' r d k (u::rest) (OA l k)):=by
 by_cases h:rkK l k < (r:Int)+1
 ·rw[zjR h]
  obtain⟨m,rfl⟩:∃ m,n=m+1:=⟨n - 1,by omega⟩
  have:=p.sz
  exact⟨m,by omega,zf4 hr (zhj (4 - r) (r+1) (by omega) m (by omega) (zj5 p _ d u rest (by omega) hu) ho)⟩
 rw[zho h]
 exact p.lp r hr h2 (by omega) n d u rest (by omega) ho hu
end
theorem zuE {l:List Node} {k:Int} {q:Nat} (hq:q≤5) (h:∀ n d u rest,FU l k≤n+1+q→NoOp q u→zaw u→zy (zo n q d (tkI l k++u::rest) (OB l k)) k (u::rest) (OA l k)):∀ (w r:Nat),r+w=q→∀ n d u rest,FU l k≤n+1+r→NoOp r u→zaw u→zy (zo n r d (tkI l k++u::rest) (OB l k)) k (u::rest) (OA l k)
 | 0,r,hr,n,d,u,rest,hn,ho,hu=>by
  obtain rfl:r=q:=by omega
  exact h n d u rest hn ho hu
 | w+1,r,hr,n,d,u,rest,hn,ho,hu=>by
  have hf:20≤FU l k:=by unfold FU;omega
  obtain⟨m,rfl⟩:∃ m,n=m+2:=⟨n - 2,by omega⟩
  have:=zuE hq h w (r+1) (by omega) (m+1) d u rest (by omega) (ho.mono (by omega)) hu
  rw[zo,if_neg (by omega)]
  rcases this with h | h
  ·rw[h]
   left
   simp only[PR.bind]
   exact zhe (ho r (Nat.le_refl _) (by omega)) _ _ _ _ _
  rw[h];exact .inr rfl
theorem zbD {n:Node} (h:zi n=true):plS n=true:=by
 simp only[zi,Bool.and_eq_true] at h
 exact h.2
theorem zdi {n m:Node} (h1:n.Kind=m.Kind) (h2:n.Num=m.Num) (h3:n.Text=m.Text) (h4:n.Parts=m.Parts) (h5:n.Kids=m.Kids):n=m:=by
 cases n;cases m;simp_all
theorem zd7 {n:Node} (h:zi n=true) (h4:n.Kind≤4):n.Kids=[]:=by
 have h1:=zaS h
 have:=h1.2.2 (by omega) (by omega)
 rw[show kdS n.Kind=0 by unfold kdS;repeat' first | omega | split] at this
 exact List.length_eq_zero_iff.1 (by omega)
theorem zyq {n:Node} (h:zi n=true) (k:n.Kind=1):n=⟨1,n.Num,[],[],[]⟩:=by
 have hp:=zbD h
 rw[plS,if_pos k] at hp
 simp only[Bool.and_eq_true,decide_eq_true_eq] at hp
 exact zdi k rfl hp.1.2 hp.2 (zd7 h (by omega))
theorem zyA {n:Node} (h:zi n=true) (k:n.Kind=2):n=⟨2,0,[],n.Parts,[]⟩:=by
 have hp:=zbD h
 rw[plS,if_neg (by omega),if_neg (by omega),if_neg (by omega),if_neg (by omega),if_pos k] at hp
 simp only[Bool.and_eq_true,decide_eq_true_eq] at hp
 exact zdi k hp.1.1 hp.1.2 rfl (zd7 h (by omega))
theorem zyu {n:Node} (h:zi n=true) (k:n.Kind=3):(n.Num=0∨n.Num=1)∧n=⟨3,n.Num,[],[],[]⟩:=by
 have hp:=zbD h
 rw[plS,if_neg (by omega),if_pos k] at hp
 simp only[Bool.and_eq_true,Bool.or_eq_true,decide_eq_true_eq] at hp
 exact⟨hp.1.1,zdi k rfl hp.1.2 hp.2 (zd7 h (by omega))⟩
theorem zqc {n:Node} (h:zi n=true) (k:n.Kind=4):zai n.Text=true∧zaO (Lib.cut n.Text [46]).1=false∧n=nd 4 n.Text []:=by
 have hp:=zbD h
 rw[plS,if_neg (by omega),if_neg (by omega),if_pos k] at hp
 simp only[Bool.and_eq_true,decide_eq_true_eq,Bool.not_eq_true'] at hp
 exact⟨hp.1.1.1,hp.1.2,zdi k hp.1.1.2 rfl hp.2 (zd7 h (by omega))⟩
theorem zpJ {n:Node} (h:zi n=true) (k:n.Kind=5):zak n.Text=true∧zaO n.Text=false∧n=nd 5 n.Text n.Kids:=by
 have hp:=zbD h
 rw[plS,if_neg (by omega),if_neg (by omega),if_neg (by omega),if_pos k] at hp
 simp only[Bool.and_eq_true,decide_eq_true_eq,Bool.not_eq_true'] at hp
 exact⟨hp.1.1.1,hp.1.2,zdi k hp.1.1.2 rfl hp.2 rfl⟩
theorem zhx {n:Node} (h:zi n=true) (k:6≤n.Kind):n=nd n.Kind [] n.Kids:=by
 have hp:=zbD h
 rw[plS,if_neg (by omega),if_neg (by omega),if_neg (by omega),if_neg (by omega),if_neg (by omega)] at hp
 simp only[Bool.and_eq_true,decide_eq_true_eq] at hp
 exact zdi rfl hp.1.1 hp.1.2 hp.2 rfl
theorem zsj {l:List Node} {e:Nat} (he:e < l.length):l.take (e+1)=l.take e++[l[e]]:=by
 rw[List.take_add_one,List.getElem?_eq_getElem he]
 rfl
def HdOk (s:List (List UInt8)) (T:List Token):Prop:=∃ t r,T=t::r∧(t.Kind≠4∨t.Text ∈ s)
theorem HdOk.isS {s:List (List UInt8)} {T:List Token} (h:HdOk s T) {x:List UInt8} (hx:x ∉ s) (X:List Token):isS x (T++X)=false:=by
 obtain⟨t,r,rfl,h⟩:=h
 rw[←Bool.not_eq_true]
 simp only[List.cons_append,M.isS,Bool.and_eq_true,decide_eq_true_eq]
 rintro ⟨h4,ht⟩
 rcases h with h | h
 ·exact h h4
 exact hx (ht ▸ h)
theorem HdOk.app {s:List (List UInt8)} {T:List Token} (h:HdOk s T) (X:List Token):HdOk s (T++X):=by
 obtain⟨t,r,rfl,h⟩:=h
 exact⟨t,r++X,rfl,h⟩
theorem HdOk.mono {s s':List (List UInt8)} {T:List Token} (h:HdOk s T) (hs:∀ x ∈ s,x ∈ s'):HdOk s' T:=by
 obtain⟨t,r,e,h⟩:=h
 exact⟨t,r,e,h.imp id (hs _)⟩
def hd7:List (List UInt8):=[[40],[91]]
def hd0:List (List UInt8):=[[40],[91],[33],[45]]
theorem zoS {l:List Node} (h:TR l):∀ (e:Nat) (he:e < l.length),HdOk hd0 (tkS l e)∧(7≤rkS l[e].Kind→HdOk hd7 (tkS l e)):=by
 intro e
 induction e using Nat.strongRecOn with
 | _ e ih =>
  intro he
  obtain⟨hok,hk,hlen⟩:=h.node e he
  have kd:=fun i (hi:i < l[e].Kids.length)=>zr5 h he (i:=i) hi
  have hki:∀ i (hi:i < l[e].Kids.length),HdOk hd0 (tkI l (kid l[e] i))∧(7≤rkK l (kid l[e] i)→HdOk hd7 (tkI l (kid l[e] i))):=fun i hi=>by
   obtain⟨v,a1,a2,a3,a4,a5,a6,a7⟩:=kd i hi
   have hlt:(kid l[e] i).toNat < l.length:=by omega
   have:=ih _ a3 hlt
   rw[List.getElem?_eq_getElem hlt] at a4
   have hv:=Option.some.inj a4
   rw[hv] at this
   rw[a5]
   exact this
  rw[zdS he hok hk]
  generalize l[e]=n at *
  have h1:=zaS hok
  have w0:0 < n.Kids.length→∀ least X,HdOk hd0 (wrK l (fun k=>tkS l k.toNat) (kid n 0) least++X):=fun hc least X=>by
   unfold wrK
   split
   ·exact HdOk.app ⟨lpT,_,rfl,.inr (by decide)⟩ X
   exact (hki 0 hc).1.app X
  rw[ndK]
  by_cases k1:n.Kind=1
  ·rw[if_pos k1];exact⟨⟨_,_,rfl,.inl (by simp[ze9])⟩,fun _=>⟨_,_,rfl,.inl (by simp[ze9])⟩⟩
  rw[if_neg k1]
  by_cases k2:n.Kind=2
  ·rw[if_pos k2];exact⟨⟨_,_,rfl,.inl (by simp[zeI])⟩,fun _=>⟨_,_,rfl,.inl (by simp[zeI])⟩⟩
  rw[if_neg k2]
  by_cases k3:n.Kind=3
  ·rw[if_pos k3];exact⟨⟨_,_,rfl,.inl (by simp[tn])⟩,fun _=>⟨_,_,rfl,.inl (by simp[tn])⟩⟩
  rw[if_neg k3]
  by_cases k4:n.Kind=4
  ·rw[if_pos k4];exact⟨⟨_,_,rfl,.inl (by simp[tn])⟩,fun _=>⟨_,_,rfl,.inl (by simp[tn])⟩⟩
  rw[if_neg k4]
  by_cases k5:n.Kind=5
  ·rw[if_pos k5];exact⟨⟨_,_,rfl,.inl (by simp[tn])⟩,fun _=>⟨_,_,rfl,.inl (by simp[tn])⟩⟩
  rw[if_neg k5]
  by_cases k6:n.Kind=6
  ·rw[if_pos k6];exact⟨⟨_,_,rfl,.inr (by decide)⟩,fun _=>⟨_,_,rfl,.inr (by decide)⟩⟩
  rw[if_neg k6]
  by_cases k7:n.Kind=7
  ·have hc:=kdk hok 7 2 k7 (by decide) (by decide) (by decide)
   rw[if_pos k7]
   refine⟨w0 (by omega) _ _,fun _=>?_⟩
   unfold wrK
   split
   ·exact HdOk.app ⟨lpT,_,rfl,.inr (by decide)⟩ _
   exact ((hki 0 (by omega)).2 (by omega)).app _
  rw[if_neg k7]
  by_cases k8:n.Kind=8
  ·rw[if_pos k8];exact⟨⟨_,_,rfl,.inr (by decide)⟩,fun hf=>by rw[k8] at hf;exact absurd hf (by decide)⟩
  rw[if_neg k8]
  by_cases k9:n.Kind=9
  ·rw[if_pos k9];exact⟨⟨_,_,rfl,.inr (by decide)⟩,fun hf=>by rw[k9] at hf;exact absurd hf (by decide)⟩
  rw[if_neg k9]
  by_cases k10:n.Kind=10
  ·have hc:=kdk hok 10 3 k10 (by decide) (by decide) (by decide)
   rw[if_pos k10];exact⟨w0 (by omega) _ _,fun hf=>by rw[k10] at hf;exact absurd hf (by decide)⟩
  rw[if_neg k10]
  have hc:=kd2 hok (by omega)
  refine⟨w0 (by omega) _ _,fun hf=>?_⟩
  obtain⟨r,r4,hr,_⟩:=zss (k:=n.Kind) (by omega) (by omega)
  omega
def CL (c:List UInt8):Prop:=c=[41]∨c=[93]
theorem zew {c:List UInt8} (h:c=[44]∨CL c):NoOp 0 (tg c)∧zaw (tg c)∧zko (tg c):=by
 refine⟨fun k _ h4 _=>?_,fun _=>?_,fun _=>?_⟩
 ·match k,h4 with
  | 0,_=>rcases h with rfl | rfl | rfl <;> decide
  | 1,_=>rcases h with rfl | rfl | rfl <;> decide
  | 2,_=>rcases h with rfl | rfl | rfl <;> decide
  | 3,_=>rcases h with rfl | rfl | rfl <;> decide
  | 4,_=>rcases h with rfl | rfl | rfl <;> decide
 ·rcases h with rfl | rfl | rfl <;> simp[isS,tg]
 rcases h with rfl | rfl | rfl <;> simp[isS,tg]
theorem za6 (c:List UInt8) (X:List Token):isS c (tg c::X)=true:=by simp[isS,tg]
theorem zkk {c s:List UInt8} (h:c≠s) (X:List Token):isS s (tg c::X)=false:=by simp[isS,tg,h]
theorem zd3 {l:List Node} {k:Int} {b:Nat} (h:zar l k.toNat=b):OB l k=l.take b∧zey l k=b:=by
 have:zey l k=b:=by unfold zey;omega
 exact⟨by rw[OB,this],this⟩
theorem zjG {l:List Node} {c:List UInt8} (hc:CL c) (d:Nat) (X:List Token):∀ (ks:List Int) (b e:Nat) (acc:List Int) (n:Nat),KC l b ks e→(∀ k ∈ ks,PE l k)→20*(e - b)+21≤n→zy (zap n d c acc (tcG (tkI l) ks++tg c::X) (l.take b)) (acc++ks) X (l.take e)
 | [],b,e,acc,n,hk,_,hn=>by
  obtain rfl:b=e:=hk
  obtain⟨m,rfl⟩:∃ m,n=m+1:=⟨n - 1,by omega⟩
  rw[tcG,List.nil_append,zap,zkk (by rcases hc with rfl | rfl <;> decide),if_neg (by decide),zac,za6,if_pos rfl]
  exact .inl (by simp)
 | k::ks,b,e,acc,n,⟨h0,hb,hr⟩,hp,hn=>by
  obtain⟨m,rfl⟩:∃ m,n=m+1:=⟨n - 1,by omega⟩
  have pk:=hp k (List.mem_cons_self ..)
  obtain⟨o1,o2⟩:=zd3 hb
  have hsz:=pk.sz
  have hle:k.toNat+1≤e:=by
   clear hn hsz pk hp o1 o2 hb
   induction ks generalizing k b acc with
   | nil=>exact Nat.le_of_eq hr
   | cons q ks ih =>
    obtain⟨q0,qb,qr⟩:=hr
    have:=ih (k:=q) (b:=k.toNat+1) (acc:=acc) q0 qr
    have hle:=zbw l q.toNat
    omega
  have hs:szN l k=k.toNat+1 - b:=by unfold szN;rw[o2]
  rw[tcG,List.cons_append,zap,za6,if_pos rfl,List.tail_cons,List.append_assoc]
  obtain⟨u,rest,hu,hX⟩:∃ u rest,(u=tg [44]∨u=tg c)∧tcG (tkI l) ks++tg c::X=u::rest:=by
   cases ks with
   | nil=>exact⟨tg c,X,.inr rfl,rfl⟩
   | cons q ks=>exact⟨tg [44],_,.inl rfl,rfl⟩
  have hno:NoOp 0 u∧zaw u∧zko u:=by
   rcases hu with rfl | rfl
   ·exact zew (.inl rfl)
   exact zew (.inr hc)
  have h1:=pk.ex m d u rest (by unfold FU;omega) hno.1 hno.2.1 hno.2.2
  rw[o1] at h1
  rw[hX]
  refine zcC h1 ?_
  have:=zjG hc d X ks (k.toNat+1) e (acc++[k]) m hr (fun q hq=>hp q (List.mem_cons_of_mem _ hq)) (by omega)
  rw[hX] at this
  rw[show acc++k::ks=(acc++[k])++ks by simp]
  exact this
theorem PE.of {l:List Node} {k:Int} {q:Nat} (hq:q≤5) (hmax:∀ r:Nat,r≤5→(r:Int) < rkK l k→r≤q) (sz:0 < szN l k)
  (cvq:∀ n d u rest,FU l k≤n+1+q→NoOp q u→zaw u→zy (zo n q d (tkI l k++u::rest) (OB l k)) k (u::rest) (OA l k))
  (lpq:q < 5→q≠2→∀ n d u rest,FU l k≤n+1+q→NoOp (q+1) u→zaw u→∃ n',n≤n'+szN l k∧eqOr (zo n q d (tkI l k++u::rest) (OB l k)) (zF n' q d k (u::rest) (OA l k)))
  (un:6≤rkK l k→∀ n d u rest,FU l k≤n+7→zaw u→zy (unS n d (tkI l k++u::rest) (OB l k)) k (u::rest) (OA l k))
  (po:7≤rkK l k→∀ n d X,FU l k≤n+8→X≠[]→∃ n',n≤n'+szN l k+1∧eqOr (zal n d (tkI l k++X) (OB l k)) (zP n' d k X (OA l k))):PE l k:=by
 have cl:∀ r,r≤q→∀ n d u rest,FU l k≤n+1+r→NoOp r u→zaw u→zy (zo n r d (tkI l k++u::rest) (OB l k)) k (u::rest) (OA l k):=fun r hr=>zuE hq cvq (q - r) r (by omega)
 have hf:20≤FU l k:=by unfold FU;omega
 refine⟨fun n d u rest hn ho hu hi=>?_,fun r hr hrk=>cl r (hmax r hr hrk),fun r hr h2 hrk n d u rest hn ho hu=>?_,un,po,sz⟩
 ·obtain⟨m,rfl⟩:∃ m,n=m+1:=⟨n - 1,by omega⟩
  rw[zu]
  refine zcC (cl 0 (by omega) m d u rest (by omega) ho hu) ?_
  rw[hi rest,if_neg (by decide)]
  exact .inl rfl
 have hrq:=hmax r (by omega) hrk
 by_cases e:r=q
 ·subst e
  exact lpq hr h2 n d u rest hn ho hu
 obtain⟨m,rfl⟩:∃ m,n=m+1:=⟨n - 1,by omega⟩
 exact⟨m,by omega,zf4 hr (cl (r+1) (by omega) m d u rest (by omega) ho hu)⟩
theorem PE.ofUn {l:List Node} {k:Int} (hr:rkK l k=6) (sz:0 < szN l k)
  (un:∀ n d u rest,FU l k≤n+7→zaw u→zy (unS n d (tkI l k++u::rest) (OB l k)) k (u::rest) (OA l k)):PE l k:=by
 refine PE.of (q:=5) (Nat.le_refl _) (fun r h _=>h) sz (fun n d u rest hn ho hu=>?_) (fun h=>by omega) (fun _=>un) (fun h=>by omega)
 have hf:20≤FU l k:=by unfold FU;omega
 obtain⟨m,rfl⟩:∃ m,n=m+1:=⟨n - 1,by omega⟩
 rw[zo,if_pos rfl]
 exact un m d u rest (by omega) hu
theorem PE.ofPo {l:List Node} {k:Int} (hd:HdOk hd7 (tkI l k)) (sz:0 < szN l k)
  (po:∀ n d X,FU l k≤n+8→X≠[]→∃ n',n≤n'+szN l k+1∧eqOr (zal n d (tkI l k++X) (OB l k)) (zP n' d k X (OA l k))):PE l k:=by
 have un:∀ n d u rest,FU l k≤n+7→zaw u→zy (unS n d (tkI l k++u::rest) (OB l k)) k (u::rest) (OA l k):=fun n d u rest hn hu=>by
  have hf:20*szN l k+20=FU l k:=rfl
  obtain⟨m,rfl⟩:∃ m,n=m+1:=⟨n - 1,by omega⟩
  rw[zoR (hd.isS (by decide) _) (hd.isS (by decide) _)]
  obtain⟨n',h1,h2⟩:=po m d (u::rest) (by omega) (by simp)
  obtain⟨m',rfl⟩:∃ m',n'=m'+1:=⟨n' - 1,by omega⟩
  exact h2.ok (.inl (zjB (hu rest)))
 refine PE.of (q:=5) (Nat.le_refl _) (fun r h _=>h) sz (fun n d u rest hn ho hu=>?_) (fun h=>by omega) (fun _=>un) (fun _=>po)
 have hf:20≤FU l k:=by unfold FU;omega
 obtain⟨m,rfl⟩:∃ m,n=m+1:=⟨n - 1,by omega⟩
 rw[zo,if_pos rfl]
 exact un m d u rest (by omega) hu
theorem PE.ofPrim {l:List Node} {k:Int} (hd:HdOk hd7 (tkI l k)) (sz:0 < szN l k)
  (pr:∀ n d X,FU l k≤n+9→X≠[]→zy (zq n d (tkI l k++X) (OB l k)) k X (OA l k)):PE l k :=
 PE.ofPo hd sz fun n d X hn hX=>by
  have hf:20≤FU l k:=by unfold FU;omega
  obtain⟨m,rfl⟩:∃ m,n=m+1:=⟨n - 1,by omega⟩
  exact⟨m,by omega,zgJ (pr m d X (by omega) hX)⟩
theorem zuD {l:List Node}:∀ {ks:List Int} {b e:Nat},KC l b ks e→b≤e
 | [],b,e,h=>Nat.le_of_eq h
 | k::ks,b,e,⟨h0,hb,hr⟩=>by
  have:=zuD hr
  have hle:=zbw l k.toNat
  omega
theorem zjm {l:List Node} {c:List UInt8} (hc:CL c) (d:Nat) (X:List Token) (ks:List Int) (b e n:Nat) (hk:KC l b ks e) (hp:∀ k ∈ ks,PE l k∧HdOk hd0 (tkI l k)) (hn:20*(e - b)+22≤n):zy (zW n d c (tcS (tkI l) ks++tg c::X) (l.take b)) ks X (l.take e):=by
 obtain⟨m,rfl⟩:∃ m,n=m+1:=⟨n - 1,by omega⟩
 cases ks with
 | nil =>
  obtain rfl:b=e:=hk
  rw[tcS,List.nil_append,zW,za6,if_pos rfl]
  exact .inl rfl
 | cons k ks =>
  obtain⟨h0,hb,hr⟩:=hk
  obtain⟨pk,hd⟩:=hp k (List.mem_cons_self ..)
  obtain⟨o1,o2⟩:=zd3 hb
  have hle:=zuD hr
  have hsz:=pk.sz
  have hs:szN l k=k.toNat+1 - b:=by unfold szN;rw[o2]
  rw[tcS,List.append_assoc,zW,hd.isS (by rcases hc with rfl | rfl <;> decide),if_neg (by decide)]
  obtain⟨u,rest,hu,hX⟩:∃ u rest,(u=tg [44]∨u=tg c)∧tcG (tkI l) ks++tg c::X=u::rest:=by
   cases ks with
   | nil=>exact⟨tg c,X,.inr rfl,rfl⟩
   | cons q ks=>exact⟨tg [44],_,.inl rfl,rfl⟩
  have hno:NoOp 0 u∧zaw u∧zko u:=by
   rcases hu with rfl | rfl
   ·exact zew (.inl rfl)
   exact zew (.inr hc)
  have h1:=pk.ex m d u rest (by unfold FU;omega) hno.1 hno.2.1 hno.2.2
  rw[o1] at h1
  rw[hX]
  refine zcC h1 ?_
  have:=zjG hc d X ks (k.toNat+1) e [k] m hr (fun q hq=>(hp q (List.mem_cons_of_mem _ hq)).1) (by omega)
  rw[hX] at this
  exact this
section
variable {l:List Node} {o:Int→List Token} {n:Node}
theorem nk1 (h:n.Kind=1):ndK l o n=[ze9 n.Num]:=by rw[ndK,if_pos h]
theorem nk2 (h:n.Kind=2):ndK l o n=[zeI n.Parts]:=by rw[ndK,if_neg (by omega),if_pos h]
theorem nk3 (h:n.Kind=3):ndK l o n=[tn (Lib.formatBool (decide (n.Num=1)))]:=by rw[ndK,if_neg (by omega),if_neg (by omega),if_pos h]
theorem nk4 (h:n.Kind=4):ndK l o n=zgT n.Text:=by rw[ndK,if_neg (by omega),if_neg (by omega),if_neg (by omega),if_pos h]
theorem nk5 (h:n.Kind=5):ndK l o n=tn n.Text::lpT::(tcS o n.Kids++[rpT]):=by rw[ndK,if_neg (by omega),if_neg (by omega),if_neg (by omega),if_neg (by omega),if_pos h]
theorem nk6 (h:n.Kind=6):ndK l o n=tg [91]::(tcS o n.Kids++[tg [93]]):=by rw[ndK,if_neg (by omega),if_neg (by omega),if_neg (by omega),if_neg (by omega),if_neg (by omega),if_pos h]
theorem nk7 (h:n.Kind=7):ndK l o n=wrK l o (kid n 0) 7++tg [91]::(o (kid n 1)++[tg [93]]):=by rw[ndK,if_neg (by omega),if_neg (by omega),if_neg (by omega),if_neg (by omega),if_neg (by omega),if_neg (by omega),if_pos h]
theorem nk8 (h:n.Kind=8):ndK l o n=tg [33]::wrK l o (kid n 0) 6:=by rw[ndK,if_neg (by omega),if_neg (by omega),if_neg (by omega),if_neg (by omega),if_neg (by omega),if_neg (by omega),if_neg (by omega),if_pos h]
theorem nk9 (h:n.Kind=9):ndK l o n=tg [45]::wrK l o (kid n 0) 6:=by rw[ndK,if_neg (by omega),if_neg (by omega),if_neg (by omega),if_neg (by omega),if_neg (by omega),if_neg (by omega),if_neg (by omega),if_neg (by omega),if_pos h]
theorem zin (h:n.Kind=10):ndK l o n=wrK l o (kid n 0) 1++tg [63]::(o (kid n 1)++tg [58]::o (kid n 2)):=by rw[ndK,if_neg (by omega),if_neg (by omega),if_neg (by omega),if_neg (by omega),if_neg (by omega),if_neg (by omega),if_neg (by omega),if_neg (by omega),if_neg (by omega),if_pos h]
theorem zg5 (h:10 < n.Kind):ndK l o n=wrK l o (kid n 0) (if rkS n.Kind=3 then rkS n.Kind+1 else rkS n.Kind)++tg (zaq n.Kind)::wrK l o (kid n 1) (rkS n.Kind+1):=by rw[ndK,if_neg (by omega),if_neg (by omega),if_neg (by omega),if_neg (by omega),if_neg (by omega),if_neg (by omega),if_neg (by omega),if_neg (by omega),if_neg (by omega),if_neg (by omega)]
end
theorem zsC (m d:Nat) (z:Int) (X:List Token) (out:List Node):zq (m+1) d (ze9 z::X) out=.ok (out.length:Nat) X (out++[⟨1,z,[],[],[]⟩]):=by simp[zq,ze9]
theorem zsX (m d:Nat) (p:List Part) (X:List Token) (out:List Node):zq (m+1) d (zeI p::X) out=.ok (out.length:Nat) X (out++[⟨2,0,[],p,[]⟩]):=by simp[zq,zeI]
theorem zr6 (m d:Nat) (X:List Token) (out:List Node):zq (m+1) d (tn [116,114,117,101]::X) out=.ok (out.length:Nat) X (out++[⟨3,1,[],[],[]⟩]):=by simp[zq,tn]
theorem zpM (m d:Nat) (X:List Token) (out:List Node):zq (m+1) d (tn [102,97,108,115,101]::X) out=.ok (out.length:Nat) X (out++[⟨3,0,[],[],[]⟩]):=by simp[zq,tn]
theorem zm8 {s:List UInt8} (h:zaO s=false):s≠[116,114,117,101]∧s≠[102,97,108,115,101]:=by
 simpa [zaO] using h
theorem zt4 (m d:Nat) {x y:List UInt8} (hx:zaO x=false) (X:List Token) (out:List Node):zq (m+1) d (tn x::tg [46]::tn y::X) out=.ok (out.length:Nat) X (out++[nd 4 ((x++[46])++y) []]):=by
 obtain⟨h1,h2⟩:=zm8 hx
 simp[zq,tn,tg,isS,h1,h2]
theorem zre (m d:Nat) {x:List UInt8} (hx:zaO x=false) {T X:List Token} {out o:List Node} {ks:List Int} (h:zy (zW m (d+1) [41] T out) ks X o):zy (zq (m+1) d (tn x::lpT::T) out) (o.length:Nat) X (o++[nd 5 x ks]):=by
 obtain⟨h1,h2⟩:=zm8 hx
 have e:zq (m+1) d (tn x::lpT::T) out=if 64≤d then .er 6 else (zW m (d+1) [41] T out).bind fun l ts out=>.ok ((out.length:Nat):Int) ts (out++[nd 5 x l]):=by
  simp[zq,tn,lpT,isS,zL,h1,h2]
 rw[e]
 by_cases hd:64≤d
 ·rw[if_pos hd];exact .inr rfl
 rw[if_neg hd]
 rcases h with h | h
 ·rw[h];exact .inl rfl
 rw[h];exact .inr rfl
theorem zrz (m d:Nat) {T X:List Token} {out o:List Node} {ks:List Int} (h:zy (zW m (d+1) [93] T out) ks X o):zy (zq (m+1) d (tg [91]::T) out) (o.length:Nat) X (o++[nd 6 [] ks]):=by
 have e:zq (m+1) d (tg [91]::T) out=if 64≤d then .er 6 else (zW m (d+1) [93] T out).bind fun l ts out=>.ok ((out.length:Nat):Int) ts (out++[nd 6 [] l]):=by
  simp[zq,tg,isS,zL]
 rw[e]
 by_cases hd:64≤d
 ·rw[if_pos hd];exact .inr rfl
 rw[if_neg hd]
 rcases h with h | h
 ·rw[h];exact .inl rfl
 rw[h];exact .inr rfl
theorem zsB {m d:Nat} {a b:Int} {T X:List Token} {out o:List Node} (h:zy (zu m (d+1) T out) b (tg [93]::X) o):eqOr (zP (m+1) d a (tg [91]::T) out) (zP m d (o.length:Nat) X (o++[nd 7 [] [a,b]])):=by
 have e:zP (m+1) d a (tg [91]::T) out=if 64≤d then .er 6 else (zu m (d+1) T out).bind fun b ts out=>zac [93] ts fun ts=>zP m d (out.length:Nat) ts (out++[nd 7 [] [a,b]]):=by
  rw[zP,za6,if_pos rfl,zL,za6,if_pos rfl,List.tail_cons]
 rw[e]
 by_cases hd:64≤d
 ·rw[if_pos hd];exact .inr rfl
 rw[if_neg hd]
 rcases h with h | h
 ·rw[h]
  left
  simp only[PR.bind,zac]
  rw[za6,if_pos rfl,List.tail_cons]
 rw[h];exact .inr rfl
theorem zwP {m d:Nat} {a:Int} {T X:List Token} {out o:List Node} (h:zy (unS m (d+1) T out) a X o):zy (unS (m+1) d (tg [45]::T) out) (o.length:Nat) X (o++[nd 9 [] [a]]):=by
 rw[unS,za6,if_pos rfl,zL,za6,if_pos rfl,List.tail_cons]
 by_cases hd:64≤d
 ·rw[if_pos hd];exact .inr rfl
 rw[if_neg hd]
 rcases h with h | h
 ·rw[h];exact .inl rfl
 rw[h];exact .inr rfl
theorem zxE {m d:Nat} {a:Int} {T X:List Token} {out o:List Node} (h:zy (unS m (d+1) T out) a X o):zy (unS (m+1) d (tg [33]::T) out) (o.length:Nat) X (o++[nd 8 [] [a]]):=by
 rw[unS,zkk (by decide),if_neg (by decide),za6,if_pos rfl,zL,za6,if_pos rfl,List.tail_cons]
 by_cases hd:64≤d
 ·rw[if_pos hd];exact .inr rfl
 rw[if_neg hd]
 rcases h with h | h
 ·rw[h];exact .inl rfl
 rw[h];exact .inr rfl
def WF (l:List Node):Prop:=∀ (e:Nat) (n:Node),l[e]?=some n→zi n=true∧∀ k ∈ n.Kids,0≤k∧k < (e:Int)
theorem WF.nil:WF []:=fun e n h=>by simp at h
theorem WF.snoc {l:List Node} (h:WF l) {n:Node} (hn:zi n=true) (hk:∀ k ∈ n.Kids,0≤k∧k < (l.length:Int)):WF (l++[n]):=fun e m he=>by
 by_cases h1:e < l.length
 ·rw[List.getElem?_append_left h1] at he
  exact h e m he
 rw[List.getElem?_append_right (by omega)] at he
 by_cases h2:e=l.length
 ·subst h2
  simp only[Nat.sub_self,List.getElem?_cons_zero,Option.some.injEq] at he
  subst he
  exact⟨hn,hk⟩
 rw[List.getElem?_eq_none (by simp;omega)] at he
 cases he
theorem WF.tk {l:List Node} (h:WF l) {k:Int} (h0:0≤k) (h1:k < (l.length:Int)):∃ n,l[k.toNat]?=some n∧zi n=true∧(∀ q ∈ n.Kids,0≤q∧q < k)∧tkI l k=ndK l (tkI l) n∧rkK l k=rkS n.Kind:=by
 have hlt:k.toNat < l.length:=by omega
 obtain⟨a,b⟩:=h k.toNat _ (List.getElem?_eq_getElem hlt)
 refine⟨l[k.toNat],List.getElem?_eq_getElem hlt,a,fun q hq=>⟨(b q hq).1,by have:=(b q hq).2;omega⟩,?_,?_⟩
 ·have:=zdS hlt a b
  exact this
 unfold rkK
 rw[List.getElem?_eq_getElem hlt]
theorem zei {l z:List Node} {k:Int} (h0:0≤k) (h1:k < (l.length:Int)):rkK (l++z) k=rkK l k:=by
 unfold rkK
 rw[List.getElem?_append_left (by omega)]
theorem zsd {l l':List Node} {o o':Int→List Token} {k least:Int} (h1:rkK l k=rkK l' k) (h2:o k=o' k):wrK l o k least=wrK l' o' k least:=by rw[wrK,wrK,h1,h2]
theorem zrk {l l':List Node} {o o':Int→List Token} {n:Node} (hn:zi n=true) (hr:∀ k ∈ n.Kids,rkK l k=rkK l' k) (ho:∀ k ∈ n.Kids,o k=o' k):ndK l o n=ndK l' o' n:=by
 have w:∀ (i:Nat) least,i < n.Kids.length→wrK l o (kid n i) least=wrK l' o' (kid n i) least:=fun i least hi=>zsd (hr _ (zl hi)) (ho _ (zl hi))
 have hkl:=zaS hn
 by_cases k1:n.Kind=1
 ·rw[nk1 k1,nk1 k1]
 by_cases k2:n.Kind=2
 ·rw[nk2 k2,nk2 k2]
 by_cases k3:n.Kind=3
 ·rw[nk3 k3,nk3 k3]
 by_cases k4:n.Kind=4
 ·rw[nk4 k4,nk4 k4]
 by_cases k5:n.Kind=5
 ·rw[nk5 k5,nk5 k5,zdP ho]
 by_cases k6:n.Kind=6
 ·rw[nk6 k6,nk6 k6,zdP ho]
 by_cases k7:n.Kind=7
 ·have hl:=kdk hn 7 2 k7 (by decide) (by decide) (by decide)
  rw[nk7 k7,nk7 k7,w 0 _ (by omega),ho _ (zl (i:=1) (by omega))]
 by_cases k8:n.Kind=8
 ·have hl:=kdk hn 8 1 k8 (by decide) (by decide) (by decide)
  rw[nk8 k8,nk8 k8,w 0 _ (by omega)]
 by_cases k9:n.Kind=9
 ·have hl:=kdk hn 9 1 k9 (by decide) (by decide) (by decide)
  rw[nk9 k9,nk9 k9,w 0 _ (by omega)]
 by_cases k10:n.Kind=10
 ·have hl:=kdk hn 10 3 k10 (by decide) (by decide) (by decide)
  rw[zin k10,zin k10,w 0 _ (by omega),ho _ (zl (i:=1) (by omega)),ho _ (zl (i:=2) (by omega))]
 have hl:=kd2 hn (by omega)
 rw[zg5 (by omega),zg5 (by omega),w 0 _ (by omega),w 1 _ (by omega)]
theorem zvz {l:List Node} (h:WF l) (z:List Node):∀ (e:Nat),e < l.length→tkI (l++z) (e:Int)=tkI l (e:Int):=by
 intro e
 induction e using Nat.strongRecOn with
 | _ e ih =>
  intro he
  obtain⟨a,b⟩:=h e _ (List.getElem?_eq_getElem he)
  have h1:tkI l (e:Int)=ndK l (tkI l) l[e]:=zdS he a b
  have hg:(l++z)[e]'(by rw[List.length_append];omega)=l[e]:=List.getElem_append_left he
  have h2:tkI (l++z) (e:Int)=ndK (l++z) (tkI (l++z)) l[e]:=by
   have:=zdS (l:=l++z) (e:=e) (by rw[List.length_append];omega) (by rw[hg];exact a) (by rw[hg];exact b)
   rw[hg] at this
   exact this
  rw[h1,h2]
  refine zrk a (fun k hk=>?_) (fun k hk=>?_)
  ·have:=b k hk
   exact zei this.1 (by omega)
  have:=b k hk
  have:=ih k.toNat (by omega) (by omega)
  rwa [show ((k.toNat:Nat):Int)=k by omega] at this
theorem ziP {l:List Node} (h:WF l) (z:List Node) {k:Int} (h0:0≤k) (h1:k < (l.length:Int)):tkI (l++z) k=tkI l k:=by
 have:=zvz h z k.toNat (by omega)
 rwa [show ((k.toNat:Nat):Int)=k by omega] at this
theorem zwj {l:List Node} (h:WF l) (z:List Node) {k:Int} (h0:0≤k) (h1:k < (l.length:Int)) (least:Int):wrK (l++z) (tkI (l++z)) k least=wrK l (tkI l) k least:=zsd (zei h0 h1) (ziP h z h0 h1)
theorem zvg {l:List Node} (h:WF l) (z:List Node) {ks:List Int} (hk:∀ k ∈ ks,0≤k∧k < (l.length:Int)):tcS (tkI (l++z)) ks=tcS (tkI l) ks:=zdP fun k hk'=>ziP h z (hk k hk').1 (hk k hk').2
theorem zwD {l:List Node} (h:WF l) {n:Node} (hn:zi n=true) (hk:∀ k ∈ n.Kids,0≤k∧k < (l.length:Int)):tkI (l++[n]) ((l.length:Nat):Int)=ndK l (tkI l) n∧rkK (l++[n]) ((l.length:Nat):Int)=rkS n.Kind:=by
 have hw:=h.snoc hn hk
 obtain⟨m,h1,h2,h3,h4,h5⟩:=hw.tk (k:=((l.length:Nat):Int)) (by omega) (by rw[List.length_append];simp;omega)
 rw[Int.toNat_natCast,List.getElem?_append_right (Nat.le_refl _),Nat.sub_self] at h1
 obtain rfl:n=m:=by simpa using h1
 refine⟨?_,h5⟩
 rw[h4]
 exact zrk hn (fun k hk'=>zei (hk k hk').1 (hk k hk').2) (fun k hk'=>ziP h _ (hk k hk').1 (hk k hk').2)
def zaF (o:Int→Nat):List Int→Nat
 | []=>0
 | k::r=>max (o k) (zaF o r)
theorem zf2 {o o':Int→Nat}:∀ {ks:List Int},(∀ k ∈ ks,o k=o' k)→zaF o ks=zaF o' ks
 | [],_=>rfl
 | k::r,h=>by rw[zaF,zaF,h k (List.mem_cons_self ..),zf2 fun q hq=>h q (List.mem_cons_of_mem _ hq)]
theorem zl9 (o:Int→Nat):∀ (a b:List Int),zaF o (a++b)=max (zaF o a) (zaF o b)
 | [],b=>by simp[zaF]
 | k::a,b=>by rw[List.cons_append,zaF,zaF,zl9 o a b];omega
def wrE (l:List Node) (o:Int→Nat) (k least:Int):Nat:=if rkK l k < least then 1+o k else o k
def ndE (l:List Node) (o:Int→Nat) (n:Node):Nat :=
 if n.Kind≤4 then 0
 else if n.Kind≤6 then 1+zaF o n.Kids
 else if n.Kind=7 then max (wrE l o (kid n 0) 7) (1+o (kid n 1))
 else if n.Kind≤9 then 1+wrE l o (kid n 0) 6
 else if n.Kind=10 then max (wrE l o (kid n 0) 1) (1+max (o (kid n 1)) (o (kid n 2)))
 else max (wrE l o (kid n 0) (if rkS n.Kind=3 then rkS n.Kind+1 else rkS n.Kind)) (wrE l o (kid n 1) (rkS n.Kind+1))
section
variable {l:List Node} {o:Int→Nat} {n:Node}
theorem ne4 (h:n.Kind≤4):ndE l o n=0:=by rw[ndE,if_pos h]
theorem ne5 (h:n.Kind=5∨n.Kind=6):ndE l o n=1+zaF o n.Kids:=by rw[ndE,if_neg (by omega),if_pos (by omega)]
theorem ne7 (h:n.Kind=7):ndE l o n=max (wrE l o (kid n 0) 7) (1+o (kid n 1)):=by rw[ndE,if_neg (by omega),if_neg (by omega),if_pos h]
theorem ne8 (h:n.Kind=8∨n.Kind=9):ndE l o n=1+wrE l o (kid n 0) 6:=by rw[ndE,if_neg (by omega),if_neg (by omega),if_neg (by omega),if_pos (by omega)]
theorem zth (h:n.Kind=10):ndE l o n=max (wrE l o (kid n 0) 1) (1+max (o (kid n 1)) (o (kid n 2))):=by rw[ndE,if_neg (by omega),if_neg (by omega),if_neg (by omega),if_neg (by omega),if_pos h]
theorem ztj (h:10 < n.Kind):ndE l o n=max (wrE l o (kid n 0) (if rkS n.Kind=3 then rkS n.Kind+1 else rkS n.Kind)) (wrE l o (kid n 1) (rkS n.Kind+1)):=by rw[ndE,if_neg (by omega),if_neg (by omega),if_neg (by omega),if_neg (by omega),if_neg (by omega)]
end
def env (l:List Node) (rs:List Nat) (e:Nat):Nat:=match l[e]? with
 | some n=>ndE l (fun k=>(rs[k.toNat]?).getD 0) n
 | none=>0
def ens (l:List Node):Nat→List Nat
 | 0=>[]
 | n+1=>ens l n++[env l (ens l n) n]
theorem zhK (l:List Node):∀ n,(ens l n).length=n
 | 0=>rfl
 | n+1=>by rw[ens,List.length_append,zhK l n];rfl
def enI (l:List Node) (k:Int):Nat:=env l (ens l k.toNat) k.toNat
theorem zob (l:List Node):∀ {n j:Nat},j < n→(ens l n)[j]?=some (enI l (j:Int))
 | 0,j,h=>absurd h (Nat.not_lt_zero _)
 | n+1,j,h=>by
  rw[ens]
  by_cases hj:j < n
  ·rw[List.getElem?_append_left (by rw[zhK];exact hj)]
   exact zob l hj
  obtain rfl:j=n:=by omega
  rw[List.getElem?_append_right (by rw[zhK];omega),zhK,Nat.sub_self]
  unfold enI
  rw[Int.toNat_natCast]
  rfl
theorem zr3 {l l':List Node} {o o':Int→Nat} {k least:Int} (h1:rkK l k=rkK l' k) (h2:o k=o' k):wrE l o k least=wrE l' o' k least:=by rw[wrE,wrE,h1,h2]
theorem zmn {l l':List Node} {o o':Int→Nat} {n:Node} (hn:zi n=true) (hr:∀ k ∈ n.Kids,rkK l k=rkK l' k) (ho:∀ k ∈ n.Kids,o k=o' k):ndE l o n=ndE l' o' n:=by
 have w:∀ (i:Nat) least,i < n.Kids.length→wrE l o (kid n i) least=wrE l' o' (kid n i) least:=fun i least hi=>zr3 (hr _ (zl hi)) (ho _ (zl hi))
 have hkl:=zaS hn
 by_cases k4:n.Kind≤4
 ·rw[ne4 k4,ne4 k4]
 by_cases k5:n.Kind=5∨n.Kind=6
 ·rw[ne5 k5,ne5 k5,zf2 ho]
 by_cases k7:n.Kind=7
 ·have hl:=kdk hn 7 2 k7 (by decide) (by decide) (by decide)
  rw[ne7 k7,ne7 k7,w 0 _ (by omega),ho _ (zl (i:=1) (by omega))]
 by_cases k8:n.Kind=8
 ·have hl:=kdk hn 8 1 k8 (by decide) (by decide) (by decide)
  rw[ne8 (.inl k8),ne8 (.inl k8),w 0 _ (by omega)]
 by_cases k9:n.Kind=9
 ·have hl:=kdk hn 9 1 k9 (by decide) (by decide) (by decide)
  rw[ne8 (.inr k9),ne8 (.inr k9),w 0 _ (by omega)]
 by_cases k10:n.Kind=10
 ·have hl:=kdk hn 10 3 k10 (by decide) (by decide) (by decide)
  rw[zth k10,zth k10,w 0 _ (by omega),ho _ (zl (i:=1) (by omega)),ho _ (zl (i:=2) (by omega))]
 have hl:=kd2 hn (by omega)
 rw[ztj (by omega),ztj (by omega),w 0 _ (by omega),w 1 _ (by omega)]
theorem zme {l:List Node} {e:Nat} (he:e < l.length) (hn:zi l[e]=true) (hk:∀ k ∈ l[e].Kids,0≤k∧k < (e:Int)):enI l (e:Int)=ndE l (enI l) l[e]:=by
 unfold enI env
 rw[Int.toNat_natCast,List.getElem?_eq_getElem he]
 refine zmn hn (fun _ _=>rfl) fun k hk'=>?_
 have:=hk k hk'
 have h2:=zob l (show k.toNat < e by omega)
 rw[h2,show ((k.toNat:Nat):Int)=k by omega]
 rfl
theorem zvJ {l:List Node} (h:WF l) (z:List Node):∀ (e:Nat),e < l.length→enI (l++z) (e:Int)=enI l (e:Int):=by
 intro e
 induction e using Nat.strongRecOn with
 | _ e ih =>
  intro he
  obtain⟨a,b⟩:=h e _ (List.getElem?_eq_getElem he)
  have h1:=zme he a b
  have hg:(l++z)[e]'(by rw[List.length_append];omega)=l[e]:=List.getElem_append_left he
  have h2:enI (l++z) (e:Int)=ndE (l++z) (enI (l++z)) l[e]:=by
   have:=zme (l:=l++z) (e:=e) (by rw[List.length_append];omega) (by rw[hg];exact a) (by rw[hg];exact b)
   rw[hg] at this
   exact this
  rw[h1,h2]
  refine zmn a (fun k hk=>?_) (fun k hk=>?_)
  ·have:=b k hk
   exact zei this.1 (by omega)
  have:=b k hk
  have:=ih k.toNat (by omega) (by omega)
  rwa [show ((k.toNat:Nat):Int)=k by omega] at this
theorem zix {l:List Node} (h:WF l) (z:List Node) {k:Int} (h0:0≤k) (h1:k < (l.length:Int)):enI (l++z) k=enI l k:=by
 have:=zvJ h z k.toNat (by omega)
 rwa [show ((k.toNat:Nat):Int)=k by omega] at this
theorem zvS {l:List Node} (h:WF l) (z:List Node) {k:Int} (h0:0≤k) (h1:k < (l.length:Int)) (least:Int):wrE (l++z) (enI (l++z)) k least=wrE l (enI l) k least:=zr3 (zei h0 h1) (zix h z h0 h1)
theorem zqN {l:List Node} (h:WF l) (z:List Node) {ks:List Int} (hk:∀ k ∈ ks,0≤k∧k < (l.length:Int)):zaF (enI (l++z)) ks=zaF (enI l) ks:=zf2 fun k hk'=>zix h z (hk k hk').1 (hk k hk').2
theorem zwE {l:List Node} (h:WF l) {n:Node} (hn:zi n=true) (hk:∀ k ∈ n.Kids,0≤k∧k < (l.length:Int)):enI (l++[n]) ((l.length:Nat):Int)=ndE l (enI l) n:=by
 have hlt:l.length < (l++[n]).length:=by rw[List.length_append];simp
 have hg:(l++[n])[l.length]=n:=by simp
 have:=zme (l:=l++[n]) hlt (by rw[hg];exact hn) (by rw[hg];exact hk)
 rw[hg] at this
 rw[this]
 exact zmn hn (fun k hk'=>zei (hk k hk').1 (hk k hk').2) (fun k hk'=>zix h _ (hk k hk').1 (hk k hk').2)
end Go.Proofs.YtfbcnpbhhooapaaGreatDoor.M
namespace Go.Proofs.YtfbcnpbhhooapaaGreatDoor.M
open Go Classical
def Dg (l:List UInt8):Prop:=∀ c ∈ l,48≤c.toNat∧c.toNat≤57
theorem zsH (c:UInt8):inC [3] c=true↔48≤c.toNat∧c.toNat≤57:=by
 unfold inC zC
 simp only[List.mem_singleton,decide_eq_true_eq]
 repeat' split
 all_goals (first | omega | (constructor <;> intro h <;> first | omega | exact absurd h (by decide)))
theorem zuU (t:List UInt8):Dg (t.takeWhile (inC [3])):=fun c hc=>(zsH c).1 (List.all_eq_true.1 List.all_takeWhile c hc)
def zaj (acc:Nat) (l:List UInt8):Nat:=l.foldl (fun a c=>a*10+(c.toNat - 48)) acc
theorem za1 (acc:Nat) (c:UInt8) (r:List UInt8):zaj acc (c::r)=zaj (acc*10+(c.toNat - 48)) r:=by
 unfold zaj
 rw[List.foldl_cons]
theorem zdh (acc:Nat):zaj acc []=acc:=by
 unfold zaj
 rw[List.foldl_nil]
theorem zoH:∀ (l:List UInt8) (acc:Nat),acc≤zaj acc l
 | [],acc=>by rw[zdh];exact Nat.le_refl _
 | c::r,acc=>by
  rw[za1]
  have:=zoH r (acc*10+(c.toNat - 48))
  omega
theorem zrL (l:List UInt8):∀ (acc:Nat),Dg l→acc < 18446744073709551616→Lib.parseUint10 acc l=if zaj acc l < 18446744073709551616 then .ok (zaj acc l) else .range:=by
 induction l with
 | nil=>intro acc _ h;rw[zdh,if_pos h,Lib.parseUint10]
 | cons c r ih =>
  intro acc hd h
  have hc:=hd c (by simp)
  have hge:=zoH r (acc*10+(c.toNat - 48))
  rw[za1]
  unfold Lib.parseUint10
  rw[if_pos hc]
  by_cases h1:1844674407370955162≤acc
  ·rw[if_pos h1,if_neg (by omega)]
  rw[if_neg h1]
  by_cases h2:18446744073709551616≤acc*10+(c.toNat - 48)
  ·rw[if_pos h2,if_neg (by omega)]
  rw[if_neg h2]
  exact ih _ (fun x hx=>hd x (by simp[hx])) (by omega)
theorem zte {l:List UInt8} (hd:Dg l) (hne:l≠[]):Lib.atoiAll l=if zaj 0 l < 9223372036854775808 then .ok (zaj 0 l:Int) else .range:=by
 cases l with
 | nil=>exact absurd rfl hne
 | cons c r =>
  have hc:=hd c (by simp)
  rw[Lib.atoiAll_plain c r (by omega) (by omega),Lib.parseMag,if_neg (by simp),zrL _ 0 hd (by omega)]
  by_cases h:zaj 0 (c::r) < 18446744073709551616
  ·rw[if_pos h]
   by_cases h2:zaj 0 (c::r) < 9223372036854775808
   ·simp only[Lib.signless,if_pos h2,if_neg (show ¬ 9223372036854775808≤zaj 0 (c::r) by omega)]
   simp only[Lib.signless,if_neg h2,if_pos (show 9223372036854775808≤zaj 0 (c::r) by omega)]
  rw[if_neg h,if_neg (show ¬ zaj 0 (c::r) < 9223372036854775808 by omega)]
  rfl
theorem ztu {a d:Nat} (ha:0 < a) (hd:d < 10):Lib.decDigits (a*10+d)=Lib.decDigits a++[UInt8.ofNat (48+d)]:=by
 rw[Lib.decDigits,dif_neg (by omega),show (a*10+d) / 10=a by omega,show (a*10+d) % 10=d by omega]
theorem zpb:∀ (l:List UInt8) (acc:Nat),0 < acc→Dg l→Lib.decDigits (zaj acc l)=Lib.decDigits acc++l
 | [],acc,_,_=>by rw[zdh,List.append_nil]
 | c::r,acc,h,hd=>by
  have hc:=hd c (by simp)
  rw[za1,zpb r _ (by omega) (fun x hx=>hd x (by simp[hx])),ztu h (by omega)]
  have:UInt8.ofNat (48+(c.toNat - 48))=c:=by
   rw[show 48+(c.toNat - 48)=c.toNat by omega];simp
  rw[this]
  simp
theorem zk7 {c:UInt8} {r:List UInt8} (hd:Dg (c::r)) (h:c.toNat≠48):Lib.decDigits (zaj 0 (c::r))=c::r:=by
 have hc:=hd c (by simp)
 rw[za1,zpb r _ (by omega) (fun x hx=>hd x (by simp[hx])),Nat.zero_mul,Nat.zero_add,Lib.decDigits_one (by omega)]
 have:UInt8.ofNat (48+(c.toNat - 48))=c:=by
  rw[show 48+(c.toNat - 48)=c.toNat by omega];simp
 rw[this]
 rfl
theorem zox:∀ (r:List UInt8),Dg r→r≠[]→(Lib.decDigits (zaj 0 r)).length≤r.length
 | [],_,h=>absurd rfl h
 | c::r,hd,_=>by
  by_cases h:c.toNat=48
  ·rw[za1,h]
   cases r with
   | nil=>simp[zdh,Lib.decDigits_one (show 0 < 10 by omega)]
   | cons b r =>
    have:=zox (b::r) (fun x hx=>hd x (by simp at hx ⊢;exact .inr hx)) (by simp)
    simp only[Nat.zero_mul,Nat.sub_self,Nat.add_zero,List.length_cons] at this ⊢
    omega
  rw[zk7 hd h]
  exact Nat.le_refl _
def zlM (d:List UInt8):Prop:=zaj 0 d < 9223372036854775808∧(d.head?=some 48→d.length=1)
instance (d:List UInt8):Decidable (zlM d):=by unfold zlM;infer_instance
theorem zmg {d:List UInt8} (hd:Dg d) (hne:d≠[]):Lib.itoa ((zaj 0 d:Nat):Int)=d↔(d.head?=some 48→d.length=1):=by
 have e:Lib.itoa ((zaj 0 d:Nat):Int)=Lib.decDigits (zaj 0 d):=by
  unfold Lib.itoa
  rw[if_neg (by omega)]
  rfl
 rw[e]
 cases d with
 | nil=>exact absurd rfl hne
 | cons c r =>
  by_cases h:c.toNat=48
  ·have hc:c=48:=UInt8.toNat_inj.1 h
   subst hc
   simp only[List.head?_cons,List.length_cons,forall_const]
   cases r with
   | nil =>
    have h0:zaj 0 [48]=0:=by rw[za1,zdh];rfl
    rw[h0,Lib.decDigits_one (show 0 < 10 by omega)]
    simp
   | cons b r =>
    have:=zox (b::r) (fun x hx=>hd x (by simp at hx ⊢;exact .inr hx)) (by simp)
    constructor
    ·intro h2
     have h3:zaj 0 (48::b::r)=zaj 0 (b::r):=by rw[za1];rfl
     rw[←h3,h2] at this
     simp at this
     omega
    intro h2
    simp at h2
  rw[zk7 hd h]
  simp only[List.head?_cons,Option.some.injEq,true_iff]
  intro e
  exact absurd (by rw[e];rfl) h
def zdU (t:List UInt8):Option (Token × Nat):=if zlM (t.takeWhile (inC [3])) then some (Token.mk 1 [] (zaj 0 (t.takeWhile (inC [3])):Nat) [] 0,(t.takeWhile (inC [3])).length) else none
theorem zwZ {l:List UInt8} (hd:Dg l) (hne:l≠[]) (hl:l.length≤1000000):∃ v:Int,zdp l v (decide (¬ zaj 0 l < 9223372036854775808))∧(zaj 0 l < 9223372036854775808→v=(zaj 0 l:Nat)):=by
 have ha:=zte hd hne
 by_cases h:zaj 0 l < 9223372036854775808
 ·rw[if_pos h] at ha
  exact⟨_,fun S=>zbH zeX S (by simp only[zhO,ha];rw[if_pos (by omega)];simp[h]),fun _=>rfl⟩
 rw[if_neg h] at ha
 exact⟨Lib.atoiSat l,fun S=>zbH zeX S (by simp only[zhO,ha];rw[if_pos (by omega)];simp[h]),fun e=>absurd e h⟩
theorem zts (t:LTokens) (g:Nat) (z:Bool) (h:TI t.text) (hne:t.text.left.takeWhile (inC [3])≠[]):match zdU t.text.left with
  | none=>∃ (x:Token) (t':LTokens),t'.out=t.out∧zgB t g z x false t' g z
  | some (x,n)=>zgB t g z x true (LTokens.mk (zt t.text n) t.out) g z:=by
 have h1:=h.1
 have hd:=zuU t.text.left
 have hw:=ziZ h [3] (by decide)
 have hl:=zde [3] t.text.left
 unfold zA at hw hl
 unfold zdU
 generalize t.text.left.takeWhile (inC [3])=d at *
 obtain⟨v,ha,hv⟩:=zwZ hd hne (by omega)
 by_cases hb:zaj 0 d < 9223372036854775808
 ·obtain rfl:=hv hb
  have hi:=zmg hd hne
  by_cases h0:d.head?=some 48→d.length=1
  ·rw[if_pos ⟨hb,h0⟩]
   apply zgC
   refine⟨_,_,hw,_,_,ha,fun e=>?_,fun _=>⟨_,zmz _ ⟨by omega,by omega⟩,rfl,?_,rfl,rfl,rfl⟩⟩
   ·simp[hb] at e
   exact decide_eq_true (hi.2 h0)
  rw[if_neg (fun e=>h0 e.2)]
  refine⟨_,LTokens.mk (zt t.text d.length) t.out,rfl,zgC _ _ _ _ _ _ _ _ ⟨_,_,hw,_,_,ha,fun e=>?_,fun _=>⟨_,zmz _ ⟨by omega,by omega⟩,rfl,?_,rfl,rfl,rfl⟩⟩⟩
  ·simp[hb] at e
  exact decide_eq_false (fun e=>h0 (hi.1 e))
 rw[if_neg (fun e=>hb e.1)]
 exact⟨_,LTokens.mk (zt t.text d.length) t.out,rfl,zgC _ _ _ _ _ _ _ _ ⟨_,_,hw,_,_,ha,fun _=>⟨rfl,rfl,rfl,rfl,rfl⟩,fun e=>absurd (decide_eq_true hb) e⟩⟩
def atT (x:Token) (i:Int):Token:=⟨x.Kind,x.Text,x.Num,x.Parts,i⟩
theorem zs5 (t:LTokens) (g:Nat) (z:Bool) (h:TI t.text) {u:List UInt8} (e:t.text.left=34::u) {r:Option (List Part × Nat)} (hq:Qx u [] [] r):match r with
  | none=>∃ t':LTokens,t'.out=t.out∧zg0 t g z (Token.mk 0 [] 0 [] 0) false t' g z
  | some (ps,n)=>n+1≤t.text.left.length∧zg0 t g z (Token.mk 2 [] 0 ps 0) true (LTokens.mk (zt t.text (n+1)) t.out) g z:=by
 have hlen:1≤t.text.left.length:=by rw[e];simp
 have h1:=h.1
 have hu:u.length≤6000:=by rw[e] at h1;simp at h1;omega
 have hl:(zt t.text 1).left=u:=by simp only[zt,e];rfl
 have key:=zlx hq 0 (LTokens.mk (zt t.text 1) t.out) g z hl (h.take hlen) (.inl rfl) (by simp;omega) (by simp;omega)
 cases r with
 | none =>
  obtain⟨t',ho,hA⟩:=key
  exact⟨t',ho,zls _ _ _ _ _ _ _ _ ⟨_,_,zb4 h hlen,hA⟩⟩
 | some q =>
  obtain⟨ps,n⟩:=q
  obtain⟨hn,hA⟩:=key
  simp only[zcj] at hA
  simp only at hn
  rw[hl] at hn
  refine⟨by rw[e];simp;omega,zls _ _ _ _ _ _ _ _ ⟨_,_,zb4 h hlen,?_⟩⟩
  rw[Nat.add_comm n 1]
  exact hA
def TOut (s:List UInt8) (i k:Nat) (l:List Part) (b:List UInt8):Option (List Part × Nat)→Prop
 | none=>zcd s i k 0 [] 0 0 [] 0 l b (Token.mk 0 [] 0 [] 0) 0
 | some (ps,n)=>zcd s i k 0 [] 0 0 [] 0 l b (Token.mk 2 [] 0 ps i) ((k:Int)+n - i)
theorem TOut.next {s:List UInt8} {i k:Nat} {l l2:List Part} {b b2:List UInt8} {m:Nat} (step:∀ ra rb,zcd s i ((k+m:Nat):Int) 0 [] 0 0 [] 0 l2 b2 ra rb→zcd s i k 0 [] 0 0 [] 0 l b ra rb) {r:Option (List Part × Nat)} (h:TOut s i (k+m) l2 b2 r):TOut s i k l b (r.map fun q=>(q.1,q.2+m)):=by
 cases r with
 | none=>exact step _ _ h
 | some q =>
  obtain⟨ps,n⟩:=q
  have:=step _ _ h
  simp only[TOut,Option.map_some]
  rw[show (k:Int)+((n+m:Nat):Int) - (i:Int)=((k+m:Nat):Int)+(n:Int) - (i:Int) by omega]
  exact this
theorem zpI (c:UInt8):zC c=5↔c=35:=by
 have e:c=35↔c.toNat=35:=by rw[←UInt8.toNat_inj];rfl
 rw[e]
 unfold zC
 repeat' split
 all_goals (first | omega | (constructor <;> intro h <;> first | omega | exact absurd h (by decide)))
inductive Tok:List UInt8→Option (Token × Nat)→Prop
 | name (c:UInt8) (u:List UInt8) (h:zC c=2):Tok (c::u) (if ((c::u).takeWhile (inC [2,3])).length≤24 then some (Token.mk 3 ((c::u).takeWhile (inC [2,3])) 0 [] 0,zA [2,3] (c::u)) else none)
 | num (c:UInt8) (u:List UInt8) (h:zC c=3):Tok (c::u) (zdU (c::u))
 | text (u:List UInt8) (r:Option (List Part × Nat)) (h:Qx u [] [] r):Tok (34::u) (r.map fun q=>(Token.mk 2 [] 0 q.1 0,q.2+1))
 | sign (c:UInt8) (u:List UInt8) (h2:zC c≠2) (h3:zC c≠3) (h4:zC c≠4):Tok (c::u) (if zp (c::u)=[] then none else some (Token.mk 4 (zp (c::u)) 0 [] 0,(zp (c::u)).length))
theorem zsq {t:List UInt8} {l:List Part} {b:List UInt8} {r:Option (List Part × Nat)} (h:Qx t l b r):∀ q,r=some q→0 < q.2∧q.2≤t.length:=by
 induction h with
 | nil | low | esc0 | escbad | refbad=>intro q hq;cases hq
 | shut t l b=>intro q hq;obtain rfl:=Option.some.inj hq;simp
 | esc x y t l b r hx _ ih =>
  intro q hq
  obtain⟨q0,h0,rfl⟩:=Option.map_eq_some_iff.1 hq
  have:=ih q0 h0
  simp only[List.length_cons]
  omega
 | ref t l b r hr _ ih =>
  intro q hq
  obtain⟨q0,h0,rfl⟩:=Option.map_eq_some_iff.1 hq
  have:=ih q0 h0
  have h1:=ziz hr
  simp only[List.length_cons,List.length_drop] at this ⊢
  omega
 | plain c t l b r c1 c2 c3 c4 _ ih =>
  intro q hq
  obtain⟨q0,h0,rfl⟩:=Option.map_eq_some_iff.1 hq
  have:=ih q0 h0
  simp only[List.length_cons]
  omega
theorem znB {cl:List Int} {c:UInt8} (u:List UInt8) (h:inC cl c=true):0 < zA cl (c::u):=by
 unfold zA
 rw[List.takeWhile_cons,if_pos h]
 simp
theorem zlm (c:UInt8) (u:List UInt8):(zp (c::u)).length≤(c::u).length:=by
 cases u with
 | nil=>simp only[zp,zbg];split <;> simp
 | cons b u=>simp only[zp,zb6,zbg];repeat' split <;> simp
theorem zkf {t:List UInt8} {r:Option (Token × Nat)} (h:Tok t r):∀ q,r=some q→0 < q.2∧q.2≤t.length:=by
 cases h with
 | name c u h =>
  intro q hq
  split at hq
  ·obtain rfl:=Option.some.inj hq
   exact⟨znB u ((zht c).2 (.inl h)),zde _ _⟩
  cases hq
 | num c u h =>
  intro q hq
  unfold zdU at hq
  split at hq
  ·obtain rfl:=Option.some.inj hq
   exact⟨znB (cl:=[3]) u (by unfold inC;simp[h]),zde [3] _⟩
  cases hq
 | text u r h =>
  intro q hq
  obtain⟨q0,h0,rfl⟩:=Option.map_eq_some_iff.1 hq
  have:=zsq h q0 h0
  simp only[List.length_cons]
  omega
 | sign c u h2 h3 h4 =>
  intro q hq
  split at hq
  ·cases hq
  rename_i hne
  obtain rfl:=Option.some.inj hq
  exact⟨List.length_pos_iff.2 hne,zlm c u⟩
theorem zfl (p:UInt8→Bool):∀ l:List UInt8,(l.takeWhile p).takeWhile p=l.takeWhile p
 | []=>rfl
 | c::l=>by
  rw[List.takeWhile_cons]
  split
  ·rename_i h
   rw[List.takeWhile_cons,if_pos h,zfl p l]
  rfl
theorem zrw {c:UInt8} (u:List UInt8) (h:zC c=2):zak ((c::u).takeWhile (inC [2,3]))=decide (((c::u).takeWhile (inC [2,3])).length≤24):=by
 have hc:inC [2,3] c=true:=(zht c).2 (.inl h)
 have hi:=zfl (inC [2,3]) (c::u)
 rw[List.takeWhile_cons,if_pos hc] at hi ⊢
 unfold zak
 refine decide_eq_decide.2 ⟨fun e=>e.2.1,fun e=>⟨by simp,e,?_⟩⟩
 rw[zf6,if_pos h,zA,hi]
theorem zxy {c:UInt8} (u:List UInt8) (h:zC c=3):(c::u).takeWhile (inC [3])≠[]:=by
 rw[List.takeWhile_cons,if_pos (by unfold inC;simp[h])]
 simp
def zuk (t:LTokens) (g:Nat) (z:Bool):Option (Token × Nat)→Prop
 | none=>∃ t',zlO t g z false t' g z
 | some (x,n)=>zlO t g z true (LTokens.mk (zt t.text n) (t.out++[atT x t.text.pos])) g z
theorem zrm (t:LTokens) (g:Nat) (z:Bool) (h:TI t.text) (ho:t.out.length≤6000) {r:Option (Token × Nat)} {l:List UInt8} (hl:t.text.left=l) (hk:Tok l r):zuk t g z r:=by
 have big:bigRow (t.out.length+1) 64:=⟨by omega,by omega,by decide⟩
 cases hk with
 | name c u hc =>
  have hn:=zxA t g z h
  rw[hl,zrw u hc] at hn
  have hd:t.text.left[0]?=some c:=by rw[hl];rfl
  by_cases hlen:((c::u).takeWhile (inC [2,3])).length≤24
  rotate_left
  ·rw[if_neg hlen]
   rw[decide_eq_false hlen] at hn
   exact⟨_,zb0 _ _ _ _ _ _ _ ⟨c,hd,_,zam c,fun _=>⟨_,_,_,_,_,hn,big,rfl,rfl,rfl,rfl⟩,fun e=>absurd hc e⟩⟩
  rw[if_pos hlen]
  rw[decide_eq_true hlen] at hn
  exact zb0 _ _ _ _ _ _ _ ⟨c,hd,_,zam c,fun _=>⟨_,_,_,_,_,hn,big,rfl,rfl,rfl,rfl⟩,fun e=>absurd hc e⟩
 | num c u hc =>
  have hd:t.text.left[0]?=some c:=by rw[hl];rfl
  have hn:=zts t g z h (by rw[hl];exact zxy u hc)
  rw[hl] at hn
  have h2:zC c≠2:=by omega
  revert hn
  generalize zdU (c::u)=q
  intro hn
  rcases q with _ | ⟨x,n⟩
  ·obtain⟨x,t',ho',hn⟩:=hn
   exact⟨_,zb0 _ _ _ _ _ _ _ ⟨c,hd,_,zam c,fun e=>absurd e h2,fun _=>⟨fun _=>⟨_,_,_,_,_,hn,by rw[ho'];exact big,rfl,rfl,rfl,rfl⟩,fun e=>absurd hc e⟩⟩⟩
  exact zb0 _ _ _ _ _ _ _ ⟨c,hd,_,zam c,fun e=>absurd e h2,fun _=>⟨fun _=>⟨_,_,_,_,_,hn,big,rfl,rfl,rfl,rfl⟩,fun e=>absurd hc e⟩⟩
 | text u q hq =>
  have hd:t.text.left[0]?=some 34:=by rw[hl];rfl
  have hn:=zs5 t g z h hl hq
  have h4:zC 34=4:=(ze7 34).2 rfl
  cases q with
  | none =>
   obtain⟨t',ho',hn⟩:=hn
   exact⟨_,zb0 _ _ _ _ _ _ _ ⟨34,hd,_,zam 34,fun e=>by omega,fun _=>⟨fun e=>by omega,fun _=>⟨fun _=>⟨_,_,_,_,_,hn,by rw[ho'];exact big,rfl,rfl,rfl,rfl⟩,fun e=>absurd h4 e⟩⟩⟩⟩
  | some p =>
   obtain⟨ps,n⟩:=p
   exact zb0 _ _ _ _ _ _ _ ⟨34,hd,_,zam 34,fun e=>by omega,fun _=>⟨fun e=>by omega,fun _=>⟨fun _=>⟨_,_,_,_,_,hn.2,big,rfl,rfl,rfl,rfl⟩,fun e=>absurd h4 e⟩⟩⟩
 | sign c u h2 h3 h4 =>
  have hd:t.text.left[0]?=some c:=by rw[hl];rfl
  have hn:=zxq t g z h (by rw[hl];simp)
  rw[hl] at hn
  by_cases he:zp (c::u)=[]
  ·rw[if_pos he]
   rw[if_pos he,if_pos he,decide_eq_false (fun e=>e he)] at hn
   exact⟨_,zb0 _ _ _ _ _ _ _ ⟨c,hd,_,zam c,fun e=>absurd e h2,fun _=>⟨fun e=>absurd e h3,fun _=>⟨fun e=>absurd e h4,fun _=>⟨_,_,_,_,_,hn,big,rfl,rfl,rfl,rfl⟩⟩⟩⟩⟩
  rw[if_neg he]
  rw[if_neg he,if_neg he,decide_eq_true he] at hn
  exact zb0 _ _ _ _ _ _ _ ⟨c,hd,_,zam c,fun e=>absurd e h2,fun _=>⟨fun e=>absurd e h3,fun _=>⟨fun e=>absurd e h4,fun _=>⟨_,_,_,_,_,hn,big,rfl,rfl,rfl,rfl⟩⟩⟩⟩
inductive Lx:List UInt8→Int→Option (List Token)→Prop
 | nil (p:Int):Lx [] p (some [Token.mk 0 [] 0 [] p])
 | gap (c:UInt8) (t:List UInt8) (p:Int) (r:Option (List Token)) (hc:zC c=1) (h:Lx t (p+1) r):Lx (c::t) p r
 | remark (t:List UInt8) (p:Int) (r:Option (List Token)) (h:Lx (t.dropWhile (· != 10)) (p+((t.takeWhile (· != 10)).length+1:Nat)) r):Lx (35::t) p r
 | bad (c:UInt8) (t:List UInt8) (p:Int) (h1:zC c≠1) (h2:zC c≠5) (h:Tok (c::t) none):Lx (c::t) p none
 | tok (c:UInt8) (t:List UInt8) (p:Int) (x:Token) (n:Nat) (r:Option (List Token)) (h1:zC c≠1) (h2:zC c≠5) (h:Tok (c::t) (some (x,n))) (h':Lx ((c::t).drop n) (p+n) r):Lx (c::t) p (r.map (atT x p::·))
def zg2:List UInt8→Prop
 | []=>True
 | c::_=>zC c≠1∧zC c≠5
theorem zlU (t:LText):zt t 0=t:=by
 unfold zt
 simp
theorem zdY (p:UInt8→Bool):∀ l:List UInt8,(∀ x ∈ l,p x=true)→l.takeWhile p=l
 | [],_=>rfl
 | c::l,h=>by rw[List.takeWhile_cons,if_pos (h c (by simp)),zdY p l (fun x hx=>h x (by simp[hx]))]
theorem zsQ (s:List UInt8):(Lib.cut s [10]).1=s.takeWhile (· != 10):=by
 rw[ztH]
 split
 ·rfl
 rename_i h
 exact (zdY _ _ fun x hx=>by
  simp only[bne_iff_ne,ne_eq]
  intro e
  exact h (e ▸ hx)).symm
theorem zeR (t:List UInt8):(35::t:List UInt8).drop ((t.takeWhile (· != 10)).length+1)=t.dropWhile (· != 10):=by
 rw[List.drop_succ_cons]
 exact zau _ _
theorem zmh (t:List UInt8):(t.takeWhile (· != 10)).length≤t.length:=by
 have:=congrArg List.length (List.takeWhile_append_dropWhile (p:=(· != (10:UInt8))) (l:=t))
 rw[List.length_append] at this
 omega
theorem zya {c:UInt8} (t:List UInt8) (h:zC c=1):zA [1] (c::t)=zA [1] t+1:=by
 unfold zA
 rw[List.takeWhile_cons,if_pos (by unfold inC;simp[h])]
 rfl
theorem zp4 {c:UInt8} (t:List UInt8) (h:zC c≠1):zA [1] (c::t)=0:=by
 unfold zA
 rw[List.takeWhile_cons,if_neg (by unfold inC;simp[h])]
 rfl
theorem zn2 {l:List UInt8} {p:Int} {r:Option (List Token)} (h:Lx l p r):∀ (t:LTokens) (g:Nat) (z:Bool),t.text.left=l→t.text.pos=p→TI t.text →
  ∃ n,n≤l.length∧zfC (LTokens.mk (zt t.text (zA [1] l)) t.out) g z (LTokens.mk (zt t.text n) t.out) g z∧Lx (l.drop n) (p+n) r∧zg2 (l.drop n):=by
 induction h with
 | nil p =>
  intro t g z e ep hT
  refine⟨0,Nat.le_refl _,?_,by simpa using Lx.nil p,trivial⟩
  apply zcp
  refine⟨_,zbp _ _,fun h=>?_,fun _=>⟨rfl,rfl,rfl⟩⟩
  rw[show zA [1] []=0 from rfl,zlU,e] at h
  exact absurd h (by decide)
 | gap c t' p r hc _ ih =>
  intro t g z e ep hT
  have h1:1≤t.text.left.length:=by rw[e];simp
  obtain⟨n,hn,hA,hL,hs⟩:=ih (LTokens.mk (zt t.text 1) t.out) g z (by simp only[zt,e];rfl) (by simp only[zt,ep];rfl) (hT.take h1)
  simp only[zcj] at hA
  refine⟨n+1,by simp;omega,?_,?_,by rw[List.drop_succ_cons];exact hs⟩
  ·rw[zya t' hc,Nat.add_comm (zA [1] t') 1,Nat.add_comm n 1]
   exact hA
  rw[List.drop_succ_cons,show p+((n+1:Nat):Int)=p+1+(n:Int) by omega]
  exact hL
 | remark t' p r _ ih =>
  intro t g z e ep hT
  have hll:=zmh t'
  have h1:(t'.takeWhile (· != 10)).length+1≤t.text.left.length:=by rw[e];simp;omega
  have hT1:=hT.1
  obtain⟨n,hn,hA,hL,hs⟩:=ih (LTokens.mk (zt t.text ((t'.takeWhile (· != 10)).length+1)) t.out) g z (by simp only[zt,e];exact zeR t') (by simp only[zt,ep]) (hT.take h1)
  simp only[zcj] at hA
  have hdl:(t'.dropWhile (· != 10)).length=t'.length - (t'.takeWhile (· != 10)).length:=by rw[←zau,List.length_drop]
  have hsp:zA [1] (35::t')=0:=zp4 t' (by decide)
  refine⟨(t'.takeWhile (· != 10)).length+1+n,by simp;omega,?_,?_,?_⟩
  ·rw[hsp,zlU]
   apply zcp
   have hcut:(Lib.cut t.text.left [10]).1=35::t'.takeWhile (· != 10):=by
    rw[zsQ,e,List.takeWhile_cons,if_pos (by decide)]
   have hR:=zjs t.text.left [10] (by omega)
   have hTk:=zb4 hT (n:=(35::t'.takeWhile (· != 10)).length) (by simpa using h1)
   have hT2:TI (zt t.text (35::t'.takeWhile (· != 10)).length):=hT.take (by simpa using h1)
   have hW:=ziZ hT2 [1] (by decide)
   rw[hcut] at hR
   refine⟨_,zbp _ _,fun _=>⟨_,_,_,hR,_,_,hTk,_,_,hW,?_⟩,fun h=>absurd (by rw[e];rfl) h⟩
   have hle:(zt t.text (35::t'.takeWhile (· != 10)).length).left=t'.dropWhile (· != 10):=by
    simp only[zt,e,List.length_cons];exact zeR t'
   rw[hle,zcj]
   exact hA
  ·rw[←List.drop_drop,zeR,show p+(((t'.takeWhile (· != 10)).length+1+n:Nat):Int)=p+(((t'.takeWhile (· != 10)).length+1:Nat):Int)+(n:Int) by omega]
   exact hL
  rw[←List.drop_drop,zeR]
  exact hs
 | bad c t' p c1 c2 hk =>
  intro t g z e ep hT
  refine⟨0,Nat.zero_le _,?_,by simpa using Lx.bad c t' p c1 c2 hk,⟨c1,c2⟩⟩
  rw[zp4 t' c1]
  apply zcp
  refine⟨_,zbp _ _,fun h=>?_,fun _=>⟨rfl,rfl,rfl⟩⟩
  rw[zlU,e] at h
  exfalso
  apply c2
  rw[zpI]
  symm
  simpa [Lib.hasPrefix] using h
 | tok c t' p x n r c1 c2 hk h' _ =>
  intro t g z e ep hT
  refine⟨0,Nat.zero_le _,?_,by simpa using Lx.tok c t' p x n r c1 c2 hk h',⟨c1,c2⟩⟩
  rw[zp4 t' c1]
  apply zcp
  refine⟨_,zbp _ _,fun h=>?_,fun _=>⟨rfl,rfl,rfl⟩⟩
  rw[zlU,e] at h
  exfalso
  apply c2
  rw[zpI]
  symm
  simpa [Lib.hasPrefix] using h
theorem zq8 {l:List UInt8} {p:Int} {r:Option (List Token)} (h:Lx l p r) (t:LTokens) (g:Nat) (z:Bool) (e:t.text.left=l) (ep:t.text.pos=p) (hT:TI t.text) :
  ∃ n,n≤l.length∧zlV t g z (LTokens.mk (zt t.text n) t.out) g z∧Lx (l.drop n) (p+n) r∧zg2 (l.drop n):=by
 obtain⟨n,hn,hA,hL,hs⟩:=zn2 h t g z e ep hT
 refine⟨n,hn,ztF _ _ _ _ _ _ ⟨_,_,ziZ hT [1] (by decide),?_⟩,hL,hs⟩
 rw[e]
 exact hA
def lexL:Option (List Token)→List Token
 | none=>[]
 | some l=>l
def lexE:Option (List Token)→Int
 | none=>5
 | some _=>0
def zms (out:List Token):Option (List Token)→List Token
 | none=>[]
 | some l=>out++l
theorem zpO:∀ (m:Nat) (l:List UInt8) (p:Int) (r:Option (List Token)),Lx l p r→zg2 l→l.length≤m→∀ (out:List Token) (g:Nat) (z:Bool),TI ⟨l,p⟩→(out.length:Int)≤p→zga l p out g z (zms out r) (lexE r):=by
 intro m
 induction m with
 | zero =>
  intro l p r h hs hm out g z hT ho
  have:l=[]:=List.length_eq_zero_iff.1 (by omega)
  subst this
  cases h
  have h3:=hT.2.2
  simp only[List.length_nil] at h3
  apply zcs
  exact⟨fun _=>⟨⟨by omega,by omega,by decide⟩,rfl,rfl⟩,fun h=>absurd rfl h⟩
 | succ m ih =>
  intro l p r h hs hm out g z hT ho
  have h3:=hT.2.2
  cases h with
  | nil =>
   simp only[List.length_nil] at h3
   apply zcs
   exact⟨fun _=>⟨⟨by omega,by omega,by decide⟩,rfl,rfl⟩,fun h=>absurd rfl h⟩
  | gap c t _ _ hc h=>exact absurd hc hs.1
  | remark t _ _ h=>exact absurd ((zpI 35).2 rfl) hs.2
  | bad c t _ c1 c2 hk =>
   have hl0:=hT.1
   simp only at hl0 h3
   obtain⟨t',hn⟩:=zrm (LTokens.mk ⟨c::t,p⟩ out) g z hT (by simp only;omega) rfl hk
   apply zcs
   exact⟨fun h=>by simp at h,fun _=>⟨_,_,_,_,hn,fun h=>(by cases h),fun _=>⟨rfl,rfl⟩⟩⟩
  | tok c t _ x n r' c1 c2 hk h' =>
   have hl0:=hT.1
   simp only at hl0 h3
   have hn:=zrm (LTokens.mk ⟨c::t,p⟩ out) g z hT (by simp only;omega) rfl hk
   obtain⟨n0,n1⟩:=zkf hk _ rfl
   simp only at n0 n1
   simp only[zuk] at hn
   have hT2:TI (zt ⟨c::t,p⟩ n):=hT.take n1
   obtain⟨k,hk1,hS,hL,hst⟩:=zq8 h' (LTokens.mk (zt ⟨c::t,p⟩ n) (out++[atT x p])) g z rfl rfl hT2
   have hT3:TI (zt (zt ⟨c::t,p⟩ n) k):=hT2.take hk1
   have hlen:((c::t).drop n).length=(c::t).length - n:=List.length_drop
   have hlen2:(((c::t).drop n).drop k).length=(c::t).length - n - k:=by rw[List.length_drop,hlen]
   have key:=ih _ _ _ hL hst (by omega) (out++[atT x p]) g z hT3 (by simp;omega)
   apply zcs
   refine⟨fun h=>by simp at h,fun _=>⟨_,_,_,_,hn,fun _=>⟨_,_,_,hS,?_⟩,fun h=>absurd rfl h⟩⟩
   cases r' with
   | none=>exact key
   | some l' =>
    have e:zms (out++[atT x p]) (some l')=zms out ((some l').map (atT x p::·)):=by simp[zms]
    rw[e] at key
    exact key
theorem zt8 {s:List UInt8} (hs:s.length≤6000) {r:Option (List Token)} (h:Lx s 0 r):zcP s (lexL r) (lexE r):=by
 have hT:TI ⟨s,0⟩:=⟨hs,Int.le_refl _,by simp only;omega⟩
 obtain⟨k,hk1,hS,hL,hst⟩:=zq8 h (LTokens.mk ⟨s,0⟩ []) 0 false rfl rfl hT
 have hT2:TI (zt ⟨s,0⟩ k):=hT.take hk1
 have key:=zpO _ _ _ _ hL hst (Nat.le_refl _) [] 0 false hT2 (by simp)
 have e:zms [] r=lexL r:=by cases r <;> rfl
 rw[e] at key
 apply zs0
 exact⟨fun h=>by omega,fun _=>⟨_,_,_,hS,key⟩⟩
def zka:Nat→List UInt8→List Part→List UInt8→Option (List Part × Nat)
 | 0,_,_,_=>none
 | _+1,[],_,_=>none
 | n+1,c::t,l,b =>
  if c=34 then some (zG l b,1)
  else if c.toNat < 32 then none
  else if c=92 then
   match t with
   | []=>none
   | x::t=>match zes x with | none=>none | some y=>(zka n t l (b++[y])).map fun q=>(q.1,q.2+2)
  else if c=36∧t.head?=some 123 then
   if (zD t.tail).2=true then (zka n (t.tail.drop ((zD t.tail).1.length+1)) (zG l b++[Part.mk true (zD t.tail).1]) []).map fun q=>(q.1,q.2+(3+(zD t.tail).1.length)) else none
  else (zka n t l (b++[c])).map fun q=>(q.1,q.2+1)
theorem zhA:∀ (n:Nat) (t:List UInt8) (l:List Part) (b:List UInt8),t.length < n→Qx t l b (zka n t l b)
 | 0,t,l,b,h=>by omega
 | n+1,[],l,b,h=>.nil l b
 | n+1,c::t,l,b,h=>by
  simp only[List.length_cons] at h
  unfold zka
  split
  ·rename_i c1;subst c1;exact .shut t l b
  rename_i c1
  split
  ·rename_i c2;exact .low c t l b c1 c2
  rename_i c2
  split
  ·rename_i c3
   subst c3
   cases t with
   | nil=>exact .esc0 l b
   | cons x t =>
    dsimp only
    cases hx:zes x with
    | none=>exact .escbad x t l b hx
    | some y=>exact .esc x y t l b _ hx (zhA n t l (b++[y]) (by simp only[List.length_cons] at h;omega))
  rename_i c3
  split
  ·rename_i c4
   obtain⟨rfl,h5⟩:=c4
   cases t with
   | nil=>cases h5
   | cons x t =>
    obtain rfl:x=123:=Option.some.inj h5
    simp only[List.length_cons] at h
    split
    ·rename_i hx;exact .ref t l b _ hx (zhA n _ _ _ (by simp;omega))
    rename_i hx;exact .refbad t l b (by simpa using hx)
  rename_i c4
  exact .plain c t l b _ c1 c2 c3 (fun e e2=>c4 ⟨e,e2⟩) (zhA n t l (b++[c]) (by omega))
def zsM:List UInt8→Option (Token × Nat)
 | []=>none
 | c::u =>
  if zC c=2 then (if ((c::u).takeWhile (inC [2,3])).length≤24 then some (Token.mk 3 ((c::u).takeWhile (inC [2,3])) 0 [] 0,zA [2,3] (c::u)) else none)
  else if zC c=3 then zdU (c::u)
  else if zC c=4 then (zka (u.length+1) u [] []).map fun q=>(Token.mk 2 [] 0 q.1 0,q.2+1)
  else if zp (c::u)=[] then none else some (Token.mk 4 (zp (c::u)) 0 [] 0,(zp (c::u)).length)
theorem zvT (c:UInt8) (u:List UInt8):Tok (c::u) (zsM (c::u)):=by
 simp only[zsM]
 split
 ·rename_i h;exact .name c u h
 rename_i h2
 split
 ·rename_i h;exact .num c u h
 rename_i h3
 split
 ·rename_i h4
  obtain rfl:=(ze7 c).1 h4
  exact .text u _ (zhA _ u [] [] (by omega))
 rename_i h4;exact .sign c u h2 h3 h4
def zkh:Nat→List UInt8→Int→Option (List Token)
 | 0,_,_=>none
 | _+1,[],p=>some [Token.mk 0 [] 0 [] p]
 | n+1,c::t,p =>
  if zC c=1 then zkh n t (p+1)
  else if zC c=5 then zkh n (t.dropWhile (· != 10)) (p+((t.takeWhile (· != 10)).length+1:Nat))
  else match zsM (c::t) with
   | none=>none
   | some (x,k)=>(zkh n ((c::t).drop k) (p+k)).map (atT x p::·)
theorem zhz:∀ (n:Nat) (t:List UInt8) (p:Int),t.length < n→Lx t p (zkh n t p)
 | 0,t,p,h=>by omega
 | n+1,[],p,h=>.nil p
 | n+1,c::t,p,h=>by
  simp only[List.length_cons] at h
  have ht:=zvT c t
  unfold zkh
  split
  ·rename_i c1;exact .gap c t p _ c1 (zhz n t _ (by omega))
  rename_i c1
  split
  ·rename_i c2
   obtain rfl:=(zpI c).1 c2
   have:=zmh t
   have hdl:(t.dropWhile (· != 10)).length=t.length - (t.takeWhile (· != 10)).length:=by rw[←zau,List.length_drop]
   exact .remark t p _ (zhz n _ _ (by omega))
  rename_i c2
  split
  ·rename_i hk
   rw[hk] at ht
   exact .bad c t p c1 c2 ht
  rename_i x k hk
  rw[hk] at ht
  have:=zkf ht _ rfl
  exact .tok c t p x k _ c1 c2 ht (zhz n _ _ (by simp only[List.length_drop,List.length_cons] at this ⊢;omega))
def zj1 (s:List UInt8):Option (List Token):=zkh (s.length+1) s 0
theorem zhU (s:List UInt8):Lx s 0 (zj1 s):=zhz _ s 0 (Nat.lt_succ_self _)
theorem zk0 {l:List Part} {b:List UInt8} {p:Part} (h:p ∈ zG l b):p ∈ l∨p.Text=b:=by
 unfold zG at h
 rcases List.mem_append.1 h with h | h
 ·exact .inl h
 split at h
 ·cases h
 simp at h
 subst h
 exact .inr rfl
theorem zsY {t:List UInt8} {l:List Part} {b:List UInt8} {r:Option (List Part × Nat)} (h:Qx t l b r):∀ q,r=some q→∀ p ∈ q.1,p ∈ l∨p.Text.length≤b.length+t.length:=by
 induction h with
 | nil | low | esc0 | escbad | refbad=>intro q hq;cases hq
 | shut t l b =>
  intro q hq p hp
  obtain rfl:=Option.some.inj hq
  rcases zk0 hp with h | h
  ·exact .inl h
  right;rw[h];omega
 | esc x y t l b r hx _ ih =>
  intro q hq p hp
  obtain⟨q0,h0,rfl⟩:=Option.map_eq_some_iff.1 hq
  rcases ih q0 h0 p hp with h | h
  ·exact .inl h
  right;simp at h ⊢;omega
 | ref t l b r hr _ ih =>
  intro q hq p hp
  obtain⟨q0,h0,rfl⟩:=Option.map_eq_some_iff.1 hq
  have h1:=ziz hr
  rcases ih q0 h0 p hp with h | h
  ·rcases List.mem_append.1 h with h | h
   ·rcases zk0 h with h | h
    ·exact .inl h
    right;rw[h];omega
   simp at h
   subst h
   right
   simp
   omega
  right;simp at h ⊢;omega
 | plain c t l b r c1 c2 c3 c4 _ ih =>
  intro q hq p hp
  obtain⟨q0,h0,rfl⟩:=Option.map_eq_some_iff.1 hq
  rcases ih q0 h0 p hp with h | h
  ·exact .inl h
  right;simp at h ⊢;omega
theorem zqv (p:UInt8→Bool) (l:List UInt8):(l.takeWhile p).length≤l.length:=(List.takeWhile_sublist p).length_le
theorem ztE {t:List UInt8} {r:Option (Token × Nat)} (h:Tok t r):∀ x n,r=some (x,n)→x.Kind≠0∧x.Text.length≤t.length∧∀ p ∈ x.Parts,p.Text.length≤t.length:=by
 cases h with
 | name c u h =>
  intro x n hx
  split at hx
  ·cases hx
   exact⟨by simp,zqv _ _,by simp⟩
  cases hx
 | num c u h =>
  intro x n hx
  unfold zdU at hx
  split at hx
  ·cases hx
   exact⟨by simp,by simp,by simp⟩
  cases hx
 | text u r h =>
  intro x n hx
  obtain⟨q,hq,e⟩:=Option.map_eq_some_iff.1 hx
  cases e
  refine⟨by simp,by simp,fun p hp=>?_⟩
  rcases zsY h q hq p hp with h | h
  ·cases h
  simp at h ⊢;omega
 | sign c u h2 h3 h4 =>
  intro x n hx
  split at hx
  ·cases hx
  cases hx
  exact⟨by simp,zlm c u,by simp⟩
theorem zpo {l:List UInt8} {p:Int} {r:Option (List Token)} (h:Lx l p r):∀ L,r=some L→W L∧L.length≤l.length+1∧∀ t ∈ L,t.Text.length≤l.length∧∀ q ∈ t.Parts,q.Text.length≤l.length:=by
 induction h with
 | nil p =>
  intro L hL
  cases hL
  exact⟨rfl,by simp,fun t ht=>by simp at ht;subst ht;simp⟩
 | gap c t p r hc _ ih =>
  intro L hL
  obtain⟨h1,h2,h3⟩:=ih L hL
  refine⟨h1,by simp;omega,fun x hx=>?_⟩
  obtain⟨h4,h5⟩:=h3 x hx
  exact⟨by simp;omega,fun q hq=>by have:=h5 q hq;simp;omega⟩
 | remark t p r _ ih =>
  intro L hL
  obtain⟨h1,h2,h3⟩:=ih L hL
  have hd:(t.dropWhile (· != 10)).length≤t.length:=(List.dropWhile_sublist _).length_le
  refine⟨h1,by simp;omega,fun x hx=>?_⟩
  obtain⟨h4,h5⟩:=h3 x hx
  exact⟨by simp;omega,fun q hq=>by have:=h5 q hq;simp;omega⟩
 | bad=>intro L hL;cases hL
 | tok c t p x n r h1 h2 hk _ ih =>
  intro L hL
  obtain⟨L0,h0,rfl⟩:=Option.map_eq_some_iff.1 hL
  obtain⟨g1,g2,g3⟩:=ztE hk x n rfl
  obtain⟨l1,l2⟩:=zkf hk (x,n) rfl
  obtain⟨i1,i2,i3⟩:=ih L0 h0
  simp only[List.length_drop] at i2 i3
  simp only at l1 l2
  refine⟨?_,by simp only[List.length_cons] at *;omega,fun y hy=>?_⟩
  ·cases L0 with
   | nil=>exact i1.elim
   | cons a L0=>exact⟨g1,i1⟩
  rcases List.mem_cons.1 hy with rfl | hy
  ·exact⟨g2,g3⟩
  obtain⟨h4,h5⟩:=i3 y hy
  exact⟨by omega,fun q hq=>by have:=h5 q hq;omega⟩
theorem zyz {s:List UInt8} {L:List Token} (hs:s.length≤6000) (h:zj1 s=some L):TL L∧W L:=by
 obtain⟨h1,h2,h3⟩:=zpo (zhU s) L h
 exact⟨⟨by omega,fun t ht=>by have:=(h3 t ht).1;omega,fun t ht p hp=>by have:=(h3 t ht).2 p hp;omega⟩,h1⟩
def zeu (s:List UInt8):PR (List Node):=match zj1 s with | none=>.er 5 | some L=>exprT L
theorem zks (s:List UInt8) (hs:s.length≤6000):match zeu s with
  | .ok l _ _=>zaI s l 0
  | .er e=>e≠0→zaI s [] e
  | .no=>False:=by
 have hx:=zt8 hs (zhU s)
 unfold zeu
 cases hl:zj1 s with
 | none=>rw[hl] at hx;exact fun he=>zrj hx he
 | some L =>
  rw[hl] at hx
  obtain⟨h1,h2⟩:=zyz hs hl
  exact zoJ hx h1 h2
theorem zcl {p:UInt8→Bool} {w R:List UInt8} (h:∀ x ∈ w,p x=true) (hR:∀ c,R.head?=some c→p c=false):(w++R).takeWhile p=w:=by
 cases R with
 | nil=>rw[List.append_nil];exact zdY p w h
 | cons c R=>exact zdk p w c R h (hR c rfl)
def znm (R0 R:List UInt8):Prop:=R.head?=R0.head?∨R.head?=some 32∨R.head?=some 10∨R.head?=some 35
theorem zfy (p:UInt8→Bool):∀ (l:List UInt8) (c:UInt8),(l.dropWhile p).head?=some c→p c=false
 | [],c,h=>by cases h
 | a::l,c,h=>by
  rw[List.dropWhile_cons] at h
  split at h
  ·exact zfy p l c h
  rename_i hp
  obtain rfl:=Option.some.inj h
  simpa using hp
theorem zhZ {cl:List Int} (h32:inC cl 32=false) (h10:inC cl 10=false) (h35:inC cl 35=false) {l R:List UInt8} (h:znm (l.dropWhile (inC cl)) R):∀ c,R.head?=some c→inC cl c=false:=by
 intro c hc
 rcases h with h | h | h | h
 ·exact zfy _ l c (h ▸ hc)
 all_goals (rw[h] at hc;obtain rfl:=Option.some.inj hc;assumption)
theorem zod {x y v:List UInt8} (hx:zak x=true) (hy:zak y=true):zD (x++46::(y++125::v))=(x++46::y,true):=by
 have h125:(125:UInt8) ∉ x++46::y:=by
  intro h
  rcases List.mem_append.1 h with h | h
  ·have:=zcG hx _ h;rw[zul] at this;cases this
  rcases List.mem_cons.1 h with h | h
  ·exact absurd h (by decide)
  have:=zcG hy _ h;rw[zul] at this;cases this
 have h46:(46:UInt8) ∉ x:=by
  intro h
  have:=zcG hx _ h;rw[in46] at this;cases this
 have e:x++46::(y++125::v)=(x++46::y)++125::v:=by simp
 unfold zD zai
 rw[e,zdG 125 _ _ h125]
 simp only
 rw[zdG 46 _ _ h46]
 simp[hx,hy]
theorem zqz {t:List UInt8} {l:List Part} {b:List UInt8} {r:Option (List Part × Nat)} (h:Qx t l b r):∀ q,r=some q→∀ R,Qx (t.take q.2++R) l b (some q):=by
 induction h with
 | nil | low | esc0 | escbad | refbad=>intro q hq;cases hq
 | shut t l b=>intro q hq R;obtain rfl:=Option.some.inj hq;exact .shut R l b
 | esc x y t l b r hx _ ih =>
  intro q hq R
  obtain⟨q0,h0,rfl⟩:=Option.map_eq_some_iff.1 hq
  have:=Qx.esc x y _ l b _ hx (ih q0 h0 R)
  exact this
 | ref t l b r hr _ ih =>
  intro q hq R
  obtain⟨q0,h0,rfl⟩:=Option.map_eq_some_iff.1 hq
  obtain⟨x,y,v,e1,hx,hy,e2⟩:=zky hr
  have hv:t.drop ((zD t).1.length+1)=v:=by
   rw[e2,e1,show x++46::(y++125::v)=(x++46::y)++125::v by simp]
   exact znS 125 _ v
  have ih:=ih q0 h0 R
  rw[hv] at ih
  have hlen:(x++46::y).length=(zD t).1.length:=by rw[e2]
  have et:t.take (q0.2+(1+(zD t).1.length))=(x++46::y)++125::v.take q0.2:=by
   rw[←hlen,e1,show x++46::(y++125::v)=(x++46::y)++125::v by simp]
   generalize x++46::y=z
   rw[List.take_append,List.take_of_length_le (by omega),show q0.2+(1+z.length) - z.length=q0.2+1 by omega]
   rfl
  show Qx ((36::123::t).take (q0.2+(3+(zD t).1.length))++R) l b _
  rw[show q0.2+(3+(zD t).1.length)=(q0.2+(1+(zD t).1.length))+1+1 by omega,List.take_succ_cons,List.take_succ_cons,et]
  have hS:zD (x++46::(y++125::(v.take q0.2++R)))=(x++46::y,true):=zod hx hy
  have key:=Qx.ref (x++46::(y++125::(v.take q0.2++R))) l b (some q0) (by rw[hS]) (by
   rw[hS]
   simp only
   rw[show x++46::(y++125::(v.take q0.2++R))=(x++46::y)++125::(v.take q0.2++R) by simp,znS,←e2]
   exact ih)
  rw[hS] at key
  simp only[Option.map_some] at key
  rw[hlen] at key
  have e4:(36::123::((x++46::y)++125::v.take q0.2))++R=36::123::(x++46::(y++125::(v.take q0.2++R))):=by simp
  rw[e4]
  rw[show q0.2+(1+(zD t).1.length)+1+1=q0.2+(3+(zD t).1.length) by omega]
  exact key
 | plain c t l b r c1 c2 c3 c4 hq0 ih =>
  intro q hq R
  obtain⟨q0,h0,rfl⟩:=Option.map_eq_some_iff.1 hq
  have hpos:=zsq hq0 q0 h0
  have hh:(t.take q0.2++R).head?=t.head?:=by
   cases t with
   | nil=>simp at hpos;omega
   | cons a t =>
    obtain⟨m,hm⟩:∃ m,q0.2=m+1:=⟨q0.2 - 1,by omega⟩
    rw[hm,List.take_succ_cons]
    rfl
  have:=Qx.plain c _ l b _ c1 c2 c3 (fun e=>by rw[hh];exact c4 e) (ih q0 h0 R)
  exact this
theorem zh3 {a b:UInt8} (h:[a,b] ∈ zce):b=61∨b=38∨b=124:=by
 simp only[zce,List.mem_cons,List.cons.injEq,and_true,List.not_mem_nil,or_false] at h
 rcases h with h | h | h | h | h | h <;> simp[h.2]
theorem znp {c r:UInt8} (R:List UInt8) (h:r=32∨r=10∨r=35):zp (c::r::R)=zbg c:=by
 rw[zp,zb6,if_neg]
 intro e
 have:=zh3 e
 rcases h with rfl | rfl | rfl <;> simp at this
theorem zpY {z:List UInt8} {x:Token} {n:Nat} (h:Tok z (some (x,n))) (R:List UInt8) (hR:znm (z.drop n) R):Tok (z.take n++R) (some (x,n)):=by
 obtain⟨r,hr⟩:∃ r,r=some (x,n):=⟨_,rfl⟩
 rw[←hr] at h
 cases h with
 | name c u h =>
  split at hr
  ·rename_i h24
   obtain⟨rfl,rfl⟩:=Prod.mk.inj (Option.some.inj hr)
   have hd:(c::u).drop (zA [2,3] (c::u))=(c::u).dropWhile (inC [2,3]):=zau _ _
   have ht:(c::u).take (zA [2,3] (c::u))=(c::u).takeWhile (inC [2,3]):=za4 _ _
   rw[hd] at hR
   have hst:=zhZ (by decide) (by decide) (by decide) hR
   have hc:inC [2,3] c=true:=(zht c).2 (.inl h)
   have hw:((c::u).takeWhile (inC [2,3])++R).takeWhile (inC [2,3])=(c::u).takeWhile (inC [2,3]):=zcl (fun y hy=>List.all_eq_true.1 List.all_takeWhile y hy) hst
   rw[ht]
   obtain⟨w,ew⟩:∃ w,(c::u).takeWhile (inC [2,3])=c::w:=⟨_,by rw[List.takeWhile_cons,if_pos hc]⟩
   have key:=Tok.name c (w++R) h
   rw[←List.cons_append,←ew,hw,if_pos h24] at key
   unfold zA at key ⊢
   rw[hw] at key
   exact key
  cases hr
 | num c u h =>
  have hd:(c::u).drop (zA [3] (c::u))=(c::u).dropWhile (inC [3]):=zau _ _
  have ht:(c::u).take (zA [3] (c::u))=(c::u).takeWhile (inC [3]):=za4 _ _
  have hr0:=hr
  unfold zdU at hr
  split at hr
  ·rename_i hok
   obtain⟨rfl,rfl⟩:=Prod.mk.inj (Option.some.inj hr)
   unfold zA at hd ht
   rw[hd] at hR
   have hst:=zhZ (by decide) (by decide) (by decide) hR
   have hc:inC [3] c=true:=by unfold inC;simp[h]
   have hw:((c::u).takeWhile (inC [3])++R).takeWhile (inC [3])=(c::u).takeWhile (inC [3]):=zcl (fun y hy=>List.all_eq_true.1 List.all_takeWhile y hy) hst
   rw[ht]
   obtain⟨w,ew⟩:∃ w,(c::u).takeWhile (inC [3])=c::w:=⟨_,by rw[List.takeWhile_cons,if_pos hc]⟩
   have key:=Tok.num c (w++R) h
   unfold zdU at key
   rw[←List.cons_append,←ew,hw,if_pos hok] at key
   exact key
  cases hr
 | text u q h =>
  obtain⟨q0,h0,e⟩:=Option.map_eq_some_iff.1 hr
  obtain⟨rfl,rfl⟩:=Prod.mk.inj e
  have key:=Tok.text _ _ (zqz h q0 h0 R)
  exact key
 | sign c u h2 h3 h4 =>
  split at hr
  ·cases hr
  rename_i hne
  obtain⟨rfl,rfl⟩:=Prod.mk.inj (Option.some.inj hr)
  have goal:∀ R',(c::u).take (zp (c::u)).length++R=c::R'→zp (c::R')=zp (c::u)→Tok ((c::u).take (zp (c::u)).length++R) (some (Token.mk 4 (zp (c::u)) 0 [] 0,(zp (c::u)).length)):=by
   intro R' e1 e2
   have key:=Tok.sign c R' h2 h3 h4
   rw[e2,if_neg hne] at key
   rw[e1]
   exact key
  have one:zbg c≠[]→zbg c=[c]:=by
   intro h
   unfold zbg at h ⊢
   split
   ·rfl
   rename_i hn;rw[if_neg hn] at h;exact absurd rfl h
  cases u with
  | nil =>
   have e1:zp [c]=[c]:=one hne
   refine goal R (by rw[e1];rfl) ?_
   rw[e1] at hR
   cases R with
   | nil=>rfl
   | cons r R =>
    have hs:r=32∨r=10∨r=35:=by
     rcases hR with h | h | h | h
     ·cases h
     all_goals (have:=Option.some.inj h;simp[this])
    rw[znp R hs]
    rfl
  | cons b u =>
   by_cases h2:[c,b] ∈ zce
   ·have e1:zp (c::b::u)=[c,b]:=by rw[zp,zb6,if_pos h2]
    refine goal (b::R) (by rw[e1];rfl) ?_
    rw[e1,zp,zb6,if_pos h2]
   have e0:zp (c::b::u)=zbg c:=by rw[zp,zb6,if_neg h2]
   have e1:zp (c::b::u)=[c]:=by rw[e0];exact one (e0 ▸ hne)
   refine goal R (by rw[e1];rfl) ?_
   rw[e1] at hR
   cases R with
   | nil =>
    rcases hR with h | h | h | h <;> cases h
   | cons r R =>
    rcases hR with h | h | h | h
    ·have hb:r=b:=Option.some.inj h
     rw[hb,e0,zp,zb6,if_neg h2]
    all_goals (rw[znp R (by have:=Option.some.inj h;simp[this]),e0])
def Lxs (t:List UInt8) (L:List Token):Prop:=∀ p,∃ L0,Lx t p (some L0)∧L0.map σ=L
def eT:Token:=⟨0,[],0,[],0⟩
theorem zwe:Lxs [] [eT]:=fun p=>⟨_,.nil p,rfl⟩
theorem zdj {c:UInt8} (hc:zC c=1) {t:List UInt8} {L:List Token} (h:Lxs t L):Lxs (c::t) L:=fun p=>by
 obtain⟨L0,h1,h2⟩:=h (p+1)
 exact⟨L0,.gap c t p _ hc h1,h2⟩
theorem zds {c:UInt8} {t:List UInt8} {x:Token} {n:Nat} (h1:zC c≠1) (h2:zC c≠5) (hk:Tok (c::t) (some (x,n))) {L:List Token} (h:Lxs ((c::t).drop n) L):Lxs (c::t) (σ x::L):=fun p=>by
 obtain⟨L0,h3,h4⟩:=h (p+n)
 refine⟨_,.tok c t p x n _ h1 h2 hk h3,?_⟩
 rw[List.map_cons,h4]
 rfl
theorem zvM {w:List UInt8} {x:Token} (hs:zg2 w) (hk:Tok w (some (x,w.length))) {R:List UInt8} (hR:znm [] R) {L:List Token} (h:Lxs R L):Lxs (w++R) (σ x::L):=by
 have h1:=zpY hk R (by rw[List.drop_length];exact hR)
 rw[List.take_length] at h1
 cases w with
 | nil=>cases hk
 | cons c u =>
  have h2:Lxs ((c::u++R).drop (c::u).length) L:=by rw[List.drop_left];exact h
  exact zds hs.1 hs.2 h1 h2
theorem ziR {c:UInt8} (h1:zC c≠1) (h2:zC c≠5) (h3:zC c≠2) (h4:zC c≠3) (h5:zC c≠4) (h6:∀ b,[c,b] ∉ zce) (h7:zbg c=[c]) {t:List UInt8} {L:List Token} (h:Lxs t L):Lxs (c::t) (tg [c]::L):=by
 have e:zp (c::t)=[c]:=by
  cases t with
  | nil=>exact h7
  | cons b t=>rw[zp,zb6,if_neg (h6 b),h7]
 have hk:=Tok.sign c t h3 h4 h5
 rw[e,if_neg (by simp)] at hk
 exact zds h1 h2 hk h
theorem zpf {s:List UInt8} (hs:s.length≤6000) {L:List Token} (h:Lxs s L):match exprT L with
  | .ok l _ _=>zaI s l 0
  | .er e=>e≠0→zaI s [] e
  | .no=>False:=by
 obtain⟨L0,h1,h2⟩:=h 0
 obtain⟨g1,g2,g3⟩:=zpo h1 L0 rfl
 have hT:TL L0:=⟨by omega,fun t ht=>by have:=(g3 t ht).1;omega,fun t ht p hp=>by have:=(g3 t ht).2 p hp;omega⟩
 have hx:zcP s L0 0:=zt8 hs h1
 have key:=zoJ hx hT g1
 rw[←h2,zv9]
 cases hc:exprT L0 with
 | ok l ts out=>rw[hc] at key;exact key
 | er e=>rw[hc] at key;exact key
 | no=>rw[hc] at key;exact key
theorem zqG {s:List UInt8} (hs:s.length≤6000) {L:List Token} (h:Lxs s L) {l:List Node} {ts:List Token} {o:List Node} (hc:exprT L=.ok l ts o):zaI s l 0:=by
 have:=zpf hs h
 rw[hc] at this
 exact this
theorem zr9 {s:List UInt8} (hs:s.length≤6000) {L:List Token} (h:Lxs s L) {e:Int} (hc:exprT L=.er e) (he:e≠0):zaI s [] e:=by
 have:=zpf hs h
 rw[hc] at this
 exact this he
theorem zrf {t:List UInt8} {L:List Token} (h:Lxs t L):Lxs (40::t) (lpT::L):=ziR (by decide) (by decide) (by decide) (by decide) (by decide) (by simp[zce]) (by decide) h
theorem zsx {t:List UInt8} {L:List Token} (h:Lxs t L):Lxs (41::t) (rpT::L):=ziR (by decide) (by decide) (by decide) (by decide) (by decide) (by simp[zce]) (by decide) h
end Go.Proofs.YtfbcnpbhhooapaaGreatDoor.M
namespace Go.Proofs.YtfbcnpbhhooapaaGreatDoor.M
open Go Classical
theorem zxa {k:Int} (h0:11≤k) (h1:k≤23):zaq k≠[91]∧zaq k≠[63]:=by
 have:k=11∨k=12∨k=13∨k=14∨k=15∨k=16∨k=17∨k=18∨k=19∨k=20∨k=21∨k=22∨k=23:=by omega
 rcases this with rfl | rfl | rfl | rfl | rfl | rfl | rfl | rfl | rfl | rfl | rfl | rfl | rfl <;> exact⟨by decide,by decide⟩
theorem zoK (c:List UInt8) (h:c=[63]∨c=[58]):NoOp 0 (tg c)∧zaw (tg c):=by
 refine⟨fun k _ h4 _=>?_,fun _=>?_⟩
 ·match k,h4 with
  | 0,_=>rcases h with rfl | rfl <;> decide
  | 1,_=>rcases h with rfl | rfl <;> decide
  | 2,_=>rcases h with rfl | rfl <;> decide
  | 3,_=>rcases h with rfl | rfl <;> decide
  | 4,_=>rcases h with rfl | rfl <;> decide
 rcases h with rfl | rfl <;> simp[isS,tg]
theorem zfT {x y:List UInt8} (hx:zak x=true):Lib.cut (x++46::y) [46]=(x,y,true):=by
 have h46:(46:UInt8) ∉ x:=by
  intro h
  have:=zcG hx _ h;rw[in46] at this;cases this
 exact zdG 46 _ _ h46
theorem zxB {l:List Node} (h:TR l):∀ (e:Nat),e < l.length→PE l (e:Int):=by
 intro e
 induction e using Nat.strongRecOn with
 | _ e ih =>
  intro he
  obtain⟨hok,hk,hlen⟩:=h.node e he
  obtain⟨b,hb,hbe,hkc⟩:=zo7 h he
  have hd:=(zoS h e he).2
  have hb':zey l (e:Int)=b:=by unfold zey;rw[Int.toNat_natCast];omega
  have hOB:OB l (e:Int)=l.take b:=by rw[OB,hb']
  have hOA:OA l (e:Int)=l.take e++[l[e]]:=by rw[OA,Int.toNat_natCast,zsj he]
  have hsz:szN l (e:Int)=e+1 - b:=by unfold szN;rw[hb',Int.toNat_natCast]
  have hrk:rkK l (e:Int)=rkS l[e].Kind:=by unfold rkK;rw[Int.toNat_natCast,List.getElem?_eq_getElem he]
  have htk:tkI l (e:Int)=ndK l (tkI l) l[e]:=by
   have:=zdS he hok hk
   exact this
  have hdI:7≤rkS l[e].Kind→HdOk hd7 (tkI l (e:Int)):=hd
  have ihk:∀ k ∈ l[e].Kids,PE l k∧HdOk hd0 (tkI l k):=fun k hk'=>by
   have h1:=hk k hk'
   have h2:=ih k.toNat (by omega) (by omega)
   rw[show ((k.toNat:Nat):Int)=k by omega] at h2
   exact⟨h2,(zoS h k.toNat (by omega)).1⟩
  have hle:(l.take e).length=e:=by rw[List.length_take];omega
  have hs0:0 < szN l (e:Int):=by omega
  have hFU:FU l (e:Int)=20*(e+1 - b)+20:=by unfold FU;rw[hsz]
  clear hd hb hb' hlen ih
  generalize l[e]=n at *
  have hkl:=zaS hok
  have one:∀ c,n.Kids.length=1→c=kid n 0→PE l c∧OB l c=l.take b∧OA l c=l.take e∧szN l c+b=e:=fun c hc hcc=>by
   have hK:n.Kids=[kid n 0]:=zO hc
   have p:=(ihk (kid n 0) (zl (by omega))).1
   rw[hK] at hkc
   obtain⟨a0,a1,a2⟩:=hkc
   have a2:(kid n 0).toNat+1=e:=a2
   obtain⟨o1,o2⟩:=zd3 a1
   have:=p.sz
   subst hcc
   refine⟨p,o1,by rw[OA,a2],?_⟩
   unfold szN at *
   omega
  have two:n.Kids.length=2→PE l (kid n 0)∧PE l (kid n 1)∧OB l (kid n 0)=l.take b∧OB l (kid n 1)=OA l (kid n 0)∧OA l (kid n 1)=l.take e∧szN l (kid n 0)+szN l (kid n 1)+b=e:=fun hc=>by
   have hK:n.Kids=[kid n 0,kid n 1]:=zO hc
   have p:=(ihk (kid n 0) (zl (by omega))).1
   have q:=(ihk (kid n 1) (zl (by omega))).1
   rw[hK] at hkc
   obtain⟨a0,a1,c0,c1,c2⟩:=hkc
   have c2:(kid n 1).toNat+1=e:=c2
   obtain⟨o1,o2⟩:=zd3 a1
   obtain⟨o3,o4⟩:=zd3 c1
   have:=p.sz
   have:=q.sz
   refine⟨p,q,o1,o3,by rw[OA,c2],?_⟩
   unfold szN at *
   omega
  by_cases k1:n.Kind=1
  ·have hb0:b=e:=by rw[zd7 hok (by omega)] at hkc;exact hkc
   refine PE.ofPrim (hdI (by rw[k1];decide)) hs0 fun m d X hm hX=>?_
   obtain⟨m,rfl⟩:∃ m',m=m'+1:=⟨m - 1,by omega⟩
   rw[htk,nk1 k1,hOB,hOA,List.singleton_append,zsC,←zyq hok k1,hb0,hle]
   exact .inl rfl
  by_cases k2:n.Kind=2
  ·have hb0:b=e:=by rw[zd7 hok (by omega)] at hkc;exact hkc
   refine PE.ofPrim (hdI (by rw[k2];decide)) hs0 fun m d X hm hX=>?_
   obtain⟨m,rfl⟩:∃ m',m=m'+1:=⟨m - 1,by omega⟩
   rw[htk,nk2 k2,hOB,hOA,List.singleton_append,zsX,←zyA hok k2,hb0,hle]
   exact .inl rfl
  by_cases k3:n.Kind=3
  ·have hb0:b=e:=by rw[zd7 hok (by omega)] at hkc;exact hkc
   refine PE.ofPrim (hdI (by rw[k3];decide)) hs0 fun m d X hm hX=>?_
   obtain⟨m,rfl⟩:∃ m',m=m'+1:=⟨m - 1,by omega⟩
   obtain⟨h01,hf⟩:=zyu hok k3
   rcases h01 with h0 | h0
   ·rw[htk,nk3 k3,hOB,hOA,List.singleton_append,decide_eq_false (by omega),zen,zpM]
    rw[h0] at hf
    rw[←hf,hb0,hle]
    exact .inl rfl
   rw[htk,nk3 k3,hOB,hOA,List.singleton_append,decide_eq_true h0,zfn,zr6]
   rw[h0] at hf
   rw[←hf,hb0,hle]
   exact .inl rfl
  by_cases k4:n.Kind=4
  ·have hb0:b=e:=by rw[zd7 hok (by omega)] at hkc;exact hkc
   refine PE.ofPrim (hdI (by rw[k4];decide)) hs0 fun m d X hm hX=>?_
   obtain⟨m,rfl⟩:∃ m',m=m'+1:=⟨m - 1,by omega⟩
   obtain⟨h1,h2,hf⟩:=zqc hok k4
   obtain⟨x,y,hxy,hx,hy⟩:=zbX h1
   rw[htk,nk4 k4,hOB,hOA]
   have hc:Lib.cut n.Text [46]=(x,y,true):=by rw[hxy];exact zfT hx
   rw[zgT,hc]
   rw[hc] at h2
   simp only[List.cons_append,List.nil_append]
   rw[zt4 m d h2,show (x++[46])++y=n.Text by rw[hxy];simp,←hf,hb0,hle]
   exact .inl rfl
  by_cases k5:n.Kind=5
  ·obtain⟨h1,h2,hf⟩:=zpJ hok k5
   refine PE.ofPrim (hdI (by rw[k5];decide)) hs0 fun m d X hm hX=>?_
   obtain⟨m,rfl⟩:∃ m',m=m'+1:=⟨m - 1,by omega⟩
   have:=zre m d h2 (zjm (.inl rfl) (d+1) X n.Kids b e m hkc ihk (by omega))
   rw[←hf,hle] at this
   rw[htk,nk5 k5,hOB,hOA]
   simpa [rpT,tg,List.append_assoc] using this
  by_cases k6:n.Kind=6
  ·have hf:=zhx hok (by omega)
   refine PE.ofPrim (hdI (by rw[k6];decide)) hs0 fun m d X hm hX=>?_
   obtain⟨m,rfl⟩:∃ m',m=m'+1:=⟨m - 1,by omega⟩
   have:=zrz m d (zjm (.inr rfl) (d+1) X n.Kids b e m hkc ihk (by omega))
   rw[k6] at hf
   rw[←hf,hle] at this
   rw[htk,nk6 k6,hOB,hOA]
   simpa [List.append_assoc] using this
  by_cases k7:n.Kind=7
  ·have hc:=kdk hok 7 2 k7 (by decide) (by decide) (by decide)
   have hf:=zhx hok (by omega)
   rw[k7] at hf
   obtain⟨p,q,o1,o2,o3,hs⟩:=two hc
   have f0:FU l (kid n 0)=20*szN l (kid n 0)+20:=rfl
   have f1:FU l (kid n 1)=20*szN l (kid n 1)+20:=rfl
   have q0:=q.sz
   have hK:n.Kids=[kid n 0,kid n 1]:=zO hc
   refine PE.ofPo (hdI (by rw[k7];decide)) hs0 fun m d X hm hX=>?_
   obtain⟨n1,h1,h2⟩:=w_po p m d (tg [91]::(tkI l (kid n 1)++tg [93]::X)) (by simp) (by omega)
   obtain⟨m1,rfl⟩:∃ m1,n1=m1+1:=⟨n1 - 1,by omega⟩
   have hsep:=zew (c:=[93]) (.inr (.inr rfl))
   have h3:=q.ex m1 (d+1) (tg [93]) X (by omega) hsep.1 hsep.2.1 hsep.2.2
   rw[o2,o3] at h3
   have h4:=zsB (a:=kid n 0) h3
   rw[hle,←hK,←hf] at h4
   refine⟨m1,by omega,?_⟩
   rw[htk,nk7 k7,hOB,hOA,←o1]
   have h5:=h2.trans h4
   simpa [List.append_assoc] using h5
  by_cases k8:n.Kind=8
  ·have hc:=kdk hok 8 1 k8 (by decide) (by decide) (by decide)
   have hf:=zhx hok (by omega)
   rw[k8] at hf
   obtain⟨p,o1,o3,hs⟩:=one _ hc rfl
   have f0:FU l (kid n 0)=20*szN l (kid n 0)+20:=rfl
   have hK:n.Kids=[kid n 0]:=zO hc
   refine PE.ofUn (by rw[hrk,k8];decide) hs0 fun m d u rest hm hu=>?_
   obtain⟨m,rfl⟩:∃ m',m=m'+1:=⟨m - 1,by omega⟩
   have:=zxE (w_un p m (d+1) u rest (by omega) hu)
   rw[o1,o3,hle,←hK,←hf] at this
   rw[htk,nk8 k8,hOB,hOA]
   exact this
  by_cases k9:n.Kind=9
  ·have hc:=kdk hok 9 1 k9 (by decide) (by decide) (by decide)
   have hf:=zhx hok (by omega)
   rw[k9] at hf
   obtain⟨p,o1,o3,hs⟩:=one _ hc rfl
   have f0:FU l (kid n 0)=20*szN l (kid n 0)+20:=rfl
   have hK:n.Kids=[kid n 0]:=zO hc
   refine PE.ofUn (by rw[hrk,k9];decide) hs0 fun m d u rest hm hu=>?_
   obtain⟨m,rfl⟩:∃ m',m=m'+1:=⟨m - 1,by omega⟩
   have:=zwP (w_un p m (d+1) u rest (by omega) hu)
   rw[o1,o3,hle,←hK,←hf] at this
   rw[htk,nk9 k9,hOB,hOA]
   exact this
  by_cases k10:n.Kind=10
  ·have hc:=kdk hok 10 3 k10 (by decide) (by decide) (by decide)
   have hf:=zhx hok (by omega)
   rw[k10] at hf
   have hK:n.Kids=[kid n 0,kid n 1,kid n 2]:=zO hc
   have p:=(ihk (kid n 0) (zl (by omega))).1
   have q:=(ihk (kid n 1) (zl (by omega))).1
   have r:=(ihk (kid n 2) (zl (by omega))).1
   have hkc':=hkc
   rw[hK] at hkc'
   obtain⟨a0,a1,c0,c1,e0,e1,e2⟩:=hkc'
   have e2:(kid n 2).toNat+1=e:=e2
   obtain⟨o1,s1⟩:=zd3 a1
   obtain⟨o2,s2⟩:=zd3 c1
   obtain⟨o3,s3⟩:=zd3 e1
   have z1:=p.sz
   have z2:=q.sz
   have z3:=r.sz
   have hs:szN l (kid n 0)+szN l (kid n 1)+szN l (kid n 2)+b=e:=by unfold szN at *;omega
   have f0:FU l (kid n 0)=20*szN l (kid n 0)+20:=rfl
   have f1:FU l (kid n 1)=20*szN l (kid n 1)+20:=rfl
   have f2:FU l (kid n 2)=20*szN l (kid n 2)+20:=rfl
   have hr0:rkK l (e:Int)=0:=by rw[hrk,k10];decide
   refine⟨fun m d u rest hm ho hu hi=>?_,fun r _ hr=>by omega,fun r _ _ hr=>by omega,fun hr=>by omega,fun hr=>by omega,hs0⟩
   obtain⟨m,rfl⟩:∃ m',m=m'+1:=⟨m - 1,by omega⟩
   have q63:=zoK [63] (.inl rfl)
   have q58:=zoK [58] (.inr rfl)
   have g0:=zlR p (least:=1) (r:=0) (by decide) (by decide) m d (tg [63]) (tkI l (kid n 1)++tg [58]::(tkI l (kid n 2)++u::rest)) (by omega) q63.1 q63.2
   have g1:=q.ex m (d+1) (tg [58]) (tkI l (kid n 2)++u::rest) (by omega) q58.1 q58.2 (fun _=>by simp[isS,tg])
   have g2:=r.ex m (d+1) u rest (by omega) ho hu hi
   have j1:OB l (kid n 1)=OA l (kid n 0):=o2
   have j2:OB l (kid n 2)=OA l (kid n 1):=o3
   have j3:OA l (kid n 2)=l.take e:=by rw[OA,e2]
   rw[j1] at g1
   rw[j2,j3] at g2
   rw[o1] at g0
   rw[htk,zin k10,hOB,hOA]
   have ea:(wrK l (tkI l) (kid n 0) 1++tg [63]::(tkI l (kid n 1)++tg [58]::tkI l (kid n 2)))++u::rest=wrK l (tkI l) (kid n 0) 1++tg [63]::(tkI l (kid n 1)++tg [58]::(tkI l (kid n 2)++u::rest)):=by simp
   rw[ea,zu]
   refine zcC g0 ?_
   rw[za6,if_pos rfl,zL,za6,if_pos rfl,List.tail_cons]
   by_cases hd:64≤d
   ·rw[if_pos hd];exact .inr rfl
   rw[if_neg hd]
   refine zcC g1 ?_
   rw[zac,za6,if_pos rfl,List.tail_cons]
   refine zcC g2 ?_
   rw[hle,←hK,←hf]
   exact .inl rfl
  have hc:=kd2 hok (by omega)
  have hf:=zhx hok (by omega)
  obtain⟨p,q,o1,o2,o3,hs⟩:=two hc
  have f0:FU l (kid n 0)=20*szN l (kid n 0)+20:=rfl
  have f1:FU l (kid n 1)=20*szN l (kid n 1)+20:=rfl
  have z0:=p.sz
  have z1:=q.sz
  have hK:n.Kids=[kid n 0,kid n 1]:=zO hc
  obtain⟨r,r4,hr,hop,hno⟩:=zss (k:=n.Kind) (by omega) (by omega)
  obtain⟨n91,n63⟩:=zxa (k:=n.Kind) (by omega) (by omega)
  have sIdx:zaw (tg (zaq n.Kind)):=fun X=>zkk n91 X
  have sOp:NoOp (r+1) (tg (zaq n.Kind)):=fun j h1 h2 _=>hno j h2 (by omega)
  have hmax:∀ r':Nat,r'≤5→(r':Int) < rkK l (e:Int)→r'≤r:=fun r' _ h'=>by rw[hrk,hr] at h';omega
  by_cases r2:r=2
  ·subst r2
   have h3:rkS n.Kind=3:=by omega
   refine PE.of (q:=2) (by decide) hmax hs0 (fun m d u rest hm ho hu=>?_) (fun _ hf=>absurd rfl hf) (fun hf=>by omega) (fun hf=>by omega)
   obtain⟨m,rfl⟩:∃ m',m=m'+2:=⟨m - 2,by omega⟩
   have g0:=zlR p (least:=4) (r:=3) (by decide) (by decide) (m+1) d (tg (zaq n.Kind)) (wrK l (tkI l) (kid n 1) 4++u::rest) (by omega) sOp sIdx
   have g1:=zlR q (least:=4) (r:=3) (by decide) (by decide) m d u rest (by omega) (ho.mono (by decide)) hu
   rw[o2,o3] at g1
   have g2:=zk6 (a:=kid n 0) hop g1
   rw[if_pos rfl,hle,←hK,←hf] at g2
   rw[htk,zg5 (by omega),if_pos h3,hOB,hOA,←o1,h3]
   have g3:=(zf4 (by decide) g0).ok (g2.ok (.inl rfl))
   simpa [List.append_assoc] using g3
  have hne:¬ rkS n.Kind=3:=by omega
  have lpq:∀ m d u rest,FU l (e:Int)≤m+1+r→NoOp (r+1) u→zaw u→∃ n',m≤n'+szN l (e:Int)∧eqOr (zo m r d (tkI l (e:Int)++u::rest) (OB l (e:Int))) (zF n' r d (e:Int) (u::rest) (OA l (e:Int))):=fun m d u rest hm ho hu=>by
   obtain⟨n1,h1,h2⟩:=w_lp p (r:=r) (by omega) r2 m d (tg (zaq n.Kind)) (wrK l (tkI l) (kid n 1) (rkS n.Kind+1)++u::rest) (by omega) sOp sIdx
   obtain⟨m1,rfl⟩:∃ m1,n1=m1+1:=⟨n1 - 1,by omega⟩
   have g1:=zlR q (least:=rkS n.Kind+1) (r:=r+1) (by omega) (by omega) m1 d u rest (by omega) ho hu
   rw[o2,o3] at g1
   have g2:=zk6 (a:=kid n 0) hop g1
   rw[if_neg r2,hle,←hK,←hf] at g2
   refine⟨m1,by omega,?_⟩
   rw[htk,zg5 (by omega),if_neg hne,hOB,hOA,←o1]
   rw[←hr] at h2
   have g3:=h2.trans g2
   simpa [List.append_assoc] using g3
  refine PE.of (q:=r) (by omega) hmax hs0 (fun m d u rest hm ho hu=>?_) (fun _ _=>lpq) (fun hf=>by omega) (fun hf=>by omega)
  obtain⟨n1,h1,h2⟩:=lpq m d u rest hm (ho.mono (by omega)) hu
  obtain⟨m1,rfl⟩:∃ m1,n1=m1+1:=⟨n1 - 1,by omega⟩
  exact h2.ok (.inl (zhe (ho r (Nat.le_refl _) r4) _ _ _ _ _))
end Go.Proofs.YtfbcnpbhhooapaaGreatDoor.M
namespace Go.Proofs.YtfbcnpbhhooapaaGreatDoor.M
open Go
end Go.Proofs.YtfbcnpbhhooapaaGreatDoor.M
namespace Go.Proofs.YtfbcnpbhhooapaaGreatDoor.M
open Go Classical
end Go.Proofs.YtfbcnpbhhooapaaGreatDoor.M
namespace Go.Proofs.YtfbcnpbhhooapaaGreatDoor.M
open Go
def sc_Q18:zk:=⟨1,4,.seq (.reg [vO 2 (.mov (cI 0))]) (.seq (.reg [mO 3 0,mO 2 3]) .ret),[(.t 2)]⟩
theorem zyw:type_of% (sc_Q18.eq_1):=sc_Q18.eq_1
theorem comp_Q18:comp Tryz.prog Tryz.f18=some sc_Q18:=by kernel_rfl
end Go.Proofs.YtfbcnpbhhooapaaGreatDoor.M
namespace Go.Proofs.YtfbcnpbhhooapaaGreatDoor.M
open Go Classical
theorem zxO:SP 18=some (.code sc_Q18):=zb rfl Tryz.func18 comp_Q18
theorem zty (e_:Int) (r:Int) (T :
  e_=r):zfL e_ r:=by
 intro S
 rw[za zxO _ _ rfl]
 have F:=zyw
 exact rn F T
theorem zi6 (e:Int):zfL e e:=zty _ _ rfl
end Go.Proofs.YtfbcnpbhhooapaaGreatDoor.M
namespace Go.Proofs.YtfbcnpbhhooapaaGreatDoor.M
open Go Classical
theorem zsA {l:List Node} {o:Int→List UInt8} {k:Int} {v:Node} (least:Int) (w:SWriter) (g:Nat) (z:Bool) (h0:0≤k) (hv:l[k.toNat]?=some v) (hr:rkK l k=rkS v.Kind) (hw:w.out.length≤600000000000) (ho:(o k).length≤3300000)
  (hn:∀ w':SWriter,w'.out.length≤w.out.length+1→zbQ w' g z l k ⟨w'.out++o k⟩ g z):zb2 w g z l k least ⟨w.out++wrS l o k least⟩ g z:=by
 apply zrc
 refine⟨h0,v,hv,_,zjy _,fun h=>⟨_,_,_,hn w (by omega),?_,rfl,rfl⟩,fun h=>⟨_,_,_,zae w g z [[40]] (by decide) (by simp;omega),_,_,_,hn ⟨w.out++[[40]].flatten⟩ (by simp),_,_,_,zae _ g z [[41]] (by decide) (by simp;omega),?_,rfl,rfl⟩⟩
 ·rw[wrS,if_neg (by omega)]
 rw[wrS,if_pos (by omega)]
 simp
theorem zqZ {l:List Node} {o:Int→List UInt8} (ks:List Int) (h100:ks.length≤100) (g:Nat) (z:Bool) (w:SWriter) (hw:w.out.length≤500000000000) (hk:∀ k ∈ ks,(o k).length≤3300000∧∀ w':SWriter,w'.out.length≤w.out.length+400000000→zbQ w' g z l k ⟨w'.out++o k⟩ g z):zjA w g z l ks ⟨w.out++comS o ks⟩ g z:=by
 have loop:∀ (m i:Nat) (w2:SWriter),0 < i→i+m=ks.length→w2.out.length+3300002*m≤w.out.length+350000000→zdO l ks i w2 g z ⟨w2.out++comG o (ks.drop i)⟩ g z:=by
  intro m
  induction m with
  | zero =>
   intro i w2 h0 hi hs
   rw[List.drop_of_length_le (by omega),comG,List.append_nil]
   apply zdo
   exact⟨fun h=>by omega,fun _=>⟨rfl,rfl,rfl⟩⟩
  | succ m ih =>
   intro i w2 h0 hi hs
   have hlt:i < ks.length:=by omega
   have hg:ks[((i:Nat):Int).toNat]?=some ks[i]:=by rw[Int.toNat_natCast];exact List.getElem?_eq_getElem hlt
   have hd:ks.drop i=ks[i]::ks.drop (i+1):=List.drop_eq_getElem_cons hlt
   obtain⟨k1,k2⟩:=hk _ (List.getElem_mem hlt)
   have:=ih (i+1) ⟨w2.out++[44,32]++o ks[i]⟩ (by omega) (by omega) (by simp only[List.length_append,List.length_cons,List.length_nil];omega)
   apply zdo
   refine⟨fun _=>⟨by omega,_,hg,fun _=>⟨_,_,_,zae w2 g z [[44,32]] (by decide) (by simp;omega),_,_,_,k2 ⟨w2.out++[44,32]⟩ (by simp;omega),⟨by omega,by omega⟩,?_⟩,fun h=>by omega⟩,fun h=>by omega⟩
   rw[hd,comG]
   simpa [List.append_assoc] using this
 apply zsw
 apply zdo
 refine⟨fun h0=>?_,fun h0=>?_⟩
 ·have hlt:0 < ks.length:=by omega
  have hg:ks[((0:Int)).toNat]?=some ks[0]:=List.getElem?_eq_getElem hlt
  have hd:ks=ks[0]::ks.drop 1:=List.drop_eq_getElem_cons hlt
  obtain⟨k1,k2⟩:=hk _ (List.getElem_mem hlt)
  have:=loop (ks.length - 1) 1 ⟨w.out++o ks[0]⟩ (by omega) (by omega) (by simp only[List.length_append];omega)
  have e:comS o ks=o ks[0]++comG o (ks.drop 1):=by
   conv=>lhs;rw[hd]
   rw[comS]
  refine⟨by omega,_,hg,fun h=>by omega,fun _=>⟨_,_,_,k2 w (by omega),⟨by omega,by omega⟩,?_⟩⟩
  rw[e,←List.append_assoc]
  exact this
 have h0:ks=[]:=List.length_eq_zero_iff.1 (by omega)
 rw[h0,comS,List.append_nil]
 exact⟨rfl,rfl,rfl⟩
theorem zoY {o:Int→List UInt8}:∀ {ks:List Int},(∀ k ∈ ks,(o k).length≤3300000)→zT o ks≤3300000*ks.length
 | [],_=>Nat.le_refl _
 | k::r,h=>by
  have:=h k (List.mem_cons_self ..)
  have:=zoY (ks:=r) fun q hq=>h q (List.mem_cons_of_mem _ hq)
  rw[zT,List.length_cons]
  omega
theorem zxL {l:List Node} (h:TR l):∀ (e:Nat),e < l.length→∀ (w:SWriter) (g:Nat) (z:Bool),w.out.length+1000000000*e≤480000000000→zbQ w g z l (e:Int) ⟨w.out++txS l e⟩ g z:=by
 intro e
 induction e using Nat.strongRecOn with
 | _ e ih =>
  intro he w g z hw
  obtain⟨hok,hk,hlen⟩:=h.node e he
  have hs:=h.ns _ (List.getElem_mem he)
  have hg:l[((e:Nat):Int).toNat]?=some l[e]:=by rw[Int.toNat_natCast];exact List.getElem?_eq_getElem he
  have sh:∀ k ∈ l[e].Kids,(txS l k.toNat).length≤3300000∧∀ w':SWriter,w'.out.length≤w.out.length+500000000→zbQ w' g z l k ⟨w'.out++txS l k.toNat⟩ g z:=fun k hk'=>by
   have h1:=hk k hk'
   refine⟨(h.node k.toNat (by omega)).2.2,fun w' hw'=>?_⟩
   have h2:=ih k.toNat (by omega) (by omega) w' g z (by omega)
   rwa [show ((k.toNat:Nat):Int)=k by omega] at h2
  have kd:=fun i (hi:i < l[e].Kids.length)=>zr5 h he (i:=i) hi
  rw[zfu he hok hk]
  generalize l[e]=n at *
  have hkl:=zaS hok
  have t1:=hs.text
  have t3:=znM hs.num
  have t4:=zmQ (decide (n.Num=1))
  have t6:=hs.kids
  have opd:∀ (i:Nat),i < n.Kids.length→∀ (least:Int) (w':SWriter),w'.out.length≤w.out.length+400000000→zb2 w' g z l (kid n i) least ⟨w'.out++wrS l (fun k=>txS l k.toNat) (kid n i) least⟩ g z:=fun i hi least w' hw'=>by
   obtain⟨v,a1,a2,a3,a4,a5,a6,a7⟩:=kd i hi
   exact zsA (o:=fun k=>txS l k.toNat) least w' g z a2 a4 a5 (by omega) a7 fun w2 h2=>(sh _ (zl hi)).2 w2 (by omega)
  have cl:=ziE (fun k=>txS l k.toNat) n.Kids
  have sb:=zoY (o:=fun k=>txS l k.toNat) (fun k hk=>(sh k hk).1)
  have hfb:zcW (decide (n.Num=1)) (Lib.formatBool (decide (n.Num=1))):=fun S=>zbH zfx S rfl
  generalize ho:(fun k:Int=>txS l k.toNat)=o at *
  have sh:∀ k ∈ n.Kids,(o k).length≤3300000∧∀ w':SWriter,w'.out.length≤w.out.length+500000000→zbQ w' g z l k ⟨w'.out++o k⟩ g z:=by rw[←ho];exact sh
  have wl:=zjZ l o
  apply ztR
  refine⟨by omega,n,hg,fun k1=>⟨_,zmz _ hs.num,_,_,_,zae w g z [Lib.itoa n.Num] (by simp) (by simp;omega),by rw[nd1 k1];simp,rfl,rfl⟩,fun k1=>⟨fun k2=>⟨_,_,_,zpx w g z l n.Parts hs.parts (by omega),by rw[nd2 k2],rfl,rfl⟩,fun k2=>⟨fun k3=>⟨_,hfb,_,_,_,zae w g z [Lib.formatBool (decide (n.Num=1))] (by simp) (by simp;omega),by rw[nd3 k3];simp,rfl,rfl⟩,fun k3=>⟨fun k4=>⟨_,_,_,zae w g z [n.Text] (by simp) (by simp;omega),by rw[nd4 k4];simp,rfl,rfl⟩,fun k4=>⟨fun k5=>?_,fun k5=>⟨fun k6=>?_,fun k6=>⟨fun k7=>?_,fun k7=>⟨fun k8=>?_,fun k8=>⟨fun k9=>?_,fun k9=>⟨fun k10=>?_,fun k10=>?_⟩⟩⟩⟩⟩⟩⟩⟩⟩⟩
  ·refine⟨_,_,_,zae w g z [n.Text,[40]] (by simp) (by simp;omega),_,_,_,zqZ (o:=o) n.Kids t6 g z ⟨w.out++[n.Text,[40]].flatten⟩ (by simp;omega) (fun k hk=>⟨(sh k hk).1,fun w' hw'=>(sh k hk).2 w' (by simp at hw';omega)⟩),_,_,_,zae _ g z [[41]] (by decide) (by simp;omega),?_,rfl,rfl⟩
   rw[nd5 k5];simp
  ·refine⟨_,_,_,zae w g z [[91]] (by simp) (by simp;omega),_,_,_,zqZ (o:=o) n.Kids t6 g z ⟨w.out++[[91]].flatten⟩ (by simp;omega) (fun k hk=>⟨(sh k hk).1,fun w' hw'=>(sh k hk).2 w' (by simp at hw';omega)⟩),_,_,_,zae _ g z [[93]] (by decide) (by simp;omega),?_,rfl,rfl⟩
   rw[nd6 k6];simp
  ·have hc:=kdk hok 7 2 k7 (by decide) (by decide) (by decide)
   have w0:=wl (kid n 0) 7
   have l0:=(sh _ (zl (n:=n) (i:=0) (by omega))).1
   have l1:=(sh _ (zl (n:=n) (i:=1) (by omega))).1
   refine⟨_,za3 (by omega),_,_,_,opd 0 (by omega) 7 w (by omega),_,_,_,zae _ g z [[91]] (by decide) (by simp;omega),_,za3 (by omega),_,_,_,(sh _ (zl (n:=n) (i:=1) (by omega))).2 _ (by simp;omega),_,_,_,zae _ g z [[93]] (by decide) (by simp;omega),?_,rfl,rfl⟩
   rw[nd7 k7];simp
  ·have hc:=kdk hok 8 1 k8 (by decide) (by decide) (by decide)
   refine⟨_,_,_,zae w g z [[33]] (by decide) (by simp;omega),_,za3 (by omega),_,_,_,opd 0 (by omega) 6 _ (by simp),?_,rfl,rfl⟩
   rw[nd8 k8];simp
  ·have hc:=kdk hok 9 1 k9 (by decide) (by decide) (by decide)
   refine⟨_,_,_,zae w g z [[45]] (by decide) (by simp;omega),_,za3 (by omega),_,_,_,opd 0 (by omega) 6 _ (by simp),?_,rfl,rfl⟩
   rw[nd9 k9];simp
  ·have hc:=kdk hok 10 3 k10 (by decide) (by decide) (by decide)
   have w0:=wl (kid n 0) 1
   have l0:=(sh _ (zl (n:=n) (i:=0) (by omega))).1
   have l1:=(sh _ (zl (n:=n) (i:=1) (by omega))).1
   have l2:=(sh _ (zl (n:=n) (i:=2) (by omega))).1
   refine⟨_,za3 (by omega),_,_,_,opd 0 (by omega) 1 w (by omega),_,_,_,zae _ g z [[32,63,32]] (by decide) (by simp;omega),_,za3 (by omega),_,_,_,(sh _ (zl (n:=n) (i:=1) (by omega))).2 _ (by simp;omega),_,_,_,zae _ g z [[32,58,32]] (by decide) (by simp;omega),_,za3 (by omega),_,_,_,(sh _ (zl (n:=n) (i:=2) (by omega))).2 _ (by simp;omega),?_,rfl,rfl⟩
   rw[zl2 k10];simp
  have hc:=kd2 hok (by omega)
  have l0:=(sh _ (zl (n:=n) (i:=0) (by omega))).1
  have l1:=(sh _ (zl (n:=n) (i:=1) (by omega))).1
  have sg:=zkl n.Kind
  have rr:=ztk n.Kind
  refine⟨_,_,_,zqI _ _ _ _ _ ⟨w.out++ndS l o n⟩ g z ⟨_,zjy _,fun q=>?_,fun q=>?_⟩,rfl,rfl,rfl⟩
  ·have w0:=wl (kid n 0) (rkS n.Kind+1)
   refine⟨⟨by omega,by omega⟩,_,za3 (by omega),_,_,_,opd 0 (by omega) _ w (by omega),_,zjN (by omega) (by omega),_,_,_,zae _ g z [[32],zaq n.Kind,[32]] (by simp) (by simp;omega),_,za3 (by omega),⟨by omega,by omega⟩,_,_,_,opd 1 (by omega) _ _ (by simp;omega),?_,rfl,rfl⟩
   rw[zjW (by omega),if_pos q];simp
  have w0:=wl (kid n 0) (rkS n.Kind)
  refine⟨_,za3 (by omega),_,_,_,opd 0 (by omega) _ w (by omega),_,zjN (by omega) (by omega),_,_,_,zae _ g z [[32],zaq n.Kind,[32]] (by simp) (by simp;omega),_,za3 (by omega),⟨by omega,by omega⟩,_,_,_,opd 1 (by omega) _ _ (by simp;omega),?_,rfl,rfl⟩
  rw[zjW (by omega),if_neg q];simp
def exS (l:List Node):List UInt8:=if zaU l=true then txS l (l.length - 1) else []
theorem zed {l:List Node} (h:zaU l=true):0 < l.length:=by
 simp only[zaU,Bool.and_eq_true,decide_eq_true_eq] at h
 exact h.1
theorem zvs {l:List Node} (h:TR l) (w:SWriter) (g:Nat) (z:Bool) (hw:w.out.length≤400000000000):zqg w g z l ⟨w.out++exS l⟩ g z:=by
 have h0:=zed h.tree
 have h80:=h.len
 have e:((l.length:Nat):Int) - 1=((l.length - 1:Nat):Int):=by omega
 refine zsS _ _ _ _ _ _ _ ⟨⟨by omega,by omega⟩,_,_,_,?_,rfl,rfl,rfl⟩
 rw[e,exS,if_pos h.tree]
 exact zxL h _ (by omega) w g z (by omega)
theorem zyk {n:Node} (h:NS n):NB n:=by
 have h1:=h.text
 have h2:=h.parts
 have h3:=h.kids
 exact⟨by omega,⟨by have:=h2.1;omega,fun p hp=>by have:=h2.2 p hp;omega⟩,by omega⟩
theorem zec (l:List Node) (hl:l.length≤80) (hn:∀ n ∈ l,NS n):zjf l (exS l):=by
 refine zti _ _ ⟨_,zwq l (by omega) fun n h=>zyk (hn n h),fun h=>⟨_,_,_,zvs ⟨h,hn,hl⟩ ⟨[]⟩ 0 false (by simp),by simp⟩,fun h=>by rw[exS,if_neg h]⟩
def zcy (o:Int→List Token):List Int→Nat
 | []=>0
 | k::r=>(o k).length+zcy o r
theorem zom (o:Int→List Token):∀ ks:List Int,zcy o ks≤(tcG o ks).length
 | []=>Nat.le_refl _
 | k::r=>by
  have:=zom o r
  simp only[tcG,zcy,List.length_append,List.length_cons]
  omega
theorem zvW (o:Int→List Token):∀ ks:List Int,zcy o ks≤(tcS o ks).length
 | []=>Nat.le_refl _
 | k::r=>by
  have:=zom o r
  simp only[tcS,zcy,List.length_append]
  omega
theorem zuL (l:List Node) (o:Int→List Token) (k least:Int):(o k).length≤(wrK l o k least).length:=by
 unfold wrK
 split
 ·simp
  omega
 exact Nat.le_refl _
theorem zvd {l:List Node} {o:Int→List Token} {n:Node} (hok:zi n=true):1+zcy o n.Kids≤(ndK l o n).length:=by
 have hkl:=zaS hok
 have tc:=zvW o n.Kids
 have w:=zuL l o
 by_cases k4:n.Kind≤4
 ·rw[zd7 hok k4]
  have:n.Kind=1∨n.Kind=2∨n.Kind=3∨n.Kind=4:=by omega
  rcases this with k | k | k | k
  ·rw[nk1 k];exact Nat.le_refl _
  ·rw[nk2 k];exact Nat.le_refl _
  ·rw[nk3 k];exact Nat.le_refl _
  rw[nk4 k];simp[zgT,zcy]
 by_cases k5:n.Kind=5
 ·rw[nk5 k5];simp only[List.length_append,List.length_cons,List.length_nil];omega
 by_cases k6:n.Kind=6
 ·rw[nk6 k6];simp only[List.length_append,List.length_cons,List.length_nil];omega
 by_cases k7:n.Kind=7
 ·have e:zcy o n.Kids=(o (kid n 0)).length+((o (kid n 1)).length+0):=by rw[zO (kdk hok 7 2 k7 (by decide) (by decide) (by decide))];rfl
  have:=w (kid n 0) 7
  rw[nk7 k7];simp only[List.length_append,List.length_cons,List.length_nil];omega
 by_cases k8:n.Kind=8
 ·have e:zcy o n.Kids=(o (kid n 0)).length+0:=by rw[zO (kdk hok 8 1 k8 (by decide) (by decide) (by decide))];rfl
  have:=w (kid n 0) 6
  rw[nk8 k8];simp only[List.length_cons];omega
 by_cases k9:n.Kind=9
 ·have e:zcy o n.Kids=(o (kid n 0)).length+0:=by rw[zO (kdk hok 9 1 k9 (by decide) (by decide) (by decide))];rfl
  have:=w (kid n 0) 6
  rw[nk9 k9];simp only[List.length_cons];omega
 by_cases k10:n.Kind=10
 ·have e:zcy o n.Kids=(o (kid n 0)).length+((o (kid n 1)).length+((o (kid n 2)).length+0)):=by rw[zO (kdk hok 10 3 k10 (by decide) (by decide) (by decide))];rfl
  have:=w (kid n 0) 1
  rw[zin k10];simp only[List.length_append,List.length_cons];omega
 have e:zcy o n.Kids=(o (kid n 0)).length+((o (kid n 1)).length+0):=by rw[zO (kd2 hok (by omega))];rfl
 rw[zg5 (by omega)]
 generalize (if rkS n.Kind=3 then rkS n.Kind+1 else rkS n.Kind)=q
 have:=w (kid n 0) q
 have:=w (kid n 1) (rkS n.Kind+1)
 simp only[List.length_append,List.length_cons];omega
theorem zsu {l:List Node}:∀ {ks:List Int} {b e:Nat},KC l b ks e→(∀ k ∈ ks,szN l k≤(tkI l k).length)→e≤b+zcy (tkI l) ks
 | [],b,e,h,_=>by
  have h:b=e:=h
  rw[zcy]
  omega
 | k::ks,b,e,⟨h0,hb,hr⟩,hs=>by
  have h1:=zsu hr fun q hq=>hs q (List.mem_cons_of_mem _ hq)
  have h2:=hs k (List.mem_cons_self ..)
  obtain⟨o1,o2⟩:=zd3 hb
  have hle:=zbw l k.toNat
  unfold szN at h2
  rw[o2] at h2
  rw[zcy]
  omega
theorem zxw {l:List Node} (h:TR l):∀ (e:Nat),e < l.length→szN l (e:Int)≤(tkI l (e:Int)).length:=by
 intro e
 induction e using Nat.strongRecOn with
 | _ e ih =>
  intro he
  obtain⟨hok,hk,hlen⟩:=h.node e he
  obtain⟨b,hb,hbe,hkc⟩:=zo7 h he
  have hb':zey l (e:Int)=b:=by unfold zey;rw[Int.toNat_natCast];omega
  have hsz:szN l (e:Int)=e+1 - b:=by unfold szN;rw[hb',Int.toNat_natCast]
  have h1:=zsu hkc fun k hk'=>by
   have h1:=hk k hk'
   have h2:=ih k.toNat (by omega) (by omega)
   rwa [show ((k.toNat:Nat):Int)=k by omega] at h2
  have htk:tkI l (e:Int)=ndK l (tkI l) l[e]:=by
   have:=zdS he hok hk
   exact this
  have:=zvd (l:=l) (o:=tkI l) hok
  rw[hsz,htk]
  omega
theorem noOp_end:NoOp 0 eT∧zaw eT∧zko eT:=⟨fun _ _ _ h4=>absurd h4 (by decide),fun _=>by simp[isS,eT],fun _=>by simp[isS,eT]⟩
theorem zpB {l:List Node} (h:TR l):(∃ ts o,exprT (tkS l (l.length - 1)++[eT])=.ok l ts o)∨exprT (tkS l (l.length - 1)++[eT])=.er 6:=by
 have h0:=zed h.tree
 have he:l.length - 1 < l.length:=by omega
 have p:=zxB h _ he
 have hlen:=zxw h _ he
 have hb:zar l (l.length - 1)=0:=by
  have:=h.tree
  simp only[zaU,Bool.and_eq_true,decide_eq_true_eq] at this
  exact this.2
 have hbn:zey l ((l.length - 1:Nat):Int)=0:=by unfold zey;rw[Int.toNat_natCast,hb];rfl
 have hs:szN l ((l.length - 1:Nat):Int)=l.length:=by unfold szN;rw[hbn,Int.toNat_natCast];omega
 have hOB:OB l ((l.length - 1:Nat):Int)=[]:=by rw[OB,hbn];rfl
 have hOA:OA l ((l.length - 1:Nat):Int)=l:=by rw[OA,Int.toNat_natCast,show l.length - 1+1=l.length by omega,List.take_length]
 have hk:tkI l ((l.length - 1:Nat):Int)=tkS l (l.length - 1):=by unfold tkI;rw[Int.toNat_natCast]
 have hx:=p.ex (20*(tkS l (l.length - 1)++[eT]).length+10) 0 eT [] (by rw[hs,hk] at hlen;unfold FU;rw[hs];simp only[List.length_append,List.length_cons,List.length_nil];omega) noOp_end.1 noOp_end.2.1 noOp_end.2.2
 rw[hOB,hOA,hk] at hx
 unfold exprT zbu
 rcases hx with hx | hx
 ·left
  rw[hx]
  simp[PR.bind,eT]
 right
 rw[hx]
 rfl
def FolN (t:List UInt8):Prop:=∀ c,t.head?=some c→inC [2,3] c=false
theorem FolN.cons {c:UInt8} (h:inC [2,3] c=false) (t:List UInt8):FolN (c::t):=fun x hx=>by
 rw[List.head?_cons] at hx
 rw[←Option.some.inj hx]
 exact h
theorem FolN.nil:FolN []:=fun c h=>by cases h
theorem zeZ {x:List UInt8} (hx:zak x=true) {t:List UInt8} {L:List Token} (ht:FolN t) (h:Lxs t L):Lxs (x++t) (tn x::L):=by
 obtain⟨h0,h24,he⟩:x≠[]∧x.length≤24∧zf6 x=x.length:=of_decide_eq_true hx
 cases x with
 | nil=>exact absurd rfl h0
 | cons c u =>
  have hc:zC c=2:=by
   rw[←Classical.not_not (a:=zC c=2)]
   intro hf
   rw[zf6,if_neg hf] at he
   cases he
  have htw:((c::u)++t).takeWhile (inC [2,3])=c::u:=zcl (fun y hy=>zcG hx y hy) ht
  have hk:=Tok.name c (u++t) hc
  rw[show c::(u++t)=(c::u)++t from rfl] at hk
  unfold zA at hk
  rw[htw,if_pos h24] at hk
  have:=zds (by rw[hc];decide) (by rw[hc];decide) hk (L:=L) (show Lxs (((c::u)++t).drop (c::u).length) L by rw[List.drop_left];exact h)
  exact this
theorem zsW {t:List UInt8} {L:List Token} (ht:t.head?≠some 61) (h:Lxs t L):Lxs (33::t) (tg [33]::L):=by
 have e:zp (33::t)=[33]:=by
  cases t with
  | nil=>decide
  | cons b t =>
   rw[zp,zb6,if_neg]
   ·decide
   intro hb
   rcases zh3 hb with rfl | rfl | rfl
   ·exact ht rfl
   ·simp[zce] at hb
   simp[zce] at hb
 have hk:=Tok.sign 33 t (by decide) (by decide) (by decide)
 rw[e,if_neg (by simp)] at hk
 exact zds (by decide) (by decide) hk h
theorem zb8 {c:UInt8} (hc:c=40∨c=41∨c=91∨c=93∨c=44∨c=45∨c=46∨c=63∨c=58) {t:List UInt8} {L:List Token} (h:Lxs t L):Lxs (c::t) (tg [c]::L):=by
 rcases hc with rfl | rfl | rfl | rfl | rfl | rfl | rfl | rfl | rfl <;> exact ziR (by decide) (by decide) (by decide) (by decide) (by decide) (by simp[zce]) (by decide) h
theorem zxb {k:Int} (h0:11≤k) (h1:k≤23) {t:List UInt8} {L:List Token} (h:Lxs t L):Lxs (32::(zaq k++32::t)) (tg (zaq k)::L):=by
 have:k=11∨k=12∨k=13∨k=14∨k=15∨k=16∨k=17∨k=18∨k=19∨k=20∨k=21∨k=22∨k=23:=by omega
 refine zdj (by decide) ?_
 have h:=zdj (c:=32) (by decide) h
 have key:Tok (zaq k) (some (tg (zaq k),(zaq k).length))∧zg2 (zaq k):=by
  rcases this with rfl | rfl | rfl | rfl | rfl | rfl | rfl | rfl | rfl | rfl | rfl | rfl | rfl <;> exact⟨Tok.sign _ _ (by decide) (by decide) (by decide),by decide,by decide⟩
 exact zvM key.2 key.1 (.inr (.inl rfl)) h
theorem zhL:∀ (n k:Nat),k≤n→Dg (Lib.decDigits k)
 | 0,k,h=>by
  rw[Lib.decDigits_one (by omega)]
  intro c hc
  obtain rfl:=List.mem_singleton.1 hc
  rw[UInt8.toNat_ofNat']
  omega
 | n+1,k,h=>by
  by_cases h1:k < 10
  ·rw[Lib.decDigits_one h1]
   intro c hc
   obtain rfl:=List.mem_singleton.1 hc
   rw[UInt8.toNat_ofNat']
   omega
  rw[Lib.decDigits,dif_neg h1]
  intro c hc
  rcases List.mem_append.1 hc with hc | hc
  ·exact zhL n (k / 10) (by omega) c hc
  obtain rfl:=List.mem_singleton.1 hc
  rw[UInt8.toNat_ofNat']
  omega
theorem zrZ (l:List UInt8) (c:UInt8):∀ acc,zaj acc (l++[c])=zaj acc l*10+(c.toNat - 48):=by
 induction l with
 | nil=>intro acc;rfl
 | cons a l ih=>intro acc;rw[List.cons_append,za1,ih,za1]
theorem zkH:∀ (n k:Nat),k≤n→zaj 0 (Lib.decDigits k)=k
 | 0,k,h=>by
  obtain rfl:k=0:=by omega
  rw[Lib.decDigits_one (by omega)]
  rfl
 | n+1,k,h=>by
  by_cases h1:k < 10
  ·rw[Lib.decDigits_one h1,za1,zdh,UInt8.toNat_ofNat']
   omega
  rw[Lib.decDigits,dif_neg h1,zrZ,zkH n (k / 10) (by omega),UInt8.toNat_ofNat']
  omega
theorem ztD {z:Int} (h0:0≤z) (h1:z≤9223372036854775807) {t:List UInt8} {L:List Token} (ht:FolN t) (h:Lxs t L):Lxs (Lib.itoa z++t) (ze9 z::L):=by
 obtain⟨n,rfl⟩:∃ n:Nat,z=n:=⟨z.toNat,by omega⟩
 have hd:=zhL n n (Nat.le_refl _)
 have hv:=zkH n n (Nat.le_refl _)
 have hi:Lib.itoa (n:Int)=Lib.decDigits n:=by simp[Lib.itoa]
 have hne:Lib.decDigits n≠[]:=by
  rw[Lib.decDigits]
  split <;> simp
 have hok:zlM (Lib.decDigits n):=by
  refine⟨by rw[hv];omega,?_⟩
  rw[←zmg hd hne,hv]
  exact hi
 rw[hi]
 generalize hD:Lib.decDigits n=D at *
 cases D with
 | nil=>exact absurd rfl hne
 | cons c u =>
  have hc:zC c=3:=by
   have:=(zsH c).2 (hd c (List.mem_cons_self ..))
   unfold inC at this
   simpa using this
  have htw:((c::u)++t).takeWhile (inC [3])=c::u:=zcl (fun y hy=>(zsH y).2 (hd y hy)) fun y hy=>by
   have:=ht y hy
   rw[←Bool.not_eq_true] at this ⊢
   exact fun hf=>this ((zht y).2 (.inr (by unfold inC at hf;simpa using hf)))
  have hk:=Tok.num c (u++t) hc
  rw[show c::(u++t)=(c::u)++t from rfl] at hk
  unfold zdU at hk
  rw[htw,if_pos hok,hv] at hk
  exact zds (by rw[hc];decide) (by rw[hc];decide) hk (L:=L) (show Lxs (((c::u)++t).drop (c::u).length) L by rw[List.drop_left];exact h)
theorem znf {t:List UInt8} {l P:List Part} {n:Nat}:∀ (s:List UInt8) (b:List UInt8),zaV s=true→Qx t l (b++s) (some (P,n))→Qx (qS s++t) l b (some (P,n+(qS s).length))
 | [],b,_,h=>by simpa [qS] using h
 | c::s,b,hp,h=>by
  simp only[zaV,List.all_cons,Bool.and_eq_true] at hp
  have h':=znf s (b++[c]) hp.2 (by simpa using h)
  have hq:qS (c::s)=qC c++qS s:=by rw[qS,List.flatMap_cons];rfl
  rw[hq,List.append_assoc]
  have hc:=hp.1
  simp only[zbL,Bool.or_eq_true,decide_eq_true_eq] at hc
  unfold qC
  by_cases h1:c.toNat=34∨c.toNat=92∨c.toNat=36
  ·rw[if_pos h1]
   have he:zes c=some c:=by
    have:c=34∨c=92∨c=36:=by
     rcases h1 with h | h | h
     ·exact .inl (UInt8.toNat_inj.1 h)
     ·exact .inr (.inl (UInt8.toNat_inj.1 h))
     exact .inr (.inr (UInt8.toNat_inj.1 h))
    rw[zes,if_pos this]
   have:=Qx.esc c c _ l b _ he h'
   rw[show n+(([92,c]:List UInt8)++qS s).length=n+(qS s).length+2 by simp;omega]
   exact this
  rw[if_neg h1]
  by_cases h10:c.toNat=10
  ·rw[if_pos h10]
   have hc10:c=10:=UInt8.toNat_inj.1 h10
   subst hc10
   have:=Qx.esc 110 10 _ l b _ (by decide) h'
   rw[show n+(([92,110]:List UInt8)++qS s).length=n+(qS s).length+2 by simp;omega]
   exact this
  rw[if_neg h10]
  have:=Qx.plain c _ l b _ (fun e=>h1 (.inl (by rw[e];rfl))) (by omega) (fun e=>h1 (.inr (.inl (by rw[e];rfl)))) (fun e=>absurd (.inr (.inr (by rw[e];rfl))) h1) h'
  simpa [Nat.add_assoc,Nat.add_comm,Nat.add_left_comm] using this
theorem zgz {t:List UInt8}:∀ (ps:List Part) (f:Bool) (l:List Part) (b:List UInt8),zx f ps=true→(f=false→b=[])→Qx (ps.flatMap ptS++34::t) l b (some (zG l b++ps,(ps.flatMap ptS).length+1))
 | [],f,l,b,_,_=>by
  have:=Qx.shut t l b
  simpa using this
 | p::ps,f,l,b,hp,hb=>by
  rw[zx] at hp
  rw[List.flatMap_cons,List.append_assoc]
  by_cases hr:p.Ref=true
  ·rw[if_pos hr,Bool.and_eq_true] at hp
   obtain⟨h1,h2⟩:=hp
   obtain⟨x,y,hxy,hx,hy⟩:=zbX h1
   have h3:=zgz (t:=t) ps false (zG l b++[Part.mk true p.Text]) [] h2 (fun _=>rfl)
   have hrf:zD (p.Text++125::(ps.flatMap ptS++34::t))=(p.Text,true):=by
    rw[hxy,show (x++46::y)++125::(ps.flatMap ptS++34::t)=x++46::(y++125::(ps.flatMap ptS++34::t)) by simp]
    exact zod hx hy
   have h4:=Qx.ref (p.Text++125::(ps.flatMap ptS++34::t)) l b _ (by rw[hrf]) (by
    rw[hrf]
    have e:(p.Text++125::(ps.flatMap ptS++34::t)).drop (p.Text.length+1)=ps.flatMap ptS++34::t:=by
     rw[←List.drop_drop,List.drop_left]
     rfl
    rw[e]
    exact h3)
   rw[hrf] at h4
   have hpe:(Part.mk true p.Text)=p:=by rw[←hr]
   rw[ptS,if_pos hr]
   rw[hpe] at h4
   have e2:zG (zG l b++[p]) []++ps=zG l b++p::ps:=by simp[zG]
   rw[e2] at h4
   have e3:([36,123]++p.Text++[125])++(ps.flatMap ptS++34::t)=36::123::(p.Text++125::(ps.flatMap ptS++34::t)):=by simp
   rw[e3]
   have e4:(([36,123]++p.Text++[125])++ps.flatMap ptS).length+1=(ps.flatMap ptS).length+1+(3+p.Text.length):=by simp;omega
   rw[e4]
   exact h4
  rw[if_neg hr] at hp
  simp only[Bool.and_eq_true,Bool.not_eq_true',decide_eq_false_iff_not] at hp
  obtain⟨⟨⟨h1,h2⟩,h3⟩,h4⟩:=hp
  have hb0:=hb h2
  subst hb0
  have h5:=zgz (t:=t) ps true l p.Text h4 (fun e=>by cases e)
  have h6:=znf p.Text [] h3 (by rw[List.nil_append];exact h5)
  have hrf:p.Ref=false:=by simpa using hr
  have e2:zG l p.Text++ps=zG l []++p::ps:=by
   have:Part.mk false p.Text=p:=by rw[←hrf]
   simp[zG,h1,this]
  rw[e2] at h6
  rw[ptS,if_neg hr,List.length_append]
  have e4:(qS p.Text).length+(ps.flatMap ptS).length+1=(ps.flatMap ptS).length+1+(qS p.Text).length:=by omega
  rw[e4]
  exact h6
theorem ztK {ps:List Part} (hp:zx false ps=true) {t:List UInt8} {L:List Token} (h:Lxs t L):Lxs (qtS ps++t) (zeI ps::L):=by
 have h1:=zgz (t:=t) ps false [] [] hp (fun _=>rfl)
 have hk:=Tok.text _ _ h1
 have e:qtS ps++t=34::(ps.flatMap ptS++34::t):=by simp[qtS]
 rw[e]
 have:=zds (by decide) (by decide) hk (L:=L) (by
  have e2:(34::(ps.flatMap ptS++34::t)).drop ((ps.flatMap ptS).length+1+1)=t:=by
   rw[List.drop_succ_cons,←List.drop_drop,List.drop_left]
   rfl
  rw[e2]
  exact h)
 simpa [σ,zeI,zG] using this
end Go.Proofs.YtfbcnpbhhooapaaGreatDoor.M

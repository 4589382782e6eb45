/- Parts of a proof, one behind another: Bk2, Bk3, X0, R, R2, Lu, Sc4, Lt4, Wp2, Wy1, Sc12, Lt12, Sc13, Lt13, Sc1, Lt1, Sc2, Lt2, Wl1, Wl2, Wl3, Wl4, Wl5, Wl6, Wl7, Wl8, Wl9, Wl10, WlD, Wu1, Wu2. -/
import Derived.Test.YtfbcnpbhhooapaaGreatDoorZShowLeast2
import Derived.KernelRfl
import Derived.Test.YtfbcnpbhhooapaaGreatDoorProg
import Derived.Lib.ItoaLen
set_option linter.unusedSimpArgs false
set_option linter.unusedVariables false
set_option linter.unusedSectionVars false
set_option maxHeartbeats 4000000
namespace Go.Proofs.YtfbcnpbhhooapaaGreatDoor.Bk
open Go Go.RowKit Go.Shelf
attribute [local go_sem] Oper.semAt_some
def run (o:Int→Int):Int→List Int→Int
 | f,[]=>f
 | f,k::ks=>if k < 0∨k≠f - 1 then -1 else if o k < 0 then -1 else run o (o k) ks
theorem zer (zs:List Int):∀ k,k≤zs.length→(zdV (bk zs) k).map (·.2)=zs.reverse.take k
 | 0,_=>by simp[zdV]
 | k+1,h=>by
  rw[zhn,List.map_append,zer zs k (by omega),List.take_add_one,List.getElem?_reverse (by omega)]
  have:zs.length - 1 - k < zs.length:=by omega
  simp[bk,this]
theorem zid {W W':World} (h:Below W.heap.size W W'):KeepsOthers W W':=⟨h.size,fun j o hj _=>by
 rw[h.block j (Array.getElem?_eq_some_iff.1 hj).1];exact hj⟩
structure Bx (w:World) (lv r:Value) (nd:Array Value) (W:World):Prop where
 below:Below w.heap.size w W
 size:w.heap.size+3≤W.heap.size
 h2:W.heap[w.heap.size]?=some (.cells #[lv] 35 (0,0))
 h4:W.heap[w.heap.size+1]?=some (.cells #[r] 3 (0,0))
 h5:W.heap[w.heap.size+2]?=some (.cells nd 41 (0,0))
theorem Bx.on {w:World} {lv r:Value} {nd:Array Value} {W W':World} (h:Bx w lv r nd W) (hb:Below (w.heap.size+3) W W'):Bx w lv r nd W' :=
 ⟨h.below.trans (hb.mono (by omega)),Nat.le_trans h.size hb.size,(hb.block _ (by omega)).trans h.h2,(hb.block _ (by omega)).trans h.h4,(hb.block _ (by omega)).trans h.h5⟩
theorem Bx.c2 {w:World} {lv r:Value} {nd:Array Value} {W:World} (h:Bx w lv r nd W):W.cell? ⟨w.heap.size,0,none⟩=some lv:=by simp[World.cell?,h.h2]
theorem Bx.c4 {w:World} {lv r:Value} {nd:Array Value} {W:World} (h:Bx w lv r nd W):W.cell? ⟨w.heap.size+1,0,none⟩=some r:=by simp[World.cell?,h.h4]
theorem Bx.f4 {w:World} {lv r:Value} {nd:Array Value} {W:World} (h:Bx w lv r nd W):W.frozen? ⟨w.heap.size+1,0,none⟩=false:=by simp[World.frozen?,h.h4]
theorem Bx.c5 {w:World} {lv r:Value} {nd:Array Value} {W:World} (h:Bx w lv r nd W) (j:Nat):W.cell? ⟨w.heap.size+2,j,none⟩=nd[j]?:=by simp[World.cell?,h.h5]
theorem Bx.new (w:World) (lv r:Value) (nd:Array Value):Bx w lv r nd (((w.alloc (.cells #[lv] 35)).alloc (.cells #[r] 3)).alloc (.cells nd 41)):=by
 refine⟨(((Below.refl _ w).alloc (Nat.le_refl _) _).alloc (by simp) _).alloc (by simp;omega) _,by simp,?_,?_,?_⟩
 ·exact (Below.heap_alloc _ _ _ (by simp;omega)).trans ((Below.heap_alloc _ _ _ (by simp)).trans (World.alloc_heap_new w _))
 ·refine (Below.heap_alloc _ _ _ (by simp)).trans ?_
  have:=World.alloc_heap_new (w.alloc (.cells #[lv] 35)) (.cells #[r] 3)
  rwa [World.size_alloc] at this
 have:=World.alloc_heap_new ((w.alloc (.cells #[lv] 35)).alloc (.cells #[r] 3)) (.cells nd 41)
 rwa [World.size_alloc,World.size_alloc] at this
structure Ls (w:World) (bf:Nat) (lv sv:Value) (r f:Int) (W:World):Prop where
 below:Below w.heap.size w W
 lt:w.heap.size+2 < bf
 l:Boxed W w.heap.size 35 lv
 r:Boxed W (w.heap.size+1) 3 (.int .i64 r)
 f:Boxed W bf 3 (.int .i64 f)
 s:Boxed W (bf+1) 39 sv
theorem Ls.own {w:World} {bf:Nat} {lv sv:Value} {r f:Int} {W W':World} {B:Nat} {row:Option Nat} (h:Ls w bf lv sv r f W) (hB:w.heap.size≤B) (hg:W.grownBy W' row) (hr:∀ r,row=some r→B≤r∧∃ o:Obj,W.heap[r]?=some o∧o.isCells=false):Ls w bf lv sv r f W':=by
 have hb:∀ (B:Nat) (t:TypeId) (v:Value),Boxed W B t v→Boxed W' B t v:=fun B t v h=>h.kept hg (fun e=>by
  obtain⟨_,o,ho,hc⟩:=hr B e.symm
  rw[show W.heap[B]?=_ from h] at ho;cases ho;cases hc)
 exact⟨h.below.grown hg h.below.size (fun k e=>Nat.le_trans hB (hr k e).1),h.lt,hb _ _ _ h.l,hb _ _ _ h.r,hb _ _ _ h.f,hb _ _ _ h.s⟩
theorem Ls.setR {w:World} {bf:Nat} {lv sv:Value} {r f:Int} {W:World} (h:Ls w bf lv sv r f W) (r':Int):Ls w bf lv sv r' f (W.setCell ⟨w.heap.size+1,0,none⟩ (.int .i64 r')) :=
 have hl:=h.lt
 ⟨h.below.setCell (p:=⟨w.heap.size+1,0,none⟩) (by simp) _,h.lt,h.l.other (by omega) _,h.r.set _,h.f.other (by omega) _,h.s.other (by omega) _⟩
theorem Ls.setF {w:World} {bf:Nat} {lv sv:Value} {r f:Int} {W:World} (h:Ls w bf lv sv r f W) (f':Int):Ls w bf lv sv r f' (W.setCell ⟨bf,0,none⟩ (.int .i64 f')) :=
 have hl:=h.lt
 ⟨h.below.setCell (p:=⟨bf,0,none⟩) (by simp;omega) _,h.lt,h.l.other (by omega) _,h.r.other (by omega) _,h.f.set _,h.s.other (by omega) _⟩
theorem Ls.on {w:World} {bf:Nat} {lv sv:Value} {r f:Int} {W W':World} (h:Ls w bf lv sv r f W) (hb:Below W.heap.size W W'):Ls w bf lv sv r f W' :=
 have k:∀ (B:Nat) (t:TypeId) (v:Value),Boxed W B t v→Boxed W' B t v:=fun B t v h=>(hb.block B h.lt).trans h
 ⟨h.below.trans (hb.mono h.below.size),h.lt,k _ _ _ h.l,k _ _ _ h.r,k _ _ _ h.f,k _ _ _ h.s⟩
theorem Ls.kq {w:World} {bf:Nat} {lv sv:Value} {r f r' f':Int} {W W':World} (h:Ls w bf lv sv r f W) (h':Ls w bf lv sv r' f' W') (hb:Below w.heap.size W W'):Kq w.heap.size (bf+1) W W':=⟨hb,(show W'.heap[bf+1]?=_ from h'.s).trans (show W.heap[bf+1]?=_ from h.s).symm⟩
def LI (w:World) (bf:Nat) (lv sv:Value) (o:Int→Int) (e:Nat) (pre:List (Int × Int)) (W:World):Prop:=∃ f:Int,Ls w bf lv sv 0 f W∧0≤f∧f≤e∧∀ rest,run o e (pre.map (·.2)++rest)=run o f rest
def LX (w:World) (bf:Nat) (lv sv:Value) (o:Int→Int) (e:Nat) (c:Code) (pre:List (Int × Int)) (W:World):Prop:=∃ f:Int,Ls w bf lv sv (-1) f W∧c=.ret∧∀ rest,run o e (pre.map (·.2)++rest)=-1
theorem LI.own {w:World} {bf:Nat} {lv sv:Value} {o:Int→Int} {e B:Nat} (hB:w.heap.size≤B):OwnFrom B (LI w bf lv sv o e):=fun s W W' row ⟨f,h1,h2⟩ hg hr=>⟨f,h1.own hB hg hr,h2⟩
theorem LX.own {w:World} {bf:Nat} {lv sv:Value} {o:Int→Int} {e B:Nat} (hB:w.heap.size≤B) (c:Code):OwnFrom B (LX w bf lv sv o e c):=fun s W W' row ⟨f,h1,h2⟩ hg hr=>⟨f,h1.own hB hg hr,h2⟩
set_option maxRecDepth 100000 in
theorem begin_in (w:World) (bl ol ln cp e:Nat) (kind num:Int) (text:ByteArray) (A3 A4:Option Addr) (l3 c3 l4 c4:Nat) (ks:List Int) (kk:Int) (pp:Bool) (o:Int→Int) (res:Int)
  (hbl:bl < w.heap.size) (he:e < ln) (hln:ln≤1000000000) (hlc:ln≤cp)
  (q0:w.cell? ⟨bl,ol+e*5,none⟩=some (.int .i64 kind)) (q1:w.cell? ⟨bl,ol+e*5+1,none⟩=some (.int .i64 num)) (q2:w.cell? ⟨bl,ol+e*5+2,none⟩=some (.string text)) (q3:w.cell? ⟨bl,ol+e*5+3,none⟩=some (.slice A3 l3 c3)) (q4:w.cell? ⟨bl,ol+e*5+4,none⟩=some (.slice A4 l4 c4))
  (hl4:l4=ks.length) (hks:Ints w.heap.size w (.slice A4 l4 c4) ks) (hreach:ks.length≤1000000000)
  (hK:∀ W,Below w.heap.size w W→Calls Tryz.prog 73 #[.int .i64 kind] W fun x W'=>x=.returned (.int .i64 kk)∧Below W.heap.size W W')
  (hP:(kk=ks.length∨kk=-1)→∀ W,Below w.heap.size w W→Calls Tryz.prog 74 #[.agg #[.int .i64 kind,.int .i64 num,.string text,.slice A3 l3 c3,.slice A4 l4 c4]] W fun x W'=>x=.returned (.bool pp)∧Below W.heap.size W W')
  (hB:(kk=ks.length∨kk=-1)→pp=true→∀ k:Int,0≤k→k < e→o k≤k∧∀ W,Below w.heap.size w W→Calls Tryz.prog 47 #[.slice (some ⟨bl,ol,none⟩) ln cp,.int .i64 k] W fun x W'=>x=.returned (.int .i64 (o k))∧Below W.heap.size W W')
  (hr:res=if (kk≠ks.length∧kk≠-1)∨pp=false then -1 else run o e ks.reverse) :
  Calls Tryz.prog 47 #[.slice (some ⟨bl,ol,none⟩) ln cp,.int .i64 (e:Int)] w fun x w' =>
   x=.returned (.int .i64 res)∧Below w.heap.size w w':=by
 subst hl4
 refine (callsIn_wide (n:=9)).1 ?_
 refine callsIn_of_wp_marks Tryz.func47 rfl trivial ?_ rfl
 simp only[Tryz.ntmps47,List.size_toArray,List.length_cons,List.length_nil,Nat.reduceAdd,Nat.reduceSub,Array.replicate_succ,Array.replicate_zero,List.push_toArray,List.append_toArray,List.nil_append,List.cons_append]
 gi_wp2
 refine⟨trivial,?_⟩
 have hx0:=Bx.new w (.slice (some ⟨bl,ol,none⟩) ln cp) (.int .i64 0) #[.int .i64 kind,.int .i64 num,.string text,.slice A3 l3 c3,.slice A4 ks.length c4]
 refine (callsIn_wide.2 (hK _ hx0.below)).mono ?_
 rintro x w1 ⟨rfl,hb1⟩
 have hx1:=hx0.on (hb1.mono (by simp))
 have a2:=hx1.c2
 have a4:=hx1.c4
 have f4:=hx1.f4
 have a50:=hx1.c5 0
 have a51:=hx1.c5 1
 have a52:=hx1.c5 2
 have a53:=hx1.c5 3
 have a54:=hx1.c5 4
 simp only[List.getElem?_toArray,List.getElem?_cons_zero,List.getElem?_cons_succ] at a50 a51 a52 a53 a54
 gi_wp2
 ·refine⟨trivial,?_⟩
  refine ((callsIn_wide (n:=8)).2 (hP (.inl (by assumption)) w1 hx1.below)).mono ?_
  rintro x w2 ⟨rfl,hb2⟩
  have hx2:=hx1.on (hb2.mono hx1.size)
  have d2:=hx2.c2
  have d4:=hx2.c4
  have g4:=hx2.f4
  have d54:=hx2.c5 4
  simp only[List.getElem?_toArray,List.getElem?_cons_zero,List.getElem?_cons_succ] at d54
  cases pp with
  | false =>
   gi_wp2
   have hb4:Boxed w2 (w.heap.size+1) 3 (.int .i64 0):=hx2.h4
   have hc5:=(hb4.set (.int .i64 (-1))).cell
   refine⟨.int .i64 (-1),?_,by rw[hr];simp,hx2.below.setCell (p:=⟨w.heap.size+1,0,none⟩) (by simp) _⟩
   simp[results,Tryz.f47,go_sem,hc5]
  | true =>
   have hx3:=hx2.on (((Below.refl _ w2).alloc hx2.size (.cells #[.int .i64 (e:Int)] 3)))
   have hz:w.heap.size+1+1 < w2.heap.size:=by have:=hx2.size;omega
   have e54:=hx3.c5 4
   simp only[List.getElem?_toArray,List.getElem?_cons_zero,List.getElem?_cons_succ] at e54
   gi_wp2
   refine⟨trivial,?_⟩
   refine (zh7 Fence.wide 8 trivial rfl A4 ks.length c4 _).mono ?_
   rintro x w4 ⟨rfl,rfl⟩
   gi_wp2
   have hW2:=hx2.below.size
   have hz2:=hx2.size
   obtain⟨W0,hW0⟩:∃ W0,(w2.alloc (.cells #[.int .i64 (e:Int)] 3)).alloc (.cells #[.slice A4 ks.length c4] 39)=W0:=⟨_,rfl⟩
   have hs0:W0.heap.size=w2.heap.size+2:=by rw[←hW0];simp
   have hK0:Boxed W0 (w2.heap.size+1) 39 (.slice A4 ks.length c4):=by
    rw[←hW0]
    have:=Boxed.new (w2.alloc (.cells #[.int .i64 (e:Int)] 3)) 39 (.slice A4 ks.length c4)
    rwa [World.size_alloc] at this
   have hF0:Boxed W0 w2.heap.size 3 (.int .i64 (e:Int)):=by
    rw[←hW0]
    exact (Boxed.new w2 3 (.int .i64 (e:Int))).alloc _
   have hb0:Below w2.heap.size w2 W0:=by
    rw[←hW0]
    exact ((Below.refl _ w2).alloc (Nat.le_refl _) _).alloc (by simp) _
   have hx4:=hx2.on (hb0.mono hz2)
   have hL0:Ls w w2.heap.size (.slice (some ⟨bl,ol,none⟩) ln cp) (.slice A4 ks.length c4) 0 e W0:=⟨hx4.below,by omega,hx4.h2,hx4.h4,hF0,hK0⟩
   rw[hW0]
   refine wpIn_rangeFunc_ownG (w0:=W0) rfl (by decide) (gf:=117) (lb:=#[.pointer (some ⟨w2.heap.size+1,0,none⟩)]) rfl trivial (enters_of Tryz.func117 (by kernel_rfl) rfl)
    (ziT Fence.wide 8 trivial rfl (by decide) (w2.heap.size+1) w.heap.size _ ks (by omega) W0 (by omega) (by omega) hK0.cell (hks.below hx4.below)) (fun h k=>Kq.trans h k) (fun W l o o'=>Kq.put (by omega) (by omega) W l o o') (Below.refl _ _) (fun _=>rfl)
    (LI w w2.heap.size (.slice (some ⟨bl,ol,none⟩) ln cp) (.slice A4 ks.length c4) o e)
    (LX w w2.heap.size (.slice (some ⟨bl,ol,none⟩) ln cp) (.slice A4 ks.length c4) o e)
    (LI.own (by omega)) (LX.own (by omega)) ⟨e,hL0,by omega,by omega,fun rest=>rfl⟩ ?a1 ?assign ?body ?done ?stop
   case assign =>
    intro l x W K hK
    gi_wp2
    exact hK
   case body =>
    rintro l pre ⟨x1,x2⟩ W ⟨f,hL,hf0,hfe,hrun⟩ _
    have b2:=hL.l.cell
    have b4:=hL.r.cell
    have b4f:=hL.r.frozen
    have b7:=hL.f.cell
    have b7f:=hL.f.frozen
    have stop:(x2 < 0∨x2≠f - 1)→∀ rest,run o e ((pre++[(x1,x2)]).map (·.2)++rest)=-1:=fun h rest=>by
     rw[List.map_append,List.append_assoc,hrun]
     simp only[List.map_cons,List.map_nil,List.cons_append,List.nil_append,run]
     rw[if_pos h]
    gi_wp2
    ·have hq:x2 < 0∨(x2 != f - 1)=true:=by assumption
     exact⟨(KeepsOthers.setCell _ _ _).from _,f,hL.setR _,rfl,stop (by simpa using hq)⟩
    ·have hq:0≤x2∧(x2 != f - 1)=false:=by assumption
     have hx:x2=f - 1:=by simpa using hq.2
     have h0:0≤x2:=hq.1
     clear hq
     subst hx
     obtain⟨ho,hc⟩:=hB (.inl (by assumption)) (by trivial) (f - 1) h0 (by omega)
     refine⟨trivial,?_⟩
     refine (CallsIn.inRound l ((callsIn_wide (n:=6)).2 (hc W hL.below))).mono ?_
     rintro y W5 ⟨rfl,hb5⟩
     have hL5:=hL.on hb5
     have hL6:=hL5.setF (o (f - 1))
     have c7:=hL5.f.cell
     have c7f:=hL5.f.frozen
     have c8:=hL6.f.cell
     have c4:=hL6.r.cell
     have c45:=hL5.r.cell
     have c4g:=hL5.r.frozen
     have c4f:=hL6.r.frozen
     have go:∀ rest,run o e ((pre++[(x1,f - 1)]).map (·.2)++rest)=if o (f - 1) < 0 then -1 else run o (o (f - 1)) rest:=fun rest=>by
      rw[List.map_append,List.append_assoc,hrun]
      simp only[List.map_cons,List.map_nil,List.cons_append,List.nil_append,run]
      rw[if_neg (by omega)]
     have keep:KeepsOthers W (W5.setCell ⟨w2.heap.size,0,none⟩ (.int .i64 (o (f - 1)))):=(zid hb5).trans (KeepsOthers.setCell _ _ _)
     have bel:Below w.heap.size W (W5.setCell ⟨w2.heap.size,0,none⟩ (.int .i64 (o (f - 1)))):=(hb5.mono hL.below.size).setCell (p:=⟨w2.heap.size,0,none⟩) (by simp;omega) _
     gi_wp2
     ·have hn:o (f - 1) < 0:=by assumption
      exact⟨(keep.trans (KeepsOthers.setCell _ _ _)).from _,_,hL6.setR _,rfl,fun rest=>by rw[go,if_pos hn]⟩
     have hn:0≤o (f - 1):=by assumption
     exact⟨keep.from _,hL.kq hL6 bel,_,hL6,hn,by omega,fun rest=>by rw[go,if_neg (by omega)]⟩
    exact⟨(KeepsOthers.setCell _ _ _).from _,f,hL.setR _,rfl,stop (.inl (by assumption))⟩
   case done =>
    rintro D ys W hD rfl ⟨f,hL,hf0,hfe,hrun⟩ hK
    have b4:=hL.r.cell
    have b4f:=hL.r.frozen
    have b7:=hL.f.cell
    have hL6:=hL.setR f
    have hres:run o e ks.reverse=f:=by
     have:=hrun []
     rw[zer ks ks.length (Nat.le_refl _),List.append_nil,List.take_of_length_le (by simp)] at this
     exact this
    gi_wp2
    have hK':=(KeepsOthers.setCell W ⟨w.heap.size+1,0,none⟩ (.int .i64 f)).same D _ hK rfl
    refine⟨by simp,.inl ⟨_,_,rfl,run_takeDeferred hK',?_⟩⟩
    have hc5:=cell_kept hL6.r.cell (grownBy_putObj' _ D (.deferred none)) (fun r e=>by cases e;exact⟨_,hK',rfl⟩)
    have e0:res=f:=by
     rw[hr,if_neg,hres]
     rintro (h | h)
     ·rcases (show kk=ks.length∨kk=-1 from (.inl (by assumption))) with e | e
      ·exact h.1 e
      exact h.2 e
     cases h
    refine⟨.int .i64 f,?_,by rw[e0],hL6.below.trans (belowK_b (w:=w) (Nat.le_refl _) _ D _ _ (by omega) hK' rfl rfl)⟩
    simp[results,Tryz.f47,go_sem,hc5]
   case stop =>
    rintro D c pre W hD ⟨k,hk,rfl⟩ ⟨f,hL,rfl,hrun⟩ hK
    have hres:run o e ks.reverse=-1:=by
     have:=hrun (ks.reverse.drop k)
     rw[zer ks k hk,List.take_append_drop] at this
     exact this
    gi_wp2
    refine⟨by simp,.inl ⟨_,_,rfl,run_takeDeferred hK,?_⟩⟩
    have hc5:=cell_kept hL.r.cell (grownBy_putObj' _ D (.deferred none)) (fun r e=>by cases e;exact⟨_,hK,rfl⟩)
    have e0:res=-1:=by
     rw[hr,hres]
     split <;> rfl
    refine⟨.int .i64 (-1),?_,by rw[e0],hL.below.trans (belowK_b (w:=w) (Nat.le_refl _) _ D _ _ (by omega) hK rfl rfl)⟩
    simp[results,Tryz.f47,go_sem,hc5]
 ·refine⟨trivial,?_⟩
  refine ((callsIn_wide (n:=8)).2 (hP (.inr (by assumption)) w1 hx1.below)).mono ?_
  rintro x w2 ⟨rfl,hb2⟩
  have hx2:=hx1.on (hb2.mono hx1.size)
  have d2:=hx2.c2
  have d4:=hx2.c4
  have g4:=hx2.f4
  have d54:=hx2.c5 4
  simp only[List.getElem?_toArray,List.getElem?_cons_zero,List.getElem?_cons_succ] at d54
  cases pp with
  | false =>
   gi_wp2
   have hb4:Boxed w2 (w.heap.size+1) 3 (.int .i64 0):=hx2.h4
   have hc5:=(hb4.set (.int .i64 (-1))).cell
   refine⟨.int .i64 (-1),?_,by rw[hr];simp,hx2.below.setCell (p:=⟨w.heap.size+1,0,none⟩) (by simp) _⟩
   simp[results,Tryz.f47,go_sem,hc5]
  | true =>
   have hx3:=hx2.on (((Below.refl _ w2).alloc hx2.size (.cells #[.int .i64 (e:Int)] 3)))
   have hz:w.heap.size+1+1 < w2.heap.size:=by have:=hx2.size;omega
   have e54:=hx3.c5 4
   simp only[List.getElem?_toArray,List.getElem?_cons_zero,List.getElem?_cons_succ] at e54
   gi_wp2
   refine⟨trivial,?_⟩
   refine (zh7 Fence.wide 8 trivial rfl A4 ks.length c4 _).mono ?_
   rintro x w4 ⟨rfl,rfl⟩
   gi_wp2
   have hW2:=hx2.below.size
   have hz2:=hx2.size
   obtain⟨W0,hW0⟩:∃ W0,(w2.alloc (.cells #[.int .i64 (e:Int)] 3)).alloc (.cells #[.slice A4 ks.length c4] 39)=W0:=⟨_,rfl⟩
   have hs0:W0.heap.size=w2.heap.size+2:=by rw[←hW0];simp
   have hK0:Boxed W0 (w2.heap.size+1) 39 (.slice A4 ks.length c4):=by
    rw[←hW0]
    have:=Boxed.new (w2.alloc (.cells #[.int .i64 (e:Int)] 3)) 39 (.slice A4 ks.length c4)
    rwa [World.size_alloc] at this
   have hF0:Boxed W0 w2.heap.size 3 (.int .i64 (e:Int)):=by
    rw[←hW0]
    exact (Boxed.new w2 3 (.int .i64 (e:Int))).alloc _
   have hb0:Below w2.heap.size w2 W0:=by
    rw[←hW0]
    exact ((Below.refl _ w2).alloc (Nat.le_refl _) _).alloc (by simp) _
   have hx4:=hx2.on (hb0.mono hz2)
   have hL0:Ls w w2.heap.size (.slice (some ⟨bl,ol,none⟩) ln cp) (.slice A4 ks.length c4) 0 e W0:=⟨hx4.below,by omega,hx4.h2,hx4.h4,hF0,hK0⟩
   rw[hW0]
   refine wpIn_rangeFunc_ownG (w0:=W0) rfl (by decide) (gf:=117) (lb:=#[.pointer (some ⟨w2.heap.size+1,0,none⟩)]) rfl trivial (enters_of Tryz.func117 (by kernel_rfl) rfl)
    (ziT Fence.wide 8 trivial rfl (by decide) (w2.heap.size+1) w.heap.size _ ks (by omega) W0 (by omega) (by omega) hK0.cell (hks.below hx4.below)) (fun h k=>Kq.trans h k) (fun W l o o'=>Kq.put (by omega) (by omega) W l o o') (Below.refl _ _) (fun _=>rfl)
    (LI w w2.heap.size (.slice (some ⟨bl,ol,none⟩) ln cp) (.slice A4 ks.length c4) o e)
    (LX w w2.heap.size (.slice (some ⟨bl,ol,none⟩) ln cp) (.slice A4 ks.length c4) o e)
    (LI.own (by omega)) (LX.own (by omega)) ⟨e,hL0,by omega,by omega,fun rest=>rfl⟩ ?a2 ?assign ?body ?done ?stop
   case assign =>
    intro l x W K hK
    gi_wp2
    exact hK
   case body =>
    rintro l pre ⟨x1,x2⟩ W ⟨f,hL,hf0,hfe,hrun⟩ _
    have b2:=hL.l.cell
    have b4:=hL.r.cell
    have b4f:=hL.r.frozen
    have b7:=hL.f.cell
    have b7f:=hL.f.frozen
    have stop:(x2 < 0∨x2≠f - 1)→∀ rest,run o e ((pre++[(x1,x2)]).map (·.2)++rest)=-1:=fun h rest=>by
     rw[List.map_append,List.append_assoc,hrun]
     simp only[List.map_cons,List.map_nil,List.cons_append,List.nil_append,run]
     rw[if_pos h]
    gi_wp2
    ·have hq:x2 < 0∨(x2 != f - 1)=true:=by assumption
     exact⟨(KeepsOthers.setCell _ _ _).from _,f,hL.setR _,rfl,stop (by simpa using hq)⟩
    ·have hq:0≤x2∧(x2 != f - 1)=false:=by assumption
     have hx:x2=f - 1:=by simpa using hq.2
     have h0:0≤x2:=hq.1
     clear hq
     subst hx
     obtain⟨ho,hc⟩:=hB (.inr (by assumption)) (by trivial) (f - 1) h0 (by omega)
     refine⟨trivial,?_⟩
     refine (CallsIn.inRound l ((callsIn_wide (n:=6)).2 (hc W hL.below))).mono ?_
     rintro y W5 ⟨rfl,hb5⟩
     have hL5:=hL.on hb5
     have hL6:=hL5.setF (o (f - 1))
     have c7:=hL5.f.cell
     have c7f:=hL5.f.frozen
     have c8:=hL6.f.cell
     have c4:=hL6.r.cell
     have c45:=hL5.r.cell
     have c4g:=hL5.r.frozen
     have c4f:=hL6.r.frozen
     have go:∀ rest,run o e ((pre++[(x1,f - 1)]).map (·.2)++rest)=if o (f - 1) < 0 then -1 else run o (o (f - 1)) rest:=fun rest=>by
      rw[List.map_append,List.append_assoc,hrun]
      simp only[List.map_cons,List.map_nil,List.cons_append,List.nil_append,run]
      rw[if_neg (by omega)]
     have keep:KeepsOthers W (W5.setCell ⟨w2.heap.size,0,none⟩ (.int .i64 (o (f - 1)))):=(zid hb5).trans (KeepsOthers.setCell _ _ _)
     have bel:Below w.heap.size W (W5.setCell ⟨w2.heap.size,0,none⟩ (.int .i64 (o (f - 1)))):=(hb5.mono hL.below.size).setCell (p:=⟨w2.heap.size,0,none⟩) (by simp;omega) _
     gi_wp2
     ·have hn:o (f - 1) < 0:=by assumption
      exact⟨(keep.trans (KeepsOthers.setCell _ _ _)).from _,_,hL6.setR _,rfl,fun rest=>by rw[go,if_pos hn]⟩
     have hn:0≤o (f - 1):=by assumption
     exact⟨keep.from _,hL.kq hL6 bel,_,hL6,hn,by omega,fun rest=>by rw[go,if_neg (by omega)]⟩
    exact⟨(KeepsOthers.setCell _ _ _).from _,f,hL.setR _,rfl,stop (.inl (by assumption))⟩
   case done =>
    rintro D ys W hD rfl ⟨f,hL,hf0,hfe,hrun⟩ hK
    have b4:=hL.r.cell
    have b4f:=hL.r.frozen
    have b7:=hL.f.cell
    have hL6:=hL.setR f
    have hres:run o e ks.reverse=f:=by
     have:=hrun []
     rw[zer ks ks.length (Nat.le_refl _),List.append_nil,List.take_of_length_le (by simp)] at this
     exact this
    gi_wp2
    have hK':=(KeepsOthers.setCell W ⟨w.heap.size+1,0,none⟩ (.int .i64 f)).same D _ hK rfl
    refine⟨by simp,.inl ⟨_,_,rfl,run_takeDeferred hK',?_⟩⟩
    have hc5:=cell_kept hL6.r.cell (grownBy_putObj' _ D (.deferred none)) (fun r e=>by cases e;exact⟨_,hK',rfl⟩)
    have e0:res=f:=by
     rw[hr,if_neg,hres]
     rintro (h | h)
     ·rcases (show kk=ks.length∨kk=-1 from (.inr (by assumption))) with e | e
      ·exact h.1 e
      exact h.2 e
     cases h
    refine⟨.int .i64 f,?_,by rw[e0],hL6.below.trans (belowK_b (w:=w) (Nat.le_refl _) _ D _ _ (by omega) hK' rfl rfl)⟩
    simp[results,Tryz.f47,go_sem,hc5]
   case stop =>
    rintro D c pre W hD ⟨k,hk,rfl⟩ ⟨f,hL,rfl,hrun⟩ hK
    have hres:run o e ks.reverse=-1:=by
     have:=hrun (ks.reverse.drop k)
     rw[zer ks k hk,List.take_append_drop] at this
     exact this
    gi_wp2
    refine⟨by simp,.inl ⟨_,_,rfl,run_takeDeferred hK,?_⟩⟩
    have hc5:=cell_kept hL.r.cell (grownBy_putObj' _ D (.deferred none)) (fun r e=>by cases e;exact⟨_,hK,rfl⟩)
    have e0:res=-1:=by
     rw[hr,hres]
     split <;> rfl
    refine⟨.int .i64 (-1),?_,by rw[e0],hL.below.trans (belowK_b (w:=w) (Nat.le_refl _) _ D _ _ (by omega) hK rfl rfl)⟩
    simp[results,Tryz.f47,go_sem,hc5]
 refine⟨trivial,?_⟩
 gi_wp2
 have hb4:Boxed w1 (w.heap.size+1) 3 (.int .i64 0):=hx1.h4
 have hc5:=(hb4.set (.int .i64 (-1))).cell
 refine⟨.int .i64 (-1),?_,?_,hx1.below.setCell (p:=⟨w.heap.size+1,0,none⟩) (by simp) _⟩
 ·simp[results,Tryz.f47,go_sem,hc5]
 rw[hr,if_pos]
 exact .inl ⟨by assumption,by assumption⟩
end Go.Proofs.YtfbcnpbhhooapaaGreatDoor.Bk
namespace Go.Proofs.YtfbcnpbhhooapaaGreatDoor.M
open Go Go.RowKit Classical
section
variable [Base] {g g':Gh} {S S':Sto} {w w':World} {P:Program}
def zl0 (g:Gh):Gh:=⟨fun _ _=>none,fun _ _=>none,g.fz⟩
theorem zg6 (g:Gh) (x:Ow):(zl0 g).own x=none:=by cases x <;> rfl
theorem ztO {W:World} (hw:WR g S w) (hb:Below w.heap.size w W):WR (zl0 g) [] W where
 ok:=⟨Nat.le_trans hw.ok.size hb.size,fun k hk=>(hb.block k (Nat.lt_of_lt_of_le hk hw.ok.size)).trans (hw.ok.keep k hk),fun x k h=>by rw[zg6] at h;cases h⟩
 fz:=fun b o v h=>by
  have h1:=hw.fz b o v h
  have hlt:=zcc h1
  unfold World.cell? at h1 ⊢
  rw[hb.block b hlt]
  exact h1
 box:=fun n t b h=>by cases h
 arr:=fun n k ai h=>by cases h
 inj:=fun x y b h=>by rw[zg6] at h;cases h
theorem zni {cl:ze} (hcl:zQ P cl) {f:Nat} {args:List PV} {v:PV} (ho:zaB cl f args=some v) {W:World} (hw:WR g S w) (hb:Below w.heap.size w W) {cs:Array Value} (ha:zbP (zl0 g) args cs) (he:(callFunc f cs).run P W=.ok (.enter f cs) W) :
  Calls P f cs W fun e W'=>∃ c g',e=.returned c∧VR g' v c∧Below W.heap.size W W':=by
 have h1:=zgD ho
 have h2:=hcl f args [] (by rw[h1];intro e;cases e) (zl0 g) W cs (ztO hw hb) ha
 rw[h1] at h2
 rcases h2 with⟨_,h2⟩ | ⟨c,W',h2,_⟩
 ·refine h2.mono fun e W' h=>?_
  cases e with
  | returned c =>
   obtain⟨g',_,_,ht,hv,_⟩:=h
   exact⟨c,g',rfl,hv,ht.os,ht.tape,ht.output,ht.size,fun k hk=>ht.keep k hk fun x=>by rw[zg6];exact fun e=>by cases e⟩
  | panicked ch=>exact h.elim
  | outgrown=>exact h.elim
 rw[he] at h2
 cases h2
theorem ziY {g:Gh} {k:IntKind} {n:Int} {c:Value} (h:VR g (.int k n) c):c=.int k n:=by
 cases h with
 | data _ _ h=>cases h;rfl
theorem zvl {g:Gh} {b:Bool} {c:Value} (h:VR g (.bool b) c):c=.bool b:=by
 cases h with
 | data _ _ h=>cases h;rfl
def zep:List (List PV)→Option (List Int)
 | []=>some []
 | [.int .i64 k]::l=>(zep l).map (k::·)
 | _=>none
def zfm (lv:PV) (k:List Int→Qn):Nat→List Int→Qn
 | 0,acc=>k acc
 | n+1,acc=>.ask 47 [lv,.int .i64 (acc.length:Nat)] fun r=>match r with
  | .int .i64 v=>if v≤(acc.length:Nat) then zfm lv k n (acc++[v]) else .no
  | _=>.no
def zmJ (lv:PV) (kind num:Int) (text:List UInt8) (l3 l4:PV) (ks:List Int) (e:Int):Qn :=
 .ask 73 [.int .i64 kind] fun kk=>match kk with
  | .int .i64 kk=>if kk≠(ks.length:Nat)∧kk≠-1 then .ret (.int .i64 (-1)) else
   .ask 74 [.agg [.int .i64 kind,.int .i64 num,.str text,l3,l4]] fun pp=>match pp with
    | .bool pp=>if pp=false then .ret (.int .i64 (-1)) else zfm lv (fun rs=>.ret (.int .i64 (Bk.run (fun k=>(rs[k.toNat]?).getD 0) e ks.reverse))) e.toNat []
    | _=>.no
  | _=>.no
def zgM:List PV→Qn
 | [.list 5 rows full,.int .i64 e] =>
  if 0≤e∧e.toNat < rows.length∧rows.length≤1000000000 then
   match rows[e.toNat]? with
   | some [.int .i64 kind,.int .i64 num,.str text,.list z3 r3 f3,.list 1 r4 f4] =>
    match zep r4 with
    | some ks=>if ks.length≤1000000000 then zmJ (.list 5 rows full) kind num text (.list z3 r3 f3) (.list 1 r4 f4) ks e else .no
    | none=>.no
   | _=>.no
  else .no
 | _=>.no
theorem zjL:∀ {r:List (List PV)} {ks:List Int},zep r=some ks→r=ks.map fun k=>[PV.int .i64 k]
 | [],ks,h=>by cases h;rfl
 | a::l,ks,h=>by
  unfold zep at h
  split at h
  ·rename_i e
   cases e
  ·rename_i k l' e
   obtain⟨q,hq,rfl⟩:=Option.map_eq_some_iff.1 h
   obtain⟨rfl,rfl⟩:=List.cons.inj e
   rw[List.map_cons,←zjL hq]
  cases h
theorem zqu {v:PV} {c:Value} (h:VR g v c):zbP g [v] #[c]:=⟨rfl,fun i u hu=>by
 match i,hu with
 | 0,hu=>cases hu;exact h⟩
theorem zwV {v u:PV} {c d:Value} (h:VR g v c) (h':VR g u d):zbP g [v,u] #[c,d]:=⟨rfl,fun i x hx=>by
 match i,hx with
 | 0,hx=>cases hx;exact h
 | 1,hx=>cases hx;exact h'⟩
theorem zu9 {a0 a1 a2 a3 a4:PV} {u0 u1 u2 u3 u4:Value} (h0:VR g a0 u0) (h1:VR g a1 u1) (h2:VR g a2 u2) (h3:VR g a3 u3) (h4:VR g a4 u4):VR g (.agg [a0,a1,a2,a3,a4]) (.agg #[u0,u1,u2,u3,u4]) :=
 .agg _ _ rfl fun i v hv=>by
  match i,hv with
  | 0,hv=>cases hv;exact h0
  | 1,hv=>cases hv;exact h1
  | 2,hv=>cases hv;exact h2
  | 3,hv=>cases hv;exact h3
  | 4,hv=>cases hv;exact h4
theorem zkI {o:Nat→List PV→Option PV} {lv:PV} {k:List Int→Qn} {v:PV}:∀ (n:Nat) (acc:List Int),(zfm lv k n acc).ev o=some v→∃ rs,rs.length=acc.length+n∧(∀ j,j < acc.length→rs[j]?=acc[j]?)∧(k rs).ev o=some v∧∀ j,acc.length≤j→j < rs.length→∃ u,rs[j]?=some u∧u≤(j:Nat)∧o 47 [lv,.int .i64 (j:Nat)]=some (.int .i64 u)
 | 0,acc,h=>⟨acc,rfl,fun _ _=>rfl,h,fun j h1 h2=>by omega⟩
 | n+1,acc,h=>by
  simp only[zfm,Qn.ev] at h
  cases ho:o 47 [lv,.int .i64 (acc.length:Nat)] with
  | none=>rw[ho] at h;cases h
  | some r =>
   rw[ho] at h
   simp only at h
   split at h
   ·rename_i u
    split at h
    ·rename_i hu
     obtain⟨rs,h1,h2,h3,h4⟩:=zkI n (acc++[u]) h
     simp only[List.length_append,List.length_cons,List.length_nil] at h1 h2 h4
     refine⟨rs,by omega,fun j hj=>(h2 j (by omega)).trans (List.getElem?_append_left hj),h3,fun j hj1 hj2=>?_⟩
     by_cases e:j=acc.length
     ·subst e
      refine⟨u,(h2 acc.length (by omega)).trans (by simp),hu,ho⟩
     exact h4 j (by omega) hj2
    cases h
   cases h
end
theorem zsf [Base]:zt6 Tryz.prog 47 zgM:=by
 intro cl hcl hm args v hq g S w cs hw ha
 unfold zgM at hq
 split at hq
 ·rename_i rows full e
  split at hq
  ·rename_i hc
   obtain⟨he0,hel,hrl⟩:=hc
   split at hq
   ·rename_i kind num text z3 r3 f3 r4 f4 hrow
    split at hq
    ·rename_i ks hks
     split at hq
     ·rename_i hkl
      obtain⟨c,d,rfl,h1,h2⟩:=zhp ha
      obtain rfl:=ziY h2
      cases h1 with
      | data _ _ h1 =>
       have h10:=h1
       cases h1 with
       | list _ _ _ A cap cv hl hf hs hA hcell hv =>
        have hne:rows≠[]:=fun e=>by rw[e] at hel;simp at hel
        obtain⟨ad,rfl,hspot⟩:=hA hne
        obtain⟨bl,ol,sp⟩:=ad
        simp only at hspot
        subst hspot
        have q:∀ (j:Nat) (u:PV),[PV.int .i64 kind,.int .i64 num,.str text,.list z3 r3 f3,.list 1 r4 f4][j]?=some u→w.cell? ⟨bl,ol+(e.toNat*5+j),none⟩=some (cv e.toNat j)∧FR g.fz u (cv e.toNat j):=fun j u hu =>
         ⟨hw.fz _ _ _ (hcell ⟨bl,ol,none⟩ e.toNat j _ u rfl hrow hu),hv e.toNat j _ u hrow hu⟩
        obtain⟨q0,v0⟩:=q 0 _ rfl
        obtain⟨q1,v1⟩:=q 1 _ rfl
        obtain⟨q2,v2⟩:=q 2 _ rfl
        obtain⟨q3,v3⟩:=q 3 _ rfl
        obtain⟨q4,v4⟩:=q 4 _ rfl
        have w3:=v3
        have w4:=v4
        generalize cv e.toNat 0=u0 at *
        generalize cv e.toNat 1=u1 at *
        generalize cv e.toNat 2=u2 at *
        generalize cv e.toNat 3=u3 at *
        generalize cv e.toNat 4=u4 at *
        cases v0
        cases v1
        cases v2
        cases v3 with
        | list _ _ _ A3 c3 _ _ _ _ _ _ _ =>
         cases v4 with
         | list _ _ _ A4 c4 cv4 _ _ _ hA4 hcell4 hv4 =>
          have hbl:bl < w.heap.size:=zcc q0
          have hr4:=zjL hks
          have hl4:r4.length=ks.length:=by rw[hr4,List.length_map]
          have hkid:∀ j,j < ks.length→r4[j]?=some [.int .i64 ((ks[j]?).getD 0)]:=fun j hj=>by rw[hr4,List.getElem?_map,List.getElem?_eq_getElem hj];rfl
          have hI:Bk.Ints w.heap.size w (.slice A4 r4.length c4) ks:=by
           by_cases h0:0 < ks.length
           ·have hne4:r4≠[]:=fun e=>by rw[e] at hl4;simp at hl4;omega
            obtain⟨⟨b4,o4,sp4⟩,rfl,hs4⟩:=hA4 hne4
            simp only at hs4
            subst hs4
            have hcell4':∀ j,j < ks.length→w.cell? ⟨b4,o4+j,none⟩=some (.int .i64 ((ks[j]?).getD 0)):=fun j hj=>by
             have h5:=hcell4 ⟨b4,o4,none⟩ j 0 _ _ rfl (hkid j hj) rfl
             have h6:=hv4 j 0 _ _ (hkid j hj) rfl
             have h7:=hw.fz _ _ _ h5
             simp only[Nat.mul_one,Nat.add_zero] at h7
             rw[h7,ziY (g:=g) (.data _ _ h6)]
            exact .inr ⟨h0,b4,o4,c4,by rw[hl4],zcc (hcell4' 0 h0),hcell4'⟩
           exact .inl ⟨A4,c4,by rw[hl4,show ks.length=0 by omega],List.length_eq_zero_iff.1 (by omega)⟩
          have ee:e=((e.toNat:Nat):Int):=by omega
          unfold zmJ at hq
          simp only[Qn.ev] at hq
          cases hk73:zaB cl 73 [.int .i64 kind] with
          | none=>rw[hk73] at hq;cases hq
          | some k73 =>
           rw[hk73] at hq
           simp only at hq
           split at hq
           ·rename_i kk
            have hK:∀ W,Below w.heap.size w W→Calls Tryz.prog 73 #[.int .i64 kind] W fun x W'=>x=.returned (.int .i64 kk)∧Below W.heap.size W W':=fun W hb =>
             (zni hcl hk73 hw hb (zqu (.data _ _ (.int _ _))) (enters_of Tryz.func73 (by kernel_rfl) rfl _ _)).mono fun x W' ⟨c,g',h1,h2,h3⟩=>⟨by rw[h1,ziY h2],h3⟩
            have fin:∀ (res:Int) (pp:Bool) (o:Int→Int),
              ((kk=ks.length∨kk=-1)→∀ W,Below w.heap.size w W→Calls Tryz.prog 74 #[.agg #[.int .i64 kind,.int .i64 num,.string ⟨text.toArray⟩,.slice A3 r3.length c3,.slice A4 r4.length c4]] W fun x W'=>x=.returned (.bool pp)∧Below W.heap.size W W') →
              ((kk=ks.length∨kk=-1)→pp=true→∀ k:Int,0≤k→k < e.toNat→o k≤k∧∀ W,Below w.heap.size w W→Calls Tryz.prog 47 #[.slice (some ⟨bl,ol,none⟩) rows.length cap,.int .i64 k] W fun x W'=>x=.returned (.int .i64 (o k))∧Below W.heap.size W W') →
              (res=if (kk≠ks.length∧kk≠-1)∨pp=false then -1 else Bk.run o e.toNat ks.reverse)→v=.int .i64 res →
              Answers Tryz.prog 47 #[.slice (some ⟨bl,ol,none⟩) rows.length cap,.int .i64 e] w (zV g S w (.ok (.v v) S)):=fun res pp o hP hB hr hv=>by
             have key:=Bk.begin_in w bl ol rows.length cap e.toNat kind num ⟨text.toArray⟩ A3 A4 r3.length c3 r4.length c4 ks kk pp o res hbl hel hrl hl q0 q1 q2 q3 q4 hl4 hI hkl hK hP hB hr
             rw[←ee] at key
             subst hv
             left
             refine⟨enters_of Tryz.func47 (by kernel_rfl) rfl _ _,key.mono fun x W' ⟨h1,h2⟩=>?_⟩
             subst h1
             exact zml hw h2 (.data _ _ (.int _ _))
            split at hq
            ·rename_i hkk
             simp only[Qn.ev,Option.some.injEq] at hq
             exact fin (-1) false (fun _=>0) (fun h=>absurd h (by rintro (h | h);exact hkk.1 h;exact hkk.2 h)) (fun _ h=>by cases h) (by rw[if_pos (.inl hkk)]) hq.symm
            rename_i hkk
            simp only[Qn.ev] at hq
            cases hk74:zaB cl 74 [.agg [.int .i64 kind,.int .i64 num,.str text,.list z3 r3 f3,.list 1 r4 f4]] with
            | none=>rw[hk74] at hq;cases hq
            | some k74 =>
             rw[hk74] at hq
             simp only at hq
             split at hq
             ·rename_i pp
              have hP:(kk=ks.length∨kk=-1)→∀ W,Below w.heap.size w W→Calls Tryz.prog 74 #[.agg #[.int .i64 kind,.int .i64 num,.string ⟨text.toArray⟩,.slice A3 r3.length c3,.slice A4 r4.length c4]] W fun x W'=>x=.returned (.bool pp)∧Below W.heap.size W W':=fun _ W hb =>
               (zni hcl hk74 hw hb (zqu (zu9 (.data _ _ (.int _ _)) (.data _ _ (.int _ _)) (.data _ _ (.str _)) (.data _ _ w3) (.data _ _ w4))) (enters_of Tryz.func74 (by kernel_rfl) rfl _ _)).mono fun x W' ⟨c,g',h1,h2,h3⟩=>⟨by rw[h1,zvl h2],h3⟩
              split at hq
              ·rename_i hpp
               subst hpp
               simp only[Qn.ev,Option.some.injEq] at hq
               exact fin (-1) false (fun _=>0) hP (fun _ h=>by cases h) (by rw[if_pos (.inr rfl)]) hq.symm
              rename_i hpp
              obtain⟨rs,r1,r2,r3',r4'⟩:=zkI _ _ hq
              simp only[List.length_nil,Nat.zero_add] at r1 r4'
              simp only[Qn.ev,Option.some.injEq] at r3'
              refine fin _ pp (fun k=>(rs[k.toNat]?).getD 0) hP (fun _ _ k k0 k1=>?_) (by rw[if_neg (by rintro (h | h);exact hkk h;exact hpp h)]) (by rw[←r3',←ee])
              obtain⟨u,u1,u2,u3⟩:=r4' k.toNat (by omega) (by omega)
              have ek:((k.toNat:Nat):Int)=k:=by omega
              rw[ek] at u2 u3
              have e1:(rs[k.toNat]?).getD 0=u:=by rw[u1];rfl
              simp only[e1]
              exact⟨u2,fun W hb=>(zni hcl u3 hw hb (zwV (.data _ _ h10) (.data _ _ (.int _ _))) (enters_of Tryz.func47 (by kernel_rfl) rfl _ _)).mono fun x W' ⟨c,g',h1,h2,h3⟩=>⟨by rw[h1,ziY h2],h3⟩⟩
             cases hq
           cases hq
     cases hq
    cases hq
   cases hq
  cases hq
 cases hq
end Go.Proofs.YtfbcnpbhhooapaaGreatDoor.M
namespace Go.Proofs.YtfbcnpbhhooapaaGreatDoor.M
open Go Classical
noncomputable def zpZ:Nat→Option XF:=fun f=>if f=106 then some (.fn (zlT)) else if f=108 then some (.fn (zl1)) else if f=94 then some (.fn (zj9)) else if f=112 then some (.fn (zpG)) else if f=179 then some (.fn (zhf)) else if f=129 then some (.fn (zhM)) else if f=162 then some (.fn (zeY)) else if f=120 then some (.fn (ziB)) else if f=163 then some (.fn (zhO 218)) else if f=144 then some (.fn (zgE 1 8)) else if f=36 then some (.rcv rcv_Q36) else if f=47 then some (.orc zgM) else  none
noncomputable def SP:Prg:=zem Tryz.prog zpZ
theorem zjt:SP 106=some (.ext (zlT)):=rfl
theorem zfx:SP 108=some (.ext (zl1)):=rfl
theorem zkc:SP 112=some (.ext (zpG)):=rfl
theorem zfM:SP 179=some (.ext (zhf)):=rfl
theorem zgc:SP 129=some (.ext (zhM)):=rfl
theorem zgu:SP 162=some (.ext (zeY)):=rfl
theorem zeX:SP 163=some (.ext (zhO 218)):=rfl
theorem zeM:SP 144=some (.ext (zgE 1 8)):=rfl
theorem zrC:SP 36=some (.rcv rcv_Q36):=rfl
theorem zwC:SP 47=some (.orc zgM):=rfl
end Go.Proofs.YtfbcnpbhhooapaaGreatDoor.M
namespace Go.Proofs.YtfbcnpbhhooapaaGreatDoor.M
open Go Classical
def ztZ (x0:List UInt8) (x1:UInt8) (r0:Bool):Prop:=∀ (S:Sto),call SP 7 [.list 1 (x0.map eB) false,.int .u8 ((x1.toNat:Nat):Int)] S=.ok (.v (.bool r0)) S
def zfL (x0:Int) (r0:Int):Prop:=∀ (S:Sto),call SP 18 [.int .i64 x0] S=.ok (.v (.int .i64 r0)) S
def zaI (x0:List UInt8) (r0:List Node) (r1:Int):Prop:=∀ (S:Sto),call SP 20 [.str x0] S=.ok (.v (.tup [.list 5 (r0.map eNode) false,.int .i64 r1])) S
def zfO (x0:List Node) (x1:List Node) (r0:Bool):Prop:=∀ (S:Sto),call SP 21 [.list 5 (x0.map eNode) false,.list 5 (x1.map eNode) false] S=.ok (.v (.bool r0)) S
def zpV (x0:List UInt8) (r0:List Node):Prop:=∀ (S:Sto),call SP 22 [.list 1 (x0.map eB) false] S=.ok (.arr 5 (r0.map eNode) false) S
def zjf (x0:List Node) (r0:List UInt8):Prop:=∀ (S:Sto),call SP 23 [.list 5 (x0.map eNode) false] S=.ok (.v (.str r0)) S
def zbl (r0:Bool):Prop:=∀ (S:Sto),call SP 25 [] S=.ok (.v (.bool r0)) S
def zp0 (x0:List Node) (r0:Bool):Prop:=∀ (S:Sto),call SP 26 [.list 5 (x0.map eNode) false] S=.ok (.v (.bool r0)) S
def zjC (x0:PBlocks) (x0_g2:Nat) (x0_z2:Bool) (x1:PV) (o:Option Int) (x0':PBlocks) (x0'_g2:Nat) (x0'_z2:Bool) (x1':PV):Prop:=∀ (S:Sto) (n0:Nat) (t0:Nat) (n1:Nat) (t1:Nat),(getBox S n0 t0).map (List.take 4)=some [.list 5 (x0.exprs.tokens.l.map eToken) false,.int .i64 x0.exprs.tokens.pos,.sl 0 (.cell t0 2) 0 x0.exprs.out.length x0.exprs.out.length x0_g2 false,.int .i64 x0.exprs.deep]∧getArr S n0 (.cell t0 2)=some ⟨5,x0.exprs.out.map eNode,x0_z2,x0_g2⟩→(getBox S n1 t1).map (List.take 1)=some [x1]→n0≠n1→call SP 40 [.ptr n0 t0 0,.ptr n1 t1 0] S=po 116 o (.v (.tup [])) (setBox (setArr (setBox S n0 t0 ([.list 5 (x0'.exprs.tokens.l.map eToken) false,.int .i64 x0'.exprs.tokens.pos,.sl 0 (.cell t0 2) 0 x0'.exprs.out.length x0'.exprs.out.length x0'_g2 false,.int .i64 x0'.exprs.deep]++((getBox S n0 t0).getD []).drop 4)) n0 (.cell t0 2) ⟨5,x0'.exprs.out.map eNode,x0'_z2,x0'_g2⟩) n1 t1 ([x1']++((getBox (setArr (setBox S n0 t0 ([.list 5 (x0'.exprs.tokens.l.map eToken) false,.int .i64 x0'.exprs.tokens.pos,.sl 0 (.cell t0 2) 0 x0'.exprs.out.length x0'.exprs.out.length x0'_g2 false,.int .i64 x0'.exprs.deep]++((getBox S n0 t0).getD []).drop 4)) n0 (.cell t0 2) ⟨5,x0'.exprs.out.map eNode,x0'_z2,x0'_g2⟩) n1 t1).getD []).drop 1))
def zps (x0:List Part) (x1:List Part) (r0:Bool):Prop:=∀ (S:Sto),call SP 43 [.list 2 (x0.map ePart) false,.list 2 (x1.map ePart) false] S=.ok (.v (.bool r0)) S
def zpr (x0:List Int) (x1:List Int) (r0:Bool):Prop:=∀ (S:Sto),call SP 44 [.list 1 (x0.map eI) false,.list 1 (x1.map eI) false] S=.ok (.v (.bool r0)) S
def zus (x0:List Node) (x1:Int) (r0:Int):Prop:=∀ (S:Sto),call SP 47 [.list 5 (x0.map eNode) false,.int .i64 x1] S=.ok (.v (.int .i64 r0)) S
def zcP (x0:List UInt8) (r0:List Token) (r1:Int):Prop:=∀ (S:Sto),call SP 60 [.str x0] S=.ok (.v (.tup [.list 5 (r0.map eToken) false,.int .i64 r1])) S
def zJ (x0:List (List UInt8)) (x1:List UInt8) (r0:Int):Prop:=∀ (S:Sto),call SP 62 [.list 1 (x0.map eS) false,.str x1] S=.ok (.v (.int .i64 r0)) S
def zuh (x0:Int) (r0:Int):Prop:=∀ (S:Sto),call SP 73 [.int .i64 x0] S=.ok (.v (.int .i64 r0)) S
def zuv (x0:Node) (r0:Bool):Prop:=∀ (S:Sto),call SP 74 [.agg (eNode x0)] S=.ok (.v (.bool r0)) S
def zb7 (x0:Int) (r0:List UInt8):Prop:=∀ (S:Sto),call SP 106 [.int .i64 x0] S=.ok (.v (.str r0)) S
def zcW (x0:Bool) (r0:List UInt8):Prop:=∀ (S:Sto),call SP 108 [.bool x0] S=.ok (.v (.str r0)) S
def zbe (x0:List UInt8) (x1:List UInt8) (r0:List UInt8) (r1:List UInt8) (r2:Bool):Prop:=∀ (S:Sto),call SP 112 [.str x0,.str x1] S=.ok (.v (.tup [.str r0,.str r1,.bool r2])) S
def zi7 (x0:List UInt8) (r0:Bool):Prop:=∀ (S:Sto),call SP 113 [.str x0] S=.ok (.v (.bool r0)) S
def zjT (x0:List UInt8) (r0:Bool):Prop:=∀ (S:Sto),call SP 114 [.str x0] S=.ok (.v (.bool r0)) S
def zc0 (x0:List UInt8) (r0:Bool):Prop:=∀ (S:Sto),call SP 115 [.str x0] S=.ok (.v (.bool r0)) S
def zm2 (x0:List Part) (r0:Bool):Prop:=∀ (S:Sto),call SP 116 [.list 2 (x0.map ePart) false] S=.ok (.v (.bool r0)) S
def zbN (x0:List UInt8) (x1:List UInt8) (r0:Bool):Prop:=∀ (S:Sto),call SP 129 [.str x0,.str x1] S=.ok (.v (.bool r0)) S
def zet (x0:UInt8) (r0:Int):Prop:=∀ (S:Sto),call SP 137 [.int .u8 ((x0.toNat:Nat):Int)] S=.ok (.v (.int .i64 r0)) S
def zgU (x0:Int) (x1:List UInt8) (r0:Int) (r1:Bool):Prop:=∀ (S:Sto),call SP 143 [.int .i64 x0,.str x1] S=.ok (.v (.tup [.int .i64 r0,.bool r1])) S
def zci (x0:List Int) (r0:List Int):Prop:=∀ (S:Sto),call SP 144 [.list 1 (x0.map eI) false] S=.ok (.v (.list 1 (r0.map eI) false)) S
def zjd (x0:Int) (r0:Int):Prop:=∀ (S:Sto),call SP 148 [.int .i64 x0] S=.ok (.v (.int .i64 r0)) S
def zjF (x0:Int) (r0:List UInt8):Prop:=∀ (S:Sto),call SP 149 [.int .i64 x0] S=.ok (.v (.str r0)) S
def zgR (x0:List UInt8) (x1:List Int) (r0:Int):Prop:=∀ (S:Sto),call SP 151 [.str x0,.list 1 (x1.map eI) false] S=.ok (.v (.int .i64 r0)) S
def zju (x0:List UInt8) (r0:Bool):Prop:=∀ (S:Sto),call SP 152 [.str x0] S=.ok (.v (.bool r0)) S
def zU (x0:List (List UInt8)) (x1:List UInt8) (r0:Bool):Prop:=∀ (S:Sto),call SP 161 [.list 1 (x0.map eS) false,.str x1] S=.ok (.v (.bool r0)) S
def zbW (x0:List UInt8) (x1:List UInt8) (r0:Bool):Prop:=∀ (S:Sto),call SP 162 [.str x0,.str x1] S=.ok (.v (.bool r0)) S
def zdp (x0:List UInt8) (r0:Int) (r1:Bool):Prop:=∀ (S:Sto),call SP 163 [.str x0] S=.ok (.v (.tup [.int .i64 r0,eE 218 r1])) S
def zna (x0:List UInt8) (r0:UInt8) (r1:Bool):Prop:=∀ (S:Sto),call SP 164 [.str x0] S=.ok (.v (.tup [.int .u8 ((r0.toNat:Nat):Int),.bool r1])) S
def zgw (x0:List UInt8) (r0:List UInt8) (r1:Bool):Prop:=∀ (S:Sto),call SP 166 [.str x0] S=.ok (.v (.tup [.str r0,.bool r1])) S
def za0 (x0:List Int) (x1:Int) (r0:Bool):Prop:=∀ (S:Sto),call SP 170 [.list 1 (x0.map eI) false,.int .i64 x1] S=.ok (.v (.bool r0)) S
def zda (x0:List UInt8) (x1:UInt8) (r0:Int):Prop:=∀ (S:Sto),call SP 179 [.str x0,.int .u8 ((x1.toNat:Nat):Int)] S=.ok (.v (.int .i64 r0)) S
def zck (x0:List Int) (x1:Int) (r0:Int):Prop:=∀ (S:Sto),call SP 190 [.list 1 (x0.map eI) false,.int .i64 x1] S=.ok (.v (.int .i64 r0)) S
def zbt (x0:PTokens) (r0:Token) (x0':PTokens):Prop:=∀ (S:Sto) (n0:Nat) (t0:Nat),(getBox S n0 t0).map (List.take 2)=some [.list 5 (x0.l.map eToken) false,.int .i64 x0.pos]→call SP 38 [.ptr n0 t0 0] S=.ok (.v (.agg [.int .i64 r0.Kind,.str r0.Text,.int .i64 r0.Num,.list 2 (r0.Parts.map ePart) false,.int .i64 r0.At])) (setBox S n0 t0 ([.list 5 (x0'.l.map eToken) false,.int .i64 x0'.pos]++((getBox S n0 t0).getD []).drop 2))
def zi2 (x0:PExprs) (x0_g2:Nat) (x0_z2:Bool) (o:Option Int) (r0:List Node) (x0':PExprs) (x0'_g2:Nat) (x0'_z2:Bool):Prop:=∀ (S:Sto) (n0:Nat) (t0:Nat),(getBox S n0 t0).map (List.take 4)=some [.list 5 (x0.tokens.l.map eToken) false,.int .i64 x0.tokens.pos,.sl 0 (.cell t0 2) 0 x0.out.length x0.out.length x0_g2 false,.int .i64 x0.deep]∧getArr S n0 (.cell t0 2)=some ⟨5,x0.out.map eNode,x0_z2,x0_g2⟩→call SP 41 [.ptr n0 t0 0] S=po 116 o (.v (.list 5 (r0.map eNode) false)) (setArr (setBox S n0 t0 ([.list 5 (x0'.tokens.l.map eToken) false,.int .i64 x0'.tokens.pos,.sl 0 (.cell t0 2) 0 x0'.out.length x0'.out.length x0'_g2 false,.int .i64 x0'.deep]++((getBox S n0 t0).getD []).drop 4)) n0 (.cell t0 2) ⟨5,x0'.out.map eNode,x0'_z2,x0'_g2⟩)
def zdv (x0:PTokens) (x1:Int) (o:Option Int) (x0':PTokens):Prop:=∀ (S:Sto) (n0:Nat) (t0:Nat),(getBox S n0 t0).map (List.take 2)=some [.list 5 (x0.l.map eToken) false,.int .i64 x0.pos]→call SP 42 [.ptr n0 t0 0,.int .i64 x1] S=po 116 o (.v (.tup [])) (setBox S n0 t0 ([.list 5 (x0'.l.map eToken) false,.int .i64 x0'.pos]++((getBox S n0 t0).getD []).drop 2))
def zqg (x0:SWriter) (x0_g0:Nat) (x0_z0:Bool) (x1:List Node) (x0':SWriter) (x0'_g0:Nat) (x0'_z0:Bool):Prop:=∀ (S:Sto) (n0:Nat) (t0:Nat),(getBox S n0 t0).map (List.take 1)=some [.sl 0 (.cell t0 0) 0 x0.out.length x0.out.length x0_g0 false]∧getArr S n0 (.cell t0 0)=some ⟨1,x0.out.map eB,x0_z0,x0_g0⟩→call SP 45 [.ptr n0 t0 0,.list 5 (x1.map eNode) false] S=.ok (.v (.tup [])) (setArr (setBox S n0 t0 ([.sl 0 (.cell t0 0) 0 x0'.out.length x0'.out.length x0'_g0 false]++((getBox S n0 t0).getD []).drop 1)) n0 (.cell t0 0) ⟨1,x0'.out.map eB,x0'_z0,x0'_g0⟩)
def zcV (x0:PTokens) (x1:List UInt8) (o:Option Int) (x0':PTokens):Prop:=∀ (S:Sto) (n0:Nat) (t0:Nat),(getBox S n0 t0).map (List.take 2)=some [.list 5 (x0.l.map eToken) false,.int .i64 x0.pos]→call SP 66 [.ptr n0 t0 0,.str x1] S=po 116 o (.v (.tup [])) (setBox S n0 t0 ([.list 5 (x0'.l.map eToken) false,.int .i64 x0'.pos]++((getBox S n0 t0).getD []).drop 2))
def zd1 (x0:PTokens) (x1:List UInt8) (r0:Bool) (x0':PTokens):Prop:=∀ (S:Sto) (n0:Nat) (t0:Nat),(getBox S n0 t0).map (List.take 2)=some [.list 5 (x0.l.map eToken) false,.int .i64 x0.pos]→call SP 67 [.ptr n0 t0 0,.str x1] S=.ok (.v (.bool r0)) (setBox S n0 t0 ([.list 5 (x0'.l.map eToken) false,.int .i64 x0'.pos]++((getBox S n0 t0).getD []).drop 2))
def zbh (x0:PExprs) (x0_g2:Nat) (x0_z2:Bool) (o:Option Int) (r0:Int) (x0':PExprs) (x0'_g2:Nat) (x0'_z2:Bool):Prop:=∀ (S:Sto) (n0:Nat) (t0:Nat),(getBox S n0 t0).map (List.take 4)=some [.list 5 (x0.tokens.l.map eToken) false,.int .i64 x0.tokens.pos,.sl 0 (.cell t0 2) 0 x0.out.length x0.out.length x0_g2 false,.int .i64 x0.deep]∧getArr S n0 (.cell t0 2)=some ⟨5,x0.out.map eNode,x0_z2,x0_g2⟩→call SP 68 [.ptr n0 t0 0] S=po 116 o (.v (.int .i64 r0)) (setArr (setBox S n0 t0 ([.list 5 (x0'.tokens.l.map eToken) false,.int .i64 x0'.tokens.pos,.sl 0 (.cell t0 2) 0 x0'.out.length x0'.out.length x0'_g2 false,.int .i64 x0'.deep]++((getBox S n0 t0).getD []).drop 4)) n0 (.cell t0 2) ⟨5,x0'.out.map eNode,x0'_z2,x0'_g2⟩)
def zbQ (x0:SWriter) (x0_g0:Nat) (x0_z0:Bool) (x0_l:List Node) (x1:Int) (x0':SWriter) (x0'_g0:Nat) (x0'_z0:Bool):Prop:=∀ (S:Sto) (n0:Nat) (t0:Nat),(getBox S n0 t0).map (List.take 1)=some [.sl 0 (.cell t0 0) 0 x0.out.length x0.out.length x0_g0 false]∧getArr S n0 (.cell t0 0)=some ⟨1,x0.out.map eB,x0_z0,x0_g0⟩→call SP 69 [.agg [.ptr n0 t0 0,.list 5 (x0_l.map eNode) false],.int .i64 x1] S=.ok (.v (.tup [])) (setArr (setBox S n0 t0 ([.sl 0 (.cell t0 0) 0 x0'.out.length x0'.out.length x0'_g0 false]++((getBox S n0 t0).getD []).drop 1)) n0 (.cell t0 0) ⟨1,x0'.out.map eB,x0'_z0,x0'_g0⟩)
def zY (x0:SWriter) (x0_g0:Nat) (x0_z0:Bool) (x1:List (List UInt8)) (x0':SWriter) (x0'_g0:Nat) (x0'_z0:Bool):Prop:=∀ (S:Sto) (n0:Nat) (t0:Nat),(getBox S n0 t0).map (List.take 1)=some [.sl 0 (.cell t0 0) 0 x0.out.length x0.out.length x0_g0 false]∧getArr S n0 (.cell t0 0)=some ⟨1,x0.out.map eB,x0_z0,x0_g0⟩→call SP 95 [.ptr n0 t0 0,.list 1 (x1.map eS) false] S=.ok (.v (.tup [])) (setArr (setBox S n0 t0 ([.sl 0 (.cell t0 0) 0 x0'.out.length x0'.out.length x0'_g0 false]++((getBox S n0 t0).getD []).drop 1)) n0 (.cell t0 0) ⟨1,x0'.out.map eB,x0'_z0,x0'_g0⟩)
def zlV (x0:LTokens) (x0_g2:Nat) (x0_z2:Bool) (x0':LTokens) (x0'_g2:Nat) (x0'_z2:Bool):Prop:=∀ (S:Sto) (n0:Nat) (t0:Nat),(getBox S n0 t0).map (List.take 3)=some [.str x0.text.left,.int .i64 x0.text.pos,.sl 0 (.cell t0 2) 0 x0.out.length x0.out.length x0_g2 false]∧getArr S n0 (.cell t0 2)=some ⟨5,x0.out.map eToken,x0_z2,x0_g2⟩→call SP 97 [.ptr n0 t0 0] S=.ok (.v (.tup [])) (setArr (setBox S n0 t0 ([.str x0'.text.left,.int .i64 x0'.text.pos,.sl 0 (.cell t0 2) 0 x0'.out.length x0'.out.length x0'_g2 false]++((getBox S n0 t0).getD []).drop 3)) n0 (.cell t0 2) ⟨5,x0'.out.map eToken,x0'_z2,x0'_g2⟩)
def zlO (x0:LTokens) (x0_g2:Nat) (x0_z2:Bool) (r0:Bool) (x0':LTokens) (x0'_g2:Nat) (x0'_z2:Bool):Prop:=∀ (S:Sto) (n0:Nat) (t0:Nat),(getBox S n0 t0).map (List.take 3)=some [.str x0.text.left,.int .i64 x0.text.pos,.sl 0 (.cell t0 2) 0 x0.out.length x0.out.length x0_g2 false]∧getArr S n0 (.cell t0 2)=some ⟨5,x0.out.map eToken,x0_z2,x0_g2⟩→call SP 98 [.ptr n0 t0 0] S=.ok (.v (.bool r0)) (setArr (setBox S n0 t0 ([.str x0'.text.left,.int .i64 x0'.text.pos,.sl 0 (.cell t0 2) 0 x0'.out.length x0'.out.length x0'_g2 false]++((getBox S n0 t0).getD []).drop 3)) n0 (.cell t0 2) ⟨5,x0'.out.map eToken,x0'_z2,x0'_g2⟩)
def zeC (x0:PTokens) (o:Option Int) (r0:List UInt8) (x0':PTokens):Prop:=∀ (S:Sto) (n0:Nat) (t0:Nat),(getBox S n0 t0).map (List.take 2)=some [.list 5 (x0.l.map eToken) false,.int .i64 x0.pos]→call SP 101 [.ptr n0 t0 0] S=po 116 o (.v (.str r0)) (setBox S n0 t0 ([.list 5 (x0'.l.map eToken) false,.int .i64 x0'.pos]++((getBox S n0 t0).getD []).drop 2))
def zat (x0:PTokens) (x1:List UInt8) (r0:Bool) (x0':PTokens):Prop:=∀ (S:Sto) (n0:Nat) (t0:Nat),(getBox S n0 t0).map (List.take 2)=some [.list 5 (x0.l.map eToken) false,.int .i64 x0.pos]→call SP 102 [.ptr n0 t0 0,.str x1] S=.ok (.v (.bool r0)) (setBox S n0 t0 ([.list 5 (x0'.l.map eToken) false,.int .i64 x0'.pos]++((getBox S n0 t0).getD []).drop 2))
def zcT (x0:PExprs) (x0_g2:Nat) (x0_z2:Bool) (x1:Int) (o:Option Int) (r0:Int) (x0':PExprs) (x0'_g2:Nat) (x0'_z2:Bool):Prop:=∀ (S:Sto) (n0:Nat) (t0:Nat),(getBox S n0 t0).map (List.take 4)=some [.list 5 (x0.tokens.l.map eToken) false,.int .i64 x0.tokens.pos,.sl 0 (.cell t0 2) 0 x0.out.length x0.out.length x0_g2 false,.int .i64 x0.deep]∧getArr S n0 (.cell t0 2)=some ⟨5,x0.out.map eNode,x0_z2,x0_g2⟩→call SP 103 [.ptr n0 t0 0,.int .i64 x1] S=po 116 o (.v (.int .i64 r0)) (setArr (setBox S n0 t0 ([.list 5 (x0'.tokens.l.map eToken) false,.int .i64 x0'.tokens.pos,.sl 0 (.cell t0 2) 0 x0'.out.length x0'.out.length x0'_g2 false,.int .i64 x0'.deep]++((getBox S n0 t0).getD []).drop 4)) n0 (.cell t0 2) ⟨5,x0'.out.map eNode,x0'_z2,x0'_g2⟩)
def zaJ (x0:PExprs) (x0_g2:Nat) (x0_z2:Bool) (x1:List UInt8) (o:Option Int) (x0':PExprs) (x0'_g2:Nat) (x0'_z2:Bool):Prop:=∀ (S:Sto) (n0:Nat) (t0:Nat),(getBox S n0 t0).map (List.take 4)=some [.list 5 (x0.tokens.l.map eToken) false,.int .i64 x0.tokens.pos,.sl 0 (.cell t0 2) 0 x0.out.length x0.out.length x0_g2 false,.int .i64 x0.deep]∧getArr S n0 (.cell t0 2)=some ⟨5,x0.out.map eNode,x0_z2,x0_g2⟩→call SP 104 [.ptr n0 t0 0,.str x1] S=po 116 o (.v (.tup [])) (setArr (setBox S n0 t0 ([.list 5 (x0'.tokens.l.map eToken) false,.int .i64 x0'.tokens.pos,.sl 0 (.cell t0 2) 0 x0'.out.length x0'.out.length x0'_g2 false,.int .i64 x0'.deep]++((getBox S n0 t0).getD []).drop 4)) n0 (.cell t0 2) ⟨5,x0'.out.map eNode,x0'_z2,x0'_g2⟩)
def zan (x0:PExprs) (x0_g2:Nat) (x0_z2:Bool) (x1:Int) (x2:List UInt8) (x3:List Int) (r0:Int) (x0':PExprs) (x0'_g2:Nat) (x0'_z2:Bool):Prop:=∀ (S:Sto) (n0:Nat) (t0:Nat),(getBox S n0 t0).map (List.take 4)=some [.list 5 (x0.tokens.l.map eToken) false,.int .i64 x0.tokens.pos,.sl 0 (.cell t0 2) 0 x0.out.length x0.out.length x0_g2 false,.int .i64 x0.deep]∧getArr S n0 (.cell t0 2)=some ⟨5,x0.out.map eNode,x0_z2,x0_g2⟩→call SP 105 [.ptr n0 t0 0,.int .i64 x1,.str x2,.list 1 (x3.map eI) false] S=.ok (.v (.int .i64 r0)) (setArr (setBox S n0 t0 ([.list 5 (x0'.tokens.l.map eToken) false,.int .i64 x0'.tokens.pos,.sl 0 (.cell t0 2) 0 x0'.out.length x0'.out.length x0'_g2 false,.int .i64 x0'.deep]++((getBox S n0 t0).getD []).drop 4)) n0 (.cell t0 2) ⟨5,x0'.out.map eNode,x0'_z2,x0'_g2⟩)
def znR (x0:SWriter) (x0_g0:Nat) (x0_z0:Bool) (x0_l:List Node) (x1:List Part) (x0':SWriter) (x0'_g0:Nat) (x0'_z0:Bool):Prop:=∀ (S:Sto) (n0:Nat) (t0:Nat),(getBox S n0 t0).map (List.take 1)=some [.sl 0 (.cell t0 0) 0 x0.out.length x0.out.length x0_g0 false]∧getArr S n0 (.cell t0 0)=some ⟨1,x0.out.map eB,x0_z0,x0_g0⟩→call SP 107 [.agg [.ptr n0 t0 0,.list 5 (x0_l.map eNode) false],.list 2 (x1.map ePart) false] S=.ok (.v (.tup [])) (setArr (setBox S n0 t0 ([.sl 0 (.cell t0 0) 0 x0'.out.length x0'.out.length x0'_g0 false]++((getBox S n0 t0).getD []).drop 1)) n0 (.cell t0 0) ⟨1,x0'.out.map eB,x0'_z0,x0'_g0⟩)
def zjA (x0:SWriter) (x0_g0:Nat) (x0_z0:Bool) (x0_l:List Node) (x1:List Int) (x0':SWriter) (x0'_g0:Nat) (x0'_z0:Bool):Prop:=∀ (S:Sto) (n0:Nat) (t0:Nat),(getBox S n0 t0).map (List.take 1)=some [.sl 0 (.cell t0 0) 0 x0.out.length x0.out.length x0_g0 false]∧getArr S n0 (.cell t0 0)=some ⟨1,x0.out.map eB,x0_z0,x0_g0⟩→call SP 109 [.agg [.ptr n0 t0 0,.list 5 (x0_l.map eNode) false],.list 1 (x1.map eI) false] S=.ok (.v (.tup [])) (setArr (setBox S n0 t0 ([.sl 0 (.cell t0 0) 0 x0'.out.length x0'.out.length x0'_g0 false]++((getBox S n0 t0).getD []).drop 1)) n0 (.cell t0 0) ⟨1,x0'.out.map eB,x0'_z0,x0'_g0⟩)
def zb2 (x0:SWriter) (x0_g0:Nat) (x0_z0:Bool) (x0_l:List Node) (x1:Int) (x2:Int) (x0':SWriter) (x0'_g0:Nat) (x0'_z0:Bool):Prop:=∀ (S:Sto) (n0:Nat) (t0:Nat),(getBox S n0 t0).map (List.take 1)=some [.sl 0 (.cell t0 0) 0 x0.out.length x0.out.length x0_g0 false]∧getArr S n0 (.cell t0 0)=some ⟨1,x0.out.map eB,x0_z0,x0_g0⟩→call SP 110 [.agg [.ptr n0 t0 0,.list 5 (x0_l.map eNode) false],.int .i64 x1,.int .i64 x2] S=.ok (.v (.tup [])) (setArr (setBox S n0 t0 ([.sl 0 (.cell t0 0) 0 x0'.out.length x0'.out.length x0'_g0 false]++((getBox S n0 t0).getD []).drop 1)) n0 (.cell t0 0) ⟨1,x0'.out.map eB,x0'_z0,x0'_g0⟩)
def zrX (x0:SWriter) (x0_g0:Nat) (x0_z0:Bool) (x0_l:List Node) (x1:Node) (x0':SWriter) (x0'_g0:Nat) (x0'_z0:Bool):Prop:=∀ (S:Sto) (n0:Nat) (t0:Nat),(getBox S n0 t0).map (List.take 1)=some [.sl 0 (.cell t0 0) 0 x0.out.length x0.out.length x0_g0 false]∧getArr S n0 (.cell t0 0)=some ⟨1,x0.out.map eB,x0_z0,x0_g0⟩→call SP 111 [.agg [.ptr n0 t0 0,.list 5 (x0_l.map eNode) false],.agg (eNode x1)] S=.ok (.v (.tup [])) (setArr (setBox S n0 t0 ([.sl 0 (.cell t0 0) 0 x0'.out.length x0'.out.length x0'_g0 false]++((getBox S n0 t0).getD []).drop 1)) n0 (.cell t0 0) ⟨1,x0'.out.map eB,x0'_z0,x0'_g0⟩)
def zdR (x0:LText) (x1:List Int) (r0:List UInt8) (x0':LText):Prop:=∀ (S:Sto) (n0:Nat) (t0:Nat),(getBox S n0 t0).map (List.take 2)=some [.str x0.left,.int .i64 x0.pos]→call SP 134 [.ptr n0 t0 0,.list 1 (x1.map eI) false] S=.ok (.v (.str r0)) (setBox S n0 t0 ([.str x0'.left,.int .i64 x0'.pos]++((getBox S n0 t0).getD []).drop 2))
def za8 (x0:LText) (x1:Int) (r0:List UInt8) (x0':LText):Prop:=∀ (S:Sto) (n0:Nat) (t0:Nat),(getBox S n0 t0).map (List.take 2)=some [.str x0.left,.int .i64 x0.pos]→call SP 135 [.ptr n0 t0 0,.int .i64 x1] S=.ok (.v (.str r0)) (setBox S n0 t0 ([.str x0'.left,.int .i64 x0'.pos]++((getBox S n0 t0).getD []).drop 2))
def zi0 (x0:LTokens) (x0_g2:Nat) (x0_z2:Bool) (r0:Token) (r1:Bool) (x0':LTokens) (x0'_g2:Nat) (x0'_z2:Bool):Prop:=∀ (S:Sto) (n0:Nat) (t0:Nat),(getBox S n0 t0).map (List.take 3)=some [.str x0.text.left,.int .i64 x0.text.pos,.sl 0 (.cell t0 2) 0 x0.out.length x0.out.length x0_g2 false]∧getArr S n0 (.cell t0 2)=some ⟨5,x0.out.map eToken,x0_z2,x0_g2⟩→call SP 136 [.ptr n0 t0 0] S=.ok (.v (.tup [.agg [.int .i64 r0.Kind,.str r0.Text,.int .i64 r0.Num,.list 2 (r0.Parts.map ePart) false,.int .i64 r0.At],.bool r1])) (setArr (setBox S n0 t0 ([.str x0'.text.left,.int .i64 x0'.text.pos,.sl 0 (.cell t0 2) 0 x0'.out.length x0'.out.length x0'_g2 false]++((getBox S n0 t0).getD []).drop 3)) n0 (.cell t0 2) ⟨5,x0'.out.map eToken,x0'_z2,x0'_g2⟩)
def zjw (x0:LTokens) (x0_g2:Nat) (x0_z2:Bool) (r0:Token) (r1:Bool) (x0':LTokens) (x0'_g2:Nat) (x0'_z2:Bool):Prop:=∀ (S:Sto) (n0:Nat) (t0:Nat),(getBox S n0 t0).map (List.take 3)=some [.str x0.text.left,.int .i64 x0.text.pos,.sl 0 (.cell t0 2) 0 x0.out.length x0.out.length x0_g2 false]∧getArr S n0 (.cell t0 2)=some ⟨5,x0.out.map eToken,x0_z2,x0_g2⟩→call SP 138 [.ptr n0 t0 0] S=.ok (.v (.tup [.agg [.int .i64 r0.Kind,.str r0.Text,.int .i64 r0.Num,.list 2 (r0.Parts.map ePart) false,.int .i64 r0.At],.bool r1])) (setArr (setBox S n0 t0 ([.str x0'.text.left,.int .i64 x0'.text.pos,.sl 0 (.cell t0 2) 0 x0'.out.length x0'.out.length x0'_g2 false]++((getBox S n0 t0).getD []).drop 3)) n0 (.cell t0 2) ⟨5,x0'.out.map eToken,x0'_z2,x0'_g2⟩)
def zgB (x0:LTokens) (x0_g2:Nat) (x0_z2:Bool) (r0:Token) (r1:Bool) (x0':LTokens) (x0'_g2:Nat) (x0'_z2:Bool):Prop:=∀ (S:Sto) (n0:Nat) (t0:Nat),(getBox S n0 t0).map (List.take 3)=some [.str x0.text.left,.int .i64 x0.text.pos,.sl 0 (.cell t0 2) 0 x0.out.length x0.out.length x0_g2 false]∧getArr S n0 (.cell t0 2)=some ⟨5,x0.out.map eToken,x0_z2,x0_g2⟩→call SP 139 [.ptr n0 t0 0] S=.ok (.v (.tup [.agg [.int .i64 r0.Kind,.str r0.Text,.int .i64 r0.Num,.list 2 (r0.Parts.map ePart) false,.int .i64 r0.At],.bool r1])) (setArr (setBox S n0 t0 ([.str x0'.text.left,.int .i64 x0'.text.pos,.sl 0 (.cell t0 2) 0 x0'.out.length x0'.out.length x0'_g2 false]++((getBox S n0 t0).getD []).drop 3)) n0 (.cell t0 2) ⟨5,x0'.out.map eToken,x0'_z2,x0'_g2⟩)
def zg0 (x0:LTokens) (x0_g2:Nat) (x0_z2:Bool) (r0:Token) (r1:Bool) (x0':LTokens) (x0'_g2:Nat) (x0'_z2:Bool):Prop:=∀ (S:Sto) (n0:Nat) (t0:Nat),(getBox S n0 t0).map (List.take 3)=some [.str x0.text.left,.int .i64 x0.text.pos,.sl 0 (.cell t0 2) 0 x0.out.length x0.out.length x0_g2 false]∧getArr S n0 (.cell t0 2)=some ⟨5,x0.out.map eToken,x0_z2,x0_g2⟩→call SP 140 [.ptr n0 t0 0] S=.ok (.v (.tup [.agg [.int .i64 r0.Kind,.str r0.Text,.int .i64 r0.Num,.list 2 (r0.Parts.map ePart) false,.int .i64 r0.At],.bool r1])) (setArr (setBox S n0 t0 ([.str x0'.text.left,.int .i64 x0'.text.pos,.sl 0 (.cell t0 2) 0 x0'.out.length x0'.out.length x0'_g2 false]++((getBox S n0 t0).getD []).drop 3)) n0 (.cell t0 2) ⟨5,x0'.out.map eToken,x0'_z2,x0'_g2⟩)
def zcR (x0:PExprs) (x0_g2:Nat) (x0_z2:Bool) (o:Option Int) (r0:Int) (x0':PExprs) (x0'_g2:Nat) (x0'_z2:Bool):Prop:=∀ (S:Sto) (n0:Nat) (t0:Nat),(getBox S n0 t0).map (List.take 4)=some [.list 5 (x0.tokens.l.map eToken) false,.int .i64 x0.tokens.pos,.sl 0 (.cell t0 2) 0 x0.out.length x0.out.length x0_g2 false,.int .i64 x0.deep]∧getArr S n0 (.cell t0 2)=some ⟨5,x0.out.map eNode,x0_z2,x0_g2⟩→call SP 142 [.ptr n0 t0 0] S=po 116 o (.v (.int .i64 r0)) (setArr (setBox S n0 t0 ([.list 5 (x0'.tokens.l.map eToken) false,.int .i64 x0'.tokens.pos,.sl 0 (.cell t0 2) 0 x0'.out.length x0'.out.length x0'_g2 false,.int .i64 x0'.deep]++((getBox S n0 t0).getD []).drop 4)) n0 (.cell t0 2) ⟨5,x0'.out.map eNode,x0'_z2,x0'_g2⟩)
def znA (x0:SWriter) (x0_g0:Nat) (x0_z0:Bool) (x1:List UInt8) (x0':SWriter) (x0'_g0:Nat) (x0'_z0:Bool):Prop:=∀ (S:Sto) (n0:Nat) (t0:Nat),(getBox S n0 t0).map (List.take 1)=some [.sl 0 (.cell t0 0) 0 x0.out.length x0.out.length x0_g0 false]∧getArr S n0 (.cell t0 0)=some ⟨1,x0.out.map eB,x0_z0,x0_g0⟩→call SP 146 [.ptr n0 t0 0,.str x1] S=.ok (.v (.tup [])) (setArr (setBox S n0 t0 ([.sl 0 (.cell t0 0) 0 x0'.out.length x0'.out.length x0'_g0 false]++((getBox S n0 t0).getD []).drop 1)) n0 (.cell t0 0) ⟨1,x0'.out.map eB,x0'_z0,x0'_g0⟩)
def zjz (x0:List Part) (x0_g0:Nat) (x0_z0:Bool) (x1:UInt8) (x0':List Part) (x0'_g0:Nat) (x0'_z0:Bool):Prop:=∀ (S:Sto) (n0:Nat) (t0:Nat),(getBox S n0 t0).map (List.take 1)=some [.sl 0 (.cell t0 0) 0 x0.length x0.length x0_g0 false]∧getArr S n0 (.cell t0 0)=some ⟨2,x0.map ePart,x0_z0,x0_g0⟩→call SP 165 [.ptr n0 t0 0,.int .u8 ((x1.toNat:Nat):Int)] S=.ok (.v (.tup [])) (setArr (setBox S n0 t0 ([.sl 0 (.cell t0 0) 0 x0'.length x0'.length x0'_g0 false]++((getBox S n0 t0).getD []).drop 1)) n0 (.cell t0 0) ⟨2,x0'.map ePart,x0'_z0,x0'_g0⟩)
def zgX (x0:PExprs) (x0_g2:Nat) (x0_z2:Bool) (o:Option Int) (r0:Int) (x0':PExprs) (x0'_g2:Nat) (x0'_z2:Bool):Prop:=∀ (S:Sto) (n0:Nat) (t0:Nat),(getBox S n0 t0).map (List.take 4)=some [.list 5 (x0.tokens.l.map eToken) false,.int .i64 x0.tokens.pos,.sl 0 (.cell t0 2) 0 x0.out.length x0.out.length x0_g2 false,.int .i64 x0.deep]∧getArr S n0 (.cell t0 2)=some ⟨5,x0.out.map eNode,x0_z2,x0_g2⟩→call SP 167 [.ptr n0 t0 0] S=po 116 o (.v (.int .i64 r0)) (setArr (setBox S n0 t0 ([.list 5 (x0'.tokens.l.map eToken) false,.int .i64 x0'.tokens.pos,.sl 0 (.cell t0 2) 0 x0'.out.length x0'.out.length x0'_g2 false,.int .i64 x0'.deep]++((getBox S n0 t0).getD []).drop 4)) n0 (.cell t0 2) ⟨5,x0'.out.map eNode,x0'_z2,x0'_g2⟩)
def zhl (x0:PExprs) (x0_g2:Nat) (x0_z2:Bool) (o:Option Int) (r0:Int) (x0':PExprs) (x0'_g2:Nat) (x0'_z2:Bool):Prop:=∀ (S:Sto) (n0:Nat) (t0:Nat),(getBox S n0 t0).map (List.take 4)=some [.list 5 (x0.tokens.l.map eToken) false,.int .i64 x0.tokens.pos,.sl 0 (.cell t0 2) 0 x0.out.length x0.out.length x0_g2 false,.int .i64 x0.deep]∧getArr S n0 (.cell t0 2)=some ⟨5,x0.out.map eNode,x0_z2,x0_g2⟩→call SP 180 [.ptr n0 t0 0] S=po 116 o (.v (.int .i64 r0)) (setArr (setBox S n0 t0 ([.list 5 (x0'.tokens.l.map eToken) false,.int .i64 x0'.tokens.pos,.sl 0 (.cell t0 2) 0 x0'.out.length x0'.out.length x0'_g2 false,.int .i64 x0'.deep]++((getBox S n0 t0).getD []).drop 4)) n0 (.cell t0 2) ⟨5,x0'.out.map eNode,x0'_z2,x0'_g2⟩)
def zbS (x0:PExprs) (x0_g2:Nat) (x0_z2:Bool) (x1:List UInt8) (o:Option Int) (x0':PExprs) (x0'_g2:Nat) (x0'_z2:Bool):Prop:=∀ (S:Sto) (n0:Nat) (t0:Nat),(getBox S n0 t0).map (List.take 4)=some [.list 5 (x0.tokens.l.map eToken) false,.int .i64 x0.tokens.pos,.sl 0 (.cell t0 2) 0 x0.out.length x0.out.length x0_g2 false,.int .i64 x0.deep]∧getArr S n0 (.cell t0 2)=some ⟨5,x0.out.map eNode,x0_z2,x0_g2⟩→call SP 181 [.ptr n0 t0 0,.str x1] S=po 116 o (.v (.tup [])) (setArr (setBox S n0 t0 ([.list 5 (x0'.tokens.l.map eToken) false,.int .i64 x0'.tokens.pos,.sl 0 (.cell t0 2) 0 x0'.out.length x0'.out.length x0'_g2 false,.int .i64 x0'.deep]++((getBox S n0 t0).getD []).drop 4)) n0 (.cell t0 2) ⟨5,x0'.out.map eNode,x0'_z2,x0'_g2⟩)
def zi4 (x0:PExprs) (x0_g2:Nat) (x0_z2:Bool) (o:Option Int) (r0:Int) (x0':PExprs) (x0'_g2:Nat) (x0'_z2:Bool):Prop:=∀ (S:Sto) (n0:Nat) (t0:Nat),(getBox S n0 t0).map (List.take 4)=some [.list 5 (x0.tokens.l.map eToken) false,.int .i64 x0.tokens.pos,.sl 0 (.cell t0 2) 0 x0.out.length x0.out.length x0_g2 false,.int .i64 x0.deep]∧getArr S n0 (.cell t0 2)=some ⟨5,x0.out.map eNode,x0_z2,x0_g2⟩→call SP 201 [.ptr n0 t0 0] S=po 116 o (.v (.int .i64 r0)) (setArr (setBox S n0 t0 ([.list 5 (x0'.tokens.l.map eToken) false,.int .i64 x0'.tokens.pos,.sl 0 (.cell t0 2) 0 x0'.out.length x0'.out.length x0'_g2 false,.int .i64 x0'.deep]++((getBox S n0 t0).getD []).drop 4)) n0 (.cell t0 2) ⟨5,x0'.out.map eNode,x0'_z2,x0'_g2⟩)
def zdK (x0:PExprs) (x0_g2:Nat) (x0_z2:Bool) (x1:Int) (x2:Int) (r0:Int) (x0':PExprs) (x0'_g2:Nat) (x0'_z2:Bool):Prop:=∀ (S:Sto) (n0:Nat) (t0:Nat),(getBox S n0 t0).map (List.take 4)=some [.list 5 (x0.tokens.l.map eToken) false,.int .i64 x0.tokens.pos,.sl 0 (.cell t0 2) 0 x0.out.length x0.out.length x0_g2 false,.int .i64 x0.deep]∧getArr S n0 (.cell t0 2)=some ⟨5,x0.out.map eNode,x0_z2,x0_g2⟩→call SP 202 [.ptr n0 t0 0,.int .i64 x1,.int .i64 x2] S=.ok (.v (.int .i64 r0)) (setArr (setBox S n0 t0 ([.list 5 (x0'.tokens.l.map eToken) false,.int .i64 x0'.tokens.pos,.sl 0 (.cell t0 2) 0 x0'.out.length x0'.out.length x0'_g2 false,.int .i64 x0'.deep]++((getBox S n0 t0).getD []).drop 4)) n0 (.cell t0 2) ⟨5,x0'.out.map eNode,x0'_z2,x0'_g2⟩)
def zex (x0:PExprs) (x0_g2:Nat) (x0_z2:Bool) (x1:List UInt8) (o:Option Int) (r0:List Int) (x0':PExprs) (x0'_g2:Nat) (x0'_z2:Bool):Prop:=∀ (S:Sto) (n0:Nat) (t0:Nat),(getBox S n0 t0).map (List.take 4)=some [.list 5 (x0.tokens.l.map eToken) false,.int .i64 x0.tokens.pos,.sl 0 (.cell t0 2) 0 x0.out.length x0.out.length x0_g2 false,.int .i64 x0.deep]∧getArr S n0 (.cell t0 2)=some ⟨5,x0.out.map eNode,x0_z2,x0_g2⟩→call SP 203 [.ptr n0 t0 0,.str x1] S=po 116 o (.arr 1 (r0.map eI) false) (setArr (setBox S n0 t0 ([.list 5 (x0'.tokens.l.map eToken) false,.int .i64 x0'.tokens.pos,.sl 0 (.cell t0 2) 0 x0'.out.length x0'.out.length x0'_g2 false,.int .i64 x0'.deep]++((getBox S n0 t0).getD []).drop 4)) n0 (.cell t0 2) ⟨5,x0'.out.map eNode,x0'_z2,x0'_g2⟩)
end Go.Proofs.YtfbcnpbhhooapaaGreatDoor.M
namespace Go.Proofs.YtfbcnpbhhooapaaGreatDoor.M
open Go Classical
theorem u8e (a b:UInt8):(a=b)=(a.toNat=b.toNat):=propext UInt8.toNat_inj.symm
theorem sE {α:Sort _} {A:α→Prop} {F G:Prop} (h:∀ x,F→A x→G):F→(∃ x,A x)→G:=fun f ⟨x,a⟩=>h x f a
theorem sT {b:Bool} {A B F G:Prop} (h1:b=true∧F→A→G) (h2:b=false∧F→B→G):F→(b=true→A)∧(¬ b=true→B)→G:=fun f t=>by
  cases b
  ·exact h2 ⟨rfl,f⟩ (t.2 (by decide))
  exact h1 ⟨rfl,f⟩ (t.1 rfl)
theorem sQ {α:Sort _} {x v:α} {A B F G:Prop} (h1:((x=v)=True∧∀ y,(x=y)=(v=y))∧F→A→G) (h2:(x=v)=False∧F→B→G):F→(x=v→A)∧(¬ x=v→B)→G:=fun f t=>by
  by_cases c:x=v
  ·exact h1 ⟨⟨eq_true c,fun y=>by rw[c]⟩,f⟩ (t.1 c)
  exact h2 ⟨eq_false c,f⟩ (t.2 c)
theorem sC {c A B F G:Prop} (h1:c=True∧F→A→G) (h2:c=False∧F→B→G):F→(c→A)∧(¬ c→B)→G:=fun f t=>by
  by_cases h:c
  ·exact h1 ⟨eq_true h,f⟩ (t.1 h)
  exact h2 ⟨eq_false h,f⟩ (t.2 h)
theorem sW {x:Int} {B F G:Prop} (h:IntKind.i64.wrap x=x∧F→B→G):F→I64 x∧B→G:=fun f t=>h ⟨t.1.wrap,f⟩ t.2
theorem sR {p:Sto→Prop} {B F G:Prop} (h:(∀ S,p S)→F→B→G):F→(∀ S,p S)∧B→G:=fun f t=>h t.1 f t.2
theorem sK {q B F G:Prop} (a:q) (h:q∧F→B→G):F→B→G:=fun f=>h ⟨a,f⟩
theorem sF {p B F G:Prop} (h:p∧F→B→G):F→p∧B→G:=fun f t=>h ⟨t.1,f⟩ t.2
theorem sG {α β:Type} (g:α→β) {a:α} {l:List α} {i:Nat} {v:α} {B F G:Prop} (h:((a::l).map g)[i]?=some (g v)→F→B→G):F→((a::l)[i]?=some v)∧B→G:=fun f t=>h (by rw[List.getElem?_map,t.1];rfl) f t.2
theorem sB {a b:Nat} {p B F G:Prop} (e:bigRow a b=p) (h:p∧F→B→G):F→bigRow a b∧B→G:=fun f t=>h ⟨e ▸ t.1,f⟩ t.2
theorem rn {F T G:Prop} (f:F) (t:T) (h:F→T→G:=by
  repeat' first
    | refine sE fun _=>?_
    | refine sT ?_ ?_
    | refine sQ ?_ ?_
    | refine sC ?_ ?_
    | refine sW ?_
    | refine sB (bigRow.eq_1 _ _) ?_
    | (refine sR ?_;intro q;(try simp only[lF] at q);refine sK q ?_;clear q)
    | (rintro f ⟨rfl,t⟩;revert f t)
    | (refine sG eS ?_;intro q;simp only[le] at q;refine sK q ?_;clear q)
    | (refine sG eLPart ?_;intro q;simp only[le] at q;refine sK q ?_;clear q)
    | refine sF ?_
    | (rintro f rfl;simp only[f,lw,lx,le,Nat.reduceMul,UInt8.reduceToNat,reduceIte,reduceCtorEq,Nat.reduceEqDiff,Nat.reduceAdd,Nat.reduceLeDiff,Nat.reduceSub,Nat.reduceLT,Int.reduceEq,Int.reduceLT,Int.reduceLE,Int.reduceToNat,Int.reduceAdd,Int.reduceSub,Int.reduceMul,Int.reduceNeg];done)
    | (rintro f rfl;simp only[f,lw,lx,le,Nat.reduceMul,UInt8.reduceToNat,reduceIte,reduceCtorEq,Nat.reduceEqDiff,Nat.reduceAdd,Nat.reduceLeDiff,Nat.reduceSub,Nat.reduceLT,Int.reduceEq,Int.reduceLT,Int.reduceLE,Int.reduceToNat,Int.reduceAdd,Int.reduceSub,Int.reduceMul,Int.reduceNeg,List.cons.injEq,u8e,false_and,and_false];done)
    | (intro f t;(try simp only[f,lw,lx,le,Nat.reduceMul,UInt8.reduceToNat,reduceIte,reduceCtorEq,Nat.reduceEqDiff,Nat.reduceAdd,Nat.reduceLeDiff,Nat.reduceSub,Nat.reduceLT,Int.reduceEq,Int.reduceLT,Int.reduceLE,Int.reduceToNat,Int.reduceAdd,Int.reduceSub,Int.reduceMul,Int.reduceNeg]);refine t _ _ _ ?_;simp only[f,lw,lx,le,Nat.reduceMul,UInt8.reduceToNat,reduceIte,reduceCtorEq,Nat.reduceEqDiff,Nat.reduceAdd,Nat.reduceLeDiff,Nat.reduceSub,Nat.reduceLT,Int.reduceEq,Int.reduceLT,Int.reduceLE,Int.reduceToNat,Int.reduceAdd,Int.reduceSub,Int.reduceMul,Int.reduceNeg];done)
    | (intro f t;(try simp only[f,lw,lx,le,Nat.reduceMul,UInt8.reduceToNat,reduceIte,reduceCtorEq,Nat.reduceEqDiff,Nat.reduceAdd,Nat.reduceLeDiff,Nat.reduceSub,Nat.reduceLT,Int.reduceEq,Int.reduceLT,Int.reduceLE,Int.reduceToNat,Int.reduceAdd,Int.reduceSub,Int.reduceMul,Int.reduceNeg,List.cons.injEq,u8e,false_and,and_false]);refine t _ _ _ ?_;simp only[f,lw,lx,le,Nat.reduceMul,UInt8.reduceToNat,reduceIte,reduceCtorEq,Nat.reduceEqDiff,Nat.reduceAdd,Nat.reduceLeDiff,Nat.reduceSub,Nat.reduceLT,Int.reduceEq,Int.reduceLT,Int.reduceLE,Int.reduceToNat,Int.reduceAdd,Int.reduceSub,Int.reduceMul,Int.reduceNeg,List.cons.injEq,u8e,false_and,and_false];done)):G:=h f t
theorem rp {F T G:Prop} (n0 t0:Nat) (f:F) (t:T) (h:∀ a b,a=n0→b=t0→F→T→G:=by
  intro a b e1 e2;subst e1;subst e2
  repeat' first
    | refine sE fun _=>?_
    | refine sT ?_ ?_
    | refine sQ ?_ ?_
    | refine sC ?_ ?_
    | refine sW ?_
    | refine sB (bigRow.eq_1 _ _) ?_
    | (refine sR ?_;intro q;(try simp only[lF] at q);refine sK q ?_;clear q)
    | (rintro f ⟨rfl,t⟩;revert f t)
    | (refine sG eS ?_;intro q;simp only[le] at q;refine sK q ?_;clear q)
    | (refine sG eLPart ?_;intro q;simp only[le] at q;refine sK q ?_;clear q)
    | refine sF ?_
    | (rintro f rfl;simp only[f,lw,lx,le,Nat.reduceMul,UInt8.reduceToNat,reduceIte,reduceCtorEq,Nat.reduceEqDiff,Nat.reduceAdd,Nat.reduceLeDiff,Nat.reduceSub,Nat.reduceLT,Int.reduceEq,Int.reduceLT,Int.reduceLE,Int.reduceToNat,Int.reduceAdd,Int.reduceSub,Int.reduceMul,Int.reduceNeg];done)
    | (rintro f rfl;simp only[f,lw,lx,le,Nat.reduceMul,UInt8.reduceToNat,reduceIte,reduceCtorEq,Nat.reduceEqDiff,Nat.reduceAdd,Nat.reduceLeDiff,Nat.reduceSub,Nat.reduceLT,Int.reduceEq,Int.reduceLT,Int.reduceLE,Int.reduceToNat,Int.reduceAdd,Int.reduceSub,Int.reduceMul,Int.reduceNeg,List.cons.injEq,u8e,false_and,and_false];done)
    | (intro f t;(try simp only[f,lw,lx,le,Nat.reduceMul,UInt8.reduceToNat,reduceIte,reduceCtorEq,Nat.reduceEqDiff,Nat.reduceAdd,Nat.reduceLeDiff,Nat.reduceSub,Nat.reduceLT,Int.reduceEq,Int.reduceLT,Int.reduceLE,Int.reduceToNat,Int.reduceAdd,Int.reduceSub,Int.reduceMul,Int.reduceNeg]);refine (t _ _ _ a b ?_ ?_).trans ?_ <;> simp only[f,lw,lx,le,Nat.reduceMul,UInt8.reduceToNat,reduceIte,reduceCtorEq,Nat.reduceEqDiff,Nat.reduceAdd,Nat.reduceLeDiff,Nat.reduceSub,Nat.reduceLT,Int.reduceEq,Int.reduceLT,Int.reduceLE,Int.reduceToNat,Int.reduceAdd,Int.reduceSub,Int.reduceMul,Int.reduceNeg])
    | (intro f t;(try simp only[f,lw,lx,le,Nat.reduceMul,UInt8.reduceToNat,reduceIte,reduceCtorEq,Nat.reduceEqDiff,Nat.reduceAdd,Nat.reduceLeDiff,Nat.reduceSub,Nat.reduceLT,Int.reduceEq,Int.reduceLT,Int.reduceLE,Int.reduceToNat,Int.reduceAdd,Int.reduceSub,Int.reduceMul,Int.reduceNeg,List.cons.injEq,u8e,false_and,and_false]);refine (t _ _ _ a b ?_ ?_).trans ?_ <;> simp only[f,lw,lx,le,Nat.reduceMul,UInt8.reduceToNat,reduceIte,reduceCtorEq,Nat.reduceEqDiff,Nat.reduceAdd,Nat.reduceLeDiff,Nat.reduceSub,Nat.reduceLT,Int.reduceEq,Int.reduceLT,Int.reduceLE,Int.reduceToNat,Int.reduceAdd,Int.reduceSub,Int.reduceMul,Int.reduceNeg,List.cons.injEq,u8e,false_and,and_false])
    | (intro f t;(try simp only[f,lw,lx,le,Nat.reduceMul,UInt8.reduceToNat,reduceIte,reduceCtorEq,Nat.reduceEqDiff,Nat.reduceAdd,Nat.reduceLeDiff,Nat.reduceSub,Nat.reduceLT,Int.reduceEq,Int.reduceLT,Int.reduceLE,Int.reduceToNat,Int.reduceAdd,Int.reduceSub,Int.reduceMul,Int.reduceNeg]);refine t _ _ _ ?_;simp only[f,lw,lx,le,Nat.reduceMul,UInt8.reduceToNat,reduceIte,reduceCtorEq,Nat.reduceEqDiff,Nat.reduceAdd,Nat.reduceLeDiff,Nat.reduceSub,Nat.reduceLT,Int.reduceEq,Int.reduceLT,Int.reduceLE,Int.reduceToNat,Int.reduceAdd,Int.reduceSub,Int.reduceMul,Int.reduceNeg];done)
    | (intro f t;(try simp only[f,lw,lx,le,Nat.reduceMul,UInt8.reduceToNat,reduceIte,reduceCtorEq,Nat.reduceEqDiff,Nat.reduceAdd,Nat.reduceLeDiff,Nat.reduceSub,Nat.reduceLT,Int.reduceEq,Int.reduceLT,Int.reduceLE,Int.reduceToNat,Int.reduceAdd,Int.reduceSub,Int.reduceMul,Int.reduceNeg,List.cons.injEq,u8e,false_and,and_false]);refine t _ _ _ ?_;simp only[f,lw,lx,le,Nat.reduceMul,UInt8.reduceToNat,reduceIte,reduceCtorEq,Nat.reduceEqDiff,Nat.reduceAdd,Nat.reduceLeDiff,Nat.reduceSub,Nat.reduceLT,Int.reduceEq,Int.reduceLT,Int.reduceLE,Int.reduceToNat,Int.reduceAdd,Int.reduceSub,Int.reduceMul,Int.reduceNeg,List.cons.injEq,u8e,false_and,and_false];done)):G:=h n0 t0 rfl rfl f t
end Go.Proofs.YtfbcnpbhhooapaaGreatDoor.M
namespace Go.Proofs.YtfbcnpbhhooapaaGreatDoor.M
open Go
def sc_Q38:zk:=⟨1,13,.seq (.reg [⟨some 2,none,.alloc [(.int .i64 0),(.str []),(.int .i64 0),(.nils 2),(.int .i64 0)]⟩]) (.seq (.dreg [mO 3 0,vO 4 (.nchk (.t 3)),vO 5 (.faddr 0 (.t 4)),vO 6 (.load none (.t 5)),mO 7 0,vO 8 (.nchk (.t 7)),vO 9 (.faddr 1 (.t 8)),vO 10 (.load none (.t 9)),vO 11 (.iaddr 5 (.t 6) (.t 10)),vO 12 (.load (some 5) (.t 11)),⟨none,none,.store 5 (.t 2) (.t 12)⟩] [false,false,false,false,false,false,false,false,true,true,true]) .ret),[(.cell 2 (some 5))]⟩
theorem zyr:type_of% (sc_Q38.eq_1):=sc_Q38.eq_1
theorem comp_Q38:comp Tryz.prog Tryz.f38=some sc_Q38:=by kernel_rfl
def sc_Q42:zk:=⟨2,6,.reg [mO 4 1,vO 5 (.mkif 116 (.t 4)),⟨none,none,.panic (.t 5)⟩],[]⟩
theorem zyt:type_of% (sc_Q42.eq_1):=sc_Q42.eq_1
theorem comp_Q42:comp Tryz.prog Tryz.f42=some sc_Q42:=by kernel_rfl
def sc_Q102:zk:=⟨2,16,.seq (.reg [vO 4 (.mov (.c (.bool false)))]) (.seq (.reg [mO 5 0,kO 6 38 [(.t 5)],vO 7 (.field 0 none (.t 6)),vO 8 (.bin .eql (.t 7) (cI 4)),mO 9 8,gO 10 9 true (.mov (.t 0)),⟨some 11,some (9,true),.call (.c (.func 38 [])) [(.t 10)]⟩,gO 12 9 true (.field 1 none (.t 11)),gO 13 9 true (.mov (.t 1)),gO 14 9 true (.bin .eql (.t 12) (.t 13)),vO 15 (.pick (.t 9) (.t 14) (.c (.bool false))),mO 4 15]) .ret),[(.t 4)]⟩
theorem zwv:type_of% (sc_Q102.eq_1):=sc_Q102.eq_1
theorem comp_Q102:comp Tryz.prog Tryz.f102=some sc_Q102:=by kernel_rfl
def sc_Q67:zk:=⟨2,16,.seq (.reg [vO 4 (.mov (.c (.bool false)))]) (.seq (.seq (.reg [mO 5 0,mO 6 1,kO 7 102 [(.t 5),(.t 6)],vO 8 (.un .not (.t 7))]) (.cond (.t 8) (.seq (.reg [vO 4 (.mov (.c (.bool false)))]) .ret) .skip)) (.seq (.reg [mO 9 0,vO 10 (.nchk (.t 9)),vO 11 (.faddr 1 (.t 10)),vO 12 (.load none (.t 11)),vO 13 (.bin .add (.t 12) (cI 1)),vO 14 (.nchk (.t 9)),vO 15 (.faddr 1 (.t 14)),⟨none,none,.store 1 (.t 15) (.t 13)⟩]) (.seq (.reg [vO 4 (.mov (.c (.bool true)))]) .ret))),[(.t 4)]⟩
theorem zyG:type_of% (sc_Q67.eq_1):=sc_Q67.eq_1
theorem comp_Q67:comp Tryz.prog Tryz.f67=some sc_Q67:=by kernel_rfl
def sc_Q66:zk:=⟨2,10,.seq (.reg [mO 4 0,mO 5 1,kO 6 67 [(.t 4),(.t 5)],vO 7 (.un .not (.t 6))]) (.cond (.t 7) (.reg [mO 8 0,kO 9 42 [(.t 8),(cI 5)]]) .skip),[]⟩
theorem zye:type_of% (sc_Q66.eq_1):=sc_Q66.eq_1
theorem comp_Q66:comp Tryz.prog Tryz.f66=some sc_Q66:=by kernel_rfl
def sc_Q101:zk:=⟨1,20,.seq (.reg [vO 2 (.mov (.c (.str [])))]) (.seq (.reg [mO 4 0,kO 5 38 [(.t 4)],⟨some 3,none,.alloc [(.int .i64 0),(.str []),(.int .i64 0),(.nils 2),(.int .i64 0)]⟩,⟨none,none,.store 5 (.t 3) (.t 5)⟩]) (.seq (.seq (.reg [vO 6 (.faddr 0 (.t 3)),vO 7 (.load none (.t 6)),vO 8 (.bin .neq (.t 7) (cI 3))]) (.cond (.t 8) (.reg [mO 9 0,kO 10 42 [(.t 9),(cI 5)]]) .skip)) (.seq (.reg [mO 11 0,vO 12 (.nchk (.t 11)),vO 13 (.faddr 1 (.t 12)),vO 14 (.load none (.t 13)),vO 15 (.bin .add (.t 14) (cI 1)),vO 16 (.nchk (.t 11)),vO 17 (.faddr 1 (.t 16)),⟨none,none,.store 1 (.t 17) (.t 15)⟩]) (.seq (.reg [vO 18 (.faddr 1 (.t 3)),vO 19 (.load none (.t 18)),mO 2 19]) .ret)))),[(.t 2)]⟩
theorem zxn:type_of% (sc_Q101.eq_1):=sc_Q101.eq_1
theorem comp_Q101:comp Tryz.prog Tryz.f101=some sc_Q101:=by kernel_rfl
def sc_Q104:zk:=⟨2,32,.seq (.seq (.reg [mO 4 0,vO 5 (.nchk (.t 4)),vO 6 (.faddr 0 (.t 5)),mO 7 1,kO 8 102 [(.t 6),(.t 7)],mO 9 8,gO 10 9 true (.mov (.t 0)),gO 11 9 true (.nchk (.t 10)),gO 12 9 true (.faddr 3 (.t 11)),gO 13 9 true (.load none (.t 12)),gO 14 9 true (.bin .geq (.t 13) (cI 64)),vO 15 (.pick (.t 9) (.t 14) (.c (.bool false)))]) (.cond (.t 15) (.reg [mO 16 0,vO 17 (.nchk (.t 16)),vO 18 (.faddr 0 (.t 17)),kO 19 42 [(.t 18),(cI 6)]]) .skip)) (.seq (.reg [mO 20 0,vO 21 (.nchk (.t 20)),vO 22 (.faddr 0 (.t 21)),mO 23 1,kO 24 66 [(.t 22),(.t 23)]]) (.reg [mO 25 0,vO 26 (.nchk (.t 25)),vO 27 (.faddr 3 (.t 26)),vO 28 (.load none (.t 27)),vO 29 (.bin .add (.t 28) (cI 1)),vO 30 (.nchk (.t 25)),vO 31 (.faddr 3 (.t 30)),⟨none,none,.store 1 (.t 31) (.t 29)⟩])),[]⟩
theorem zxv:type_of% (sc_Q104.eq_1):=sc_Q104.eq_1
theorem comp_Q104:comp Tryz.prog Tryz.f104=some sc_Q104:=by kernel_rfl
def sc_Q181:zk:=⟨2,16,.seq (.reg [mO 4 0,vO 5 (.nchk (.t 4)),vO 6 (.faddr 0 (.t 5)),mO 7 1,kO 8 66 [(.t 6),(.t 7)]]) (.reg [mO 9 0,vO 10 (.nchk (.t 9)),vO 11 (.faddr 3 (.t 10)),vO 12 (.load none (.t 11)),vO 13 (.bin .sub (.t 12) (cI 1)),vO 14 (.nchk (.t 9)),vO 15 (.faddr 3 (.t 14)),⟨none,none,.store 1 (.t 15) (.t 13)⟩]),[]⟩
theorem zxD:type_of% (sc_Q181.eq_1):=sc_Q181.eq_1
theorem comp_Q181:comp Tryz.prog Tryz.f181=some sc_Q181:=by kernel_rfl
def sc_Q105:zk:=⟨4,29,.seq (.reg [vO 8 (.mov (cI 0))]) (.seq (.dreg [mO 9 0,mO 10 0,vO 11 (.nchk (.t 10)),vO 12 (.faddr 2 (.t 11)),vO 13 (.load none (.t 12)),mO 14 1,mO 15 2,mO 16 3,kO 17 144 [(.t 16)],vO 18 (.build [(.int .i64 0),(.int .i64 0),(.str []),(.nils 2),(.nils 1)] [(0,1,(.t 14)),(2,1,(.t 15)),(4,1,(.t 17))]),⟨some 19,none,.bslice 5 1 [(.int .i64 0),(.int .i64 0),(.str []),(.nils 2),(.nils 1)] [(0,(.t 18))]⟩,⟨some 20,none,.append 5 80 (.t 13) (.t 19)⟩,vO 21 (.nchk (.t 9)),vO 22 (.faddr 2 (.t 21)),⟨none,none,.store 1 (.t 22) (.t 20)⟩] [false,false,false,false,false,false,false,false,false,false,false,true,true,true,true]) (.seq (.reg [mO 23 0,vO 24 (.nchk (.t 23)),vO 25 (.faddr 2 (.t 24)),vO 26 (.load none (.t 25)),vO 27 (.len false (.t 26)),vO 28 (.bin .sub (.t 27) (cI 1)),mO 8 28]) .ret)),[(.t 8)]⟩
theorem zws:type_of% (sc_Q105.eq_1):=sc_Q105.eq_1
theorem comp_Q105:comp Tryz.prog Tryz.f105=some sc_Q105:=by kernel_rfl
def c_Q143_1:SC:=.seq (.reg [⟨some 15,none,.bslice 1 5 [(.int .i64 0)] [(0,(cI 11)),(1,(cI 12)),(2,(cI 13)),(3,(cI 19)),(4,(cI 21))]⟩,mO 7 15]) (.seq (.reg [mO 16 6,mO 17 0,vO 18 (.iaddr 1 (.t 16) (.t 17)),vO 19 (.load none (.t 18)),mO 20 1,kO 21 62 [(.t 19),(.t 20)],mO 8 21]) (.seq (.reg [mO 22 7,mO 23 0,vO 24 (.iaddr 1 (.t 22) (.t 23)),vO 25 (.load none (.t 24)),mO 26 8,vO 27 (.bin .add (.t 25) (.t 26)),mO 28 8,vO 29 (.bin .geq (.t 28) (cI 0)),mO 4 27,mO 5 29]) .ret))
def c_Q143_2:SC:=.seq (.reg [⟨some 9,none,.bslice 1 1 [(.str [])] [(0,(.c (.str [124,124])))]⟩,⟨some 10,none,.bslice 1 1 [(.str [])] [(0,(.c (.str [38,38])))]⟩,⟨some 11,none,.bslice 1 6 [(.str [])] [(0,(.c (.str [61,61]))),(1,(.c (.str [33,61]))),(2,(.c (.str [60]))),(3,(.c (.str [60,61]))),(4,(.c (.str [62]))),(5,(.c (.str [62,61])))]⟩,⟨some 12,none,.bslice 1 2 [(.str [])] [(0,(.c (.str [43]))),(1,(.c (.str [45])))]⟩,⟨some 13,none,.bslice 1 3 [(.str [])] [(0,(.c (.str [42]))),(1,(.c (.str [47]))),(2,(.c (.str [37])))]⟩,⟨some 14,none,.bslice 1 5 [(.nils 1)] [(0,(.t 9)),(1,(.t 10)),(2,(.t 11)),(3,(.t 12)),(4,(.t 13))]⟩,mO 6 14]) c_Q143_1
def sc_Q143:zk:=⟨2,30,.seq (.reg [vO 4 (.mov (cI 0)),vO 5 (.mov (.c (.bool false)))]) c_Q143_2,[(.t 4),(.t 5)]⟩
theorem zwW:type_of% (aI (ue c_Q143_1.eq_1)<|aI (ue c_Q143_2.eq_1)<|sc_Q143.eq_1):=aI (ue c_Q143_1.eq_1)<|aI (ue c_Q143_2.eq_1)<|sc_Q143.eq_1
theorem comp_Q143:comp Tryz.prog Tryz.f143=some sc_Q143:=by kernel_rfl
def c_slices_Index_string_string_1:SC:=.seq (.reg [vO 4 (.mov (cI (-1)))]) .ret
def b_slices_Index_string_string_1:SC:=.seq (.reg [vO 9 (.bin .lss (.t 8) (.t 7))]) (.seq (.cond (.t 9) .skip (.exit 0)) (.seq (.block 1 (.seq (.reg [mO 10 8,mO 5 10]) (.seq (.reg [mO 11 1,mO 12 0,mO 13 5,vO 14 (.iaddr 1 (.t 12) (.t 13)),vO 15 (.load none (.t 14)),vO 16 (.bin .eql (.t 11) (.t 15))]) (.cond (.t 16) (.seq (.reg [mO 17 5,mO 4 17]) .ret) .skip)))) (.reg [vO 18 (.bin .add (.t 8) (cI 1)),mO 8 18])))
def sc_slices_Index_string_string:zk:=⟨2,19,.seq (.reg [vO 4 (.mov (cI 0))]) (.seq (.seq (.reg [mO 6 0,vO 7 (.len false (.t 6)),vO 8 (.mov (cI 0))]) (.block 0 (.loop b_slices_Index_string_string_1))) c_slices_Index_string_string_1),[(.t 4)]⟩
noncomputable def zbi (SP:Prg) (x:EO):CO:=fin [(.t 4)] (thC SP (zK 0 (x)) c_slices_Index_string_string_1)
theorem zbv:type_of% (aI (ue c_slices_Index_string_string_1.eq_1)<|aI (ue b_slices_Index_string_string_1.eq_1)<|sc_slices_Index_string_string.eq_1):=aI (ue c_slices_Index_string_string_1.eq_1)<|aI (ue b_slices_Index_string_string_1.eq_1)<|sc_slices_Index_string_string.eq_1
theorem comp_slices_Index_string_string:comp Tryz.prog Tryz.f62=some sc_slices_Index_string_string:=by kernel_rfl
def sc_Q202:zk:=⟨3,20,.seq (.reg [vO 6 (.mov (cI 0))]) (.seq (.reg [mO 8 0,mO 9 1,kO 10 105 [(.t 8),(.t 9),(.c (.str [])),(.c (.nils 1))],mO 7 10]) (.seq (.reg [mO 11 0,vO 12 (.nchk (.t 11)),vO 13 (.faddr 2 (.t 12)),vO 14 (.load none (.t 13)),mO 15 7,mO 16 2,vO 17 (.iaddr 5 (.t 14) (.t 15)),vO 18 (.faddr 1 (.t 17)),⟨none,none,.store 1 (.t 18) (.t 16)⟩]) (.seq (.reg [mO 19 7,mO 6 19]) .ret))),[(.t 6)]⟩
theorem zwJ:type_of% (sc_Q202.eq_1):=sc_Q202.eq_1
theorem comp_Q202:comp Tryz.prog Tryz.f202=some sc_Q202:=by kernel_rfl
def c_Q201_1:SC:=.seq (.reg [mO 32 0,kO 33 104 [(.t 32),(.c (.str [40]))]]) (.seq (.reg [mO 34 0,mO 35 3,mO 36 0,kO 37 203 [(.t 36),(.c (.str [41]))],kO 38 105 [(.t 34),(cI 5),(.t 35),(.t 37)],mO 2 38]) .ret)
def c_Q201_2:SC:=.cond (.t 8) (.seq (.reg [mO 11 0,kO 12 202 [(.t 11),(cI 3),(cI 1)],mO 2 12]) .ret) (.seq (.reg [mO 14 3,vO 15 (.bin .eql (.t 14) (.c (.str [102,97,108,115,101]))),mO 13 15]) (.cond (.t 13) (.seq (.reg [mO 16 0,kO 17 202 [(.t 16),(cI 3),(cI 0)],mO 2 17]) .ret) (.seq (.reg [mO 19 0,vO 20 (.nchk (.t 19)),vO 21 (.faddr 0 (.t 20)),kO 22 67 [(.t 21),(.c (.str [46]))],mO 18 22]) (.cond (.t 18) (.seq (.reg [mO 23 0,mO 24 3,vO 25 (.bin .add (.t 24) (.c (.str [46]))),mO 26 0,vO 27 (.nchk (.t 26)),vO 28 (.faddr 0 (.t 27)),kO 29 101 [(.t 28)],vO 30 (.bin .add (.t 25) (.t 29)),kO 31 105 [(.t 23),(cI 4),(.t 30),(.c (.nils 1))],mO 2 31]) .ret) .skip))))
def c_Q201_3:SC:=.seq (.block 0 (.seq (.reg [mO 9 3,vO 10 (.bin .eql (.t 9) (.c (.str [116,114,117,101]))),mO 8 10]) c_Q201_2)) c_Q201_1
def c_Q201_4:SC:=.seq (.reg [mO 4 0,vO 5 (.nchk (.t 4)),vO 6 (.faddr 0 (.t 5)),kO 7 101 [(.t 6)],mO 3 7]) c_Q201_3
def sc_Q201:zk:=⟨1,39,.seq (.reg [vO 2 (.mov (cI 0))]) c_Q201_4,[(.t 2)]⟩
theorem zxG:type_of% (aI (ue c_Q201_1.eq_1)<|aI (ue c_Q201_2.eq_1)<|aI (ue c_Q201_3.eq_1)<|aI (ue c_Q201_4.eq_1)<|sc_Q201.eq_1):=aI (ue c_Q201_1.eq_1)<|aI (ue c_Q201_2.eq_1)<|aI (ue c_Q201_3.eq_1)<|aI (ue c_Q201_4.eq_1)<|sc_Q201.eq_1
theorem comp_Q201:comp Tryz.prog Tryz.f201=some sc_Q201:=by kernel_rfl
def c_Q180_1:SC:=.seq (.reg [mO 69 0,kO 70 104 [(.t 69),(.c (.str [40]))]]) (.seq (.reg [mO 71 0,kO 72 68 [(.t 71)],mO 5 72]) (.seq (.reg [mO 73 0,kO 74 181 [(.t 73),(.c (.str [41]))]]) (.seq (.reg [mO 75 5,mO 2 75]) .ret)))
def c_Q180_2:SC:=.cond (.t 33) (.seq (.reg [mO 37 0,vO 38 (.nchk (.t 37)),vO 39 (.faddr 0 (.t 38)),vO 40 (.faddr 1 (.t 39)),vO 41 (.load none (.t 40)),vO 42 (.bin .add (.t 41) (cI 1)),vO 43 (.nchk (.t 37)),vO 44 (.faddr 0 (.t 43)),vO 45 (.faddr 1 (.t 44)),⟨none,none,.store 1 (.t 45) (.t 42)⟩]) (.seq (.reg [mO 46 0,kO 47 105 [(.t 46),(cI 2),(.c (.str [])),(.c (.nils 1))],mO 4 47]) (.seq (.dreg [mO 48 0,vO 49 (.nchk (.t 48)),vO 50 (.faddr 2 (.t 49)),vO 51 (.load none (.t 50)),mO 52 4,vO 53 (.faddr 3 (.t 3)),vO 54 (.load none (.t 53)),vO 55 (.iaddr 5 (.t 51) (.t 52)),vO 56 (.faddr 3 (.t 55)),⟨none,none,.store 1 (.t 56) (.t 54)⟩] [false,false,false,false,false,false,false,true,true,true]) (.seq (.reg [mO 57 4,mO 2 57]) .ret)))) (.seq (.reg [mO 59 0,vO 60 (.nchk (.t 59)),vO 61 (.faddr 0 (.t 60)),kO 62 102 [(.t 61),(.c (.str [91]))],mO 58 62]) (.cond (.t 58) (.seq (.reg [mO 63 0,kO 64 104 [(.t 63),(.c (.str [91]))]]) (.seq (.reg [mO 65 0,mO 66 0,kO 67 203 [(.t 66),(.c (.str [93]))],kO 68 105 [(.t 65),(cI 6),(.c (.str [])),(.t 67)],mO 2 68]) .ret)) .skip))
def c_Q180_3:SC:=.cond (.t 16) (.seq (.reg [mO 20 0,vO 21 (.nchk (.t 20)),vO 22 (.faddr 0 (.t 21)),vO 23 (.faddr 1 (.t 22)),vO 24 (.load none (.t 23)),vO 25 (.bin .add (.t 24) (cI 1)),vO 26 (.nchk (.t 20)),vO 27 (.faddr 0 (.t 26)),vO 28 (.faddr 1 (.t 27)),⟨none,none,.store 1 (.t 28) (.t 25)⟩]) (.seq (.reg [mO 29 0,vO 30 (.faddr 2 (.t 3)),vO 31 (.load none (.t 30)),kO 32 202 [(.t 29),(cI 1),(.t 31)],mO 2 32]) .ret)) (.seq (.reg [vO 34 (.faddr 0 (.t 3)),vO 35 (.load none (.t 34)),vO 36 (.bin .eql (.t 35) (cI 2)),mO 33 36]) c_Q180_2)
def c_Q180_4:SC:=.cond (.t 10) (.seq (.reg [mO 14 0,kO 15 201 [(.t 14)],mO 2 15]) .ret) (.seq (.reg [vO 17 (.faddr 0 (.t 3)),vO 18 (.load none (.t 17)),vO 19 (.bin .eql (.t 18) (cI 1)),mO 16 19]) c_Q180_3)
def c_Q180_5:SC:=.seq (.block 0 (.seq (.reg [vO 11 (.faddr 0 (.t 3)),vO 12 (.load none (.t 11)),vO 13 (.bin .eql (.t 12) (cI 3)),mO 10 13]) c_Q180_4)) c_Q180_1
def c_Q180_6:SC:=.seq (.reg [mO 6 0,vO 7 (.nchk (.t 6)),vO 8 (.faddr 0 (.t 7)),kO 9 38 [(.t 8)],⟨some 3,none,.alloc [(.int .i64 0),(.str []),(.int .i64 0),(.nils 2),(.int .i64 0)]⟩,⟨none,none,.store 5 (.t 3) (.t 9)⟩]) c_Q180_5
def sc_Q180:zk:=⟨1,76,.seq (.reg [vO 2 (.mov (cI 0))]) c_Q180_6,[(.t 2)]⟩
theorem zwS:type_of% (aI (ue c_Q180_1.eq_1)<|aI (ue c_Q180_2.eq_1)<|aI (ue c_Q180_3.eq_1)<|aI (ue c_Q180_4.eq_1)<|aI (ue c_Q180_5.eq_1)<|aI (ue c_Q180_6.eq_1)<|sc_Q180.eq_1):=aI (ue c_Q180_1.eq_1)<|aI (ue c_Q180_2.eq_1)<|aI (ue c_Q180_3.eq_1)<|aI (ue c_Q180_4.eq_1)<|aI (ue c_Q180_5.eq_1)<|aI (ue c_Q180_6.eq_1)<|sc_Q180.eq_1
theorem comp_Q180:comp Tryz.prog Tryz.f180=some sc_Q180:=by kernel_rfl
def sc_Q41:zk:=⟨1,12,.seq (.reg [⟨some 2,none,.nilv 5⟩]) (.seq (.reg [mO 3 0,vO 4 (.nchk (.t 3)),vO 5 (.faddr 2 (.t 4)),⟨none,none,.store 1 (.t 5) (.c (.nils 5))⟩]) (.seq (.reg [mO 6 0,kO 7 68 [(.t 6)]]) (.seq (.reg [mO 8 0,vO 9 (.nchk (.t 8)),vO 10 (.faddr 2 (.t 9)),vO 11 (.load none (.t 10)),mO 2 11]) .ret))),[(.t 2)]⟩
theorem zyH:type_of% (sc_Q41.eq_1):=sc_Q41.eq_1
theorem comp_Q41:comp Tryz.prog Tryz.f41=some sc_Q41:=by kernel_rfl
def c_Q103_1:SC:=.seq (.reg [mO 54 5,mO 4 54]) .ret
def c_Q103_2:SC:=.seq (.seq (.reg [mO 32 7,vO 33 (.un .not (.t 32))]) (.cond (.t 33) (.exit 0) .skip)) (.seq (.reg [mO 34 0,vO 35 (.nchk (.t 34)),vO 36 (.faddr 0 (.t 35)),vO 37 (.faddr 1 (.t 36)),vO 38 (.load none (.t 37)),vO 39 (.bin .add (.t 38) (cI 1)),vO 40 (.nchk (.t 34)),vO 41 (.faddr 0 (.t 40)),vO 42 (.faddr 1 (.t 41)),⟨none,none,.store 1 (.t 42) (.t 39)⟩]) (.seq (.reg [mO 43 0,mO 44 6,mO 45 5,mO 46 0,mO 47 1,vO 48 (.bin .add (.t 47) (cI 1)),kO 49 103 [(.t 46),(.t 48)],⟨some 50,none,.bslice 1 2 [(.int .i64 0)] [(0,(.t 45)),(1,(.t 49))]⟩,kO 51 105 [(.t 43),(.t 44),(.c (.str [])),(.t 50)],mO 5 51]) (.seq (.reg [mO 52 1,vO 53 (.bin .eql (.t 52) (cI 2))]) (.cond (.t 53) (.exit 0) .skip))))
def c_Q103_3:SC:=.block 1 (.seq (.reg [mO 23 1,mO 24 0,vO 25 (.nchk (.t 24)),vO 26 (.faddr 0 (.t 25)),kO 27 38 [(.t 26)],vO 28 (.field 1 none (.t 27)),kO 29 143 [(.t 23),(.t 28)],mO 22 29,vO 30 (.extract 0 (.t 22)),vO 31 (.extract 1 (.t 22)),mO 6 30,mO 7 31]) c_Q103_2)
def b_Q103_1:SC:=.seq (.seq (.reg [mO 16 0,vO 17 (.nchk (.t 16)),vO 18 (.faddr 0 (.t 17)),kO 19 38 [(.t 18)],vO 20 (.field 0 none (.t 19)),vO 21 (.bin .eql (.t 20) (cI 4))]) (.cond (.t 21) .skip (.exit 0))) c_Q103_3
def c_Q103_4:SC:=.seq (.block 0 (.loop b_Q103_1)) c_Q103_1
def c_Q103_5:SC:=.seq (.reg [mO 12 0,mO 13 1,vO 14 (.bin .add (.t 13) (cI 1)),kO 15 103 [(.t 12),(.t 14)],mO 5 15]) c_Q103_4
def c_Q103_6:SC:=.seq (.seq (.reg [mO 8 1,vO 9 (.bin .eql (.t 8) (cI 5))]) (.cond (.t 9) (.seq (.reg [mO 10 0,kO 11 142 [(.t 10)],mO 4 11]) .ret) .skip)) c_Q103_5
def sc_Q103:zk:=⟨2,55,.seq (.reg [vO 4 (.mov (cI 0))]) c_Q103_6,[(.t 4)]⟩
noncomputable def zmt (SP:Prg) (x:EO):CO:=fin [(.t 4)] (thC SP (zK 0 (x)) c_Q103_1)
theorem zsc:type_of% (aI (ue c_Q103_1.eq_1)<|aI (ue c_Q103_2.eq_1)<|aI (ue c_Q103_3.eq_1)<|aI (ue b_Q103_1.eq_1)<|aI (ue c_Q103_4.eq_1)<|aI (ue c_Q103_5.eq_1)<|aI (ue c_Q103_6.eq_1)<|sc_Q103.eq_1):=aI (ue c_Q103_1.eq_1)<|aI (ue c_Q103_2.eq_1)<|aI (ue c_Q103_3.eq_1)<|aI (ue b_Q103_1.eq_1)<|aI (ue c_Q103_4.eq_1)<|aI (ue c_Q103_5.eq_1)<|aI (ue c_Q103_6.eq_1)<|sc_Q103.eq_1
theorem comp_Q103:comp Tryz.prog Tryz.f103=some sc_Q103:=by kernel_rfl
def c_Q68_1:SC:=.seq (.reg [mO 14 0,kO 15 104 [(.t 14),(.c (.str [63]))]]) (.seq (.reg [mO 16 0,kO 17 68 [(.t 16)],mO 4 17]) (.seq (.reg [mO 18 0,vO 19 (.nchk (.t 18)),vO 20 (.faddr 0 (.t 19)),kO 21 66 [(.t 20),(.c (.str [58]))]]) (.seq (.reg [mO 22 0,kO 23 68 [(.t 22)],mO 5 23]) (.seq (.reg [mO 24 0,vO 25 (.nchk (.t 24)),vO 26 (.faddr 3 (.t 25)),vO 27 (.load none (.t 26)),vO 28 (.bin .sub (.t 27) (cI 1)),vO 29 (.nchk (.t 24)),vO 30 (.faddr 3 (.t 29)),⟨none,none,.store 1 (.t 30) (.t 28)⟩]) (.seq (.reg [mO 31 0,mO 32 3,mO 33 4,mO 34 5,⟨some 35,none,.bslice 1 3 [(.int .i64 0)] [(0,(.t 32)),(1,(.t 33)),(2,(.t 34))]⟩,kO 36 105 [(.t 31),(cI 10),(.c (.str [])),(.t 35)],mO 2 36]) .ret)))))
def c_Q68_2:SC:=.seq (.seq (.reg [mO 8 0,vO 9 (.nchk (.t 8)),vO 10 (.faddr 0 (.t 9)),kO 11 102 [(.t 10),(.c (.str [63]))],vO 12 (.un .not (.t 11))]) (.cond (.t 12) (.seq (.reg [mO 13 3,mO 2 13]) .ret) .skip)) c_Q68_1
def c_Q68_3:SC:=.seq (.reg [mO 6 0,kO 7 103 [(.t 6),(cI 0)],mO 3 7]) c_Q68_2
def sc_Q68:zk:=⟨1,37,.seq (.reg [vO 2 (.mov (cI 0))]) c_Q68_3,[(.t 2)]⟩
theorem zyI:type_of% (aI (ue c_Q68_1.eq_1)<|aI (ue c_Q68_2.eq_1)<|aI (ue c_Q68_3.eq_1)<|sc_Q68.eq_1):=aI (ue c_Q68_1.eq_1)<|aI (ue c_Q68_2.eq_1)<|aI (ue c_Q68_3.eq_1)<|sc_Q68.eq_1
theorem comp_Q68:comp Tryz.prog Tryz.f68=some sc_Q68:=by kernel_rfl
def c_Q142_1:SC:=.seq (.reg [mO 21 0,kO 22 142 [(.t 21)],mO 4 22]) (.seq (.reg [mO 23 0,vO 24 (.nchk (.t 23)),vO 25 (.faddr 3 (.t 24)),vO 26 (.load none (.t 25)),vO 27 (.bin .sub (.t 26) (cI 1)),vO 28 (.nchk (.t 23)),vO 29 (.faddr 3 (.t 28)),⟨none,none,.store 1 (.t 29) (.t 27)⟩]) (.seq (.reg [mO 30 0,mO 31 3,mO 32 4,⟨some 33,none,.bslice 1 1 [(.int .i64 0)] [(0,(.t 32))]⟩,kO 34 105 [(.t 30),(.t 31),(.c (.str [])),(.t 33)],mO 2 34]) .ret))
def c_Q142_2:SC:=.seq (.block 0 (.seq (.reg [mO 8 0,vO 9 (.nchk (.t 8)),vO 10 (.faddr 0 (.t 9)),kO 11 102 [(.t 10),(.c (.str [45]))],mO 7 11]) (.cond (.t 7) (.reg [mO 12 0,kO 13 104 [(.t 12),(.c (.str [45]))]]) (.seq (.reg [mO 15 0,vO 16 (.nchk (.t 15)),vO 17 (.faddr 0 (.t 16)),kO 18 102 [(.t 17),(.c (.str [33]))],mO 14 18]) (.cond (.t 14) (.seq (.reg [mO 19 0,kO 20 104 [(.t 19),(.c (.str [33]))]]) (.reg [vO 3 (.mov (cI 8))])) (.seq (.reg [mO 5 0,kO 6 167 [(.t 5)],mO 2 6]) .ret)))))) c_Q142_1
def c_Q142_3:SC:=.seq (.reg [vO 3 (.mov (cI 9))]) c_Q142_2
def sc_Q142:zk:=⟨1,35,.seq (.reg [vO 2 (.mov (cI 0))]) c_Q142_3,[(.t 2)]⟩
theorem zxh:type_of% (aI (ue c_Q142_1.eq_1)<|aI (ue c_Q142_2.eq_1)<|aI (ue c_Q142_3.eq_1)<|sc_Q142.eq_1):=aI (ue c_Q142_1.eq_1)<|aI (ue c_Q142_2.eq_1)<|aI (ue c_Q142_3.eq_1)<|sc_Q142.eq_1
theorem comp_Q142:comp Tryz.prog Tryz.f142=some sc_Q142:=by kernel_rfl
def c_Q167_1:SC:=.seq (.reg [mO 22 3,mO 2 22]) .ret
def b_Q167_1:SC:=.seq (.seq (.reg [mO 7 0,vO 8 (.nchk (.t 7)),vO 9 (.faddr 0 (.t 8)),kO 10 102 [(.t 9),(.c (.str [91]))]]) (.cond (.t 10) .skip (.exit 0))) (.block 1 (.seq (.reg [mO 11 0,kO 12 104 [(.t 11),(.c (.str [91]))]]) (.seq (.reg [mO 13 0,kO 14 68 [(.t 13)],mO 4 14]) (.seq (.reg [mO 15 0,kO 16 181 [(.t 15),(.c (.str [93]))]]) (.reg [mO 17 0,mO 18 3,mO 19 4,⟨some 20,none,.bslice 1 2 [(.int .i64 0)] [(0,(.t 18)),(1,(.t 19))]⟩,kO 21 105 [(.t 17),(cI 7),(.c (.str [])),(.t 20)],mO 3 21])))))
def sc_Q167:zk:=⟨1,23,.seq (.reg [vO 2 (.mov (cI 0))]) (.seq (.reg [mO 5 0,kO 6 180 [(.t 5)],mO 3 6]) (.seq (.block 0 (.loop b_Q167_1)) c_Q167_1)),[(.t 2)]⟩
noncomputable def zns (SP:Prg) (x:EO):CO:=fin [(.t 2)] (thC SP (zK 0 (x)) c_Q167_1)
theorem zso:type_of% (aI (ue c_Q167_1.eq_1)<|aI (ue b_Q167_1.eq_1)<|sc_Q167.eq_1):=aI (ue c_Q167_1.eq_1)<|aI (ue b_Q167_1.eq_1)<|sc_Q167.eq_1
theorem comp_Q167:comp Tryz.prog Tryz.f167=some sc_Q167:=by kernel_rfl
def c_Q203_1:SC:=.seq (.reg [mO 26 0,mO 27 1,kO 28 181 [(.t 26),(.t 27)]]) (.seq (.reg [mO 29 5,mO 4 29]) .ret)
def b_Q203_1:SC:=.seq (.seq (.reg [mO 17 0,vO 18 (.nchk (.t 17)),vO 19 (.faddr 0 (.t 18)),kO 20 67 [(.t 19),(.c (.str [44]))]]) (.cond (.t 20) .skip (.exit 0))) (.block 1 (.reg [mO 21 5,mO 22 0,kO 23 68 [(.t 22)],⟨some 24,none,.bslice 1 1 [(.int .i64 0)] [(0,(.t 23))]⟩,⟨some 25,none,.append 1 8 (.t 21) (.t 24)⟩,mO 5 25]))
def c_Q203_2:SC:=.seq (.reg [⟨some 5,none,.nilv 1⟩]) (.seq (.seq (.reg [mO 6 0,vO 7 (.nchk (.t 6)),vO 8 (.faddr 0 (.t 7)),mO 9 1,kO 10 102 [(.t 8),(.t 9)],vO 11 (.un .not (.t 10))]) (.cond (.t 11) (.seq (.reg [mO 12 5,mO 13 0,kO 14 68 [(.t 13)],⟨some 15,none,.bslice 1 1 [(.int .i64 0)] [(0,(.t 14))]⟩,⟨some 16,none,.append 1 8 (.t 12) (.t 15)⟩,mO 5 16]) (.block 0 (.loop b_Q203_1))) .skip)) c_Q203_1)
def sc_Q203:zk:=⟨2,30,.seq (.reg [⟨some 4,none,.nilv 1⟩]) c_Q203_2,[(.t 4)]⟩
noncomputable def znq (SP:Prg) (x:EO):CO:=fin [(.t 4)] (thC SP (zK 0 (x)) c_Q203_1)
theorem zr2:type_of% (aI (ue c_Q203_1.eq_1)<|aI (ue b_Q203_1.eq_1)<|aI (ue c_Q203_2.eq_1)<|sc_Q203.eq_1):=aI (ue c_Q203_1.eq_1)<|aI (ue b_Q203_1.eq_1)<|aI (ue c_Q203_2.eq_1)<|sc_Q203.eq_1
theorem comp_Q203:comp Tryz.prog Tryz.f203=some sc_Q203:=by kernel_rfl
def sc_Q40:zk:=⟨2,19,.seq (.reg [mO 3 0,vO 4 (.nchk (.t 3)),vO 5 (.faddr 0 (.t 4)),kO 6 41 [(.t 5)],⟨none,none,.store 1 (.t 1) (.t 6)⟩]) (.seq (.reg [mO 7 0,vO 8 (.nchk (.t 7)),vO 9 (.faddr 0 (.t 8)),vO 10 (.faddr 0 (.t 9)),kO 11 38 [(.t 10)],vO 12 (.field 0 none (.t 11)),vO 13 (.bin .neq (.t 12) (cI 0))]) (.cond (.t 13) (.reg [mO 14 0,vO 15 (.nchk (.t 14)),vO 16 (.faddr 0 (.t 15)),vO 17 (.faddr 0 (.t 16)),kO 18 42 [(.t 17),(cI 5)]]) .skip)),[]⟩
theorem zyK:type_of% (sc_Q40.eq_1):=sc_Q40.eq_1
theorem comp_Q40:comp Tryz.prog Tryz.f40=some sc_Q40:=by kernel_rfl
def sc_Q20:zk:=⟨1,13,.seq (.reg [⟨some 2,none,.nilv 5⟩,vO 3 (.mov (cI 0))]) (.seq (.reg [⟨some 4,none,.alloc [(.nils 5)]⟩]) (.seq (.reg [mO 6 0,vO 7 (.func 40 [(.t 4)]),kO 8 36 [(.t 6),(.t 7)],mO 5 8]) (.seq (.seq (.reg [mO 9 5,vO 10 (.bin .neq (.t 9) (cI 0))]) (.cond (.t 10) (.seq (.reg [mO 11 5,⟨some 2,none,.nilv 5⟩,mO 3 11]) .ret) .skip)) (.seq (.reg [vO 12 (.load none (.t 4)),mO 2 12,vO 3 (.mov (cI 0))]) .ret)))),[(.t 2),(.t 3)]⟩
theorem zqa:type_of% (sc_Q20.eq_1):=sc_Q20.eq_1
theorem comp_Q20:comp Tryz.prog Tryz.f20=some sc_Q20:=by kernel_rfl
end Go.Proofs.YtfbcnpbhhooapaaGreatDoor.M
namespace Go.Proofs.YtfbcnpbhhooapaaGreatDoor.M
open Go Classical
theorem zxJ:SP 38=some (.code sc_Q38):=zb rfl Tryz.func38 comp_Q38
theorem ztn (t:PTokens) (r:Token) (t':PTokens) (T :
  (0≤t.pos) ∧
 ∃ (v1:Token),(t.l[t.pos.toNat]?=some v1) ∧
 v1=r∧t=t'):zbt t r t':=by
 intro S n0 t0 H0
 have hb0:=H0
 obtain⟨w0,hB0⟩:=zf hb0
 have hn0:=zc hB0
 rw[za zxJ _ _ rfl]
 have F:=zyr
 obtain⟨p1,v1,q2,rfl,rfl⟩:=T
 exact fi (aa hB0<|aa hn0<|aa p1<|aa q2<|F)
theorem zwu:SP 42=some (.code sc_Q42):=zb rfl Tryz.func42 comp_Q42
theorem ztN (t:PTokens) (e_:Int) (o:Option Int) (t':PTokens) (T :
  some e_=o∧t=t'):zdv t e_ o t':=by
 intro S n0 t0 H0
 have hb0:=H0
 obtain⟨w0,hB0⟩:=zf hb0
 have hn0:=zc hB0
 rw[za zwu _ _ rfl]
 have F:=zyt
 obtain⟨rfl,rfl⟩:=T
 exact fi (aa hB0<|aa hn0<|F)
theorem zvG:SP 102=some (.code sc_Q102):=zb rfl Tryz.func102 comp_Q102
theorem zrW (t:PTokens) (s:List UInt8) (r:Bool) (t':PTokens) (T :
  ∃ (r1:Token) (y2:PTokens),(zbt t r1 y2) ∧
 ((r1.Kind=4) →
  ∃ (r3:Token) (y4:PTokens),(zbt y2 r3 y4) ∧
  (decide (r3.Text=s))=r∧y4=t') ∧
 (¬ (r1.Kind=4) →
  false=r∧y2=t')):zat t s r t':=by
 intro S n0 t0 H0
 have hb0:=H0
 obtain⟨w0,hB0⟩:=zf hb0
 have hn0:=zc hB0
 rw[za zvG _ _ rfl]
 have F:=zwv
 obtain⟨r1,y2,q1,T⟩:=T
 simp only[zbt,lF] at q1
 replace F:=aa hB0<|aa hn0<|aa q1<|F
 by_cases c2:r1.Kind=4
 ·replace T:=T.1 c2
  obtain⟨r3,y4,q3,rfl,rfl⟩:=T
  simp only[zbt,lF] at q3
  exact fi (aa (eq_true c2)<|aa q3<|F)
 replace T:=T.2 c2
 obtain⟨rfl,rfl⟩:=T
 exact fi (aa (eq_false c2)<|F)
theorem zxr:SP 67=some (.code sc_Q67):=zb rfl Tryz.func67 comp_Q67
theorem zl8 (t:PTokens) (s:List UInt8) (r:Bool) (t':PTokens) (T :
  ∃ (r1:Bool) (y2:PTokens),(zat t s r1 y2) ∧
 ((r1=true) →
  (I64 (y2.pos+1)) ∧
  true=r∧(PTokens.mk y2.l (y2.pos+1))=t') ∧
 (¬ (r1=true) →
  false=r∧y2=t')):zd1 t s r t':=by
 intro S n0 t0 H0
 have hb0:=H0
 obtain⟨w0,hB0⟩:=zf hb0
 have hn0:=zc hB0
 rw[za zxr _ _ rfl]
 have F:=zyG
 obtain⟨r1,y2,q1,T⟩:=T
 simp only[zat,lF] at q1
 replace F:=aa hB0<|aa hn0<|aa q1<|F
 by_cases c2:r1=true
 ·replace T:=T.1 c2
  obtain⟨p3,rfl,rfl⟩:=T
  exact fi (aa c2<|aa p3.wrap<|F)
 replace T:=T.2 c2
 replace c2:=Bool.eq_false_iff.2 c2
 obtain⟨rfl,rfl⟩:=T
 exact fi (aa c2<|F)
theorem zxT:SP 66=some (.code sc_Q66):=zb rfl Tryz.func66 comp_Q66
theorem znk (t:PTokens) (s:List UInt8) (o:Option Int) (t':PTokens) (T :
  ∃ (r1:Bool) (y2:PTokens),(zd1 t s r1 y2) ∧
 ((r1=true) →
  none=o∧y2=t') ∧
 (¬ (r1=true) →
  ∃ (o3:Option Int) (y4:PTokens),(zdv y2 5 o3 y4) ∧
  (match o3 with
  | none=>(False )
  | some e5=>(some e5=o∧y4=t')))):zcV t s o t':=by
 intro S n0 t0 H0
 have hb0:=H0
 obtain⟨w0,hB0⟩:=zf hb0
 have hn0:=zc hB0
 rw[za zxT _ _ rfl]
 have F:=zye
 obtain⟨r1,y2,q1,T⟩:=T
 simp only[zd1,lF] at q1
 replace F:=aa hB0<|aa hn0<|aa q1<|F
 by_cases c2:r1=true
 ·replace T:=T.1 c2
  obtain⟨rfl,rfl⟩:=T
  exact fi (aa c2<|F)
 replace T:=T.2 c2
 replace c2:=Bool.eq_false_iff.2 c2
 obtain⟨o3,y4,q3,T⟩:=T
 simp only[zdv,lF] at q3
 replace F:=aa c2<|aa q3<|F
 cases o3 with
 | none=>exact False.elim T
 | some e5 =>
   dsimp only at T
   obtain⟨rfl,rfl⟩:=T
   exact fi F
theorem zvp:SP 101=some (.code sc_Q101):=zb rfl Tryz.func101 comp_Q101
theorem zlo (t:PTokens) (o:Option Int) (r:List UInt8) (t':PTokens) (T :
  ∃ (r1:Token) (y2:PTokens),(zbt t r1 y2) ∧
 ((r1.Kind=3) →
  (I64 (y2.pos+1)) ∧
  none=o∧r1.Text=r∧(PTokens.mk y2.l (y2.pos+1))=t') ∧
 (¬ (r1.Kind=3) →
  ∃ (o3:Option Int) (y4:PTokens),(zdv y2 5 o3 y4) ∧
  (match o3 with
  | none=>(False )
  | some e5=>(some e5=o∧y4=t')))):zeC t o r t':=by
 intro S n0 t0 H0
 have hb0:=H0
 obtain⟨w0,hB0⟩:=zf hb0
 have hn0:=zc hB0
 rw[za zvp _ _ rfl]
 have F:=zxn
 obtain⟨r1,y2,q1,T⟩:=T
 simp only[zbt,lF] at q1
 replace F:=aa hB0<|aa hn0<|aa q1<|F
 by_cases c2:r1.Kind=3
 ·replace T:=T.1 c2
  obtain⟨p3,rfl,rfl,rfl⟩:=T
  exact fi (aa (eq_true c2)<|aa p3.wrap<|F)
 replace T:=T.2 c2
 obtain⟨o3,y4,q4,T⟩:=T
 simp only[zdv,lF] at q4
 replace F:=aa (eq_false c2)<|aa q4<|F
 cases o3 with
 | none=>exact False.elim T
 | some e5 =>
   dsimp only at T
   obtain⟨rfl,rfl⟩:=T
   exact fi F
theorem zwl:SP 104=some (.code sc_Q104):=zb rfl Tryz.func104 comp_Q104
theorem zhi (x:PExprs) (x_g2:Nat) (x_z2:Bool) (s:List UInt8) (o:Option Int) (x':PExprs) (x'_g2:Nat) (x'_z2:Bool) (T :
  ∃ (r1:Bool) (y2:PTokens),(zat x.tokens s r1 y2) ∧
 ((r1=true) →
  ((64≤x.deep) →
   ∃ (o3:Option Int) (y4:PTokens),(zdv y2 6 o3 y4) ∧
   (match o3 with
   | none=>(False )
   | some e5=>(some e5=o∧(PExprs.mk y4 x.out x.deep)=x'∧x_g2=x'_g2∧x_z2=x'_z2))) ∧
  (¬ (64≤x.deep) →
   ∃ (o6:Option Int) (y7:PTokens),(zcV y2 s o6 y7) ∧
   (match o6 with
   | none=>((I64 (x.deep+1)) ∧
    none=o∧(PExprs.mk y7 x.out (x.deep+1))=x'∧x_g2=x'_g2∧x_z2=x'_z2)
   | some e8=>(some e8=o∧(PExprs.mk y7 x.out x.deep)=x'∧x_g2=x'_g2∧x_z2=x'_z2)))) ∧
 (¬ (r1=true) →
  ∃ (o9:Option Int) (y10:PTokens),(zcV y2 s o9 y10) ∧
  (match o9 with
  | none=>((I64 (x.deep+1)) ∧
   none=o∧(PExprs.mk y10 x.out (x.deep+1))=x'∧x_g2=x'_g2∧x_z2=x'_z2)
  | some e11=>(some e11=o∧(PExprs.mk y10 x.out x.deep)=x'∧x_g2=x'_g2∧x_z2=x'_z2)))):zaJ x x_g2 x_z2 s o x' x'_g2 x'_z2:=by
 intro S n0 t0 H0
 obtain⟨hb0,ha0⟩:=H0
 obtain⟨w0,hB0⟩:=zf hb0
 have hn0:=zc hB0
 rw[za zwl _ _ rfl]
 have F:=zxv
 obtain⟨r1,y2,q1,T⟩:=T
 simp only[zat,lF] at q1
 replace F:=aa ha0<|aa hB0<|aa hn0<|aa q1<|F
 by_cases c2:r1=true
 ·replace T:=T.1 c2
  replace F:=aa c2<|F
  by_cases c3:64≤x.deep
  ·replace T:=T.1 c3
   obtain⟨o3,y4,q4,T⟩:=T
   simp only[zdv,lF] at q4
   replace F:=aa (eq_true c3)<|aa q4<|F
   cases o3 with
   | none=>exact False.elim T
   | some e5 =>
     dsimp only at T
     obtain⟨rfl,rfl,rfl,rfl⟩:=T
     exact fi F
  replace T:=T.2 c3
  obtain⟨o6,y7,q5,T⟩:=T
  simp only[zcV,lF] at q5
  replace F:=aa (eq_false c3)<|aa q5<|F
  cases o6 with
  | none =>
    dsimp only at T
    obtain⟨p6,rfl,rfl,rfl,rfl⟩:=T
    exact fi (aa p6.wrap<|F)
  | some e8 =>
    dsimp only at T
    obtain⟨rfl,rfl,rfl,rfl⟩:=T
    exact fi F
 replace T:=T.2 c2
 replace c2:=Bool.eq_false_iff.2 c2
 obtain⟨o9,y10,q7,T⟩:=T
 simp only[zcV,lF] at q7
 replace F:=aa c2<|aa q7<|F
 cases o9 with
 | none =>
   dsimp only at T
   obtain⟨p8,rfl,rfl,rfl,rfl⟩:=T
   exact fi (aa p8.wrap<|F)
 | some e11 =>
   dsimp only at T
   obtain⟨rfl,rfl,rfl,rfl⟩:=T
   exact fi F
theorem zvZ:SP 181=some (.code sc_Q181):=zb rfl Tryz.func181 comp_Q181
theorem zld (x:PExprs) (x_g2:Nat) (x_z2:Bool) (s:List UInt8) (o:Option Int) (x':PExprs) (x'_g2:Nat) (x'_z2:Bool) (T :
  ∃ (o1:Option Int) (y2:PTokens),(zcV x.tokens s o1 y2) ∧
 (match o1 with
 | none=>((I64 (x.deep - 1)) ∧
  none=o∧(PExprs.mk y2 x.out (x.deep - 1))=x'∧x_g2=x'_g2∧x_z2=x'_z2)
 | some e3=>(some e3=o∧(PExprs.mk y2 x.out x.deep)=x'∧x_g2=x'_g2∧x_z2=x'_z2))):zbS x x_g2 x_z2 s o x' x'_g2 x'_z2:=by
 intro S n0 t0 H0
 obtain⟨hb0,ha0⟩:=H0
 obtain⟨w0,hB0⟩:=zf hb0
 have hn0:=zc hB0
 rw[za zvZ _ _ rfl]
 have F:=zxD
 obtain⟨o1,y2,q1,T⟩:=T
 simp only[zcV,lF] at q1
 replace F:=aa ha0<|aa hB0<|aa hn0<|aa q1<|F
 cases o1 with
 | none =>
   dsimp only at T
   obtain⟨p2,rfl,rfl,rfl,rfl⟩:=T
   exact fi (aa p2.wrap<|F)
 | some e3 =>
   dsimp only at T
   obtain⟨rfl,rfl,rfl,rfl⟩:=T
   exact fi F
theorem zv3:SP 105=some (.code sc_Q105):=zb rfl Tryz.func105 comp_Q105
theorem zr8 (x:PExprs) (x_g2:Nat) (x_z2:Bool) (kind:Int) (text:List UInt8) (kids:List Int) (r:Int) (x':PExprs) (x'_g2:Nat) (x'_z2:Bool) (T :
  ∃ (r1:List Int),(zci kids r1) ∧
 (bigRow (x.out.length+1) 80) ∧
 (I64 (((x.out.length+1:Nat):Int) - 1)) ∧
 (((x.out.length+1:Nat):Int) - 1)=r∧(PExprs.mk x.tokens (x.out++[(Node.mk kind 0 text [] r1)]) x.deep)=x'∧x_g2=x'_g2∧x_z2=x'_z2):zan x x_g2 x_z2 kind text kids r x' x'_g2 x'_z2:=by
 intro S n0 t0 H0
 obtain⟨hb0,ha0⟩:=H0
 obtain⟨w0,hB0⟩:=zf hb0
 have hn0:=zc hB0
 rw[za zv3 _ _ rfl]
 have F:=zws
 exact rp n0 t0 (aa ha0<|aa hB0<|aa hn0<|F) T
theorem zv4:SP 143=some (.code sc_Q143):=zb rfl Tryz.func143 comp_Q143
theorem zr4 (rank:Int) (s:List UInt8) (ra:Int) (rb:Bool) (T :
  (0≤rank) ∧
 ∃ (v1:List (List UInt8)),(([[[124,124]],[[38,38]],[[61,61],[33,61],[60],[60,61],[62],[62,61]],[[43],[45]],[[42],[47],[37]]]:List (List (List UInt8)))[rank.toNat]?=some v1) ∧
 ∃ (r2:Int),(zJ v1 s r2) ∧
 (0≤rank) ∧
 ∃ (v3:Int),(([11,12,13,19,21]:List Int)[rank.toNat]?=some v3) ∧
 (I64 (v3+r2)) ∧
 (v3+r2)=ra∧(decide (0≤r2))=rb):zgU rank s ra rb:=by
 intro S
 rw[za zv4 _ _ rfl]
 have F:=zwW
 obtain⟨p1,v1,q2,r2,q3,p4,v3,q5,p6,rfl,rfl⟩:=T
 replace q2:=congrArg (Option.map eLS) q2
 rw[←List.getElem?_map] at q2
 simp only[le,List.map_append,Option.map_some] at q2
 simp only[zJ,lF] at q3
 replace q5:=congrArg (Option.map eI) q5
 rw[←List.getElem?_map] at q5
 simp only[le,List.map_append,Option.map_some] at q5
 exact fi (aa p1<|aa q2<|aa q3<|aa p4<|aa q5<|aa p6.wrap<|F)
theorem zc9:SP 62=some (.code sc_slices_Index_string_string):=zb rfl Tryz.func62 comp_slices_Index_string_string
def zE (s:List (List UInt8)) (v:List UInt8) (i1:Int) (r:Int):Prop:=∀ (S:Sto) (e:Nat→PV) (f:Fr),e 0=.list 1 (s.map eS) false∧e 1=.str v∧e 7=.int .i64 (s.length:Int)∧e 8=.int .i64 i1→zbi SP (E SP (.loop b_slices_Index_string_string_1) ⟨e,f::S⟩)=.ok (.v (.int .i64 r)) S
theorem zw (s:List (List UInt8)) (v:List UInt8) (i1:Int) (r:Int) (T :
  ((i1 < (s.length:Int)) →
  (0≤i1) ∧
  ∃ (v2:List UInt8),(s[i1.toNat]?=some v2) ∧
  ((v=v2) →
   i1=r) ∧
  (¬ (v=v2) →
   (I64 (i1+1)) ∧
   zE s v (i1+1) r)) ∧
 (¬ (i1 < (s.length:Int)) →
  (-1)=r)):zE s v i1 r:=by
 intro S e f h
 unfold zbi
 rw[zS]
 have F:=zbv
 exact rn (aa h<|F) T
theorem zbb (s:List (List UInt8)) (v:List UInt8) (r:Int) (T :
  zE s v 0 r):zJ s v r:=by
 intro S
 rw[za zc9 _ _ rfl]
 have F:=zbv
 exact rn F T
theorem zwi:SP 202=some (.code sc_Q202):=zb rfl Tryz.func202 comp_Q202
theorem zr7 (x:PExprs) (x_g2:Nat) (x_z2:Bool) (kind:Int) (n:Int) (r:Int) (x':PExprs) (x'_g2:Nat) (x'_z2:Bool) (T :
  ∃ (r1:Int) (y2:PExprs) (g3:Nat) (z4:Bool),(zan x x_g2 x_z2 kind [] [] r1 y2 g3 z4) ∧
 (0≤r1)∧(r1.toNat < y2.out.length) ∧
 (z4=false) ∧
 ∃ (v5:Node),(y2.out[r1.toNat]?=some v5) ∧
 r1=r∧(PExprs.mk y2.tokens (y2.out.set r1.toNat (Node.mk v5.Kind n v5.Text v5.Parts v5.Kids)) y2.deep)=x'∧g3=x'_g2∧z4=x'_z2):zdK x x_g2 x_z2 kind n r x' x'_g2 x'_z2:=by
 intro S n0 t0 H0
 obtain⟨hb0,ha0⟩:=H0
 obtain⟨w0,hB0⟩:=zf hb0
 have hn0:=zc hB0
 rw[za zwi _ _ rfl]
 have F:=zwJ
 exact rp n0 t0 (aa ha0<|aa hB0<|aa hn0<|F) T
theorem zwk:SP 201=some (.code sc_Q201):=zb rfl Tryz.func201 comp_Q201
theorem zbA (x:PExprs) (x_g2:Nat) (x_z2:Bool) (o:Option Int) (r:Int) (x':PExprs) (x'_g2:Nat) (x'_z2:Bool) (T :
  ∃ (o2:Option Int) (r1:List UInt8) (y3:PTokens),(zeC x.tokens o2 r1 y3) ∧
 (match o2 with
 | none=>(((r1=[116,114,117,101]) →
   ∃ (r5:Int) (y6:PExprs) (g7:Nat) (z8:Bool),(zdK (PExprs.mk y3 x.out x.deep) x_g2 x_z2 3 1 r5 y6 g7 z8) ∧
   none=o∧r5=r∧y6=x'∧g7=x'_g2∧z8=x'_z2) ∧
  (¬ (r1=[116,114,117,101]) →
   ((r1=[102,97,108,115,101]) →
    ∃ (r9:Int) (y10:PExprs) (g11:Nat) (z12:Bool),(zdK (PExprs.mk y3 x.out x.deep) x_g2 x_z2 3 0 r9 y10 g11 z12) ∧
    none=o∧r9=r∧y10=x'∧g11=x'_g2∧z12=x'_z2) ∧
   (¬ (r1=[102,97,108,115,101]) →
    ∃ (r13:Bool) (y14:PTokens),(zd1 y3 [46] r13 y14) ∧
    ((r13=true) →
     (r1.length+1≤zaf) ∧
     ∃ (o16:Option Int) (r15:List UInt8) (y17:PTokens),(zeC y14 o16 r15 y17) ∧
     (match o16 with
     | none=>((r1.length+1+r15.length≤zaf) ∧
      ∃ (r19:Int) (y20:PExprs) (g21:Nat) (z22:Bool),(zan (PExprs.mk y17 x.out x.deep) x_g2 x_z2 4 ((r1++[46])++r15) [] r19 y20 g21 z22) ∧
      none=o∧r19=r∧y20=x'∧g21=x'_g2∧z22=x'_z2)
     | some e18=>(some e18=o∧(PExprs.mk y17 x.out x.deep)=x'∧x_g2=x'_g2∧x_z2=x'_z2))) ∧
    (¬ (r13=true) →
     ∃ (o23:Option Int) (y24:PExprs) (g25:Nat) (z26:Bool),(zaJ (PExprs.mk y14 x.out x.deep) x_g2 x_z2 [40] o23 y24 g25 z26) ∧
     (match o23 with
     | none=>(∃ (o29:Option Int) (r28:List Int) (y30:PExprs) (g31:Nat) (z32:Bool),(zex y24 g25 z26 [41] o29 r28 y30 g31 z32) ∧
      (match o29 with
      | none=>(∃ (r34:Int) (y35:PExprs) (g36:Nat) (z37:Bool),(zan y30 g31 z32 5 r1 r28 r34 y35 g36 z37) ∧
       none=o∧r34=r∧y35=x'∧g36=x'_g2∧z37=x'_z2)
      | some e33=>(some e33=o∧y30=x'∧g31=x'_g2∧z32=x'_z2)))
     | some e27=>(some e27=o∧y24=x'∧g25=x'_g2∧z26=x'_z2))))))
 | some e4=>(some e4=o∧(PExprs.mk y3 x.out x.deep)=x'∧x_g2=x'_g2∧x_z2=x'_z2))):zi4 x x_g2 x_z2 o r x' x'_g2 x'_z2:=by
 intro S n0 t0 H0
 obtain⟨hb0,ha0⟩:=H0
 obtain⟨w0,hB0⟩:=zf hb0
 have hn0:=zc hB0
 rw[za zwk _ _ rfl]
 have F:=zxG
 obtain⟨o2,r1,y3,q1,T⟩:=T
 simp only[zeC,lF] at q1
 replace F:=aa ha0<|aa hB0<|aa hn0<|aa q1<|F
 cases o2 with
 | none =>
   dsimp only at T
   by_cases c2:r1=[116,114,117,101]
   ·replace T:=T.1 c2
    obtain⟨r5,y6,g7,z8,q3,rfl,rfl,rfl,rfl,rfl⟩:=T
    simp only[zdK,lF] at q3
    exact fi (aa (eq_true c2)<|aa q3<|F)
   replace T:=T.2 c2
   replace F:=aa (eq_false c2)<|F
   by_cases c4:r1=[102,97,108,115,101]
   ·replace T:=T.1 c4
    obtain⟨r9,y10,g11,z12,q5,rfl,rfl,rfl,rfl,rfl⟩:=T
    simp only[zdK,lF] at q5
    exact fi (aa (eq_true c4)<|aa q5<|F)
   replace T:=T.2 c4
   obtain⟨r13,y14,q6,T⟩:=T
   simp only[zd1,lF] at q6
   replace F:=aa (eq_false c4)<|aa q6<|F
   by_cases c7:r13=true
   ·replace T:=T.1 c7
    obtain⟨p8,o16,r15,y17,q9,T⟩:=T
    simp only[zeC,lF] at q9
    replace F:=aa c7<|aa p8<|aa q9<|F
    cases o16 with
    | none =>
      dsimp only at T
      obtain⟨p10,r19,y20,g21,z22,q11,rfl,rfl,rfl,rfl,rfl⟩:=T
      simp only[zan,lF] at q11
      exact fi (aa p10<|aa q11<|F)
    | some e18 =>
      dsimp only at T
      obtain⟨rfl,rfl,rfl,rfl⟩:=T
      exact fi F
   replace T:=T.2 c7
   replace c7:=Bool.eq_false_iff.2 c7
   obtain⟨o23,y24,g25,z26,q12,T⟩:=T
   simp only[zaJ,lF] at q12
   replace F:=aa c7<|aa q12<|F
   cases o23 with
   | none =>
     dsimp only at T
     obtain⟨o29,r28,y30,g31,z32,q13,T⟩:=T
     simp only[zex,lF] at q13
     replace F:=aa q13<|F
     cases o29 with
     | none =>
       dsimp only at T
       obtain⟨r34,y35,g36,z37,q14,rfl,rfl,rfl,rfl,rfl⟩:=T
       simp only[zan,lF] at q14
       exact fi (aa q14<|F)
     | some e33 =>
       dsimp only at T
       obtain⟨rfl,rfl,rfl,rfl⟩:=T
       exact fi F
   | some e27 =>
     dsimp only at T
     obtain⟨rfl,rfl,rfl,rfl⟩:=T
     exact fi F
 | some e4 =>
   dsimp only at T
   obtain⟨rfl,rfl,rfl,rfl⟩:=T
   exact fi F
theorem zu2:SP 180=some (.code sc_Q180):=zb rfl Tryz.func180 comp_Q180
theorem zaD (x:PExprs) (x_g2:Nat) (x_z2:Bool) (o:Option Int) (r:Int) (x':PExprs) (x'_g2:Nat) (x'_z2:Bool) (T :
  ∃ (r1:Token) (y2:PTokens),(zbt x.tokens r1 y2) ∧
 ((r1.Kind=3) →
  ∃ (o4:Option Int) (r3:Int) (y5:PExprs) (g6:Nat) (z7:Bool),(zi4 (PExprs.mk y2 x.out x.deep) x_g2 x_z2 o4 r3 y5 g6 z7) ∧
  (match o4 with
  | none=>(none=o∧r3=r∧y5=x'∧g6=x'_g2∧z7=x'_z2)
  | some e8=>(some e8=o∧y5=x'∧g6=x'_g2∧z7=x'_z2))) ∧
 (¬ (r1.Kind=3) →
  ((r1.Kind=1) →
   (I64 (y2.pos+1)) ∧
   ∃ (r9:Int) (y10:PExprs) (g11:Nat) (z12:Bool),(zdK (PExprs.mk (PTokens.mk y2.l (y2.pos+1)) x.out x.deep) x_g2 x_z2 1 r1.Num r9 y10 g11 z12) ∧
   none=o∧r9=r∧y10=x'∧g11=x'_g2∧z12=x'_z2) ∧
  (¬ (r1.Kind=1) →
   ((r1.Kind=2) →
    (I64 (y2.pos+1)) ∧
    ∃ (r13:Int) (y14:PExprs) (g15:Nat) (z16:Bool),(zan (PExprs.mk (PTokens.mk y2.l (y2.pos+1)) x.out x.deep) x_g2 x_z2 2 [] [] r13 y14 g15 z16) ∧
    (0≤r13)∧(r13.toNat < y14.out.length) ∧
    (z16=false) ∧
    ∃ (v17:Node),(y14.out[r13.toNat]?=some v17) ∧
    none=o∧r13=r∧(PExprs.mk y14.tokens (y14.out.set r13.toNat (Node.mk v17.Kind v17.Num v17.Text r1.Parts v17.Kids)) y14.deep)=x'∧g15=x'_g2∧z16=x'_z2) ∧
   (¬ (r1.Kind=2) →
    ∃ (r18:Bool) (y19:PTokens),(zat y2 [91] r18 y19) ∧
    ((r18=true) →
     ∃ (o20:Option Int) (y21:PExprs) (g22:Nat) (z23:Bool),(zaJ (PExprs.mk y19 x.out x.deep) x_g2 x_z2 [91] o20 y21 g22 z23) ∧
     (match o20 with
     | none=>(∃ (o26:Option Int) (r25:List Int) (y27:PExprs) (g28:Nat) (z29:Bool),(zex y21 g22 z23 [93] o26 r25 y27 g28 z29) ∧
      (match o26 with
      | none=>(∃ (r31:Int) (y32:PExprs) (g33:Nat) (z34:Bool),(zan y27 g28 z29 6 [] r25 r31 y32 g33 z34) ∧
       none=o∧r31=r∧y32=x'∧g33=x'_g2∧z34=x'_z2)
      | some e30=>(some e30=o∧y27=x'∧g28=x'_g2∧z29=x'_z2)))
     | some e24=>(some e24=o∧y21=x'∧g22=x'_g2∧z23=x'_z2))) ∧
    (¬ (r18=true) →
     ∃ (o35:Option Int) (y36:PExprs) (g37:Nat) (z38:Bool),(zaJ (PExprs.mk y19 x.out x.deep) x_g2 x_z2 [40] o35 y36 g37 z38) ∧
     (match o35 with
     | none=>(∃ (o41:Option Int) (r40:Int) (y42:PExprs) (g43:Nat) (z44:Bool),(zbh y36 g37 z38 o41 r40 y42 g43 z44) ∧
      (match o41 with
      | none=>(∃ (o46:Option Int) (y47:PExprs) (g48:Nat) (z49:Bool),(zbS y42 g43 z44 [41] o46 y47 g48 z49) ∧
       (match o46 with
       | none=>(none=o∧r40=r∧y47=x'∧g48=x'_g2∧z49=x'_z2)
       | some e50=>(some e50=o∧y47=x'∧g48=x'_g2∧z49=x'_z2)))
      | some e45=>(some e45=o∧y42=x'∧g43=x'_g2∧z44=x'_z2)))
     | some e39=>(some e39=o∧y36=x'∧g37=x'_g2∧z38=x'_z2))))))):zhl x x_g2 x_z2 o r x' x'_g2 x'_z2:=by
 intro S n0 t0 H0
 obtain⟨hb0,ha0⟩:=H0
 obtain⟨w0,hB0⟩:=zf hb0
 have hn0:=zc hB0
 rw[za zu2 _ _ rfl]
 have F:=zwS
 obtain⟨r1,y2,q1,T⟩:=T
 simp only[zbt,lF] at q1
 replace F:=aa ha0<|aa hB0<|aa hn0<|aa q1<|F
 by_cases c2:r1.Kind=3
 ·replace T:=T.1 c2
  obtain⟨o4,r3,y5,g6,z7,q3,T⟩:=T
  simp only[zi4,lF] at q3
  replace F:=aa (eq_true c2)<|aa q3<|F
  cases o4 with
  | none =>
    dsimp only at T
    obtain⟨rfl,rfl,rfl,rfl,rfl⟩:=T
    exact fi F
  | some e8 =>
    dsimp only at T
    obtain⟨rfl,rfl,rfl,rfl⟩:=T
    exact fi F
 replace T:=T.2 c2
 replace F:=aa (eq_false c2)<|F
 by_cases c4:r1.Kind=1
 ·replace T:=T.1 c4
  obtain⟨p5,r9,y10,g11,z12,q6,rfl,rfl,rfl,rfl,rfl⟩:=T
  simp only[zdK,lF] at q6
  exact fi (aa (eq_true c4)<|aa p5.wrap<|aa q6<|F)
 replace T:=T.2 c4
 replace F:=aa (eq_false c4)<|F
 by_cases c7:r1.Kind=2
 ·replace T:=T.1 c7
  obtain⟨p8,r13,y14,g15,z16,q9,p10,p11,p12,v17,q13,rfl,rfl,rfl,rfl,rfl⟩:=T
  simp only[zan,lF] at q9
  exact fi (aa (eq_true c7)<|aa p8.wrap<|aa q9<|aa p10<|aa p11<|aa p12<|aa q13<|F)
 replace T:=T.2 c7
 obtain⟨r18,y19,q14,T⟩:=T
 simp only[zat,lF] at q14
 replace F:=aa (eq_false c7)<|aa q14<|F
 by_cases c15:r18=true
 ·replace T:=T.1 c15
  obtain⟨o20,y21,g22,z23,q16,T⟩:=T
  simp only[zaJ,lF] at q16
  replace F:=aa c15<|aa q16<|F
  cases o20 with
  | none =>
    dsimp only at T
    obtain⟨o26,r25,y27,g28,z29,q17,T⟩:=T
    simp only[zex,lF] at q17
    replace F:=aa q17<|F
    cases o26 with
    | none =>
      dsimp only at T
      obtain⟨r31,y32,g33,z34,q18,rfl,rfl,rfl,rfl,rfl⟩:=T
      simp only[zan,lF] at q18
      exact fi (aa q18<|F)
    | some e30 =>
      dsimp only at T
      obtain⟨rfl,rfl,rfl,rfl⟩:=T
      exact fi F
  | some e24 =>
    dsimp only at T
    obtain⟨rfl,rfl,rfl,rfl⟩:=T
    exact fi F
 replace T:=T.2 c15
 replace c15:=Bool.eq_false_iff.2 c15
 obtain⟨o35,y36,g37,z38,q19,T⟩:=T
 simp only[zaJ,lF] at q19
 replace F:=aa c15<|aa q19<|F
 cases o35 with
 | none =>
   dsimp only at T
   obtain⟨o41,r40,y42,g43,z44,q20,T⟩:=T
   simp only[zbh,lF] at q20
   replace F:=aa q20<|F
   cases o41 with
   | none =>
     dsimp only at T
     obtain⟨o46,y47,g48,z49,q21,T⟩:=T
     simp only[zbS,lF] at q21
     replace F:=aa q21<|F
     cases o46 with
     | none =>
       dsimp only at T
       obtain⟨rfl,rfl,rfl,rfl,rfl⟩:=T
       exact fi F
     | some e50 =>
       dsimp only at T
       obtain⟨rfl,rfl,rfl,rfl⟩:=T
       exact fi F
   | some e45 =>
     dsimp only at T
     obtain⟨rfl,rfl,rfl,rfl⟩:=T
     exact fi F
 | some e39 =>
   dsimp only at T
   obtain⟨rfl,rfl,rfl,rfl⟩:=T
   exact fi F
theorem zxo:SP 41=some (.code sc_Q41):=zb rfl Tryz.func41 comp_Q41
theorem zmA (x:PExprs) (x_g2:Nat) (x_z2:Bool) (o:Option Int) (r:List Node) (x':PExprs) (x'_g2:Nat) (x'_z2:Bool) (T :
  ∃ (o2:Option Int) (r1:Int) (y3:PExprs) (g4:Nat) (z5:Bool),(zbh (PExprs.mk x.tokens [] x.deep) (x_g2+1) false o2 r1 y3 g4 z5) ∧
 (match o2 with
 | none=>(none=o∧y3.out=r∧y3=x'∧g4=x'_g2∧true=x'_z2)
 | some e6=>(some e6=o∧y3=x'∧g4=x'_g2∧z5=x'_z2))):zi2 x x_g2 x_z2 o r x' x'_g2 x'_z2:=by
 intro S n0 t0 H0
 obtain⟨hb0,ha0⟩:=H0
 obtain⟨w0,hB0⟩:=zf hb0
 have hn0:=zc hB0
 rw[za zxo _ _ rfl]
 have F:=zyH
 obtain⟨o2,r1,y3,g4,z5,q1,T⟩:=T
 simp only[zbh,lF] at q1
 replace F:=aa ha0<|aa hB0<|aa hn0<|aa q1<|F
 cases o2 with
 | none =>
   dsimp only at T
   obtain⟨rfl,rfl,rfl,rfl,rfl⟩:=T
   exact fi F
 | some e6 =>
   dsimp only at T
   obtain⟨rfl,rfl,rfl,rfl⟩:=T
   exact fi F
inductive PR (α:Type) where
 | ok (a:α) (ts:List Token) (out:List Node)
 | er (e:Int)
 | no
def PR.bind {α β:Type}:PR α→(α→List Token→List Node→PR β)→PR β
 | .ok a ts out,f=>f a ts out
 | .er e,_=>.er e
 | .no,_=>.no
def isS (s:List UInt8):List Token→Bool
 | t::_=>decide (t.Kind=4) && decide (t.Text=s)
 | []=>false
def zac {α:Type} (s:List UInt8) (ts:List Token) (k:List Token→PR α):PR α:=if isS s ts=true then k ts.tail else .er 5
def zL {α:Type} (s:List UInt8) (d:Nat) (ts:List Token) (k:List Token→PR α):PR α:=if isS s ts=true then (if 64≤d then .er 6 else k ts.tail) else .er 5
def nd (kind:Int) (text:List UInt8) (kids:List Int):Node:=⟨kind,0,text,[],kids⟩
def zby (s:List UInt8):List (List UInt8)→Nat→Option Nat
 | [],_=>none
 | v::l,i=>if s=v then some i else zby s l (i+1)
def zjI:Nat→List (List UInt8)
 | 0=>[[124,124]]
 | 1=>[[38,38]]
 | 2=>[[61,61],[33,61],[60],[60,61],[62],[62,61]]
 | 3=>[[43],[45]]
 | _=>[[42],[47],[37]]
def zmo:Nat→Int
 | 0=>11
 | 1=>12
 | 2=>13
 | 3=>19
 | _=>21
def opS (rank:Nat) (s:List UInt8):Option Int:=(zby s (zjI rank) 0).map fun (i:Nat)=>zmo rank+(i:Int)
mutual
def zu:Nat→Nat→List Token→List Node→PR Int
 | 0,_,_,_=>.no
 | n+1,d,ts,out=>(zo n 0 d ts out).bind fun a ts out =>
  if isS [63] ts=true then zL [63] d ts fun ts=>(zu n (d+1) ts out).bind fun b ts out=>zac [58] ts fun ts=>(zu n (d+1) ts out).bind fun c ts out=>.ok (out.length:Nat) ts (out++[nd 10 [] [a,b,c]])
  else .ok a ts out
def zo:Nat→Nat→Nat→List Token→List Node→PR Int
 | 0,_,_,_,_=>.no
 | n+1,rank,d,ts,out=>if rank=5 then unS n d ts out else (zo n (rank+1) d ts out).bind fun a ts out=>zF n rank d a ts out
def zF:Nat→Nat→Nat→Int→List Token→List Node→PR Int
 | 0,_,_,_,_,_=>.no
 | _+1,_,_,_,[],_=>.no
 | n+1,rank,d,a,t::ts,out =>
  if t.Kind=4 then
   match opS rank t.Text with
   | none=>.ok a (t::ts) out
   | some kind=>(zo n (rank+1) d ts out).bind fun b ts out=>if rank=2 then .ok (out.length:Nat) ts (out++[nd kind [] [a,b]]) else zF n rank d (out.length:Nat) ts (out++[nd kind [] [a,b]])
  else .ok a (t::ts) out
def unS:Nat→Nat→List Token→List Node→PR Int
 | 0,_,_,_=>.no
 | n+1,d,ts,out =>
  if isS [45] ts=true then zL [45] d ts fun ts=>(unS n (d+1) ts out).bind fun a ts out=>.ok (out.length:Nat) ts (out++[nd 9 [] [a]])
  else if isS [33] ts=true then zL [33] d ts fun ts=>(unS n (d+1) ts out).bind fun a ts out=>.ok (out.length:Nat) ts (out++[nd 8 [] [a]])
  else zal n d ts out
def zal:Nat→Nat→List Token→List Node→PR Int
 | 0,_,_,_=>.no
 | n+1,d,ts,out=>(zq n d ts out).bind fun a ts out=>zP n d a ts out
def zP:Nat→Nat→Int→List Token→List Node→PR Int
 | 0,_,_,_,_=>.no
 | n+1,d,a,ts,out =>
  if isS [91] ts=true then zL [91] d ts fun ts=>(zu n (d+1) ts out).bind fun b ts out=>zac [93] ts fun ts=>zP n d (out.length:Nat) ts (out++[nd 7 [] [a,b]])
  else .ok a ts out
def zW:Nat→Nat→List UInt8→List Token→List Node→PR (List Int)
 | 0,_,_,_,_=>.no
 | n+1,d,e,ts,out=>if isS e ts=true then .ok [] ts.tail out else (zu n d ts out).bind fun a ts out=>zap n d e [a] ts out
def zap:Nat→Nat→List UInt8→List Int→List Token→List Node→PR (List Int)
 | 0,_,_,_,_,_=>.no
 | n+1,d,e,l,ts,out=>if isS [44] ts=true then (zu n d ts.tail out).bind fun a ts out=>zap n d e (l++[a]) ts out else zac e ts fun ts=>.ok l ts out
def zq:Nat→Nat→List Token→List Node→PR Int
 | 0,_,_,_=>.no
 | _+1,_,[],_=>.no
 | n+1,d,t::ts,out =>
  if t.Kind=3 then
   if t.Text=[116,114,117,101] then .ok (out.length:Nat) ts (out++[⟨3,1,[],[],[]⟩])
   else if t.Text=[102,97,108,115,101] then .ok (out.length:Nat) ts (out++[⟨3,0,[],[],[]⟩])
   else if isS [46] ts=true then
    match ts.tail with
    | []=>.no
    | u::ts=>if u.Kind=3 then .ok (out.length:Nat) ts (out++[nd 4 ((t.Text++[46])++u.Text) []]) else .er 5
   else zL [40] d ts fun ts=>(zW n (d+1) [41] ts out).bind fun l ts out=>.ok (out.length:Nat) ts (out++[nd 5 t.Text l])
  else if t.Kind=1 then .ok (out.length:Nat) ts (out++[⟨1,t.Num,[],[],[]⟩])
  else if t.Kind=2 then .ok (out.length:Nat) ts (out++[⟨2,0,[],t.Parts,[]⟩])
  else if isS [91] (t::ts)=true then zL [91] d (t::ts) fun ts=>(zW n (d+1) [93] ts out).bind fun l ts out=>.ok (out.length:Nat) ts (out++[nd 6 [] l])
  else zL [40] d (t::ts) fun ts=>(zu n (d+1) ts out).bind fun a ts out=>zac [41] ts fun ts=>.ok a ts out
end
def W:List Token→Prop
 | []=>False
 | [e]=>e.Kind=0
 | t::u::ts=>t.Kind≠0∧W (u::ts)
theorem W.tail {t:Token} {ts:List Token} (h:W (t::ts)) (hk:t.Kind≠0):W ts:=by
 cases ts with
 | nil=>exact absurd h hk
 | cons u ts=>exact h.2
theorem W.ne {ts:List Token} (h:W ts):ts≠[]:=fun e=>by subst e;exact h
def pt (L ts:List Token):PTokens:=⟨L,((L.length - ts.length:Nat):Int)⟩
theorem zdc {L ts:List Token} {t:Token} (h:(t::ts) <:+ L):ts <:+ L:=(List.suffix_cons t ts).trans h
theorem zek {L ts:List Token} (h:ts <:+ L):ts.length≤L.length:=h.length_le
theorem zva {L ts:List Token} {t:Token} (h:(t::ts) <:+ L):L[(pt L (t::ts)).pos.toNat]?=some t:=by
 obtain⟨p,rfl⟩:=h
 simp[pt]
theorem zfj {L ts:List Token} {t:Token} (h:(t::ts) <:+ L):(PTokens.mk (pt L (t::ts)).l ((pt L (t::ts)).pos+1))=pt L ts:=by
 have:=zek h
 simp only[pt,List.length_cons] at this ⊢
 congr 1
 omega
theorem zX {L ts:List Token} {t:Token} (h:(t::ts) <:+ L):zbt (pt L (t::ts)) t (pt L (t::ts)):=ztn _ _ _ ⟨by simp[pt],t,zva h,rfl,rfl⟩
theorem zjv (t:PTokens) (e:Int):zdv t e (some e) t:=ztN _ _ _ _ ⟨rfl,rfl⟩
theorem ziM {L ts:List Token} (h:ts <:+ L) (hne:ts≠[]) (s:List UInt8):zat (pt L ts) s (isS s ts) (pt L ts):=by
 cases ts with
 | nil=>exact absurd rfl hne
 | cons t ts =>
  refine zrW _ _ _ _ ⟨t,_,zX h,fun hk=>⟨t,_,zX h,?_,rfl⟩,fun hk=>⟨?_,rfl⟩⟩
  ·simp[isS,hk]
  simp[isS,hk]
theorem ztm {s:List UInt8} {t:Token} {ts:List Token} (h:isS s (t::ts)=true):t.Kind≠0:=by
 simp only[isS,Bool.and_eq_true,decide_eq_true_eq] at h
 rw[h.1]
 decide
theorem W.shift {s:List UInt8} {ts:List Token} (h:W ts) (hi:isS s ts=true):W ts.tail:=by
 cases ts with
 | nil=>exact h.elim
 | cons t ts=>exact h.tail (ztm hi)
theorem zM {L ts:List Token} (h:ts <:+ L):ts.tail <:+ L:=by
 cases ts with
 | nil=>exact h
 | cons t ts=>exact zdc h
theorem zad {s:List UInt8} {ts:List Token} (hi:isS s ts=true):ts.tail.length+1=ts.length:=by
 cases ts with
 | nil=>cases hi
 | cons t ts=>rfl
theorem zgY {L ts:List Token} (h:ts <:+ L) (hL:L.length≤1000000) {s:List UInt8} (hi:isS s ts=true):zd1 (pt L ts) s true (pt L ts.tail):=by
 cases ts with
 | nil=>cases hi
 | cons t ts =>
  refine zl8 _ _ _ _ ⟨true,_,by have:=ziM h (by simp) s;rw[hi] at this;exact this,fun _=>⟨?_,rfl,zfj h⟩,fun hf=>absurd rfl hf⟩
  have:=zek h
  simp only[pt,I64]
  omega
theorem zjp {L ts:List Token} (h:ts <:+ L) (hne:ts≠[]) {s:List UInt8} (hi:isS s ts=false):zd1 (pt L ts) s false (pt L ts) :=
 zl8 _ _ _ _ ⟨false,_,by have:=ziM h hne s;rw[hi] at this;exact this,fun hf=>(by cases hf),fun _=>⟨rfl,rfl⟩⟩
theorem zhu {L ts:List Token} (h:ts <:+ L) (hL:L.length≤1000000) {s:List UInt8} (hi:isS s ts=true):zcV (pt L ts) s none (pt L ts.tail) :=
 znk _ _ _ _ ⟨true,_,zgY h hL hi,fun _=>⟨rfl,rfl⟩,fun hf=>absurd rfl hf⟩
theorem zkt {L ts:List Token} (h:ts <:+ L) (hne:ts≠[]) {s:List UInt8} (hi:isS s ts=false):zcV (pt L ts) s (some 5) (pt L ts) :=
 znk _ _ _ _ ⟨false,_,zjp h hne hi,fun hf=>(by cases hf),fun _=>⟨_,_,zjv _ _,rfl,rfl⟩⟩
theorem zpg {L ts:List Token} {t:Token} (h:(t::ts) <:+ L) (hL:L.length≤1000000) (hk:t.Kind=3):zeC (pt L (t::ts)) none t.Text (pt L ts):=by
 refine zlo _ _ _ _ ⟨t,_,zX h,fun _=>⟨?_,rfl,rfl,zfj h⟩,fun hf=>absurd hk hf⟩
 have:=zek h
 simp only[pt,I64]
 omega
theorem zwd {L ts:List Token} {t:Token} (h:(t::ts) <:+ L) (hk:¬ t.Kind=3) (r:List UInt8):zeC (pt L (t::ts)) (some 5) r (pt L (t::ts)) :=
 zlo _ _ _ _ ⟨t,_,zX h,fun hf=>absurd hf hk,fun _=>⟨_,_,zjv _ _,rfl,rfl⟩⟩
def pe (L ts:List Token) (out:List Node) (d:Nat):PExprs:=⟨pt L ts,out,(d:Int)⟩
theorem zdr {L ts:List Token} (h:ts <:+ L) (hL:L.length≤1000000) {s:List UInt8} (hi:isS s ts=true) {d:Nat} (hd:¬ 64≤d) (out:List Node) (g:Nat) (z:Bool):zaJ (pe L ts out d) g z s none (pe L ts.tail out (d+1)) g z:=by
 cases ts with
 | nil=>cases hi
 | cons t ts =>
  refine zhi _ _ _ _ _ _ _ _ ⟨true,_,by have:=ziM h (by simp) s;rw[hi] at this;exact this,fun _=>⟨fun hf=>?_,fun _=>⟨none,_,zhu h hL hi,?_,rfl,?_,rfl,rfl⟩⟩,fun hf=>absurd rfl hf⟩
  ·simp only[pe] at hf;omega
  ·simp only[pe,I64];omega
  simp[pe]
theorem zdl {L ts:List Token} (h:ts <:+ L) (hne:ts≠[]) {s:List UInt8} (hi:isS s ts=true) {d:Nat} (hd:64≤d) (out:List Node) (g:Nat) (z:Bool):∃ x' g' z',zaJ (pe L ts out d) g z s (some 6) x' g' z' :=
 ⟨_,_,_,zhi _ _ _ _ _ _ _ _ ⟨true,_,by have:=ziM h hne s;rw[hi] at this;exact this,fun _=>⟨fun _=>⟨_,_,zjv _ _,rfl,rfl,rfl,rfl⟩,fun hf=>absurd (by simp only[pe];omega) hf⟩,fun hf=>absurd rfl hf⟩⟩
theorem zoW {L ts:List Token} (h:ts <:+ L) (hne:ts≠[]) {s:List UInt8} (hi:isS s ts=false) (d:Nat) (out:List Node) (g:Nat) (z:Bool):∃ x' g' z',zaJ (pe L ts out d) g z s (some 5) x' g' z' :=
 ⟨_,_,_,zhi _ _ _ _ _ _ _ _ ⟨false,_,by have:=ziM h hne s;rw[hi] at this;exact this,fun hf=>(by cases hf),fun _=>⟨_,_,zkt h hne hi,rfl,rfl,rfl,rfl⟩⟩⟩
theorem zhq {L ts:List Token} (h:ts <:+ L) (hL:L.length≤1000000) {s:List UInt8} (hi:isS s ts=true) {d:Nat} (hd:d≤1000) (out:List Node) (g:Nat) (z:Bool):zbS (pe L ts out (d+1)) g z s none (pe L ts.tail out d) g z:=by
 refine zld _ _ _ _ _ _ _ _ ⟨none,_,zhu h hL hi,?_,rfl,?_,rfl,rfl⟩
 ·simp only[pe,I64];omega
 simp only[pe];congr 1;omega
theorem zj8 {L ts:List Token} (h:ts <:+ L) (hne:ts≠[]) {s:List UInt8} (hi:isS s ts=false) (d:Nat) (out:List Node) (g:Nat) (z:Bool):∃ x' g' z',zbS (pe L ts out d) g z s (some 5) x' g' z' :=
 ⟨_,_,_,zld _ _ _ _ _ _ _ _ ⟨_,_,zkt h hne hi,rfl,rfl,rfl,rfl⟩⟩
theorem ztC (l:List Int) (h:l.length≤1000000000):zci l l:=fun S=>zbH zeM S (by
 simp only[zgE,List.length_map]
 rw[if_pos ⟨trivial,by omega,by omega⟩])
theorem zb9 (x:PTokens) (out:List Node) (d:Int) (g:Nat) (z:Bool) (kind:Int) (text:List UInt8) (kids:List Int) (hk:kids.length≤1000000) (ho:out.length≤1000000):zan (PExprs.mk x out d) g z kind text kids (out.length:Nat) (PExprs.mk x (out++[nd kind text kids]) d) g z:=by
 refine zr8 _ _ _ _ _ _ _ _ _ _ ⟨kids,ztC kids (by omega),?_,?_,?_,rfl,rfl,rfl⟩
 ·simp only[bigRow];omega
 ·simp only[I64];omega
 simp
theorem zpK (x:PTokens) (out:List Node) (d:Int) (g:Nat) (kind n:Int) (ho:out.length≤1000000):zdK (PExprs.mk x out d) g false kind n (out.length:Nat) (PExprs.mk x (out++[⟨kind,n,[],[],[]⟩]) d) g false:=by
 refine zr7 _ _ _ _ _ _ _ _ _ ⟨_,_,_,_,zb9 x out d g false kind [] [] (by simp) ho,by omega,?_,rfl,nd kind [] [],?_,rfl,?_,rfl,rfl⟩
 ·simp
 ·simp
 simp[nd]
end Go.Proofs.YtfbcnpbhhooapaaGreatDoor.M
namespace Go.Proofs.YtfbcnpbhhooapaaGreatDoor.M
open Go Classical
inductive Lv where
 | ex | ch (r:Nat) | lp (r:Nat) (a:Int) | un | po | pl (a:Int) | ma (e:List UInt8) | ml (e:List UInt8) (l:List Int) | pr
def Sg (s:List UInt8) (t:Token):Prop:=t.Kind=4∧t.Text=s
inductive Dr:Lv→Nat→List Token→List Node→List Int→List Token→List Node→Prop
 | ex0 {d ts out a ts1 out1}:Dr (.ch 0) d ts out [a] ts1 out1→Dr .ex d ts out [a] ts1 out1
 | ex1 {d ts out a q ts1 out1 b c ts2 out2 x ts3 out3}:Dr (.ch 0) d ts out [a] (q::ts1) out1→Sg [63] q→d < 64→Dr .ex (d+1) ts1 out1 [b] (c::ts2) out2→Sg [58] c→Dr .ex (d+1) ts2 out2 [x] ts3 out3→Dr .ex d ts out [((out3.length:Nat):Int)] ts3 (out3++[nd 10 [] [a,b,x]])
 | ch5 {d ts out a ts1 out1}:Dr .un d ts out [a] ts1 out1→Dr (.ch 5) d ts out [a] ts1 out1
 | chr {r d ts out a ts1 out1 b ts2 out2}:r < 5→Dr (.ch (r+1)) d ts out [a] ts1 out1→Dr (.lp r a) d ts1 out1 [b] ts2 out2→Dr (.ch r) d ts out [b] ts2 out2
 | lp0 {r a d ts out}:Dr (.lp r a) d ts out [a] ts out
 | lp2 {a d t kind ts out b ts1 out1}:t.Kind=4→opS 2 t.Text=some kind→Dr (.ch 3) d ts out [b] ts1 out1→Dr (.lp 2 a) d (t::ts) out [((out1.length:Nat):Int)] ts1 (out1++[nd kind [] [a,b]])
 | lpr {r a d t kind ts out b ts1 out1 x ts2 out2}:t.Kind=4→opS r t.Text=some kind→r≠2→Dr (.ch (r+1)) d ts out [b] ts1 out1→Dr (.lp r ((out1.length:Nat):Int)) d ts1 (out1++[nd kind [] [a,b]]) [x] ts2 out2→Dr (.lp r a) d (t::ts) out [x] ts2 out2
 | un9 {d t ts out a ts1 out1}:Sg [45] t→d < 64→Dr .un (d+1) ts out [a] ts1 out1→Dr .un d (t::ts) out [((out1.length:Nat):Int)] ts1 (out1++[nd 9 [] [a]])
 | un8 {d t ts out a ts1 out1}:Sg [33] t→d < 64→Dr .un (d+1) ts out [a] ts1 out1→Dr .un d (t::ts) out [((out1.length:Nat):Int)] ts1 (out1++[nd 8 [] [a]])
 | un0 {d ts out a ts1 out1}:Dr .po d ts out [a] ts1 out1→Dr .un d ts out [a] ts1 out1
 | po {d ts out a ts1 out1 b ts2 out2}:Dr .pr d ts out [a] ts1 out1→Dr (.pl a) d ts1 out1 [b] ts2 out2→Dr .po d ts out [b] ts2 out2
 | pl0 {a d ts out}:Dr (.pl a) d ts out [a] ts out
 | pl1 {a d t ts out b u ts1 out1 x ts2 out2}:Sg [91] t→d < 64→Dr .ex (d+1) ts out [b] (u::ts1) out1→Sg [93] u→Dr (.pl ((out1.length:Nat):Int)) d ts1 (out1++[nd 7 [] [a,b]]) [x] ts2 out2→Dr (.pl a) d (t::ts) out [x] ts2 out2
 | ma0 {e d t ts out}:Sg e t→Dr (.ma e) d (t::ts) out [] ts out
 | ma1 {e d ts out a ts1 out1 l ts2 out2}:Dr .ex d ts out [a] ts1 out1→Dr (.ml e [a]) d ts1 out1 l ts2 out2→Dr (.ma e) d ts out l ts2 out2
 | ml0 {e l d t ts out}:Sg e t→Dr (.ml e l) d (t::ts) out l ts out
 | ml1 {e l d t ts out a ts1 out1 m ts2 out2}:Sg [44] t→Dr .ex d ts out [a] ts1 out1→Dr (.ml e (l++[a])) d ts1 out1 m ts2 out2→Dr (.ml e l) d (t::ts) out m ts2 out2
 | prT {d t ts out}:t.Kind=3→t.Text=[116,114,117,101]→Dr .pr d (t::ts) out [((out.length:Nat):Int)] ts (out++[⟨3,1,[],[],[]⟩])
 | prF {d t ts out}:t.Kind=3→t.Text=[102,97,108,115,101]→Dr .pr d (t::ts) out [((out.length:Nat):Int)] ts (out++[⟨3,0,[],[],[]⟩])
 | prR {d t u v ts out}:t.Kind=3→t.Text≠[116,114,117,101]→t.Text≠[102,97,108,115,101]→Sg [46] u→v.Kind=3→Dr .pr d (t::u::v::ts) out [((out.length:Nat):Int)] ts (out++[nd 4 ((t.Text++[46])++v.Text) []])
 | prC {d t u ts out l ts1 out1}:t.Kind=3→t.Text≠[116,114,117,101]→t.Text≠[102,97,108,115,101]→Sg [40] u→d < 64→Dr (.ma [41]) (d+1) ts out l ts1 out1→Dr .pr d (t::u::ts) out [((out1.length:Nat):Int)] ts1 (out1++[nd 5 t.Text l])
 | prN {d t ts out}:t.Kind=1→Dr .pr d (t::ts) out [((out.length:Nat):Int)] ts (out++[⟨1,t.Num,[],[],[]⟩])
 | prS {d t ts out}:t.Kind=2→Dr .pr d (t::ts) out [((out.length:Nat):Int)] ts (out++[⟨2,0,[],t.Parts,[]⟩])
 | prL {d t ts out l ts1 out1}:Sg [91] t→d < 64→Dr (.ma [93]) (d+1) ts out l ts1 out1→Dr .pr d (t::ts) out [((out1.length:Nat):Int)] ts1 (out1++[nd 6 [] l])
 | prP {d t ts out a u ts1 out1}:Sg [40] t→d < 64→Dr .ex (d+1) ts out [a] (u::ts1) out1→Sg [41] u→Dr .pr d (t::ts) out [a] ts1 out1
theorem zaL {α β:Type} {p:PR α} {f:α→List Token→List Node→PR β} {b:β} {ts':List Token} {o':List Node} (h:p.bind f=.ok b ts' o'):∃ a ts o,p=.ok a ts o∧f a ts o=.ok b ts' o':=by
 cases p with
 | ok a ts o=>exact⟨a,ts,o,rfl,h⟩
 | er e=>cases h
 | no=>cases h
theorem zhk {s:List UInt8} {ts:List Token} (h:isS s ts=true):∃ t r,ts=t::r∧Sg s t:=by
 cases ts with
 | nil=>cases h
 | cons t r =>
  simp only[isS,Bool.and_eq_true,decide_eq_true_eq] at h
  exact⟨t,r,rfl,h⟩
theorem zge {α:Type} {s:List UInt8} {ts:List Token} {k:List Token→PR α} {b:α} {ts':List Token} {o':List Node} (h:zac s ts k=.ok b ts' o'):∃ t r,ts=t::r∧Sg s t∧k r=.ok b ts' o':=by
 unfold zac at h
 split at h
 ·rename_i hi
  obtain⟨t,r,rfl,hs⟩:=zhk hi
  exact⟨t,r,rfl,hs,h⟩
 cases h
theorem zcz {α:Type} {s:List UInt8} {d:Nat} {ts:List Token} {k:List Token→PR α} {b:α} {ts':List Token} {o':List Node} (h:zL s d ts k=.ok b ts' o'):∃ t r,ts=t::r∧Sg s t∧d < 64∧k r=.ok b ts' o':=by
 unfold zL at h
 split at h
 ·rename_i hi
  obtain⟨t,r,rfl,hs⟩:=zhk hi
  split at h
  ·cases h
  exact⟨t,r,rfl,hs,by omega,h⟩
 cases h
structure DrA (n:Nat):Prop where
 ex:∀ {d ts out a ts' out'},zu n d ts out=.ok a ts' out'→Dr .ex d ts out [a] ts' out'
 ch:∀ {r d ts out a ts' out'},r≤5→zo n r d ts out=.ok a ts' out'→Dr (.ch r) d ts out [a] ts' out'
 lp:∀ {r d x ts out a ts' out'},r < 5→zF n r d x ts out=.ok a ts' out'→Dr (.lp r x) d ts out [a] ts' out'
 un:∀ {d ts out a ts' out'},unS n d ts out=.ok a ts' out'→Dr .un d ts out [a] ts' out'
 po:∀ {d ts out a ts' out'},zal n d ts out=.ok a ts' out'→Dr .po d ts out [a] ts' out'
 pl:∀ {d x ts out a ts' out'},zP n d x ts out=.ok a ts' out'→Dr (.pl x) d ts out [a] ts' out'
 ma:∀ {d e ts out l ts' out'},zW n d e ts out=.ok l ts' out'→Dr (.ma e) d ts out l ts' out'
 ml:∀ {d e x ts out l ts' out'},zap n d e x ts out=.ok l ts' out'→Dr (.ml e x) d ts out l ts' out'
 pr:∀ {d ts out a ts' out'},zq n d ts out=.ok a ts' out'→Dr .pr d ts out [a] ts' out'
theorem drA:∀ n,DrA n
 | 0=>⟨fun h=>by simp[zu] at h,fun _ h=>by simp[zo] at h,fun _ h=>by simp[zF] at h,fun h=>by simp[unS] at h,fun h=>by simp[zal] at h,fun h=>by simp[zP] at h,fun h=>by simp[zW] at h,fun h=>by simp[zap] at h,fun h=>by simp[zq] at h⟩
 | n+1=>by
  have ih:=drA n
  constructor
  ·intro d ts out a ts' out' h
   rw[zu] at h
   obtain⟨x,ts1,out1,h1,h⟩:=zaL h
   have h1:=ih.ch (by omega) h1
   split at h
   ·obtain⟨t,r,rfl,ht,hd,h⟩:=zcz h
    obtain⟨b,ts2,out2,h2,h⟩:=zaL h
    obtain⟨u,r2,rfl,hu,h⟩:=zge h
    obtain⟨c,ts3,out3,h3,h⟩:=zaL h
    cases h
    exact .ex1 h1 ht hd (ih.ex h2) hu (ih.ex h3)
   cases h
   exact .ex0 h1
  ·intro r d ts out a ts' out' hr h
   rw[zo] at h
   split at h
   ·subst_vars
    exact .ch5 (ih.un h)
   obtain⟨x,ts1,out1,h1,h⟩:=zaL h
   exact .chr (by omega) (ih.ch (by omega) h1) (ih.lp (by omega) h)
  ·intro r d x ts out a ts' out' hr h
   cases ts with
   | nil=>simp[zF] at h
   | cons t ts =>
    simp only[zF] at h
    by_cases h4:t.Kind=4
    ·rw[if_pos h4] at h
     cases ho:opS r t.Text with
     | none=>rw[ho] at h;cases h;exact .lp0
     | some kind =>
      rw[ho] at h
      obtain⟨b,ts1,out1,h1,h2⟩:=zaL h
      clear h
      have h1:=ih.ch (by omega) h1
      by_cases r2:r=2
      ·subst r2
       simp only[if_true] at h2
       cases h2
       exact .lp2 h4 ho h1
      simp only[if_neg r2] at h2
      exact .lpr h4 ho r2 h1 (ih.lp hr h2)
    rw[if_neg h4] at h
    cases h
    exact .lp0
  ·intro d ts out a ts' out' h
   rw[unS] at h
   split at h
   ·obtain⟨t,r,rfl,ht,hd,h⟩:=zcz h
    obtain⟨b,ts2,out2,h2,h⟩:=zaL h
    cases h
    exact .un9 ht hd (ih.un h2)
   split at h
   ·obtain⟨t,r,rfl,ht,hd,h⟩:=zcz h
    obtain⟨b,ts2,out2,h2,h⟩:=zaL h
    cases h
    exact .un8 ht hd (ih.un h2)
   exact .un0 (ih.po h)
  ·intro d ts out a ts' out' h
   rw[zal] at h
   obtain⟨x,ts1,out1,h1,h⟩:=zaL h
   exact .po (ih.pr h1) (ih.pl h)
  ·intro d x ts out a ts' out' h
   rw[zP] at h
   split at h
   ·obtain⟨t,r,rfl,ht,hd,h⟩:=zcz h
    obtain⟨b,ts2,out2,h2,h⟩:=zaL h
    obtain⟨u,r2,rfl,hu,h⟩:=zge h
    exact .pl1 ht hd (ih.ex h2) hu (ih.pl h)
   cases h
   exact .pl0
  ·intro d e ts out l ts' out' h
   rw[zW] at h
   split at h
   ·rename_i hi
    obtain⟨t,r,rfl,ht⟩:=zhk hi
    cases h
    exact .ma0 ht
   obtain⟨x,ts1,out1,h1,h⟩:=zaL h
   exact .ma1 (ih.ex h1) (ih.ml h)
  ·intro d e x ts out l ts' out' h
   rw[zap] at h
   split at h
   ·rename_i hi
    obtain⟨t,r,rfl,ht⟩:=zhk hi
    obtain⟨y,ts1,out1,h1,h⟩:=zaL h
    exact .ml1 ht (ih.ex h1) (ih.ml h)
   obtain⟨t,r,rfl,ht,h⟩:=zge h
   cases h
   exact .ml0 ht
  intro d ts out a ts' out' h
  cases ts with
  | nil=>simp[zq] at h
  | cons t ts =>
   rw[zq] at h
   split at h
   ·rename_i k3
    split at h
    ·rename_i hT
     cases h
     exact .prT k3 hT
    rename_i hT
    split at h
    ·rename_i hF
     cases h
     exact .prF k3 hF
    rename_i hF
    split at h
    ·rename_i hi
     obtain⟨u,r,rfl,hu⟩:=zhk hi
     simp only[List.tail_cons] at h
     cases r with
     | nil=>cases h
     | cons v r =>
      simp only at h
      split at h
      ·rename_i kv
       cases h
       exact .prR k3 hT hF hu kv
      cases h
    obtain⟨u,r,rfl,hu,hd,h⟩:=zcz h
    obtain⟨x,ts1,out1,h1,h⟩:=zaL h
    cases h
    exact .prC k3 hT hF hu hd (ih.ma h1)
   split at h
   ·rename_i k1
    cases h
    exact .prN k1
   split at h
   ·rename_i k2
    cases h
    exact .prS k2
   split at h
   ·obtain⟨u,r,e,hu,hd,h⟩:=zcz h
    cases e
    obtain⟨x,ts1,out1,h1,h⟩:=zaL h
    cases h
    exact .prL hu hd (ih.ma h1)
   obtain⟨u,r,e,hu,hd,h⟩:=zcz h
   cases e
   obtain⟨x,ts1,out1,h1,h⟩:=zaL h
   obtain⟨v,r2,rfl,hv,h⟩:=zge h
   cases h
   exact .prP hu hd (ih.ex h1) hv
end Go.Proofs.YtfbcnpbhhooapaaGreatDoor.M
namespace Go.Proofs.YtfbcnpbhhooapaaGreatDoor.M
open Go
def c_Q148_1:SC:=.seq (.reg [vO 2 (.mov (cI 7))]) .ret
def c_Q148_2:SC:=.cond (.t 12) (.seq (.reg [vO 2 (.mov (cI 3))]) .ret) (.seq (.reg [mO 20 0,vO 21 (.bin .eql (.t 20) (cI 19)),mO 22 21,gO 23 22 false (.mov (.t 0)),gO 24 22 false (.bin .eql (.t 23) (cI 20)),vO 25 (.pick (.t 22) (.c (.bool true)) (.t 24)),mO 19 25]) (.cond (.t 19) (.seq (.reg [vO 2 (.mov (cI 4))]) .ret) (.seq (.reg [mO 27 0,vO 28 (.bin .geq (.t 27) (cI 21)),mO 26 28]) (.cond (.t 26) (.seq (.reg [vO 2 (.mov (cI 5))]) .ret) (.seq (.reg [mO 30 0,vO 31 (.bin .eql (.t 30) (cI 8)),mO 32 31,gO 33 32 false (.mov (.t 0)),gO 34 32 false (.bin .eql (.t 33) (cI 9)),vO 35 (.pick (.t 32) (.c (.bool true)) (.t 34)),mO 29 35]) (.cond (.t 29) (.seq (.reg [vO 2 (.mov (cI 6))]) .ret) .skip))))))
def c_Q148_3:SC:=.cond (.t 9) (.seq (.reg [vO 2 (.mov (cI 2))]) .ret) (.seq (.reg [mO 13 0,vO 14 (.bin .geq (.t 13) (cI 13)),mO 15 14,gO 16 15 true (.mov (.t 0)),gO 17 15 true (.bin .leq (.t 16) (cI 18)),vO 18 (.pick (.t 15) (.t 17) (.c (.bool false))),mO 12 18]) c_Q148_2)
def c_Q148_4:SC:=.cond (.t 6) (.seq (.reg [vO 2 (.mov (cI 1))]) .ret) (.seq (.reg [mO 10 0,vO 11 (.bin .eql (.t 10) (cI 12)),mO 9 11]) c_Q148_3)
def c_Q148_5:SC:=.cond (.t 3) (.seq (.reg [vO 2 (.mov (cI 0))]) .ret) (.seq (.reg [mO 7 0,vO 8 (.bin .eql (.t 7) (cI 11)),mO 6 8]) c_Q148_4)
def c_Q148_6:SC:=.seq (.block 0 (.seq (.reg [mO 4 0,vO 5 (.bin .eql (.t 4) (cI 10)),mO 3 5]) c_Q148_5)) c_Q148_1
def sc_Q148:zk:=⟨1,36,.seq (.reg [vO 2 (.mov (cI 0))]) c_Q148_6,[(.t 2)]⟩
theorem zw5:type_of% (aI (ue c_Q148_1.eq_1)<|aI (ue c_Q148_2.eq_1)<|aI (ue c_Q148_3.eq_1)<|aI (ue c_Q148_4.eq_1)<|aI (ue c_Q148_5.eq_1)<|aI (ue c_Q148_6.eq_1)<|sc_Q148.eq_1):=aI (ue c_Q148_1.eq_1)<|aI (ue c_Q148_2.eq_1)<|aI (ue c_Q148_3.eq_1)<|aI (ue c_Q148_4.eq_1)<|aI (ue c_Q148_5.eq_1)<|aI (ue c_Q148_6.eq_1)<|sc_Q148.eq_1
theorem comp_Q148:comp Tryz.prog Tryz.f148=some sc_Q148:=by kernel_rfl
def sc_Q149:zk:=⟨1,8,.seq (.reg [vO 2 (.mov (.c (.str [])))]) (.seq (.reg [⟨some 3,none,.bslice 1 13 [(.str [])] [(0,(.c (.str [124,124]))),(1,(.c (.str [38,38]))),(2,(.c (.str [61,61]))),(3,(.c (.str [33,61]))),(4,(.c (.str [60]))),(5,(.c (.str [60,61]))),(6,(.c (.str [62]))),(7,(.c (.str [62,61]))),(8,(.c (.str [43]))),(9,(.c (.str [45]))),(10,(.c (.str [42]))),(11,(.c (.str [47]))),(12,(.c (.str [37])))]⟩,mO 4 0,vO 5 (.bin .sub (.t 4) (cI 11)),vO 6 (.iaddr 1 (.t 3) (.t 5)),vO 7 (.load none (.t 6)),mO 2 7]) .ret),[(.t 2)]⟩
theorem zwX:type_of% (sc_Q149.eq_1):=sc_Q149.eq_1
theorem comp_Q149:comp Tryz.prog Tryz.f149=some sc_Q149:=by kernel_rfl
def b_Q95_1:SC:=.seq (.reg [vO 9 (.bin .lss (.t 8) (.t 7))]) (.seq (.cond (.t 9) .skip (.exit 0)) (.seq (.block 1 (.seq (.reg [vO 10 (.iaddr 1 (.t 6) (.t 8)),vO 11 (.load none (.t 10)),mO 5 11]) (.reg [mO 12 0,mO 13 0,vO 14 (.nchk (.t 13)),vO 15 (.faddr 0 (.t 14)),vO 16 (.load none (.t 15)),mO 17 5,⟨some 18,none,.append 1 1 (.t 16) (.t 17)⟩,vO 19 (.nchk (.t 12)),vO 20 (.faddr 0 (.t 19)),⟨none,none,.store 1 (.t 20) (.t 18)⟩]))) (.reg [vO 21 (.bin .add (.t 8) (cI 1)),mO 8 21])))
def sc_Q95:zk:=⟨2,22,.seq (.reg [mO 6 1,vO 7 (.len false (.t 6)),vO 8 (.mov (cI 0))]) (.block 0 (.loop b_Q95_1)),[]⟩
noncomputable def zol (SP:Prg) (x:EO):CO:=fin [] (zK 0 (x))
theorem zt7:type_of% (aI (ue b_Q95_1.eq_1)<|sc_Q95.eq_1):=aI (ue b_Q95_1.eq_1)<|sc_Q95.eq_1
theorem comp_Q95:comp Tryz.prog Tryz.f95=some sc_Q95:=by kernel_rfl
def c_Q146_1:SC:=.reg [vO 40 (.bin .add (.t 8) (cI 1)),mO 8 40]
def c_Q146_2:SC:=.cond (.t 25) (.reg [mO 29 0,mO 30 5,vO 31 (.conv (.int .i32) (.t 30)),vO 32 (.conv .chr (.t 31)),⟨some 33,none,.bslice 1 2 [(.str [])] [(0,(.c (.str [92]))),(1,(.t 32))]⟩,kO 34 95 [(.t 29),(.t 33)]]) (.seq (.reg [vO 36 (.bin .eql (.t 14) (.c (.int .u8 10))),mO 35 36]) (.cond (.t 35) (.reg [mO 37 0,⟨some 38,none,.bslice 1 1 [(.str [])] [(0,(.c (.str [92,110])))]⟩,kO 39 95 [(.t 37),(.t 38)]]) (.reg [mO 15 0,mO 16 0,vO 17 (.nchk (.t 16)),vO 18 (.faddr 0 (.t 17)),vO 19 (.load none (.t 18)),mO 20 5,⟨some 21,none,.bslice 1 1 [(.int .u8 0)] [(0,(.t 20))]⟩,⟨some 22,none,.append 1 1 (.t 19) (.t 21)⟩,vO 23 (.nchk (.t 15)),vO 24 (.faddr 0 (.t 23)),⟨none,none,.store 1 (.t 24) (.t 22)⟩])))
def c_Q146_3:SC:=.block 2 (.seq (.seq (.reg [vO 26 (.bin .eql (.t 14) (.c (.int .u8 34))),mO 25 26]) (.cond (.t 25) .skip (.seq (.reg [vO 27 (.bin .eql (.t 14) (.c (.int .u8 92))),mO 25 27]) (.cond (.t 25) .skip (.reg [vO 28 (.bin .eql (.t 14) (.c (.int .u8 36))),mO 25 28]))))) c_Q146_2)
def c_Q146_4:SC:=.seq (.reg [mO 14 5]) c_Q146_3
def c_Q146_5:SC:=.seq (.reg [mO 11 1,mO 12 4,vO 13 (.istr (.t 11) (.t 12)),mO 5 13]) c_Q146_4
def c_Q146_6:SC:=.seq (.block 1 (.seq (.reg [mO 10 8,mO 4 10]) c_Q146_5)) c_Q146_1
def c_Q146_7:SC:=.seq (.cond (.t 9) .skip (.exit 0)) c_Q146_6
def b_Q146_1:SC:=.seq (.reg [vO 9 (.bin .lss (.t 8) (.t 7))]) c_Q146_7
def c_Q146_8:SC:=.block 0 (.loop b_Q146_1)
def sc_Q146:zk:=⟨2,41,.seq (.reg [mO 6 1,vO 7 (.len true (.t 6)),vO 8 (.mov (cI 0))]) c_Q146_8,[]⟩
noncomputable def zmH (SP:Prg) (x:EO):CO:=fin [] (zK 0 (x))
theorem zq9:type_of% (aI (ue c_Q146_1.eq_1)<|aI (ue c_Q146_2.eq_1)<|aI (ue c_Q146_3.eq_1)<|aI (ue c_Q146_4.eq_1)<|aI (ue c_Q146_5.eq_1)<|aI (ue c_Q146_6.eq_1)<|aI (ue c_Q146_7.eq_1)<|aI (ue b_Q146_1.eq_1)<|aI (ue c_Q146_8.eq_1)<|sc_Q146.eq_1):=aI (ue c_Q146_1.eq_1)<|aI (ue c_Q146_2.eq_1)<|aI (ue c_Q146_3.eq_1)<|aI (ue c_Q146_4.eq_1)<|aI (ue c_Q146_5.eq_1)<|aI (ue c_Q146_6.eq_1)<|aI (ue c_Q146_7.eq_1)<|aI (ue b_Q146_1.eq_1)<|aI (ue c_Q146_8.eq_1)<|sc_Q146.eq_1
theorem comp_Q146:comp Tryz.prog Tryz.f146=some sc_Q146:=by kernel_rfl
def c_Q107_1:SC:=.reg [vO 30 (.faddr 0 (.t 2)),vO 31 (.load none (.t 30)),⟨some 32,none,.bslice 1 1 [(.str [])] [(0,(.c (.str [34])))]⟩,kO 33 95 [(.t 31),(.t 32)]]
def b_Q107_1:SC:=.seq (.reg [vO 13 (.bin .lss (.t 12) (.t 11))]) (.seq (.cond (.t 13) .skip (.exit 0)) (.seq (.block 1 (.seq (.reg [vO 14 (.iaddr 2 (.t 10) (.t 12)),vO 15 (.load (some 2) (.t 14)),⟨some 5,none,.alloc [(.bool false),(.str [])]⟩,⟨none,none,.store 2 (.t 5) (.t 15)⟩]) (.seq (.reg [vO 16 (.faddr 0 (.t 5)),vO 17 (.load none (.t 16))]) (.cond (.t 17) (.reg [vO 18 (.faddr 0 (.t 2)),vO 19 (.load none (.t 18)),vO 20 (.faddr 1 (.t 5)),vO 21 (.load none (.t 20)),⟨some 22,none,.bslice 1 3 [(.str [])] [(0,(.c (.str [36,123]))),(1,(.t 21)),(2,(.c (.str [125])))]⟩,kO 23 95 [(.t 19),(.t 22)]]) (.reg [vO 24 (.faddr 0 (.t 2)),vO 25 (.load none (.t 24)),vO 26 (.faddr 1 (.t 5)),vO 27 (.load none (.t 26)),kO 28 146 [(.t 25),(.t 27)]]))))) (.reg [vO 29 (.bin .add (.t 12) (cI 1)),mO 12 29])))
def c_Q107_2:SC:=.seq (.seq (.reg [mO 10 1,vO 11 (.len false (.t 10)),vO 12 (.mov (cI 0))]) (.block 0 (.loop b_Q107_1))) c_Q107_1
def c_Q107_3:SC:=.seq (.reg [vO 6 (.faddr 0 (.t 2)),vO 7 (.load none (.t 6)),⟨some 8,none,.bslice 1 1 [(.str [])] [(0,(.c (.str [34])))]⟩,kO 9 95 [(.t 7),(.t 8)]]) c_Q107_2
def sc_Q107:zk:=⟨2,34,.seq (.reg [⟨some 2,none,.box (.t 0)⟩]) c_Q107_3,[]⟩
noncomputable def zmi (SP:Prg) (x:EO):CO:=fin [] (thC SP (zK 0 (x)) c_Q107_1)
theorem zqO:type_of% (aI (ue c_Q107_1.eq_1)<|aI (ue b_Q107_1.eq_1)<|aI (ue c_Q107_2.eq_1)<|aI (ue c_Q107_3.eq_1)<|sc_Q107.eq_1):=aI (ue c_Q107_1.eq_1)<|aI (ue b_Q107_1.eq_1)<|aI (ue c_Q107_2.eq_1)<|aI (ue c_Q107_3.eq_1)<|sc_Q107.eq_1
theorem comp_Q107:comp Tryz.prog Tryz.f107=some sc_Q107:=by kernel_rfl
def sc_Q110:zk:=⟨3,29,.seq (.reg [⟨some 3,none,.box (.t 0)⟩]) (.seq (.seq (.reg [vO 6 (.faddr 1 (.t 3)),vO 7 (.load none (.t 6)),mO 8 1,vO 9 (.iaddr 5 (.t 7) (.t 8)),vO 10 (.faddr 0 (.t 9)),vO 11 (.load none (.t 10)),kO 12 148 [(.t 11)],mO 13 2,vO 14 (.bin .geq (.t 12) (.t 13))]) (.cond (.t 14) (.seq (.reg [vO 15 (.load (some 2) (.t 3)),mO 16 1,kO 17 69 [(.t 15),(.t 16)]]) .ret) .skip)) (.seq (.reg [vO 18 (.faddr 0 (.t 3)),vO 19 (.load none (.t 18)),⟨some 20,none,.bslice 1 1 [(.str [])] [(0,(.c (.str [40])))]⟩,kO 21 95 [(.t 19),(.t 20)]]) (.seq (.reg [vO 22 (.load (some 2) (.t 3)),mO 23 1,kO 24 69 [(.t 22),(.t 23)]]) (.reg [vO 25 (.faddr 0 (.t 3)),vO 26 (.load none (.t 25)),⟨some 27,none,.bslice 1 1 [(.str [])] [(0,(.c (.str [41])))]⟩,kO 28 95 [(.t 26),(.t 27)]])))),[]⟩
theorem zwz:type_of% (sc_Q110.eq_1):=sc_Q110.eq_1
theorem comp_Q110:comp Tryz.prog Tryz.f110=some sc_Q110:=by kernel_rfl
def b_Q109_1:SC:=.seq (.reg [vO 9 (.bin .lss (.t 8) (.t 7))]) (.seq (.cond (.t 9) .skip (.exit 0)) (.seq (.block 1 (.seq (.reg [mO 10 8,vO 11 (.iaddr 1 (.t 6) (.t 8)),vO 12 (.load none (.t 11)),mO 4 10,mO 5 12]) (.seq (.seq (.reg [mO 13 4,vO 14 (.bin .gtr (.t 13) (cI 0))]) (.cond (.t 14) (.reg [vO 15 (.faddr 0 (.t 2)),vO 16 (.load none (.t 15)),⟨some 17,none,.bslice 1 1 [(.str [])] [(0,(.c (.str [44,32])))]⟩,kO 18 95 [(.t 16),(.t 17)]]) .skip)) (.reg [vO 19 (.load (some 2) (.t 2)),mO 20 5,kO 21 69 [(.t 19),(.t 20)]])))) (.reg [vO 22 (.bin .add (.t 8) (cI 1)),mO 8 22])))
def sc_Q109:zk:=⟨2,23,.seq (.reg [⟨some 2,none,.box (.t 0)⟩]) (.seq (.reg [mO 6 1,vO 7 (.len false (.t 6)),vO 8 (.mov (cI 0))]) (.block 0 (.loop b_Q109_1))),[]⟩
noncomputable def zmM (SP:Prg) (x:EO):CO:=fin [] (zK 0 (x))
theorem zqo:type_of% (aI (ue b_Q109_1.eq_1)<|sc_Q109.eq_1):=aI (ue b_Q109_1.eq_1)<|sc_Q109.eq_1
theorem comp_Q109:comp Tryz.prog Tryz.f109=some sc_Q109:=by kernel_rfl
def c_Q111_1:SC:=.seq (.dreg [vO 14 (.load (some 2) (.t 2)),vO 15 (.faddr 4 (.t 3)),vO 16 (.load none (.t 15)),vO 17 (.iaddr 1 (.t 16) (cI 0)),vO 18 (.load none (.t 17)),mO 19 5,kO 20 110 [(.t 14),(.t 18),(.t 19)]] [false,false,false,false,false,false,true]) (.seq (.dreg [vO 21 (.faddr 0 (.t 2)),vO 22 (.load none (.t 21)),vO 23 (.faddr 0 (.t 3)),vO 24 (.load none (.t 23)),kO 25 149 [(.t 24)],⟨some 26,none,.bslice 1 3 [(.str [])] [(0,(.c (.str [32]))),(1,(.t 25)),(2,(.c (.str [32])))]⟩,kO 27 95 [(.t 22),(.t 26)]] [false,false,false,false,false,false,true]) (.dreg [vO 28 (.load (some 2) (.t 2)),vO 29 (.faddr 4 (.t 3)),vO 30 (.load none (.t 29)),vO 31 (.iaddr 1 (.t 30) (cI 1)),vO 32 (.load none (.t 31)),mO 33 4,vO 34 (.bin .add (.t 33) (cI 1)),kO 35 110 [(.t 28),(.t 32),(.t 34)]] [false,false,false,false,false,false,false,true]))
def c_Q111_2:SC:=.seq (.seq (.reg [mO 10 4,vO 11 (.bin .eql (.t 10) (cI 3))]) (.cond (.t 11) (.reg [mO 12 5,vO 13 (.bin .add (.t 12) (cI 1)),mO 5 13]) .skip)) c_Q111_1
def c_Q111_3:SC:=.seq (.reg [mO 9 4,mO 5 9]) c_Q111_2
def c_Q111_4:SC:=.seq (.reg [vO 6 (.faddr 0 (.t 3)),vO 7 (.load none (.t 6)),kO 8 148 [(.t 7)],mO 4 8]) c_Q111_3
def sc_Q111:zk:=⟨2,36,.seq (.reg [⟨some 2,none,.box (.t 0)⟩,⟨some 3,none,.box (.t 1)⟩]) c_Q111_4,[]⟩
theorem zwB:type_of% (aI (ue c_Q111_1.eq_1)<|aI (ue c_Q111_2.eq_1)<|aI (ue c_Q111_3.eq_1)<|aI (ue c_Q111_4.eq_1)<|sc_Q111.eq_1):=aI (ue c_Q111_1.eq_1)<|aI (ue c_Q111_2.eq_1)<|aI (ue c_Q111_3.eq_1)<|aI (ue c_Q111_4.eq_1)<|sc_Q111.eq_1
theorem comp_Q111:comp Tryz.prog Tryz.f111=some sc_Q111:=by kernel_rfl
def c_Q69_1:SC:=.seq (.reg [vO 132 (.faddr 0 (.t 2)),vO 133 (.load none (.t 132)),⟨some 134,none,.bslice 1 1 [(.str [])] [(0,(.c (.str [32,63,32])))]⟩,kO 135 95 [(.t 133),(.t 134)]]) (.seq (.dreg [vO 136 (.load (some 2) (.t 2)),vO 137 (.faddr 4 (.t 4)),vO 138 (.load none (.t 137)),vO 139 (.iaddr 1 (.t 138) (cI 1)),vO 140 (.load none (.t 139)),kO 141 69 [(.t 136),(.t 140)]] [false,false,false,false,false,true]) (.seq (.reg [vO 142 (.faddr 0 (.t 2)),vO 143 (.load none (.t 142)),⟨some 144,none,.bslice 1 1 [(.str [])] [(0,(.c (.str [32,58,32])))]⟩,kO 145 95 [(.t 143),(.t 144)]]) (.dreg [vO 146 (.load (some 2) (.t 2)),vO 147 (.faddr 4 (.t 4)),vO 148 (.load none (.t 147)),vO 149 (.iaddr 1 (.t 148) (cI 2)),vO 150 (.load none (.t 149)),kO 151 69 [(.t 146),(.t 150)]] [false,false,false,false,false,true])))
def c_Q69_2:SC:=.cond (.t 124) (.seq (.dreg [vO 126 (.load (some 2) (.t 2)),vO 127 (.faddr 4 (.t 4)),vO 128 (.load none (.t 127)),vO 129 (.iaddr 1 (.t 128) (cI 0)),vO 130 (.load none (.t 129)),kO 131 110 [(.t 126),(.t 130),(cI 1)]] [false,false,false,false,false,true]) c_Q69_1) (.reg [vO 12 (.load (some 2) (.t 2)),vO 13 (.load (some 5) (.t 4)),kO 14 111 [(.t 12),(.t 13)]])
def c_Q69_3:SC:=.cond (.t 112) (.seq (.reg [vO 114 (.faddr 0 (.t 2)),vO 115 (.load none (.t 114)),⟨some 116,none,.bslice 1 1 [(.str [])] [(0,(.c (.str [45])))]⟩,kO 117 95 [(.t 115),(.t 116)]]) (.dreg [vO 118 (.load (some 2) (.t 2)),vO 119 (.faddr 4 (.t 4)),vO 120 (.load none (.t 119)),vO 121 (.iaddr 1 (.t 120) (cI 0)),vO 122 (.load none (.t 121)),kO 123 110 [(.t 118),(.t 122),(cI 6)]] [false,false,false,false,false,true])) (.seq (.reg [vO 125 (.bin .eql (.t 11) (cI 10)),mO 124 125]) c_Q69_2)
def c_Q69_4:SC:=.cond (.t 100) (.seq (.reg [vO 102 (.faddr 0 (.t 2)),vO 103 (.load none (.t 102)),⟨some 104,none,.bslice 1 1 [(.str [])] [(0,(.c (.str [33])))]⟩,kO 105 95 [(.t 103),(.t 104)]]) (.dreg [vO 106 (.load (some 2) (.t 2)),vO 107 (.faddr 4 (.t 4)),vO 108 (.load none (.t 107)),vO 109 (.iaddr 1 (.t 108) (cI 0)),vO 110 (.load none (.t 109)),kO 111 110 [(.t 106),(.t 110),(cI 6)]] [false,false,false,false,false,true])) (.seq (.reg [vO 113 (.bin .eql (.t 11) (cI 9)),mO 112 113]) c_Q69_3)
def c_Q69_5:SC:=.cond (.t 78) (.seq (.dreg [vO 80 (.load (some 2) (.t 2)),vO 81 (.faddr 4 (.t 4)),vO 82 (.load none (.t 81)),vO 83 (.iaddr 1 (.t 82) (cI 0)),vO 84 (.load none (.t 83)),kO 85 110 [(.t 80),(.t 84),(cI 7)]] [false,false,false,false,false,true]) (.seq (.reg [vO 86 (.faddr 0 (.t 2)),vO 87 (.load none (.t 86)),⟨some 88,none,.bslice 1 1 [(.str [])] [(0,(.c (.str [91])))]⟩,kO 89 95 [(.t 87),(.t 88)]]) (.seq (.dreg [vO 90 (.load (some 2) (.t 2)),vO 91 (.faddr 4 (.t 4)),vO 92 (.load none (.t 91)),vO 93 (.iaddr 1 (.t 92) (cI 1)),vO 94 (.load none (.t 93)),kO 95 69 [(.t 90),(.t 94)]] [false,false,false,false,false,true]) (.reg [vO 96 (.faddr 0 (.t 2)),vO 97 (.load none (.t 96)),⟨some 98,none,.bslice 1 1 [(.str [])] [(0,(.c (.str [93])))]⟩,kO 99 95 [(.t 97),(.t 98)]])))) (.seq (.reg [vO 101 (.bin .eql (.t 11) (cI 8)),mO 100 101]) c_Q69_4)
def c_Q69_6:SC:=.cond (.t 64) (.seq (.reg [vO 66 (.faddr 0 (.t 2)),vO 67 (.load none (.t 66)),⟨some 68,none,.bslice 1 1 [(.str [])] [(0,(.c (.str [91])))]⟩,kO 69 95 [(.t 67),(.t 68)]]) (.seq (.reg [vO 70 (.load (some 2) (.t 2)),vO 71 (.faddr 4 (.t 4)),vO 72 (.load none (.t 71)),kO 73 109 [(.t 70),(.t 72)]]) (.reg [vO 74 (.faddr 0 (.t 2)),vO 75 (.load none (.t 74)),⟨some 76,none,.bslice 1 1 [(.str [])] [(0,(.c (.str [93])))]⟩,kO 77 95 [(.t 75),(.t 76)]]))) (.seq (.reg [vO 79 (.bin .eql (.t 11) (cI 7)),mO 78 79]) c_Q69_5)
def c_Q69_7:SC:=.cond (.t 48) (.seq (.reg [vO 50 (.faddr 0 (.t 2)),vO 51 (.load none (.t 50)),vO 52 (.faddr 2 (.t 4)),vO 53 (.load none (.t 52)),⟨some 54,none,.bslice 1 2 [(.str [])] [(0,(.t 53)),(1,(.c (.str [40])))]⟩,kO 55 95 [(.t 51),(.t 54)]]) (.seq (.reg [vO 56 (.load (some 2) (.t 2)),vO 57 (.faddr 4 (.t 4)),vO 58 (.load none (.t 57)),kO 59 109 [(.t 56),(.t 58)]]) (.reg [vO 60 (.faddr 0 (.t 2)),vO 61 (.load none (.t 60)),⟨some 62,none,.bslice 1 1 [(.str [])] [(0,(.c (.str [41])))]⟩,kO 63 95 [(.t 61),(.t 62)]]))) (.seq (.reg [vO 65 (.bin .eql (.t 11) (cI 6)),mO 64 65]) c_Q69_6)
def c_Q69_8:SC:=.cond (.t 40) (.reg [vO 42 (.faddr 0 (.t 2)),vO 43 (.load none (.t 42)),vO 44 (.faddr 2 (.t 4)),vO 45 (.load none (.t 44)),⟨some 46,none,.bslice 1 1 [(.str [])] [(0,(.t 45))]⟩,kO 47 95 [(.t 43),(.t 46)]]) (.seq (.reg [vO 49 (.bin .eql (.t 11) (cI 5)),mO 48 49]) c_Q69_7)
def c_Q69_9:SC:=.cond (.t 30) (.dreg [vO 32 (.faddr 0 (.t 2)),vO 33 (.load none (.t 32)),vO 34 (.faddr 1 (.t 4)),vO 35 (.load none (.t 34)),vO 36 (.bin .eql (.t 35) (cI 1)),kO 37 108 [(.t 36)],⟨some 38,none,.bslice 1 1 [(.str [])] [(0,(.t 37))]⟩,kO 39 95 [(.t 33),(.t 38)]] [false,false,false,false,false,false,false,true]) (.seq (.reg [vO 41 (.bin .eql (.t 11) (cI 4)),mO 40 41]) c_Q69_8)
def c_Q69_10:SC:=.cond (.t 24) (.reg [vO 26 (.load (some 2) (.t 2)),vO 27 (.faddr 3 (.t 4)),vO 28 (.load none (.t 27)),kO 29 107 [(.t 26),(.t 28)]]) (.seq (.reg [vO 31 (.bin .eql (.t 11) (cI 3)),mO 30 31]) c_Q69_9)
def c_Q69_11:SC:=.cond (.t 15) (.dreg [vO 17 (.faddr 0 (.t 2)),vO 18 (.load none (.t 17)),vO 19 (.faddr 1 (.t 4)),vO 20 (.load none (.t 19)),kO 21 106 [(.t 20)],⟨some 22,none,.bslice 1 1 [(.str [])] [(0,(.t 21))]⟩,kO 23 95 [(.t 18),(.t 22)]] [false,false,false,false,false,false,true]) (.seq (.reg [vO 25 (.bin .eql (.t 11) (cI 2)),mO 24 25]) c_Q69_10)
def c_Q69_12:SC:=.block 0 (.seq (.reg [vO 16 (.bin .eql (.t 11) (cI 1)),mO 15 16]) c_Q69_11)
def c_Q69_13:SC:=.seq (.reg [vO 10 (.faddr 0 (.t 4)),vO 11 (.load none (.t 10))]) c_Q69_12
def c_Q69_14:SC:=.seq (.reg [vO 5 (.faddr 1 (.t 2)),vO 6 (.load none (.t 5)),mO 7 1,vO 8 (.iaddr 5 (.t 6) (.t 7)),vO 9 (.load (some 5) (.t 8)),⟨some 4,none,.alloc [(.int .i64 0),(.int .i64 0),(.str []),(.nils 2),(.nils 1)]⟩,⟨none,none,.store 5 (.t 4) (.t 9)⟩]) c_Q69_13
def sc_Q69:zk:=⟨2,152,.seq (.reg [⟨some 2,none,.box (.t 0)⟩]) c_Q69_14,[]⟩
theorem zym:type_of% (aI (ue c_Q69_1.eq_1)<|aI (ue c_Q69_2.eq_1)<|aI (ue c_Q69_3.eq_1)<|aI (ue c_Q69_4.eq_1)<|aI (ue c_Q69_5.eq_1)<|aI (ue c_Q69_6.eq_1)<|aI (ue c_Q69_7.eq_1)<|aI (ue c_Q69_8.eq_1)<|aI (ue c_Q69_9.eq_1)<|aI (ue c_Q69_10.eq_1)<|aI (ue c_Q69_11.eq_1)<|aI (ue c_Q69_12.eq_1)<|aI (ue c_Q69_13.eq_1)<|aI (ue c_Q69_14.eq_1)<|sc_Q69.eq_1):=aI (ue c_Q69_1.eq_1)<|aI (ue c_Q69_2.eq_1)<|aI (ue c_Q69_3.eq_1)<|aI (ue c_Q69_4.eq_1)<|aI (ue c_Q69_5.eq_1)<|aI (ue c_Q69_6.eq_1)<|aI (ue c_Q69_7.eq_1)<|aI (ue c_Q69_8.eq_1)<|aI (ue c_Q69_9.eq_1)<|aI (ue c_Q69_10.eq_1)<|aI (ue c_Q69_11.eq_1)<|aI (ue c_Q69_12.eq_1)<|aI (ue c_Q69_13.eq_1)<|aI (ue c_Q69_14.eq_1)<|sc_Q69.eq_1
theorem comp_Q69:comp Tryz.prog Tryz.f69=some sc_Q69:=by kernel_rfl
def sc_Q45:zk:=⟨2,11,.reg [mO 4 0,mO 5 1,vO 6 (.build [.nili,(.nils 5)] [(0,1,(.t 4)),(1,1,(.t 5))]),mO 7 1,vO 8 (.len false (.t 7)),vO 9 (.bin .sub (.t 8) (cI 1)),kO 10 69 [(.t 6),(.t 9)]],[]⟩
theorem zyE:type_of% (sc_Q45.eq_1):=sc_Q45.eq_1
theorem comp_Q45:comp Tryz.prog Tryz.f45=some sc_Q45:=by kernel_rfl
def sc_Q23:zk:=⟨1,17,.seq (.reg [vO 2 (.mov (.c (.str [])))]) (.seq (.seq (.reg [mO 4 0,kO 5 26 [(.t 4)],vO 6 (.un .not (.t 5))]) (.cond (.t 6) (.seq (.reg [vO 2 (.mov (.c (.str [])))]) .ret) .skip)) (.seq (.reg [vO 7 (.build [(.nils 1)] []),⟨some 8,none,.box (.t 7)⟩,mO 3 8]) (.seq (.reg [mO 9 3,mO 10 0,kO 11 45 [(.t 9),(.t 10)]]) (.seq (.reg [mO 12 3,vO 13 (.nchk (.t 12)),vO 14 (.faddr 0 (.t 13)),vO 15 (.load none (.t 14)),vO 16 (.conv .bytes (.t 15)),mO 2 16]) .ret)))),[(.t 2)]⟩
theorem zyh:type_of% (sc_Q23.eq_1):=sc_Q23.eq_1
theorem comp_Q23:comp Tryz.prog Tryz.f23=some sc_Q23:=by kernel_rfl
end Go.Proofs.YtfbcnpbhhooapaaGreatDoor.M
namespace Go.Proofs.YtfbcnpbhhooapaaGreatDoor.M
open Go Classical
theorem zve:SP 148=some (.code sc_Q148):=zb rfl Tryz.func148 comp_Q148
theorem zsv (kind:Int) (r:Int) (T :
  ((kind=10) →
  0=r) ∧
 (¬ (kind=10) →
  ((kind=11) →
   1=r) ∧
  (¬ (kind=11) →
   ((kind=12) →
    2=r) ∧
   (¬ (kind=12) →
    ((13≤kind) →
     ((kind≤18) →
      3=r) ∧
     (¬ (kind≤18) →
      ((kind=19) →
       4=r) ∧
      (¬ (kind=19) →
       ((kind=20) →
        4=r) ∧
       (¬ (kind=20) →
        ((21≤kind) →
         5=r) ∧
        (¬ (21≤kind) →
         ((kind=8) →
          6=r) ∧
         (¬ (kind=8) →
          ((kind=9) →
           6=r) ∧
          (¬ (kind=9) →
           7=r))))))) ∧
    (¬ (13≤kind) →
     ((kind=19) →
      4=r) ∧
     (¬ (kind=19) →
      ((kind=20) →
       4=r) ∧
      (¬ (kind=20) →
       ((21≤kind) →
        5=r) ∧
       (¬ (21≤kind) →
        ((kind=8) →
         6=r) ∧
        (¬ (kind=8) →
         ((kind=9) →
          6=r) ∧
         (¬ (kind=9) →
          7=r)))))))))):zjd kind r:=by
 intro S
 rw[za zve _ _ rfl]
 have F:=zw5
 exact rn F T
theorem zvm:SP 149=some (.code sc_Q149):=zb rfl Tryz.func149 comp_Q149
theorem zqK (kind:Int) (r:List UInt8) (T :
  (I64 (kind - 11)) ∧
 (0≤(kind - 11)) ∧
 ∃ (v1:List UInt8),(([[124,124],[38,38],[61,61],[33,61],[60],[60,61],[62],[62,61],[43],[45],[42],[47],[37]]:List (List UInt8))[(kind - 11).toNat]?=some v1) ∧
 v1=r):zjF kind r:=by
 intro S
 rw[za zvm _ _ rfl]
 have F:=zwX
 exact rn F T
theorem zx5:SP 95=some (.code sc_Q95):=zb rfl Tryz.func95 comp_Q95
def zf1 (l_:List (List UInt8)) (i1:Int) (w2:SWriter) (g3:Nat) (z4:Bool) (w':SWriter) (w'_g0:Nat) (w'_z0:Bool):Prop:=∀ (S:Sto) (e:Nat→PV) (f:Fr) (n0 t0:Nat),((getBox S n0 t0).map (List.take 1)=some [.sl 0 (.cell t0 0) 0 w2.out.length w2.out.length g3 false]∧getArr S n0 (.cell t0 0)=some ⟨1,w2.out.map eB,z4,g3⟩)→e 0=.ptr (n0+1) t0 0∧e 6=.list 1 (l_.map eS) false∧e 7=.int .i64 (l_.length:Int)∧e 8=.int .i64 i1→zol SP (E SP (.loop b_Q95_1) ⟨e,f::S⟩)=.ok (.v (.tup [])) (setArr (setBox S n0 t0 ([.sl 0 (.cell t0 0) 0 w'.out.length w'.out.length w'_g0 false]++((getBox S n0 t0).getD []).drop 1)) n0 (.cell t0 0) ⟨1,w'.out.map eB,w'_z0,w'_g0⟩)
theorem zgn (l_:List (List UInt8)) (i1:Int) (w2:SWriter) (g3:Nat) (z4:Bool) (w':SWriter) (w'_g0:Nat) (w'_z0:Bool) (T :
  ((i1 < (l_.length:Int)) →
  (0≤i1) ∧
  ∃ (v5:List UInt8),(l_[i1.toNat]?=some v5) ∧
  (bigRow (w2.out.length+v5.length) 1) ∧
  (I64 (i1+1)) ∧
  zf1 l_ (i1+1) (SWriter.mk (w2.out++v5)) g3 z4 w' w'_g0 w'_z0) ∧
 (¬ (i1 < (l_.length:Int)) →
  w2=w'∧g3=w'_g0∧z4=w'_z0)):zf1 l_ i1 w2 g3 z4 w' w'_g0 w'_z0:=by
 intro S e f n0 t0 H0 h
 obtain⟨hb0,ha0⟩:=H0
 obtain⟨w0,hB0⟩:=zf hb0
 have hn0:=zc hB0
 unfold zol
 rw[zS]
 have F:=zt7
 exact rp n0 t0 (aa ha0<|aa hB0<|aa hn0<|aa h<|F) T
theorem zs3 (w:SWriter) (w_g0:Nat) (w_z0:Bool) (l_:List (List UInt8)) (w':SWriter) (w'_g0:Nat) (w'_z0:Bool) (T :
  zf1 l_ 0 w w_g0 w_z0 w' w'_g0 w'_z0):zY w w_g0 w_z0 l_ w' w'_g0 w'_z0:=by
 intro S n0 t0 H0
 obtain⟨hb0,ha0⟩:=H0
 obtain⟨w0,hB0⟩:=zf hb0
 have hn0:=zc hB0
 rw[za zx5 _ _ rfl]
 have F:=zt7
 exact rp n0 t0 (aa ha0<|aa hB0<|aa hn0<|F) T
theorem zuT:SP 146=some (.code sc_Q146):=zb rfl Tryz.func146 comp_Q146
def zbj (s:List UInt8) (i1:Int) (w2:SWriter) (g3:Nat) (z4:Bool) (w':SWriter) (w'_g0:Nat) (w'_z0:Bool):Prop:=∀ (S:Sto) (e:Nat→PV) (f:Fr) (n0 t0:Nat),((getBox S n0 t0).map (List.take 1)=some [.sl 0 (.cell t0 0) 0 w2.out.length w2.out.length g3 false]∧getArr S n0 (.cell t0 0)=some ⟨1,w2.out.map eB,z4,g3⟩)→e 0=.ptr (n0+1) t0 0∧e 1=.str s∧e 7=.int .i64 (s.length:Int)∧e 8=.int .i64 i1→zmH SP (E SP (.loop b_Q146_1) ⟨e,f::S⟩)=.ok (.v (.tup [])) (setArr (setBox S n0 t0 ([.sl 0 (.cell t0 0) 0 w'.out.length w'.out.length w'_g0 false]++((getBox S n0 t0).getD []).drop 1)) n0 (.cell t0 0) ⟨1,w'.out.map eB,w'_z0,w'_g0⟩)
theorem zfk (s:List UInt8) (i1:Int) (w2:SWriter) (g3:Nat) (z4:Bool) (w':SWriter) (w'_g0:Nat) (w'_z0:Bool) (T :
  ((i1 < (s.length:Int)) →
  (0≤i1) ∧
  ∃ (b5:UInt8),(s[i1.toNat]?=some b5) ∧
  (((b5.toNat:Int)=34) →
   (0≤(IntKind.i32.wrap ((b5.toNat:Int))))∧((IntKind.i32.wrap ((b5.toNat:Int))) < 128) ∧
   ∃ (y6:SWriter) (g7:Nat) (z8:Bool),(zY w2 g3 z4 [[92],[UInt8.ofNat ((IntKind.i32.wrap ((b5.toNat:Int)))).toNat]] y6 g7 z8) ∧
   (I64 (i1+1)) ∧
   zbj s (i1+1) y6 g7 z8 w' w'_g0 w'_z0) ∧
  (¬ ((b5.toNat:Int)=34) →
   (((b5.toNat:Int)=92) →
    (0≤(IntKind.i32.wrap ((b5.toNat:Int))))∧((IntKind.i32.wrap ((b5.toNat:Int))) < 128) ∧
    ∃ (y9:SWriter) (g10:Nat) (z11:Bool),(zY w2 g3 z4 [[92],[UInt8.ofNat ((IntKind.i32.wrap ((b5.toNat:Int)))).toNat]] y9 g10 z11) ∧
    (I64 (i1+1)) ∧
    zbj s (i1+1) y9 g10 z11 w' w'_g0 w'_z0) ∧
   (¬ ((b5.toNat:Int)=92) →
    (((b5.toNat:Int)=36) →
     (0≤(IntKind.i32.wrap ((b5.toNat:Int))))∧((IntKind.i32.wrap ((b5.toNat:Int))) < 128) ∧
     ∃ (y12:SWriter) (g13:Nat) (z14:Bool),(zY w2 g3 z4 [[92],[UInt8.ofNat ((IntKind.i32.wrap ((b5.toNat:Int)))).toNat]] y12 g13 z14) ∧
     (I64 (i1+1)) ∧
     zbj s (i1+1) y12 g13 z14 w' w'_g0 w'_z0) ∧
    (¬ ((b5.toNat:Int)=36) →
     (((b5.toNat:Int)=10) →
      ∃ (y15:SWriter) (g16:Nat) (z17:Bool),(zY w2 g3 z4 [[92,110]] y15 g16 z17) ∧
      (I64 (i1+1)) ∧
      zbj s (i1+1) y15 g16 z17 w' w'_g0 w'_z0) ∧
     (¬ ((b5.toNat:Int)=10) →
      (bigRow (w2.out.length+1) 1) ∧
      (I64 (i1+1)) ∧
      zbj s (i1+1) (SWriter.mk (w2.out++[b5])) g3 z4 w' w'_g0 w'_z0))))) ∧
 (¬ (i1 < (s.length:Int)) →
  w2=w'∧g3=w'_g0∧z4=w'_z0)):zbj s i1 w2 g3 z4 w' w'_g0 w'_z0:=by
 intro S e f n0 t0 H0 h
 obtain⟨hb0,ha0⟩:=H0
 obtain⟨w0,hB0⟩:=zf hb0
 have hn0:=zc hB0
 unfold zmH
 rw[zS]
 have F:=zq9
 exact rp n0 t0 (aa ha0<|aa hB0<|aa hn0<|aa h<|F) T
theorem zrh (w:SWriter) (w_g0:Nat) (w_z0:Bool) (s:List UInt8) (w':SWriter) (w'_g0:Nat) (w'_z0:Bool) (T :
  zbj s 0 w w_g0 w_z0 w' w'_g0 w'_z0):znA w w_g0 w_z0 s w' w'_g0 w'_z0:=by
 intro S n0 t0 H0
 obtain⟨hb0,ha0⟩:=H0
 obtain⟨w0,hB0⟩:=zf hb0
 have hn0:=zc hB0
 rw[za zuT _ _ rfl]
 have F:=zq9
 exact rp n0 t0 (aa ha0<|aa hB0<|aa hn0<|F) T
theorem zuY:SP 107=some (.code sc_Q107):=zb rfl Tryz.func107 comp_Q107
def zcF (x_l:List Node) (l_:List Part) (i4:Int) (x5:SWriter) (g6:Nat) (z7:Bool) (x':SWriter) (x'_g0:Nat) (x'_z0:Bool):Prop:=∀ (S:Sto) (e:Nat→PV) (f:Fr) (n0 t0:Nat),((getBox S n0 t0).map (List.take 1)=some [.sl 0 (.cell t0 0) 0 x5.out.length x5.out.length g6 false]∧getArr S n0 (.cell t0 0)=some ⟨1,x5.out.map eB,z7,g6⟩)→e 2=.ptr 0 2 0∧e 10=.list 2 (l_.map ePart) false∧e 11=.int .i64 (l_.length:Int)∧e 12=.int .i64 i4∧f.box 2=some [.ptr (n0+1) t0 0,.list 5 (x_l.map eNode) false]→zmi SP (E SP (.loop b_Q107_1) ⟨e,f::S⟩)=.ok (.v (.tup [])) (setArr (setBox S n0 t0 ([.sl 0 (.cell t0 0) 0 x'.out.length x'.out.length x'_g0 false]++((getBox S n0 t0).getD []).drop 1)) n0 (.cell t0 0) ⟨1,x'.out.map eB,x'_z0,x'_g0⟩)
theorem zft (x_l:List Node) (l_:List Part) (i4:Int) (x5:SWriter) (g6:Nat) (z7:Bool) (x':SWriter) (x'_g0:Nat) (x'_z0:Bool) (T :
  ((i4 < (l_.length:Int)) →
  (0≤i4) ∧
  ∃ (v8:Part),(l_[i4.toNat]?=some v8) ∧
  ((v8.Ref=true) →
   ∃ (y9:SWriter) (g10:Nat) (z11:Bool),(zY x5 g6 z7 [[36,123],v8.Text,[125]] y9 g10 z11) ∧
   (I64 (i4+1)) ∧
   zcF x_l l_ (i4+1) y9 g10 z11 x' x'_g0 x'_z0) ∧
  (¬ (v8.Ref=true) →
   ∃ (y12:SWriter) (g13:Nat) (z14:Bool),(znA x5 g6 z7 v8.Text y12 g13 z14) ∧
   (I64 (i4+1)) ∧
   zcF x_l l_ (i4+1) y12 g13 z14 x' x'_g0 x'_z0)) ∧
 (¬ (i4 < (l_.length:Int)) →
  ∃ (y15:SWriter) (g16:Nat) (z17:Bool),(zY x5 g6 z7 [[34]] y15 g16 z17) ∧
  y15=x'∧g16=x'_g0∧z17=x'_z0)):zcF x_l l_ i4 x5 g6 z7 x' x'_g0 x'_z0:=by
 intro S e f n0 t0 H0 h
 obtain⟨hb0,ha0⟩:=H0
 obtain⟨w0,hB0⟩:=zf hb0
 have hn0:=zc hB0
 unfold zmi
 rw[zS]
 have F:=zqO
 exact rp n0 t0 (aa ha0<|aa hB0<|aa hn0<|aa h<|F) T
theorem zrt (x:SWriter) (x_g0:Nat) (x_z0:Bool) (x_l:List Node) (l_:List Part) (x':SWriter) (x'_g0:Nat) (x'_z0:Bool) (T :
  ∃ (y1:SWriter) (g2:Nat) (z3:Bool),(zY x x_g0 x_z0 [[34]] y1 g2 z3) ∧
 zcF x_l l_ 0 y1 g2 z3 x' x'_g0 x'_z0):znR x x_g0 x_z0 x_l l_ x' x'_g0 x'_z0:=by
 intro S n0 t0 H0
 obtain⟨hb0,ha0⟩:=H0
 obtain⟨w0,hB0⟩:=zf hb0
 have hn0:=zc hB0
 rw[za zuY _ _ rfl]
 have F:=zqO
 exact rp n0 t0 (aa ha0<|aa hB0<|aa hn0<|F) T
theorem zuQ:SP 110=some (.code sc_Q110):=zb rfl Tryz.func110 comp_Q110
theorem zrc (x:SWriter) (x_g0:Nat) (x_z0:Bool) (x_l:List Node) (at_:Int) (least:Int) (x':SWriter) (x'_g0:Nat) (x'_z0:Bool) (T :
  (0≤at_) ∧
 ∃ (v1:Node),(x_l[at_.toNat]?=some v1) ∧
 ∃ (r2:Int),(zjd v1.Kind r2) ∧
 ((least≤r2) →
  ∃ (y3:SWriter) (g4:Nat) (z5:Bool),(zbQ x x_g0 x_z0 x_l at_ y3 g4 z5) ∧
  y3=x'∧g4=x'_g0∧z5=x'_z0) ∧
 (¬ (least≤r2) →
  ∃ (y6:SWriter) (g7:Nat) (z8:Bool),(zY x x_g0 x_z0 [[40]] y6 g7 z8) ∧
  ∃ (y9:SWriter) (g10:Nat) (z11:Bool),(zbQ y6 g7 z8 x_l at_ y9 g10 z11) ∧
  ∃ (y12:SWriter) (g13:Nat) (z14:Bool),(zY y9 g10 z11 [[41]] y12 g13 z14) ∧
  y12=x'∧g13=x'_g0∧z14=x'_z0)):zb2 x x_g0 x_z0 x_l at_ least x' x'_g0 x'_z0:=by
 intro S n0 t0 H0
 obtain⟨hb0,ha0⟩:=H0
 obtain⟨w0,hB0⟩:=zf hb0
 have hn0:=zc hB0
 rw[za zuQ _ _ rfl]
 have F:=zwz
 exact rp n0 t0 (aa ha0<|aa hB0<|aa hn0<|F) T
theorem zvy:SP 109=some (.code sc_Q109):=zb rfl Tryz.func109 comp_Q109
def zdO (x_l:List Node) (l_:List Int) (i1:Int) (x2:SWriter) (g3:Nat) (z4:Bool) (x':SWriter) (x'_g0:Nat) (x'_z0:Bool):Prop:=∀ (S:Sto) (e:Nat→PV) (f:Fr) (n0 t0:Nat),((getBox S n0 t0).map (List.take 1)=some [.sl 0 (.cell t0 0) 0 x2.out.length x2.out.length g3 false]∧getArr S n0 (.cell t0 0)=some ⟨1,x2.out.map eB,z4,g3⟩)→e 2=.ptr 0 2 0∧e 6=.list 1 (l_.map eI) false∧e 7=.int .i64 (l_.length:Int)∧e 8=.int .i64 i1∧f.box 2=some [.ptr (n0+1) t0 0,.list 5 (x_l.map eNode) false]→zmM SP (E SP (.loop b_Q109_1) ⟨e,f::S⟩)=.ok (.v (.tup [])) (setArr (setBox S n0 t0 ([.sl 0 (.cell t0 0) 0 x'.out.length x'.out.length x'_g0 false]++((getBox S n0 t0).getD []).drop 1)) n0 (.cell t0 0) ⟨1,x'.out.map eB,x'_z0,x'_g0⟩)
theorem zdo (x_l:List Node) (l_:List Int) (i1:Int) (x2:SWriter) (g3:Nat) (z4:Bool) (x':SWriter) (x'_g0:Nat) (x'_z0:Bool) (T :
  ((i1 < (l_.length:Int)) →
  (0≤i1) ∧
  ∃ (v5:Int),(l_[i1.toNat]?=some v5) ∧
  ((0 < i1) →
   ∃ (y6:SWriter) (g7:Nat) (z8:Bool),(zY x2 g3 z4 [[44,32]] y6 g7 z8) ∧
   ∃ (y9:SWriter) (g10:Nat) (z11:Bool),(zbQ y6 g7 z8 x_l v5 y9 g10 z11) ∧
   (I64 (i1+1)) ∧
   zdO x_l l_ (i1+1) y9 g10 z11 x' x'_g0 x'_z0) ∧
  (¬ (0 < i1) →
   ∃ (y12:SWriter) (g13:Nat) (z14:Bool),(zbQ x2 g3 z4 x_l v5 y12 g13 z14) ∧
   (I64 (i1+1)) ∧
   zdO x_l l_ (i1+1) y12 g13 z14 x' x'_g0 x'_z0)) ∧
 (¬ (i1 < (l_.length:Int)) →
  x2=x'∧g3=x'_g0∧z4=x'_z0)):zdO x_l l_ i1 x2 g3 z4 x' x'_g0 x'_z0:=by
 intro S e f n0 t0 H0 h
 obtain⟨hb0,ha0⟩:=H0
 obtain⟨w0,hB0⟩:=zf hb0
 have hn0:=zc hB0
 unfold zmM
 rw[zS]
 have F:=zqo
 exact rp n0 t0 (aa ha0<|aa hB0<|aa hn0<|aa h<|F) T
theorem zsw (x:SWriter) (x_g0:Nat) (x_z0:Bool) (x_l:List Node) (l_:List Int) (x':SWriter) (x'_g0:Nat) (x'_z0:Bool) (T :
  zdO x_l l_ 0 x x_g0 x_z0 x' x'_g0 x'_z0):zjA x x_g0 x_z0 x_l l_ x' x'_g0 x'_z0:=by
 intro S n0 t0 H0
 obtain⟨hb0,ha0⟩:=H0
 obtain⟨w0,hB0⟩:=zf hb0
 have hn0:=zc hB0
 rw[za zvy _ _ rfl]
 have F:=zqo
 exact rp n0 t0 (aa ha0<|aa hB0<|aa hn0<|F) T
theorem zu5:SP 111=some (.code sc_Q111):=zb rfl Tryz.func111 comp_Q111
theorem zqI (x:SWriter) (x_g0:Nat) (x_z0:Bool) (x_l:List Node) (n:Node) (x':SWriter) (x'_g0:Nat) (x'_z0:Bool) (T :
  ∃ (r1:Int),(zjd n.Kind r1) ∧
 ((r1=3) →
  (I64 (r1+1)) ∧
  ∃ (v2:Int),(n.Kids[0]?=some v2) ∧
  ∃ (y3:SWriter) (g4:Nat) (z5:Bool),(zb2 x x_g0 x_z0 x_l v2 (r1+1) y3 g4 z5) ∧
  ∃ (r6:List UInt8),(zjF n.Kind r6) ∧
  ∃ (y7:SWriter) (g8:Nat) (z9:Bool),(zY y3 g4 z5 [[32],r6,[32]] y7 g8 z9) ∧
  ∃ (v10:Int),(n.Kids[1]?=some v10) ∧
  (I64 (r1+1)) ∧
  ∃ (y11:SWriter) (g12:Nat) (z13:Bool),(zb2 y7 g8 z9 x_l v10 (r1+1) y11 g12 z13) ∧
  y11=x'∧g12=x'_g0∧z13=x'_z0) ∧
 (¬ (r1=3) →
  ∃ (v14:Int),(n.Kids[0]?=some v14) ∧
  ∃ (y15:SWriter) (g16:Nat) (z17:Bool),(zb2 x x_g0 x_z0 x_l v14 r1 y15 g16 z17) ∧
  ∃ (r18:List UInt8),(zjF n.Kind r18) ∧
  ∃ (y19:SWriter) (g20:Nat) (z21:Bool),(zY y15 g16 z17 [[32],r18,[32]] y19 g20 z21) ∧
  ∃ (v22:Int),(n.Kids[1]?=some v22) ∧
  (I64 (r1+1)) ∧
  ∃ (y23:SWriter) (g24:Nat) (z25:Bool),(zb2 y19 g20 z21 x_l v22 (r1+1) y23 g24 z25) ∧
  y23=x'∧g24=x'_g0∧z25=x'_z0)):zrX x x_g0 x_z0 x_l n x' x'_g0 x'_z0:=by
 intro S n0 t0 H0
 obtain⟨hb0,ha0⟩:=H0
 obtain⟨w0,hB0⟩:=zf hb0
 have hn0:=zc hB0
 rw[za zu5 _ _ rfl]
 have F:=zwB
 exact rp n0 t0 (aa ha0<|aa hB0<|aa hn0<|F) T
theorem zxc:SP 69=some (.code sc_Q69):=zb rfl Tryz.func69 comp_Q69
theorem ztR (x:SWriter) (x_g0:Nat) (x_z0:Bool) (x_l:List Node) (at_:Int) (x':SWriter) (x'_g0:Nat) (x'_z0:Bool) (T :
  (0≤at_) ∧
 ∃ (v1:Node),(x_l[at_.toNat]?=some v1) ∧
 ((v1.Kind=1) →
  ∃ (r2:List UInt8),(zb7 v1.Num r2) ∧
  ∃ (y3:SWriter) (g4:Nat) (z5:Bool),(zY x x_g0 x_z0 [r2] y3 g4 z5) ∧
  y3=x'∧g4=x'_g0∧z5=x'_z0) ∧
 (¬ (v1.Kind=1) →
  ((v1.Kind=2) →
   ∃ (y6:SWriter) (g7:Nat) (z8:Bool),(znR x x_g0 x_z0 x_l v1.Parts y6 g7 z8) ∧
   y6=x'∧g7=x'_g0∧z8=x'_z0) ∧
  (¬ (v1.Kind=2) →
   ((v1.Kind=3) →
    ∃ (r9:List UInt8),(zcW (decide (v1.Num=1)) r9) ∧
    ∃ (y10:SWriter) (g11:Nat) (z12:Bool),(zY x x_g0 x_z0 [r9] y10 g11 z12) ∧
    y10=x'∧g11=x'_g0∧z12=x'_z0) ∧
   (¬ (v1.Kind=3) →
    ((v1.Kind=4) →
     ∃ (y13:SWriter) (g14:Nat) (z15:Bool),(zY x x_g0 x_z0 [v1.Text] y13 g14 z15) ∧
     y13=x'∧g14=x'_g0∧z15=x'_z0) ∧
    (¬ (v1.Kind=4) →
     ((v1.Kind=5) →
      ∃ (y16:SWriter) (g17:Nat) (z18:Bool),(zY x x_g0 x_z0 [v1.Text,[40]] y16 g17 z18) ∧
      ∃ (y19:SWriter) (g20:Nat) (z21:Bool),(zjA y16 g17 z18 x_l v1.Kids y19 g20 z21) ∧
      ∃ (y22:SWriter) (g23:Nat) (z24:Bool),(zY y19 g20 z21 [[41]] y22 g23 z24) ∧
      y22=x'∧g23=x'_g0∧z24=x'_z0) ∧
     (¬ (v1.Kind=5) →
      ((v1.Kind=6) →
       ∃ (y25:SWriter) (g26:Nat) (z27:Bool),(zY x x_g0 x_z0 [[91]] y25 g26 z27) ∧
       ∃ (y28:SWriter) (g29:Nat) (z30:Bool),(zjA y25 g26 z27 x_l v1.Kids y28 g29 z30) ∧
       ∃ (y31:SWriter) (g32:Nat) (z33:Bool),(zY y28 g29 z30 [[93]] y31 g32 z33) ∧
       y31=x'∧g32=x'_g0∧z33=x'_z0) ∧
      (¬ (v1.Kind=6) →
       ((v1.Kind=7) →
        ∃ (v34:Int),(v1.Kids[0]?=some v34) ∧
        ∃ (y35:SWriter) (g36:Nat) (z37:Bool),(zb2 x x_g0 x_z0 x_l v34 7 y35 g36 z37) ∧
        ∃ (y38:SWriter) (g39:Nat) (z40:Bool),(zY y35 g36 z37 [[91]] y38 g39 z40) ∧
        ∃ (v41:Int),(v1.Kids[1]?=some v41) ∧
        ∃ (y42:SWriter) (g43:Nat) (z44:Bool),(zbQ y38 g39 z40 x_l v41 y42 g43 z44) ∧
        ∃ (y45:SWriter) (g46:Nat) (z47:Bool),(zY y42 g43 z44 [[93]] y45 g46 z47) ∧
        y45=x'∧g46=x'_g0∧z47=x'_z0) ∧
       (¬ (v1.Kind=7) →
        ((v1.Kind=8) →
         ∃ (y48:SWriter) (g49:Nat) (z50:Bool),(zY x x_g0 x_z0 [[33]] y48 g49 z50) ∧
         ∃ (v51:Int),(v1.Kids[0]?=some v51) ∧
         ∃ (y52:SWriter) (g53:Nat) (z54:Bool),(zb2 y48 g49 z50 x_l v51 6 y52 g53 z54) ∧
         y52=x'∧g53=x'_g0∧z54=x'_z0) ∧
        (¬ (v1.Kind=8) →
         ((v1.Kind=9) →
          ∃ (y55:SWriter) (g56:Nat) (z57:Bool),(zY x x_g0 x_z0 [[45]] y55 g56 z57) ∧
          ∃ (v58:Int),(v1.Kids[0]?=some v58) ∧
          ∃ (y59:SWriter) (g60:Nat) (z61:Bool),(zb2 y55 g56 z57 x_l v58 6 y59 g60 z61) ∧
          y59=x'∧g60=x'_g0∧z61=x'_z0) ∧
         (¬ (v1.Kind=9) →
          ((v1.Kind=10) →
           ∃ (v62:Int),(v1.Kids[0]?=some v62) ∧
           ∃ (y63:SWriter) (g64:Nat) (z65:Bool),(zb2 x x_g0 x_z0 x_l v62 1 y63 g64 z65) ∧
           ∃ (y66:SWriter) (g67:Nat) (z68:Bool),(zY y63 g64 z65 [[32,63,32]] y66 g67 z68) ∧
           ∃ (v69:Int),(v1.Kids[1]?=some v69) ∧
           ∃ (y70:SWriter) (g71:Nat) (z72:Bool),(zbQ y66 g67 z68 x_l v69 y70 g71 z72) ∧
           ∃ (y73:SWriter) (g74:Nat) (z75:Bool),(zY y70 g71 z72 [[32,58,32]] y73 g74 z75) ∧
           ∃ (v76:Int),(v1.Kids[2]?=some v76) ∧
           ∃ (y77:SWriter) (g78:Nat) (z79:Bool),(zbQ y73 g74 z75 x_l v76 y77 g78 z79) ∧
           y77=x'∧g78=x'_g0∧z79=x'_z0) ∧
          (¬ (v1.Kind=10) →
           ∃ (y80:SWriter) (g81:Nat) (z82:Bool),(zrX x x_g0 x_z0 x_l v1 y80 g81 z82) ∧
           y80=x'∧g81=x'_g0∧z82=x'_z0))))))))))):zbQ x x_g0 x_z0 x_l at_ x' x'_g0 x'_z0:=by
 intro S n0 t0 H0
 obtain⟨hb0,ha0⟩:=H0
 obtain⟨w0,hB0⟩:=zf hb0
 have hn0:=zc hB0
 rw[za zxc _ _ rfl]
 have F:=zym
 exact rp n0 t0 (aa ha0<|aa hB0<|aa hn0<|F) T
theorem zwF:SP 45=some (.code sc_Q45):=zb rfl Tryz.func45 comp_Q45
theorem zsS (w:SWriter) (w_g0:Nat) (w_z0:Bool) (l_:List Node) (w':SWriter) (w'_g0:Nat) (w'_z0:Bool) (T :
  (I64 ((l_.length:Int) - 1)) ∧
 ∃ (y1:SWriter) (g2:Nat) (z3:Bool),(zbQ w w_g0 w_z0 l_ ((l_.length:Int) - 1) y1 g2 z3) ∧
 y1=w'∧g2=w'_g0∧z3=w'_z0):zqg w w_g0 w_z0 l_ w' w'_g0 w'_z0:=by
 intro S n0 t0 H0
 obtain⟨hb0,ha0⟩:=H0
 obtain⟨w0,hB0⟩:=zf hb0
 have hn0:=zc hB0
 rw[za zwF _ _ rfl]
 have F:=zyE
 exact rp n0 t0 (aa ha0<|aa hB0<|aa hn0<|F) T
theorem zxf:SP 23=some (.code sc_Q23):=zb rfl Tryz.func23 comp_Q23
theorem zti (l_:List Node) (r:List UInt8) (T :
  ∃ (r1:Bool),(zp0 l_ r1) ∧
 ((r1=true) →
  ∃ (y2:SWriter) (g3:Nat) (z4:Bool),(zqg (SWriter.mk []) 0 false l_ y2 g3 z4) ∧
  y2.out=r) ∧
 (¬ (r1=true) →
  []=r)):zjf l_ r:=by
 intro S
 rw[za zxf _ _ rfl]
 have F:=zyh
 exact rn F T
end Go.Proofs.YtfbcnpbhhooapaaGreatDoor.M
namespace Go.Proofs.YtfbcnpbhhooapaaGreatDoor.M
open Go
def sc_Q25:zk:=⟨0,10,.seq (.reg [vO 0 (.mov (.c (.bool false)))]) (.seq (.reg [kO 4 20 [(.c (.str [40,32,49,43,32,50,41,32,42,51]))],mO 3 4,vO 5 (.extract 0 (.t 3)),vO 6 (.extract 1 (.t 3)),mO 1 5,mO 2 6]) (.seq (.reg [mO 7 1,kO 8 23 [(.t 7)],vO 9 (.bin .eql (.t 8) (.c (.str [40,49,32,43,32,50,41,32,42,32,51]))),mO 0 9]) .ret)),[(.t 0)]⟩
theorem zyc:type_of% (sc_Q25.eq_1):=sc_Q25.eq_1
theorem comp_Q25:comp Tryz.prog Tryz.f25=some sc_Q25:=by kernel_rfl
end Go.Proofs.YtfbcnpbhhooapaaGreatDoor.M
namespace Go.Proofs.YtfbcnpbhhooapaaGreatDoor.M
open Go Classical
theorem zwU:SP 25=some (.code sc_Q25):=zb rfl Tryz.func25 comp_Q25
theorem zsE  (r:Bool) (T :
  ∃ (r1:List Node) (r2:Int),(zaI [40,32,49,43,32,50,41,32,42,51] r1 r2) ∧
 ∃ (r3:List UInt8),(zjf r1 r3) ∧
 (decide (r3=[40,49,32,43,32,50,41,32,42,32,51]))=r):zbl  r:=by
 intro S
 rw[za zwU _ _ rfl]
 have F:=zyc
 exact rn F T
end Go.Proofs.YtfbcnpbhhooapaaGreatDoor.M
namespace Go.Proofs.YtfbcnpbhhooapaaGreatDoor.M
open Go
def c_Q137_1:SC:=.seq (.reg [vO 2 (.mov (cI 0))]) .ret
def c_Q137_2:SC:=.cond (.t 10) (.seq (.reg [vO 2 (.mov (cI 2))]) .ret) (.seq (.reg [mO 22 0,vO 23 (.bin .leq (.c (.int .u8 48)) (.t 22)),mO 24 23,gO 25 24 true (.mov (.t 0)),gO 26 24 true (.bin .leq (.t 25) (.c (.int .u8 57))),vO 27 (.pick (.t 24) (.t 26) (.c (.bool false))),mO 21 27]) (.cond (.t 21) (.seq (.reg [vO 2 (.mov (cI 3))]) .ret) (.seq (.reg [mO 29 0,vO 30 (.bin .eql (.t 29) (.c (.int .u8 34))),mO 28 30]) (.cond (.t 28) (.seq (.reg [vO 2 (.mov (cI 4))]) .ret) (.seq (.reg [mO 32 0,vO 33 (.bin .eql (.t 32) (.c (.int .u8 35))),mO 31 33]) (.cond (.t 31) (.seq (.reg [vO 2 (.mov (cI 5))]) .ret) .skip))))))
def c_Q137_3:SC:=.cond (.t 3) (.seq (.reg [vO 2 (.mov (cI 1))]) .ret) (.seq (.reg [mO 11 0,vO 12 (.bin .eql (.t 11) (.c (.int .u8 95))),mO 13 12,gO 14 13 false (.mov (.t 0)),gO 15 13 false (.bin .leq (.c (.int .u8 97)) (.t 14)),gO 16 13 false (.mov (.t 15)),gO 17 16 true (.mov (.t 0)),gO 18 16 true (.bin .leq (.t 17) (.c (.int .u8 122))),gO 19 13 false (.pick (.t 16) (.t 18) (.c (.bool false))),vO 20 (.pick (.t 13) (.c (.bool true)) (.t 19)),mO 10 20]) c_Q137_2)
def c_Q137_4:SC:=.seq (.block 0 (.seq (.reg [mO 4 0,vO 5 (.bin .eql (.t 4) (.c (.int .u8 32))),mO 6 5,gO 7 6 false (.mov (.t 0)),gO 8 6 false (.bin .eql (.t 7) (.c (.int .u8 10))),vO 9 (.pick (.t 6) (.c (.bool true)) (.t 8)),mO 3 9]) c_Q137_3)) c_Q137_1
def sc_Q137:zk:=⟨1,34,.seq (.reg [vO 2 (.mov (cI 0))]) c_Q137_4,[(.t 2)]⟩
theorem zwy:type_of% (aI (ue c_Q137_1.eq_1)<|aI (ue c_Q137_2.eq_1)<|aI (ue c_Q137_3.eq_1)<|aI (ue c_Q137_4.eq_1)<|sc_Q137.eq_1):=aI (ue c_Q137_1.eq_1)<|aI (ue c_Q137_2.eq_1)<|aI (ue c_Q137_3.eq_1)<|aI (ue c_Q137_4.eq_1)<|sc_Q137.eq_1
theorem comp_Q137:comp Tryz.prog Tryz.f137=some sc_Q137:=by kernel_rfl
def c_Q151_1:SC:=.seq (.reg [mO 20 0,vO 21 (.len true (.t 20)),mO 4 21]) .ret
def b_Q151_1:SC:=.seq (.reg [vO 9 (.bin .lss (.t 8) (.t 7))]) (.seq (.cond (.t 9) .skip (.exit 0)) (.seq (.block 1 (.seq (.reg [mO 10 8,mO 5 10]) (.seq (.reg [mO 11 1,mO 12 0,mO 13 5,vO 14 (.istr (.t 12) (.t 13)),kO 15 137 [(.t 14)],kO 16 170 [(.t 11),(.t 15)],vO 17 (.un .not (.t 16))]) (.cond (.t 17) (.seq (.reg [mO 18 5,mO 4 18]) .ret) .skip)))) (.reg [vO 19 (.bin .add (.t 8) (cI 1)),mO 8 19])))
def sc_Q151:zk:=⟨2,22,.seq (.reg [vO 4 (.mov (cI 0))]) (.seq (.seq (.reg [mO 6 0,vO 7 (.len true (.t 6)),vO 8 (.mov (cI 0))]) (.block 0 (.loop b_Q151_1))) c_Q151_1),[(.t 4)]⟩
noncomputable def zmW (SP:Prg) (x:EO):CO:=fin [(.t 4)] (thC SP (zK 0 (x)) c_Q151_1)
theorem zrV:type_of% (aI (ue c_Q151_1.eq_1)<|aI (ue b_Q151_1.eq_1)<|sc_Q151.eq_1):=aI (ue c_Q151_1.eq_1)<|aI (ue b_Q151_1.eq_1)<|sc_Q151.eq_1
theorem comp_Q151:comp Tryz.prog Tryz.f151=some sc_Q151:=by kernel_rfl
def sc_Q135:zk:=⟨2,31,.seq (.reg [vO 4 (.mov (.c (.str [])))]) (.seq (.reg [mO 6 0,vO 7 (.nchk (.t 6)),vO 8 (.faddr 0 (.t 7)),vO 9 (.load none (.t 8)),mO 10 1,vO 11 (.sls (.t 9) none (some (.t 10))),mO 5 11]) (.seq (.dreg [mO 12 0,mO 13 0,mO 14 0,vO 15 (.nchk (.t 14)),vO 16 (.faddr 0 (.t 15)),vO 17 (.load none (.t 16)),mO 18 1,vO 19 (.sls (.t 17) (some (.t 18)) none),mO 20 0,vO 21 (.nchk (.t 20)),vO 22 (.faddr 1 (.t 21)),vO 23 (.load none (.t 22)),mO 24 1,vO 25 (.bin .add (.t 23) (.t 24)),vO 26 (.nchk (.t 12)),vO 27 (.faddr 0 (.t 26)),⟨none,none,.store 1 (.t 27) (.t 19)⟩,vO 28 (.nchk (.t 13)),vO 29 (.faddr 1 (.t 28)),⟨none,none,.store 1 (.t 29) (.t 25)⟩] [false,false,false,false,false,false,false,false,false,false,false,false,false,false,true,true,true,true,true,true]) (.seq (.reg [mO 30 5,mO 4 30]) .ret))),[(.t 4)]⟩
theorem zwt:type_of% (sc_Q135.eq_1):=sc_Q135.eq_1
theorem comp_Q135:comp Tryz.prog Tryz.f135=some sc_Q135:=by kernel_rfl
def sc_Q134:zk:=⟨2,13,.seq (.reg [vO 4 (.mov (.c (.str [])))]) (.seq (.reg [mO 5 0,mO 6 0,vO 7 (.nchk (.t 6)),vO 8 (.faddr 0 (.t 7)),vO 9 (.load none (.t 8)),mO 10 1,kO 11 151 [(.t 9),(.t 10)],kO 12 135 [(.t 5),(.t 11)],mO 4 12]) .ret),[(.t 4)]⟩
theorem zwx:type_of% (sc_Q134.eq_1):=sc_Q134.eq_1
theorem comp_Q134:comp Tryz.prog Tryz.f134=some sc_Q134:=by kernel_rfl
def c_Q165_1:SC:=.dreg [mO 31 0,vO 32 (.nchk (.t 31)),vO 33 (.load none (.t 32)),mO 34 4,vO 35 (.bin .sub (.t 34) (cI 1)),vO 36 (.iaddr 2 (.t 33) (.t 35)),vO 37 (.faddr 1 (.t 36)),vO 38 (.load none (.t 37)),mO 39 1,⟨some 40,none,.bslice 1 1 [(.int .u8 0)] [(0,(.t 39))]⟩,vO 41 (.conv .bytes (.t 40)),vO 42 (.bin .add (.t 38) (.t 41)),vO 43 (.iaddr 2 (.t 33) (.t 35)),vO 44 (.faddr 1 (.t 43)),⟨none,none,.store 1 (.t 44) (.t 42)⟩] [false,false,false,false,false,false,false,false,false,false,false,true,true,true,true]
def c_Q165_2:SC:=.seq (.seq (.reg [mO 9 4,vO 10 (.bin .eql (.t 9) (cI 0)),mO 11 10,gO 12 11 false (.mov (.t 0)),gO 13 11 false (.nchk (.t 12)),gO 14 11 false (.load none (.t 13)),gO 15 11 false (.mov (.t 4)),gO 16 11 false (.bin .sub (.t 15) (cI 1)),gO 17 11 false (.iaddr 2 (.t 14) (.t 16)),gO 18 11 false (.faddr 0 (.t 17)),gO 19 11 false (.load none (.t 18)),vO 20 (.pick (.t 11) (.c (.bool true)) (.t 19))]) (.cond (.t 20) (.seq (.reg [mO 21 0,mO 22 0,vO 23 (.nchk (.t 22)),vO 24 (.load none (.t 23)),vO 25 (.build [(.bool false),(.str [])] []),⟨some 26,none,.bslice 2 1 [(.bool false),(.str [])] [(0,(.t 25))]⟩,⟨some 27,none,.append 2 24 (.t 24) (.t 26)⟩,vO 28 (.nchk (.t 21)),⟨none,none,.store 1 (.t 28) (.t 27)⟩]) (.reg [mO 29 4,vO 30 (.bin .add (.t 29) (cI 1)),mO 4 30])) .skip)) c_Q165_1
def sc_Q165:zk:=⟨2,45,.seq (.reg [mO 5 0,vO 6 (.nchk (.t 5)),vO 7 (.load none (.t 6)),vO 8 (.len false (.t 7)),mO 4 8]) c_Q165_2,[]⟩
theorem zwN:type_of% (aI (ue c_Q165_1.eq_1)<|aI (ue c_Q165_2.eq_1)<|sc_Q165.eq_1):=aI (ue c_Q165_1.eq_1)<|aI (ue c_Q165_2.eq_1)<|sc_Q165.eq_1
theorem comp_Q165:comp Tryz.prog Tryz.f165=some sc_Q165:=by kernel_rfl
def sc_Q164:zk:=⟨1,15,.seq (.reg [vO 2 (.mov (.c (.int .u8 0))),vO 3 (.mov (.c (.bool false)))]) (.seq (.seq (.reg [mO 5 0,vO 6 (.len true (.t 5)),vO 7 (.bin .lss (.t 6) (cI 2))]) (.cond (.t 7) (.seq (.reg [vO 2 (.mov (.c (.int .u8 0))),vO 3 (.mov (.c (.bool false)))]) .ret) .skip)) (.seq (.reg [mO 8 0,vO 9 (.istr (.t 8) (cI 1)),kO 10 179 [(.c (.str [34,92,36,110])),(.t 9)],mO 4 10]) (.seq (.seq (.reg [mO 11 4,vO 12 (.bin .lss (.t 11) (cI 0))]) (.cond (.t 12) (.seq (.reg [vO 2 (.mov (.c (.int .u8 0))),vO 3 (.mov (.c (.bool false)))]) .ret) .skip)) (.seq (.reg [mO 13 4,vO 14 (.istr (.c (.str [34,92,36,10])) (.t 13)),mO 2 14,vO 3 (.mov (.c (.bool true)))]) .ret)))),[(.t 2),(.t 3)]⟩
theorem zxu:type_of% (sc_Q164.eq_1):=sc_Q164.eq_1
theorem comp_Q164:comp Tryz.prog Tryz.f164=some sc_Q164:=by kernel_rfl
def c_Q166_1:SC:=.seq (.reg [mO 18 4,kO 19 112 [(.t 18),(.c (.str [46]))],mO 17 19,vO 20 (.extract 0 (.t 17)),vO 21 (.extract 1 (.t 17)),vO 22 (.extract 2 (.t 17)),mO 7 20,mO 8 21,mO 9 22]) (.seq (.reg [mO 23 4,mO 24 6,mO 25 24,gO 26 25 true (.mov (.t 9)),vO 27 (.pick (.t 25) (.t 26) (.c (.bool false))),mO 28 27,gO 29 28 true (.mov (.t 7)),⟨some 30,some (28,true),.call (.c (.func 115 [])) [(.t 29)]⟩,vO 31 (.pick (.t 28) (.t 30) (.c (.bool false))),mO 32 31,gO 33 32 true (.mov (.t 8)),⟨some 34,some (32,true),.call (.c (.func 115 [])) [(.t 33)]⟩,vO 35 (.pick (.t 32) (.t 34) (.c (.bool false))),mO 2 23,mO 3 35]) .ret)
def c_Q166_2:SC:=.seq (.reg [mO 11 0,vO 12 (.sls (.t 11) (some (cI 2)) none),kO 13 112 [(.t 12),(.c (.str [125]))],mO 10 13,vO 14 (.extract 0 (.t 10)),vO 15 (.extract 1 (.t 10)),vO 16 (.extract 2 (.t 10)),mO 4 14,mO 5 15,mO 6 16]) c_Q166_1
def sc_Q166:zk:=⟨1,36,.seq (.reg [vO 2 (.mov (.c (.str []))),vO 3 (.mov (.c (.bool false)))]) c_Q166_2,[(.t 2),(.t 3)]⟩
theorem zw0:type_of% (aI (ue c_Q166_1.eq_1)<|aI (ue c_Q166_2.eq_1)<|sc_Q166.eq_1):=aI (ue c_Q166_1.eq_1)<|aI (ue c_Q166_2.eq_1)<|sc_Q166.eq_1
theorem comp_Q166:comp Tryz.prog Tryz.f166=some sc_Q166:=by kernel_rfl
def sc_Q115:zk:=⟨1,24,.seq (.reg [vO 2 (.mov (.c (.bool false)))]) (.seq (.reg [mO 3 0,vO 4 (.bin .neq (.t 3) (.c (.str []))),mO 5 4,gO 6 5 true (.mov (.t 0)),gO 7 5 true (.len true (.t 6)),gO 8 5 true (.bin .leq (.t 7) (cI 24)),vO 9 (.pick (.t 5) (.t 8) (.c (.bool false))),mO 10 9,gO 11 10 true (.mov (.t 0)),gO 12 10 true (.istr (.t 11) (cI 0)),⟨some 13,some (10,true),.call (.c (.func 137 [])) [(.t 12)]⟩,gO 14 10 true (.bin .eql (.t 13) (cI 2)),vO 15 (.pick (.t 10) (.t 14) (.c (.bool false))),mO 16 15,gO 17 16 true (.mov (.t 0)),⟨some 18,some (16,true),.bslice 1 2 [(.int .i64 0)] [(0,(cI 2)),(1,(cI 3))]⟩,⟨some 19,some (16,true),.call (.c (.func 151 [])) [(.t 17),(.t 18)]⟩,gO 20 16 true (.mov (.t 0)),gO 21 16 true (.len true (.t 20)),gO 22 16 true (.bin .eql (.t 19) (.t 21)),vO 23 (.pick (.t 16) (.t 22) (.c (.bool false))),mO 2 23]) .ret),[(.t 2)]⟩
theorem zwY:type_of% (sc_Q115.eq_1):=sc_Q115.eq_1
theorem comp_Q115:comp Tryz.prog Tryz.f115=some sc_Q115:=by kernel_rfl
def zlt:SC:=.seq (.reg [vO 126 (.build [(.int .i64 0),(.str []),(.int .i64 0),(.nils 2),(.int .i64 0)] []),⟨none,none,.store 5 (.t 4) (.t 126)⟩,vO 5 (.mov (cI 0))]) .ret
def zlv:SC:=.reg [mO 17 8,vO 18 (.bin .add (.t 17) (cI 1)),mO 8 18]
def zlE:SC:=.seq (.reg [mO 59 0,mO 60 8,vO 61 (.istr (.t 59) (.t 60))]) (.block 3 (.seq (.seq (.reg [vO 64 (.bin .eql (.t 61) (.c (.int .u8 34))),mO 63 64]) (.cond (.t 63) .skip (.seq (.reg [vO 65 (.bin .eql (.t 61) (.c (.int .u8 92))),mO 63 65]) (.cond (.t 63) .skip (.reg [vO 66 (.bin .eql (.t 61) (.c (.int .u8 36))),mO 63 66]))))) (.cond (.t 63) (.reg [mO 67 7,mO 68 0,mO 69 8,vO 70 (.istr (.t 68) (.t 69)),⟨some 71,none,.bslice 1 1 [(.int .u8 0)] [(0,(.t 70))]⟩,⟨some 72,none,.append 1 1 (.t 67) (.t 71)⟩,mO 7 72]) (.seq (.reg [vO 74 (.bin .eql (.t 61) (.c (.int .u8 110))),mO 73 74]) (.cond (.t 73) (.reg [mO 75 7,⟨some 76,none,.bslice 1 1 [(.int .u8 0)] [(0,(.c (.int .u8 10)))]⟩,⟨some 77,none,.append 1 1 (.t 75) (.t 76)⟩,mO 7 77]) (.seq (.reg [vO 62 (.build [(.int .i64 0),(.str []),(.int .i64 0),(.nils 2),(.int .i64 0)] []),⟨none,none,.store 5 (.t 4) (.t 62)⟩,vO 5 (.mov (cI 0))]) .ret))))))
def zlJ:SC:=.seq (.seq (.reg [mO 54 8,mO 55 0,vO 56 (.len true (.t 55)),vO 57 (.bin .geq (.t 54) (.t 56))]) (.cond (.t 57) (.seq (.reg [vO 58 (.build [(.int .i64 0),(.str []),(.int .i64 0),(.nils 2),(.int .i64 0)] []),⟨none,none,.store 5 (.t 4) (.t 58)⟩,vO 5 (.mov (cI 0))]) .ret) .skip)) zlE
def zlA:SC:=.seq (.reg [mO 110 6,mO 111 0,mO 112 8,vO 113 (.bin .add (.t 112) (cI 2)),mO 114 8,mO 115 10,vO 116 (.bin .add (.t 114) (.t 115)),vO 117 (.bin .sub (.t 116) (cI 1)),vO 118 (.sls (.t 111) (some (.t 113)) (some (.t 117))),vO 119 (.build [(.bool false),(.str [])] [(0,1,(.c (.bool true))),(1,1,(.t 118))]),⟨some 120,none,.bslice 2 1 [(.bool false),(.str [])] [(0,(.t 119))]⟩,⟨some 121,none,.append 2 24 (.t 110) (.t 120)⟩,mO 6 121]) (.reg [mO 122 8,mO 123 10,vO 124 (.bin .add (.t 122) (.t 123)),vO 125 (.bin .sub (.t 124) (cI 1)),mO 8 125])
def zlz:SC:=.seq (.seq (.reg [mO 101 7,vO 102 (.len false (.t 101)),vO 103 (.bin .gtr (.t 102) (cI 0))]) (.cond (.t 103) (.seq (.reg [mO 104 6,mO 105 7,vO 106 (.conv .bytes (.t 105)),vO 107 (.build [(.bool false),(.str [])] [(1,1,(.t 106))]),⟨some 108,none,.bslice 2 1 [(.bool false),(.str [])] [(0,(.t 107))]⟩,⟨some 109,none,.append 2 24 (.t 104) (.t 108)⟩,mO 6 109]) (.reg [⟨some 7,none,.nilv 1⟩])) .skip)) zlA
def zlC:SC:=.seq (.seq (.reg [mO 98 10,vO 99 (.bin .eql (.t 98) (cI 0))]) (.cond (.t 99) (.seq (.reg [vO 100 (.build [(.int .i64 0),(.str []),(.int .i64 0),(.nils 2),(.int .i64 0)] []),⟨none,none,.store 5 (.t 4) (.t 100)⟩,vO 5 (.mov (cI 0))]) .ret) .skip)) zlz
def zlL:SC:=.cond (.t 78) (.seq (.reg [mO 95 0,mO 96 8,kO 97 154 [(.t 95),(.t 96)],mO 10 97]) zlC) (.reg [mO 22 7,mO 23 9,⟨some 24,none,.bslice 1 1 [(.int .u8 0)] [(0,(.t 23))]⟩,⟨some 25,none,.append 1 1 (.t 22) (.t 24)⟩,mO 7 25])
def zlu:SC:=.cond (.t 49) (.seq (.reg [mO 52 8,vO 53 (.bin .add (.t 52) (cI 1)),mO 8 53]) zlJ) (.seq (.reg [mO 79 9,vO 80 (.bin .eql (.t 79) (.c (.int .u8 36))),mO 81 80,gO 82 81 true (.mov (.t 8)),gO 83 81 true (.bin .add (.t 82) (cI 1)),gO 84 81 true (.mov (.t 0)),gO 85 81 true (.len true (.t 84)),gO 86 81 true (.bin .lss (.t 83) (.t 85)),vO 87 (.pick (.t 81) (.t 86) (.c (.bool false))),mO 88 87,gO 89 88 true (.mov (.t 0)),gO 90 88 true (.mov (.t 8)),gO 91 88 true (.bin .add (.t 90) (cI 1)),gO 92 88 true (.istr (.t 89) (.t 91)),gO 93 88 true (.bin .eql (.t 92) (.c (.int .u8 123))),vO 94 (.pick (.t 88) (.t 93) (.c (.bool false))),mO 78 94]) zlL)
def zkd:SC:=.cond (.t 45) (.seq (.reg [vO 48 (.build [(.int .i64 0),(.str []),(.int .i64 0),(.nils 2),(.int .i64 0)] []),⟨none,none,.store 5 (.t 4) (.t 48)⟩,vO 5 (.mov (cI 0))]) .ret) (.seq (.reg [mO 50 9,vO 51 (.bin .eql (.t 50) (.c (.int .u8 92))),mO 49 51]) zlu)
def zkg:SC:=.cond (.t 26) (.seq (.seq (.reg [mO 29 7,vO 30 (.len false (.t 29)),vO 31 (.bin .gtr (.t 30) (cI 0))]) (.cond (.t 31) (.reg [mO 32 6,mO 33 7,vO 34 (.conv .bytes (.t 33)),vO 35 (.build [(.bool false),(.str [])] [(1,1,(.t 34))]),⟨some 36,none,.bslice 2 1 [(.bool false),(.str [])] [(0,(.t 35))]⟩,⟨some 37,none,.append 2 24 (.t 32) (.t 36)⟩,mO 6 37]) .skip)) (.seq (.reg [mO 38 6,mO 39 1,vO 40 (.build [(.int .i64 0),(.str []),(.int .i64 0),(.nils 2),(.int .i64 0)] [(0,1,(cI 2)),(3,1,(.t 38)),(4,1,(.t 39))]),mO 41 8,vO 42 (.bin .add (.t 41) (cI 1)),mO 43 1,vO 44 (.bin .sub (.t 42) (.t 43)),⟨none,none,.store 5 (.t 4) (.t 40)⟩,mO 5 44]) .ret)) (.seq (.reg [mO 46 9,vO 47 (.bin .lss (.t 46) (.c (.int .u8 32))),mO 45 47]) zkd)
def zj4:SC:=.block 2 (.seq (.reg [mO 27 9,vO 28 (.bin .eql (.t 27) (.c (.int .u8 34))),mO 26 28]) zkg)
def zj7:SC:=.seq (.block 1 (.seq (.reg [mO 19 0,mO 20 8,vO 21 (.istr (.t 19) (.t 20)),mO 9 21]) zj4)) zlv
def zly:SC:=.seq (.seq (.reg [mO 13 8,mO 14 0,vO 15 (.len true (.t 14)),vO 16 (.bin .lss (.t 13) (.t 15))]) (.cond (.t 16) .skip (.exit 0))) zj7
noncomputable def zlG (SP:Prg) (x:EO):CO:=fin [(.cell 4 (some 5)),(.t 5)] (thC SP (zK 0 (x)) zlt)
def c_Q43_1:SC:=.seq (.reg [vO 4 (.mov (.c (.bool true)))]) .ret
def b_Q43_1:SC:=.seq (.seq (.reg [mO 11 5,mO 12 0,vO 13 (.len false (.t 12)),vO 14 (.bin .lss (.t 11) (.t 13))]) (.cond (.t 14) .skip (.exit 0))) (.seq (.block 1 (.seq (.dreg [mO 17 0,mO 18 5,vO 19 (.iaddr 2 (.t 17) (.t 18)),vO 20 (.load (some 2) (.t 19)),mO 21 1,mO 22 5,vO 23 (.iaddr 2 (.t 21) (.t 22)),vO 24 (.load (some 2) (.t 23)),vO 25 (.eqs true [.b,.s] (.t 20) (.t 24))] [false,false,false,false,false,false,false,false,true]) (.cond (.t 25) (.seq (.reg [vO 4 (.mov (.c (.bool false)))]) .ret) .skip))) (.reg [mO 15 5,vO 16 (.bin .add (.t 15) (cI 1)),mO 5 16]))
def c_Q43_2:SC:=.seq (.seq (.reg [mO 6 0,vO 7 (.len false (.t 6)),mO 8 1,vO 9 (.len false (.t 8)),vO 10 (.bin .neq (.t 7) (.t 9))]) (.cond (.t 10) (.seq (.reg [vO 4 (.mov (.c (.bool false)))]) .ret) .skip)) (.seq (.seq (.reg [vO 5 (.mov (cI 0))]) (.block 0 (.loop b_Q43_1))) c_Q43_1)
def sc_Q43:zk:=⟨2,26,.seq (.reg [vO 4 (.mov (.c (.bool false)))]) c_Q43_2,[(.t 4)]⟩
noncomputable def zpc (SP:Prg) (x:EO):CO:=fin [(.t 4)] (thC SP (zK 0 (x)) c_Q43_1)
theorem zun:type_of% (aI (ue c_Q43_1.eq_1)<|aI (ue b_Q43_1.eq_1)<|aI (ue c_Q43_2.eq_1)<|sc_Q43.eq_1):=aI (ue c_Q43_1.eq_1)<|aI (ue b_Q43_1.eq_1)<|aI (ue c_Q43_2.eq_1)<|sc_Q43.eq_1
theorem comp_Q43:comp Tryz.prog Tryz.f43=some sc_Q43:=by kernel_rfl
end Go.Proofs.YtfbcnpbhhooapaaGreatDoor.M
namespace Go.Proofs.YtfbcnpbhhooapaaGreatDoor.M
open Go Classical
theorem zv6:SP 137=some (.code sc_Q137):=zb rfl Tryz.func137 comp_Q137
theorem zrg (c:UInt8) (r:Int) (T :
  (((c.toNat:Int)=32) →
  1=r) ∧
 (¬ ((c.toNat:Int)=32) →
  (((c.toNat:Int)=10) →
   1=r) ∧
  (¬ ((c.toNat:Int)=10) →
   (((c.toNat:Int)=95) →
    2=r) ∧
   (¬ ((c.toNat:Int)=95) →
    ((97≤(c.toNat:Int)) →
     (((c.toNat:Int)≤122) →
      2=r) ∧
     (¬ ((c.toNat:Int)≤122) →
      ((48≤(c.toNat:Int)) →
       (((c.toNat:Int)≤57) →
        3=r) ∧
       (¬ ((c.toNat:Int)≤57) →
        (((c.toNat:Int)=34) →
         4=r) ∧
        (¬ ((c.toNat:Int)=34) →
         (((c.toNat:Int)=35) →
          5=r) ∧
         (¬ ((c.toNat:Int)=35) →
          0=r)))) ∧
      (¬ (48≤(c.toNat:Int)) →
       (((c.toNat:Int)=34) →
        4=r) ∧
       (¬ ((c.toNat:Int)=34) →
        (((c.toNat:Int)=35) →
         5=r) ∧
        (¬ ((c.toNat:Int)=35) →
         0=r))))) ∧
    (¬ (97≤(c.toNat:Int)) →
     ((48≤(c.toNat:Int)) →
      (((c.toNat:Int)≤57) →
       3=r) ∧
      (¬ ((c.toNat:Int)≤57) →
       (((c.toNat:Int)=34) →
        4=r) ∧
       (¬ ((c.toNat:Int)=34) →
        (((c.toNat:Int)=35) →
         5=r) ∧
        (¬ ((c.toNat:Int)=35) →
         0=r)))) ∧
     (¬ (48≤(c.toNat:Int)) →
      (((c.toNat:Int)=34) →
       4=r) ∧
      (¬ ((c.toNat:Int)=34) →
       (((c.toNat:Int)=35) →
        5=r) ∧
       (¬ ((c.toNat:Int)=35) →
        0=r)))))))):zet c r:=by
 intro S
 rw[za zv6 _ _ rfl]
 have F:=zwy
 exact rn F T
theorem zvI:SP 151=some (.code sc_Q151):=zb rfl Tryz.func151 comp_Q151
def zeP (s:List UInt8) (classes:List Int) (i1:Int) (r:Int):Prop:=∀ (S:Sto) (e:Nat→PV) (f:Fr),e 0=.str s∧e 1=.list 1 (classes.map eI) false∧e 7=.int .i64 (s.length:Int)∧e 8=.int .i64 i1→zmW SP (E SP (.loop b_Q151_1) ⟨e,f::S⟩)=.ok (.v (.int .i64 r)) S
theorem zfr (s:List UInt8) (classes:List Int) (i1:Int) (r:Int) (T :
  ((i1 < (s.length:Int)) →
  (0≤i1) ∧
  ∃ (b2:UInt8),(s[i1.toNat]?=some b2) ∧
  ∃ (r3:Int),(zet b2 r3) ∧
  ∃ (r4:Bool),(za0 classes r3 r4) ∧
  ((r4=true) →
   (I64 (i1+1)) ∧
   zeP s classes (i1+1) r) ∧
  (¬ (r4=true) →
   i1=r)) ∧
 (¬ (i1 < (s.length:Int)) →
  (s.length:Int)=r)):zeP s classes i1 r:=by
 intro S e f h
 unfold zmW
 rw[zS]
 have F:=zrV
 exact rn (aa h<|F) T
theorem zri (s:List UInt8) (classes:List Int) (r:Int) (T :
  zeP s classes 0 r):zgR s classes r:=by
 intro S
 rw[za zvI _ _ rfl]
 have F:=zrV
 exact rn F T
theorem zvu:SP 135=some (.code sc_Q135):=zb rfl Tryz.func135 comp_Q135
theorem zrS (t:LText) (n:Int) (r:List UInt8) (t':LText) (T :
  (0≤n)∧(n.toNat≤t.left.length) ∧
 (0≤n)∧(n.toNat≤t.left.length) ∧
 (I64 (t.pos+n)) ∧
 (t.left.take (n.toNat))=r∧(LText.mk ((t.left.drop n.toNat).take (t.left.length - n.toNat)) (t.pos+n))=t'):za8 t n r t':=by
 intro S n0 t0 H0
 have hb0:=H0
 obtain⟨w0,hB0⟩:=zf hb0
 have hn0:=zc hB0
 rw[za zvu _ _ rfl]
 have F:=zwt
 obtain⟨p1,p2,p3,p4,p5,rfl,rfl⟩:=T
 exact fi (aa hB0<|aa hn0<|aa p1<|aa p2<|aa p3<|aa p4<|aa p5.wrap<|F)
theorem zvF:SP 134=some (.code sc_Q134):=zb rfl Tryz.func134 comp_Q134
theorem zqr (t:LText) (classes:List Int) (r:List UInt8) (t':LText) (T :
  ∃ (r1:Int),(zgR t.left classes r1) ∧
 ∃ (r2:List UInt8) (y3:LText),(za8 t r1 r2 y3) ∧
 r2=r∧y3=t'):zdR t classes r t':=by
 intro S n0 t0 H0
 have hb0:=H0
 obtain⟨w0,hB0⟩:=zf hb0
 have hn0:=zc hB0
 rw[za zvF _ _ rfl]
 have F:=zwx
 obtain⟨r1,q1,r2,y3,q2,rfl,rfl⟩:=T
 simp only[zgR,lF] at q1
 simp only[za8,lF] at q2
 exact fi (aa hB0<|aa hn0<|aa q1<|aa q2<|F)
theorem zuW:SP 165=some (.code sc_Q165):=zb rfl Tryz.func165 comp_Q165
theorem zry (p:List Part) (p_g0:Nat) (p_z0:Bool) (c:UInt8) (p':List Part) (p'_g0:Nat) (p'_z0:Bool) (T :
  (((p.length:Int)=0) →
  (bigRow (p.length+1) 24) ∧
  (I64 ((p.length:Int)+1)) ∧
  (I64 (((p.length:Int)+1) - 1)) ∧
  (0≤(((p.length:Int)+1) - 1))∧((((p.length:Int)+1) - 1).toNat < p.length+1) ∧
  ∃ (v1:Part),((p++[(Part.mk false [])])[(((p.length:Int)+1) - 1).toNat]?=some v1) ∧
  (v1.Text.length+1≤zaf) ∧
  (0≤(((p.length:Int)+1) - 1))∧((((p.length:Int)+1) - 1).toNat < p.length+1) ∧
  (p_z0=false) ∧
  ((p++[(Part.mk false [])]).set ((((p.length:Int)+1) - 1).toNat) (Part.mk v1.Ref (v1.Text++[c])))=p'∧p_g0=p'_g0∧p_z0=p'_z0) ∧
 (¬ ((p.length:Int)=0) →
  (I64 ((p.length:Int) - 1)) ∧
  (0≤((p.length:Int) - 1))∧(((p.length:Int) - 1).toNat < p.length) ∧
  ∃ (v2:Part),(p[((p.length:Int) - 1).toNat]?=some v2) ∧
  ((v2.Ref=true) →
   (bigRow (p.length+1) 24) ∧
   (I64 ((p.length:Int)+1)) ∧
   (I64 (((p.length:Int)+1) - 1)) ∧
   (0≤(((p.length:Int)+1) - 1))∧((((p.length:Int)+1) - 1).toNat < p.length+1) ∧
   ∃ (v3:Part),((p++[(Part.mk false [])])[(((p.length:Int)+1) - 1).toNat]?=some v3) ∧
   (v3.Text.length+1≤zaf) ∧
   (0≤(((p.length:Int)+1) - 1))∧((((p.length:Int)+1) - 1).toNat < p.length+1) ∧
   (p_z0=false) ∧
   ((p++[(Part.mk false [])]).set ((((p.length:Int)+1) - 1).toNat) (Part.mk v3.Ref (v3.Text++[c])))=p'∧p_g0=p'_g0∧p_z0=p'_z0) ∧
  (¬ (v2.Ref=true) →
   (I64 ((p.length:Int) - 1)) ∧
   (0≤((p.length:Int) - 1))∧(((p.length:Int) - 1).toNat < p.length) ∧
   (v2.Text.length+1≤zaf) ∧
   (0≤((p.length:Int) - 1))∧(((p.length:Int) - 1).toNat < p.length) ∧
   (p_z0=false) ∧
   (p.set (((p.length:Int) - 1).toNat) (Part.mk v2.Ref (v2.Text++[c])))=p'∧p_g0=p'_g0∧p_z0=p'_z0))):zjz p p_g0 p_z0 c p' p'_g0 p'_z0:=by
 intro S n0 t0 H0
 obtain⟨hb0,ha0⟩:=H0
 obtain⟨w0,hB0⟩:=zf hb0
 have hn0:=zc hB0
 rw[za zuW _ _ rfl]
 have F:=zwN
 replace F:=aa ha0<|aa hB0<|aa hn0<|F
 by_cases c1:(p.length:Int)=0
 ·replace T:=T.1 c1
  obtain⟨p2,p3,p4,p5,p6,v1,q7,p8,p9,p10,p11,rfl,rfl,rfl⟩:=T
  simp only[bigRow] at p2
  replace q7:=congrArg (Option.map ePart) q7
  rw[←List.getElem?_map] at q7
  simp only[le,List.map_append,Option.map_some] at q7
  exact fi (aa (eq_true c1)<|aa p2<|aa p3.wrap<|aa p4.wrap<|aa p5<|aa p6<|aa q7<|aa p8<|aa p9<|aa p10<|aa p11<|F)
 replace T:=T.2 c1
 obtain⟨p12,p13,p14,v2,q15,T⟩:=T
 replace F:=aa (eq_false c1)<|aa p12.wrap<|aa p13<|aa p14<|aa q15<|F
 by_cases c16:v2.Ref=true
 ·replace T:=T.1 c16
  obtain⟨p17,p18,p19,p20,p21,v3,q22,p23,p24,p25,p26,rfl,rfl,rfl⟩:=T
  simp only[bigRow] at p17
  replace q22:=congrArg (Option.map ePart) q22
  rw[←List.getElem?_map] at q22
  simp only[le,List.map_append,Option.map_some] at q22
  exact fi (aa c16<|aa p17<|aa p18.wrap<|aa p19.wrap<|aa p20<|aa p21<|aa q22<|aa p23<|aa p24<|aa p25<|aa p26<|F)
 replace T:=T.2 c16
 replace c16:=Bool.eq_false_iff.2 c16
 obtain⟨p27,p28,p29,p30,p31,p32,p33,rfl,rfl,rfl⟩:=T
 exact fi (aa c16<|aa p27.wrap<|aa p28<|aa p29<|aa p30<|aa p31<|aa p32<|aa p33<|F)
theorem zuZ:SP 164=some (.code sc_Q164):=zb rfl Tryz.func164 comp_Q164
theorem zkV (s:List UInt8) (ra:UInt8) (rb:Bool) (T :
  (((s.length:Int) < 2) →
  (0:UInt8)=ra∧false=rb) ∧
 (¬ ((s.length:Int) < 2) →
  ∃ (b1:UInt8),(s[1]?=some b1) ∧
  ∃ (r2:Int),(zda [34,92,36,110] b1 r2) ∧
  ((r2 < 0) →
   (0:UInt8)=ra∧false=rb) ∧
  (¬ (r2 < 0) →
   (0≤r2) ∧
   ∃ (b3:UInt8),([34,92,36,10][r2.toNat]?=some b3) ∧
   b3=ra∧true=rb))):zna s ra rb:=by
 intro S
 rw[za zuZ _ _ rfl]
 have F:=zxu
 exact rn F T
theorem zuI:SP 166=some (.code sc_Q166):=zb rfl Tryz.func166 comp_Q166
theorem zr1 (s:List UInt8) (ra:List UInt8) (rb:Bool) (T :
  (2≤s.length) ∧
 ∃ (r1:List UInt8) (r2:List UInt8) (r3:Bool),(zbe ((s.drop 2).take (s.length - 2)) [125] r1 r2 r3) ∧
 ∃ (r4:List UInt8) (r5:List UInt8) (r6:Bool),(zbe r1 [46] r4 r5 r6) ∧
 ((r3=true) →
  ((r6=true) →
   ∃ (r7:Bool),(zc0 r4 r7) ∧
   ((r7=true) →
    ∃ (r8:Bool),(zc0 r5 r8) ∧
    r1=ra∧r8=rb) ∧
   (¬ (r7=true) →
    r1=ra∧false=rb)) ∧
  (¬ (r6=true) →
   r1=ra∧false=rb)) ∧
 (¬ (r3=true) →
  r1=ra∧false=rb)):zgw s ra rb:=by
 intro S
 rw[za zuI _ _ rfl]
 have F:=zw0
 exact rn F T
theorem zvH:SP 115=some (.code sc_Q115):=zb rfl Tryz.func115 comp_Q115
theorem zse (s:List UInt8) (r:Bool) (T :
  ((s=[]) →
  false=r) ∧
 (¬ (s=[]) →
  (((s.length:Int)≤24) →
   ∃ (b1:UInt8),(s[0]?=some b1) ∧
   ∃ (r2:Int),(zet b1 r2) ∧
   ((r2=2) →
    ∃ (r3:Int),(zgR s [2,3] r3) ∧
    (decide (r3=(s.length:Int)))=r) ∧
   (¬ (r2=2) →
    false=r)) ∧
  (¬ ((s.length:Int)≤24) →
   false=r))):zc0 s r:=by
 intro S
 rw[za zvH _ _ rfl]
 have F:=zwY
 exact rn F T
def zcd (s:List UInt8) (i:Int) (i1:Int) (i2:Int) (s3:List UInt8) (i4:Int) (i5:Int) (l6:List Part) (g7:Nat) (l8:List Part) (l9:List UInt8) (ra:Token) (rb:Int):Prop:=∀ (S:Sto) (e:Nat→PV) (f:Fr),e 0=.str s∧e 1=.int .i64 i∧e 4=.ptr 0 4 0∧e 6=.sl 0 (.slot 6) 0 l8.length l8.length 0 false∧e 7=.sl 0 (.slot 7) 0 l9.length l9.length 0 false∧e 8=.int .i64 i1∧f.box 4=some [.int .i64 i2,.str s3,.int .i64 i4,.sl 0 (.cell 4 3) 0 l6.length l6.length g7 false,.int .i64 i5]∧f.arr (.cell 4 3)=some ⟨2,l6.map ePart,false,g7⟩∧f.arr (.slot 6)=some ⟨2,l8.map ePart,false,0⟩∧f.arr (.slot 7)=some ⟨1,l9.map eB,false,0⟩→zlG SP (E SP (.loop zly) ⟨e,f::S⟩)=.ok (.v (.tup [.agg [.int .i64 ra.Kind,.str ra.Text,.int .i64 ra.Num,.list 2 (ra.Parts.map ePart) false,.int .i64 ra.At],.int .i64 rb])) S
theorem zxl:SP 43=some (.code sc_Q43):=zb rfl Tryz.func43 comp_Q43
def zfJ (a:List Part) (b:List Part) (i1:Int) (r:Bool):Prop:=∀ (S:Sto) (e:Nat→PV) (f:Fr),e 0=.list 2 (a.map ePart) false∧e 1=.list 2 (b.map ePart) false∧e 5=.int .i64 i1→zpc SP (E SP (.loop b_Q43_1) ⟨e,f::S⟩)=.ok (.v (.bool r)) S
theorem zgk (a:List Part) (b:List Part) (i1:Int) (r:Bool) (T :
  ((i1 < (a.length:Int)) →
  (0≤i1) ∧
  ∃ (v2:Part),(a[i1.toNat]?=some v2) ∧
  (0≤i1) ∧
  ∃ (v3:Part),(b[i1.toNat]?=some v3) ∧
  (((v2.Ref=v3.Ref)∧(v2.Text=v3.Text)) →
   (I64 (i1+1)) ∧
   zfJ a b (i1+1) r) ∧
  (¬ ((v2.Ref=v3.Ref)∧(v2.Text=v3.Text)) →
   false=r)) ∧
 (¬ (i1 < (a.length:Int)) →
  true=r)):zfJ a b i1 r:=by
 intro S e f h
 unfold zpc
 rw[zS]
 have F:=zun
 replace F:=aa h<|F
 by_cases c1:i1 < (a.length:Int)
 ·replace T:=T.1 c1
  obtain⟨p2,v2,q3,p4,v3,q5,T⟩:=T
  replace F:=aa (eq_true c1)<|aa p2<|aa q3<|aa p4<|aa q5<|F
  by_cases c6:(v2.Ref=v3.Ref)∧(v2.Text=v3.Text)
  ·replace T:=T.1 c6
   obtain⟨p7,T⟩:=T
   replace F:=aa (eq_true c6.1)<|aa (eq_true c6.2)<|aa p7.wrap<|F
   exact lo F T
  replace T:=T.2 c6
  have c6':(decide (v2.Ref=v3.Ref) && (decide (v2.Text=v3.Text)))=false:=by simp only[←Bool.not_eq_true,Bool.and_eq_true,decide_eq_true_eq];first | exact c6 | simpa using c6
  obtain rfl:=T
  exact fi (aa c6'<|F)
 replace T:=T.2 c1
 obtain rfl:=T
 exact fi (aa (eq_false c1)<|F)
theorem ztG (a:List Part) (b:List Part) (r:Bool) (T :
  (((a.length:Int)=(b.length:Int)) →
  zfJ a b 0 r) ∧
 (¬ ((a.length:Int)=(b.length:Int)) →
  false=r)):zps a b r:=by
 intro S
 rw[za zxl _ _ rfl]
 have F:=zun
 exact rn F T
end Go.Proofs.YtfbcnpbhhooapaaGreatDoor.M
namespace Go.Proofs.YtfbcnpbhhooapaaGreatDoor.M
open Go
def c_Q97_1:SC:=.block 1 (.seq (.reg [mO 17 0,vO 18 (.nchk (.t 17)),vO 19 (.faddr 0 (.t 18)),vO 20 (.faddr 0 (.t 19)),vO 21 (.load none (.t 20)),kO 22 112 [(.t 21),(.c (.str [10]))],mO 16 22,vO 23 (.extract 0 (.t 16)),vO 24 (.extract 1 (.t 16)),vO 25 (.extract 2 (.t 16)),mO 2 23,mO 3 24,mO 4 25]) (.seq (.reg [mO 26 0,vO 27 (.nchk (.t 26)),vO 28 (.faddr 0 (.t 27)),mO 29 2,vO 30 (.len true (.t 29)),kO 31 135 [(.t 28),(.t 30)]]) (.reg [mO 32 0,vO 33 (.nchk (.t 32)),vO 34 (.faddr 0 (.t 33)),⟨some 35,none,.bslice 1 1 [(.int .i64 0)] [(0,(cI 1))]⟩,kO 36 134 [(.t 34),(.t 35)]])))
def b_Q97_1:SC:=.seq (.seq (.reg [mO 10 0,vO 11 (.nchk (.t 10)),vO 12 (.faddr 0 (.t 11)),vO 13 (.faddr 0 (.t 12)),vO 14 (.load none (.t 13)),kO 15 129 [(.t 14),(.c (.str [35]))]]) (.cond (.t 15) .skip (.exit 0))) c_Q97_1
def c_Q97_2:SC:=.block 0 (.loop b_Q97_1)
def sc_Q97:zk:=⟨1,37,.seq (.reg [mO 5 0,vO 6 (.nchk (.t 5)),vO 7 (.faddr 0 (.t 6)),⟨some 8,none,.bslice 1 1 [(.int .i64 0)] [(0,(cI 1))]⟩,kO 9 134 [(.t 7),(.t 8)]]) c_Q97_2,[]⟩
noncomputable def zok (SP:Prg) (x:EO):CO:=fin [] (zK 0 (x))
theorem zuF:type_of% (aI (ue c_Q97_1.eq_1)<|aI (ue b_Q97_1.eq_1)<|aI (ue c_Q97_2.eq_1)<|sc_Q97.eq_1):=aI (ue c_Q97_1.eq_1)<|aI (ue b_Q97_1.eq_1)<|aI (ue c_Q97_2.eq_1)<|sc_Q97.eq_1
theorem comp_Q97:comp Tryz.prog Tryz.f97=some sc_Q97:=by kernel_rfl
def sc_Q138:zk:=⟨1,14,.seq (.reg [⟨some 2,none,.alloc [(.int .i64 0),(.str []),(.int .i64 0),(.nils 2),(.int .i64 0)]⟩,vO 3 (.mov (.c (.bool false)))]) (.seq (.reg [mO 5 0,vO 6 (.nchk (.t 5)),vO 7 (.faddr 0 (.t 6)),⟨some 8,none,.bslice 1 2 [(.int .i64 0)] [(0,(cI 2)),(1,(cI 3))]⟩,kO 9 134 [(.t 7),(.t 8)],mO 4 9]) (.seq (.reg [mO 10 4,vO 11 (.build [(.int .i64 0),(.str []),(.int .i64 0),(.nils 2),(.int .i64 0)] [(0,1,(cI 3)),(1,1,(.t 10))]),mO 12 4,kO 13 115 [(.t 12)],⟨none,none,.store 5 (.t 2) (.t 11)⟩,mO 3 13]) .ret)),[(.cell 2 (some 5)),(.t 3)]⟩
theorem zxd:type_of% (sc_Q138.eq_1):=sc_Q138.eq_1
theorem comp_Q138:comp Tryz.prog Tryz.f138=some sc_Q138:=by kernel_rfl
def c_Q139_1:SC:=.seq (.reg [mO 7 0,vO 8 (.nchk (.t 7)),vO 9 (.faddr 0 (.t 8)),⟨some 10,none,.bslice 1 1 [(.int .i64 0)] [(0,(cI 3))]⟩,kO 11 134 [(.t 9),(.t 10)],mO 4 11]) (.seq (.reg [mO 13 4,kO 14 163 [(.t 13)],mO 12 14,vO 15 (.extract 0 (.t 12)),vO 16 (.extract 1 (.t 12)),mO 5 15,mO 6 16]) (.seq (.reg [mO 17 5,vO 18 (.build [(.int .i64 0),(.str []),(.int .i64 0),(.nils 2),(.int .i64 0)] [(0,1,(cI 1)),(2,1,(.t 17))]),mO 19 6,vO 20 (.isnile false (.t 19)),mO 21 20,gO 22 21 true (.mov (.t 5)),⟨some 23,some (21,true),.call (.c (.func 106 [])) [(.t 22)]⟩,gO 24 21 true (.mov (.t 4)),gO 25 21 true (.bin .eql (.t 23) (.t 24)),vO 26 (.pick (.t 21) (.t 25) (.c (.bool false))),⟨none,none,.store 5 (.t 2) (.t 18)⟩,mO 3 26]) .ret))
def sc_Q139:zk:=⟨1,27,.seq (.reg [⟨some 2,none,.alloc [(.int .i64 0),(.str []),(.int .i64 0),(.nils 2),(.int .i64 0)]⟩,vO 3 (.mov (.c (.bool false)))]) c_Q139_1,[(.cell 2 (some 5)),(.t 3)]⟩
theorem zxi:type_of% (aI (ue c_Q139_1.eq_1)<|sc_Q139.eq_1):=aI (ue c_Q139_1.eq_1)<|sc_Q139.eq_1
theorem comp_Q139:comp Tryz.prog Tryz.f139=some sc_Q139:=by kernel_rfl
def c_Q140_1:SC:=.seq (.reg [vO 98 (.build [(.int .i64 0),(.str []),(.int .i64 0),(.nils 2),(.int .i64 0)] []),⟨none,none,.store 5 (.t 2) (.t 98)⟩,vO 3 (.mov (.c (.bool false)))]) .ret
def c_Q140_2:SC:=.seq (.seq (.reg [mO 83 9,vO 84 (.un .not (.t 83))]) (.cond (.t 84) (.seq (.reg [vO 85 (.build [(.int .i64 0),(.str []),(.int .i64 0),(.nils 2),(.int .i64 0)] []),⟨none,none,.store 5 (.t 2) (.t 85)⟩,vO 3 (.mov (.c (.bool false)))]) .ret) .skip)) (.seq (.reg [vO 86 (.load none (.t 4)),mO 87 8,vO 88 (.build [(.bool false),(.str [])] [(0,1,(.c (.bool true))),(1,1,(.t 87))]),⟨some 89,none,.bslice 2 1 [(.bool false),(.str [])] [(0,(.t 88))]⟩,⟨some 90,none,.append 2 24 (.t 86) (.t 89)⟩,⟨none,none,.store 1 (.t 4) (.t 90)⟩]) (.reg [mO 91 0,vO 92 (.nchk (.t 91)),vO 93 (.faddr 0 (.t 92)),mO 94 8,vO 95 (.len true (.t 94)),vO 96 (.bin .add (cI 3) (.t 95)),kO 97 135 [(.t 93),(.t 96)]]))
def c_Q140_3:SC:=.cond (.t 67) (.seq (.reg [mO 75 0,vO 76 (.nchk (.t 75)),vO 77 (.faddr 0 (.t 76)),vO 78 (.faddr 0 (.t 77)),vO 79 (.load none (.t 78)),kO 80 166 [(.t 79)],mO 74 80,vO 81 (.extract 0 (.t 74)),vO 82 (.extract 1 (.t 74)),mO 8 81,mO 9 82]) c_Q140_2) (.seq (.reg [mO 26 5,kO 27 165 [(.t 4),(.t 26)]]) (.reg [mO 28 0,vO 29 (.nchk (.t 28)),vO 30 (.faddr 0 (.t 29)),kO 31 135 [(.t 30),(cI 1)]]))
def c_Q140_4:SC:=.cond (.t 46) (.seq (.reg [mO 50 0,vO 51 (.nchk (.t 50)),vO 52 (.faddr 0 (.t 51)),vO 53 (.faddr 0 (.t 52)),vO 54 (.load none (.t 53)),kO 55 164 [(.t 54)],mO 49 55,vO 56 (.extract 0 (.t 49)),vO 57 (.extract 1 (.t 49)),mO 6 56,mO 7 57]) (.seq (.seq (.reg [mO 58 7,vO 59 (.un .not (.t 58))]) (.cond (.t 59) (.seq (.reg [vO 60 (.build [(.int .i64 0),(.str []),(.int .i64 0),(.nils 2),(.int .i64 0)] []),⟨none,none,.store 5 (.t 2) (.t 60)⟩,vO 3 (.mov (.c (.bool false)))]) .ret) .skip)) (.seq (.reg [mO 61 6,kO 62 165 [(.t 4),(.t 61)]]) (.reg [mO 63 0,vO 64 (.nchk (.t 63)),vO 65 (.faddr 0 (.t 64)),kO 66 135 [(.t 65),(cI 2)]])))) (.seq (.reg [mO 68 0,vO 69 (.nchk (.t 68)),vO 70 (.faddr 0 (.t 69)),vO 71 (.faddr 0 (.t 70)),vO 72 (.load none (.t 71)),kO 73 129 [(.t 72),(.c (.str [36,123]))],mO 67 73]) c_Q140_3)
def c_Q140_5:SC:=.cond (.t 42) (.seq (.reg [vO 45 (.build [(.int .i64 0),(.str []),(.int .i64 0),(.nils 2),(.int .i64 0)] []),⟨none,none,.store 5 (.t 2) (.t 45)⟩,vO 3 (.mov (.c (.bool false)))]) .ret) (.seq (.reg [mO 47 5,vO 48 (.bin .eql (.t 47) (.c (.int .u8 92))),mO 46 48]) c_Q140_4)
def c_Q140_6:SC:=.cond (.t 32) (.seq (.reg [mO 36 0,vO 37 (.nchk (.t 36)),vO 38 (.faddr 0 (.t 37)),kO 39 135 [(.t 38),(cI 1)]]) (.seq (.reg [vO 40 (.load none (.t 4)),vO 41 (.build [(.int .i64 0),(.str []),(.int .i64 0),(.nils 2),(.int .i64 0)] [(0,1,(cI 2)),(3,1,(.t 40))]),⟨none,none,.store 5 (.t 2) (.t 41)⟩,vO 3 (.mov (.c (.bool true)))]) .ret)) (.seq (.reg [mO 43 5,vO 44 (.bin .lss (.t 43) (.c (.int .u8 32))),mO 42 44]) c_Q140_5)
def c_Q140_7:SC:=.block 2 (.seq (.reg [mO 33 5,kO 34 137 [(.t 33)],vO 35 (.bin .eql (.t 34) (cI 4)),mO 32 35]) c_Q140_6)
def c_Q140_8:SC:=.block 1 (.seq (.reg [mO 20 0,vO 21 (.nchk (.t 20)),vO 22 (.faddr 0 (.t 21)),vO 23 (.faddr 0 (.t 22)),vO 24 (.load none (.t 23)),vO 25 (.istr (.t 24) (cI 0)),mO 5 25]) c_Q140_7)
def b_Q140_1:SC:=.seq (.seq (.reg [mO 14 0,vO 15 (.nchk (.t 14)),vO 16 (.faddr 0 (.t 15)),vO 17 (.faddr 0 (.t 16)),vO 18 (.load none (.t 17)),vO 19 (.bin .neq (.t 18) (.c (.str [])))]) (.cond (.t 19) .skip (.exit 0))) c_Q140_8
def c_Q140_9:SC:=.seq (.block 0 (.loop b_Q140_1)) c_Q140_1
def c_Q140_10:SC:=.seq (.reg [mO 10 0,vO 11 (.nchk (.t 10)),vO 12 (.faddr 0 (.t 11)),kO 13 135 [(.t 12),(cI 1)]]) c_Q140_9
def c_Q140_11:SC:=.seq (.reg [⟨some 4,none,.alloc [(.nils 2)]⟩]) c_Q140_10
def sc_Q140:zk:=⟨1,99,.seq (.reg [⟨some 2,none,.alloc [(.int .i64 0),(.str []),(.int .i64 0),(.nils 2),(.int .i64 0)]⟩,vO 3 (.mov (.c (.bool false)))]) c_Q140_11,[(.cell 2 (some 5)),(.t 3)]⟩
noncomputable def zmj (SP:Prg) (x:EO):CO:=fin [(.cell 2 (some 5)),(.t 3)] (thC SP (zK 0 (x)) c_Q140_1)
theorem zsk:type_of% (aI (ue c_Q140_1.eq_1)<|aI (ue c_Q140_2.eq_1)<|aI (ue c_Q140_3.eq_1)<|aI (ue c_Q140_4.eq_1)<|aI (ue c_Q140_5.eq_1)<|aI (ue c_Q140_6.eq_1)<|aI (ue c_Q140_7.eq_1)<|aI (ue c_Q140_8.eq_1)<|aI (ue b_Q140_1.eq_1)<|aI (ue c_Q140_9.eq_1)<|aI (ue c_Q140_10.eq_1)<|aI (ue c_Q140_11.eq_1)<|sc_Q140.eq_1):=aI (ue c_Q140_1.eq_1)<|aI (ue c_Q140_2.eq_1)<|aI (ue c_Q140_3.eq_1)<|aI (ue c_Q140_4.eq_1)<|aI (ue c_Q140_5.eq_1)<|aI (ue c_Q140_6.eq_1)<|aI (ue c_Q140_7.eq_1)<|aI (ue c_Q140_8.eq_1)<|aI (ue b_Q140_1.eq_1)<|aI (ue c_Q140_9.eq_1)<|aI (ue c_Q140_10.eq_1)<|aI (ue c_Q140_11.eq_1)<|sc_Q140.eq_1
theorem comp_Q140:comp Tryz.prog Tryz.f140=some sc_Q140:=by kernel_rfl
def c_Q136_1:SC:=.seq (.reg [mO 28 0,vO 29 (.nchk (.t 28)),vO 30 (.faddr 0 (.t 29)),mO 31 4,vO 32 (.len true (.t 31)),kO 33 135 [(.t 30),(.t 32)],vO 34 (.build [(.int .i64 0),(.str []),(.int .i64 0),(.nils 2),(.int .i64 0)] [(0,1,(cI 4)),(1,1,(.t 33))]),⟨none,none,.store 5 (.t 2) (.t 34)⟩,vO 3 (.mov (.c (.bool true)))]) .ret
def c_Q136_2:SC:=.seq (.seq (.reg [⟨some 18,none,.bslice 1 6 [(.str [])] [(0,(.c (.str [61,61]))),(1,(.c (.str [33,61]))),(2,(.c (.str [60,61]))),(3,(.c (.str [62,61]))),(4,(.c (.str [38,38]))),(5,(.c (.str [124,124])))]⟩,mO 19 4,kO 20 161 [(.t 18),(.t 19)],vO 21 (.un .not (.t 20))]) (.cond (.t 21) (.seq (.reg [mO 22 4,vO 23 (.sls (.t 22) none (some (cI 1))),mO 4 23]) (.seq (.reg [mO 24 4,kO 25 162 [(.c (.str [123,125,91,93,40,41,61,44,46,43,45,42,47,37,60,62,33,63,58])),(.t 24)],vO 26 (.un .not (.t 25))]) (.cond (.t 26) (.seq (.reg [vO 27 (.build [(.int .i64 0),(.str []),(.int .i64 0),(.nils 2),(.int .i64 0)] []),⟨none,none,.store 5 (.t 2) (.t 27)⟩,vO 3 (.mov (.c (.bool false)))]) .ret) .skip))) .skip)) c_Q136_1
def c_Q136_3:SC:=.seq (.dreg [mO 5 0,vO 6 (.nchk (.t 5)),vO 7 (.faddr 0 (.t 6)),vO 8 (.faddr 0 (.t 7)),vO 9 (.load none (.t 8)),mO 10 0,vO 11 (.nchk (.t 10)),vO 12 (.faddr 0 (.t 11)),vO 13 (.faddr 0 (.t 12)),vO 14 (.load none (.t 13)),vO 15 (.len true (.t 14)),vO 16 (.mm false (cI 2) (.t 15)),vO 17 (.sls (.t 9) none (some (.t 16))),mO 4 17] [false,false,false,false,false,false,false,false,false,false,false,false,true,true]) c_Q136_2
def sc_Q136:zk:=⟨1,35,.seq (.reg [⟨some 2,none,.alloc [(.int .i64 0),(.str []),(.int .i64 0),(.nils 2),(.int .i64 0)]⟩,vO 3 (.mov (.c (.bool false)))]) c_Q136_3,[(.cell 2 (some 5)),(.t 3)]⟩
theorem zxx:type_of% (aI (ue c_Q136_1.eq_1)<|aI (ue c_Q136_2.eq_1)<|aI (ue c_Q136_3.eq_1)<|sc_Q136.eq_1):=aI (ue c_Q136_1.eq_1)<|aI (ue c_Q136_2.eq_1)<|aI (ue c_Q136_3.eq_1)<|sc_Q136.eq_1
theorem comp_Q136:comp Tryz.prog Tryz.f136=some sc_Q136:=by kernel_rfl
def c_Q98_1:SC:=.seq (.reg [mO 34 4,⟨some 35,none,.call (.t 34) []⟩,mO 33 35,vO 36 (.extract 0 (.t 33)),vO 37 (.extract 1 (.t 33)),⟨some 5,none,.alloc [(.int .i64 0),(.str []),(.int .i64 0),(.nils 2),(.int .i64 0)]⟩,⟨none,none,.store 5 (.t 5) (.t 36)⟩,mO 6 37]) (.seq (.reg [mO 38 3,vO 39 (.faddr 4 (.t 5)),⟨none,none,.store 1 (.t 39) (.t 38)⟩]) (.seq (.dreg [mO 40 0,mO 41 0,vO 42 (.nchk (.t 41)),vO 43 (.faddr 2 (.t 42)),vO 44 (.load none (.t 43)),vO 45 (.load (some 5) (.t 5)),⟨some 46,none,.bslice 5 1 [(.int .i64 0),(.str []),(.int .i64 0),(.nils 2),(.int .i64 0)] [(0,(.t 45))]⟩,⟨some 47,none,.append 5 64 (.t 44) (.t 46)⟩,vO 48 (.nchk (.t 40)),vO 49 (.faddr 2 (.t 48)),⟨none,none,.store 1 (.t 49) (.t 47)⟩] [false,false,false,false,false,false,false,true,true,true,true]) (.seq (.reg [mO 50 6,mO 2 50]) .ret)))
def c_Q98_2:SC:=.seq (.seq (.reg [mO 14 0,vO 15 (.nchk (.t 14)),vO 16 (.faddr 0 (.t 15)),vO 17 (.faddr 0 (.t 16)),vO 18 (.load none (.t 17)),vO 19 (.istr (.t 18) (cI 0)),kO 20 137 [(.t 19)]]) (.block 0 (.seq (.reg [vO 22 (.bin .eql (.t 20) (cI 2)),mO 21 22]) (.cond (.t 21) (.reg [mO 23 0,vO 24 (.meth 138 [(.t 23)]),mO 4 24]) (.seq (.reg [vO 26 (.bin .eql (.t 20) (cI 3)),mO 25 26]) (.cond (.t 25) (.reg [mO 27 0,vO 28 (.meth 139 [(.t 27)]),mO 4 28]) (.seq (.reg [vO 30 (.bin .eql (.t 20) (cI 4)),mO 29 30]) (.cond (.t 29) (.reg [mO 31 0,vO 32 (.meth 140 [(.t 31)]),mO 4 32]) .skip)))))))) c_Q98_1
def c_Q98_3:SC:=.seq (.reg [mO 12 0,vO 13 (.meth 136 [(.t 12)]),mO 4 13]) c_Q98_2
def c_Q98_4:SC:=.seq (.reg [mO 7 0,vO 8 (.nchk (.t 7)),vO 9 (.faddr 0 (.t 8)),vO 10 (.faddr 1 (.t 9)),vO 11 (.load none (.t 10)),mO 3 11]) c_Q98_3
def sc_Q98:zk:=⟨1,51,.seq (.reg [vO 2 (.mov (.c (.bool false)))]) c_Q98_4,[(.t 2)]⟩
theorem zyg:type_of% (aI (ue c_Q98_1.eq_1)<|aI (ue c_Q98_2.eq_1)<|aI (ue c_Q98_3.eq_1)<|aI (ue c_Q98_4.eq_1)<|sc_Q98.eq_1):=aI (ue c_Q98_1.eq_1)<|aI (ue c_Q98_2.eq_1)<|aI (ue c_Q98_3.eq_1)<|aI (ue c_Q98_4.eq_1)<|sc_Q98.eq_1
theorem comp_Q98:comp Tryz.prog Tryz.f98=some sc_Q98:=by kernel_rfl
def c_Q60_1:SC:=.seq (.dreg [mO 25 4,vO 26 (.nchk (.t 25)),vO 27 (.faddr 2 (.t 26)),vO 28 (.load none (.t 27)),mO 29 4,vO 30 (.nchk (.t 29)),vO 31 (.faddr 0 (.t 30)),vO 32 (.faddr 1 (.t 31)),vO 33 (.load none (.t 32)),vO 34 (.build [(.int .i64 0),(.str []),(.int .i64 0),(.nils 2),(.int .i64 0)] [(0,1,(cI 0)),(4,1,(.t 33))]),⟨some 35,none,.bslice 5 1 [(.int .i64 0),(.str []),(.int .i64 0),(.nils 2),(.int .i64 0)] [(0,(.t 34))]⟩,⟨some 36,none,.append 5 64 (.t 28) (.t 35)⟩,mO 2 36,vO 3 (.mov (cI 0))] [false,false,false,false,false,false,false,false,false,false,false,true,true,true]) .ret
def b_Q60_1:SC:=.seq (.seq (.reg [mO 14 4,vO 15 (.nchk (.t 14)),vO 16 (.faddr 0 (.t 15)),vO 17 (.faddr 0 (.t 16)),vO 18 (.load none (.t 17)),vO 19 (.bin .neq (.t 18) (.c (.str [])))]) (.cond (.t 19) .skip (.exit 0))) (.seq (.block 1 (.seq (.reg [mO 22 4,kO 23 98 [(.t 22)],vO 24 (.un .not (.t 23))]) (.cond (.t 24) (.seq (.reg [⟨some 2,none,.nilv 5⟩,vO 3 (.mov (cI 5))]) .ret) .skip))) (.reg [mO 20 4,kO 21 97 [(.t 20)]]))
def c_Q60_2:SC:=.seq (.seq (.reg [mO 12 4,kO 13 97 [(.t 12)]]) (.block 0 (.loop b_Q60_1))) c_Q60_1
def c_Q60_3:SC:=.seq (.reg [mO 8 0,vO 9 (.build [(.str []),(.int .i64 0)] [(0,1,(.t 8))]),vO 10 (.build [(.str []),(.int .i64 0),(.nils 5)] [(0,2,(.t 9))]),⟨some 11,none,.box (.t 10)⟩,mO 4 11]) c_Q60_2
def c_Q60_4:SC:=.seq (.seq (.reg [mO 5 0,vO 6 (.len true (.t 5)),vO 7 (.bin .gtr (.t 6) (cI 6000))]) (.cond (.t 7) (.seq (.reg [⟨some 2,none,.nilv 5⟩,vO 3 (.mov (cI 4))]) .ret) .skip)) c_Q60_3
def sc_Q60:zk:=⟨1,37,.seq (.reg [⟨some 2,none,.nilv 5⟩,vO 3 (.mov (cI 0))]) c_Q60_4,[(.t 2),(.t 3)]⟩
noncomputable def zo4 (SP:Prg) (x:EO):CO:=fin [(.t 2),(.t 3)] (thC SP (zK 0 (x)) c_Q60_1)
theorem zuq:type_of% (aI (ue c_Q60_1.eq_1)<|aI (ue b_Q60_1.eq_1)<|aI (ue c_Q60_2.eq_1)<|aI (ue c_Q60_3.eq_1)<|aI (ue c_Q60_4.eq_1)<|sc_Q60.eq_1):=aI (ue c_Q60_1.eq_1)<|aI (ue b_Q60_1.eq_1)<|aI (ue c_Q60_2.eq_1)<|aI (ue c_Q60_3.eq_1)<|aI (ue c_Q60_4.eq_1)<|sc_Q60.eq_1
theorem comp_Q60:comp Tryz.prog Tryz.f60=some sc_Q60:=by kernel_rfl
def sc_slices_Contains_int_int:zk:=⟨2,9,.seq (.reg [vO 4 (.mov (.c (.bool false)))]) (.seq (.reg [mO 5 0,mO 6 1,kO 7 190 [(.t 5),(.t 6)],vO 8 (.bin .geq (.t 7) (cI 0)),mO 4 8]) .ret),[(.t 4)]⟩
theorem zea:type_of% (sc_slices_Contains_int_int.eq_1):=sc_slices_Contains_int_int.eq_1
theorem comp_slices_Contains_int_int:comp Tryz.prog Tryz.f170=some sc_slices_Contains_int_int:=by kernel_rfl
def c_slices_Index_int_int_1:SC:=.seq (.reg [vO 4 (.mov (cI (-1)))]) .ret
def b_slices_Index_int_int_1:SC:=.seq (.reg [vO 9 (.bin .lss (.t 8) (.t 7))]) (.seq (.cond (.t 9) .skip (.exit 0)) (.seq (.block 1 (.seq (.reg [mO 10 8,mO 5 10]) (.seq (.reg [mO 11 1,mO 12 0,mO 13 5,vO 14 (.iaddr 1 (.t 12) (.t 13)),vO 15 (.load none (.t 14)),vO 16 (.bin .eql (.t 11) (.t 15))]) (.cond (.t 16) (.seq (.reg [mO 17 5,mO 4 17]) .ret) .skip)))) (.reg [vO 18 (.bin .add (.t 8) (cI 1)),mO 8 18])))
def sc_slices_Index_int_int:zk:=⟨2,19,.seq (.reg [vO 4 (.mov (cI 0))]) (.seq (.seq (.reg [mO 6 0,vO 7 (.len false (.t 6)),vO 8 (.mov (cI 0))]) (.block 0 (.loop b_slices_Index_int_int_1))) c_slices_Index_int_int_1),[(.t 4)]⟩
noncomputable def zbZ (SP:Prg) (x:EO):CO:=fin [(.t 4)] (thC SP (zK 0 (x)) c_slices_Index_int_int_1)
theorem zcg:type_of% (aI (ue c_slices_Index_int_int_1.eq_1)<|aI (ue b_slices_Index_int_int_1.eq_1)<|sc_slices_Index_int_int.eq_1):=aI (ue c_slices_Index_int_int_1.eq_1)<|aI (ue b_slices_Index_int_int_1.eq_1)<|sc_slices_Index_int_int.eq_1
theorem comp_slices_Index_int_int:comp Tryz.prog Tryz.f190=some sc_slices_Index_int_int:=by kernel_rfl
def sc_slices_Contains_string_string:zk:=⟨2,9,.seq (.reg [vO 4 (.mov (.c (.bool false)))]) (.seq (.reg [mO 5 0,mO 6 1,kO 7 62 [(.t 5),(.t 6)],vO 8 (.bin .geq (.t 7) (cI 0)),mO 4 8]) .ret),[(.t 4)]⟩
theorem zcK:type_of% (sc_slices_Contains_string_string.eq_1):=sc_slices_Contains_string_string.eq_1
theorem comp_slices_Contains_string_string:comp Tryz.prog Tryz.f161=some sc_slices_Contains_string_string:=by kernel_rfl
end Go.Proofs.YtfbcnpbhhooapaaGreatDoor.M
namespace Go.Proofs.YtfbcnpbhhooapaaGreatDoor.M
open Go Classical
theorem zwK:SP 97=some (.code sc_Q97):=zb rfl Tryz.func97 comp_Q97
def zfC (t3:LTokens) (g4:Nat) (z5:Bool) (t':LTokens) (t'_g2:Nat) (t'_z2:Bool):Prop:=∀ (S:Sto) (e:Nat→PV) (f:Fr) (n0 t0:Nat),((getBox S n0 t0).map (List.take 3)=some [.str t3.text.left,.int .i64 t3.text.pos,.sl 0 (.cell t0 2) 0 t3.out.length t3.out.length g4 false]∧getArr S n0 (.cell t0 2)=some ⟨5,t3.out.map eToken,z5,g4⟩)→e 0=.ptr (n0+1) t0 0→zok SP (E SP (.loop b_Q97_1) ⟨e,f::S⟩)=.ok (.v (.tup [])) (setArr (setBox S n0 t0 ([.str t'.text.left,.int .i64 t'.text.pos,.sl 0 (.cell t0 2) 0 t'.out.length t'.out.length t'_g2 false]++((getBox S n0 t0).getD []).drop 3)) n0 (.cell t0 2) ⟨5,t'.out.map eToken,t'_z2,t'_g2⟩)
theorem zcp (t3:LTokens) (g4:Nat) (z5:Bool) (t':LTokens) (t'_g2:Nat) (t'_z2:Bool) (T :
  ∃ (r6:Bool),(zbN t3.text.left [35] r6) ∧
 ((r6=true) →
  ∃ (r7:List UInt8) (r8:List UInt8) (r9:Bool),(zbe t3.text.left [10] r7 r8 r9) ∧
  ∃ (r10:List UInt8) (y11:LText),(za8 t3.text (r7.length:Int) r10 y11) ∧
  ∃ (r12:List UInt8) (y13:LText),(zdR y11 [1] r12 y13) ∧
  zfC (LTokens.mk y13 t3.out) g4 z5 t' t'_g2 t'_z2) ∧
 (¬ (r6=true) →
  t3=t'∧g4=t'_g2∧z5=t'_z2)):zfC t3 g4 z5 t' t'_g2 t'_z2:=by
 intro S e f n0 t0 H0 h
 obtain⟨hb0,ha0⟩:=H0
 obtain⟨w0,hB0⟩:=zf hb0
 have hn0:=zc hB0
 unfold zok
 rw[zS]
 have F:=zuF
 exact rp n0 t0 (aa ha0<|aa hB0<|aa hn0<|aa h<|F) T
theorem ztF (t:LTokens) (t_g2:Nat) (t_z2:Bool) (t':LTokens) (t'_g2:Nat) (t'_z2:Bool) (T :
  ∃ (r1:List UInt8) (y2:LText),(zdR t.text [1] r1 y2) ∧
 zfC (LTokens.mk y2 t.out) t_g2 t_z2 t' t'_g2 t'_z2):zlV t t_g2 t_z2 t' t'_g2 t'_z2:=by
 intro S n0 t0 H0
 obtain⟨hb0,ha0⟩:=H0
 obtain⟨w0,hB0⟩:=zf hb0
 have hn0:=zc hB0
 rw[za zwK _ _ rfl]
 have F:=zuF
 exact rp n0 t0 (aa ha0<|aa hB0<|aa hn0<|F) T
theorem zuO:SP 138=some (.code sc_Q138):=zb rfl Tryz.func138 comp_Q138
theorem zrq (t:LTokens) (t_g2:Nat) (t_z2:Bool) (ra:Token) (rb:Bool) (t':LTokens) (t'_g2:Nat) (t'_z2:Bool) (T :
  ∃ (r1:List UInt8) (y2:LText),(zdR t.text [2,3] r1 y2) ∧
 ∃ (r3:Bool),(zc0 r1 r3) ∧
 (Token.mk 3 r1 0 [] 0)=ra∧r3=rb∧(LTokens.mk y2 t.out)=t'∧t_g2=t'_g2∧t_z2=t'_z2):zjw t t_g2 t_z2 ra rb t' t'_g2 t'_z2:=by
 intro S n0 t0 H0
 obtain⟨hb0,ha0⟩:=H0
 obtain⟨w0,hB0⟩:=zf hb0
 have hn0:=zc hB0
 rw[za zuO _ _ rfl]
 have F:=zxd
 obtain⟨r1,y2,q1,r3,q2,rfl,rfl,rfl,rfl,rfl⟩:=T
 simp only[zdR,lF] at q1
 simp only[zc0,lF] at q2
 exact fi (aa ha0<|aa hB0<|aa hn0<|aa q1<|aa q2<|F)
theorem zwh:SP 139=some (.code sc_Q139):=zb rfl Tryz.func139 comp_Q139
theorem zgC (t:LTokens) (t_g2:Nat) (t_z2:Bool) (ra:Token) (rb:Bool) (t':LTokens) (t'_g2:Nat) (t'_z2:Bool) (T :
  ∃ (r1:List UInt8) (y2:LText),(zdR t.text [3] r1 y2) ∧
 ∃ (r3:Int) (r4:Bool),(zdp r1 r3 r4) ∧
 ((r4=true) →
  (Token.mk 1 [] r3 [] 0)=ra∧false=rb∧(LTokens.mk y2 t.out)=t'∧t_g2=t'_g2∧t_z2=t'_z2) ∧
 (¬ (r4=true) →
  ∃ (r5:List UInt8),(zb7 r3 r5) ∧
  (Token.mk 1 [] r3 [] 0)=ra∧(decide (r5=r1))=rb∧(LTokens.mk y2 t.out)=t'∧t_g2=t'_g2∧t_z2=t'_z2)):zgB t t_g2 t_z2 ra rb t' t'_g2 t'_z2:=by
 intro S n0 t0 H0
 obtain⟨hb0,ha0⟩:=H0
 obtain⟨w0,hB0⟩:=zf hb0
 have hn0:=zc hB0
 rw[za zwh _ _ rfl]
 have F:=zxi
 obtain⟨r1,y2,q1,r3,r4,q2,T⟩:=T
 simp only[zdR,lF] at q1
 simp only[zdp,lF] at q2
 replace F:=aa ha0<|aa hB0<|aa hn0<|aa q1<|aa q2<|F
 by_cases c3:r4=true
 ·replace T:=T.1 c3
  obtain⟨rfl,rfl,rfl,rfl,rfl⟩:=T
  exact fi (aa c3<|F)
 replace T:=T.2 c3
 replace c3:=Bool.eq_false_iff.2 c3
 obtain⟨r5,q4,rfl,rfl,rfl,rfl,rfl⟩:=T
 simp only[zb7,lF] at q4
 exact fi (aa c3<|aa q4<|F)
theorem zuJ:SP 140=some (.code sc_Q140):=zb rfl Tryz.func140 comp_Q140
def zbk (i3:Int) (s4:List UInt8) (i5:Int) (i6:Int) (l7:List zhc) (g8:Nat) (l9:List Part) (g10:Nat) (z11:Bool) (t12:LTokens) (g13:Nat) (z14:Bool) (ra:Token) (rb:Bool) (t':LTokens) (t'_g2:Nat) (t'_z2:Bool):Prop:=∀ (S:Sto) (e:Nat→PV) (f:Fr) (n0 t0:Nat),((getBox S n0 t0).map (List.take 3)=some [.str t12.text.left,.int .i64 t12.text.pos,.sl 0 (.cell t0 2) 0 t12.out.length t12.out.length g13 false]∧getArr S n0 (.cell t0 2)=some ⟨5,t12.out.map eToken,z14,g13⟩)→e 0=.ptr (n0+1) t0 0∧e 2=.ptr 0 2 0∧e 4=.ptr 0 4 0∧f.box 2=some [.int .i64 i3,.str s4,.int .i64 i5,.sl 0 (.cell 2 3) 0 l7.length l7.length g8 false,.int .i64 i6]∧f.box 4=some [.sl 0 (.cell 4 0) 0 l9.length l9.length g10 false]∧f.arr (.cell 2 3)=some ⟨2,l7.map eAttr,false,g8⟩∧f.arr (.cell 4 0)=some ⟨2,l9.map ePart,z11,g10⟩→zmj SP (E SP (.loop b_Q140_1) ⟨e,f::S⟩)=.ok (.v (.tup [.agg [.int .i64 ra.Kind,.str ra.Text,.int .i64 ra.Num,.list 2 (ra.Parts.map ePart) false,.int .i64 ra.At],.bool rb])) (setArr (setBox S n0 t0 ([.str t'.text.left,.int .i64 t'.text.pos,.sl 0 (.cell t0 2) 0 t'.out.length t'.out.length t'_g2 false]++((getBox S n0 t0).getD []).drop 3)) n0 (.cell t0 2) ⟨5,t'.out.map eToken,t'_z2,t'_g2⟩)
theorem zag (i3:Int) (s4:List UInt8) (i5:Int) (i6:Int) (l7:List zhc) (g8:Nat) (l9:List Part) (g10:Nat) (z11:Bool) (t12:LTokens) (g13:Nat) (z14:Bool) (ra:Token) (rb:Bool) (t':LTokens) (t'_g2:Nat) (t'_z2:Bool) (T :
  ((t12.text.left=[]) →
  (Token.mk 0 [] 0 [] 0)=ra∧false=rb∧t12=t'∧g13=t'_g2∧z14=t'_z2) ∧
 (¬ (t12.text.left=[]) →
  ∃ (b15:UInt8),(t12.text.left[0]?=some b15) ∧
  ∃ (r16:Int),(zet b15 r16) ∧
  ((r16=4) →
   ∃ (r17:List UInt8) (y18:LText),(za8 t12.text 1 r17 y18) ∧
   (Token.mk 2 [] 0 l9 0)=ra∧true=rb∧(LTokens.mk y18 t12.out)=t'∧g13=t'_g2∧z14=t'_z2) ∧
  (¬ (r16=4) →
   (((b15.toNat:Int) < 32) →
    (Token.mk 0 [] 0 [] 0)=ra∧false=rb∧t12=t'∧g13=t'_g2∧z14=t'_z2) ∧
   (¬ ((b15.toNat:Int) < 32) →
    (((b15.toNat:Int)=92) →
     ∃ (r19:UInt8) (r20:Bool),(zna t12.text.left r19 r20) ∧
     ((r20=true) →
      ∃ (y21:List Part) (g22:Nat) (z23:Bool),(zjz l9 g10 z11 r19 y21 g22 z23) ∧
      ∃ (r24:List UInt8) (y25:LText),(za8 t12.text 2 r24 y25) ∧
      zbk i3 s4 i5 i6 l7 g8 y21 g22 z23 (LTokens.mk y25 t12.out) g13 z14 ra rb t' t'_g2 t'_z2) ∧
     (¬ (r20=true) →
      (Token.mk 0 [] 0 [] 0)=ra∧false=rb∧t12=t'∧g13=t'_g2∧z14=t'_z2)) ∧
    (¬ ((b15.toNat:Int)=92) →
     ∃ (r26:Bool),(zbN t12.text.left [36,123] r26) ∧
     ((r26=true) →
      ∃ (r27:List UInt8) (r28:Bool),(zgw t12.text.left r27 r28) ∧
      ((r28=true) →
       (bigRow (l9.length+1) 24) ∧
       (I64 (3+(r27.length:Int))) ∧
       ∃ (r29:List UInt8) (y30:LText),(za8 t12.text (3+(r27.length:Int)) r29 y30) ∧
       zbk i3 s4 i5 i6 l7 g8 (l9++[(Part.mk true r27)]) g10 z11 (LTokens.mk y30 t12.out) g13 z14 ra rb t' t'_g2 t'_z2) ∧
      (¬ (r28=true) →
       (Token.mk 0 [] 0 [] 0)=ra∧false=rb∧t12=t'∧g13=t'_g2∧z14=t'_z2)) ∧
     (¬ (r26=true) →
      ∃ (y31:List Part) (g32:Nat) (z33:Bool),(zjz l9 g10 z11 b15 y31 g32 z33) ∧
      ∃ (r34:List UInt8) (y35:LText),(za8 t12.text 1 r34 y35) ∧
      zbk i3 s4 i5 i6 l7 g8 y31 g32 z33 (LTokens.mk y35 t12.out) g13 z14 ra rb t' t'_g2 t'_z2)))))):zbk i3 s4 i5 i6 l7 g8 l9 g10 z11 t12 g13 z14 ra rb t' t'_g2 t'_z2:=by
 intro S e f n0 t0 H0 h
 obtain⟨hb0,ha0⟩:=H0
 obtain⟨w0,hB0⟩:=zf hb0
 have hn0:=zc hB0
 unfold zmj
 rw[zS]
 have F:=zsk
 exact rp n0 t0 (aa ha0<|aa hB0<|aa hn0<|aa h<|F) T
theorem zls (t:LTokens) (t_g2:Nat) (t_z2:Bool) (ra:Token) (rb:Bool) (t':LTokens) (t'_g2:Nat) (t'_z2:Bool) (T :
  ∃ (r1:List UInt8) (y2:LText),(za8 t.text 1 r1 y2) ∧
 zbk 0 [] 0 0 [] 0 [] 0 false (LTokens.mk y2 t.out) t_g2 t_z2 ra rb t' t'_g2 t'_z2):zg0 t t_g2 t_z2 ra rb t' t'_g2 t'_z2:=by
 intro S n0 t0 H0
 obtain⟨hb0,ha0⟩:=H0
 obtain⟨w0,hB0⟩:=zf hb0
 have hn0:=zc hB0
 rw[za zuJ _ _ rfl]
 have F:=zsk
 exact rp n0 t0 (aa ha0<|aa hB0<|aa hn0<|F) T
theorem zwf:SP 136=some (.code sc_Q136):=zb rfl Tryz.func136 comp_Q136
theorem zrA (t:LTokens) (t_g2:Nat) (t_z2:Bool) (ra:Token) (rb:Bool) (t':LTokens) (t'_g2:Nat) (t'_z2:Bool) (T :
  (0≤(if (t.text.left.length:Int) < 2 then (t.text.left.length:Int) else 2))∧((if (t.text.left.length:Int) < 2 then (t.text.left.length:Int) else 2).toNat≤t.text.left.length) ∧
 ∃ (r1:Bool),(zU [[61,61],[33,61],[60,61],[62,61],[38,38],[124,124]] (t.text.left.take ((if (t.text.left.length:Int) < 2 then (t.text.left.length:Int) else 2).toNat)) r1) ∧
 ((r1=true) →
  ∃ (r2:List UInt8) (y3:LText),(za8 t.text (((t.text.left.take ((if (t.text.left.length:Int) < 2 then (t.text.left.length:Int) else 2).toNat)).length:Nat):Int) r2 y3) ∧
  (Token.mk 4 r2 0 [] 0)=ra∧true=rb∧(LTokens.mk y3 t.out)=t'∧t_g2=t'_g2∧t_z2=t'_z2) ∧
 (¬ (r1=true) →
  (1≤(t.text.left.take ((if (t.text.left.length:Int) < 2 then (t.text.left.length:Int) else 2).toNat)).length) ∧
  ∃ (r4:Bool),(zbW [123,125,91,93,40,41,61,44,46,43,45,42,47,37,60,62,33,63,58] ((t.text.left.take ((if (t.text.left.length:Int) < 2 then (t.text.left.length:Int) else 2).toNat)).take (1)) r4) ∧
  ((r4=true) →
   ∃ (r5:List UInt8) (y6:LText),(za8 t.text ((((t.text.left.take ((if (t.text.left.length:Int) < 2 then (t.text.left.length:Int) else 2).toNat)).take (1)).length:Nat):Int) r5 y6) ∧
   (Token.mk 4 r5 0 [] 0)=ra∧true=rb∧(LTokens.mk y6 t.out)=t'∧t_g2=t'_g2∧t_z2=t'_z2) ∧
  (¬ (r4=true) →
   (Token.mk 0 [] 0 [] 0)=ra∧false=rb∧t=t'∧t_g2=t'_g2∧t_z2=t'_z2))):zi0 t t_g2 t_z2 ra rb t' t'_g2 t'_z2:=by
 intro S n0 t0 H0
 obtain⟨hb0,ha0⟩:=H0
 obtain⟨w0,hB0⟩:=zf hb0
 have hn0:=zc hB0
 rw[za zwf _ _ rfl]
 have F:=zxx
 obtain⟨p1,p2,r1,q3,T⟩:=T
 simp only[zU,lF] at q3
 replace F:=aa ha0<|aa hB0<|aa hn0<|aa p1<|aa p2<|aa q3<|F
 by_cases c4:r1=true
 ·replace T:=T.1 c4
  obtain⟨r2,y3,q5,rfl,rfl,rfl,rfl,rfl⟩:=T
  simp only[za8,lF] at q5
  exact fi (aa c4<|aa q5<|F)
 replace T:=T.2 c4
 replace c4:=Bool.eq_false_iff.2 c4
 obtain⟨p6,r4,q7,T⟩:=T
 simp only[zbW,lF] at q7
 replace F:=aa c4<|aa p6<|aa q7<|F
 by_cases c8:r4=true
 ·replace T:=T.1 c8
  obtain⟨r5,y6,q9,rfl,rfl,rfl,rfl,rfl⟩:=T
  simp only[za8,lF] at q9
  exact fi (aa c8<|aa q9<|F)
 replace T:=T.2 c8
 replace c8:=Bool.eq_false_iff.2 c8
 obtain⟨rfl,rfl,rfl,rfl,rfl⟩:=T
 exact fi (aa c8<|F)
theorem zwL:SP 98=some (.code sc_Q98):=zb rfl Tryz.func98 comp_Q98
theorem zb0 (t:LTokens) (t_g2:Nat) (t_z2:Bool) (r:Bool) (t':LTokens) (t'_g2:Nat) (t'_z2:Bool) (T :
  ∃ (b1:UInt8),(t.text.left[0]?=some b1) ∧
 ∃ (r2:Int),(zet b1 r2) ∧
 ((r2=2) →
  ∃ (r3:Token) (r4:Bool) (y5:LTokens) (g6:Nat) (z7:Bool),(zjw t t_g2 t_z2 r3 r4 y5 g6 z7) ∧
  (bigRow (y5.out.length+1) 64) ∧
  r4=r∧(LTokens.mk y5.text (y5.out++[(Token.mk r3.Kind r3.Text r3.Num r3.Parts t.text.pos)]))=t'∧g6=t'_g2∧z7=t'_z2) ∧
 (¬ (r2=2) →
  ((r2=3) →
   ∃ (r8:Token) (r9:Bool) (y10:LTokens) (g11:Nat) (z12:Bool),(zgB t t_g2 t_z2 r8 r9 y10 g11 z12) ∧
   (bigRow (y10.out.length+1) 64) ∧
   r9=r∧(LTokens.mk y10.text (y10.out++[(Token.mk r8.Kind r8.Text r8.Num r8.Parts t.text.pos)]))=t'∧g11=t'_g2∧z12=t'_z2) ∧
  (¬ (r2=3) →
   ((r2=4) →
    ∃ (r13:Token) (r14:Bool) (y15:LTokens) (g16:Nat) (z17:Bool),(zg0 t t_g2 t_z2 r13 r14 y15 g16 z17) ∧
    (bigRow (y15.out.length+1) 64) ∧
    r14=r∧(LTokens.mk y15.text (y15.out++[(Token.mk r13.Kind r13.Text r13.Num r13.Parts t.text.pos)]))=t'∧g16=t'_g2∧z17=t'_z2) ∧
   (¬ (r2=4) →
    ∃ (r18:Token) (r19:Bool) (y20:LTokens) (g21:Nat) (z22:Bool),(zi0 t t_g2 t_z2 r18 r19 y20 g21 z22) ∧
    (bigRow (y20.out.length+1) 64) ∧
    r19=r∧(LTokens.mk y20.text (y20.out++[(Token.mk r18.Kind r18.Text r18.Num r18.Parts t.text.pos)]))=t'∧g21=t'_g2∧z22=t'_z2)))):zlO t t_g2 t_z2 r t' t'_g2 t'_z2:=by
 intro S n0 t0 H0
 obtain⟨hb0,ha0⟩:=H0
 obtain⟨w0,hB0⟩:=zf hb0
 have hn0:=zc hB0
 rw[za zwL _ _ rfl]
 have F:=zyg
 obtain⟨b1,q1,r2,q2,T⟩:=T
 simp only[zet,lF] at q2
 replace F:=aa ha0<|aa hB0<|aa hn0<|aa q1<|aa q2<|F
 by_cases c3:r2=2
 ·replace T:=T.1 c3
  obtain⟨r3,r4,y5,g6,z7,q4,p5,rfl,rfl,rfl,rfl⟩:=T
  simp only[zjw,lF] at q4
  simp only[bigRow] at p5
  exact fi (aa (eq_true c3)<|aa q4<|aa p5<|F)
 replace T:=T.2 c3
 replace F:=aa (eq_false c3)<|F
 by_cases c6:r2=3
 ·replace T:=T.1 c6
  obtain⟨r8,r9,y10,g11,z12,q7,p8,rfl,rfl,rfl,rfl⟩:=T
  simp only[zgB,lF] at q7
  simp only[bigRow] at p8
  exact fi (aa (eq_true c6)<|aa q7<|aa p8<|F)
 replace T:=T.2 c6
 replace F:=aa (eq_false c6)<|F
 by_cases c9:r2=4
 ·replace T:=T.1 c9
  obtain⟨r13,r14,y15,g16,z17,q10,p11,rfl,rfl,rfl,rfl⟩:=T
  simp only[zg0,lF] at q10
  simp only[bigRow] at p11
  exact fi (aa (eq_true c9)<|aa q10<|aa p11<|F)
 replace T:=T.2 c9
 obtain⟨r18,r19,y20,g21,z22,q12,p13,rfl,rfl,rfl,rfl⟩:=T
 simp only[zi0,lF] at q12
 simp only[bigRow] at p13
 exact fi (aa (eq_false c9)<|aa q12<|aa p13<|F)
theorem zxj:SP 60=some (.code sc_Q60):=zb rfl Tryz.func60 comp_Q60
def zga (s4:List UInt8) (i5:Int) (l6:List Token) (g7:Nat) (z8:Bool) (ra:List Token) (rb:Int):Prop:=∀ (S:Sto) (e:Nat→PV) (f:Fr),e 4=.ptr 0 11 0∧f.box 11=some [.str s4,.int .i64 i5,.sl 0 (.cell 11 2) 0 l6.length l6.length g7 false]∧f.arr (.cell 11 2)=some ⟨5,l6.map eToken,z8,g7⟩→zo4 SP (E SP (.loop b_Q60_1) ⟨e,f::S⟩)=.ok (.v (.tup [.list 5 (ra.map eToken) false,.int .i64 rb])) S
theorem zcs (s4:List UInt8) (i5:Int) (l6:List Token) (g7:Nat) (z8:Bool) (ra:List Token) (rb:Int) (T :
  ((s4=[]) →
  (bigRow (l6.length+1) 64) ∧
  (l6++[(Token.mk 0 [] 0 [] i5)])=ra∧0=rb) ∧
 (¬ (s4=[]) →
  ∃ (r9:Bool) (y10:LTokens) (g11:Nat) (z12:Bool),(zlO (LTokens.mk (LText.mk s4 i5) l6) g7 z8 r9 y10 g11 z12) ∧
  ((r9=true) →
   ∃ (y13:LTokens) (g14:Nat) (z15:Bool),(zlV y10 g11 z12 y13 g14 z15) ∧
   zga y13.text.left y13.text.pos y13.out g14 z15 ra rb) ∧
  (¬ (r9=true) →
   []=ra∧5=rb))):zga s4 i5 l6 g7 z8 ra rb:=by
 intro S e f h
 unfold zo4
 rw[zS]
 have F:=zuq
 exact rn (aa h<|F) T
theorem zs0 (s:List UInt8) (ra:List Token) (rb:Int) (T :
  ((6000 < (s.length:Int)) →
  []=ra∧4=rb) ∧
 (¬ (6000 < (s.length:Int)) →
  ∃ (y1:LTokens) (g2:Nat) (z3:Bool),(zlV (LTokens.mk (LText.mk s 0) []) 0 false y1 g2 z3) ∧
  zga y1.text.left y1.text.pos y1.out g2 z3 ra rb)):zcP s ra rb:=by
 intro S
 rw[za zxj _ _ rfl]
 have F:=zuq
 exact rn F T
theorem zdW:SP 170=some (.code sc_slices_Contains_int_int):=zb rfl Tryz.func170 comp_slices_Contains_int_int
theorem zdq (s:List Int) (v:Int) (r:Bool) (T :
  ∃ (r1:Int),(zck s v r1) ∧
 (decide (0≤r1))=r):za0 s v r:=by
 intro S
 rw[za zdW _ _ rfl]
 have F:=zea
 exact rn F T
theorem zeN:SP 190=some (.code sc_slices_Index_int_int):=zb rfl Tryz.func190 comp_slices_Index_int_int
def zav (s:List Int) (v:Int) (i1:Int) (r:Int):Prop:=∀ (S:Sto) (e:Nat→PV) (f:Fr),e 0=.list 1 (s.map eI) false∧e 1=.int .i64 v∧e 7=.int .i64 (s.length:Int)∧e 8=.int .i64 i1→zbZ SP (E SP (.loop b_slices_Index_int_int_1) ⟨e,f::S⟩)=.ok (.v (.int .i64 r)) S
theorem zax (s:List Int) (v:Int) (i1:Int) (r:Int) (T :
  ((i1 < (s.length:Int)) →
  (0≤i1) ∧
  ∃ (v2:Int),(s[i1.toNat]?=some v2) ∧
  ((v=v2) →
   i1=r) ∧
  (¬ (v=v2) →
   (I64 (i1+1)) ∧
   zav s v (i1+1) r)) ∧
 (¬ (i1 < (s.length:Int)) →
  (-1)=r)):zav s v i1 r:=by
 intro S e f h
 unfold zbZ
 rw[zS]
 have F:=zcg
 exact rn (aa h<|F) T
theorem zd9 (s:List Int) (v:Int) (r:Int) (T :
  zav s v 0 r):zck s v r:=by
 intro S
 rw[za zeN _ _ rfl]
 have F:=zcg
 exact rn F T
theorem zcA:SP 161=some (.code sc_slices_Contains_string_string):=zb rfl Tryz.func161 comp_slices_Contains_string_string
theorem zcf (s:List (List UInt8)) (v:List UInt8) (r:Bool) (T :
  ∃ (r1:Int),(zJ s v r1) ∧
 (decide (0≤r1))=r):zU s v r:=by
 intro S
 rw[za zcA _ _ rfl]
 have F:=zcK
 exact rn F T
def zC (c:UInt8):Int :=
 if c.toNat=32∨c.toNat=10 then 1 else if c.toNat=95∨(97≤c.toNat∧c.toNat≤122) then 2
 else if 48≤c.toNat∧c.toNat≤57 then 3 else if c.toNat=34 then 4 else if c.toNat=35 then 5 else 0
theorem zam (c:UInt8):zet c (zC c):=by
 apply zrg
 unfold zC
 repeat' first
  | refine⟨fun h=>?_,fun h=>?_⟩
  | ((repeat' split) <;> omega)
theorem zrM (s:List Int) (v:Int) (hs:s.length < 1000000):∀ (k i:Nat),i+k=s.length→∃ r:Int,zav s v i r∧(0≤r↔v ∈ s.drop i)
 | 0,i,h=>⟨-1,by
   apply zax
   exact⟨fun h=>by omega,fun _=>rfl⟩,by rw[List.drop_eq_nil_of_le (by omega)];simp⟩
 | k+1,i,h=>by
  have hi:i < s.length:=by omega
  have hg:s[((i:Nat):Int).toNat]?=some s[i]:=by rw[Int.toNat_natCast];exact List.getElem?_eq_getElem hi
  have hd:s.drop i=s[i]::s.drop (i+1):=List.drop_eq_getElem_cons hi
  by_cases c:v=s[i]
  ·refine⟨i,?_,?_⟩
   ·apply zax
    exact⟨fun _=>⟨by omega,s[i],hg,fun _=>rfl,fun h=>absurd c h⟩,fun h=>by omega⟩
   rw[hd,←c];simp
  obtain⟨r,h1,h2⟩:=zrM s v hs k (i+1) (by omega)
  refine⟨r,?_,?_⟩
  ·apply zax
   exact⟨fun _=>⟨by omega,s[i],hg,fun h=>absurd h c,fun _=>⟨⟨by omega,by omega⟩,h1⟩⟩,fun h=>by omega⟩
  rw[hd,h2,List.mem_cons];simp[c]
theorem zoa (s:List Int) (v:Int) (hs:s.length < 1000000):za0 s v (decide (v ∈ s)):=by
 apply zdq
 obtain⟨r,h1,h2⟩:=zrM s v hs s.length 0 (by omega)
 refine⟨r,zd9 s v r h1,?_⟩
 rw[List.drop_zero] at h2
 exact decide_eq_decide.2 h2
theorem zrD (s:List (List UInt8)) (v:List UInt8) (hs:s.length < 1000000):∀ (k i:Nat),i+k=s.length→∃ r:Int,zE s v i r∧(0≤r↔v ∈ s.drop i)
 | 0,i,h=>⟨-1,by
   apply zw
   exact⟨fun h=>by omega,fun _=>rfl⟩,by rw[List.drop_eq_nil_of_le (by omega)];simp⟩
 | k+1,i,h=>by
  have hi:i < s.length:=by omega
  have hg:s[((i:Nat):Int).toNat]?=some s[i]:=by rw[Int.toNat_natCast];exact List.getElem?_eq_getElem hi
  have hd:s.drop i=s[i]::s.drop (i+1):=List.drop_eq_getElem_cons hi
  by_cases c:v=s[i]
  ·refine⟨i,?_,?_⟩
   ·apply zw
    exact⟨fun _=>⟨by omega,s[i],hg,fun _=>rfl,fun h=>absurd c h⟩,fun h=>by omega⟩
   rw[hd,←c];simp
  obtain⟨r,h1,h2⟩:=zrD s v hs k (i+1) (by omega)
  refine⟨r,?_,?_⟩
  ·apply zw
   exact⟨fun _=>⟨by omega,s[i],hg,fun h=>absurd h c,fun _=>⟨⟨by omega,by omega⟩,h1⟩⟩,fun h=>by omega⟩
  rw[hd,h2,List.mem_cons];simp[c]
theorem zig (s:List (List UInt8)) (v:List UInt8) (hs:s.length < 1000000):zU s v (decide (v ∈ s)):=by
 apply zcf
 obtain⟨r,h1,h2⟩:=zrD s v hs s.length 0 (by omega)
 refine⟨r,zbb s v r h1,?_⟩
 rw[List.drop_zero] at h2
 exact decide_eq_decide.2 h2
def inC (cl:List Int) (c:UInt8):Bool:=decide (zC c ∈ cl)
def zA (cl:List Int) (s:List UInt8):Nat:=(s.takeWhile (inC cl)).length
theorem zde (cl:List Int):∀ s:List UInt8,zA cl s≤s.length
 | []=>Nat.le_refl _
 | c::s=>by
  unfold zA
  rw[List.takeWhile_cons]
  split
  ·have:=zde cl s;unfold zA at this;simp only[List.length_cons];omega
  simp
theorem zn9 (s:List UInt8) (cl:List Int) (hc:cl.length < 1000000) (hs:s.length≤1000000):∀ (k i:Nat),i+k=s.length→∀ r:Int,r=(i:Int)+zA cl (s.drop i)→zeP s cl i r:=by
 intro k
 induction k with
 | zero =>
  intro i hi r hr
  apply zfr
  rw[List.drop_eq_nil_of_le (by omega)] at hr
  exact⟨fun h=>by omega,fun _=>by rw[hr];simp[zA];omega⟩
 | succ k ih =>
  intro i hi r hr
  have hlt:i < s.length:=by omega
  have hg:s[((i:Nat):Int).toNat]?=some s[i]:=by rw[Int.toNat_natCast];exact List.getElem?_eq_getElem hlt
  have hd:s.drop i=s[i]::s.drop (i+1):=List.drop_eq_getElem_cons hlt
  rw[hd,zA,List.takeWhile_cons] at hr
  apply zfr
  refine⟨fun _=>⟨by omega,s[i],hg,_,zam _,_,zoa cl _ hc,fun h=>?_,fun h=>?_⟩,fun h=>by omega⟩
  ·refine⟨⟨by omega,by omega⟩,ih (i+1) (by omega) r ?_⟩
   have h':inC cl s[i]=true:=h
   rw[hr,if_pos h',zA]
   simp only[List.length_cons]
   omega
  have h':¬ inC cl s[i]=true:=h
  rw[hr,if_neg h']
  simp
theorem zq3 (s:List UInt8) (cl:List Int) (hc:cl.length < 1000000) (hs:s.length≤1000000):zgR s cl (zA cl s):=by
 apply zri
 exact zn9 s cl hc hs s.length 0 (by omega) _ (by simp)
theorem zht (c:UInt8):inC [2,3] c=true↔zC c=2∨zC c=3:=by
 unfold inC
 simp
def zf6 (s:List UInt8):Nat:=match s with
 | []=>0
 | c::_=>if zC c=2 then zA [2,3] s else 0
def zak (s:List UInt8):Bool:=decide (s≠[]∧s.length≤24∧zf6 s=s.length)
theorem zcJ (s:List UInt8) (hs:s.length≤1000000):zc0 s (zak s):=by
 apply zse
 refine⟨fun h=>?_,fun h=>⟨fun h2=>?_,fun h2=>?_⟩⟩
 ·simp[zak,h]
 ·cases s with
  | nil=>exact absurd rfl h
  | cons c t =>
   refine⟨c,rfl,_,zam c,fun h3=>⟨_,zq3 _ _ (by decide) hs,?_⟩,fun h3=>?_⟩
   ·refine decide_eq_decide.2 ?_
    rw[zf6,if_pos h3]
    constructor
    ·intro e;exact⟨by simp,by omega,by omega⟩
    intro e;have:=e.2.2;omega
   refine (decide_eq_false ?_).symm
   rw[zf6,if_neg h3]
   intro e
   have:=e.2.2
   simp at this
 refine (decide_eq_false fun e=>?_).symm
 have:=e.2.1
 omega
theorem znh (b:UInt8):∀ s:List UInt8,Lib.index s [b]=if b ∈ s then ((s.takeWhile (· != b)).length:Int) else -1
 | []=>by simp[Lib.index]
 | c::l=>by
  unfold Lib.index
  rw[znh b l]
  by_cases h:b=c
  ·subst h
   simp[List.takeWhile_cons]
  have h':¬ c=b:=fun e=>h e.symm
  by_cases hm:b ∈ l
  ·simp[List.takeWhile_cons,h,h',hm]
  simp[h,hm]
theorem za4 (p:UInt8→Bool):∀ s:List UInt8,s.take (s.takeWhile p).length=s.takeWhile p
 | []=>rfl
 | c::s=>by
  rw[List.takeWhile_cons]
  split
  ·simp[za4 p s]
  rfl
theorem zau (p:UInt8→Bool):∀ s:List UInt8,s.drop (s.takeWhile p).length=s.dropWhile p
 | []=>rfl
 | c::s=>by
  rw[List.takeWhile_cons,List.dropWhile_cons]
  split
  ·simp[zau p s]
  rfl
theorem ztH (b:UInt8) (s:List UInt8):Lib.cut s [b]=if b ∈ s then (s.takeWhile (· != b),(s.dropWhile (· != b)).drop 1,true) else (s,[],false):=by
 unfold Lib.cut
 rw[znh]
 by_cases h:b ∈ s
 ·simp only[h,if_true]
  rw[if_pos (by omega)]
  simp only[Int.toNat_natCast,List.length_cons,List.length_nil,Nat.zero_add]
  rw[za4,←zau,List.drop_drop]
 simp[h]
theorem zjs (s p:List UInt8) (hs:s.length≤1000000):zbe s p (Lib.cut s p).1 (Lib.cut s p).2.1 (Lib.cut s p).2.2:=fun S=>zbH zkc S (if_pos (by omega))
theorem zbp (s p:List UInt8):zbN s p (Lib.hasPrefix s p):=fun S=>zbH zgc S rfl
theorem zh6 (s p:List UInt8) (hs:s.length≤1000000):zbW s p (Lib.contains s p):=fun S=>zbH zgu S (if_pos (by omega))
def zai (s:List UInt8):Bool:=(Lib.cut s [46]).2.2 && zak (Lib.cut s [46]).1 && zak (Lib.cut s [46]).2.1
def zD (s:List UInt8):List UInt8 × Bool:=((Lib.cut s [125]).1,(Lib.cut s [125]).2.2 && zai (Lib.cut s [125]).1)
theorem ziq (s p:List UInt8):(Lib.cut s p).1.length≤s.length:=by
 unfold Lib.cut
 split
 ·simp;omega
 simp
theorem zmT (s p:List UInt8):(Lib.cut s p).2.1.length≤s.length:=by
 unfold Lib.cut
 split
 ·simp
 simp
theorem zhX (s:List UInt8) (h2:2≤s.length) (hs:s.length≤1000000):zgw s (zD (s.drop 2)).1 (zD (s.drop 2)).2:=by
 apply zr1
 have e:(s.drop 2).take (s.length - 2)=s.drop 2:=List.take_of_length_le (by simp)
 rw[e]
 have l0:(s.drop 2).length≤1000000:=by simp;omega
 generalize s.drop 2=t at l0
 have l1:=ziq t [125]
 have l2:=ziq (Lib.cut t [125]).1 [46]
 have l3:=zmT (Lib.cut t [125]).1 [46]
 refine⟨h2,_,_,_,zjs t [125] l0,_,_,_,zjs _ [46] (by omega),fun h3=>⟨fun h6=>⟨_,zcJ _ (by omega),fun h7=>⟨_,zcJ _ (by omega),rfl,?_⟩,fun h7=>⟨rfl,?_⟩⟩,fun h6=>⟨rfl,?_⟩⟩,fun h3=>⟨rfl,?_⟩⟩
 ·simp[zD,zai,h3,h6,h7]
 ·simp[zD,zai,h7]
 ·simp[zD,zai,h6]
 simp[zD,h3]
theorem zdk (p:UInt8→Bool):∀ (u:List UInt8) (c:UInt8) (v:List UInt8),(∀ x ∈ u,p x=true)→p c=false→(u++c::v).takeWhile p=u
 | [],c,v,_,hc=>by simp[List.takeWhile_cons,hc]
 | x::u,c,v,h,hc=>by
  rw[List.cons_append,List.takeWhile_cons,if_pos (h x (by simp)),zdk p u c v (fun y hy=>h y (by simp[hy])) hc]
theorem zdG (b:UInt8) (u v:List UInt8) (h:b ∉ u):Lib.cut (u++b::v) [b]=(u,v,true):=by
 have h1:(u++b::v).takeWhile (· != b)=u:=zdk _ u b v (fun x hx=>by simp;intro e;exact h (e ▸ hx)) (by simp)
 rw[ztH,if_pos (by simp),←zau,h1]
 simp
theorem zm6 (b:UInt8) (s:List UInt8) (h:b ∉ s):Lib.cut s [b]=(s,[],false):=by rw[ztH,if_neg h]
theorem zdZ (b:UInt8):∀ s:List UInt8,b ∈ s→∃ u v,s=u++b::v∧b ∉ u
 | [],h=>by cases h
 | c::s,h=>by
  by_cases e:b=c
  ·exact⟨[],s,by rw[e];rfl,by simp⟩
  obtain⟨u,v,h1,h2⟩:=zdZ b s (by rcases List.mem_cons.1 h with h | h;exact absurd h e;exact h)
  exact⟨c::u,v,by rw[h1];rfl,by simp[e,h2]⟩
theorem zvk (cl:List Int):∀ (s:List UInt8) (x:UInt8),x ∈ s.take (zA cl s)→inC cl x=true:=fun s x h=>by
 unfold zA at h
 rw[za4] at h
 exact List.all_eq_true.1 List.all_takeWhile x h
theorem zvQ (s:List UInt8) (x:UInt8) (h:x ∈ s.take (zf6 s)):inC [2,3] x=true:=by
 unfold zf6 at h
 split at h
 ·simp at h
 split at h
 ·exact zvk _ _ x h
 simp at h
theorem zcG {s:List UInt8} (h:zak s=true) (x:UInt8) (hx:x ∈ s):inC [2,3] x=true:=by
 obtain⟨_,_,h3⟩:=of_decide_eq_true h
 refine zvQ s x ?_
 rw[h3,List.take_length]
 exact hx
theorem in46:inC [2,3] 46=false:=by
 rw[←Bool.not_eq_true,zht]
 decide
theorem zul:inC [2,3] 125=false:=by
 rw[←Bool.not_eq_true,zht]
 decide
theorem zbX {s:List UInt8} (h:zai s=true):∃ x y,s=x++46::y∧zak x=true∧zak y=true:=by
 unfold zai at h
 by_cases hm:(46:UInt8) ∈ s
 ·obtain⟨u,v,rfl,hu⟩:=zdZ 46 s hm
  rw[zdG 46 u v hu] at h
  simp only[Bool.and_eq_true] at h
  exact⟨u,v,rfl,h.1.2,h.2⟩
 rw[zm6 46 s hm] at h
 cases h
theorem zky {t:List UInt8} (h:(zD t).2=true):∃ x y v,t=x++46::(y++125::v)∧zak x=true∧zak y=true∧(zD t).1=x++46::y:=by
 unfold zD at h ⊢
 by_cases hm:(125:UInt8) ∈ t
 ·obtain⟨u,v,rfl,hu⟩:=zdZ 125 t hm
  rw[zdG 125 u v hu] at h ⊢
  obtain⟨x,y,rfl,hx,hy⟩:=zbX (by simpa using h)
  exact⟨x,y,v,by simp,hx,hy,rfl⟩
 rw[zm6 125 t hm] at h
 cases h
theorem znS (b:UInt8) (x w:List UInt8):(x++b::w).drop (x.length+1)=w:=by rw[List.drop_append];simp
theorem ztX {s:List UInt8} (h:zak s=true):0 < s.length:=List.length_pos_iff.2 (of_decide_eq_true h).1
def zkn:List Int:=[123,125,91,93,40,41,61,44,46,43,45,42,47,37,60,62,33,63,58]
def zce:List (List UInt8):=[[61,61],[33,61],[60,61],[62,61],[38,38],[124,124]]
def zbg (a:UInt8):List UInt8:=if ((a.toNat:Nat):Int) ∈ zkn then [a] else []
def zb6 (a b:UInt8):List UInt8:=if [a,b] ∈ zce then [a,b] else zbg a
def zp:List UInt8→List UInt8
 | []=>[]
 | [a]=>zbg a
 | a::b::_=>zb6 a b
def TI (t:LText):Prop:=t.left.length≤6000∧0≤t.pos∧t.pos+(t.left.length:Nat)≤6000
def zt (t:LText) (n:Nat):LText:=⟨t.left.drop n,t.pos+n⟩
theorem TI.take {t:LText} (h:TI t) {n:Nat} (hn:n≤t.left.length):TI (zt t n):=by
 obtain⟨h1,h2,h3⟩:=h
 refine⟨?_,?_,?_⟩ <;> simp only[zt,List.length_drop] <;> omega
theorem zb4 {t:LText} (h:TI t) {n:Nat} (hn:n≤t.left.length):za8 t n (t.left.take n) (zt t n):=by
 apply zrS
 obtain⟨h1,h2,h3⟩:=h
 rw[Int.toNat_natCast]
 refine⟨by omega,hn,by omega,hn,⟨by omega,by omega⟩,rfl,?_⟩
 rw[List.take_of_length_le (by simp)]
 rfl
theorem ziZ {t:LText} (h:TI t) (cl:List Int) (hc:cl.length < 1000000):zdR t cl (t.left.takeWhile (inC cl)) (zt t (zA cl t.left)):=by
 apply zqr
 have h1:=h.1
 refine⟨_,zq3 t.left cl hc (by omega),_,_,zb4 h (zde cl t.left),?_,rfl⟩
 exact za4 _ _
theorem zxA (t:LTokens) (g:Nat) (z:Bool) (h:TI t.text):zjw t g z (Token.mk 3 (t.text.left.takeWhile (inC [2,3])) 0 [] 0) (zak (t.text.left.takeWhile (inC [2,3]))) (LTokens.mk (zt t.text (zA [2,3] t.text.left)) t.out) g z:=by
 apply zrq
 have h1:=h.1
 have h2:=zde [2,3] t.text.left
 exact⟨_,_,ziZ h [2,3] (by decide),_,zcJ _ (by unfold zA at h2;omega),rfl,rfl,rfl,rfl,rfl⟩
theorem zf5 (a:UInt8):Lib.contains [123,125,91,93,40,41,61,44,46,43,45,42,47,37,60,62,33,63,58] [a]=decide (((a.toNat:Nat):Int) ∈ zkn):=by
 unfold Lib.contains
 rw[znh]
 refine decide_eq_decide.2 ?_
 have e:a ∈ ([123,125,91,93,40,41,61,44,46,43,45,42,47,37,60,62,33,63,58]:List UInt8)↔((a.toNat:Nat):Int) ∈ zkn:=by
  simp only[zkn,List.mem_cons,List.not_mem_nil,or_false,←UInt8.toNat_inj,UInt8.reduceToNat]
  omega
 rw[←e]
 split
 ·rename_i h;simp only[h,iff_true];omega
 rename_i h;simp only[h,iff_false];omega
theorem zxq (t:LTokens) (g:Nat) (z:Bool) (h:TI t.text) (hne:t.text.left≠[]):zi0 t g z (if zp t.text.left=[] then Token.mk 0 [] 0 [] 0 else Token.mk 4 (zp t.text.left) 0 [] 0) (decide (zp t.text.left≠[])) (if zp t.text.left=[] then t else LTokens.mk (zt t.text (zp t.text.left).length) t.out) g z:=by
 apply zrA
 obtain⟨⟨left,pos⟩,out⟩:=t
 have h1:=h.1
 simp only at h1 hne ⊢
 match left,hne,h1,h with
 | [a],hne,h1,h =>
  have hn:¬ [a] ∈ zce:=by unfold zce;simp
  have e0:(if (([a].length:Nat):Int) < 2 then (([a].length:Nat):Int) else 2).toNat=1:=by simp
  rw[e0]
  simp only[List.take_succ_cons,List.take_zero,List.length_cons,List.length_nil]
  refine⟨by simp,by omega,_,zig zce [a] (by decide),fun hq=>absurd (of_decide_eq_true hq) hn,fun _=>⟨by omega,_,zh6 _ [a] (by simp),fun hq=>?_,fun hq=>?_⟩⟩
  ·rw[zf5] at hq
   have hq:=of_decide_eq_true hq
   have hs:zp [a]=[a]:=by simp[zp,zbg,hq]
   rw[hs]
   exact⟨_,_,zb4 h (n:=1) (by simp),by simp⟩
  rw[zf5] at hq
  have hq:¬ ((a.toNat:Nat):Int) ∈ zkn:=fun e=>hq (decide_eq_true e)
  have hs:zp [a]=[]:=by simp[zp,zbg,hq]
  rw[hs]
  simp
 | a::b::u,hne,h1,h =>
  have e0:(if (((a::b::u).length:Nat):Int) < 2 then (((a::b::u).length:Nat):Int) else 2)=2:=by
   rw[if_neg];simp only[List.length_cons];omega
  have e00:(2:Int).toNat=2:=rfl
  rw[e0,e00]
  simp only[List.take_succ_cons,List.take_zero,List.length_cons,List.length_nil]
  refine⟨by simp,by omega,_,zig zce [a,b] (by decide),fun hq=>?_,fun hn=>⟨by omega,_,zh6 _ [a] (by simp),fun hq=>?_,fun hq=>?_⟩⟩
  ·have hq:=of_decide_eq_true hq
   have hs:zp (a::b::u)=[a,b]:=by simp[zp,zb6,hq]
   rw[hs]
   exact⟨_,_,zb4 h (n:=2) (by simp),by simp⟩
  ·have hn:¬ [a,b] ∈ zce:=fun e=>hn (decide_eq_true e)
   rw[zf5] at hq
   have hq:=of_decide_eq_true hq
   have hs:zp (a::b::u)=[a]:=by simp[zp,zb6,zbg,hn,hq]
   rw[hs]
   exact⟨_,_,zb4 h (n:=1) (by simp),by simp⟩
  have hn:¬ [a,b] ∈ zce:=fun e=>hn (decide_eq_true e)
  rw[zf5] at hq
  have hq:¬ ((a.toNat:Nat):Int) ∈ zkn:=fun e=>hq (decide_eq_true e)
  have hs:zp (a::b::u)=[]:=by simp[zp,zb6,zbg,hn,hq]
  rw[hs]
  simp
def zes (x:UInt8):Option UInt8:=if x=34∨x=92∨x=36 then some x else if x=110 then some 10 else none
theorem znV (s:List UInt8) (c:UInt8):zda s c (Lib.indexByte s c):=fun S=>zbH zfM S (by simp[zhf])
theorem zlp (y x:UInt8) (u:List UInt8):zna (y::x::u) ((zes x).getD 0) (zes x).isSome:=by
 apply zkV
 refine⟨fun h=>absurd h (by simp;omega),fun _=>⟨x,rfl,_,znV _ x,?_⟩⟩
 unfold zes
 by_cases h1:x=34
 ·subst h1
  exact⟨fun h=>absurd h (by decide),fun _=>⟨by decide,34,rfl,rfl,rfl⟩⟩
 by_cases h2:x=92
 ·subst h2
  exact⟨fun h=>absurd h (by decide),fun _=>⟨by decide,92,rfl,rfl,rfl⟩⟩
 by_cases h3:x=36
 ·subst h3
  exact⟨fun h=>absurd h (by decide),fun _=>⟨by decide,36,rfl,rfl,rfl⟩⟩
 by_cases h4:x=110
 ·subst h4
  exact⟨fun h=>absurd h (by decide),fun _=>⟨by decide,10,rfl,rfl,rfl⟩⟩
 have e:Lib.indexByte [34,92,36,110] x=-1:=by
  have:=Lib.indexByte_ge [34,92,36,110] x
  simp[Lib.indexByte,Ne.symm h1,Ne.symm h2,Ne.symm h3,Ne.symm h4]
 rw[e]
 simp[h1,h2,h3,h4]
def zG (l:List Part) (b:List UInt8):List Part:=l++(if b=[] then [] else [Part.mk false b])
def okP (l:List Part):Prop:=l=[]∨∃ l0 q,l=l0++[Part.mk true q]
theorem ziC {α:Type} (l:List α) (x y:α):(l++[x]).set l.length y=l++[y]:=by simp
theorem zpe (l:List Part) (b:List UInt8) (c:UInt8) (g:Nat) (hl:okP l) (h1:l.length≤10000) (h2:b.length≤10000):zjz (zG l b) g false c (zG l (b++[c])) g false:=by
 apply zry
 have hb:b++[c]≠[]:=by simp
 by_cases e:b=[]
 ·subst e
  have e1:zG l []=l:=by simp[zG]
  have e2:zG l ([]++[c])=l++[Part.mk false [c]]:=by simp[zG]
  have e3:(((l.length:Nat):Int)+1 - 1).toNat=l.length:=by omega
  have big:bigRow (l.length+1) 24:=⟨by omega,by omega,by decide⟩
  rw[e1,e2,e3]
  refine⟨fun h=>⟨big,⟨by omega,by omega⟩,⟨by omega,by omega⟩,by omega,by omega,Part.mk false [],by simp,by simp[zaf],by omega,by omega,rfl,?_,rfl,rfl⟩,fun h=>?_⟩
  ·rw[ziC];rfl
  rcases hl with rfl | ⟨l0,q,rfl⟩
  ·exact absurd rfl h
  have e4:((((l0++[Part.mk true q]).length:Nat):Int) - 1).toNat=l0.length:=by simp
  have hlen:(l0++[Part.mk true q]).length=l0.length+1:=by simp
  rw[e4]
  refine⟨⟨by omega,by omega⟩,by omega,by omega,Part.mk true q,by simp,fun _=>⟨big,⟨by omega,by omega⟩,⟨by omega,by omega⟩,by omega,by omega,Part.mk false [],by simp,by simp[zaf],by omega,by omega,rfl,?_,rfl,rfl⟩,fun h=>absurd rfl h⟩
  rw[ziC];rfl
 have e1:zG l b=l++[Part.mk false b]:=by simp[zG,e]
 have e2:zG l (b++[c])=l++[Part.mk false (b++[c])]:=by simp[zG]
 have hlen:(l++[Part.mk false b]).length=l.length+1:=by simp
 have e3:((((l++[Part.mk false b]).length:Nat):Int) - 1).toNat=l.length:=by omega
 rw[e1,e2]
 refine⟨fun h=>by omega,fun h=>?_⟩
 rw[e3]
 refine⟨⟨by omega,by omega⟩,by omega,by omega,Part.mk false b,by simp,fun h=>by simp at h,fun _=>⟨⟨by omega,by omega⟩,by omega,by omega,by simp only[zaf];omega,by omega,by omega,rfl,?_,rfl,rfl⟩⟩
 rw[ziC]
inductive Qx:List UInt8→List Part→List UInt8→Option (List Part × Nat)→Prop
 | nil (l b):Qx [] l b none
 | shut (t l b):Qx (34::t) l b (some (zG l b,1))
 | low (c t l b) (h1:c≠34) (h2:c.toNat < 32):Qx (c::t) l b none
 | esc (x y t l b r) (h1:zes x=some y) (h:Qx t l (b++[y]) r):Qx (92::x::t) l b (r.map fun q=>(q.1,q.2+2))
 | esc0 (l b):Qx [92] l b none
 | escbad (x t l b) (h1:zes x=none):Qx (92::x::t) l b none
 | ref (t l b r) (h1:(zD t).2=true) (h:Qx (t.drop ((zD t).1.length+1)) (zG l b++[Part.mk true (zD t).1]) [] r):Qx (36::123::t) l b (r.map fun q=>(q.1,q.2+(3+(zD t).1.length)))
 | refbad (t l b) (h1:(zD t).2=false):Qx (36::123::t) l b none
 | plain (c t l b r) (h1:c≠34) (h2:¬ c.toNat < 32) (h3:c≠92) (h4:c=36→t.head?≠some 123) (h:Qx t l (b++[c]) r):Qx (c::t) l b (r.map fun q=>(q.1,q.2+1))
theorem ziz {t:List UInt8} (h:(zD t).2=true):(zD t).1.length+1≤t.length:=by
 obtain⟨x,y,v,e,_,_,e2⟩:=zky h
 rw[e2,e]
 simp
 omega
theorem ze7 (c:UInt8):zC c=4↔c=34:=by
 have e:c=34↔c.toNat=34:=by rw[←UInt8.toNat_inj];rfl
 rw[e]
 unfold zC
 repeat' split
 all_goals (first | omega | (constructor <;> intro h <;> first | omega | exact absurd h (by decide)))
theorem zcj (t:LText) (a b:Nat):zt (zt t a) b=zt t (a+b):=by
 unfold zt
 simp only[LText.mk.injEq,List.drop_drop]
 exact⟨trivial,by omega⟩
theorem zbC {t:LText} {c:UInt8} {u:List UInt8} (h:t.left=c::u):¬ t.left=[]∧t.left[0]?=some c:=by rw[h];simp
def QOut (gp:Nat) (lt:LTokens) (g:Nat) (z:Bool) (l:List Part) (b:List UInt8):Option (List Part × Nat)→Prop
 | none=>∃ t':LTokens,t'.out=lt.out∧zbk 0 [] 0 0 [] 0 (zG l b) gp false lt g z (Token.mk 0 [] 0 [] 0) false t' g z
 | some (ps,n)=>n≤lt.text.left.length∧zbk 0 [] 0 0 [] 0 (zG l b) gp false lt g z (Token.mk 2 [] 0 ps 0) true (LTokens.mk (zt lt.text n) lt.out) g z
theorem zqB (l:List Part) (b:List UInt8):(zG l b).length≤l.length+1:=by
 unfold zG
 split <;> simp
theorem zrd (l:List Part) (q:List UInt8):zG (l++[Part.mk true q]) []=l++[Part.mk true q]:=by simp[zG]
theorem QOut.next {gp:Nat} {lt:LTokens} {g:Nat} {z:Bool} {l:List Part} {b:List UInt8} {l2:List Part} {b2:List UInt8} {m:Nat} (hm:m≤lt.text.left.length)
  (step:∀ ra rb t' , zbk 0 [] 0 0 [] 0 (zG l2 b2) gp false (LTokens.mk (zt lt.text m) lt.out) g z ra rb t' g z→zbk 0 [] 0 0 [] 0 (zG l b) gp false lt g z ra rb t' g z) {r:Option (List Part × Nat)}
  (h:QOut gp (LTokens.mk (zt lt.text m) lt.out) g z l2 b2 r):QOut gp lt g z l b (r.map fun q=>(q.1,q.2+m)):=by
 cases r with
 | none=>obtain⟨t',ho,h⟩:=h;exact⟨t',ho,step _ _ _ h⟩
 | some q =>
  obtain⟨ps,n⟩:=q
  obtain⟨h1,h2⟩:=h
  simp only[zt,List.length_drop] at h1
  refine⟨by omega,?_⟩
  have:=step _ _ _ h2
  simp only[zcj] at this
  rw[Nat.add_comm] at this
  exact this
theorem zlx {t:List UInt8} {l:List Part} {b:List UInt8} {r:Option (List Part × Nat)} (h:Qx t l b r):∀ (gp:Nat) (lt:LTokens) (g:Nat) (z:Bool),lt.text.left=t→TI lt.text→okP l→l.length+t.length≤7000→b.length+t.length≤7000→QOut gp lt g z l b r:=by
 induction h with
 | nil l b =>
  intro gp lt g z e hT hl h1 h2
  refine⟨lt,rfl,?_⟩
  apply zag
  exact⟨fun _=>⟨rfl,rfl,rfl,rfl,rfl⟩,fun h=>absurd e h⟩
 | shut t l b =>
  intro gp lt g z e hT hl h1 h2
  obtain⟨e1,e2⟩:=zbC e
  have hlen:1≤lt.text.left.length:=by rw[e];simp
  refine⟨hlen,?_⟩
  apply zag
  exact⟨fun h=>absurd h e1,fun _=>⟨34,e2,_,zam 34,fun _=>⟨_,_,zb4 hT hlen,rfl,rfl,rfl,rfl,rfl⟩,fun h=>absurd ((ze7 34).2 rfl) h⟩⟩
 | low c t l b c1 c2 =>
  intro gp lt g z e hT hl h1 h2
  obtain⟨e1,e2⟩:=zbC e
  refine⟨lt,rfl,?_⟩
  apply zag
  exact⟨fun h=>absurd h e1,fun _=>⟨c,e2,_,zam c,fun h=>absurd ((ze7 c).1 h) c1,fun _=>⟨fun _=>⟨rfl,rfl,rfl,rfl,rfl⟩,fun h=>absurd (by omega) h⟩⟩⟩
 | esc x y t l b r hx _ ih =>
  intro gp lt g z e hT hl h1 h2
  obtain⟨e1,e2⟩:=zbC e
  simp only[List.length_cons] at h1 h2
  have hlen:2≤lt.text.left.length:=by rw[e];simp
  refine QOut.next (m:=2) hlen (fun ra rb t' hA=>?_) (ih gp _ g z (by simp only[zt,e];rfl) (hT.take hlen) hl (by omega) (by simp;omega))
  apply zag
  refine⟨fun h=>absurd h e1,fun _=>⟨92,e2,_,zam 92,fun h=>absurd ((ze7 92).1 h) (by decide),fun _=>⟨fun h=>absurd h (by decide),fun _=>⟨fun _=>?_,fun h=>absurd (by decide) h⟩⟩⟩⟩
  rw[e]
  refine⟨_,_,zlp 92 x t,fun _=>⟨_,_,_,?_,_,_,zb4 hT hlen,hA⟩,fun h=>absurd (by rw[hx];rfl) h⟩
  rw[hx]
  exact zpe l b y gp hl (by omega) (by omega)
 | esc0 l b =>
  intro gp lt g z e hT hl h1 h2
  obtain⟨e1,e2⟩:=zbC e
  refine⟨lt,rfl,?_⟩
  apply zag
  refine⟨fun h=>absurd h e1,fun _=>⟨92,e2,_,zam 92,fun h=>absurd ((ze7 92).1 h) (by decide),fun _=>⟨fun h=>absurd h (by decide),fun _=>⟨fun _=>?_,fun h=>absurd (by decide) h⟩⟩⟩⟩
  rw[e]
  refine⟨0,false,?_,fun h=>(by cases h),fun _=>⟨rfl,rfl,rfl,rfl,rfl⟩⟩
  apply zkV
  exact⟨fun _=>⟨rfl,rfl⟩,fun h=>absurd (by decide) h⟩
 | escbad x t l b hx =>
  intro gp lt g z e hT hl h1 h2
  obtain⟨e1,e2⟩:=zbC e
  refine⟨lt,rfl,?_⟩
  apply zag
  refine⟨fun h=>absurd h e1,fun _=>⟨92,e2,_,zam 92,fun h=>absurd ((ze7 92).1 h) (by decide),fun _=>⟨fun h=>absurd h (by decide),fun _=>⟨fun _=>?_,fun h=>absurd (by decide) h⟩⟩⟩⟩
  rw[e]
  exact⟨_,_,zlp 92 x t,fun h=>(by rw[hx] at h;cases h),fun _=>⟨rfl,rfl,rfl,rfl,rfl⟩⟩
 | ref t l b r hr _ ih =>
  intro gp lt g z e hT hl h1 h2
  obtain⟨e1,e2⟩:=zbC e
  simp only[List.length_cons] at h1 h2
  have hrl:=ziz hr
  have hj:=zqB l b
  have hlen:3+(zD t).1.length≤lt.text.left.length:=by rw[e];simp only[List.length_cons];omega
  have hT1:=hT.1
  refine QOut.next (m:=3+(zD t).1.length) hlen (fun ra rb t' hA=>?_) (ih gp _ g z ?_ (hT.take hlen) (.inr ⟨_,_,rfl⟩) ?_ ?_)
  ·apply zag
   have hR:zgw lt.text.left (zD t).1 (zD t).2:=by
    have:=zhX lt.text.left (by omega) (by omega)
    rw[e] at this ⊢
    exact this
   have hTake:za8 lt.text (3+(((zD t).1.length:Nat):Int)) (lt.text.left.take (3+(zD t).1.length)) (zt lt.text (3+(zD t).1.length)):=by
    have:=zb4 hT hlen
    rw[Int.natCast_add] at this
    exact this
   rw[zrd] at hA
   exact⟨fun h=>absurd h e1,fun _=>⟨36,e2,_,zam 36,fun h=>absurd ((ze7 36).1 h) (by decide),fun _=>⟨fun h=>absurd h (by decide),fun _=>⟨fun h=>absurd h (by decide),fun _=>⟨_,zbp _ _,fun _=>⟨_,_,hR,fun _=>⟨⟨by omega,by omega,by decide⟩,⟨by omega,by omega⟩,_,_,hTake,hA⟩,fun h=>absurd hr h⟩,fun h=>absurd (by rw[e];simp[Lib.hasPrefix]) h⟩⟩⟩⟩⟩
  ·simp only[zt,e]
   rw[show 3+(zD t).1.length=((zD t).1.length+1)+1+1 by omega]
   rfl
  ·simp;omega
  simp;omega
 | refbad t l b hr =>
  intro gp lt g z e hT hl h1 h2
  obtain⟨e1,e2⟩:=zbC e
  have hT1:=hT.1
  refine⟨lt,rfl,?_⟩
  apply zag
  have hR:zgw lt.text.left (zD t).1 (zD t).2:=by
   have:=zhX lt.text.left (by rw[e];simp) (by omega)
   rw[e] at this ⊢
   exact this
  exact⟨fun h=>absurd h e1,fun _=>⟨36,e2,_,zam 36,fun h=>absurd ((ze7 36).1 h) (by decide),fun _=>⟨fun h=>absurd h (by decide),fun _=>⟨fun h=>absurd h (by decide),fun _=>⟨_,zbp _ _,fun _=>⟨_,_,hR,fun h=>(by rw[hr] at h;cases h),fun _=>⟨rfl,rfl,rfl,rfl,rfl⟩⟩,fun h=>absurd (by rw[e];simp[Lib.hasPrefix]) h⟩⟩⟩⟩⟩
 | plain c t l b r c1 c2 c3 c4 _ ih =>
  intro gp lt g z e hT hl h1 h2
  obtain⟨e1,e2⟩:=zbC e
  simp only[List.length_cons] at h1 h2
  have hlen:1≤lt.text.left.length:=by rw[e];simp
  have hp:¬ Lib.hasPrefix lt.text.left [36,123]=true:=by
   rw[e]
   unfold Lib.hasPrefix
   intro h
   cases t with
   | nil=>simp at h
   | cons x t =>
    simp at h
    exact c4 h.1.symm (by rw[←h.2];rfl)
  have hc3:¬ ((c.toNat:Nat):Int)=92:=fun h=>c3 (by apply UInt8.toNat_inj.1;exact Int.ofNat.inj h)
  refine QOut.next (m:=1) hlen (fun ra rb t' hA=>?_) (ih gp _ g z (by simp only[zt,e];rfl) (hT.take hlen) hl (by omega) (by simp;omega))
  apply zag
  exact⟨fun h=>absurd h e1,fun _=>⟨c,e2,_,zam c,fun h=>absurd ((ze7 c).1 h) c1,fun _=>⟨fun h=>absurd h (by omega),fun _=>⟨fun h=>absurd h hc3,fun _=>⟨_,zbp _ _,fun h=>absurd h hp,fun _=>⟨_,_,_,zpe l b c gp hl (by omega) (by omega),_,_,zb4 hT hlen,hA⟩⟩⟩⟩⟩⟩
theorem zmz (n:Int) (h:I64 n):zb7 n (Lib.itoa n):=fun S=>zbH zjt S (if_pos h)
end Go.Proofs.YtfbcnpbhhooapaaGreatDoor.M
namespace Go.Proofs.YtfbcnpbhhooapaaGreatDoor.M
open Go Classical
theorem big1 {n:Nat} (h:n≤1000000000000):bigRow n 1:=⟨by omega,by omega,by decide⟩
def rkS (k:Int):Int:=if k=10 then 0 else if k=11 then 1 else if k=12 then 2 else if 13≤k∧k≤18 then 3 else if k=19∨k=20 then 4 else if 21≤k then 5 else if k=8∨k=9 then 6 else 7
theorem zjy (k:Int):zjd k (rkS k):=by
 apply zsv
 unfold rkS
 repeat' first | (refine⟨fun h=>?_,fun h=>?_⟩) | omega | (split <;> try omega)
theorem ztk (k:Int):0≤rkS k∧rkS k≤7:=by
 unfold rkS
 repeat' first | omega | split
def signs:List (List UInt8):=[[124,124],[38,38],[61,61],[33,61],[60],[60,61],[62],[62,61],[43],[45],[42],[47],[37]]
def zaq (k:Int):List UInt8:=(signs[(k - 11).toNat]?).getD []
theorem zv1 {k:Int} (h0:11≤k) (h1:k≤23):signs[(k - 11).toNat]?=some (zaq k):=by
 have h:(k - 11).toNat < signs.length:=by simp[signs];omega
 rw[zaq,List.getElem?_eq_getElem h]
 rfl
theorem zkl (k:Int):(zaq k).length≤2:=by
 unfold zaq
 have h:∀ x ∈ signs,x.length≤2:=by decide
 cases e:signs[(k - 11).toNat]? with
 | none=>simp
 | some v=>exact h v (List.mem_of_getElem? e)
theorem zjN {k:Int} (h0:11≤k) (h1:k≤23):zjF k (zaq k) :=
 zqK k _ ⟨⟨by omega,by omega⟩,by omega,_,zv1 h0 h1,rfl⟩
theorem zae (w:SWriter) (g:Nat) (z:Bool) (l:List (List UInt8)) (hl:l.length≤1000000) (h:w.out.length+l.flatten.length≤1000000000000):zY w g z l ⟨w.out++l.flatten⟩ g z:=by
 have loop:∀ (m i:Nat) (w:SWriter),i+m=l.length→w.out.length+(l.drop i).flatten.length≤1000000000000→zf1 l i w g z ⟨w.out++(l.drop i).flatten⟩ g z:=by
  intro m
  induction m with
  | zero =>
   intro i w hi hw
   apply zgn
   exact⟨fun h=>by omega,fun _=>by rw[List.drop_of_length_le (by omega),List.flatten_nil,List.append_nil];exact⟨rfl,rfl,rfl⟩⟩
  | succ m ih =>
   intro i w hi hw
   have hlt:i < l.length:=by omega
   have hg:l[((i:Nat):Int).toNat]?=some l[i]:=by rw[Int.toNat_natCast];exact List.getElem?_eq_getElem hlt
   have hd:l.drop i=l[i]::l.drop (i+1):=List.drop_eq_getElem_cons hlt
   rw[hd,List.flatten_cons,List.length_append] at hw
   apply zgn
   refine⟨fun _=>⟨by omega,_,hg,big1 (by omega),⟨by omega,by omega⟩,?_⟩,fun h=>by omega⟩
   have:=ih (i+1) ⟨w.out++l[i]⟩ (by omega) (by simp only[List.length_append];omega)
   rw[hd,List.flatten_cons,←List.append_assoc]
   exact this
 have:=loop l.length 0 w (by omega) h
 exact zs3 _ _ _ _ _ _ _ this
def qC (c:UInt8):List UInt8:=if c.toNat=34∨c.toNat=92∨c.toNat=36 then [92,c] else if c.toNat=10 then [92,110] else [c]
def qS (s:List UInt8):List UInt8:=s.flatMap qC
theorem zq7 (c:UInt8):(qC c).length≤2:=by
 unfold qC
 split
 ·simp
 split <;> simp
theorem zqV:∀ s:List UInt8,(qS s).length≤2*s.length
 | []=>Nat.le_refl _
 | c::s=>by
  have:=zqV s
  have:=zq7 c
  unfold qS at *
  rw[List.flatMap_cons,List.length_append,List.length_cons]
  omega
theorem i32w {n:Nat} (h:n < 256):IntKind.i32.wrap (n:Int)=n:=by
 simp only[IntKind.wrap,IntKind.signed,IntKind.bits]
 simp
 omega
theorem zn7 (w:SWriter) (g:Nat) (z:Bool) (s:List UInt8) (hs:s.length≤1000000) (h:w.out.length+2*s.length≤999000000000):znA w g z s ⟨w.out++qS s⟩ g z:=by
 have loop:∀ (m i:Nat) (w:SWriter),i+m=s.length→w.out.length+2*m≤999000000000→zbj s i w g z ⟨w.out++qS (s.drop i)⟩ g z:=by
  intro m
  induction m with
  | zero =>
   intro i w hi hw
   apply zfk
   exact⟨fun h=>by omega,fun _=>by rw[List.drop_of_length_le (by omega)];simp[qS]⟩
  | succ m ih =>
   intro i w hi hw
   have hlt:i < s.length:=by omega
   have hg:s[((i:Nat):Int).toNat]?=some s[i]:=by rw[Int.toNat_natCast];exact List.getElem?_eq_getElem hlt
   have hd:s.drop i=s[i]::s.drop (i+1):=List.drop_eq_getElem_cons hlt
   have hc:=s[i].toNat_lt
   generalize s[i]=c at *
   have e:=i32w (show c.toNat < 256 by omega)
   have ec:UInt8.ofNat ((c.toNat:Int)).toNat=c:=by simp
   have key:∀ t:List UInt8,qC c=t→zbj s ((i:Int)+1) ⟨w.out++t⟩ g z ⟨w.out++qS (s.drop i)⟩ g z:=by
    intro t ht
    have h2:=zq7 c
    have:=ih (i+1) ⟨w.out++t⟩ (by omega) (by rw[←ht];simp only[List.length_append];omega)
    rw[hd,qS,List.flatMap_cons,ht,←List.append_assoc]
    exact this
   have p1:zY w g z [[92],[UInt8.ofNat (IntKind.i32.wrap (c.toNat:Int)).toNat]] ⟨w.out++[92,c]⟩ g z:=by
    rw[e,ec]
    exact zae w g z [[92],[c]] (by simp) (by simp;omega)
   have p2:zY w g z [[92,110]] ⟨w.out++[92,110]⟩ g z:=zae w g z [[92,110]] (by decide) (by simp;omega)
   apply zfk
   refine⟨fun _=>⟨by omega,_,hg,fun h=>⟨by rw[e];omega,by rw[e];omega,_,_,_,p1,⟨by omega,by omega⟩,key _ ?_⟩,fun h=>⟨fun h2=>⟨by rw[e];omega,by rw[e];omega,_,_,_,p1,⟨by omega,by omega⟩,key _ ?_⟩,fun h2=>⟨fun h3=>⟨by rw[e];omega,by rw[e];omega,_,_,_,p1,⟨by omega,by omega⟩,key _ ?_⟩,fun h3=>⟨fun h4=>⟨_,_,_,p2,⟨by omega,by omega⟩,key _ ?_⟩,fun h4=>⟨big1 (by omega),⟨by omega,by omega⟩,key _ ?_⟩⟩⟩⟩⟩,fun h=>by omega⟩
   ·rw[qC,if_pos (by omega)]
   ·rw[qC,if_pos (by omega)]
   ·rw[qC,if_pos (by omega)]
   ·rw[qC,if_neg (by omega),if_pos (by omega)]
   rw[qC,if_neg (by omega),if_neg (by omega)]
 have:=loop s.length 0 w (by omega) h
 exact zrh _ _ _ _ _ _ _ this
def ptS (p:Part):List UInt8:=if p.Ref=true then [36,123]++p.Text++[125] else qS p.Text
def qtS (l:List Part):List UInt8:=[34]++(l.flatMap ptS++[34])
def QB (l:List Part):Prop:=l.length≤60∧∀ p ∈ l,p.Text.length≤300
theorem zoO {p:Part} (h:p.Text.length≤300):(ptS p).length≤603:=by
 unfold ptS
 split
 ·simp only[List.length_append,List.length_cons,List.length_nil];omega
 have:=zqV p.Text;omega
theorem zpl:∀ {l:List Part},(∀ p ∈ l,p.Text.length≤300)→(l.flatMap ptS).length≤603*l.length
 | [],_=>Nat.le_refl _
 | p::l,h=>by
  have h1:=zpl (l:=l) fun q hq=>h q (List.mem_cons_of_mem _ hq)
  have h2:=zoO (h p (List.mem_cons_self ..))
  rw[List.flatMap_cons,List.length_append,List.length_cons]
  omega
theorem zvD {l:List Part} (h:QB l):(qtS l).length≤36200:=by
 have h1:=zpl h.2
 have h2:=h.1
 simp only[qtS,List.length_append,List.length_cons,List.length_nil]
 omega
theorem zpx (x:SWriter) (g:Nat) (z:Bool) (xl:List Node) (l:List Part) (hl:QB l) (h:x.out.length≤900000000000):znR x g z xl l ⟨x.out++qtS l⟩ g z:=by
 have loop:∀ (m i:Nat) (w:SWriter),i+m=l.length→w.out.length+603*m≤900000100000→zcF xl l i w g z ⟨w.out++((l.drop i).flatMap ptS++[34])⟩ g z:=by
  intro m
  induction m with
  | zero =>
   intro i w hi hw
   apply zft
   refine⟨fun h=>by omega,fun _=>⟨_,_,_,zae w g z [[34]] (by decide) (by simp;omega),?_,rfl,rfl⟩⟩
   rw[List.drop_of_length_le (by omega)]
   rfl
  | succ m ih =>
   intro i w hi hw
   have hlt:i < l.length:=by omega
   have hg:l[((i:Nat):Int).toNat]?=some l[i]:=by rw[Int.toNat_natCast];exact List.getElem?_eq_getElem hlt
   have hd:l.drop i=l[i]::l.drop (i+1):=List.drop_eq_getElem_cons hlt
   have hp:=hl.2 _ (List.getElem_mem hlt)
   have h60:=hl.1
   generalize l[i]=p at *
   have key:∀ t:List UInt8,ptS p=t→zcF xl l ((i:Int)+1) ⟨w.out++t⟩ g z ⟨w.out++((l.drop i).flatMap ptS++[34])⟩ g z:=by
    intro t ht
    have h2:=zoO hp
    have:=ih (i+1) ⟨w.out++t⟩ (by omega) (by rw[←ht];simp only[List.length_append];omega)
    rw[hd,List.flatMap_cons,ht,List.append_assoc,←List.append_assoc]
    exact this
   apply zft
   refine⟨fun _=>⟨by omega,_,hg,fun hr=>⟨_,_,_,zae w g z [[36,123],p.Text,[125]] (by simp) (by simp;omega),⟨by omega,by omega⟩,key _ ?_⟩,fun hr=>⟨_,_,_,zn7 w g z p.Text (by omega) (by omega),⟨by omega,by omega⟩,key _ ?_⟩⟩,fun h=>by omega⟩
   ·rw[ptS,if_pos hr];simp
   rw[ptS,if_neg hr]
 have h60:=hl.1
 have:=loop l.length 0 ⟨x.out++[34]⟩ (by omega) (by simp only[List.length_append,List.length_cons,List.length_nil];omega)
 refine zrt _ _ _ _ _ _ _ _ ⟨_,_,_,zae x g z [[34]] (by decide) (by simp;omega),?_⟩
 rw[qtS,←List.append_assoc]
 exact this
end Go.Proofs.YtfbcnpbhhooapaaGreatDoor.M

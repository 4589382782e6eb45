/- Parts of a proof, one behind another: Bk2, Bk3, X0, R, R2, Lu, Sc12, Lt12, Sc13, Lt13, Sc1, Lt1, Sc2, Sc4, Lt4. -/
import Derived.Test.YtfbcnpbhhooapaaGreatDoorZShowMade2
import Derived.KernelRfl
import Derived.Test.YtfbcnpbhhooapaaGreatDoorProg
set_option linter.unusedSimpArgs false
set_option linter.unusedVariables false
set_option linter.unusedSectionVars false
set_option maxHeartbeats 4000000
namespace Go.Proofs.YtfbcnpbhhooapaaGreatDoor.Bk
open Go Go.RowKit Go.Shelf
attribute [local go_sem] Oper.semAt_some
def run (o:Int→Int):Int→List Int→Int
 | f,[]=>f
 | f,k::ks=>if k < 0∨k≠f - 1 then -1 else if o k < 0 then -1 else run o (o k) ks
theorem zeF (zs:List Int):∀ k,k≤zs.length→(zec (bk zs) k).map (·.2)=zs.reverse.take k
 | 0,_=>by simp[zec]
 | k+1,h=>by
  rw[zgR,List.map_append,zeF zs k (by omega),List.take_add_one,List.getElem?_reverse (by omega)]
  have:zs.length - 1 - k < zs.length:=by omega
  simp[bk,this]
theorem zir {W W':World} (h:Below W.heap.size W W'):KeepsOthers W W':=⟨h.size,fun j o hj _=>by
 rw[h.block j (Array.getElem?_eq_some_iff.1 hj).1];exact hj⟩
structure Bx (w:World) (lv r:Value) (nd:Array Value) (W:World):Prop where
 below:Below w.heap.size w W
 size:w.heap.size+3≤W.heap.size
 h2:W.heap[w.heap.size]?=some (.cells #[lv] 35 (0,0))
 h4:W.heap[w.heap.size+1]?=some (.cells #[r] 3 (0,0))
 h5:W.heap[w.heap.size+2]?=some (.cells nd 41 (0,0))
theorem Bx.on {w:World} {lv r:Value} {nd:Array Value} {W W':World} (h:Bx w lv r nd W) (hb:Below (w.heap.size+3) W W'):Bx w lv r nd W' :=
 ⟨h.below.trans (hb.mono (by omega)),Nat.le_trans h.size hb.size,(hb.block _ (by omega)).trans h.h2,(hb.block _ (by omega)).trans h.h4,(hb.block _ (by omega)).trans h.h5⟩
theorem Bx.c2 {w:World} {lv r:Value} {nd:Array Value} {W:World} (h:Bx w lv r nd W):W.cell? ⟨w.heap.size,0,none⟩=some lv:=by simp[World.cell?,h.h2]
theorem Bx.c4 {w:World} {lv r:Value} {nd:Array Value} {W:World} (h:Bx w lv r nd W):W.cell? ⟨w.heap.size+1,0,none⟩=some r:=by simp[World.cell?,h.h4]
theorem Bx.f4 {w:World} {lv r:Value} {nd:Array Value} {W:World} (h:Bx w lv r nd W):W.frozen? ⟨w.heap.size+1,0,none⟩=false:=by simp[World.frozen?,h.h4]
theorem Bx.c5 {w:World} {lv r:Value} {nd:Array Value} {W:World} (h:Bx w lv r nd W) (j:Nat):W.cell? ⟨w.heap.size+2,j,none⟩=nd[j]?:=by simp[World.cell?,h.h5]
theorem Bx.new (w:World) (lv r:Value) (nd:Array Value):Bx w lv r nd (((w.alloc (.cells #[lv] 35)).alloc (.cells #[r] 3)).alloc (.cells nd 41)):=by
 refine⟨(((Below.refl _ w).alloc (Nat.le_refl _) _).alloc (by simp) _).alloc (by simp;omega) _,by simp,?_,?_,?_⟩
 ·exact (Below.heap_alloc _ _ _ (by simp;omega)).trans ((Below.heap_alloc _ _ _ (by simp)).trans (World.alloc_heap_new w _))
 ·refine (Below.heap_alloc _ _ _ (by simp)).trans ?_
  have:=World.alloc_heap_new (w.alloc (.cells #[lv] 35)) (.cells #[r] 3)
  rwa [World.size_alloc] at this
 have:=World.alloc_heap_new ((w.alloc (.cells #[lv] 35)).alloc (.cells #[r] 3)) (.cells nd 41)
 rwa [World.size_alloc,World.size_alloc] at this
structure Ls (w:World) (bf:Nat) (lv sv:Value) (r f:Int) (W:World):Prop where
 below:Below w.heap.size w W
 lt:w.heap.size+2 < bf
 l:Boxed W w.heap.size 35 lv
 r:Boxed W (w.heap.size+1) 3 (.int .i64 r)
 f:Boxed W bf 3 (.int .i64 f)
 s:Boxed W (bf+1) 39 sv
theorem Ls.own {w:World} {bf:Nat} {lv sv:Value} {r f:Int} {W W':World} {B:Nat} {row:Option Nat} (h:Ls w bf lv sv r f W) (hB:w.heap.size≤B) (hg:W.grownBy W' row) (hr:∀ r,row=some r→B≤r∧∃ o:Obj,W.heap[r]?=some o∧o.isCells=false):Ls w bf lv sv r f W':=by
 have hb:∀ (B:Nat) (t:TypeId) (v:Value),Boxed W B t v→Boxed W' B t v:=fun B t v h=>h.kept hg (fun e=>by
  obtain⟨_,o,ho,hc⟩:=hr B e.symm
  rw[show W.heap[B]?=_ from h] at ho;cases ho;cases hc)
 exact⟨h.below.grown hg h.below.size (fun k e=>Nat.le_trans hB (hr k e).1),h.lt,hb _ _ _ h.l,hb _ _ _ h.r,hb _ _ _ h.f,hb _ _ _ h.s⟩
theorem Ls.setR {w:World} {bf:Nat} {lv sv:Value} {r f:Int} {W:World} (h:Ls w bf lv sv r f W) (r':Int):Ls w bf lv sv r' f (W.setCell ⟨w.heap.size+1,0,none⟩ (.int .i64 r')) :=
 have hl:=h.lt
 ⟨h.below.setCell (p:=⟨w.heap.size+1,0,none⟩) (by simp) _,h.lt,h.l.other (by omega) _,h.r.set _,h.f.other (by omega) _,h.s.other (by omega) _⟩
theorem Ls.setF {w:World} {bf:Nat} {lv sv:Value} {r f:Int} {W:World} (h:Ls w bf lv sv r f W) (f':Int):Ls w bf lv sv r f' (W.setCell ⟨bf,0,none⟩ (.int .i64 f')) :=
 have hl:=h.lt
 ⟨h.below.setCell (p:=⟨bf,0,none⟩) (by simp;omega) _,h.lt,h.l.other (by omega) _,h.r.other (by omega) _,h.f.set _,h.s.other (by omega) _⟩
theorem Ls.on {w:World} {bf:Nat} {lv sv:Value} {r f:Int} {W W':World} (h:Ls w bf lv sv r f W) (hb:Below W.heap.size W W'):Ls w bf lv sv r f W' :=
 have k:∀ (B:Nat) (t:TypeId) (v:Value),Boxed W B t v→Boxed W' B t v:=fun B t v h=>(hb.block B h.lt).trans h
 ⟨h.below.trans (hb.mono h.below.size),h.lt,k _ _ _ h.l,k _ _ _ h.r,k _ _ _ h.f,k _ _ _ h.s⟩
theorem Ls.kq {w:World} {bf:Nat} {lv sv:Value} {r f r' f':Int} {W W':World} (h:Ls w bf lv sv r f W) (h':Ls w bf lv sv r' f' W') (hb:Below w.heap.size W W'):Kq w.heap.size (bf+1) W W':=⟨hb,(show W'.heap[bf+1]?=_ from h'.s).trans (show W.heap[bf+1]?=_ from h.s).symm⟩
def LI (w:World) (bf:Nat) (lv sv:Value) (o:Int→Int) (e:Nat) (pre:List (Int × Int)) (W:World):Prop:=∃ f:Int,Ls w bf lv sv 0 f W∧0≤f∧f≤e∧∀ rest,run o e (pre.map (·.2)++rest)=run o f rest
def LX (w:World) (bf:Nat) (lv sv:Value) (o:Int→Int) (e:Nat) (c:Code) (pre:List (Int × Int)) (W:World):Prop:=∃ f:Int,Ls w bf lv sv (-1) f W∧c=.ret∧∀ rest,run o e (pre.map (·.2)++rest)=-1
theorem LI.own {w:World} {bf:Nat} {lv sv:Value} {o:Int→Int} {e B:Nat} (hB:w.heap.size≤B):OwnFrom B (LI w bf lv sv o e):=fun s W W' row ⟨f,h1,h2⟩ hg hr=>⟨f,h1.own hB hg hr,h2⟩
theorem LX.own {w:World} {bf:Nat} {lv sv:Value} {o:Int→Int} {e B:Nat} (hB:w.heap.size≤B) (c:Code):OwnFrom B (LX w bf lv sv o e c):=fun s W W' row ⟨f,h1,h2⟩ hg hr=>⟨f,h1.own hB hg hr,h2⟩
set_option maxRecDepth 100000 in
theorem begin_in (w:World) (bl ol ln cp e:Nat) (kind num:Int) (text:ByteArray) (A3 A4:Option Addr) (l3 c3 l4 c4:Nat) (ks:List Int) (kk:Int) (pp:Bool) (o:Int→Int) (res:Int)
  (hbl:bl < w.heap.size) (he:e < ln) (hln:ln≤1000000000) (hlc:ln≤cp)
  (q0:w.cell? ⟨bl,ol+e*5,none⟩=some (.int .i64 kind)) (q1:w.cell? ⟨bl,ol+e*5+1,none⟩=some (.int .i64 num)) (q2:w.cell? ⟨bl,ol+e*5+2,none⟩=some (.string text)) (q3:w.cell? ⟨bl,ol+e*5+3,none⟩=some (.slice A3 l3 c3)) (q4:w.cell? ⟨bl,ol+e*5+4,none⟩=some (.slice A4 l4 c4))
  (hl4:l4=ks.length) (hks:Ints w.heap.size w (.slice A4 l4 c4) ks) (hreach:ks.length≤1000000000)
  (hK:∀ W,Below w.heap.size w W→Calls Tryz.prog 73 #[.int .i64 kind] W fun x W'=>x=.returned (.int .i64 kk)∧Below W.heap.size W W')
  (hP:(kk=ks.length∨kk=-1)→∀ W,Below w.heap.size w W→Calls Tryz.prog 74 #[.agg #[.int .i64 kind,.int .i64 num,.string text,.slice A3 l3 c3,.slice A4 l4 c4]] W fun x W'=>x=.returned (.bool pp)∧Below W.heap.size W W')
  (hB:(kk=ks.length∨kk=-1)→pp=true→∀ k:Int,0≤k→k < e→o k≤k∧∀ W,Below w.heap.size w W→Calls Tryz.prog 47 #[.slice (some ⟨bl,ol,none⟩) ln cp,.int .i64 k] W fun x W'=>x=.returned (.int .i64 (o k))∧Below W.heap.size W W')
  (hr:res=if (kk≠ks.length∧kk≠-1)∨pp=false then -1 else run o e ks.reverse) :
  Calls Tryz.prog 47 #[.slice (some ⟨bl,ol,none⟩) ln cp,.int .i64 (e:Int)] w fun x w' =>
   x=.returned (.int .i64 res)∧Below w.heap.size w w':=by
 subst hl4
 refine (callsIn_wide (n:=9)).1 ?_
 refine callsIn_of_wp_marks Tryz.func47 rfl trivial ?_ rfl
 simp only[Tryz.ntmps47,List.size_toArray,List.length_cons,List.length_nil,Nat.reduceAdd,Nat.reduceSub,Array.replicate_succ,Array.replicate_zero,List.push_toArray,List.append_toArray,List.nil_append,List.cons_append]
 gi_wp2
 refine⟨trivial,?_⟩
 have hx0:=Bx.new w (.slice (some ⟨bl,ol,none⟩) ln cp) (.int .i64 0) #[.int .i64 kind,.int .i64 num,.string text,.slice A3 l3 c3,.slice A4 ks.length c4]
 refine (callsIn_wide.2 (hK _ hx0.below)).mono ?_
 rintro x w1 ⟨rfl,hb1⟩
 have hx1:=hx0.on (hb1.mono (by simp))
 have a2:=hx1.c2
 have a4:=hx1.c4
 have f4:=hx1.f4
 have a50:=hx1.c5 0
 have a51:=hx1.c5 1
 have a52:=hx1.c5 2
 have a53:=hx1.c5 3
 have a54:=hx1.c5 4
 simp only[List.getElem?_toArray,List.getElem?_cons_zero,List.getElem?_cons_succ] at a50 a51 a52 a53 a54
 gi_wp2
 ·refine⟨trivial,?_⟩
  refine ((callsIn_wide (n:=8)).2 (hP (.inl (by assumption)) w1 hx1.below)).mono ?_
  rintro x w2 ⟨rfl,hb2⟩
  have hx2:=hx1.on (hb2.mono hx1.size)
  have d2:=hx2.c2
  have d4:=hx2.c4
  have g4:=hx2.f4
  have d54:=hx2.c5 4
  simp only[List.getElem?_toArray,List.getElem?_cons_zero,List.getElem?_cons_succ] at d54
  cases pp with
  | false =>
   gi_wp2
   have hb4:Boxed w2 (w.heap.size+1) 3 (.int .i64 0):=hx2.h4
   have hc5:=(hb4.set (.int .i64 (-1))).cell
   refine⟨.int .i64 (-1),?_,by rw[hr];simp,hx2.below.setCell (p:=⟨w.heap.size+1,0,none⟩) (by simp) _⟩
   simp[results,Tryz.f47,go_sem,hc5]
  | true =>
   have hx3:=hx2.on (((Below.refl _ w2).alloc hx2.size (.cells #[.int .i64 (e:Int)] 3)))
   have hz:w.heap.size+1+1 < w2.heap.size:=by have:=hx2.size;omega
   have e54:=hx3.c5 4
   simp only[List.getElem?_toArray,List.getElem?_cons_zero,List.getElem?_cons_succ] at e54
   gi_wp2
   refine⟨trivial,?_⟩
   refine (zie Fence.wide 8 trivial rfl A4 ks.length c4 _).mono ?_
   rintro x w4 ⟨rfl,rfl⟩
   gi_wp2
   have hW2:=hx2.below.size
   have hz2:=hx2.size
   obtain⟨W0,hW0⟩:∃ W0,(w2.alloc (.cells #[.int .i64 (e:Int)] 3)).alloc (.cells #[.slice A4 ks.length c4] 39)=W0:=⟨_,rfl⟩
   have hs0:W0.heap.size=w2.heap.size+2:=by rw[←hW0];simp
   have hK0:Boxed W0 (w2.heap.size+1) 39 (.slice A4 ks.length c4):=by
    rw[←hW0]
    have:=Boxed.new (w2.alloc (.cells #[.int .i64 (e:Int)] 3)) 39 (.slice A4 ks.length c4)
    rwa [World.size_alloc] at this
   have hF0:Boxed W0 w2.heap.size 3 (.int .i64 (e:Int)):=by
    rw[←hW0]
    exact (Boxed.new w2 3 (.int .i64 (e:Int))).alloc _
   have hb0:Below w2.heap.size w2 W0:=by
    rw[←hW0]
    exact ((Below.refl _ w2).alloc (Nat.le_refl _) _).alloc (by simp) _
   have hx4:=hx2.on (hb0.mono hz2)
   have hL0:Ls w w2.heap.size (.slice (some ⟨bl,ol,none⟩) ln cp) (.slice A4 ks.length c4) 0 e W0:=⟨hx4.below,by omega,hx4.h2,hx4.h4,hF0,hK0⟩
   rw[hW0]
   refine wpIn_rangeFunc_ownG (w0:=W0) rfl (by decide) (gf:=117) (lb:=#[.pointer (some ⟨w2.heap.size+1,0,none⟩)]) rfl trivial (enters_of Tryz.func117 (by kernel_rfl) rfl)
    (zke Fence.wide 8 trivial rfl (by decide) (w2.heap.size+1) w.heap.size _ ks (by omega) W0 (by omega) (by omega) hK0.cell (hks.below hx4.below)) (fun h k=>Kq.trans h k) (fun W l o o'=>Kq.put (by omega) (by omega) W l o o') (Below.refl _ _) (fun _=>rfl)
    (LI w w2.heap.size (.slice (some ⟨bl,ol,none⟩) ln cp) (.slice A4 ks.length c4) o e)
    (LX w w2.heap.size (.slice (some ⟨bl,ol,none⟩) ln cp) (.slice A4 ks.length c4) o e)
    (LI.own (by omega)) (LX.own (by omega)) ⟨e,hL0,by omega,by omega,fun rest=>rfl⟩ ?a1 ?assign ?body ?done ?stop
   case assign =>
    intro l x W K hK
    gi_wp2
    exact hK
   case body =>
    rintro l pre ⟨x1,x2⟩ W ⟨f,hL,hf0,hfe,hrun⟩ _
    have b2:=hL.l.cell
    have b4:=hL.r.cell
    have b4f:=hL.r.frozen
    have b7:=hL.f.cell
    have b7f:=hL.f.frozen
    have stop:(x2 < 0∨x2≠f - 1)→∀ rest,run o e ((pre++[(x1,x2)]).map (·.2)++rest)=-1:=fun h rest=>by
     rw[List.map_append,List.append_assoc,hrun]
     simp only[List.map_cons,List.map_nil,List.cons_append,List.nil_append,run]
     rw[if_pos h]
    gi_wp2
    ·have hq:x2 < 0∨(x2 != f - 1)=true:=by assumption
     exact⟨(KeepsOthers.setCell _ _ _).from _,f,hL.setR _,rfl,stop (by simpa using hq)⟩
    ·have hq:0≤x2∧(x2 != f - 1)=false:=by assumption
     have hx:x2=f - 1:=by simpa using hq.2
     have h0:0≤x2:=hq.1
     clear hq
     subst hx
     obtain⟨ho,hc⟩:=hB (.inl (by assumption)) (by trivial) (f - 1) h0 (by omega)
     refine⟨trivial,?_⟩
     refine (CallsIn.inRound l ((callsIn_wide (n:=6)).2 (hc W hL.below))).mono ?_
     rintro y W5 ⟨rfl,hb5⟩
     have hL5:=hL.on hb5
     have hL6:=hL5.setF (o (f - 1))
     have c7:=hL5.f.cell
     have c7f:=hL5.f.frozen
     have c8:=hL6.f.cell
     have c4:=hL6.r.cell
     have c45:=hL5.r.cell
     have c4g:=hL5.r.frozen
     have c4f:=hL6.r.frozen
     have go:∀ rest,run o e ((pre++[(x1,f - 1)]).map (·.2)++rest)=if o (f - 1) < 0 then -1 else run o (o (f - 1)) rest:=fun rest=>by
      rw[List.map_append,List.append_assoc,hrun]
      simp only[List.map_cons,List.map_nil,List.cons_append,List.nil_append,run]
      rw[if_neg (by omega)]
     have keep:KeepsOthers W (W5.setCell ⟨w2.heap.size,0,none⟩ (.int .i64 (o (f - 1)))):=(zir hb5).trans (KeepsOthers.setCell _ _ _)
     have bel:Below w.heap.size W (W5.setCell ⟨w2.heap.size,0,none⟩ (.int .i64 (o (f - 1)))):=(hb5.mono hL.below.size).setCell (p:=⟨w2.heap.size,0,none⟩) (by simp;omega) _
     gi_wp2
     ·have hn:o (f - 1) < 0:=by assumption
      exact⟨(keep.trans (KeepsOthers.setCell _ _ _)).from _,_,hL6.setR _,rfl,fun rest=>by rw[go,if_pos hn]⟩
     have hn:0≤o (f - 1):=by assumption
     exact⟨keep.from _,hL.kq hL6 bel,_,hL6,hn,by omega,fun rest=>by rw[go,if_neg (by omega)]⟩
    exact⟨(KeepsOthers.setCell _ _ _).from _,f,hL.setR _,rfl,stop (.inl (by assumption))⟩
   case done =>
    rintro D ys W hD rfl ⟨f,hL,hf0,hfe,hrun⟩ hK
    have b4:=hL.r.cell
    have b4f:=hL.r.frozen
    have b7:=hL.f.cell
    have hL6:=hL.setR f
    have hres:run o e ks.reverse=f:=by
     have:=hrun []
     rw[zeF ks ks.length (Nat.le_refl _),List.append_nil,List.take_of_length_le (by simp)] at this
     exact this
    gi_wp2
    have hK':=(KeepsOthers.setCell W ⟨w.heap.size+1,0,none⟩ (.int .i64 f)).same D _ hK rfl
    refine⟨by simp,.inl ⟨_,_,rfl,run_takeDeferred hK',?_⟩⟩
    have hc5:=cell_kept hL6.r.cell (grownBy_putObj' _ D (.deferred none)) (fun r e=>by cases e;exact⟨_,hK',rfl⟩)
    have e0:res=f:=by
     rw[hr,if_neg,hres]
     rintro (h | h)
     ·rcases (show kk=ks.length∨kk=-1 from (.inl (by assumption))) with e | e
      ·exact h.1 e
      exact h.2 e
     cases h
    refine⟨.int .i64 f,?_,by rw[e0],hL6.below.trans (belowK_b (w:=w) (Nat.le_refl _) _ D _ _ (by omega) hK' rfl rfl)⟩
    simp[results,Tryz.f47,go_sem,hc5]
   case stop =>
    rintro D c pre W hD ⟨k,hk,rfl⟩ ⟨f,hL,rfl,hrun⟩ hK
    have hres:run o e ks.reverse=-1:=by
     have:=hrun (ks.reverse.drop k)
     rw[zeF ks k hk,List.take_append_drop] at this
     exact this
    gi_wp2
    refine⟨by simp,.inl ⟨_,_,rfl,run_takeDeferred hK,?_⟩⟩
    have hc5:=cell_kept hL.r.cell (grownBy_putObj' _ D (.deferred none)) (fun r e=>by cases e;exact⟨_,hK,rfl⟩)
    have e0:res=-1:=by
     rw[hr,hres]
     split <;> rfl
    refine⟨.int .i64 (-1),?_,by rw[e0],hL.below.trans (belowK_b (w:=w) (Nat.le_refl _) _ D _ _ (by omega) hK rfl rfl)⟩
    simp[results,Tryz.f47,go_sem,hc5]
 ·refine⟨trivial,?_⟩
  refine ((callsIn_wide (n:=8)).2 (hP (.inr (by assumption)) w1 hx1.below)).mono ?_
  rintro x w2 ⟨rfl,hb2⟩
  have hx2:=hx1.on (hb2.mono hx1.size)
  have d2:=hx2.c2
  have d4:=hx2.c4
  have g4:=hx2.f4
  have d54:=hx2.c5 4
  simp only[List.getElem?_toArray,List.getElem?_cons_zero,List.getElem?_cons_succ] at d54
  cases pp with
  | false =>
   gi_wp2
   have hb4:Boxed w2 (w.heap.size+1) 3 (.int .i64 0):=hx2.h4
   have hc5:=(hb4.set (.int .i64 (-1))).cell
   refine⟨.int .i64 (-1),?_,by rw[hr];simp,hx2.below.setCell (p:=⟨w.heap.size+1,0,none⟩) (by simp) _⟩
   simp[results,Tryz.f47,go_sem,hc5]
  | true =>
   have hx3:=hx2.on (((Below.refl _ w2).alloc hx2.size (.cells #[.int .i64 (e:Int)] 3)))
   have hz:w.heap.size+1+1 < w2.heap.size:=by have:=hx2.size;omega
   have e54:=hx3.c5 4
   simp only[List.getElem?_toArray,List.getElem?_cons_zero,List.getElem?_cons_succ] at e54
   gi_wp2
   refine⟨trivial,?_⟩
   refine (zie Fence.wide 8 trivial rfl A4 ks.length c4 _).mono ?_
   rintro x w4 ⟨rfl,rfl⟩
   gi_wp2
   have hW2:=hx2.below.size
   have hz2:=hx2.size
   obtain⟨W0,hW0⟩:∃ W0,(w2.alloc (.cells #[.int .i64 (e:Int)] 3)).alloc (.cells #[.slice A4 ks.length c4] 39)=W0:=⟨_,rfl⟩
   have hs0:W0.heap.size=w2.heap.size+2:=by rw[←hW0];simp
   have hK0:Boxed W0 (w2.heap.size+1) 39 (.slice A4 ks.length c4):=by
    rw[←hW0]
    have:=Boxed.new (w2.alloc (.cells #[.int .i64 (e:Int)] 3)) 39 (.slice A4 ks.length c4)
    rwa [World.size_alloc] at this
   have hF0:Boxed W0 w2.heap.size 3 (.int .i64 (e:Int)):=by
    rw[←hW0]
    exact (Boxed.new w2 3 (.int .i64 (e:Int))).alloc _
   have hb0:Below w2.heap.size w2 W0:=by
    rw[←hW0]
    exact ((Below.refl _ w2).alloc (Nat.le_refl _) _).alloc (by simp) _
   have hx4:=hx2.on (hb0.mono hz2)
   have hL0:Ls w w2.heap.size (.slice (some ⟨bl,ol,none⟩) ln cp) (.slice A4 ks.length c4) 0 e W0:=⟨hx4.below,by omega,hx4.h2,hx4.h4,hF0,hK0⟩
   rw[hW0]
   refine wpIn_rangeFunc_ownG (w0:=W0) rfl (by decide) (gf:=117) (lb:=#[.pointer (some ⟨w2.heap.size+1,0,none⟩)]) rfl trivial (enters_of Tryz.func117 (by kernel_rfl) rfl)
    (zke Fence.wide 8 trivial rfl (by decide) (w2.heap.size+1) w.heap.size _ ks (by omega) W0 (by omega) (by omega) hK0.cell (hks.below hx4.below)) (fun h k=>Kq.trans h k) (fun W l o o'=>Kq.put (by omega) (by omega) W l o o') (Below.refl _ _) (fun _=>rfl)
    (LI w w2.heap.size (.slice (some ⟨bl,ol,none⟩) ln cp) (.slice A4 ks.length c4) o e)
    (LX w w2.heap.size (.slice (some ⟨bl,ol,none⟩) ln cp) (.slice A4 ks.length c4) o e)
    (LI.own (by omega)) (LX.own (by omega)) ⟨e,hL0,by omega,by omega,fun rest=>rfl⟩ ?a2 ?assign ?body ?done ?stop
   case assign =>
    intro l x W K hK
    gi_wp2
    exact hK
   case body =>
    rintro l pre ⟨x1,x2⟩ W ⟨f,hL,hf0,hfe,hrun⟩ _
    have b2:=hL.l.cell
    have b4:=hL.r.cell
    have b4f:=hL.r.frozen
    have b7:=hL.f.cell
    have b7f:=hL.f.frozen
    have stop:(x2 < 0∨x2≠f - 1)→∀ rest,run o e ((pre++[(x1,x2)]).map (·.2)++rest)=-1:=fun h rest=>by
     rw[List.map_append,List.append_assoc,hrun]
     simp only[List.map_cons,List.map_nil,List.cons_append,List.nil_append,run]
     rw[if_pos h]
    gi_wp2
    ·have hq:x2 < 0∨(x2 != f - 1)=true:=by assumption
     exact⟨(KeepsOthers.setCell _ _ _).from _,f,hL.setR _,rfl,stop (by simpa using hq)⟩
    ·have hq:0≤x2∧(x2 != f - 1)=false:=by assumption
     have hx:x2=f - 1:=by simpa using hq.2
     have h0:0≤x2:=hq.1
     clear hq
     subst hx
     obtain⟨ho,hc⟩:=hB (.inr (by assumption)) (by trivial) (f - 1) h0 (by omega)
     refine⟨trivial,?_⟩
     refine (CallsIn.inRound l ((callsIn_wide (n:=6)).2 (hc W hL.below))).mono ?_
     rintro y W5 ⟨rfl,hb5⟩
     have hL5:=hL.on hb5
     have hL6:=hL5.setF (o (f - 1))
     have c7:=hL5.f.cell
     have c7f:=hL5.f.frozen
     have c8:=hL6.f.cell
     have c4:=hL6.r.cell
     have c45:=hL5.r.cell
     have c4g:=hL5.r.frozen
     have c4f:=hL6.r.frozen
     have go:∀ rest,run o e ((pre++[(x1,f - 1)]).map (·.2)++rest)=if o (f - 1) < 0 then -1 else run o (o (f - 1)) rest:=fun rest=>by
      rw[List.map_append,List.append_assoc,hrun]
      simp only[List.map_cons,List.map_nil,List.cons_append,List.nil_append,run]
      rw[if_neg (by omega)]
     have keep:KeepsOthers W (W5.setCell ⟨w2.heap.size,0,none⟩ (.int .i64 (o (f - 1)))):=(zir hb5).trans (KeepsOthers.setCell _ _ _)
     have bel:Below w.heap.size W (W5.setCell ⟨w2.heap.size,0,none⟩ (.int .i64 (o (f - 1)))):=(hb5.mono hL.below.size).setCell (p:=⟨w2.heap.size,0,none⟩) (by simp;omega) _
     gi_wp2
     ·have hn:o (f - 1) < 0:=by assumption
      exact⟨(keep.trans (KeepsOthers.setCell _ _ _)).from _,_,hL6.setR _,rfl,fun rest=>by rw[go,if_pos hn]⟩
     have hn:0≤o (f - 1):=by assumption
     exact⟨keep.from _,hL.kq hL6 bel,_,hL6,hn,by omega,fun rest=>by rw[go,if_neg (by omega)]⟩
    exact⟨(KeepsOthers.setCell _ _ _).from _,f,hL.setR _,rfl,stop (.inl (by assumption))⟩
   case done =>
    rintro D ys W hD rfl ⟨f,hL,hf0,hfe,hrun⟩ hK
    have b4:=hL.r.cell
    have b4f:=hL.r.frozen
    have b7:=hL.f.cell
    have hL6:=hL.setR f
    have hres:run o e ks.reverse=f:=by
     have:=hrun []
     rw[zeF ks ks.length (Nat.le_refl _),List.append_nil,List.take_of_length_le (by simp)] at this
     exact this
    gi_wp2
    have hK':=(KeepsOthers.setCell W ⟨w.heap.size+1,0,none⟩ (.int .i64 f)).same D _ hK rfl
    refine⟨by simp,.inl ⟨_,_,rfl,run_takeDeferred hK',?_⟩⟩
    have hc5:=cell_kept hL6.r.cell (grownBy_putObj' _ D (.deferred none)) (fun r e=>by cases e;exact⟨_,hK',rfl⟩)
    have e0:res=f:=by
     rw[hr,if_neg,hres]
     rintro (h | h)
     ·rcases (show kk=ks.length∨kk=-1 from (.inr (by assumption))) with e | e
      ·exact h.1 e
      exact h.2 e
     cases h
    refine⟨.int .i64 f,?_,by rw[e0],hL6.below.trans (belowK_b (w:=w) (Nat.le_refl _) _ D _ _ (by omega) hK' rfl rfl)⟩
    simp[results,Tryz.f47,go_sem,hc5]
   case stop =>
    rintro D c pre W hD ⟨k,hk,rfl⟩ ⟨f,hL,rfl,hrun⟩ hK
    have hres:run o e ks.reverse=-1:=by
     have:=hrun (ks.reverse.drop k)
     rw[zeF ks k hk,List.take_append_drop] at this
     exact this
    gi_wp2
    refine⟨by simp,.inl ⟨_,_,rfl,run_takeDeferred hK,?_⟩⟩
    have hc5:=cell_kept hL.r.cell (grownBy_putObj' _ D (.deferred none)) (fun r e=>by cases e;exact⟨_,hK,rfl⟩)
    have e0:res=-1:=by
     rw[hr,hres]
     split <;> rfl
    refine⟨.int .i64 (-1),?_,by rw[e0],hL.below.trans (belowK_b (w:=w) (Nat.le_refl _) _ D _ _ (by omega) hK rfl rfl)⟩
    simp[results,Tryz.f47,go_sem,hc5]
 refine⟨trivial,?_⟩
 gi_wp2
 have hb4:Boxed w1 (w.heap.size+1) 3 (.int .i64 0):=hx1.h4
 have hc5:=(hb4.set (.int .i64 (-1))).cell
 refine⟨.int .i64 (-1),?_,?_,hx1.below.setCell (p:=⟨w.heap.size+1,0,none⟩) (by simp) _⟩
 ·simp[results,Tryz.f47,go_sem,hc5]
 rw[hr,if_pos]
 exact .inl ⟨by assumption,by assumption⟩
end Go.Proofs.YtfbcnpbhhooapaaGreatDoor.Bk
namespace Go.Proofs.YtfbcnpbhhooapaaGreatDoor.M
open Go Go.RowKit Classical
section
variable [Base] {g g':Gh} {S S':Sto} {w w':World} {P:Program}
def zmn (g:Gh):Gh:=⟨fun _ _=>none,fun _ _=>none,g.fz⟩
theorem zgO (g:Gh) (x:Ow):(zmn g).own x=none:=by cases x <;> rfl
theorem zt2 {W:World} (hw:WR g S w) (hb:Below w.heap.size w W):WR (zmn g) [] W where
 ok:=⟨Nat.le_trans hw.ok.size hb.size,fun k hk=>(hb.block k (Nat.lt_of_lt_of_le hk hw.ok.size)).trans (hw.ok.keep k hk),fun x k h=>by rw[zgO] at h;cases h⟩
 fz:=fun b o v h=>by
  have h1:=hw.fz b o v h
  have hlt:=zck h1
  unfold World.cell? at h1 ⊢
  rw[hb.block b hlt]
  exact h1
 box:=fun n t b h=>by cases h
 arr:=fun n k ai h=>by cases h
 inj:=fun x y b h=>by rw[zgO] at h;cases h
theorem znS {cl:zg} (hcl:zS P cl) {f:Nat} {args:List PV} {v:PV} (ho:zaz cl f args=some v) {W:World} (hw:WR g S w) (hb:Below w.heap.size w W) {cs:Array Value} (ha:zbW (zmn g) args cs) (he:(callFunc f cs).run P W=.ok (.enter f cs) W) :
  Calls P f cs W fun e W'=>∃ c g',e=.returned c∧VR g' v c∧Below W.heap.size W W':=by
 have h1:=zg2 ho
 have h2:=hcl f args [] (by rw[h1];intro e;cases e) (zmn g) W cs (zt2 hw hb) ha
 rw[h1] at h2
 rcases h2 with⟨_,h2⟩ | ⟨c,W',h2,_⟩
 ·refine h2.mono fun e W' h=>?_
  cases e with
  | returned c =>
   obtain⟨g',_,_,ht,hv,_⟩:=h
   exact⟨c,g',rfl,hv,ht.os,ht.tape,ht.output,ht.size,fun k hk=>ht.keep k hk fun x=>by rw[zgO];exact fun e=>by cases e⟩
  | panicked ch=>exact h.elim
  | outgrown=>exact h.elim
 rw[he] at h2
 cases h2
theorem zjz {g:Gh} {k:IntKind} {n:Int} {c:Value} (h:VR g (.int k n) c):c=.int k n:=by
 cases h with
 | data _ _ h=>cases h;rfl
theorem zvP {g:Gh} {b:Bool} {c:Value} (h:VR g (.bool b) c):c=.bool b:=by
 cases h with
 | data _ _ h=>cases h;rfl
def zeU:List (List PV)→Option (List Int)
 | []=>some []
 | [.int .i64 k]::l=>(zeU l).map (k::·)
 | _=>none
def zfR (lv:PV) (k:List Int→Qn):Nat→List Int→Qn
 | 0,acc=>k acc
 | n+1,acc=>.ask 47 [lv,.int .i64 (acc.length:Nat)] fun r=>match r with
  | .int .i64 v=>if v≤(acc.length:Nat) then zfR lv k n (acc++[v]) else .no
  | _=>.no
def zoh (lv:PV) (kind num:Int) (text:List UInt8) (l3 l4:PV) (ks:List Int) (e:Int):Qn :=
 .ask 73 [.int .i64 kind] fun kk=>match kk with
  | .int .i64 kk=>if kk≠(ks.length:Nat)∧kk≠-1 then .ret (.int .i64 (-1)) else
   .ask 74 [.agg [.int .i64 kind,.int .i64 num,.str text,l3,l4]] fun pp=>match pp with
    | .bool pp=>if pp=false then .ret (.int .i64 (-1)) else zfR lv (fun rs=>.ret (.int .i64 (Bk.run (fun k=>(rs[k.toNat]?).getD 0) e ks.reverse))) e.toNat []
    | _=>.no
  | _=>.no
def zg9:List PV→Qn
 | [.list 5 rows full,.int .i64 e] =>
  if 0≤e∧e.toNat < rows.length∧rows.length≤1000000000 then
   match rows[e.toNat]? with
   | some [.int .i64 kind,.int .i64 num,.str text,.list z3 r3 f3,.list 1 r4 f4] =>
    match zeU r4 with
    | some ks=>if ks.length≤1000000000 then zoh (.list 5 rows full) kind num text (.list z3 r3 f3) (.list 1 r4 f4) ks e else .no
    | none=>.no
   | _=>.no
  else .no
 | _=>.no
theorem zkd:∀ {r:List (List PV)} {ks:List Int},zeU r=some ks→r=ks.map fun k=>[PV.int .i64 k]
 | [],ks,h=>by cases h;rfl
 | a::l,ks,h=>by
  unfold zeU at h
  split at h
  ·rename_i e
   cases e
  ·rename_i k l' e
   obtain⟨q,hq,rfl⟩:=Option.map_eq_some_iff.1 h
   obtain⟨rfl,rfl⟩:=List.cons.inj e
   rw[List.map_cons,←zkd hq]
  cases h
theorem zsE {v:PV} {c:Value} (h:VR g v c):zbW g [v] #[c]:=⟨rfl,fun i u hu=>by
 match i,hu with
 | 0,hu=>cases hu;exact h⟩
theorem zxk {v u:PV} {c d:Value} (h:VR g v c) (h':VR g u d):zbW g [v,u] #[c,d]:=⟨rfl,fun i x hx=>by
 match i,hx with
 | 0,hx=>cases hx;exact h
 | 1,hx=>cases hx;exact h'⟩
theorem zwh {a0 a1 a2 a3 a4:PV} {u0 u1 u2 u3 u4:Value} (h0:VR g a0 u0) (h1:VR g a1 u1) (h2:VR g a2 u2) (h3:VR g a3 u3) (h4:VR g a4 u4):VR g (.agg [a0,a1,a2,a3,a4]) (.agg #[u0,u1,u2,u3,u4]) :=
 .agg _ _ rfl fun i v hv=>by
  match i,hv with
  | 0,hv=>cases hv;exact h0
  | 1,hv=>cases hv;exact h1
  | 2,hv=>cases hv;exact h2
  | 3,hv=>cases hv;exact h3
  | 4,hv=>cases hv;exact h4
theorem zlA {o:Nat→List PV→Option PV} {lv:PV} {k:List Int→Qn} {v:PV}:∀ (n:Nat) (acc:List Int),(zfR lv k n acc).ev o=some v→∃ rs,rs.length=acc.length+n∧(∀ j,j < acc.length→rs[j]?=acc[j]?)∧(k rs).ev o=some v∧∀ j,acc.length≤j→j < rs.length→∃ u,rs[j]?=some u∧u≤(j:Nat)∧o 47 [lv,.int .i64 (j:Nat)]=some (.int .i64 u)
 | 0,acc,h=>⟨acc,rfl,fun _ _=>rfl,h,fun j h1 h2=>by omega⟩
 | n+1,acc,h=>by
  simp only[zfR,Qn.ev] at h
  cases ho:o 47 [lv,.int .i64 (acc.length:Nat)] with
  | none=>rw[ho] at h;cases h
  | some r =>
   rw[ho] at h
   simp only at h
   split at h
   ·rename_i u
    split at h
    ·rename_i hu
     obtain⟨rs,h1,h2,h3,h4⟩:=zlA n (acc++[u]) h
     simp only[List.length_append,List.length_cons,List.length_nil] at h1 h2 h4
     refine⟨rs,by omega,fun j hj=>(h2 j (by omega)).trans (List.getElem?_append_left hj),h3,fun j hj1 hj2=>?_⟩
     by_cases e:j=acc.length
     ·subst e
      refine⟨u,(h2 acc.length (by omega)).trans (by simp),hu,ho⟩
     exact h4 j (by omega) hj2
    cases h
   cases h
end
theorem zsC [Base]:zvF Tryz.prog 47 zg9:=by
 intro cl hcl hm args v hq g S w cs hw ha
 unfold zg9 at hq
 split at hq
 ·rename_i rows full e
  split at hq
  ·rename_i hc
   obtain⟨he0,hel,hrl⟩:=hc
   split at hq
   ·rename_i kind num text z3 r3 f3 r4 f4 hrow
    split at hq
    ·rename_i ks hks
     split at hq
     ·rename_i hkl
      obtain⟨c,d,rfl,h1,h2⟩:=zh3 ha
      obtain rfl:=zjz h2
      cases h1 with
      | data _ _ h1 =>
       have h10:=h1
       cases h1 with
       | list _ _ _ A cap cv hl hf hs hA hcell hv =>
        have hne:rows≠[]:=fun e=>by rw[e] at hel;simp at hel
        obtain⟨ad,rfl,hspot⟩:=hA hne
        obtain⟨bl,ol,sp⟩:=ad
        simp only at hspot
        subst hspot
        have q:∀ (j:Nat) (u:PV),[PV.int .i64 kind,.int .i64 num,.str text,.list z3 r3 f3,.list 1 r4 f4][j]?=some u→w.cell? ⟨bl,ol+(e.toNat*5+j),none⟩=some (cv e.toNat j)∧FR g.fz u (cv e.toNat j):=fun j u hu =>
         ⟨hw.fz _ _ _ (hcell ⟨bl,ol,none⟩ e.toNat j _ u rfl hrow hu),hv e.toNat j _ u hrow hu⟩
        obtain⟨q0,v0⟩:=q 0 _ rfl
        obtain⟨q1,v1⟩:=q 1 _ rfl
        obtain⟨q2,v2⟩:=q 2 _ rfl
        obtain⟨q3,v3⟩:=q 3 _ rfl
        obtain⟨q4,v4⟩:=q 4 _ rfl
        have w3:=v3
        have w4:=v4
        generalize cv e.toNat 0=u0 at *
        generalize cv e.toNat 1=u1 at *
        generalize cv e.toNat 2=u2 at *
        generalize cv e.toNat 3=u3 at *
        generalize cv e.toNat 4=u4 at *
        cases v0
        cases v1
        cases v2
        cases v3 with
        | list _ _ _ A3 c3 _ _ _ _ _ _ _ =>
         cases v4 with
         | list _ _ _ A4 c4 cv4 _ _ _ hA4 hcell4 hv4 =>
          have hbl:bl < w.heap.size:=zck q0
          have hr4:=zkd hks
          have hl4:r4.length=ks.length:=by rw[hr4,List.length_map]
          have hkid:∀ j,j < ks.length→r4[j]?=some [.int .i64 ((ks[j]?).getD 0)]:=fun j hj=>by rw[hr4,List.getElem?_map,List.getElem?_eq_getElem hj];rfl
          have hI:Bk.Ints w.heap.size w (.slice A4 r4.length c4) ks:=by
           by_cases h0:0 < ks.length
           ·have hne4:r4≠[]:=fun e=>by rw[e] at hl4;simp at hl4;omega
            obtain⟨⟨b4,o4,sp4⟩,rfl,hs4⟩:=hA4 hne4
            simp only at hs4
            subst hs4
            have hcell4':∀ j,j < ks.length→w.cell? ⟨b4,o4+j,none⟩=some (.int .i64 ((ks[j]?).getD 0)):=fun j hj=>by
             have h5:=hcell4 ⟨b4,o4,none⟩ j 0 _ _ rfl (hkid j hj) rfl
             have h6:=hv4 j 0 _ _ (hkid j hj) rfl
             have h7:=hw.fz _ _ _ h5
             simp only[Nat.mul_one,Nat.add_zero] at h7
             rw[h7,zjz (g:=g) (.data _ _ h6)]
            exact .inr ⟨h0,b4,o4,c4,by rw[hl4],zck (hcell4' 0 h0),hcell4'⟩
           exact .inl ⟨A4,c4,by rw[hl4,show ks.length=0 by omega],List.length_eq_zero_iff.1 (by omega)⟩
          have ee:e=((e.toNat:Nat):Int):=by omega
          unfold zoh at hq
          simp only[Qn.ev] at hq
          cases hk73:zaz cl 73 [.int .i64 kind] with
          | none=>rw[hk73] at hq;cases hq
          | some k73 =>
           rw[hk73] at hq
           simp only at hq
           split at hq
           ·rename_i kk
            have hK:∀ W,Below w.heap.size w W→Calls Tryz.prog 73 #[.int .i64 kind] W fun x W'=>x=.returned (.int .i64 kk)∧Below W.heap.size W W':=fun W hb =>
             (znS hcl hk73 hw hb (zsE (.data _ _ (.int _ _))) (enters_of Tryz.func73 (by kernel_rfl) rfl _ _)).mono fun x W' ⟨c,g',h1,h2,h3⟩=>⟨by rw[h1,zjz h2],h3⟩
            have fin:∀ (res:Int) (pp:Bool) (o:Int→Int),
              ((kk=ks.length∨kk=-1)→∀ W,Below w.heap.size w W→Calls Tryz.prog 74 #[.agg #[.int .i64 kind,.int .i64 num,.string ⟨text.toArray⟩,.slice A3 r3.length c3,.slice A4 r4.length c4]] W fun x W'=>x=.returned (.bool pp)∧Below W.heap.size W W') →
              ((kk=ks.length∨kk=-1)→pp=true→∀ k:Int,0≤k→k < e.toNat→o k≤k∧∀ W,Below w.heap.size w W→Calls Tryz.prog 47 #[.slice (some ⟨bl,ol,none⟩) rows.length cap,.int .i64 k] W fun x W'=>x=.returned (.int .i64 (o k))∧Below W.heap.size W W') →
              (res=if (kk≠ks.length∧kk≠-1)∨pp=false then -1 else Bk.run o e.toNat ks.reverse)→v=.int .i64 res →
              Answers Tryz.prog 47 #[.slice (some ⟨bl,ol,none⟩) rows.length cap,.int .i64 e] w (zX g S w (.ok (.v v) S)):=fun res pp o hP hB hr hv=>by
             have key:=Bk.begin_in w bl ol rows.length cap e.toNat kind num ⟨text.toArray⟩ A3 A4 r3.length c3 r4.length c4 ks kk pp o res hbl hel hrl hl q0 q1 q2 q3 q4 hl4 hI hkl hK hP hB hr
             rw[←ee] at key
             subst hv
             left
             refine⟨enters_of Tryz.func47 (by kernel_rfl) rfl _ _,key.mono fun x W' ⟨h1,h2⟩=>?_⟩
             subst h1
             exact zmL hw h2 (.data _ _ (.int _ _))
            split at hq
            ·rename_i hkk
             simp only[Qn.ev,Option.some.injEq] at hq
             exact fin (-1) false (fun _=>0) (fun h=>absurd h (by rintro (h | h);exact hkk.1 h;exact hkk.2 h)) (fun _ h=>by cases h) (by rw[if_pos (.inl hkk)]) hq.symm
            rename_i hkk
            simp only[Qn.ev] at hq
            cases hk74:zaz cl 74 [.agg [.int .i64 kind,.int .i64 num,.str text,.list z3 r3 f3,.list 1 r4 f4]] with
            | none=>rw[hk74] at hq;cases hq
            | some k74 =>
             rw[hk74] at hq
             simp only at hq
             split at hq
             ·rename_i pp
              have hP:(kk=ks.length∨kk=-1)→∀ W,Below w.heap.size w W→Calls Tryz.prog 74 #[.agg #[.int .i64 kind,.int .i64 num,.string ⟨text.toArray⟩,.slice A3 r3.length c3,.slice A4 r4.length c4]] W fun x W'=>x=.returned (.bool pp)∧Below W.heap.size W W':=fun _ W hb =>
               (znS hcl hk74 hw hb (zsE (zwh (.data _ _ (.int _ _)) (.data _ _ (.int _ _)) (.data _ _ (.str _)) (.data _ _ w3) (.data _ _ w4))) (enters_of Tryz.func74 (by kernel_rfl) rfl _ _)).mono fun x W' ⟨c,g',h1,h2,h3⟩=>⟨by rw[h1,zvP h2],h3⟩
              split at hq
              ·rename_i hpp
               subst hpp
               simp only[Qn.ev,Option.some.injEq] at hq
               exact fin (-1) false (fun _=>0) hP (fun _ h=>by cases h) (by rw[if_pos (.inr rfl)]) hq.symm
              rename_i hpp
              obtain⟨rs,r1,r2,r3',r4'⟩:=zlA _ _ hq
              simp only[List.length_nil,Nat.zero_add] at r1 r4'
              simp only[Qn.ev,Option.some.injEq] at r3'
              refine fin _ pp (fun k=>(rs[k.toNat]?).getD 0) hP (fun _ _ k k0 k1=>?_) (by rw[if_neg (by rintro (h | h);exact hkk h;exact hpp h)]) (by rw[←r3',←ee])
              obtain⟨u,u1,u2,u3⟩:=r4' k.toNat (by omega) (by omega)
              have ek:((k.toNat:Nat):Int)=k:=by omega
              rw[ek] at u2 u3
              have e1:(rs[k.toNat]?).getD 0=u:=by rw[u1];rfl
              simp only[e1]
              exact⟨u2,fun W hb=>(znS hcl u3 hw hb (zxk (.data _ _ h10) (.data _ _ (.int _ _))) (enters_of Tryz.func47 (by kernel_rfl) rfl _ _)).mono fun x W' ⟨c,g',h1,h2,h3⟩=>⟨by rw[h1,zjz h2],h3⟩⟩
             cases hq
           cases hq
     cases hq
    cases hq
   cases hq
  cases hq
 cases hq
end Go.Proofs.YtfbcnpbhhooapaaGreatDoor.M
namespace Go.Proofs.YtfbcnpbhhooapaaGreatDoor.M
open Go Classical
noncomputable def zqk:Nat→Option XF:=fun f=>if f=106 then some (.fn (zmp)) else if f=108 then some (.fn (zmC)) else if f=94 then some (.fn (zkt)) else if f=112 then some (.fn (zqq)) else if f=179 then some (.fn (zhr)) else if f=129 then some (.fn (zhZ)) else if f=162 then some (.fn (ze7)) else if f=120 then some (.fn (zi5)) else if f=163 then some (.fn (zhK 218)) else if f=144 then some (.fn (zgY 1 8)) else if f=36 then some (.rcv rcv_Q36) else if f=47 then some (.orc zg9) else  none
noncomputable def SP:Prg:=zeN Tryz.prog zqk
theorem zjt:SP 106=some (.ext (zmp)):=rfl
theorem zfz:SP 108=some (.ext (zmC)):=rfl
theorem zkU:SP 112=some (.ext (zqq)):=rfl
theorem zfZ:SP 179=some (.ext (zhr)):=rfl
theorem zf9:SP 129=some (.ext (zhZ)):=rfl
theorem zgL:SP 162=some (.ext (ze7)):=rfl
theorem ze0:SP 163=some (.ext (zhK 218)):=rfl
theorem zeZ:SP 144=some (.ext (zgY 1 8)):=rfl
theorem zrl:SP 36=some (.rcv rcv_Q36):=rfl
theorem zxL:SP 47=some (.orc zg9):=rfl
end Go.Proofs.YtfbcnpbhhooapaaGreatDoor.M
namespace Go.Proofs.YtfbcnpbhhooapaaGreatDoor.M
open Go Classical
def zqX (x0:List UInt8) (r0:Bool):Prop:=∀ (S:Sto),call SP 6 [.list 1 (x0.map eB) false] S=.ok (.v (.bool r0)) S
def zqT (x0:Int) (r0:List UInt8):Prop:=∀ (S:Sto),call SP 16 [.int .i64 x0] S=.ok (.v (.str r0)) S
def zmm (x0:Int) (r0:Int):Prop:=∀ (S:Sto),call SP 18 [.int .i64 x0] S=.ok (.v (.int .i64 r0)) S
def zbb (x0:List UInt8) (r0:List Node) (r1:Int):Prop:=∀ (S:Sto),call SP 20 [.str x0] S=.ok (.v (.tup [.list 5 (r0.map eNode) false,.int .i64 r1])) S
def zmv (x0:List Node) (x1:List Node) (r0:Bool):Prop:=∀ (S:Sto),call SP 21 [.list 5 (x0.map eNode) false,.list 5 (x1.map eNode) false] S=.ok (.v (.bool r0)) S
def zjw (x0:List UInt8) (r0:List Node):Prop:=∀ (S:Sto),call SP 22 [.list 1 (x0.map eB) false] S=.ok (.arr 5 (r0.map eNode) false) S
def zh8 (x0:List Node) (r0:List UInt8):Prop:=∀ (S:Sto),call SP 23 [.list 5 (x0.map eNode) false] S=.ok (.v (.str r0)) S
def zms (x0:List Node) (r0:List UInt8):Prop:=∀ (S:Sto),call SP 24 [.list 5 (x0.map eNode) false] S=.ok (.v (.str r0)) S
def ze3 (r0:Bool):Prop:=∀ (S:Sto),call SP 25 [] S=.ok (.v (.bool r0)) S
def zrf (x0:List Node) (r0:Bool):Prop:=∀ (S:Sto),call SP 26 [.list 5 (x0.map eNode) false] S=.ok (.v (.bool r0)) S
def zqe (x0:List Node) (r0:Bool):Prop:=∀ (S:Sto),call SP 29 [.list 5 (x0.map eNode) false] S=.ok (.v (.bool r0)) S
def zjV (x0:PBlocks) (x0_g2:Nat) (x0_z2:Bool) (x1:PV) (o:Option Int) (x0':PBlocks) (x0'_g2:Nat) (x0'_z2:Bool) (x1':PV):Prop:=∀ (S:Sto) (n0:Nat) (t0:Nat) (n1:Nat) (t1:Nat),(getBox S n0 t0).map (List.take 4)=some [.list 5 (x0.exprs.tokens.l.map eToken) false,.int .i64 x0.exprs.tokens.pos,.sl 0 (.cell t0 2) 0 x0.exprs.out.length x0.exprs.out.length x0_g2 false,.int .i64 x0.exprs.deep]∧getArr S n0 (.cell t0 2)=some ⟨5,x0.exprs.out.map eNode,x0_z2,x0_g2⟩→(getBox S n1 t1).map (List.take 1)=some [x1]→n0≠n1→call SP 40 [.ptr n0 t0 0,.ptr n1 t1 0] S=po 116 o (.v (.tup [])) (setBox (setArr (setBox S n0 t0 ([.list 5 (x0'.exprs.tokens.l.map eToken) false,.int .i64 x0'.exprs.tokens.pos,.sl 0 (.cell t0 2) 0 x0'.exprs.out.length x0'.exprs.out.length x0'_g2 false,.int .i64 x0'.exprs.deep]++((getBox S n0 t0).getD []).drop 4)) n0 (.cell t0 2) ⟨5,x0'.exprs.out.map eNode,x0'_z2,x0'_g2⟩) n1 t1 ([x1']++((getBox (setArr (setBox S n0 t0 ([.list 5 (x0'.exprs.tokens.l.map eToken) false,.int .i64 x0'.exprs.tokens.pos,.sl 0 (.cell t0 2) 0 x0'.exprs.out.length x0'.exprs.out.length x0'_g2 false,.int .i64 x0'.exprs.deep]++((getBox S n0 t0).getD []).drop 4)) n0 (.cell t0 2) ⟨5,x0'.exprs.out.map eNode,x0'_z2,x0'_g2⟩) n1 t1).getD []).drop 1))
def zq7 (x0:List Part) (x1:List Part) (r0:Bool):Prop:=∀ (S:Sto),call SP 43 [.list 2 (x0.map ePart) false,.list 2 (x1.map ePart) false] S=.ok (.v (.bool r0)) S
def zqx (x0:List Int) (x1:List Int) (r0:Bool):Prop:=∀ (S:Sto),call SP 44 [.list 1 (x0.map eI) false,.list 1 (x1.map eI) false] S=.ok (.v (.bool r0)) S
def zaQ (x0:List Node) (x1:Int) (r0:List UInt8):Prop:=∀ (S:Sto),call SP 46 [.list 5 (x0.map eNode) false,.int .i64 x1] S=.ok (.v (.str r0)) S
def zvh (x0:List Node) (x1:Int) (r0:Int):Prop:=∀ (S:Sto),call SP 47 [.list 5 (x0.map eNode) false,.int .i64 x1] S=.ok (.v (.int .i64 r0)) S
def zmr (x0:Int) (r0:Int):Prop:=∀ (S:Sto),call SP 48 [.int .i64 x0] S=.ok (.v (.int .i64 r0)) S
def zhV (x0:Node) (r0:Bool):Prop:=∀ (S:Sto),call SP 49 [.agg (eNode x0)] S=.ok (.v (.bool r0)) S
def zc8 (x0:List UInt8) (r0:List Token) (r1:Int):Prop:=∀ (S:Sto),call SP 60 [.str x0] S=.ok (.v (.tup [.list 5 (r0.map eToken) false,.int .i64 r1])) S
def zL (x0:List (List UInt8)) (x1:List UInt8) (r0:Int):Prop:=∀ (S:Sto),call SP 62 [.list 1 (x0.map eS) false,.str x1] S=.ok (.v (.int .i64 r0)) S
def zqI (x0:List Part) (r0:List UInt8):Prop:=∀ (S:Sto),call SP 70 [.list 2 (x0.map ePart) false] S=.ok (.v (.str r0)) S
def zcB (x0:List UInt8) (x1:Bool) (r0:List UInt8):Prop:=∀ (S:Sto),call SP 71 [.str x0,.bool x1] S=.ok (.v (.str r0)) S
def zc7 (x0:Int) (r0:Int):Prop:=∀ (S:Sto),call SP 72 [.int .i64 x0] S=.ok (.v (.int .i64 r0)) S
def zvw (x0:Int) (r0:Int):Prop:=∀ (S:Sto),call SP 73 [.int .i64 x0] S=.ok (.v (.int .i64 r0)) S
def zva (x0:Node) (r0:Bool):Prop:=∀ (S:Sto),call SP 74 [.agg (eNode x0)] S=.ok (.v (.bool r0)) S
def zrb (x0:List Part) (r0:Bool):Prop:=∀ (S:Sto),call SP 76 [.list 2 (x0.map ePart) false] S=.ok (.v (.bool r0)) S
def zkb (x0:List UInt8) (x1:Int) (r0:Int):Prop:=∀ (S:Sto),call SP 77 [.str x0,.int .i64 x1] S=.ok (.v (.int .i64 r0)) S
def zmA (x0:List UInt8) (r0:Bool):Prop:=∀ (S:Sto),call SP 78 [.str x0] S=.ok (.v (.bool r0)) S
def zj2 (x0:List UInt8) (r0:Bool):Prop:=∀ (S:Sto),call SP 79 [.str x0] S=.ok (.v (.bool r0)) S
def zcg (x0:Int) (r0:List UInt8):Prop:=∀ (S:Sto),call SP 106 [.int .i64 x0] S=.ok (.v (.str r0)) S
def zdm (x0:Bool) (r0:List UInt8):Prop:=∀ (S:Sto),call SP 108 [.bool x0] S=.ok (.v (.str r0)) S
def zbe (x0:List UInt8) (x1:List UInt8) (r0:List UInt8) (r1:List UInt8) (r2:Bool):Prop:=∀ (S:Sto),call SP 112 [.str x0,.str x1] S=.ok (.v (.tup [.str r0,.str r1,.bool r2])) S
def zjM (x0:List UInt8) (r0:Bool):Prop:=∀ (S:Sto),call SP 113 [.str x0] S=.ok (.v (.bool r0)) S
def zjj (x0:List UInt8) (r0:Bool):Prop:=∀ (S:Sto),call SP 114 [.str x0] S=.ok (.v (.bool r0)) S
def zdd (x0:List UInt8) (r0:Bool):Prop:=∀ (S:Sto),call SP 115 [.str x0] S=.ok (.v (.bool r0)) S
def zmH (x0:List Part) (r0:Bool):Prop:=∀ (S:Sto),call SP 116 [.list 2 (x0.map ePart) false] S=.ok (.v (.bool r0)) S
def zjl (x0:UInt8) (r0:Bool):Prop:=∀ (S:Sto),call SP 118 [.int .u8 ((x0.toNat:Nat):Int)] S=.ok (.v (.bool r0)) S
def zof (x0:UInt8) (r0:Bool):Prop:=∀ (S:Sto),call SP 119 [.int .u8 ((x0.toNat:Nat):Int)] S=.ok (.v (.bool r0)) S
def zbQ (x0:List UInt8) (x1:List UInt8) (r0:Bool):Prop:=∀ (S:Sto),call SP 129 [.str x0,.str x1] S=.ok (.v (.bool r0)) S
def zeH (x0:UInt8) (r0:Int):Prop:=∀ (S:Sto),call SP 137 [.int .u8 ((x0.toNat:Nat):Int)] S=.ok (.v (.int .i64 r0)) S
def zhk (x0:Int) (x1:List UInt8) (r0:Int) (r1:Bool):Prop:=∀ (S:Sto),call SP 143 [.int .i64 x0,.str x1] S=.ok (.v (.tup [.int .i64 r0,.bool r1])) S
def zcs (x0:List Int) (r0:List Int):Prop:=∀ (S:Sto),call SP 144 [.list 1 (x0.map eI) false] S=.ok (.v (.list 1 (r0.map eI) false)) S
def zjW (x0:Int) (r0:Int):Prop:=∀ (S:Sto),call SP 148 [.int .i64 x0] S=.ok (.v (.int .i64 r0)) S
def zjZ (x0:Int) (r0:List UInt8):Prop:=∀ (S:Sto),call SP 149 [.int .i64 x0] S=.ok (.v (.str r0)) S
def zhx (x0:List UInt8) (x1:List Int) (r0:Int):Prop:=∀ (S:Sto),call SP 151 [.str x0,.list 1 (x1.map eI) false] S=.ok (.v (.int .i64 r0)) S
def zji (x0:List UInt8) (r0:Bool):Prop:=∀ (S:Sto),call SP 152 [.str x0] S=.ok (.v (.bool r0)) S
def zV (x0:List (List UInt8)) (x1:List UInt8) (r0:Bool):Prop:=∀ (S:Sto),call SP 161 [.list 1 (x0.map eS) false,.str x1] S=.ok (.v (.bool r0)) S
def zbY (x0:List UInt8) (x1:List UInt8) (r0:Bool):Prop:=∀ (S:Sto),call SP 162 [.str x0,.str x1] S=.ok (.v (.bool r0)) S
def zdy (x0:List UInt8) (r0:Int) (r1:Bool):Prop:=∀ (S:Sto),call SP 163 [.str x0] S=.ok (.v (.tup [.int .i64 r0,eE 218 r1])) S
def zm0 (x0:List UInt8) (r0:UInt8) (r1:Bool):Prop:=∀ (S:Sto),call SP 164 [.str x0] S=.ok (.v (.tup [.int .u8 ((r0.toNat:Nat):Int),.bool r1])) S
def zhH (x0:List UInt8) (r0:List UInt8) (r1:Bool):Prop:=∀ (S:Sto),call SP 166 [.str x0] S=.ok (.v (.tup [.str r0,.bool r1])) S
def zaX (x0:List Int) (x1:Int) (r0:Bool):Prop:=∀ (S:Sto),call SP 170 [.list 1 (x0.map eI) false,.int .i64 x1] S=.ok (.v (.bool r0)) S
def zdo (x0:List UInt8) (x1:UInt8) (r0:Int):Prop:=∀ (S:Sto),call SP 179 [.str x0,.int .u8 ((x1.toNat:Nat):Int)] S=.ok (.v (.int .i64 r0)) S
def zcr (x0:List Int) (x1:Int) (r0:Int):Prop:=∀ (S:Sto),call SP 190 [.list 1 (x0.map eI) false,.int .i64 x1] S=.ok (.v (.int .i64 r0)) S
def zbv (x0:PTokens) (r0:Token) (x0':PTokens):Prop:=∀ (S:Sto) (n0:Nat) (t0:Nat),(getBox S n0 t0).map (List.take 2)=some [.list 5 (x0.l.map eToken) false,.int .i64 x0.pos]→call SP 38 [.ptr n0 t0 0] S=.ok (.v (.agg [.int .i64 r0.Kind,.str r0.Text,.int .i64 r0.Num,.list 2 (r0.Parts.map ePart) false,.int .i64 r0.At])) (setBox S n0 t0 ([.list 5 (x0'.l.map eToken) false,.int .i64 x0'.pos]++((getBox S n0 t0).getD []).drop 2))
def zjo (x0:PExprs) (x0_g2:Nat) (x0_z2:Bool) (o:Option Int) (r0:List Node) (x0':PExprs) (x0'_g2:Nat) (x0'_z2:Bool):Prop:=∀ (S:Sto) (n0:Nat) (t0:Nat),(getBox S n0 t0).map (List.take 4)=some [.list 5 (x0.tokens.l.map eToken) false,.int .i64 x0.tokens.pos,.sl 0 (.cell t0 2) 0 x0.out.length x0.out.length x0_g2 false,.int .i64 x0.deep]∧getArr S n0 (.cell t0 2)=some ⟨5,x0.out.map eNode,x0_z2,x0_g2⟩→call SP 41 [.ptr n0 t0 0] S=po 116 o (.v (.list 5 (r0.map eNode) false)) (setArr (setBox S n0 t0 ([.list 5 (x0'.tokens.l.map eToken) false,.int .i64 x0'.tokens.pos,.sl 0 (.cell t0 2) 0 x0'.out.length x0'.out.length x0'_g2 false,.int .i64 x0'.deep]++((getBox S n0 t0).getD []).drop 4)) n0 (.cell t0 2) ⟨5,x0'.out.map eNode,x0'_z2,x0'_g2⟩)
def zdM (x0:PTokens) (x1:Int) (o:Option Int) (x0':PTokens):Prop:=∀ (S:Sto) (n0:Nat) (t0:Nat),(getBox S n0 t0).map (List.take 2)=some [.list 5 (x0.l.map eToken) false,.int .i64 x0.pos]→call SP 42 [.ptr n0 t0 0,.int .i64 x1] S=po 116 o (.v (.tup [])) (setBox S n0 t0 ([.list 5 (x0'.l.map eToken) false,.int .i64 x0'.pos]++((getBox S n0 t0).getD []).drop 2))
def zq8 (x0:SWriter) (x0_g0:Nat) (x0_z0:Bool) (x1:List Node) (x0':SWriter) (x0'_g0:Nat) (x0'_z0:Bool):Prop:=∀ (S:Sto) (n0:Nat) (t0:Nat),(getBox S n0 t0).map (List.take 1)=some [.sl 0 (.cell t0 0) 0 x0.out.length x0.out.length x0_g0 false]∧getArr S n0 (.cell t0 0)=some ⟨1,x0.out.map eB,x0_z0,x0_g0⟩→call SP 45 [.ptr n0 t0 0,.list 5 (x1.map eNode) false] S=.ok (.v (.tup [])) (setArr (setBox S n0 t0 ([.sl 0 (.cell t0 0) 0 x0'.out.length x0'.out.length x0'_g0 false]++((getBox S n0 t0).getD []).drop 1)) n0 (.cell t0 0) ⟨1,x0'.out.map eB,x0'_z0,x0'_g0⟩)
def zcZ (x0:PTokens) (x1:List UInt8) (o:Option Int) (x0':PTokens):Prop:=∀ (S:Sto) (n0:Nat) (t0:Nat),(getBox S n0 t0).map (List.take 2)=some [.list 5 (x0.l.map eToken) false,.int .i64 x0.pos]→call SP 66 [.ptr n0 t0 0,.str x1] S=po 116 o (.v (.tup [])) (setBox S n0 t0 ([.list 5 (x0'.l.map eToken) false,.int .i64 x0'.pos]++((getBox S n0 t0).getD []).drop 2))
def zei (x0:PTokens) (x1:List UInt8) (r0:Bool) (x0':PTokens):Prop:=∀ (S:Sto) (n0:Nat) (t0:Nat),(getBox S n0 t0).map (List.take 2)=some [.list 5 (x0.l.map eToken) false,.int .i64 x0.pos]→call SP 67 [.ptr n0 t0 0,.str x1] S=.ok (.v (.bool r0)) (setBox S n0 t0 ([.list 5 (x0'.l.map eToken) false,.int .i64 x0'.pos]++((getBox S n0 t0).getD []).drop 2))
def zbh (x0:PExprs) (x0_g2:Nat) (x0_z2:Bool) (o:Option Int) (r0:Int) (x0':PExprs) (x0'_g2:Nat) (x0'_z2:Bool):Prop:=∀ (S:Sto) (n0:Nat) (t0:Nat),(getBox S n0 t0).map (List.take 4)=some [.list 5 (x0.tokens.l.map eToken) false,.int .i64 x0.tokens.pos,.sl 0 (.cell t0 2) 0 x0.out.length x0.out.length x0_g2 false,.int .i64 x0.deep]∧getArr S n0 (.cell t0 2)=some ⟨5,x0.out.map eNode,x0_z2,x0_g2⟩→call SP 68 [.ptr n0 t0 0] S=po 116 o (.v (.int .i64 r0)) (setArr (setBox S n0 t0 ([.list 5 (x0'.tokens.l.map eToken) false,.int .i64 x0'.tokens.pos,.sl 0 (.cell t0 2) 0 x0'.out.length x0'.out.length x0'_g2 false,.int .i64 x0'.deep]++((getBox S n0 t0).getD []).drop 4)) n0 (.cell t0 2) ⟨5,x0'.out.map eNode,x0'_z2,x0'_g2⟩)
def zbV (x0:SWriter) (x0_g0:Nat) (x0_z0:Bool) (x0_l:List Node) (x1:Int) (x0':SWriter) (x0'_g0:Nat) (x0'_z0:Bool):Prop:=∀ (S:Sto) (n0:Nat) (t0:Nat),(getBox S n0 t0).map (List.take 1)=some [.sl 0 (.cell t0 0) 0 x0.out.length x0.out.length x0_g0 false]∧getArr S n0 (.cell t0 0)=some ⟨1,x0.out.map eB,x0_z0,x0_g0⟩→call SP 69 [.agg [.ptr n0 t0 0,.list 5 (x0_l.map eNode) false],.int .i64 x1] S=.ok (.v (.tup [])) (setArr (setBox S n0 t0 ([.sl 0 (.cell t0 0) 0 x0'.out.length x0'.out.length x0'_g0 false]++((getBox S n0 t0).getD []).drop 1)) n0 (.cell t0 0) ⟨1,x0'.out.map eB,x0'_z0,x0'_g0⟩)
def zY (x0:SWriter) (x0_g0:Nat) (x0_z0:Bool) (x1:List (List UInt8)) (x0':SWriter) (x0'_g0:Nat) (x0'_z0:Bool):Prop:=∀ (S:Sto) (n0:Nat) (t0:Nat),(getBox S n0 t0).map (List.take 1)=some [.sl 0 (.cell t0 0) 0 x0.out.length x0.out.length x0_g0 false]∧getArr S n0 (.cell t0 0)=some ⟨1,x0.out.map eB,x0_z0,x0_g0⟩→call SP 95 [.ptr n0 t0 0,.list 1 (x1.map eS) false] S=.ok (.v (.tup [])) (setArr (setBox S n0 t0 ([.sl 0 (.cell t0 0) 0 x0'.out.length x0'.out.length x0'_g0 false]++((getBox S n0 t0).getD []).drop 1)) n0 (.cell t0 0) ⟨1,x0'.out.map eB,x0'_z0,x0'_g0⟩)
def zmz (x0:LTokens) (x0_g2:Nat) (x0_z2:Bool) (x0':LTokens) (x0'_g2:Nat) (x0'_z2:Bool):Prop:=∀ (S:Sto) (n0:Nat) (t0:Nat),(getBox S n0 t0).map (List.take 3)=some [.str x0.text.left,.int .i64 x0.text.pos,.sl 0 (.cell t0 2) 0 x0.out.length x0.out.length x0_g2 false]∧getArr S n0 (.cell t0 2)=some ⟨5,x0.out.map eToken,x0_z2,x0_g2⟩→call SP 97 [.ptr n0 t0 0] S=.ok (.v (.tup [])) (setArr (setBox S n0 t0 ([.str x0'.text.left,.int .i64 x0'.text.pos,.sl 0 (.cell t0 2) 0 x0'.out.length x0'.out.length x0'_g2 false]++((getBox S n0 t0).getD []).drop 3)) n0 (.cell t0 2) ⟨5,x0'.out.map eToken,x0'_z2,x0'_g2⟩)
def zmx (x0:LTokens) (x0_g2:Nat) (x0_z2:Bool) (r0:Bool) (x0':LTokens) (x0'_g2:Nat) (x0'_z2:Bool):Prop:=∀ (S:Sto) (n0:Nat) (t0:Nat),(getBox S n0 t0).map (List.take 3)=some [.str x0.text.left,.int .i64 x0.text.pos,.sl 0 (.cell t0 2) 0 x0.out.length x0.out.length x0_g2 false]∧getArr S n0 (.cell t0 2)=some ⟨5,x0.out.map eToken,x0_z2,x0_g2⟩→call SP 98 [.ptr n0 t0 0] S=.ok (.v (.bool r0)) (setArr (setBox S n0 t0 ([.str x0'.text.left,.int .i64 x0'.text.pos,.sl 0 (.cell t0 2) 0 x0'.out.length x0'.out.length x0'_g2 false]++((getBox S n0 t0).getD []).drop 3)) n0 (.cell t0 2) ⟨5,x0'.out.map eToken,x0'_z2,x0'_g2⟩)
def zeQ (x0:PTokens) (o:Option Int) (r0:List UInt8) (x0':PTokens):Prop:=∀ (S:Sto) (n0:Nat) (t0:Nat),(getBox S n0 t0).map (List.take 2)=some [.list 5 (x0.l.map eToken) false,.int .i64 x0.pos]→call SP 101 [.ptr n0 t0 0] S=po 116 o (.v (.str r0)) (setBox S n0 t0 ([.list 5 (x0'.l.map eToken) false,.int .i64 x0'.pos]++((getBox S n0 t0).getD []).drop 2))
def zas (x0:PTokens) (x1:List UInt8) (r0:Bool) (x0':PTokens):Prop:=∀ (S:Sto) (n0:Nat) (t0:Nat),(getBox S n0 t0).map (List.take 2)=some [.list 5 (x0.l.map eToken) false,.int .i64 x0.pos]→call SP 102 [.ptr n0 t0 0,.str x1] S=.ok (.v (.bool r0)) (setBox S n0 t0 ([.list 5 (x0'.l.map eToken) false,.int .i64 x0'.pos]++((getBox S n0 t0).getD []).drop 2))
def zdg (x0:PExprs) (x0_g2:Nat) (x0_z2:Bool) (x1:Int) (o:Option Int) (r0:Int) (x0':PExprs) (x0'_g2:Nat) (x0'_z2:Bool):Prop:=∀ (S:Sto) (n0:Nat) (t0:Nat),(getBox S n0 t0).map (List.take 4)=some [.list 5 (x0.tokens.l.map eToken) false,.int .i64 x0.tokens.pos,.sl 0 (.cell t0 2) 0 x0.out.length x0.out.length x0_g2 false,.int .i64 x0.deep]∧getArr S n0 (.cell t0 2)=some ⟨5,x0.out.map eNode,x0_z2,x0_g2⟩→call SP 103 [.ptr n0 t0 0,.int .i64 x1] S=po 116 o (.v (.int .i64 r0)) (setArr (setBox S n0 t0 ([.list 5 (x0'.tokens.l.map eToken) false,.int .i64 x0'.tokens.pos,.sl 0 (.cell t0 2) 0 x0'.out.length x0'.out.length x0'_g2 false,.int .i64 x0'.deep]++((getBox S n0 t0).getD []).drop 4)) n0 (.cell t0 2) ⟨5,x0'.out.map eNode,x0'_z2,x0'_g2⟩)
def zaI (x0:PExprs) (x0_g2:Nat) (x0_z2:Bool) (x1:List UInt8) (o:Option Int) (x0':PExprs) (x0'_g2:Nat) (x0'_z2:Bool):Prop:=∀ (S:Sto) (n0:Nat) (t0:Nat),(getBox S n0 t0).map (List.take 4)=some [.list 5 (x0.tokens.l.map eToken) false,.int .i64 x0.tokens.pos,.sl 0 (.cell t0 2) 0 x0.out.length x0.out.length x0_g2 false,.int .i64 x0.deep]∧getArr S n0 (.cell t0 2)=some ⟨5,x0.out.map eNode,x0_z2,x0_g2⟩→call SP 104 [.ptr n0 t0 0,.str x1] S=po 116 o (.v (.tup [])) (setArr (setBox S n0 t0 ([.list 5 (x0'.tokens.l.map eToken) false,.int .i64 x0'.tokens.pos,.sl 0 (.cell t0 2) 0 x0'.out.length x0'.out.length x0'_g2 false,.int .i64 x0'.deep]++((getBox S n0 t0).getD []).drop 4)) n0 (.cell t0 2) ⟨5,x0'.out.map eNode,x0'_z2,x0'_g2⟩)
def zao (x0:PExprs) (x0_g2:Nat) (x0_z2:Bool) (x1:Int) (x2:List UInt8) (x3:List Int) (r0:Int) (x0':PExprs) (x0'_g2:Nat) (x0'_z2:Bool):Prop:=∀ (S:Sto) (n0:Nat) (t0:Nat),(getBox S n0 t0).map (List.take 4)=some [.list 5 (x0.tokens.l.map eToken) false,.int .i64 x0.tokens.pos,.sl 0 (.cell t0 2) 0 x0.out.length x0.out.length x0_g2 false,.int .i64 x0.deep]∧getArr S n0 (.cell t0 2)=some ⟨5,x0.out.map eNode,x0_z2,x0_g2⟩→call SP 105 [.ptr n0 t0 0,.int .i64 x1,.str x2,.list 1 (x3.map eI) false] S=.ok (.v (.int .i64 r0)) (setArr (setBox S n0 t0 ([.list 5 (x0'.tokens.l.map eToken) false,.int .i64 x0'.tokens.pos,.sl 0 (.cell t0 2) 0 x0'.out.length x0'.out.length x0'_g2 false,.int .i64 x0'.deep]++((getBox S n0 t0).getD []).drop 4)) n0 (.cell t0 2) ⟨5,x0'.out.map eNode,x0'_z2,x0'_g2⟩)
def zoe (x0:SWriter) (x0_g0:Nat) (x0_z0:Bool) (x0_l:List Node) (x1:List Part) (x0':SWriter) (x0'_g0:Nat) (x0'_z0:Bool):Prop:=∀ (S:Sto) (n0:Nat) (t0:Nat),(getBox S n0 t0).map (List.take 1)=some [.sl 0 (.cell t0 0) 0 x0.out.length x0.out.length x0_g0 false]∧getArr S n0 (.cell t0 0)=some ⟨1,x0.out.map eB,x0_z0,x0_g0⟩→call SP 107 [.agg [.ptr n0 t0 0,.list 5 (x0_l.map eNode) false],.list 2 (x1.map ePart) false] S=.ok (.v (.tup [])) (setArr (setBox S n0 t0 ([.sl 0 (.cell t0 0) 0 x0'.out.length x0'.out.length x0'_g0 false]++((getBox S n0 t0).getD []).drop 1)) n0 (.cell t0 0) ⟨1,x0'.out.map eB,x0'_z0,x0'_g0⟩)
def zj8 (x0:SWriter) (x0_g0:Nat) (x0_z0:Bool) (x0_l:List Node) (x1:List Int) (x0':SWriter) (x0'_g0:Nat) (x0'_z0:Bool):Prop:=∀ (S:Sto) (n0:Nat) (t0:Nat),(getBox S n0 t0).map (List.take 1)=some [.sl 0 (.cell t0 0) 0 x0.out.length x0.out.length x0_g0 false]∧getArr S n0 (.cell t0 0)=some ⟨1,x0.out.map eB,x0_z0,x0_g0⟩→call SP 109 [.agg [.ptr n0 t0 0,.list 5 (x0_l.map eNode) false],.list 1 (x1.map eI) false] S=.ok (.v (.tup [])) (setArr (setBox S n0 t0 ([.sl 0 (.cell t0 0) 0 x0'.out.length x0'.out.length x0'_g0 false]++((getBox S n0 t0).getD []).drop 1)) n0 (.cell t0 0) ⟨1,x0'.out.map eB,x0'_z0,x0'_g0⟩)
def zbZ (x0:SWriter) (x0_g0:Nat) (x0_z0:Bool) (x0_l:List Node) (x1:Int) (x2:Int) (x0':SWriter) (x0'_g0:Nat) (x0'_z0:Bool):Prop:=∀ (S:Sto) (n0:Nat) (t0:Nat),(getBox S n0 t0).map (List.take 1)=some [.sl 0 (.cell t0 0) 0 x0.out.length x0.out.length x0_g0 false]∧getArr S n0 (.cell t0 0)=some ⟨1,x0.out.map eB,x0_z0,x0_g0⟩→call SP 110 [.agg [.ptr n0 t0 0,.list 5 (x0_l.map eNode) false],.int .i64 x1,.int .i64 x2] S=.ok (.v (.tup [])) (setArr (setBox S n0 t0 ([.sl 0 (.cell t0 0) 0 x0'.out.length x0'.out.length x0'_g0 false]++((getBox S n0 t0).getD []).drop 1)) n0 (.cell t0 0) ⟨1,x0'.out.map eB,x0'_z0,x0'_g0⟩)
def zrk (x0:SWriter) (x0_g0:Nat) (x0_z0:Bool) (x0_l:List Node) (x1:Node) (x0':SWriter) (x0'_g0:Nat) (x0'_z0:Bool):Prop:=∀ (S:Sto) (n0:Nat) (t0:Nat),(getBox S n0 t0).map (List.take 1)=some [.sl 0 (.cell t0 0) 0 x0.out.length x0.out.length x0_g0 false]∧getArr S n0 (.cell t0 0)=some ⟨1,x0.out.map eB,x0_z0,x0_g0⟩→call SP 111 [.agg [.ptr n0 t0 0,.list 5 (x0_l.map eNode) false],.agg (eNode x1)] S=.ok (.v (.tup [])) (setArr (setBox S n0 t0 ([.sl 0 (.cell t0 0) 0 x0'.out.length x0'.out.length x0'_g0 false]++((getBox S n0 t0).getD []).drop 1)) n0 (.cell t0 0) ⟨1,x0'.out.map eB,x0'_z0,x0'_g0⟩)
def zdZ (x0:LText) (x1:List Int) (r0:List UInt8) (x0':LText):Prop:=∀ (S:Sto) (n0:Nat) (t0:Nat),(getBox S n0 t0).map (List.take 2)=some [.str x0.left,.int .i64 x0.pos]→call SP 134 [.ptr n0 t0 0,.list 1 (x1.map eI) false] S=.ok (.v (.str r0)) (setBox S n0 t0 ([.str x0'.left,.int .i64 x0'.pos]++((getBox S n0 t0).getD []).drop 2))
def za7 (x0:LText) (x1:Int) (r0:List UInt8) (x0':LText):Prop:=∀ (S:Sto) (n0:Nat) (t0:Nat),(getBox S n0 t0).map (List.take 2)=some [.str x0.left,.int .i64 x0.pos]→call SP 135 [.ptr n0 t0 0,.int .i64 x1] S=.ok (.v (.str r0)) (setBox S n0 t0 ([.str x0'.left,.int .i64 x0'.pos]++((getBox S n0 t0).getD []).drop 2))
def zjh (x0:LTokens) (x0_g2:Nat) (x0_z2:Bool) (r0:Token) (r1:Bool) (x0':LTokens) (x0'_g2:Nat) (x0'_z2:Bool):Prop:=∀ (S:Sto) (n0:Nat) (t0:Nat),(getBox S n0 t0).map (List.take 3)=some [.str x0.text.left,.int .i64 x0.text.pos,.sl 0 (.cell t0 2) 0 x0.out.length x0.out.length x0_g2 false]∧getArr S n0 (.cell t0 2)=some ⟨5,x0.out.map eToken,x0_z2,x0_g2⟩→call SP 136 [.ptr n0 t0 0] S=.ok (.v (.tup [.agg [.int .i64 r0.Kind,.str r0.Text,.int .i64 r0.Num,.list 2 (r0.Parts.map ePart) false,.int .i64 r0.At],.bool r1])) (setArr (setBox S n0 t0 ([.str x0'.text.left,.int .i64 x0'.text.pos,.sl 0 (.cell t0 2) 0 x0'.out.length x0'.out.length x0'_g2 false]++((getBox S n0 t0).getD []).drop 3)) n0 (.cell t0 2) ⟨5,x0'.out.map eToken,x0'_z2,x0'_g2⟩)
def zj7 (x0:LTokens) (x0_g2:Nat) (x0_z2:Bool) (r0:Token) (r1:Bool) (x0':LTokens) (x0'_g2:Nat) (x0'_z2:Bool):Prop:=∀ (S:Sto) (n0:Nat) (t0:Nat),(getBox S n0 t0).map (List.take 3)=some [.str x0.text.left,.int .i64 x0.text.pos,.sl 0 (.cell t0 2) 0 x0.out.length x0.out.length x0_g2 false]∧getArr S n0 (.cell t0 2)=some ⟨5,x0.out.map eToken,x0_z2,x0_g2⟩→call SP 138 [.ptr n0 t0 0] S=.ok (.v (.tup [.agg [.int .i64 r0.Kind,.str r0.Text,.int .i64 r0.Num,.list 2 (r0.Parts.map ePart) false,.int .i64 r0.At],.bool r1])) (setArr (setBox S n0 t0 ([.str x0'.text.left,.int .i64 x0'.text.pos,.sl 0 (.cell t0 2) 0 x0'.out.length x0'.out.length x0'_g2 false]++((getBox S n0 t0).getD []).drop 3)) n0 (.cell t0 2) ⟨5,x0'.out.map eToken,x0'_z2,x0'_g2⟩)
def zhv (x0:LTokens) (x0_g2:Nat) (x0_z2:Bool) (r0:Token) (r1:Bool) (x0':LTokens) (x0'_g2:Nat) (x0'_z2:Bool):Prop:=∀ (S:Sto) (n0:Nat) (t0:Nat),(getBox S n0 t0).map (List.take 3)=some [.str x0.text.left,.int .i64 x0.text.pos,.sl 0 (.cell t0 2) 0 x0.out.length x0.out.length x0_g2 false]∧getArr S n0 (.cell t0 2)=some ⟨5,x0.out.map eToken,x0_z2,x0_g2⟩→call SP 139 [.ptr n0 t0 0] S=.ok (.v (.tup [.agg [.int .i64 r0.Kind,.str r0.Text,.int .i64 r0.Num,.list 2 (r0.Parts.map ePart) false,.int .i64 r0.At],.bool r1])) (setArr (setBox S n0 t0 ([.str x0'.text.left,.int .i64 x0'.text.pos,.sl 0 (.cell t0 2) 0 x0'.out.length x0'.out.length x0'_g2 false]++((getBox S n0 t0).getD []).drop 3)) n0 (.cell t0 2) ⟨5,x0'.out.map eToken,x0'_z2,x0'_g2⟩)
def zg6 (x0:LTokens) (x0_g2:Nat) (x0_z2:Bool) (r0:Token) (r1:Bool) (x0':LTokens) (x0'_g2:Nat) (x0'_z2:Bool):Prop:=∀ (S:Sto) (n0:Nat) (t0:Nat),(getBox S n0 t0).map (List.take 3)=some [.str x0.text.left,.int .i64 x0.text.pos,.sl 0 (.cell t0 2) 0 x0.out.length x0.out.length x0_g2 false]∧getArr S n0 (.cell t0 2)=some ⟨5,x0.out.map eToken,x0_z2,x0_g2⟩→call SP 140 [.ptr n0 t0 0] S=.ok (.v (.tup [.agg [.int .i64 r0.Kind,.str r0.Text,.int .i64 r0.Num,.list 2 (r0.Parts.map ePart) false,.int .i64 r0.At],.bool r1])) (setArr (setBox S n0 t0 ([.str x0'.text.left,.int .i64 x0'.text.pos,.sl 0 (.cell t0 2) 0 x0'.out.length x0'.out.length x0'_g2 false]++((getBox S n0 t0).getD []).drop 3)) n0 (.cell t0 2) ⟨5,x0'.out.map eToken,x0'_z2,x0'_g2⟩)
def zc2 (x0:PExprs) (x0_g2:Nat) (x0_z2:Bool) (o:Option Int) (r0:Int) (x0':PExprs) (x0'_g2:Nat) (x0'_z2:Bool):Prop:=∀ (S:Sto) (n0:Nat) (t0:Nat),(getBox S n0 t0).map (List.take 4)=some [.list 5 (x0.tokens.l.map eToken) false,.int .i64 x0.tokens.pos,.sl 0 (.cell t0 2) 0 x0.out.length x0.out.length x0_g2 false,.int .i64 x0.deep]∧getArr S n0 (.cell t0 2)=some ⟨5,x0.out.map eNode,x0_z2,x0_g2⟩→call SP 142 [.ptr n0 t0 0] S=po 116 o (.v (.int .i64 r0)) (setArr (setBox S n0 t0 ([.list 5 (x0'.tokens.l.map eToken) false,.int .i64 x0'.tokens.pos,.sl 0 (.cell t0 2) 0 x0'.out.length x0'.out.length x0'_g2 false,.int .i64 x0'.deep]++((getBox S n0 t0).getD []).drop 4)) n0 (.cell t0 2) ⟨5,x0'.out.map eNode,x0'_z2,x0'_g2⟩)
def znW (x0:SWriter) (x0_g0:Nat) (x0_z0:Bool) (x1:List UInt8) (x0':SWriter) (x0'_g0:Nat) (x0'_z0:Bool):Prop:=∀ (S:Sto) (n0:Nat) (t0:Nat),(getBox S n0 t0).map (List.take 1)=some [.sl 0 (.cell t0 0) 0 x0.out.length x0.out.length x0_g0 false]∧getArr S n0 (.cell t0 0)=some ⟨1,x0.out.map eB,x0_z0,x0_g0⟩→call SP 146 [.ptr n0 t0 0,.str x1] S=.ok (.v (.tup [])) (setArr (setBox S n0 t0 ([.sl 0 (.cell t0 0) 0 x0'.out.length x0'.out.length x0'_g0 false]++((getBox S n0 t0).getD []).drop 1)) n0 (.cell t0 0) ⟨1,x0'.out.map eB,x0'_z0,x0'_g0⟩)
def zjB (x0:List Part) (x0_g0:Nat) (x0_z0:Bool) (x1:UInt8) (x0':List Part) (x0'_g0:Nat) (x0'_z0:Bool):Prop:=∀ (S:Sto) (n0:Nat) (t0:Nat),(getBox S n0 t0).map (List.take 1)=some [.sl 0 (.cell t0 0) 0 x0.length x0.length x0_g0 false]∧getArr S n0 (.cell t0 0)=some ⟨2,x0.map ePart,x0_z0,x0_g0⟩→call SP 165 [.ptr n0 t0 0,.int .u8 ((x1.toNat:Nat):Int)] S=.ok (.v (.tup [])) (setArr (setBox S n0 t0 ([.sl 0 (.cell t0 0) 0 x0'.length x0'.length x0'_g0 false]++((getBox S n0 t0).getD []).drop 1)) n0 (.cell t0 0) ⟨2,x0'.map ePart,x0'_z0,x0'_g0⟩)
def zhG (x0:PExprs) (x0_g2:Nat) (x0_z2:Bool) (o:Option Int) (r0:Int) (x0':PExprs) (x0'_g2:Nat) (x0'_z2:Bool):Prop:=∀ (S:Sto) (n0:Nat) (t0:Nat),(getBox S n0 t0).map (List.take 4)=some [.list 5 (x0.tokens.l.map eToken) false,.int .i64 x0.tokens.pos,.sl 0 (.cell t0 2) 0 x0.out.length x0.out.length x0_g2 false,.int .i64 x0.deep]∧getArr S n0 (.cell t0 2)=some ⟨5,x0.out.map eNode,x0_z2,x0_g2⟩→call SP 167 [.ptr n0 t0 0] S=po 116 o (.v (.int .i64 r0)) (setArr (setBox S n0 t0 ([.list 5 (x0'.tokens.l.map eToken) false,.int .i64 x0'.tokens.pos,.sl 0 (.cell t0 2) 0 x0'.out.length x0'.out.length x0'_g2 false,.int .i64 x0'.deep]++((getBox S n0 t0).getD []).drop 4)) n0 (.cell t0 2) ⟨5,x0'.out.map eNode,x0'_z2,x0'_g2⟩)
def zhc (x0:PExprs) (x0_g2:Nat) (x0_z2:Bool) (o:Option Int) (r0:Int) (x0':PExprs) (x0'_g2:Nat) (x0'_z2:Bool):Prop:=∀ (S:Sto) (n0:Nat) (t0:Nat),(getBox S n0 t0).map (List.take 4)=some [.list 5 (x0.tokens.l.map eToken) false,.int .i64 x0.tokens.pos,.sl 0 (.cell t0 2) 0 x0.out.length x0.out.length x0_g2 false,.int .i64 x0.deep]∧getArr S n0 (.cell t0 2)=some ⟨5,x0.out.map eNode,x0_z2,x0_g2⟩→call SP 180 [.ptr n0 t0 0] S=po 116 o (.v (.int .i64 r0)) (setArr (setBox S n0 t0 ([.list 5 (x0'.tokens.l.map eToken) false,.int .i64 x0'.tokens.pos,.sl 0 (.cell t0 2) 0 x0'.out.length x0'.out.length x0'_g2 false,.int .i64 x0'.deep]++((getBox S n0 t0).getD []).drop 4)) n0 (.cell t0 2) ⟨5,x0'.out.map eNode,x0'_z2,x0'_g2⟩)
def zce (x0:PExprs) (x0_g2:Nat) (x0_z2:Bool) (x1:List UInt8) (o:Option Int) (x0':PExprs) (x0'_g2:Nat) (x0'_z2:Bool):Prop:=∀ (S:Sto) (n0:Nat) (t0:Nat),(getBox S n0 t0).map (List.take 4)=some [.list 5 (x0.tokens.l.map eToken) false,.int .i64 x0.tokens.pos,.sl 0 (.cell t0 2) 0 x0.out.length x0.out.length x0_g2 false,.int .i64 x0.deep]∧getArr S n0 (.cell t0 2)=some ⟨5,x0.out.map eNode,x0_z2,x0_g2⟩→call SP 181 [.ptr n0 t0 0,.str x1] S=po 116 o (.v (.tup [])) (setArr (setBox S n0 t0 ([.list 5 (x0'.tokens.l.map eToken) false,.int .i64 x0'.tokens.pos,.sl 0 (.cell t0 2) 0 x0'.out.length x0'.out.length x0'_g2 false,.int .i64 x0'.deep]++((getBox S n0 t0).getD []).drop 4)) n0 (.cell t0 2) ⟨5,x0'.out.map eNode,x0'_z2,x0'_g2⟩)
def zjm (x0:PExprs) (x0_g2:Nat) (x0_z2:Bool) (o:Option Int) (r0:Int) (x0':PExprs) (x0'_g2:Nat) (x0'_z2:Bool):Prop:=∀ (S:Sto) (n0:Nat) (t0:Nat),(getBox S n0 t0).map (List.take 4)=some [.list 5 (x0.tokens.l.map eToken) false,.int .i64 x0.tokens.pos,.sl 0 (.cell t0 2) 0 x0.out.length x0.out.length x0_g2 false,.int .i64 x0.deep]∧getArr S n0 (.cell t0 2)=some ⟨5,x0.out.map eNode,x0_z2,x0_g2⟩→call SP 201 [.ptr n0 t0 0] S=po 116 o (.v (.int .i64 r0)) (setArr (setBox S n0 t0 ([.list 5 (x0'.tokens.l.map eToken) false,.int .i64 x0'.tokens.pos,.sl 0 (.cell t0 2) 0 x0'.out.length x0'.out.length x0'_g2 false,.int .i64 x0'.deep]++((getBox S n0 t0).getD []).drop 4)) n0 (.cell t0 2) ⟨5,x0'.out.map eNode,x0'_z2,x0'_g2⟩)
def zdV (x0:PExprs) (x0_g2:Nat) (x0_z2:Bool) (x1:Int) (x2:Int) (r0:Int) (x0':PExprs) (x0'_g2:Nat) (x0'_z2:Bool):Prop:=∀ (S:Sto) (n0:Nat) (t0:Nat),(getBox S n0 t0).map (List.take 4)=some [.list 5 (x0.tokens.l.map eToken) false,.int .i64 x0.tokens.pos,.sl 0 (.cell t0 2) 0 x0.out.length x0.out.length x0_g2 false,.int .i64 x0.deep]∧getArr S n0 (.cell t0 2)=some ⟨5,x0.out.map eNode,x0_z2,x0_g2⟩→call SP 202 [.ptr n0 t0 0,.int .i64 x1,.int .i64 x2] S=.ok (.v (.int .i64 r0)) (setArr (setBox S n0 t0 ([.list 5 (x0'.tokens.l.map eToken) false,.int .i64 x0'.tokens.pos,.sl 0 (.cell t0 2) 0 x0'.out.length x0'.out.length x0'_g2 false,.int .i64 x0'.deep]++((getBox S n0 t0).getD []).drop 4)) n0 (.cell t0 2) ⟨5,x0'.out.map eNode,x0'_z2,x0'_g2⟩)
def zeT (x0:PExprs) (x0_g2:Nat) (x0_z2:Bool) (x1:List UInt8) (o:Option Int) (r0:List Int) (x0':PExprs) (x0'_g2:Nat) (x0'_z2:Bool):Prop:=∀ (S:Sto) (n0:Nat) (t0:Nat),(getBox S n0 t0).map (List.take 4)=some [.list 5 (x0.tokens.l.map eToken) false,.int .i64 x0.tokens.pos,.sl 0 (.cell t0 2) 0 x0.out.length x0.out.length x0_g2 false,.int .i64 x0.deep]∧getArr S n0 (.cell t0 2)=some ⟨5,x0.out.map eNode,x0_z2,x0_g2⟩→call SP 203 [.ptr n0 t0 0,.str x1] S=po 116 o (.arr 1 (r0.map eI) false) (setArr (setBox S n0 t0 ([.list 5 (x0'.tokens.l.map eToken) false,.int .i64 x0'.tokens.pos,.sl 0 (.cell t0 2) 0 x0'.out.length x0'.out.length x0'_g2 false,.int .i64 x0'.deep]++((getBox S n0 t0).getD []).drop 4)) n0 (.cell t0 2) ⟨5,x0'.out.map eNode,x0'_z2,x0'_g2⟩)
end Go.Proofs.YtfbcnpbhhooapaaGreatDoor.M
namespace Go.Proofs.YtfbcnpbhhooapaaGreatDoor.M
open Go Classical
theorem u8e (a b:UInt8):(a=b)=(a.toNat=b.toNat):=propext UInt8.toNat_inj.symm
theorem sE {α:Sort _} {A:α→Prop} {F G:Prop} (h:∀ x,F→A x→G):F→(∃ x,A x)→G:=fun f ⟨x,a⟩=>h x f a
theorem sT {b:Bool} {A B F G:Prop} (h1:b=true∧F→A→G) (h2:b=false∧F→B→G):F→(b=true→A)∧(¬ b=true→B)→G:=fun f t=>by
  cases b
  ·exact h2 ⟨rfl,f⟩ (t.2 (by decide))
  exact h1 ⟨rfl,f⟩ (t.1 rfl)
theorem sQ {α:Sort _} {x v:α} {A B F G:Prop} (h1:((x=v)=True∧∀ y,(x=y)=(v=y))∧F→A→G) (h2:(x=v)=False∧F→B→G):F→(x=v→A)∧(¬ x=v→B)→G:=fun f t=>by
  by_cases c:x=v
  ·exact h1 ⟨⟨eq_true c,fun y=>by rw[c]⟩,f⟩ (t.1 c)
  exact h2 ⟨eq_false c,f⟩ (t.2 c)
theorem sC {c A B F G:Prop} (h1:c=True∧F→A→G) (h2:c=False∧F→B→G):F→(c→A)∧(¬ c→B)→G:=fun f t=>by
  by_cases h:c
  ·exact h1 ⟨eq_true h,f⟩ (t.1 h)
  exact h2 ⟨eq_false h,f⟩ (t.2 h)
theorem sW {x:Int} {B F G:Prop} (h:IntKind.i64.wrap x=x∧F→B→G):F→I64 x∧B→G:=fun f t=>h ⟨t.1.wrap,f⟩ t.2
theorem sR {p:Sto→Prop} {B F G:Prop} (h:(∀ S,p S)→F→B→G):F→(∀ S,p S)∧B→G:=fun f t=>h t.1 f t.2
theorem sK {q B F G:Prop} (a:q) (h:q∧F→B→G):F→B→G:=fun f=>h ⟨a,f⟩
theorem sF {p B F G:Prop} (h:p∧F→B→G):F→p∧B→G:=fun f t=>h ⟨t.1,f⟩ t.2
theorem sG {α β:Type} (g:α→β) {a:α} {l:List α} {i:Nat} {v:α} {B F G:Prop} (h:((a::l).map g)[i]?=some (g v)→F→B→G):F→((a::l)[i]?=some v)∧B→G:=fun f t=>h (by rw[List.getElem?_map,t.1];rfl) f t.2
theorem sB {a b:Nat} {p B F G:Prop} (e:bigRow a b=p) (h:p∧F→B→G):F→bigRow a b∧B→G:=fun f t=>h ⟨e ▸ t.1,f⟩ t.2
theorem rn {F T G:Prop} (f:F) (t:T) (h:F→T→G:=by
  repeat' first
    | refine sE fun _=>?_
    | refine sT ?_ ?_
    | refine sQ ?_ ?_
    | refine sC ?_ ?_
    | refine sW ?_
    | refine sB (bigRow.eq_1 _ _) ?_
    | (refine sR ?_;intro q;(try simp only[lF] at q);refine sK q ?_;clear q)
    | (rintro f ⟨rfl,t⟩;revert f t)
    | (refine sG eS ?_;intro q;simp only[le] at q;refine sK q ?_;clear q)
    | (refine sG eLPart ?_;intro q;simp only[le] at q;refine sK q ?_;clear q)
    | refine sF ?_
    | (rintro f rfl;simp only[f,lw,lx,le,Nat.reduceMul,UInt8.reduceToNat,reduceIte,reduceCtorEq,Nat.reduceEqDiff,Nat.reduceAdd,Nat.reduceLeDiff,Nat.reduceSub,Nat.reduceLT,Int.reduceEq,Int.reduceLT,Int.reduceLE,Int.reduceToNat,Int.reduceAdd,Int.reduceSub,Int.reduceMul,Int.reduceNeg];done)
    | (rintro f rfl;simp only[f,lw,lx,le,Nat.reduceMul,UInt8.reduceToNat,reduceIte,reduceCtorEq,Nat.reduceEqDiff,Nat.reduceAdd,Nat.reduceLeDiff,Nat.reduceSub,Nat.reduceLT,Int.reduceEq,Int.reduceLT,Int.reduceLE,Int.reduceToNat,Int.reduceAdd,Int.reduceSub,Int.reduceMul,Int.reduceNeg,List.cons.injEq,u8e,false_and,and_false];done)
    | (intro f t;(try simp only[f,lw,lx,le,Nat.reduceMul,UInt8.reduceToNat,reduceIte,reduceCtorEq,Nat.reduceEqDiff,Nat.reduceAdd,Nat.reduceLeDiff,Nat.reduceSub,Nat.reduceLT,Int.reduceEq,Int.reduceLT,Int.reduceLE,Int.reduceToNat,Int.reduceAdd,Int.reduceSub,Int.reduceMul,Int.reduceNeg]);refine t _ _ _ ?_;simp only[f,lw,lx,le,Nat.reduceMul,UInt8.reduceToNat,reduceIte,reduceCtorEq,Nat.reduceEqDiff,Nat.reduceAdd,Nat.reduceLeDiff,Nat.reduceSub,Nat.reduceLT,Int.reduceEq,Int.reduceLT,Int.reduceLE,Int.reduceToNat,Int.reduceAdd,Int.reduceSub,Int.reduceMul,Int.reduceNeg];done)
    | (intro f t;(try simp only[f,lw,lx,le,Nat.reduceMul,UInt8.reduceToNat,reduceIte,reduceCtorEq,Nat.reduceEqDiff,Nat.reduceAdd,Nat.reduceLeDiff,Nat.reduceSub,Nat.reduceLT,Int.reduceEq,Int.reduceLT,Int.reduceLE,Int.reduceToNat,Int.reduceAdd,Int.reduceSub,Int.reduceMul,Int.reduceNeg,List.cons.injEq,u8e,false_and,and_false]);refine t _ _ _ ?_;simp only[f,lw,lx,le,Nat.reduceMul,UInt8.reduceToNat,reduceIte,reduceCtorEq,Nat.reduceEqDiff,Nat.reduceAdd,Nat.reduceLeDiff,Nat.reduceSub,Nat.reduceLT,Int.reduceEq,Int.reduceLT,Int.reduceLE,Int.reduceToNat,Int.reduceAdd,Int.reduceSub,Int.reduceMul,Int.reduceNeg,List.cons.injEq,u8e,false_and,and_false];done)):G:=h f t
theorem rp {F T G:Prop} (n0 t0:Nat) (f:F) (t:T) (h:∀ a b,a=n0→b=t0→F→T→G:=by
  intro a b e1 e2;subst e1;subst e2
  repeat' first
    | refine sE fun _=>?_
    | refine sT ?_ ?_
    | refine sQ ?_ ?_
    | refine sC ?_ ?_
    | refine sW ?_
    | refine sB (bigRow.eq_1 _ _) ?_
    | (refine sR ?_;intro q;(try simp only[lF] at q);refine sK q ?_;clear q)
    | (rintro f ⟨rfl,t⟩;revert f t)
    | (refine sG eS ?_;intro q;simp only[le] at q;refine sK q ?_;clear q)
    | (refine sG eLPart ?_;intro q;simp only[le] at q;refine sK q ?_;clear q)
    | refine sF ?_
    | (rintro f rfl;simp only[f,lw,lx,le,Nat.reduceMul,UInt8.reduceToNat,reduceIte,reduceCtorEq,Nat.reduceEqDiff,Nat.reduceAdd,Nat.reduceLeDiff,Nat.reduceSub,Nat.reduceLT,Int.reduceEq,Int.reduceLT,Int.reduceLE,Int.reduceToNat,Int.reduceAdd,Int.reduceSub,Int.reduceMul,Int.reduceNeg];done)
    | (rintro f rfl;simp only[f,lw,lx,le,Nat.reduceMul,UInt8.reduceToNat,reduceIte,reduceCtorEq,Nat.reduceEqDiff,Nat.reduceAdd,Nat.reduceLeDiff,Nat.reduceSub,Nat.reduceLT,Int.reduceEq,Int.reduceLT,Int.reduceLE,Int.reduceToNat,Int.reduceAdd,Int.reduceSub,Int.reduceMul,Int.reduceNeg,List.cons.injEq,u8e,false_and,and_false];done)
    | (intro f t;(try simp only[f,lw,lx,le,Nat.reduceMul,UInt8.reduceToNat,reduceIte,reduceCtorEq,Nat.reduceEqDiff,Nat.reduceAdd,Nat.reduceLeDiff,Nat.reduceSub,Nat.reduceLT,Int.reduceEq,Int.reduceLT,Int.reduceLE,Int.reduceToNat,Int.reduceAdd,Int.reduceSub,Int.reduceMul,Int.reduceNeg]);refine (t _ _ _ a b ?_ ?_).trans ?_ <;> simp only[f,lw,lx,le,Nat.reduceMul,UInt8.reduceToNat,reduceIte,reduceCtorEq,Nat.reduceEqDiff,Nat.reduceAdd,Nat.reduceLeDiff,Nat.reduceSub,Nat.reduceLT,Int.reduceEq,Int.reduceLT,Int.reduceLE,Int.reduceToNat,Int.reduceAdd,Int.reduceSub,Int.reduceMul,Int.reduceNeg])
    | (intro f t;(try simp only[f,lw,lx,le,Nat.reduceMul,UInt8.reduceToNat,reduceIte,reduceCtorEq,Nat.reduceEqDiff,Nat.reduceAdd,Nat.reduceLeDiff,Nat.reduceSub,Nat.reduceLT,Int.reduceEq,Int.reduceLT,Int.reduceLE,Int.reduceToNat,Int.reduceAdd,Int.reduceSub,Int.reduceMul,Int.reduceNeg,List.cons.injEq,u8e,false_and,and_false]);refine (t _ _ _ a b ?_ ?_).trans ?_ <;> simp only[f,lw,lx,le,Nat.reduceMul,UInt8.reduceToNat,reduceIte,reduceCtorEq,Nat.reduceEqDiff,Nat.reduceAdd,Nat.reduceLeDiff,Nat.reduceSub,Nat.reduceLT,Int.reduceEq,Int.reduceLT,Int.reduceLE,Int.reduceToNat,Int.reduceAdd,Int.reduceSub,Int.reduceMul,Int.reduceNeg,List.cons.injEq,u8e,false_and,and_false])
    | (intro f t;(try simp only[f,lw,lx,le,Nat.reduceMul,UInt8.reduceToNat,reduceIte,reduceCtorEq,Nat.reduceEqDiff,Nat.reduceAdd,Nat.reduceLeDiff,Nat.reduceSub,Nat.reduceLT,Int.reduceEq,Int.reduceLT,Int.reduceLE,Int.reduceToNat,Int.reduceAdd,Int.reduceSub,Int.reduceMul,Int.reduceNeg]);refine t _ _ _ ?_;simp only[f,lw,lx,le,Nat.reduceMul,UInt8.reduceToNat,reduceIte,reduceCtorEq,Nat.reduceEqDiff,Nat.reduceAdd,Nat.reduceLeDiff,Nat.reduceSub,Nat.reduceLT,Int.reduceEq,Int.reduceLT,Int.reduceLE,Int.reduceToNat,Int.reduceAdd,Int.reduceSub,Int.reduceMul,Int.reduceNeg];done)
    | (intro f t;(try simp only[f,lw,lx,le,Nat.reduceMul,UInt8.reduceToNat,reduceIte,reduceCtorEq,Nat.reduceEqDiff,Nat.reduceAdd,Nat.reduceLeDiff,Nat.reduceSub,Nat.reduceLT,Int.reduceEq,Int.reduceLT,Int.reduceLE,Int.reduceToNat,Int.reduceAdd,Int.reduceSub,Int.reduceMul,Int.reduceNeg,List.cons.injEq,u8e,false_and,and_false]);refine t _ _ _ ?_;simp only[f,lw,lx,le,Nat.reduceMul,UInt8.reduceToNat,reduceIte,reduceCtorEq,Nat.reduceEqDiff,Nat.reduceAdd,Nat.reduceLeDiff,Nat.reduceSub,Nat.reduceLT,Int.reduceEq,Int.reduceLT,Int.reduceLE,Int.reduceToNat,Int.reduceAdd,Int.reduceSub,Int.reduceMul,Int.reduceNeg,List.cons.injEq,u8e,false_and,and_false];done)):G:=h n0 t0 rfl rfl f t
end Go.Proofs.YtfbcnpbhhooapaaGreatDoor.M
namespace Go.Proofs.YtfbcnpbhhooapaaGreatDoor.M
open Go
def c_Q148_1:SC:=.seq (.reg [vO 2 (.mov (cI 7))]) .ret
def c_Q148_2:SC:=.cond (.t 12) (.seq (.reg [vO 2 (.mov (cI 3))]) .ret) (.seq (.reg [mO 20 0,vO 21 (.bin .eql (.t 20) (cI 19)),mO 22 21,gO 23 22 false (.mov (.t 0)),gO 24 22 false (.bin .eql (.t 23) (cI 20)),vO 25 (.pick (.t 22) (.c (.bool true)) (.t 24)),mO 19 25]) (.cond (.t 19) (.seq (.reg [vO 2 (.mov (cI 4))]) .ret) (.seq (.reg [mO 27 0,vO 28 (.bin .geq (.t 27) (cI 21)),mO 26 28]) (.cond (.t 26) (.seq (.reg [vO 2 (.mov (cI 5))]) .ret) (.seq (.reg [mO 30 0,vO 31 (.bin .eql (.t 30) (cI 8)),mO 32 31,gO 33 32 false (.mov (.t 0)),gO 34 32 false (.bin .eql (.t 33) (cI 9)),vO 35 (.pick (.t 32) (.c (.bool true)) (.t 34)),mO 29 35]) (.cond (.t 29) (.seq (.reg [vO 2 (.mov (cI 6))]) .ret) .skip))))))
def c_Q148_3:SC:=.cond (.t 9) (.seq (.reg [vO 2 (.mov (cI 2))]) .ret) (.seq (.reg [mO 13 0,vO 14 (.bin .geq (.t 13) (cI 13)),mO 15 14,gO 16 15 true (.mov (.t 0)),gO 17 15 true (.bin .leq (.t 16) (cI 18)),vO 18 (.pick (.t 15) (.t 17) (.c (.bool false))),mO 12 18]) c_Q148_2)
def c_Q148_4:SC:=.cond (.t 6) (.seq (.reg [vO 2 (.mov (cI 1))]) .ret) (.seq (.reg [mO 10 0,vO 11 (.bin .eql (.t 10) (cI 12)),mO 9 11]) c_Q148_3)
def c_Q148_5:SC:=.cond (.t 3) (.seq (.reg [vO 2 (.mov (cI 0))]) .ret) (.seq (.reg [mO 7 0,vO 8 (.bin .eql (.t 7) (cI 11)),mO 6 8]) c_Q148_4)
def c_Q148_6:SC:=.seq (.block 0 (.seq (.reg [mO 4 0,vO 5 (.bin .eql (.t 4) (cI 10)),mO 3 5]) c_Q148_5)) c_Q148_1
def sc_Q148:zf:=⟨1,36,.seq (.reg [vO 2 (.mov (cI 0))]) c_Q148_6,[(.t 2)]⟩
theorem zyu:type_of% (aI (ue c_Q148_1.eq_1)<|aI (ue c_Q148_2.eq_1)<|aI (ue c_Q148_3.eq_1)<|aI (ue c_Q148_4.eq_1)<|aI (ue c_Q148_5.eq_1)<|aI (ue c_Q148_6.eq_1)<|sc_Q148.eq_1):=aI (ue c_Q148_1.eq_1)<|aI (ue c_Q148_2.eq_1)<|aI (ue c_Q148_3.eq_1)<|aI (ue c_Q148_4.eq_1)<|aI (ue c_Q148_5.eq_1)<|aI (ue c_Q148_6.eq_1)<|sc_Q148.eq_1
theorem comp_Q148:comp Tryz.prog Tryz.f148=some sc_Q148:=by kernel_rfl
def sc_Q149:zf:=⟨1,8,.seq (.reg [vO 2 (.mov (.c (.str [])))]) (.seq (.reg [⟨some 3,none,.bslice 1 13 [(.str [])] [(0,(.c (.str [124,124]))),(1,(.c (.str [38,38]))),(2,(.c (.str [61,61]))),(3,(.c (.str [33,61]))),(4,(.c (.str [60]))),(5,(.c (.str [60,61]))),(6,(.c (.str [62]))),(7,(.c (.str [62,61]))),(8,(.c (.str [43]))),(9,(.c (.str [45]))),(10,(.c (.str [42]))),(11,(.c (.str [47]))),(12,(.c (.str [37])))]⟩,mO 4 0,vO 5 (.bin .sub (.t 4) (cI 11)),vO 6 (.iaddr 1 (.t 3) (.t 5)),vO 7 (.load none (.t 6)),mO 2 7]) .ret),[(.t 2)]⟩
theorem zx9:type_of% (sc_Q149.eq_1):=sc_Q149.eq_1
theorem comp_Q149:comp Tryz.prog Tryz.f149=some sc_Q149:=by kernel_rfl
def b_Q95_1:SC:=.seq (.reg [vO 9 (.bin .lss (.t 8) (.t 7))]) (.seq (.cond (.t 9) .skip (.exit 0)) (.seq (.block 1 (.seq (.reg [vO 10 (.iaddr 1 (.t 6) (.t 8)),vO 11 (.load none (.t 10)),mO 5 11]) (.reg [mO 12 0,mO 13 0,vO 14 (.nchk (.t 13)),vO 15 (.faddr 0 (.t 14)),vO 16 (.load none (.t 15)),mO 17 5,⟨some 18,none,.append 1 1 (.t 16) (.t 17)⟩,vO 19 (.nchk (.t 12)),vO 20 (.faddr 0 (.t 19)),⟨none,none,.store 1 (.t 20) (.t 18)⟩]))) (.reg [vO 21 (.bin .add (.t 8) (cI 1)),mO 8 21])))
def sc_Q95:zf:=⟨2,22,.seq (.reg [mO 6 1,vO 7 (.len false (.t 6)),vO 8 (.mov (cI 0))]) (.block 0 (.loop b_Q95_1)),[]⟩
noncomputable def zpO (SP:Prg) (x:EO):CO:=fin [] (zw 0 (x))
theorem zvH:type_of% (aI (ue b_Q95_1.eq_1)<|sc_Q95.eq_1):=aI (ue b_Q95_1.eq_1)<|sc_Q95.eq_1
theorem comp_Q95:comp Tryz.prog Tryz.f95=some sc_Q95:=by kernel_rfl
def c_Q146_1:SC:=.reg [vO 40 (.bin .add (.t 8) (cI 1)),mO 8 40]
def c_Q146_2:SC:=.cond (.t 25) (.reg [mO 29 0,mO 30 5,vO 31 (.conv (.int .i32) (.t 30)),vO 32 (.conv .chr (.t 31)),⟨some 33,none,.bslice 1 2 [(.str [])] [(0,(.c (.str [92]))),(1,(.t 32))]⟩,kO 34 95 [(.t 29),(.t 33)]]) (.seq (.reg [vO 36 (.bin .eql (.t 14) (.c (.int .u8 10))),mO 35 36]) (.cond (.t 35) (.reg [mO 37 0,⟨some 38,none,.bslice 1 1 [(.str [])] [(0,(.c (.str [92,110])))]⟩,kO 39 95 [(.t 37),(.t 38)]]) (.reg [mO 15 0,mO 16 0,vO 17 (.nchk (.t 16)),vO 18 (.faddr 0 (.t 17)),vO 19 (.load none (.t 18)),mO 20 5,⟨some 21,none,.bslice 1 1 [(.int .u8 0)] [(0,(.t 20))]⟩,⟨some 22,none,.append 1 1 (.t 19) (.t 21)⟩,vO 23 (.nchk (.t 15)),vO 24 (.faddr 0 (.t 23)),⟨none,none,.store 1 (.t 24) (.t 22)⟩])))
def c_Q146_3:SC:=.block 2 (.seq (.seq (.reg [vO 26 (.bin .eql (.t 14) (.c (.int .u8 34))),mO 25 26]) (.cond (.t 25) .skip (.seq (.reg [vO 27 (.bin .eql (.t 14) (.c (.int .u8 92))),mO 25 27]) (.cond (.t 25) .skip (.reg [vO 28 (.bin .eql (.t 14) (.c (.int .u8 36))),mO 25 28]))))) c_Q146_2)
def c_Q146_4:SC:=.seq (.reg [mO 14 5]) c_Q146_3
def c_Q146_5:SC:=.seq (.reg [mO 11 1,mO 12 4,vO 13 (.istr (.t 11) (.t 12)),mO 5 13]) c_Q146_4
def c_Q146_6:SC:=.seq (.block 1 (.seq (.reg [mO 10 8,mO 4 10]) c_Q146_5)) c_Q146_1
def c_Q146_7:SC:=.seq (.cond (.t 9) .skip (.exit 0)) c_Q146_6
def b_Q146_1:SC:=.seq (.reg [vO 9 (.bin .lss (.t 8) (.t 7))]) c_Q146_7
def c_Q146_8:SC:=.block 0 (.loop b_Q146_1)
def sc_Q146:zf:=⟨2,41,.seq (.reg [mO 6 1,vO 7 (.len true (.t 6)),vO 8 (.mov (cI 0))]) c_Q146_8,[]⟩
noncomputable def zoa (SP:Prg) (x:EO):CO:=fin [] (zw 0 (x))
theorem zr1:type_of% (aI (ue c_Q146_1.eq_1)<|aI (ue c_Q146_2.eq_1)<|aI (ue c_Q146_3.eq_1)<|aI (ue c_Q146_4.eq_1)<|aI (ue c_Q146_5.eq_1)<|aI (ue c_Q146_6.eq_1)<|aI (ue c_Q146_7.eq_1)<|aI (ue b_Q146_1.eq_1)<|aI (ue c_Q146_8.eq_1)<|sc_Q146.eq_1):=aI (ue c_Q146_1.eq_1)<|aI (ue c_Q146_2.eq_1)<|aI (ue c_Q146_3.eq_1)<|aI (ue c_Q146_4.eq_1)<|aI (ue c_Q146_5.eq_1)<|aI (ue c_Q146_6.eq_1)<|aI (ue c_Q146_7.eq_1)<|aI (ue b_Q146_1.eq_1)<|aI (ue c_Q146_8.eq_1)<|sc_Q146.eq_1
theorem comp_Q146:comp Tryz.prog Tryz.f146=some sc_Q146:=by kernel_rfl
def c_Q107_1:SC:=.reg [vO 30 (.faddr 0 (.t 2)),vO 31 (.load none (.t 30)),⟨some 32,none,.bslice 1 1 [(.str [])] [(0,(.c (.str [34])))]⟩,kO 33 95 [(.t 31),(.t 32)]]
def b_Q107_1:SC:=.seq (.reg [vO 13 (.bin .lss (.t 12) (.t 11))]) (.seq (.cond (.t 13) .skip (.exit 0)) (.seq (.block 1 (.seq (.reg [vO 14 (.iaddr 2 (.t 10) (.t 12)),vO 15 (.load (some 2) (.t 14)),⟨some 5,none,.alloc [(.bool false),(.str [])]⟩,⟨none,none,.store 2 (.t 5) (.t 15)⟩]) (.seq (.reg [vO 16 (.faddr 0 (.t 5)),vO 17 (.load none (.t 16))]) (.cond (.t 17) (.reg [vO 18 (.faddr 0 (.t 2)),vO 19 (.load none (.t 18)),vO 20 (.faddr 1 (.t 5)),vO 21 (.load none (.t 20)),⟨some 22,none,.bslice 1 3 [(.str [])] [(0,(.c (.str [36,123]))),(1,(.t 21)),(2,(.c (.str [125])))]⟩,kO 23 95 [(.t 19),(.t 22)]]) (.reg [vO 24 (.faddr 0 (.t 2)),vO 25 (.load none (.t 24)),vO 26 (.faddr 1 (.t 5)),vO 27 (.load none (.t 26)),kO 28 146 [(.t 25),(.t 27)]]))))) (.reg [vO 29 (.bin .add (.t 12) (cI 1)),mO 12 29])))
def c_Q107_2:SC:=.seq (.seq (.reg [mO 10 1,vO 11 (.len false (.t 10)),vO 12 (.mov (cI 0))]) (.block 0 (.loop b_Q107_1))) c_Q107_1
def c_Q107_3:SC:=.seq (.reg [vO 6 (.faddr 0 (.t 2)),vO 7 (.load none (.t 6)),⟨some 8,none,.bslice 1 1 [(.str [])] [(0,(.c (.str [34])))]⟩,kO 9 95 [(.t 7),(.t 8)]]) c_Q107_2
def sc_Q107:zf:=⟨2,34,.seq (.reg [⟨some 2,none,.box (.t 0)⟩]) c_Q107_3,[]⟩
noncomputable def zn7 (SP:Prg) (x:EO):CO:=fin [] (thC SP (zw 0 (x)) c_Q107_1)
theorem zrm:type_of% (aI (ue c_Q107_1.eq_1)<|aI (ue b_Q107_1.eq_1)<|aI (ue c_Q107_2.eq_1)<|aI (ue c_Q107_3.eq_1)<|sc_Q107.eq_1):=aI (ue c_Q107_1.eq_1)<|aI (ue b_Q107_1.eq_1)<|aI (ue c_Q107_2.eq_1)<|aI (ue c_Q107_3.eq_1)<|sc_Q107.eq_1
theorem comp_Q107:comp Tryz.prog Tryz.f107=some sc_Q107:=by kernel_rfl
def sc_Q110:zf:=⟨3,29,.seq (.reg [⟨some 3,none,.box (.t 0)⟩]) (.seq (.seq (.reg [vO 6 (.faddr 1 (.t 3)),vO 7 (.load none (.t 6)),mO 8 1,vO 9 (.iaddr 5 (.t 7) (.t 8)),vO 10 (.faddr 0 (.t 9)),vO 11 (.load none (.t 10)),kO 12 148 [(.t 11)],mO 13 2,vO 14 (.bin .geq (.t 12) (.t 13))]) (.cond (.t 14) (.seq (.reg [vO 15 (.load (some 2) (.t 3)),mO 16 1,kO 17 69 [(.t 15),(.t 16)]]) .ret) .skip)) (.seq (.reg [vO 18 (.faddr 0 (.t 3)),vO 19 (.load none (.t 18)),⟨some 20,none,.bslice 1 1 [(.str [])] [(0,(.c (.str [40])))]⟩,kO 21 95 [(.t 19),(.t 20)]]) (.seq (.reg [vO 22 (.load (some 2) (.t 3)),mO 23 1,kO 24 69 [(.t 22),(.t 23)]]) (.reg [vO 25 (.faddr 0 (.t 3)),vO 26 (.load none (.t 25)),⟨some 27,none,.bslice 1 1 [(.str [])] [(0,(.c (.str [41])))]⟩,kO 28 95 [(.t 26),(.t 27)]])))),[]⟩
theorem zyx:type_of% (sc_Q110.eq_1):=sc_Q110.eq_1
theorem comp_Q110:comp Tryz.prog Tryz.f110=some sc_Q110:=by kernel_rfl
def b_Q109_1:SC:=.seq (.reg [vO 9 (.bin .lss (.t 8) (.t 7))]) (.seq (.cond (.t 9) .skip (.exit 0)) (.seq (.block 1 (.seq (.reg [mO 10 8,vO 11 (.iaddr 1 (.t 6) (.t 8)),vO 12 (.load none (.t 11)),mO 4 10,mO 5 12]) (.seq (.seq (.reg [mO 13 4,vO 14 (.bin .gtr (.t 13) (cI 0))]) (.cond (.t 14) (.reg [vO 15 (.faddr 0 (.t 2)),vO 16 (.load none (.t 15)),⟨some 17,none,.bslice 1 1 [(.str [])] [(0,(.c (.str [44,32])))]⟩,kO 18 95 [(.t 16),(.t 17)]]) .skip)) (.reg [vO 19 (.load (some 2) (.t 2)),mO 20 5,kO 21 69 [(.t 19),(.t 20)]])))) (.reg [vO 22 (.bin .add (.t 8) (cI 1)),mO 8 22])))
def sc_Q109:zf:=⟨2,23,.seq (.reg [⟨some 2,none,.box (.t 0)⟩]) (.seq (.reg [mO 6 1,vO 7 (.len false (.t 6)),vO 8 (.mov (cI 0))]) (.block 0 (.loop b_Q109_1))),[]⟩
noncomputable def zm2 (SP:Prg) (x:EO):CO:=fin [] (zw 0 (x))
theorem ztl:type_of% (aI (ue b_Q109_1.eq_1)<|sc_Q109.eq_1):=aI (ue b_Q109_1.eq_1)<|sc_Q109.eq_1
theorem comp_Q109:comp Tryz.prog Tryz.f109=some sc_Q109:=by kernel_rfl
def c_Q111_1:SC:=.seq (.dreg [vO 14 (.load (some 2) (.t 2)),vO 15 (.faddr 4 (.t 3)),vO 16 (.load none (.t 15)),vO 17 (.iaddr 1 (.t 16) (cI 0)),vO 18 (.load none (.t 17)),mO 19 5,kO 20 110 [(.t 14),(.t 18),(.t 19)]] [false,false,false,false,false,false,true]) (.seq (.dreg [vO 21 (.faddr 0 (.t 2)),vO 22 (.load none (.t 21)),vO 23 (.faddr 0 (.t 3)),vO 24 (.load none (.t 23)),kO 25 149 [(.t 24)],⟨some 26,none,.bslice 1 3 [(.str [])] [(0,(.c (.str [32]))),(1,(.t 25)),(2,(.c (.str [32])))]⟩,kO 27 95 [(.t 22),(.t 26)]] [false,false,false,false,false,false,true]) (.dreg [vO 28 (.load (some 2) (.t 2)),vO 29 (.faddr 4 (.t 3)),vO 30 (.load none (.t 29)),vO 31 (.iaddr 1 (.t 30) (cI 1)),vO 32 (.load none (.t 31)),mO 33 4,vO 34 (.bin .add (.t 33) (cI 1)),kO 35 110 [(.t 28),(.t 32),(.t 34)]] [false,false,false,false,false,false,false,true]))
def c_Q111_2:SC:=.seq (.seq (.reg [mO 10 4,vO 11 (.bin .eql (.t 10) (cI 3))]) (.cond (.t 11) (.reg [mO 12 5,vO 13 (.bin .add (.t 12) (cI 1)),mO 5 13]) .skip)) c_Q111_1
def c_Q111_3:SC:=.seq (.reg [mO 9 4,mO 5 9]) c_Q111_2
def c_Q111_4:SC:=.seq (.reg [vO 6 (.faddr 0 (.t 3)),vO 7 (.load none (.t 6)),kO 8 148 [(.t 7)],mO 4 8]) c_Q111_3
def sc_Q111:zf:=⟨2,36,.seq (.reg [⟨some 2,none,.box (.t 0)⟩,⟨some 3,none,.box (.t 1)⟩]) c_Q111_4,[]⟩
theorem zxg:type_of% (aI (ue c_Q111_1.eq_1)<|aI (ue c_Q111_2.eq_1)<|aI (ue c_Q111_3.eq_1)<|aI (ue c_Q111_4.eq_1)<|sc_Q111.eq_1):=aI (ue c_Q111_1.eq_1)<|aI (ue c_Q111_2.eq_1)<|aI (ue c_Q111_3.eq_1)<|aI (ue c_Q111_4.eq_1)<|sc_Q111.eq_1
theorem comp_Q111:comp Tryz.prog Tryz.f111=some sc_Q111:=by kernel_rfl
def c_Q69_1:SC:=.seq (.reg [vO 132 (.faddr 0 (.t 2)),vO 133 (.load none (.t 132)),⟨some 134,none,.bslice 1 1 [(.str [])] [(0,(.c (.str [32,63,32])))]⟩,kO 135 95 [(.t 133),(.t 134)]]) (.seq (.dreg [vO 136 (.load (some 2) (.t 2)),vO 137 (.faddr 4 (.t 4)),vO 138 (.load none (.t 137)),vO 139 (.iaddr 1 (.t 138) (cI 1)),vO 140 (.load none (.t 139)),kO 141 69 [(.t 136),(.t 140)]] [false,false,false,false,false,true]) (.seq (.reg [vO 142 (.faddr 0 (.t 2)),vO 143 (.load none (.t 142)),⟨some 144,none,.bslice 1 1 [(.str [])] [(0,(.c (.str [32,58,32])))]⟩,kO 145 95 [(.t 143),(.t 144)]]) (.dreg [vO 146 (.load (some 2) (.t 2)),vO 147 (.faddr 4 (.t 4)),vO 148 (.load none (.t 147)),vO 149 (.iaddr 1 (.t 148) (cI 2)),vO 150 (.load none (.t 149)),kO 151 69 [(.t 146),(.t 150)]] [false,false,false,false,false,true])))
def c_Q69_2:SC:=.cond (.t 124) (.seq (.dreg [vO 126 (.load (some 2) (.t 2)),vO 127 (.faddr 4 (.t 4)),vO 128 (.load none (.t 127)),vO 129 (.iaddr 1 (.t 128) (cI 0)),vO 130 (.load none (.t 129)),kO 131 110 [(.t 126),(.t 130),(cI 1)]] [false,false,false,false,false,true]) c_Q69_1) (.reg [vO 12 (.load (some 2) (.t 2)),vO 13 (.load (some 5) (.t 4)),kO 14 111 [(.t 12),(.t 13)]])
def c_Q69_3:SC:=.cond (.t 112) (.seq (.reg [vO 114 (.faddr 0 (.t 2)),vO 115 (.load none (.t 114)),⟨some 116,none,.bslice 1 1 [(.str [])] [(0,(.c (.str [45])))]⟩,kO 117 95 [(.t 115),(.t 116)]]) (.dreg [vO 118 (.load (some 2) (.t 2)),vO 119 (.faddr 4 (.t 4)),vO 120 (.load none (.t 119)),vO 121 (.iaddr 1 (.t 120) (cI 0)),vO 122 (.load none (.t 121)),kO 123 110 [(.t 118),(.t 122),(cI 6)]] [false,false,false,false,false,true])) (.seq (.reg [vO 125 (.bin .eql (.t 11) (cI 10)),mO 124 125]) c_Q69_2)
def c_Q69_4:SC:=.cond (.t 100) (.seq (.reg [vO 102 (.faddr 0 (.t 2)),vO 103 (.load none (.t 102)),⟨some 104,none,.bslice 1 1 [(.str [])] [(0,(.c (.str [33])))]⟩,kO 105 95 [(.t 103),(.t 104)]]) (.dreg [vO 106 (.load (some 2) (.t 2)),vO 107 (.faddr 4 (.t 4)),vO 108 (.load none (.t 107)),vO 109 (.iaddr 1 (.t 108) (cI 0)),vO 110 (.load none (.t 109)),kO 111 110 [(.t 106),(.t 110),(cI 6)]] [false,false,false,false,false,true])) (.seq (.reg [vO 113 (.bin .eql (.t 11) (cI 9)),mO 112 113]) c_Q69_3)
def c_Q69_5:SC:=.cond (.t 78) (.seq (.dreg [vO 80 (.load (some 2) (.t 2)),vO 81 (.faddr 4 (.t 4)),vO 82 (.load none (.t 81)),vO 83 (.iaddr 1 (.t 82) (cI 0)),vO 84 (.load none (.t 83)),kO 85 110 [(.t 80),(.t 84),(cI 7)]] [false,false,false,false,false,true]) (.seq (.reg [vO 86 (.faddr 0 (.t 2)),vO 87 (.load none (.t 86)),⟨some 88,none,.bslice 1 1 [(.str [])] [(0,(.c (.str [91])))]⟩,kO 89 95 [(.t 87),(.t 88)]]) (.seq (.dreg [vO 90 (.load (some 2) (.t 2)),vO 91 (.faddr 4 (.t 4)),vO 92 (.load none (.t 91)),vO 93 (.iaddr 1 (.t 92) (cI 1)),vO 94 (.load none (.t 93)),kO 95 69 [(.t 90),(.t 94)]] [false,false,false,false,false,true]) (.reg [vO 96 (.faddr 0 (.t 2)),vO 97 (.load none (.t 96)),⟨some 98,none,.bslice 1 1 [(.str [])] [(0,(.c (.str [93])))]⟩,kO 99 95 [(.t 97),(.t 98)]])))) (.seq (.reg [vO 101 (.bin .eql (.t 11) (cI 8)),mO 100 101]) c_Q69_4)
def c_Q69_6:SC:=.cond (.t 64) (.seq (.reg [vO 66 (.faddr 0 (.t 2)),vO 67 (.load none (.t 66)),⟨some 68,none,.bslice 1 1 [(.str [])] [(0,(.c (.str [91])))]⟩,kO 69 95 [(.t 67),(.t 68)]]) (.seq (.reg [vO 70 (.load (some 2) (.t 2)),vO 71 (.faddr 4 (.t 4)),vO 72 (.load none (.t 71)),kO 73 109 [(.t 70),(.t 72)]]) (.reg [vO 74 (.faddr 0 (.t 2)),vO 75 (.load none (.t 74)),⟨some 76,none,.bslice 1 1 [(.str [])] [(0,(.c (.str [93])))]⟩,kO 77 95 [(.t 75),(.t 76)]]))) (.seq (.reg [vO 79 (.bin .eql (.t 11) (cI 7)),mO 78 79]) c_Q69_5)
def c_Q69_7:SC:=.cond (.t 48) (.seq (.reg [vO 50 (.faddr 0 (.t 2)),vO 51 (.load none (.t 50)),vO 52 (.faddr 2 (.t 4)),vO 53 (.load none (.t 52)),⟨some 54,none,.bslice 1 2 [(.str [])] [(0,(.t 53)),(1,(.c (.str [40])))]⟩,kO 55 95 [(.t 51),(.t 54)]]) (.seq (.reg [vO 56 (.load (some 2) (.t 2)),vO 57 (.faddr 4 (.t 4)),vO 58 (.load none (.t 57)),kO 59 109 [(.t 56),(.t 58)]]) (.reg [vO 60 (.faddr 0 (.t 2)),vO 61 (.load none (.t 60)),⟨some 62,none,.bslice 1 1 [(.str [])] [(0,(.c (.str [41])))]⟩,kO 63 95 [(.t 61),(.t 62)]]))) (.seq (.reg [vO 65 (.bin .eql (.t 11) (cI 6)),mO 64 65]) c_Q69_6)
def c_Q69_8:SC:=.cond (.t 40) (.reg [vO 42 (.faddr 0 (.t 2)),vO 43 (.load none (.t 42)),vO 44 (.faddr 2 (.t 4)),vO 45 (.load none (.t 44)),⟨some 46,none,.bslice 1 1 [(.str [])] [(0,(.t 45))]⟩,kO 47 95 [(.t 43),(.t 46)]]) (.seq (.reg [vO 49 (.bin .eql (.t 11) (cI 5)),mO 48 49]) c_Q69_7)
def c_Q69_9:SC:=.cond (.t 30) (.dreg [vO 32 (.faddr 0 (.t 2)),vO 33 (.load none (.t 32)),vO 34 (.faddr 1 (.t 4)),vO 35 (.load none (.t 34)),vO 36 (.bin .eql (.t 35) (cI 1)),kO 37 108 [(.t 36)],⟨some 38,none,.bslice 1 1 [(.str [])] [(0,(.t 37))]⟩,kO 39 95 [(.t 33),(.t 38)]] [false,false,false,false,false,false,false,true]) (.seq (.reg [vO 41 (.bin .eql (.t 11) (cI 4)),mO 40 41]) c_Q69_8)
def c_Q69_10:SC:=.cond (.t 24) (.reg [vO 26 (.load (some 2) (.t 2)),vO 27 (.faddr 3 (.t 4)),vO 28 (.load none (.t 27)),kO 29 107 [(.t 26),(.t 28)]]) (.seq (.reg [vO 31 (.bin .eql (.t 11) (cI 3)),mO 30 31]) c_Q69_9)
def c_Q69_11:SC:=.cond (.t 15) (.dreg [vO 17 (.faddr 0 (.t 2)),vO 18 (.load none (.t 17)),vO 19 (.faddr 1 (.t 4)),vO 20 (.load none (.t 19)),kO 21 106 [(.t 20)],⟨some 22,none,.bslice 1 1 [(.str [])] [(0,(.t 21))]⟩,kO 23 95 [(.t 18),(.t 22)]] [false,false,false,false,false,false,true]) (.seq (.reg [vO 25 (.bin .eql (.t 11) (cI 2)),mO 24 25]) c_Q69_10)
def c_Q69_12:SC:=.block 0 (.seq (.reg [vO 16 (.bin .eql (.t 11) (cI 1)),mO 15 16]) c_Q69_11)
def c_Q69_13:SC:=.seq (.reg [vO 10 (.faddr 0 (.t 4)),vO 11 (.load none (.t 10))]) c_Q69_12
def c_Q69_14:SC:=.seq (.reg [vO 5 (.faddr 1 (.t 2)),vO 6 (.load none (.t 5)),mO 7 1,vO 8 (.iaddr 5 (.t 6) (.t 7)),vO 9 (.load (some 5) (.t 8)),⟨some 4,none,.alloc [(.int .i64 0),(.int .i64 0),(.str []),(.nils 2),(.nils 1)]⟩,⟨none,none,.store 5 (.t 4) (.t 9)⟩]) c_Q69_13
def sc_Q69:zf:=⟨2,152,.seq (.reg [⟨some 2,none,.box (.t 0)⟩]) c_Q69_14,[]⟩
theorem zzJ:type_of% (aI (ue c_Q69_1.eq_1)<|aI (ue c_Q69_2.eq_1)<|aI (ue c_Q69_3.eq_1)<|aI (ue c_Q69_4.eq_1)<|aI (ue c_Q69_5.eq_1)<|aI (ue c_Q69_6.eq_1)<|aI (ue c_Q69_7.eq_1)<|aI (ue c_Q69_8.eq_1)<|aI (ue c_Q69_9.eq_1)<|aI (ue c_Q69_10.eq_1)<|aI (ue c_Q69_11.eq_1)<|aI (ue c_Q69_12.eq_1)<|aI (ue c_Q69_13.eq_1)<|aI (ue c_Q69_14.eq_1)<|sc_Q69.eq_1):=aI (ue c_Q69_1.eq_1)<|aI (ue c_Q69_2.eq_1)<|aI (ue c_Q69_3.eq_1)<|aI (ue c_Q69_4.eq_1)<|aI (ue c_Q69_5.eq_1)<|aI (ue c_Q69_6.eq_1)<|aI (ue c_Q69_7.eq_1)<|aI (ue c_Q69_8.eq_1)<|aI (ue c_Q69_9.eq_1)<|aI (ue c_Q69_10.eq_1)<|aI (ue c_Q69_11.eq_1)<|aI (ue c_Q69_12.eq_1)<|aI (ue c_Q69_13.eq_1)<|aI (ue c_Q69_14.eq_1)<|sc_Q69.eq_1
theorem comp_Q69:comp Tryz.prog Tryz.f69=some sc_Q69:=by kernel_rfl
def sc_Q45:zf:=⟨2,11,.reg [mO 4 0,mO 5 1,vO 6 (.build [.nili,(.nils 5)] [(0,1,(.t 4)),(1,1,(.t 5))]),mO 7 1,vO 8 (.len false (.t 7)),vO 9 (.bin .sub (.t 8) (cI 1)),kO 10 69 [(.t 6),(.t 9)]],[]⟩
theorem zze:type_of% (sc_Q45.eq_1):=sc_Q45.eq_1
theorem comp_Q45:comp Tryz.prog Tryz.f45=some sc_Q45:=by kernel_rfl
def sc_Q23:zf:=⟨1,17,.seq (.reg [vO 2 (.mov (.c (.str [])))]) (.seq (.seq (.reg [mO 4 0,kO 5 26 [(.t 4)],vO 6 (.un .not (.t 5))]) (.cond (.t 6) (.seq (.reg [vO 2 (.mov (.c (.str [])))]) .ret) .skip)) (.seq (.reg [vO 7 (.build [(.nils 1)] []),⟨some 8,none,.box (.t 7)⟩,mO 3 8]) (.seq (.reg [mO 9 3,mO 10 0,kO 11 45 [(.t 9),(.t 10)]]) (.seq (.reg [mO 12 3,vO 13 (.nchk (.t 12)),vO 14 (.faddr 0 (.t 13)),vO 15 (.load none (.t 14)),vO 16 (.conv .bytes (.t 15)),mO 2 16]) .ret)))),[(.t 2)]⟩
theorem zzt:type_of% (sc_Q23.eq_1):=sc_Q23.eq_1
theorem comp_Q23:comp Tryz.prog Tryz.f23=some sc_Q23:=by kernel_rfl
end Go.Proofs.YtfbcnpbhhooapaaGreatDoor.M
namespace Go.Proofs.YtfbcnpbhhooapaaGreatDoor.M
open Go Classical
theorem zvK:SP 148=some (.code sc_Q148):=zb rfl Tryz.func148 comp_Q148
theorem zsJ (kind:Int) (r:Int) (T :
  ((kind=10) →
  0=r) ∧
 (¬ (kind=10) →
  ((kind=11) →
   1=r) ∧
  (¬ (kind=11) →
   ((kind=12) →
    2=r) ∧
   (¬ (kind=12) →
    ((13≤kind) →
     ((kind≤18) →
      3=r) ∧
     (¬ (kind≤18) →
      ((kind=19) →
       4=r) ∧
      (¬ (kind=19) →
       ((kind=20) →
        4=r) ∧
       (¬ (kind=20) →
        ((21≤kind) →
         5=r) ∧
        (¬ (21≤kind) →
         ((kind=8) →
          6=r) ∧
         (¬ (kind=8) →
          ((kind=9) →
           6=r) ∧
          (¬ (kind=9) →
           7=r))))))) ∧
    (¬ (13≤kind) →
     ((kind=19) →
      4=r) ∧
     (¬ (kind=19) →
      ((kind=20) →
       4=r) ∧
      (¬ (kind=20) →
       ((21≤kind) →
        5=r) ∧
       (¬ (21≤kind) →
        ((kind=8) →
         6=r) ∧
        (¬ (kind=8) →
         ((kind=9) →
          6=r) ∧
         (¬ (kind=9) →
          7=r)))))))))):zjW kind r:=by
 intro S
 rw[za zvK _ _ rfl]
 have F:=zyu
 exact rn F T
theorem zwY:SP 149=some (.code sc_Q149):=zb rfl Tryz.func149 comp_Q149
theorem zsx (kind:Int) (r:List UInt8) (T :
  (I64 (kind - 11)) ∧
 (0≤(kind - 11)) ∧
 ∃ (v1:List UInt8),(([[124,124],[38,38],[61,61],[33,61],[60],[60,61],[62],[62,61],[43],[45],[42],[47],[37]]:List (List UInt8))[(kind - 11).toNat]?=some v1) ∧
 v1=r):zjZ kind r:=by
 intro S
 rw[za zwY _ _ rfl]
 have F:=zx9
 exact rn F T
theorem zy0:SP 95=some (.code sc_Q95):=zb rfl Tryz.func95 comp_Q95
def zf3 (l_:List (List UInt8)) (i1:Int) (w2:SWriter) (g3:Nat) (z4:Bool) (w':SWriter) (w'_g0:Nat) (w'_z0:Bool):Prop:=∀ (S:Sto) (e:Nat→PV) (f:Fr) (n0 t0:Nat),((getBox S n0 t0).map (List.take 1)=some [.sl 0 (.cell t0 0) 0 w2.out.length w2.out.length g3 false]∧getArr S n0 (.cell t0 0)=some ⟨1,w2.out.map eB,z4,g3⟩)→e 0=.ptr (n0+1) t0 0∧e 6=.list 1 (l_.map eS) false∧e 7=.int .i64 (l_.length:Int)∧e 8=.int .i64 i1→zpO SP (E SP (.loop b_Q95_1) ⟨e,f::S⟩)=.ok (.v (.tup [])) (setArr (setBox S n0 t0 ([.sl 0 (.cell t0 0) 0 w'.out.length w'.out.length w'_g0 false]++((getBox S n0 t0).getD []).drop 1)) n0 (.cell t0 0) ⟨1,w'.out.map eB,w'_z0,w'_g0⟩)
theorem zgE (l_:List (List UInt8)) (i1:Int) (w2:SWriter) (g3:Nat) (z4:Bool) (w':SWriter) (w'_g0:Nat) (w'_z0:Bool) (T :
  ((i1 < (l_.length:Int)) →
  (0≤i1) ∧
  ∃ (v5:List UInt8),(l_[i1.toNat]?=some v5) ∧
  (bigRow (w2.out.length+v5.length) 1) ∧
  (I64 (i1+1)) ∧
  zf3 l_ (i1+1) (SWriter.mk (w2.out++v5)) g3 z4 w' w'_g0 w'_z0) ∧
 (¬ (i1 < (l_.length:Int)) →
  w2=w'∧g3=w'_g0∧z4=w'_z0)):zf3 l_ i1 w2 g3 z4 w' w'_g0 w'_z0:=by
 intro S e f n0 t0 H0 h
 obtain⟨hb0,ha0⟩:=H0
 obtain⟨w0,hB0⟩:=zh hb0
 have hn0:=zc hB0
 unfold zpO
 rw[zo]
 have F:=zvH
 exact rp n0 t0 (aa ha0<|aa hB0<|aa hn0<|aa h<|F) T
theorem ztt (w:SWriter) (w_g0:Nat) (w_z0:Bool) (l_:List (List UInt8)) (w':SWriter) (w'_g0:Nat) (w'_z0:Bool) (T :
  zf3 l_ 0 w w_g0 w_z0 w' w'_g0 w'_z0):zY w w_g0 w_z0 l_ w' w'_g0 w'_z0:=by
 intro S n0 t0 H0
 obtain⟨hb0,ha0⟩:=H0
 obtain⟨w0,hB0⟩:=zh hb0
 have hn0:=zc hB0
 rw[za zy0 _ _ rfl]
 have F:=zvH
 exact rp n0 t0 (aa ha0<|aa hB0<|aa hn0<|F) T
theorem zvY:SP 146=some (.code sc_Q146):=zb rfl Tryz.func146 comp_Q146
def zbo (s:List UInt8) (i1:Int) (w2:SWriter) (g3:Nat) (z4:Bool) (w':SWriter) (w'_g0:Nat) (w'_z0:Bool):Prop:=∀ (S:Sto) (e:Nat→PV) (f:Fr) (n0 t0:Nat),((getBox S n0 t0).map (List.take 1)=some [.sl 0 (.cell t0 0) 0 w2.out.length w2.out.length g3 false]∧getArr S n0 (.cell t0 0)=some ⟨1,w2.out.map eB,z4,g3⟩)→e 0=.ptr (n0+1) t0 0∧e 1=.str s∧e 7=.int .i64 (s.length:Int)∧e 8=.int .i64 i1→zoa SP (E SP (.loop b_Q146_1) ⟨e,f::S⟩)=.ok (.v (.tup [])) (setArr (setBox S n0 t0 ([.sl 0 (.cell t0 0) 0 w'.out.length w'.out.length w'_g0 false]++((getBox S n0 t0).getD []).drop 1)) n0 (.cell t0 0) ⟨1,w'.out.map eB,w'_z0,w'_g0⟩)
theorem zfQ (s:List UInt8) (i1:Int) (w2:SWriter) (g3:Nat) (z4:Bool) (w':SWriter) (w'_g0:Nat) (w'_z0:Bool) (T :
  ((i1 < (s.length:Int)) →
  (0≤i1) ∧
  ∃ (b5:UInt8),(s[i1.toNat]?=some b5) ∧
  (((b5.toNat:Int)=34) →
   (0≤(IntKind.i32.wrap ((b5.toNat:Int))))∧((IntKind.i32.wrap ((b5.toNat:Int))) < 128) ∧
   ∃ (y6:SWriter) (g7:Nat) (z8:Bool),(zY w2 g3 z4 [[92],[UInt8.ofNat ((IntKind.i32.wrap ((b5.toNat:Int)))).toNat]] y6 g7 z8) ∧
   (I64 (i1+1)) ∧
   zbo s (i1+1) y6 g7 z8 w' w'_g0 w'_z0) ∧
  (¬ ((b5.toNat:Int)=34) →
   (((b5.toNat:Int)=92) →
    (0≤(IntKind.i32.wrap ((b5.toNat:Int))))∧((IntKind.i32.wrap ((b5.toNat:Int))) < 128) ∧
    ∃ (y9:SWriter) (g10:Nat) (z11:Bool),(zY w2 g3 z4 [[92],[UInt8.ofNat ((IntKind.i32.wrap ((b5.toNat:Int)))).toNat]] y9 g10 z11) ∧
    (I64 (i1+1)) ∧
    zbo s (i1+1) y9 g10 z11 w' w'_g0 w'_z0) ∧
   (¬ ((b5.toNat:Int)=92) →
    (((b5.toNat:Int)=36) →
     (0≤(IntKind.i32.wrap ((b5.toNat:Int))))∧((IntKind.i32.wrap ((b5.toNat:Int))) < 128) ∧
     ∃ (y12:SWriter) (g13:Nat) (z14:Bool),(zY w2 g3 z4 [[92],[UInt8.ofNat ((IntKind.i32.wrap ((b5.toNat:Int)))).toNat]] y12 g13 z14) ∧
     (I64 (i1+1)) ∧
     zbo s (i1+1) y12 g13 z14 w' w'_g0 w'_z0) ∧
    (¬ ((b5.toNat:Int)=36) →
     (((b5.toNat:Int)=10) →
      ∃ (y15:SWriter) (g16:Nat) (z17:Bool),(zY w2 g3 z4 [[92,110]] y15 g16 z17) ∧
      (I64 (i1+1)) ∧
      zbo s (i1+1) y15 g16 z17 w' w'_g0 w'_z0) ∧
     (¬ ((b5.toNat:Int)=10) →
      (bigRow (w2.out.length+1) 1) ∧
      (I64 (i1+1)) ∧
      zbo s (i1+1) (SWriter.mk (w2.out++[b5])) g3 z4 w' w'_g0 w'_z0))))) ∧
 (¬ (i1 < (s.length:Int)) →
  w2=w'∧g3=w'_g0∧z4=w'_z0)):zbo s i1 w2 g3 z4 w' w'_g0 w'_z0:=by
 intro S e f n0 t0 H0 h
 obtain⟨hb0,ha0⟩:=H0
 obtain⟨w0,hB0⟩:=zh hb0
 have hn0:=zc hB0
 unfold zoa
 rw[zo]
 have F:=zr1
 exact rp n0 t0 (aa ha0<|aa hB0<|aa hn0<|aa h<|F) T
theorem zsY (w:SWriter) (w_g0:Nat) (w_z0:Bool) (s:List UInt8) (w':SWriter) (w'_g0:Nat) (w'_z0:Bool) (T :
  zbo s 0 w w_g0 w_z0 w' w'_g0 w'_z0):znW w w_g0 w_z0 s w' w'_g0 w'_z0:=by
 intro S n0 t0 H0
 obtain⟨hb0,ha0⟩:=H0
 obtain⟨w0,hB0⟩:=zh hb0
 have hn0:=zc hB0
 rw[za zvY _ _ rfl]
 have F:=zr1
 exact rp n0 t0 (aa ha0<|aa hB0<|aa hn0<|F) T
theorem zvT:SP 107=some (.code sc_Q107):=zb rfl Tryz.func107 comp_Q107
def zcS (x_l:List Node) (l_:List Part) (i4:Int) (x5:SWriter) (g6:Nat) (z7:Bool) (x':SWriter) (x'_g0:Nat) (x'_z0:Bool):Prop:=∀ (S:Sto) (e:Nat→PV) (f:Fr) (n0 t0:Nat),((getBox S n0 t0).map (List.take 1)=some [.sl 0 (.cell t0 0) 0 x5.out.length x5.out.length g6 false]∧getArr S n0 (.cell t0 0)=some ⟨1,x5.out.map eB,z7,g6⟩)→e 2=.ptr 0 2 0∧e 10=.list 2 (l_.map ePart) false∧e 11=.int .i64 (l_.length:Int)∧e 12=.int .i64 i4∧f.box 2=some [.ptr (n0+1) t0 0,.list 5 (x_l.map eNode) false]→zn7 SP (E SP (.loop b_Q107_1) ⟨e,f::S⟩)=.ok (.v (.tup [])) (setArr (setBox S n0 t0 ([.sl 0 (.cell t0 0) 0 x'.out.length x'.out.length x'_g0 false]++((getBox S n0 t0).getD []).drop 1)) n0 (.cell t0 0) ⟨1,x'.out.map eB,x'_z0,x'_g0⟩)
theorem zfP (x_l:List Node) (l_:List Part) (i4:Int) (x5:SWriter) (g6:Nat) (z7:Bool) (x':SWriter) (x'_g0:Nat) (x'_z0:Bool) (T :
  ((i4 < (l_.length:Int)) →
  (0≤i4) ∧
  ∃ (v8:Part),(l_[i4.toNat]?=some v8) ∧
  ((v8.Ref=true) →
   ∃ (y9:SWriter) (g10:Nat) (z11:Bool),(zY x5 g6 z7 [[36,123],v8.Text,[125]] y9 g10 z11) ∧
   (I64 (i4+1)) ∧
   zcS x_l l_ (i4+1) y9 g10 z11 x' x'_g0 x'_z0) ∧
  (¬ (v8.Ref=true) →
   ∃ (y12:SWriter) (g13:Nat) (z14:Bool),(znW x5 g6 z7 v8.Text y12 g13 z14) ∧
   (I64 (i4+1)) ∧
   zcS x_l l_ (i4+1) y12 g13 z14 x' x'_g0 x'_z0)) ∧
 (¬ (i4 < (l_.length:Int)) →
  ∃ (y15:SWriter) (g16:Nat) (z17:Bool),(zY x5 g6 z7 [[34]] y15 g16 z17) ∧
  y15=x'∧g16=x'_g0∧z17=x'_z0)):zcS x_l l_ i4 x5 g6 z7 x' x'_g0 x'_z0:=by
 intro S e f n0 t0 H0 h
 obtain⟨hb0,ha0⟩:=H0
 obtain⟨w0,hB0⟩:=zh hb0
 have hn0:=zc hB0
 unfold zn7
 rw[zo]
 have F:=zrm
 exact rp n0 t0 (aa ha0<|aa hB0<|aa hn0<|aa h<|F) T
theorem zrS (x:SWriter) (x_g0:Nat) (x_z0:Bool) (x_l:List Node) (l_:List Part) (x':SWriter) (x'_g0:Nat) (x'_z0:Bool) (T :
  ∃ (y1:SWriter) (g2:Nat) (z3:Bool),(zY x x_g0 x_z0 [[34]] y1 g2 z3) ∧
 zcS x_l l_ 0 y1 g2 z3 x' x'_g0 x'_z0):zoe x x_g0 x_z0 x_l l_ x' x'_g0 x'_z0:=by
 intro S n0 t0 H0
 obtain⟨hb0,ha0⟩:=H0
 obtain⟨w0,hB0⟩:=zh hb0
 have hn0:=zc hB0
 rw[za zvT _ _ rfl]
 have F:=zrm
 exact rp n0 t0 (aa ha0<|aa hB0<|aa hn0<|F) T
theorem zwP:SP 110=some (.code sc_Q110):=zb rfl Tryz.func110 comp_Q110
theorem ztm (x:SWriter) (x_g0:Nat) (x_z0:Bool) (x_l:List Node) (at_:Int) (least:Int) (x':SWriter) (x'_g0:Nat) (x'_z0:Bool) (T :
  (0≤at_) ∧
 ∃ (v1:Node),(x_l[at_.toNat]?=some v1) ∧
 ∃ (r2:Int),(zjW v1.Kind r2) ∧
 ((least≤r2) →
  ∃ (y3:SWriter) (g4:Nat) (z5:Bool),(zbV x x_g0 x_z0 x_l at_ y3 g4 z5) ∧
  y3=x'∧g4=x'_g0∧z5=x'_z0) ∧
 (¬ (least≤r2) →
  ∃ (y6:SWriter) (g7:Nat) (z8:Bool),(zY x x_g0 x_z0 [[40]] y6 g7 z8) ∧
  ∃ (y9:SWriter) (g10:Nat) (z11:Bool),(zbV y6 g7 z8 x_l at_ y9 g10 z11) ∧
  ∃ (y12:SWriter) (g13:Nat) (z14:Bool),(zY y9 g10 z11 [[41]] y12 g13 z14) ∧
  y12=x'∧g13=x'_g0∧z14=x'_z0)):zbZ x x_g0 x_z0 x_l at_ least x' x'_g0 x'_z0:=by
 intro S n0 t0 H0
 obtain⟨hb0,ha0⟩:=H0
 obtain⟨w0,hB0⟩:=zh hb0
 have hn0:=zc hB0
 rw[za zwP _ _ rfl]
 have F:=zyx
 exact rp n0 t0 (aa ha0<|aa hB0<|aa hn0<|F) T
theorem zxf:SP 109=some (.code sc_Q109):=zb rfl Tryz.func109 comp_Q109
def zdP (x_l:List Node) (l_:List Int) (i1:Int) (x2:SWriter) (g3:Nat) (z4:Bool) (x':SWriter) (x'_g0:Nat) (x'_z0:Bool):Prop:=∀ (S:Sto) (e:Nat→PV) (f:Fr) (n0 t0:Nat),((getBox S n0 t0).map (List.take 1)=some [.sl 0 (.cell t0 0) 0 x2.out.length x2.out.length g3 false]∧getArr S n0 (.cell t0 0)=some ⟨1,x2.out.map eB,z4,g3⟩)→e 2=.ptr 0 2 0∧e 6=.list 1 (l_.map eI) false∧e 7=.int .i64 (l_.length:Int)∧e 8=.int .i64 i1∧f.box 2=some [.ptr (n0+1) t0 0,.list 5 (x_l.map eNode) false]→zm2 SP (E SP (.loop b_Q109_1) ⟨e,f::S⟩)=.ok (.v (.tup [])) (setArr (setBox S n0 t0 ([.sl 0 (.cell t0 0) 0 x'.out.length x'.out.length x'_g0 false]++((getBox S n0 t0).getD []).drop 1)) n0 (.cell t0 0) ⟨1,x'.out.map eB,x'_z0,x'_g0⟩)
theorem zdF (x_l:List Node) (l_:List Int) (i1:Int) (x2:SWriter) (g3:Nat) (z4:Bool) (x':SWriter) (x'_g0:Nat) (x'_z0:Bool) (T :
  ((i1 < (l_.length:Int)) →
  (0≤i1) ∧
  ∃ (v5:Int),(l_[i1.toNat]?=some v5) ∧
  ((0 < i1) →
   ∃ (y6:SWriter) (g7:Nat) (z8:Bool),(zY x2 g3 z4 [[44,32]] y6 g7 z8) ∧
   ∃ (y9:SWriter) (g10:Nat) (z11:Bool),(zbV y6 g7 z8 x_l v5 y9 g10 z11) ∧
   (I64 (i1+1)) ∧
   zdP x_l l_ (i1+1) y9 g10 z11 x' x'_g0 x'_z0) ∧
  (¬ (0 < i1) →
   ∃ (y12:SWriter) (g13:Nat) (z14:Bool),(zbV x2 g3 z4 x_l v5 y12 g13 z14) ∧
   (I64 (i1+1)) ∧
   zdP x_l l_ (i1+1) y12 g13 z14 x' x'_g0 x'_z0)) ∧
 (¬ (i1 < (l_.length:Int)) →
  x2=x'∧g3=x'_g0∧z4=x'_z0)):zdP x_l l_ i1 x2 g3 z4 x' x'_g0 x'_z0:=by
 intro S e f n0 t0 H0 h
 obtain⟨hb0,ha0⟩:=H0
 obtain⟨w0,hB0⟩:=zh hb0
 have hn0:=zc hB0
 unfold zm2
 rw[zo]
 have F:=ztl
 exact rp n0 t0 (aa ha0<|aa hB0<|aa hn0<|aa h<|F) T
theorem zsW (x:SWriter) (x_g0:Nat) (x_z0:Bool) (x_l:List Node) (l_:List Int) (x':SWriter) (x'_g0:Nat) (x'_z0:Bool) (T :
  zdP x_l l_ 0 x x_g0 x_z0 x' x'_g0 x'_z0):zj8 x x_g0 x_z0 x_l l_ x' x'_g0 x'_z0:=by
 intro S n0 t0 H0
 obtain⟨hb0,ha0⟩:=H0
 obtain⟨w0,hB0⟩:=zh hb0
 have hn0:=zc hB0
 rw[za zxf _ _ rfl]
 have F:=ztl
 exact rp n0 t0 (aa ha0<|aa hB0<|aa hn0<|F) T
theorem zxe:SP 111=some (.code sc_Q111):=zb rfl Tryz.func111 comp_Q111
theorem zr4 (x:SWriter) (x_g0:Nat) (x_z0:Bool) (x_l:List Node) (n:Node) (x':SWriter) (x'_g0:Nat) (x'_z0:Bool) (T :
  ∃ (r1:Int),(zjW n.Kind r1) ∧
 ((r1=3) →
  (I64 (r1+1)) ∧
  ∃ (v2:Int),(n.Kids[0]?=some v2) ∧
  ∃ (y3:SWriter) (g4:Nat) (z5:Bool),(zbZ x x_g0 x_z0 x_l v2 (r1+1) y3 g4 z5) ∧
  ∃ (r6:List UInt8),(zjZ n.Kind r6) ∧
  ∃ (y7:SWriter) (g8:Nat) (z9:Bool),(zY y3 g4 z5 [[32],r6,[32]] y7 g8 z9) ∧
  ∃ (v10:Int),(n.Kids[1]?=some v10) ∧
  (I64 (r1+1)) ∧
  ∃ (y11:SWriter) (g12:Nat) (z13:Bool),(zbZ y7 g8 z9 x_l v10 (r1+1) y11 g12 z13) ∧
  y11=x'∧g12=x'_g0∧z13=x'_z0) ∧
 (¬ (r1=3) →
  ∃ (v14:Int),(n.Kids[0]?=some v14) ∧
  ∃ (y15:SWriter) (g16:Nat) (z17:Bool),(zbZ x x_g0 x_z0 x_l v14 r1 y15 g16 z17) ∧
  ∃ (r18:List UInt8),(zjZ n.Kind r18) ∧
  ∃ (y19:SWriter) (g20:Nat) (z21:Bool),(zY y15 g16 z17 [[32],r18,[32]] y19 g20 z21) ∧
  ∃ (v22:Int),(n.Kids[1]?=some v22) ∧
  (I64 (r1+1)) ∧
  ∃ (y23:SWriter) (g24:Nat) (z25:Bool),(zbZ y19 g20 z21 x_l v22 (r1+1) y23 g24 z25) ∧
  y23=x'∧g24=x'_g0∧z25=x'_z0)):zrk x x_g0 x_z0 x_l n x' x'_g0 x'_z0:=by
 intro S n0 t0 H0
 obtain⟨hb0,ha0⟩:=H0
 obtain⟨w0,hB0⟩:=zh hb0
 have hn0:=zc hB0
 rw[za zxe _ _ rfl]
 have F:=zxg
 exact rp n0 t0 (aa ha0<|aa hB0<|aa hn0<|F) T
theorem zx5:SP 69=some (.code sc_Q69):=zb rfl Tryz.func69 comp_Q69
theorem zty (x:SWriter) (x_g0:Nat) (x_z0:Bool) (x_l:List Node) (at_:Int) (x':SWriter) (x'_g0:Nat) (x'_z0:Bool) (T :
  (0≤at_) ∧
 ∃ (v1:Node),(x_l[at_.toNat]?=some v1) ∧
 ((v1.Kind=1) →
  ∃ (r2:List UInt8),(zcg v1.Num r2) ∧
  ∃ (y3:SWriter) (g4:Nat) (z5:Bool),(zY x x_g0 x_z0 [r2] y3 g4 z5) ∧
  y3=x'∧g4=x'_g0∧z5=x'_z0) ∧
 (¬ (v1.Kind=1) →
  ((v1.Kind=2) →
   ∃ (y6:SWriter) (g7:Nat) (z8:Bool),(zoe x x_g0 x_z0 x_l v1.Parts y6 g7 z8) ∧
   y6=x'∧g7=x'_g0∧z8=x'_z0) ∧
  (¬ (v1.Kind=2) →
   ((v1.Kind=3) →
    ∃ (r9:List UInt8),(zdm (decide (v1.Num=1)) r9) ∧
    ∃ (y10:SWriter) (g11:Nat) (z12:Bool),(zY x x_g0 x_z0 [r9] y10 g11 z12) ∧
    y10=x'∧g11=x'_g0∧z12=x'_z0) ∧
   (¬ (v1.Kind=3) →
    ((v1.Kind=4) →
     ∃ (y13:SWriter) (g14:Nat) (z15:Bool),(zY x x_g0 x_z0 [v1.Text] y13 g14 z15) ∧
     y13=x'∧g14=x'_g0∧z15=x'_z0) ∧
    (¬ (v1.Kind=4) →
     ((v1.Kind=5) →
      ∃ (y16:SWriter) (g17:Nat) (z18:Bool),(zY x x_g0 x_z0 [v1.Text,[40]] y16 g17 z18) ∧
      ∃ (y19:SWriter) (g20:Nat) (z21:Bool),(zj8 y16 g17 z18 x_l v1.Kids y19 g20 z21) ∧
      ∃ (y22:SWriter) (g23:Nat) (z24:Bool),(zY y19 g20 z21 [[41]] y22 g23 z24) ∧
      y22=x'∧g23=x'_g0∧z24=x'_z0) ∧
     (¬ (v1.Kind=5) →
      ((v1.Kind=6) →
       ∃ (y25:SWriter) (g26:Nat) (z27:Bool),(zY x x_g0 x_z0 [[91]] y25 g26 z27) ∧
       ∃ (y28:SWriter) (g29:Nat) (z30:Bool),(zj8 y25 g26 z27 x_l v1.Kids y28 g29 z30) ∧
       ∃ (y31:SWriter) (g32:Nat) (z33:Bool),(zY y28 g29 z30 [[93]] y31 g32 z33) ∧
       y31=x'∧g32=x'_g0∧z33=x'_z0) ∧
      (¬ (v1.Kind=6) →
       ((v1.Kind=7) →
        ∃ (v34:Int),(v1.Kids[0]?=some v34) ∧
        ∃ (y35:SWriter) (g36:Nat) (z37:Bool),(zbZ x x_g0 x_z0 x_l v34 7 y35 g36 z37) ∧
        ∃ (y38:SWriter) (g39:Nat) (z40:Bool),(zY y35 g36 z37 [[91]] y38 g39 z40) ∧
        ∃ (v41:Int),(v1.Kids[1]?=some v41) ∧
        ∃ (y42:SWriter) (g43:Nat) (z44:Bool),(zbV y38 g39 z40 x_l v41 y42 g43 z44) ∧
        ∃ (y45:SWriter) (g46:Nat) (z47:Bool),(zY y42 g43 z44 [[93]] y45 g46 z47) ∧
        y45=x'∧g46=x'_g0∧z47=x'_z0) ∧
       (¬ (v1.Kind=7) →
        ((v1.Kind=8) →
         ∃ (y48:SWriter) (g49:Nat) (z50:Bool),(zY x x_g0 x_z0 [[33]] y48 g49 z50) ∧
         ∃ (v51:Int),(v1.Kids[0]?=some v51) ∧
         ∃ (y52:SWriter) (g53:Nat) (z54:Bool),(zbZ y48 g49 z50 x_l v51 6 y52 g53 z54) ∧
         y52=x'∧g53=x'_g0∧z54=x'_z0) ∧
        (¬ (v1.Kind=8) →
         ((v1.Kind=9) →
          ∃ (y55:SWriter) (g56:Nat) (z57:Bool),(zY x x_g0 x_z0 [[45]] y55 g56 z57) ∧
          ∃ (v58:Int),(v1.Kids[0]?=some v58) ∧
          ∃ (y59:SWriter) (g60:Nat) (z61:Bool),(zbZ y55 g56 z57 x_l v58 6 y59 g60 z61) ∧
          y59=x'∧g60=x'_g0∧z61=x'_z0) ∧
         (¬ (v1.Kind=9) →
          ((v1.Kind=10) →
           ∃ (v62:Int),(v1.Kids[0]?=some v62) ∧
           ∃ (y63:SWriter) (g64:Nat) (z65:Bool),(zbZ x x_g0 x_z0 x_l v62 1 y63 g64 z65) ∧
           ∃ (y66:SWriter) (g67:Nat) (z68:Bool),(zY y63 g64 z65 [[32,63,32]] y66 g67 z68) ∧
           ∃ (v69:Int),(v1.Kids[1]?=some v69) ∧
           ∃ (y70:SWriter) (g71:Nat) (z72:Bool),(zbV y66 g67 z68 x_l v69 y70 g71 z72) ∧
           ∃ (y73:SWriter) (g74:Nat) (z75:Bool),(zY y70 g71 z72 [[32,58,32]] y73 g74 z75) ∧
           ∃ (v76:Int),(v1.Kids[2]?=some v76) ∧
           ∃ (y77:SWriter) (g78:Nat) (z79:Bool),(zbV y73 g74 z75 x_l v76 y77 g78 z79) ∧
           y77=x'∧g78=x'_g0∧z79=x'_z0) ∧
          (¬ (v1.Kind=10) →
           ∃ (y80:SWriter) (g81:Nat) (z82:Bool),(zrk x x_g0 x_z0 x_l v1 y80 g81 z82) ∧
           y80=x'∧g81=x'_g0∧z82=x'_z0))))))))))):zbV x x_g0 x_z0 x_l at_ x' x'_g0 x'_z0:=by
 intro S n0 t0 H0
 obtain⟨hb0,ha0⟩:=H0
 obtain⟨w0,hB0⟩:=zh hb0
 have hn0:=zc hB0
 rw[za zx5 _ _ rfl]
 have F:=zzJ
 exact rp n0 t0 (aa ha0<|aa hB0<|aa hn0<|F) T
theorem zxh:SP 45=some (.code sc_Q45):=zb rfl Tryz.func45 comp_Q45
theorem zuG (w:SWriter) (w_g0:Nat) (w_z0:Bool) (l_:List Node) (w':SWriter) (w'_g0:Nat) (w'_z0:Bool) (T :
  (I64 ((l_.length:Int) - 1)) ∧
 ∃ (y1:SWriter) (g2:Nat) (z3:Bool),(zbV w w_g0 w_z0 l_ ((l_.length:Int) - 1) y1 g2 z3) ∧
 y1=w'∧g2=w'_g0∧z3=w'_z0):zq8 w w_g0 w_z0 l_ w' w'_g0 w'_z0:=by
 intro S n0 t0 H0
 obtain⟨hb0,ha0⟩:=H0
 obtain⟨w0,hB0⟩:=zh hb0
 have hn0:=zc hB0
 rw[za zxh _ _ rfl]
 have F:=zze
 exact rp n0 t0 (aa ha0<|aa hB0<|aa hn0<|F) T
theorem zxq:SP 23=some (.code sc_Q23):=zb rfl Tryz.func23 comp_Q23
theorem ztN (l_:List Node) (r:List UInt8) (T :
  ∃ (r1:Bool),(zrf l_ r1) ∧
 ((r1=true) →
  ∃ (y2:SWriter) (g3:Nat) (z4:Bool),(zq8 (SWriter.mk []) 0 false l_ y2 g3 z4) ∧
  y2.out=r) ∧
 (¬ (r1=true) →
  []=r)):zh8 l_ r:=by
 intro S
 rw[za zxq _ _ rfl]
 have F:=zzt
 exact rn F T
end Go.Proofs.YtfbcnpbhhooapaaGreatDoor.M
namespace Go.Proofs.YtfbcnpbhhooapaaGreatDoor.M
open Go
def c_Q72_1:SC:=.seq (.reg [vO 2 (.mov (cI 7))]) .ret
def c_Q72_2:SC:=.cond (.t 12) (.seq (.reg [vO 2 (.mov (cI 3))]) .ret) (.seq (.reg [mO 20 0,vO 21 (.bin .eql (.t 20) (cI 19)),mO 22 21,gO 23 22 false (.mov (.t 0)),gO 24 22 false (.bin .eql (.t 23) (cI 20)),vO 25 (.pick (.t 22) (.c (.bool true)) (.t 24)),mO 19 25]) (.cond (.t 19) (.seq (.reg [vO 2 (.mov (cI 4))]) .ret) (.seq (.reg [mO 27 0,vO 28 (.bin .geq (.t 27) (cI 21)),mO 29 28,gO 30 29 true (.mov (.t 0)),gO 31 29 true (.bin .leq (.t 30) (cI 23)),vO 32 (.pick (.t 29) (.t 31) (.c (.bool false))),mO 26 32]) (.cond (.t 26) (.seq (.reg [vO 2 (.mov (cI 5))]) .ret) (.seq (.reg [mO 34 0,vO 35 (.bin .eql (.t 34) (cI 8)),mO 36 35,gO 37 36 false (.mov (.t 0)),gO 38 36 false (.bin .eql (.t 37) (cI 9)),vO 39 (.pick (.t 36) (.c (.bool true)) (.t 38)),mO 33 39]) (.cond (.t 33) (.seq (.reg [vO 2 (.mov (cI 6))]) .ret) .skip))))))
def c_Q72_3:SC:=.cond (.t 9) (.seq (.reg [vO 2 (.mov (cI 2))]) .ret) (.seq (.reg [mO 13 0,vO 14 (.bin .geq (.t 13) (cI 13)),mO 15 14,gO 16 15 true (.mov (.t 0)),gO 17 15 true (.bin .leq (.t 16) (cI 18)),vO 18 (.pick (.t 15) (.t 17) (.c (.bool false))),mO 12 18]) c_Q72_2)
def c_Q72_4:SC:=.cond (.t 6) (.seq (.reg [vO 2 (.mov (cI 1))]) .ret) (.seq (.reg [mO 10 0,vO 11 (.bin .eql (.t 10) (cI 12)),mO 9 11]) c_Q72_3)
def c_Q72_5:SC:=.cond (.t 3) (.seq (.reg [vO 2 (.mov (cI 0))]) .ret) (.seq (.reg [mO 7 0,vO 8 (.bin .eql (.t 7) (cI 11)),mO 6 8]) c_Q72_4)
def c_Q72_6:SC:=.seq (.block 0 (.seq (.reg [mO 4 0,vO 5 (.bin .eql (.t 4) (cI 10)),mO 3 5]) c_Q72_5)) c_Q72_1
def sc_Q72:zf:=⟨1,40,.seq (.reg [vO 2 (.mov (cI 0))]) c_Q72_6,[(.t 2)]⟩
theorem zzd:type_of% (aI (ue c_Q72_1.eq_1)<|aI (ue c_Q72_2.eq_1)<|aI (ue c_Q72_3.eq_1)<|aI (ue c_Q72_4.eq_1)<|aI (ue c_Q72_5.eq_1)<|aI (ue c_Q72_6.eq_1)<|sc_Q72.eq_1):=aI (ue c_Q72_1.eq_1)<|aI (ue c_Q72_2.eq_1)<|aI (ue c_Q72_3.eq_1)<|aI (ue c_Q72_4.eq_1)<|aI (ue c_Q72_5.eq_1)<|aI (ue c_Q72_6.eq_1)<|sc_Q72.eq_1
theorem comp_Q72:comp Tryz.prog Tryz.f72=some sc_Q72:=by kernel_rfl
def sc_Q71:zf:=⟨2,10,.seq (.reg [vO 4 (.mov (.c (.str [])))]) (.seq (.seq (.reg [mO 5 1]) (.cond (.t 5) (.seq (.reg [mO 6 0,vO 7 (.bin .add (.c (.str [40])) (.t 6)),vO 8 (.bin .add (.t 7) (.c (.str [41]))),mO 4 8]) .ret) .skip)) (.seq (.reg [mO 9 0,mO 4 9]) .ret)),[(.t 4)]⟩
theorem zzv:type_of% (sc_Q71.eq_1):=sc_Q71.eq_1
theorem comp_Q71:comp Tryz.prog Tryz.f71=some sc_Q71:=by kernel_rfl
def c_Q70_1:SC:=.seq (.reg [mO 66 3,⟨some 67,none,.bslice 1 1 [(.int .u8 0)] [(0,(.c (.int .u8 34)))]⟩,⟨some 68,none,.append 1 1 (.t 66) (.t 67)⟩,vO 69 (.conv .bytes (.t 68)),mO 2 69]) .ret
def c_Q70_2:SC:=.reg [mO 12 4,vO 13 (.bin .add (.t 12) (cI 1)),mO 4 13]
def c_Q70_3:SC:=.reg [mO 39 5,vO 40 (.bin .add (.t 39) (cI 1)),mO 5 40]
def c_Q70_4:SC:=.seq (.reg [mO 48 6]) (.block 4 (.seq (.seq (.reg [vO 54 (.bin .eql (.t 48) (.c (.int .u8 34))),mO 53 54]) (.cond (.t 53) .skip (.seq (.reg [vO 55 (.bin .eql (.t 48) (.c (.int .u8 92))),mO 53 55]) (.cond (.t 53) .skip (.reg [vO 56 (.bin .eql (.t 48) (.c (.int .u8 36))),mO 53 56]))))) (.cond (.t 53) (.reg [mO 57 3,mO 58 6,⟨some 59,none,.bslice 1 2 [(.int .u8 0)] [(0,(.c (.int .u8 92))),(1,(.t 58))]⟩,⟨some 60,none,.append 1 1 (.t 57) (.t 59)⟩,mO 3 60]) (.seq (.reg [vO 62 (.bin .eql (.t 48) (.c (.int .u8 10))),mO 61 62]) (.cond (.t 61) (.reg [mO 63 3,⟨some 64,none,.bslice 1 2 [(.int .u8 0)] [(0,(.c (.int .u8 92))),(1,(.c (.int .u8 110)))]⟩,⟨some 65,none,.append 1 1 (.t 63) (.t 64)⟩,mO 3 65]) (.reg [mO 49 3,mO 50 6,⟨some 51,none,.bslice 1 1 [(.int .u8 0)] [(0,(.t 50))]⟩,⟨some 52,none,.append 1 1 (.t 49) (.t 51)⟩,mO 3 52]))))))
def c_Q70_5:SC:=.seq (.block 3 (.seq (.reg [mO 41 0,mO 42 4,vO 43 (.iaddr 2 (.t 41) (.t 42)),vO 44 (.faddr 1 (.t 43)),vO 45 (.load none (.t 44)),mO 46 5,vO 47 (.istr (.t 45) (.t 46)),mO 6 47]) c_Q70_4)) c_Q70_3
def b_Q70_2:SC:=.seq (.seq (.reg [mO 31 5,mO 32 0,mO 33 4,vO 34 (.iaddr 2 (.t 32) (.t 33)),vO 35 (.faddr 1 (.t 34)),vO 36 (.load none (.t 35)),vO 37 (.len true (.t 36)),vO 38 (.bin .lss (.t 31) (.t 37))]) (.cond (.t 38) .skip (.exit 2))) c_Q70_5
def c_Q70_6:SC:=.block 2 (.loop b_Q70_2)
def c_Q70_7:SC:=.seq (.reg [vO 5 (.mov (cI 0))]) c_Q70_6
def c_Q70_8:SC:=.seq (.block 1 (.seq (.seq (.reg [mO 14 0,mO 15 4,vO 16 (.iaddr 2 (.t 14) (.t 15)),vO 17 (.faddr 0 (.t 16)),vO 18 (.load none (.t 17))]) (.cond (.t 18) (.seq (.reg [mO 19 3,⟨some 20,none,.append 1 1 (.t 19) (.c (.str [36,123]))⟩,mO 3 20]) (.seq (.reg [mO 21 3,mO 22 0,mO 23 4,vO 24 (.iaddr 2 (.t 22) (.t 23)),vO 25 (.faddr 1 (.t 24)),vO 26 (.load none (.t 25)),⟨some 27,none,.append 1 1 (.t 21) (.t 26)⟩,mO 3 27]) (.seq (.reg [mO 28 3,⟨some 29,none,.bslice 1 1 [(.int .u8 0)] [(0,(.c (.int .u8 125)))]⟩,⟨some 30,none,.append 1 1 (.t 28) (.t 29)⟩,mO 3 30]) (.exit 1)))) .skip)) c_Q70_7)) c_Q70_2
def b_Q70_1:SC:=.seq (.seq (.reg [mO 8 4,mO 9 0,vO 10 (.len false (.t 9)),vO 11 (.bin .lss (.t 8) (.t 10))]) (.cond (.t 11) .skip (.exit 0))) c_Q70_8
def c_Q70_9:SC:=.block 0 (.loop b_Q70_1)
def c_Q70_10:SC:=.seq (.seq (.reg [vO 4 (.mov (cI 0))]) c_Q70_9) c_Q70_1
def c_Q70_11:SC:=.seq (.reg [⟨some 7,none,.bslice 1 1 [(.int .u8 0)] [(0,(.c (.int .u8 34)))]⟩,mO 3 7]) c_Q70_10
def sc_Q70:zf:=⟨1,70,.seq (.reg [vO 2 (.mov (.c (.str [])))]) c_Q70_11,[(.t 2)]⟩
noncomputable def zaC (SP:Prg) (x:EO):CO:=fin [(.t 2)] (thC SP (zw 0 (thC SP (thC SP (zw 1 (zw 2 (x))) c_Q70_2) (.loop b_Q70_1))) c_Q70_1)
noncomputable def zbP (SP:Prg) (x:EO):CO:=fin [(.t 2)] (thC SP (zw 0 (x)) c_Q70_1)
theorem zbU:type_of% (aI (ue c_Q70_1.eq_1)<|aI (ue c_Q70_2.eq_1)<|aI (ue c_Q70_3.eq_1)<|aI (ue c_Q70_4.eq_1)<|aI (ue c_Q70_5.eq_1)<|aI (ue b_Q70_2.eq_1)<|aI (ue c_Q70_6.eq_1)<|aI (ue c_Q70_7.eq_1)<|aI (ue c_Q70_8.eq_1)<|aI (ue b_Q70_1.eq_1)<|aI (ue c_Q70_9.eq_1)<|aI (ue c_Q70_10.eq_1)<|aI (ue c_Q70_11.eq_1)<|sc_Q70.eq_1):=aI (ue c_Q70_1.eq_1)<|aI (ue c_Q70_2.eq_1)<|aI (ue c_Q70_3.eq_1)<|aI (ue c_Q70_4.eq_1)<|aI (ue c_Q70_5.eq_1)<|aI (ue b_Q70_2.eq_1)<|aI (ue c_Q70_6.eq_1)<|aI (ue c_Q70_7.eq_1)<|aI (ue c_Q70_8.eq_1)<|aI (ue b_Q70_1.eq_1)<|aI (ue c_Q70_9.eq_1)<|aI (ue c_Q70_10.eq_1)<|aI (ue c_Q70_11.eq_1)<|sc_Q70.eq_1
theorem comp_Q70:comp Tryz.prog Tryz.f70=some sc_Q70:=by kernel_rfl
def c_Q46_1:SC:=.seq (.dreg [mO 195 0,mO 196 9,kO 197 46 [(.t 195),(.t 196)],mO 198 13,kO 199 71 [(.t 197),(.t 198)],vO 200 (.bin .add (.t 199) (.c (.str [32]))),mO 201 11,vO 202 (.faddr 0 (.t 5)),vO 203 (.load none (.t 202)),vO 204 (.bin .sub (.t 203) (cI 11)),vO 205 (.iaddr 1 (.t 201) (.t 204)),vO 206 (.load none (.t 205)),vO 207 (.bin .add (.t 200) (.t 206)),vO 208 (.bin .add (.t 207) (.c (.str [32]))),mO 209 0,mO 210 10,kO 211 46 [(.t 209),(.t 210)],mO 212 0,mO 213 10,vO 214 (.iaddr 5 (.t 212) (.t 213)),vO 215 (.faddr 0 (.t 214)),vO 216 (.load none (.t 215)),kO 217 72 [(.t 216)],mO 218 12,vO 219 (.bin .leq (.t 217) (.t 218)),kO 220 71 [(.t 211),(.t 219)],vO 221 (.bin .add (.t 208) (.t 220)),mO 4 221] [false,false,false,false,false,false,false,false,false,false,false,false,false,false,false,false,false,false,false,false,false,false,false,false,false,false,true,true]) .ret
def c_Q46_2:SC:=.seq (.reg [mO 174 0,mO 175 9,vO 176 (.iaddr 5 (.t 174) (.t 175)),vO 177 (.faddr 0 (.t 176)),vO 178 (.load none (.t 177)),kO 179 72 [(.t 178)],mO 180 12,vO 181 (.bin .lss (.t 179) (.t 180)),mO 182 181,gO 183 182 false (.mov (.t 12)),gO 184 182 false (.bin .eql (.t 183) (cI 3)),gO 185 182 false (.mov (.t 184)),gO 186 185 true (.mov (.t 0)),gO 187 185 true (.mov (.t 9)),gO 188 185 true (.iaddr 5 (.t 186) (.t 187)),gO 189 185 true (.faddr 0 (.t 188)),gO 190 185 true (.load none (.t 189)),⟨some 191,some (185,true),.call (.c (.func 72 [])) [(.t 190)]⟩,gO 192 185 true (.bin .eql (.t 191) (cI 3)),gO 193 182 false (.pick (.t 185) (.t 192) (.c (.bool false))),vO 194 (.pick (.t 182) (.c (.bool true)) (.t 193)),mO 13 194]) c_Q46_1
def c_Q46_3:SC:=.seq (.reg [vO 171 (.faddr 0 (.t 5)),vO 172 (.load none (.t 171)),kO 173 72 [(.t 172)],mO 12 173]) c_Q46_2
def c_Q46_4:SC:=.seq (.reg [⟨some 170,none,.bslice 1 13 [(.str [])] [(0,(.c (.str [124,124]))),(1,(.c (.str [38,38]))),(2,(.c (.str [61,61]))),(3,(.c (.str [33,61]))),(4,(.c (.str [60]))),(5,(.c (.str [60,61]))),(6,(.c (.str [62]))),(7,(.c (.str [62,61]))),(8,(.c (.str [43]))),(9,(.c (.str [45]))),(10,(.c (.str [42]))),(11,(.c (.str [47]))),(12,(.c (.str [37])))]⟩,mO 11 170]) c_Q46_3
def c_Q46_5:SC:=.seq (.dreg [vO 162 (.faddr 4 (.t 5)),vO 163 (.load none (.t 162)),vO 164 (.iaddr 1 (.t 163) (cI 0)),vO 165 (.load none (.t 164)),vO 166 (.faddr 4 (.t 5)),vO 167 (.load none (.t 166)),vO 168 (.iaddr 1 (.t 167) (cI 1)),vO 169 (.load none (.t 168)),mO 9 165,mO 10 169] [false,false,false,false,false,false,false,false,false,true]) c_Q46_4
def c_Q46_6:SC:=.seq (.seq (.reg [vO 62 (.faddr 0 (.t 5)),vO 63 (.load none (.t 62)),vO 64 (.bin .eql (.t 63) (cI 6))]) (.cond (.t 64) (.seq (.reg [mO 65 6,vO 66 (.bin .add (.c (.str [91])) (.t 65)),vO 67 (.bin .add (.t 66) (.c (.str [93]))),mO 4 67]) .ret) .skip)) (.seq (.reg [vO 68 (.faddr 2 (.t 5)),vO 69 (.load none (.t 68)),vO 70 (.bin .add (.t 69) (.c (.str [40]))),mO 71 6,vO 72 (.bin .add (.t 70) (.t 71)),vO 73 (.bin .add (.t 72) (.c (.str [41]))),mO 4 73]) .ret)
def b_Q46_1:SC:=.seq (.seq (.reg [mO 42 7,vO 43 (.faddr 4 (.t 5)),vO 44 (.load none (.t 43)),vO 45 (.len false (.t 44)),vO 46 (.bin .lss (.t 42) (.t 45))]) (.cond (.t 46) .skip (.exit 1))) (.seq (.block 2 (.seq (.seq (.reg [mO 49 7,vO 50 (.bin .gtr (.t 49) (cI 0))]) (.cond (.t 50) (.reg [mO 51 6,vO 52 (.bin .add (.t 51) (.c (.str [44,32]))),mO 6 52]) .skip)) (.reg [mO 53 6,mO 54 0,vO 55 (.faddr 4 (.t 5)),vO 56 (.load none (.t 55)),mO 57 7,vO 58 (.iaddr 1 (.t 56) (.t 57)),vO 59 (.load none (.t 58)),kO 60 46 [(.t 54),(.t 59)],vO 61 (.bin .add (.t 53) (.t 60)),mO 6 61]))) (.reg [mO 47 7,vO 48 (.bin .add (.t 47) (cI 1)),mO 7 48]))
def c_Q46_7:SC:=.seq (.seq (.reg [vO 7 (.mov (cI 0))]) (.block 1 (.loop b_Q46_1))) c_Q46_6
def c_Q46_8:SC:=.seq (.seq (.reg [vO 105 (.faddr 0 (.t 5)),vO 106 (.load none (.t 105)),vO 107 (.bin .eql (.t 106) (cI 9))]) (.cond (.t 107) (.reg [vO 8 (.mov (.c (.str [45])))]) .skip)) (.seq (.dreg [mO 108 8,mO 109 0,vO 110 (.faddr 4 (.t 5)),vO 111 (.load none (.t 110)),vO 112 (.iaddr 1 (.t 111) (cI 0)),vO 113 (.load none (.t 112)),kO 114 46 [(.t 109),(.t 113)],mO 115 0,vO 116 (.faddr 4 (.t 5)),vO 117 (.load none (.t 116)),vO 118 (.iaddr 1 (.t 117) (cI 0)),vO 119 (.load none (.t 118)),vO 120 (.iaddr 5 (.t 115) (.t 119)),vO 121 (.faddr 0 (.t 120)),vO 122 (.load none (.t 121)),kO 123 72 [(.t 122)],vO 124 (.bin .lss (.t 123) (cI 6)),kO 125 71 [(.t 114),(.t 124)],vO 126 (.bin .add (.t 108) (.t 125)),mO 4 126] [false,false,false,false,false,false,false,false,false,false,false,false,false,false,false,true,true,true,true,true]) .ret)
def c_Q46_9:SC:=.cond (.t 127) (.seq (.dreg [mO 129 0,vO 130 (.faddr 4 (.t 5)),vO 131 (.load none (.t 130)),vO 132 (.iaddr 1 (.t 131) (cI 0)),vO 133 (.load none (.t 132)),kO 134 46 [(.t 129),(.t 133)],mO 135 0,vO 136 (.faddr 4 (.t 5)),vO 137 (.load none (.t 136)),vO 138 (.iaddr 1 (.t 137) (cI 0)),vO 139 (.load none (.t 138)),vO 140 (.iaddr 5 (.t 135) (.t 139)),vO 141 (.faddr 0 (.t 140)),vO 142 (.load none (.t 141)),kO 143 72 [(.t 142)],vO 144 (.bin .eql (.t 143) (cI 0)),kO 145 71 [(.t 134),(.t 144)],vO 146 (.bin .add (.t 145) (.c (.str [32,63,32]))),mO 147 0,vO 148 (.faddr 4 (.t 5)),vO 149 (.load none (.t 148)),vO 150 (.iaddr 1 (.t 149) (cI 1)),vO 151 (.load none (.t 150)),kO 152 46 [(.t 147),(.t 151)],vO 153 (.bin .add (.t 146) (.t 152)),vO 154 (.bin .add (.t 153) (.c (.str [32,58,32]))),mO 155 0,vO 156 (.faddr 4 (.t 5)),vO 157 (.load none (.t 156)),vO 158 (.iaddr 1 (.t 157) (cI 2)),vO 159 (.load none (.t 158)),kO 160 46 [(.t 155),(.t 159)],vO 161 (.bin .add (.t 154) (.t 160)),mO 4 161] [false,false,false,false,false,false,false,false,false,false,false,false,false,false,false,false,false,false,false,false,false,false,false,false,false,false,false,false,false,false,false,true,true,true]) .ret) .skip
def c_Q46_10:SC:=.cond (.t 102) (.seq (.reg [vO 8 (.mov (.c (.str [33])))]) c_Q46_8) (.seq (.reg [vO 128 (.bin .eql (.t 19) (cI 10)),mO 127 128]) c_Q46_9)
def c_Q46_11:SC:=.cond (.t 74) (.seq (.dreg [mO 76 0,vO 77 (.faddr 4 (.t 5)),vO 78 (.load none (.t 77)),vO 79 (.iaddr 1 (.t 78) (cI 0)),vO 80 (.load none (.t 79)),kO 81 46 [(.t 76),(.t 80)],mO 82 0,vO 83 (.faddr 4 (.t 5)),vO 84 (.load none (.t 83)),vO 85 (.iaddr 1 (.t 84) (cI 0)),vO 86 (.load none (.t 85)),vO 87 (.iaddr 5 (.t 82) (.t 86)),vO 88 (.faddr 0 (.t 87)),vO 89 (.load none (.t 88)),kO 90 72 [(.t 89)],vO 91 (.bin .lss (.t 90) (cI 7)),kO 92 71 [(.t 81),(.t 91)],vO 93 (.bin .add (.t 92) (.c (.str [91]))),mO 94 0,vO 95 (.faddr 4 (.t 5)),vO 96 (.load none (.t 95)),vO 97 (.iaddr 1 (.t 96) (cI 1)),vO 98 (.load none (.t 97)),kO 99 46 [(.t 94),(.t 98)],vO 100 (.bin .add (.t 93) (.t 99)),vO 101 (.bin .add (.t 100) (.c (.str [93]))),mO 4 101] [false,false,false,false,false,false,false,false,false,false,false,false,false,false,false,false,false,false,false,false,false,false,false,true,true,true,true]) .ret) (.seq (.seq (.reg [vO 103 (.bin .eql (.t 19) (cI 8)),mO 102 103]) (.cond (.t 102) .skip (.reg [vO 104 (.bin .eql (.t 19) (cI 9)),mO 102 104]))) c_Q46_10)
def c_Q46_12:SC:=.cond (.t 39) (.seq (.reg [vO 6 (.mov (.c (.str [])))]) c_Q46_7) (.seq (.reg [vO 75 (.bin .eql (.t 19) (cI 7)),mO 74 75]) c_Q46_11)
def c_Q46_13:SC:=.cond (.t 35) (.seq (.reg [vO 37 (.faddr 2 (.t 5)),vO 38 (.load none (.t 37)),mO 4 38]) .ret) (.seq (.seq (.reg [vO 40 (.bin .eql (.t 19) (cI 5)),mO 39 40]) (.cond (.t 39) .skip (.reg [vO 41 (.bin .eql (.t 19) (cI 6)),mO 39 41]))) c_Q46_12)
def c_Q46_14:SC:=.cond (.t 30) (.seq (.seq (.reg [vO 32 (.faddr 1 (.t 5)),vO 33 (.load none (.t 32)),vO 34 (.bin .eql (.t 33) (cI 1))]) (.cond (.t 34) (.seq (.reg [vO 4 (.mov (.c (.str [116,114,117,101])))]) .ret) .skip)) (.seq (.reg [vO 4 (.mov (.c (.str [102,97,108,115,101])))]) .ret)) (.seq (.reg [vO 36 (.bin .eql (.t 19) (cI 4)),mO 35 36]) c_Q46_13)
def c_Q46_15:SC:=.cond (.t 25) (.seq (.reg [vO 27 (.faddr 3 (.t 5)),vO 28 (.load none (.t 27)),kO 29 70 [(.t 28)],mO 4 29]) .ret) (.seq (.reg [vO 31 (.bin .eql (.t 19) (cI 3)),mO 30 31]) c_Q46_14)
def c_Q46_16:SC:=.cond (.t 20) (.seq (.reg [vO 22 (.faddr 1 (.t 5)),vO 23 (.load none (.t 22)),kO 24 16 [(.t 23)],mO 4 24]) .ret) (.seq (.reg [vO 26 (.bin .eql (.t 19) (cI 2)),mO 25 26]) c_Q46_15)
def c_Q46_17:SC:=.block 0 (.seq (.reg [vO 21 (.bin .eql (.t 19) (cI 1)),mO 20 21]) c_Q46_16)
def c_Q46_18:SC:=.seq (.seq (.reg [vO 18 (.faddr 0 (.t 5)),vO 19 (.load none (.t 18))]) c_Q46_17) c_Q46_5
def c_Q46_19:SC:=.seq (.reg [mO 14 0,mO 15 1,vO 16 (.iaddr 5 (.t 14) (.t 15)),vO 17 (.load (some 5) (.t 16)),⟨some 5,none,.alloc [(.int .i64 0),(.int .i64 0),(.str []),(.nils 2),(.nils 1)]⟩,⟨none,none,.store 5 (.t 5) (.t 17)⟩]) c_Q46_18
def sc_Q46:zf:=⟨2,222,.seq (.reg [vO 4 (.mov (.c (.str [])))]) c_Q46_19,[(.t 4)]⟩
noncomputable def zp4 (SP:Prg) (x:EO):CO:=fin [(.t 4)] (thC SP (zw 0 (thC SP (zw 1 (x)) c_Q46_6)) c_Q46_5)
theorem zvj:type_of% (aI (ue c_Q46_1.eq_1)<|aI (ue c_Q46_2.eq_1)<|aI (ue c_Q46_3.eq_1)<|aI (ue c_Q46_4.eq_1)<|aI (ue c_Q46_5.eq_1)<|aI (ue c_Q46_6.eq_1)<|aI (ue b_Q46_1.eq_1)<|aI (ue c_Q46_7.eq_1)<|aI (ue c_Q46_8.eq_1)<|aI (ue c_Q46_9.eq_1)<|aI (ue c_Q46_10.eq_1)<|aI (ue c_Q46_11.eq_1)<|aI (ue c_Q46_12.eq_1)<|aI (ue c_Q46_13.eq_1)<|aI (ue c_Q46_14.eq_1)<|aI (ue c_Q46_15.eq_1)<|aI (ue c_Q46_16.eq_1)<|aI (ue c_Q46_17.eq_1)<|aI (ue c_Q46_18.eq_1)<|aI (ue c_Q46_19.eq_1)<|sc_Q46.eq_1):=aI (ue c_Q46_1.eq_1)<|aI (ue c_Q46_2.eq_1)<|aI (ue c_Q46_3.eq_1)<|aI (ue c_Q46_4.eq_1)<|aI (ue c_Q46_5.eq_1)<|aI (ue c_Q46_6.eq_1)<|aI (ue b_Q46_1.eq_1)<|aI (ue c_Q46_7.eq_1)<|aI (ue c_Q46_8.eq_1)<|aI (ue c_Q46_9.eq_1)<|aI (ue c_Q46_10.eq_1)<|aI (ue c_Q46_11.eq_1)<|aI (ue c_Q46_12.eq_1)<|aI (ue c_Q46_13.eq_1)<|aI (ue c_Q46_14.eq_1)<|aI (ue c_Q46_15.eq_1)<|aI (ue c_Q46_16.eq_1)<|aI (ue c_Q46_17.eq_1)<|aI (ue c_Q46_18.eq_1)<|aI (ue c_Q46_19.eq_1)<|sc_Q46.eq_1
theorem comp_Q46:comp Tryz.prog Tryz.f46=some sc_Q46:=by kernel_rfl
def sc_Q24:zf:=⟨1,11,.seq (.reg [vO 2 (.mov (.c (.str [])))]) (.seq (.seq (.reg [mO 3 0,kO 4 29 [(.t 3)],vO 5 (.un .not (.t 4))]) (.cond (.t 5) (.seq (.reg [vO 2 (.mov (.c (.str [])))]) .ret) .skip)) (.seq (.reg [mO 6 0,mO 7 0,vO 8 (.len false (.t 7)),vO 9 (.bin .sub (.t 8) (cI 1)),kO 10 46 [(.t 6),(.t 9)],mO 2 10]) .ret)),[(.t 2)]⟩
theorem zzu:type_of% (sc_Q24.eq_1):=sc_Q24.eq_1
theorem comp_Q24:comp Tryz.prog Tryz.f24=some sc_Q24:=by kernel_rfl
def sc_Q25:zf:=⟨0,10,.seq (.reg [vO 0 (.mov (.c (.bool false)))]) (.seq (.reg [kO 4 20 [(.c (.str [40,32,49,43,32,50,41,32,42,51]))],mO 3 4,vO 5 (.extract 0 (.t 3)),vO 6 (.extract 1 (.t 3)),mO 1 5,mO 2 6]) (.seq (.reg [mO 7 1,kO 8 23 [(.t 7)],vO 9 (.bin .eql (.t 8) (.c (.str [40,49,32,43,32,50,41,32,42,32,51]))),mO 0 9]) .ret)),[(.t 0)]⟩
theorem zzh:type_of% (sc_Q25.eq_1):=sc_Q25.eq_1
theorem comp_Q25:comp Tryz.prog Tryz.f25=some sc_Q25:=by kernel_rfl
end Go.Proofs.YtfbcnpbhhooapaaGreatDoor.M
namespace Go.Proofs.YtfbcnpbhhooapaaGreatDoor.M
open Go Classical
theorem zyC:SP 72=some (.code sc_Q72):=zb rfl Tryz.func72 comp_Q72
theorem ztW (kind:Int) (r:Int) (T :
  ((kind=10) →
  0=r) ∧
 (¬ (kind=10) →
  ((kind=11) →
   1=r) ∧
  (¬ (kind=11) →
   ((kind=12) →
    2=r) ∧
   (¬ (kind=12) →
    ((13≤kind) →
     ((kind≤18) →
      3=r) ∧
     (¬ (kind≤18) →
      ((kind=19) →
       4=r) ∧
      (¬ (kind=19) →
       ((kind=20) →
        4=r) ∧
       (¬ (kind=20) →
        ((21≤kind) →
         ((kind≤23) →
          5=r) ∧
         (¬ (kind≤23) →
          ((kind=8) →
           6=r) ∧
          (¬ (kind=8) →
           ((kind=9) →
            6=r) ∧
           (¬ (kind=9) →
            7=r)))) ∧
        (¬ (21≤kind) →
         ((kind=8) →
          6=r) ∧
         (¬ (kind=8) →
          ((kind=9) →
           6=r) ∧
          (¬ (kind=9) →
           7=r))))))) ∧
    (¬ (13≤kind) →
     ((kind=19) →
      4=r) ∧
     (¬ (kind=19) →
      ((kind=20) →
       4=r) ∧
      (¬ (kind=20) →
       ((21≤kind) →
        ((kind≤23) →
         5=r) ∧
        (¬ (kind≤23) →
         ((kind=8) →
          6=r) ∧
         (¬ (kind=8) →
          ((kind=9) →
           6=r) ∧
          (¬ (kind=9) →
           7=r)))) ∧
       (¬ (21≤kind) →
        ((kind=8) →
         6=r) ∧
        (¬ (kind=8) →
         ((kind=9) →
          6=r) ∧
         (¬ (kind=9) →
          7=r)))))))))):zc7 kind r:=by
 intro S
 rw[za zyC _ _ rfl]
 have F:=zzd
 exact rn F T
theorem zxy:SP 71=some (.code sc_Q71):=zb rfl Tryz.func71 comp_Q71
theorem zuH (s:List UInt8) (is_:Bool) (r:List UInt8) (T :
  ((is_=true) →
  (1+s.length≤zd) ∧
  (s.length+1+1≤zd) ∧
  (([40]++s)++[41])=r) ∧
 (¬ (is_=true) →
  s=r)):zcB s is_ r:=by
 intro S
 rw[za zxy _ _ rfl]
 have F:=zzv
 exact rn F T
theorem zdi:∀ l:List UInt8,bytesOf (List.map eB l++[[PV.int .u8 34]])=some (l++[34]):=fun l=>by
  have e:List.map eB l++[[PV.int .u8 34]]=List.map eB (l++[34]):=by rw[List.map_append];rfl
  rw[e,zek]
theorem zxI:SP 70=some (.code sc_Q70):=zb rfl Tryz.func70 comp_Q70
def zeK (l_:List Part) (l1:List UInt8) (i2:Int) (r:List UInt8):Prop:=∀ (S:Sto) (e:Nat→PV) (f:Fr),e 0=.list 2 (l_.map ePart) false∧e 3=.list 1 (l1.map eB) true∧e 4=.int .i64 i2→zbP SP (E SP (.loop b_Q70_1) ⟨e,f::S⟩)=.ok (.v (.str r)) S
def zcN (l_:List Part) (i4:Int) (l5:List UInt8) (r:List UInt8):Prop:=∀ (S:Sto) (e:Nat→PV) (f:Fr),e 0=.list 2 (l_.map ePart) false∧e 3=.sl 0 (.slot 20) 0 l5.length l5.length 0 false∧e 4=.int .i64 i4∧f.arr (.slot 20)=some ⟨1,l5.map eB,true,0⟩→zbP SP (E SP (.loop b_Q70_1) ⟨e,f::S⟩)=.ok (.v (.str r)) S
def zgj (l_:List Part) (i2:Int) (l6:List UInt8) (i7:Int) (r:List UInt8):Prop:=∀ (S:Sto) (e:Nat→PV) (f:Fr),e 0=.list 2 (l_.map ePart) false∧e 3=.list 1 (l6.map eB) true∧e 4=.int .i64 i2∧e 5=.int .i64 i7→zaC SP (E SP (.loop b_Q70_2) ⟨e,f::S⟩)=.ok (.v (.str r)) S
def zb6 (l_:List Part) (i4:Int) (i9:Int) (l10:List UInt8) (r:List UInt8):Prop:=∀ (S:Sto) (e:Nat→PV) (f:Fr),e 0=.list 2 (l_.map ePart) false∧e 3=.sl 0 (.slot 20) 0 l10.length l10.length 0 false∧e 4=.int .i64 i4∧e 5=.int .i64 i9∧f.arr (.slot 20)=some ⟨1,l10.map eB,true,0⟩→zaC SP (E SP (.loop b_Q70_2) ⟨e,f::S⟩)=.ok (.v (.str r)) S
def zaN (l_:List Part) (i2:Int) (i13:Int) (l14:List UInt8) (r:List UInt8):Prop:=∀ (S:Sto) (e:Nat→PV) (f:Fr),e 0=.list 2 (l_.map ePart) false∧e 3=.sl 0 (.slot 60) 0 l14.length l14.length 0 false∧e 4=.int .i64 i2∧e 5=.int .i64 i13∧f.arr (.slot 60)=some ⟨1,l14.map eB,true,0⟩→zaC SP (E SP (.loop b_Q70_2) ⟨e,f::S⟩)=.ok (.v (.str r)) S
def zbm (l_:List Part) (i2:Int) (i15:Int) (l16:List UInt8) (r:List UInt8):Prop:=∀ (S:Sto) (e:Nat→PV) (f:Fr),e 0=.list 2 (l_.map ePart) false∧e 3=.sl 0 (.slot 65) 0 l16.length l16.length 0 false∧e 4=.int .i64 i2∧e 5=.int .i64 i15∧f.arr (.slot 65)=some ⟨1,l16.map eB,true,0⟩→zaC SP (E SP (.loop b_Q70_2) ⟨e,f::S⟩)=.ok (.v (.str r)) S
def zbq (l_:List Part) (i2:Int) (i17:Int) (l18:List UInt8) (r:List UInt8):Prop:=∀ (S:Sto) (e:Nat→PV) (f:Fr),e 0=.list 2 (l_.map ePart) false∧e 3=.sl 0 (.slot 52) 0 l18.length l18.length 0 false∧e 4=.int .i64 i2∧e 5=.int .i64 i17∧f.arr (.slot 52)=some ⟨1,l18.map eB,true,0⟩→zaC SP (E SP (.loop b_Q70_2) ⟨e,f::S⟩)=.ok (.v (.str r)) S
def zdT (l_:List Part) (i23:Int) (l24:List UInt8) (r:List UInt8):Prop:=∀ (S:Sto) (e:Nat→PV) (f:Fr),e 0=.list 2 (l_.map ePart) false∧e 3=.sl 0 (.slot 60) 0 l24.length l24.length 0 false∧e 4=.int .i64 i23∧f.arr (.slot 60)=some ⟨1,l24.map eB,true,0⟩→zbP SP (E SP (.loop b_Q70_1) ⟨e,f::S⟩)=.ok (.v (.str r)) S
def zd3 (l_:List Part) (i27:Int) (l28:List UInt8) (r:List UInt8):Prop:=∀ (S:Sto) (e:Nat→PV) (f:Fr),e 0=.list 2 (l_.map ePart) false∧e 3=.sl 0 (.slot 65) 0 l28.length l28.length 0 false∧e 4=.int .i64 i27∧f.arr (.slot 65)=some ⟨1,l28.map eB,true,0⟩→zbP SP (E SP (.loop b_Q70_1) ⟨e,f::S⟩)=.ok (.v (.str r)) S
def zdQ (l_:List Part) (i31:Int) (l32:List UInt8) (r:List UInt8):Prop:=∀ (S:Sto) (e:Nat→PV) (f:Fr),e 0=.list 2 (l_.map ePart) false∧e 3=.sl 0 (.slot 52) 0 l32.length l32.length 0 false∧e 4=.int .i64 i31∧f.arr (.slot 52)=some ⟨1,l32.map eB,true,0⟩→zbP SP (E SP (.loop b_Q70_1) ⟨e,f::S⟩)=.ok (.v (.str r)) S
def zcd (l_:List Part) (i23:Int) (i34:Int) (l35:List UInt8) (r:List UInt8):Prop:=∀ (S:Sto) (e:Nat→PV) (f:Fr),e 0=.list 2 (l_.map ePart) false∧e 3=.sl 0 (.slot 60) 0 l35.length l35.length 0 false∧e 4=.int .i64 i23∧e 5=.int .i64 i34∧f.arr (.slot 60)=some ⟨1,l35.map eB,true,0⟩→zaC SP (E SP (.loop b_Q70_2) ⟨e,f::S⟩)=.ok (.v (.str r)) S
def zca (l_:List Part) (i27:Int) (i37:Int) (l38:List UInt8) (r:List UInt8):Prop:=∀ (S:Sto) (e:Nat→PV) (f:Fr),e 0=.list 2 (l_.map ePart) false∧e 3=.sl 0 (.slot 65) 0 l38.length l38.length 0 false∧e 4=.int .i64 i27∧e 5=.int .i64 i37∧f.arr (.slot 65)=some ⟨1,l38.map eB,true,0⟩→zaC SP (E SP (.loop b_Q70_2) ⟨e,f::S⟩)=.ok (.v (.str r)) S
def zb2 (l_:List Part) (i31:Int) (i40:Int) (l41:List UInt8) (r:List UInt8):Prop:=∀ (S:Sto) (e:Nat→PV) (f:Fr),e 0=.list 2 (l_.map ePart) false∧e 3=.sl 0 (.slot 52) 0 l41.length l41.length 0 false∧e 4=.int .i64 i31∧e 5=.int .i64 i40∧f.arr (.slot 52)=some ⟨1,l41.map eB,true,0⟩→zaC SP (E SP (.loop b_Q70_2) ⟨e,f::S⟩)=.ok (.v (.str r)) S
theorem zgI (l_:List Part) (l1:List UInt8) (i2:Int) (r:List UInt8) (T :
  ((i2 < (l_.length:Int)) →
  (0≤i2) ∧
  ∃ (v3:Part),(l_[i2.toNat]?=some v3) ∧
  ((v3.Ref=true) →
   (bigRow (l1.length+2) 1) ∧
   (bigRow (l1.length+2+v3.Text.length) 1) ∧
   (bigRow (l1.length+2+v3.Text.length+1) 1) ∧
   (I64 (i2+1)) ∧
   zcN l_ (i2+1) (l1++[36,123]++v3.Text++[(125:UInt8)]) r) ∧
  (¬ (v3.Ref=true) →
   zgj l_ i2 l1 0 r)) ∧
 (¬ (i2 < (l_.length:Int)) →
  (bigRow (l1.length+1) 1) ∧
  (l1++[(34:UInt8)])=r)):zeK l_ l1 i2 r:=by
 intro S e f h
 unfold zbP
 rw[zo]
 have F:=aa zdi<|zbU
 replace F:=aa h<|F
 by_cases c1:i2 < (l_.length:Int)
 ·replace T:=T.1 c1
  obtain⟨p2,v3,q3,T⟩:=T
  replace F:=aa (eq_true c1)<|aa p2<|aa q3<|F
  by_cases c4:v3.Ref=true
  ·replace T:=T.1 c4
   obtain⟨p5,p6,p7,p8,T⟩:=T
   simp only[bigRow] at p5
   simp only[bigRow] at p6
   simp only[bigRow] at p7
   replace F:=aa c4<|aa p5<|aa p6<|aa p7<|aa p8.wrap<|F
   exact lo F T
  replace T:=T.2 c4
  replace c4:=Bool.eq_false_iff.2 c4
  replace F:=aa c4<|F
  exact lo F T
 replace T:=T.2 c1
 obtain⟨p9,rfl⟩:=T
 simp only[bigRow] at p9
 exact fi (aa (eq_false c1)<|aa p9<|F)
theorem zkG (l_:List Part) (i4:Int) (l5:List UInt8) (r:List UInt8) (T :
  ((i4 < (l_.length:Int)) →
  (0≤i4) ∧
  ∃ (v8:Part),(l_[i4.toNat]?=some v8) ∧
  ((v8.Ref=true) →
   (bigRow (l5.length+2) 1) ∧
   (bigRow (l5.length+2+v8.Text.length) 1) ∧
   (bigRow (l5.length+2+v8.Text.length+1) 1) ∧
   (I64 (i4+1)) ∧
   zcN l_ (i4+1) (l5++[36,123]++v8.Text++[(125:UInt8)]) r) ∧
  (¬ (v8.Ref=true) →
   zb6 l_ i4 0 l5 r)) ∧
 (¬ (i4 < (l_.length:Int)) →
  (bigRow (l5.length+1) 1) ∧
  (l5++[(34:UInt8)])=r)):zcN l_ i4 l5 r:=by
 intro S e f h
 unfold zbP
 rw[zo]
 have F:=aa zdi<|zbU
 replace F:=aa h<|F
 by_cases c1:i4 < (l_.length:Int)
 ·replace T:=T.1 c1
  obtain⟨p2,v8,q3,T⟩:=T
  replace F:=aa (eq_true c1)<|aa p2<|aa q3<|F
  by_cases c4:v8.Ref=true
  ·replace T:=T.1 c4
   obtain⟨p5,p6,p7,p8,T⟩:=T
   simp only[bigRow] at p5
   simp only[bigRow] at p6
   simp only[bigRow] at p7
   replace F:=aa c4<|aa p5<|aa p6<|aa p7<|aa p8.wrap<|F
   exact lo F T
  replace T:=T.2 c4
  replace c4:=Bool.eq_false_iff.2 c4
  replace F:=aa c4<|F
  exact lo F T
 replace T:=T.2 c1
 obtain⟨p9,rfl⟩:=T
 simp only[bigRow] at p9
 exact fi (aa (eq_false c1)<|aa p9<|F)
theorem zmc (l_:List Part) (i2:Int) (l6:List UInt8) (i7:Int) (r:List UInt8) (T :
  (0≤i2) ∧
 ∃ (v11:Part),(l_[i2.toNat]?=some v11) ∧
 ((i7 < (v11.Text.length:Int)) →
  (0≤i7) ∧
  ∃ (b12:UInt8),(v11.Text[i7.toNat]?=some b12) ∧
  (((b12.toNat:Int)=34) →
   (bigRow (l6.length+2) 1) ∧
   (I64 (i7+1)) ∧
   zaN l_ i2 (i7+1) (l6++[(92:UInt8),b12]) r) ∧
  (¬ ((b12.toNat:Int)=34) →
   (((b12.toNat:Int)=92) →
    (bigRow (l6.length+2) 1) ∧
    (I64 (i7+1)) ∧
    zaN l_ i2 (i7+1) (l6++[(92:UInt8),b12]) r) ∧
   (¬ ((b12.toNat:Int)=92) →
    (((b12.toNat:Int)=36) →
     (bigRow (l6.length+2) 1) ∧
     (I64 (i7+1)) ∧
     zaN l_ i2 (i7+1) (l6++[(92:UInt8),b12]) r) ∧
    (¬ ((b12.toNat:Int)=36) →
     (((b12.toNat:Int)=10) →
      (bigRow (l6.length+2) 1) ∧
      (I64 (i7+1)) ∧
      zbm l_ i2 (i7+1) (l6++[(92:UInt8),(110:UInt8)]) r) ∧
     (¬ ((b12.toNat:Int)=10) →
      (bigRow (l6.length+1) 1) ∧
      (I64 (i7+1)) ∧
      zbq l_ i2 (i7+1) (l6++[b12]) r))))) ∧
 (¬ (i7 < (v11.Text.length:Int)) →
  (I64 (i2+1)) ∧
  zeK l_ l6 (i2+1) r)):zgj l_ i2 l6 i7 r:=by
 intro S e f h
 unfold zaC
 rw[zo]
 have F:=aa zdi<|zbU
 obtain⟨p1,v11,q2,T⟩:=T
 replace F:=aa h<|aa p1<|aa q2<|F
 by_cases c3:i7 < (v11.Text.length:Int)
 ·replace T:=T.1 c3
  obtain⟨p4,b12,q5,T⟩:=T
  replace F:=aa (eq_true c3)<|aa p4<|aa q5<|F
  by_cases c6:(b12.toNat:Int)=34
  ·replace T:=T.1 c6
   obtain⟨p7,p8,T⟩:=T
   simp only[bigRow] at p7
   replace F:=aa (eq_true c6)<|aa p7<|aa p8.wrap<|F
   exact lo F T
  replace T:=T.2 c6
  replace F:=aa (eq_false c6)<|F
  by_cases c9:(b12.toNat:Int)=92
  ·replace T:=T.1 c9
   obtain⟨p10,p11,T⟩:=T
   simp only[bigRow] at p10
   replace F:=aa (eq_true c9)<|aa p10<|aa p11.wrap<|F
   exact lo F T
  replace T:=T.2 c9
  replace F:=aa (eq_false c9)<|F
  by_cases c12:(b12.toNat:Int)=36
  ·replace T:=T.1 c12
   obtain⟨p13,p14,T⟩:=T
   simp only[bigRow] at p13
   replace F:=aa (eq_true c12)<|aa p13<|aa p14.wrap<|F
   exact lo F T
  replace T:=T.2 c12
  replace F:=aa (eq_false c12)<|F
  by_cases c15:(b12.toNat:Int)=10
  ·replace T:=T.1 c15
   obtain⟨p16,p17,T⟩:=T
   simp only[bigRow] at p16
   replace F:=aa (eq_true c15)<|aa p16<|aa p17.wrap<|F
   exact lo F T
  replace T:=T.2 c15
  obtain⟨p18,p19,T⟩:=T
  simp only[bigRow] at p18
  replace F:=aa (eq_false c15)<|aa p18<|aa p19.wrap<|F
  exact lo F T
 replace T:=T.2 c3
 obtain⟨p20,T⟩:=T
 replace F:=aa (eq_false c3)<|aa p20.wrap<|F
 exact lo F T
theorem zks (l_:List Part) (i4:Int) (i9:Int) (l10:List UInt8) (r:List UInt8) (T :
  (0≤i4) ∧
 ∃ (v19:Part),(l_[i4.toNat]?=some v19) ∧
 ((i9 < (v19.Text.length:Int)) →
  (0≤i9) ∧
  ∃ (b20:UInt8),(v19.Text[i9.toNat]?=some b20) ∧
  (((b20.toNat:Int)=34) →
   (bigRow (l10.length+2) 1) ∧
   (I64 (i9+1)) ∧
   zb6 l_ i4 (i9+1) (l10++[(92:UInt8),b20]) r) ∧
  (¬ ((b20.toNat:Int)=34) →
   (((b20.toNat:Int)=92) →
    (bigRow (l10.length+2) 1) ∧
    (I64 (i9+1)) ∧
    zb6 l_ i4 (i9+1) (l10++[(92:UInt8),b20]) r) ∧
   (¬ ((b20.toNat:Int)=92) →
    (((b20.toNat:Int)=36) →
     (bigRow (l10.length+2) 1) ∧
     (I64 (i9+1)) ∧
     zb6 l_ i4 (i9+1) (l10++[(92:UInt8),b20]) r) ∧
    (¬ ((b20.toNat:Int)=36) →
     (((b20.toNat:Int)=10) →
      (bigRow (l10.length+2) 1) ∧
      (I64 (i9+1)) ∧
      zb6 l_ i4 (i9+1) (l10++[(92:UInt8),(110:UInt8)]) r) ∧
     (¬ ((b20.toNat:Int)=10) →
      (bigRow (l10.length+1) 1) ∧
      (I64 (i9+1)) ∧
      zb6 l_ i4 (i9+1) (l10++[b20]) r))))) ∧
 (¬ (i9 < (v19.Text.length:Int)) →
  (I64 (i4+1)) ∧
  zcN l_ (i4+1) l10 r)):zb6 l_ i4 i9 l10 r:=by
 intro S e f h
 unfold zaC
 rw[zo]
 have F:=aa zdi<|zbU
 obtain⟨p1,v19,q2,T⟩:=T
 replace F:=aa h<|aa p1<|aa q2<|F
 by_cases c3:i9 < (v19.Text.length:Int)
 ·replace T:=T.1 c3
  obtain⟨p4,b20,q5,T⟩:=T
  replace F:=aa (eq_true c3)<|aa p4<|aa q5<|F
  by_cases c6:(b20.toNat:Int)=34
  ·replace T:=T.1 c6
   obtain⟨p7,p8,T⟩:=T
   simp only[bigRow] at p7
   replace F:=aa (eq_true c6)<|aa p7<|aa p8.wrap<|F
   exact lo F T
  replace T:=T.2 c6
  replace F:=aa (eq_false c6)<|F
  by_cases c9:(b20.toNat:Int)=92
  ·replace T:=T.1 c9
   obtain⟨p10,p11,T⟩:=T
   simp only[bigRow] at p10
   replace F:=aa (eq_true c9)<|aa p10<|aa p11.wrap<|F
   exact lo F T
  replace T:=T.2 c9
  replace F:=aa (eq_false c9)<|F
  by_cases c12:(b20.toNat:Int)=36
  ·replace T:=T.1 c12
   obtain⟨p13,p14,T⟩:=T
   simp only[bigRow] at p13
   replace F:=aa (eq_true c12)<|aa p13<|aa p14.wrap<|F
   exact lo F T
  replace T:=T.2 c12
  replace F:=aa (eq_false c12)<|F
  by_cases c15:(b20.toNat:Int)=10
  ·replace T:=T.1 c15
   obtain⟨p16,p17,T⟩:=T
   simp only[bigRow] at p16
   replace F:=aa (eq_true c15)<|aa p16<|aa p17.wrap<|F
   exact lo F T
  replace T:=T.2 c15
  obtain⟨p18,p19,T⟩:=T
  simp only[bigRow] at p18
  replace F:=aa (eq_false c15)<|aa p18<|aa p19.wrap<|F
  exact lo F T
 replace T:=T.2 c3
 obtain⟨p20,T⟩:=T
 replace F:=aa (eq_false c3)<|aa p20.wrap<|F
 exact lo F T
theorem zkk (l_:List Part) (i2:Int) (i13:Int) (l14:List UInt8) (r:List UInt8) (T :
  (0≤i2) ∧
 ∃ (v21:Part),(l_[i2.toNat]?=some v21) ∧
 ((i13 < (v21.Text.length:Int)) →
  (0≤i13) ∧
  ∃ (b22:UInt8),(v21.Text[i13.toNat]?=some b22) ∧
  (((b22.toNat:Int)=34) →
   (bigRow (l14.length+2) 1) ∧
   (I64 (i13+1)) ∧
   zaN l_ i2 (i13+1) (l14++[(92:UInt8),b22]) r) ∧
  (¬ ((b22.toNat:Int)=34) →
   (((b22.toNat:Int)=92) →
    (bigRow (l14.length+2) 1) ∧
    (I64 (i13+1)) ∧
    zaN l_ i2 (i13+1) (l14++[(92:UInt8),b22]) r) ∧
   (¬ ((b22.toNat:Int)=92) →
    (((b22.toNat:Int)=36) →
     (bigRow (l14.length+2) 1) ∧
     (I64 (i13+1)) ∧
     zaN l_ i2 (i13+1) (l14++[(92:UInt8),b22]) r) ∧
    (¬ ((b22.toNat:Int)=36) →
     (((b22.toNat:Int)=10) →
      (bigRow (l14.length+2) 1) ∧
      (I64 (i13+1)) ∧
      zaN l_ i2 (i13+1) (l14++[(92:UInt8),(110:UInt8)]) r) ∧
     (¬ ((b22.toNat:Int)=10) →
      (bigRow (l14.length+1) 1) ∧
      (I64 (i13+1)) ∧
      zaN l_ i2 (i13+1) (l14++[b22]) r))))) ∧
 (¬ (i13 < (v21.Text.length:Int)) →
  (I64 (i2+1)) ∧
  zdT l_ (i2+1) l14 r)):zaN l_ i2 i13 l14 r:=by
 intro S e f h
 unfold zaC
 rw[zo]
 have F:=aa zdi<|zbU
 obtain⟨p1,v21,q2,T⟩:=T
 replace F:=aa h<|aa p1<|aa q2<|F
 by_cases c3:i13 < (v21.Text.length:Int)
 ·replace T:=T.1 c3
  obtain⟨p4,b22,q5,T⟩:=T
  replace F:=aa (eq_true c3)<|aa p4<|aa q5<|F
  by_cases c6:(b22.toNat:Int)=34
  ·replace T:=T.1 c6
   obtain⟨p7,p8,T⟩:=T
   simp only[bigRow] at p7
   replace F:=aa (eq_true c6)<|aa p7<|aa p8.wrap<|F
   exact lo F T
  replace T:=T.2 c6
  replace F:=aa (eq_false c6)<|F
  by_cases c9:(b22.toNat:Int)=92
  ·replace T:=T.1 c9
   obtain⟨p10,p11,T⟩:=T
   simp only[bigRow] at p10
   replace F:=aa (eq_true c9)<|aa p10<|aa p11.wrap<|F
   exact lo F T
  replace T:=T.2 c9
  replace F:=aa (eq_false c9)<|F
  by_cases c12:(b22.toNat:Int)=36
  ·replace T:=T.1 c12
   obtain⟨p13,p14,T⟩:=T
   simp only[bigRow] at p13
   replace F:=aa (eq_true c12)<|aa p13<|aa p14.wrap<|F
   exact lo F T
  replace T:=T.2 c12
  replace F:=aa (eq_false c12)<|F
  by_cases c15:(b22.toNat:Int)=10
  ·replace T:=T.1 c15
   obtain⟨p16,p17,T⟩:=T
   simp only[bigRow] at p16
   replace F:=aa (eq_true c15)<|aa p16<|aa p17.wrap<|F
   exact lo F T
  replace T:=T.2 c15
  obtain⟨p18,p19,T⟩:=T
  simp only[bigRow] at p18
  replace F:=aa (eq_false c15)<|aa p18<|aa p19.wrap<|F
  exact lo F T
 replace T:=T.2 c3
 obtain⟨p20,T⟩:=T
 replace F:=aa (eq_false c3)<|aa p20.wrap<|F
 exact lo F T
theorem zkm (l_:List Part) (i2:Int) (i15:Int) (l16:List UInt8) (r:List UInt8) (T :
  (0≤i2) ∧
 ∃ (v25:Part),(l_[i2.toNat]?=some v25) ∧
 ((i15 < (v25.Text.length:Int)) →
  (0≤i15) ∧
  ∃ (b26:UInt8),(v25.Text[i15.toNat]?=some b26) ∧
  (((b26.toNat:Int)=34) →
   (bigRow (l16.length+2) 1) ∧
   (I64 (i15+1)) ∧
   zbm l_ i2 (i15+1) (l16++[(92:UInt8),b26]) r) ∧
  (¬ ((b26.toNat:Int)=34) →
   (((b26.toNat:Int)=92) →
    (bigRow (l16.length+2) 1) ∧
    (I64 (i15+1)) ∧
    zbm l_ i2 (i15+1) (l16++[(92:UInt8),b26]) r) ∧
   (¬ ((b26.toNat:Int)=92) →
    (((b26.toNat:Int)=36) →
     (bigRow (l16.length+2) 1) ∧
     (I64 (i15+1)) ∧
     zbm l_ i2 (i15+1) (l16++[(92:UInt8),b26]) r) ∧
    (¬ ((b26.toNat:Int)=36) →
     (((b26.toNat:Int)=10) →
      (bigRow (l16.length+2) 1) ∧
      (I64 (i15+1)) ∧
      zbm l_ i2 (i15+1) (l16++[(92:UInt8),(110:UInt8)]) r) ∧
     (¬ ((b26.toNat:Int)=10) →
      (bigRow (l16.length+1) 1) ∧
      (I64 (i15+1)) ∧
      zbm l_ i2 (i15+1) (l16++[b26]) r))))) ∧
 (¬ (i15 < (v25.Text.length:Int)) →
  (I64 (i2+1)) ∧
  zd3 l_ (i2+1) l16 r)):zbm l_ i2 i15 l16 r:=by
 intro S e f h
 unfold zaC
 rw[zo]
 have F:=aa zdi<|zbU
 obtain⟨p1,v25,q2,T⟩:=T
 replace F:=aa h<|aa p1<|aa q2<|F
 by_cases c3:i15 < (v25.Text.length:Int)
 ·replace T:=T.1 c3
  obtain⟨p4,b26,q5,T⟩:=T
  replace F:=aa (eq_true c3)<|aa p4<|aa q5<|F
  by_cases c6:(b26.toNat:Int)=34
  ·replace T:=T.1 c6
   obtain⟨p7,p8,T⟩:=T
   simp only[bigRow] at p7
   replace F:=aa (eq_true c6)<|aa p7<|aa p8.wrap<|F
   exact lo F T
  replace T:=T.2 c6
  replace F:=aa (eq_false c6)<|F
  by_cases c9:(b26.toNat:Int)=92
  ·replace T:=T.1 c9
   obtain⟨p10,p11,T⟩:=T
   simp only[bigRow] at p10
   replace F:=aa (eq_true c9)<|aa p10<|aa p11.wrap<|F
   exact lo F T
  replace T:=T.2 c9
  replace F:=aa (eq_false c9)<|F
  by_cases c12:(b26.toNat:Int)=36
  ·replace T:=T.1 c12
   obtain⟨p13,p14,T⟩:=T
   simp only[bigRow] at p13
   replace F:=aa (eq_true c12)<|aa p13<|aa p14.wrap<|F
   exact lo F T
  replace T:=T.2 c12
  replace F:=aa (eq_false c12)<|F
  by_cases c15:(b26.toNat:Int)=10
  ·replace T:=T.1 c15
   obtain⟨p16,p17,T⟩:=T
   simp only[bigRow] at p16
   replace F:=aa (eq_true c15)<|aa p16<|aa p17.wrap<|F
   exact lo F T
  replace T:=T.2 c15
  obtain⟨p18,p19,T⟩:=T
  simp only[bigRow] at p18
  replace F:=aa (eq_false c15)<|aa p18<|aa p19.wrap<|F
  exact lo F T
 replace T:=T.2 c3
 obtain⟨p20,T⟩:=T
 replace F:=aa (eq_false c3)<|aa p20.wrap<|F
 exact lo F T
theorem zkn (l_:List Part) (i2:Int) (i17:Int) (l18:List UInt8) (r:List UInt8) (T :
  (0≤i2) ∧
 ∃ (v29:Part),(l_[i2.toNat]?=some v29) ∧
 ((i17 < (v29.Text.length:Int)) →
  (0≤i17) ∧
  ∃ (b30:UInt8),(v29.Text[i17.toNat]?=some b30) ∧
  (((b30.toNat:Int)=34) →
   (bigRow (l18.length+2) 1) ∧
   (I64 (i17+1)) ∧
   zbq l_ i2 (i17+1) (l18++[(92:UInt8),b30]) r) ∧
  (¬ ((b30.toNat:Int)=34) →
   (((b30.toNat:Int)=92) →
    (bigRow (l18.length+2) 1) ∧
    (I64 (i17+1)) ∧
    zbq l_ i2 (i17+1) (l18++[(92:UInt8),b30]) r) ∧
   (¬ ((b30.toNat:Int)=92) →
    (((b30.toNat:Int)=36) →
     (bigRow (l18.length+2) 1) ∧
     (I64 (i17+1)) ∧
     zbq l_ i2 (i17+1) (l18++[(92:UInt8),b30]) r) ∧
    (¬ ((b30.toNat:Int)=36) →
     (((b30.toNat:Int)=10) →
      (bigRow (l18.length+2) 1) ∧
      (I64 (i17+1)) ∧
      zbq l_ i2 (i17+1) (l18++[(92:UInt8),(110:UInt8)]) r) ∧
     (¬ ((b30.toNat:Int)=10) →
      (bigRow (l18.length+1) 1) ∧
      (I64 (i17+1)) ∧
      zbq l_ i2 (i17+1) (l18++[b30]) r))))) ∧
 (¬ (i17 < (v29.Text.length:Int)) →
  (I64 (i2+1)) ∧
  zdQ l_ (i2+1) l18 r)):zbq l_ i2 i17 l18 r:=by
 intro S e f h
 unfold zaC
 rw[zo]
 have F:=aa zdi<|zbU
 obtain⟨p1,v29,q2,T⟩:=T
 replace F:=aa h<|aa p1<|aa q2<|F
 by_cases c3:i17 < (v29.Text.length:Int)
 ·replace T:=T.1 c3
  obtain⟨p4,b30,q5,T⟩:=T
  replace F:=aa (eq_true c3)<|aa p4<|aa q5<|F
  by_cases c6:(b30.toNat:Int)=34
  ·replace T:=T.1 c6
   obtain⟨p7,p8,T⟩:=T
   simp only[bigRow] at p7
   replace F:=aa (eq_true c6)<|aa p7<|aa p8.wrap<|F
   exact lo F T
  replace T:=T.2 c6
  replace F:=aa (eq_false c6)<|F
  by_cases c9:(b30.toNat:Int)=92
  ·replace T:=T.1 c9
   obtain⟨p10,p11,T⟩:=T
   simp only[bigRow] at p10
   replace F:=aa (eq_true c9)<|aa p10<|aa p11.wrap<|F
   exact lo F T
  replace T:=T.2 c9
  replace F:=aa (eq_false c9)<|F
  by_cases c12:(b30.toNat:Int)=36
  ·replace T:=T.1 c12
   obtain⟨p13,p14,T⟩:=T
   simp only[bigRow] at p13
   replace F:=aa (eq_true c12)<|aa p13<|aa p14.wrap<|F
   exact lo F T
  replace T:=T.2 c12
  replace F:=aa (eq_false c12)<|F
  by_cases c15:(b30.toNat:Int)=10
  ·replace T:=T.1 c15
   obtain⟨p16,p17,T⟩:=T
   simp only[bigRow] at p16
   replace F:=aa (eq_true c15)<|aa p16<|aa p17.wrap<|F
   exact lo F T
  replace T:=T.2 c15
  obtain⟨p18,p19,T⟩:=T
  simp only[bigRow] at p18
  replace F:=aa (eq_false c15)<|aa p18<|aa p19.wrap<|F
  exact lo F T
 replace T:=T.2 c3
 obtain⟨p20,T⟩:=T
 replace F:=aa (eq_false c3)<|aa p20.wrap<|F
 exact lo F T
theorem zkJ (l_:List Part) (i23:Int) (l24:List UInt8) (r:List UInt8) (T :
  ((i23 < (l_.length:Int)) →
  (0≤i23) ∧
  ∃ (v33:Part),(l_[i23.toNat]?=some v33) ∧
  ((v33.Ref=true) →
   (bigRow (l24.length+2) 1) ∧
   (bigRow (l24.length+2+v33.Text.length) 1) ∧
   (bigRow (l24.length+2+v33.Text.length+1) 1) ∧
   (I64 (i23+1)) ∧
   zdT l_ (i23+1) (l24++[36,123]++v33.Text++[(125:UInt8)]) r) ∧
  (¬ (v33.Ref=true) →
   zcd l_ i23 0 l24 r)) ∧
 (¬ (i23 < (l_.length:Int)) →
  (bigRow (l24.length+1) 1) ∧
  (l24++[(34:UInt8)])=r)):zdT l_ i23 l24 r:=by
 intro S e f h
 unfold zbP
 rw[zo]
 have F:=aa zdi<|zbU
 replace F:=aa h<|F
 by_cases c1:i23 < (l_.length:Int)
 ·replace T:=T.1 c1
  obtain⟨p2,v33,q3,T⟩:=T
  replace F:=aa (eq_true c1)<|aa p2<|aa q3<|F
  by_cases c4:v33.Ref=true
  ·replace T:=T.1 c4
   obtain⟨p5,p6,p7,p8,T⟩:=T
   simp only[bigRow] at p5
   simp only[bigRow] at p6
   simp only[bigRow] at p7
   replace F:=aa c4<|aa p5<|aa p6<|aa p7<|aa p8.wrap<|F
   exact lo F T
  replace T:=T.2 c4
  replace c4:=Bool.eq_false_iff.2 c4
  replace F:=aa c4<|F
  exact lo F T
 replace T:=T.2 c1
 obtain⟨p9,rfl⟩:=T
 simp only[bigRow] at p9
 exact fi (aa (eq_false c1)<|aa p9<|F)
theorem zkF (l_:List Part) (i27:Int) (l28:List UInt8) (r:List UInt8) (T :
  ((i27 < (l_.length:Int)) →
  (0≤i27) ∧
  ∃ (v36:Part),(l_[i27.toNat]?=some v36) ∧
  ((v36.Ref=true) →
   (bigRow (l28.length+2) 1) ∧
   (bigRow (l28.length+2+v36.Text.length) 1) ∧
   (bigRow (l28.length+2+v36.Text.length+1) 1) ∧
   (I64 (i27+1)) ∧
   zd3 l_ (i27+1) (l28++[36,123]++v36.Text++[(125:UInt8)]) r) ∧
  (¬ (v36.Ref=true) →
   zca l_ i27 0 l28 r)) ∧
 (¬ (i27 < (l_.length:Int)) →
  (bigRow (l28.length+1) 1) ∧
  (l28++[(34:UInt8)])=r)):zd3 l_ i27 l28 r:=by
 intro S e f h
 unfold zbP
 rw[zo]
 have F:=aa zdi<|zbU
 replace F:=aa h<|F
 by_cases c1:i27 < (l_.length:Int)
 ·replace T:=T.1 c1
  obtain⟨p2,v36,q3,T⟩:=T
  replace F:=aa (eq_true c1)<|aa p2<|aa q3<|F
  by_cases c4:v36.Ref=true
  ·replace T:=T.1 c4
   obtain⟨p5,p6,p7,p8,T⟩:=T
   simp only[bigRow] at p5
   simp only[bigRow] at p6
   simp only[bigRow] at p7
   replace F:=aa c4<|aa p5<|aa p6<|aa p7<|aa p8.wrap<|F
   exact lo F T
  replace T:=T.2 c4
  replace c4:=Bool.eq_false_iff.2 c4
  replace F:=aa c4<|F
  exact lo F T
 replace T:=T.2 c1
 obtain⟨p9,rfl⟩:=T
 simp only[bigRow] at p9
 exact fi (aa (eq_false c1)<|aa p9<|F)
theorem zkr (l_:List Part) (i31:Int) (l32:List UInt8) (r:List UInt8) (T :
  ((i31 < (l_.length:Int)) →
  (0≤i31) ∧
  ∃ (v39:Part),(l_[i31.toNat]?=some v39) ∧
  ((v39.Ref=true) →
   (bigRow (l32.length+2) 1) ∧
   (bigRow (l32.length+2+v39.Text.length) 1) ∧
   (bigRow (l32.length+2+v39.Text.length+1) 1) ∧
   (I64 (i31+1)) ∧
   zdQ l_ (i31+1) (l32++[36,123]++v39.Text++[(125:UInt8)]) r) ∧
  (¬ (v39.Ref=true) →
   zb2 l_ i31 0 l32 r)) ∧
 (¬ (i31 < (l_.length:Int)) →
  (bigRow (l32.length+1) 1) ∧
  (l32++[(34:UInt8)])=r)):zdQ l_ i31 l32 r:=by
 intro S e f h
 unfold zbP
 rw[zo]
 have F:=aa zdi<|zbU
 replace F:=aa h<|F
 by_cases c1:i31 < (l_.length:Int)
 ·replace T:=T.1 c1
  obtain⟨p2,v39,q3,T⟩:=T
  replace F:=aa (eq_true c1)<|aa p2<|aa q3<|F
  by_cases c4:v39.Ref=true
  ·replace T:=T.1 c4
   obtain⟨p5,p6,p7,p8,T⟩:=T
   simp only[bigRow] at p5
   simp only[bigRow] at p6
   simp only[bigRow] at p7
   replace F:=aa c4<|aa p5<|aa p6<|aa p7<|aa p8.wrap<|F
   exact lo F T
  replace T:=T.2 c4
  replace c4:=Bool.eq_false_iff.2 c4
  replace F:=aa c4<|F
  exact lo F T
 replace T:=T.2 c1
 obtain⟨p9,rfl⟩:=T
 simp only[bigRow] at p9
 exact fi (aa (eq_false c1)<|aa p9<|F)
theorem zkT (l_:List Part) (i23:Int) (i34:Int) (l35:List UInt8) (r:List UInt8) (T :
  (0≤i23) ∧
 ∃ (v42:Part),(l_[i23.toNat]?=some v42) ∧
 ((i34 < (v42.Text.length:Int)) →
  (0≤i34) ∧
  ∃ (b43:UInt8),(v42.Text[i34.toNat]?=some b43) ∧
  (((b43.toNat:Int)=34) →
   (bigRow (l35.length+2) 1) ∧
   (I64 (i34+1)) ∧
   zcd l_ i23 (i34+1) (l35++[(92:UInt8),b43]) r) ∧
  (¬ ((b43.toNat:Int)=34) →
   (((b43.toNat:Int)=92) →
    (bigRow (l35.length+2) 1) ∧
    (I64 (i34+1)) ∧
    zcd l_ i23 (i34+1) (l35++[(92:UInt8),b43]) r) ∧
   (¬ ((b43.toNat:Int)=92) →
    (((b43.toNat:Int)=36) →
     (bigRow (l35.length+2) 1) ∧
     (I64 (i34+1)) ∧
     zcd l_ i23 (i34+1) (l35++[(92:UInt8),b43]) r) ∧
    (¬ ((b43.toNat:Int)=36) →
     (((b43.toNat:Int)=10) →
      (bigRow (l35.length+2) 1) ∧
      (I64 (i34+1)) ∧
      zcd l_ i23 (i34+1) (l35++[(92:UInt8),(110:UInt8)]) r) ∧
     (¬ ((b43.toNat:Int)=10) →
      (bigRow (l35.length+1) 1) ∧
      (I64 (i34+1)) ∧
      zcd l_ i23 (i34+1) (l35++[b43]) r))))) ∧
 (¬ (i34 < (v42.Text.length:Int)) →
  (I64 (i23+1)) ∧
  zdT l_ (i23+1) l35 r)):zcd l_ i23 i34 l35 r:=by
 intro S e f h
 unfold zaC
 rw[zo]
 have F:=aa zdi<|zbU
 obtain⟨p1,v42,q2,T⟩:=T
 replace F:=aa h<|aa p1<|aa q2<|F
 by_cases c3:i34 < (v42.Text.length:Int)
 ·replace T:=T.1 c3
  obtain⟨p4,b43,q5,T⟩:=T
  replace F:=aa (eq_true c3)<|aa p4<|aa q5<|F
  by_cases c6:(b43.toNat:Int)=34
  ·replace T:=T.1 c6
   obtain⟨p7,p8,T⟩:=T
   simp only[bigRow] at p7
   replace F:=aa (eq_true c6)<|aa p7<|aa p8.wrap<|F
   exact lo F T
  replace T:=T.2 c6
  replace F:=aa (eq_false c6)<|F
  by_cases c9:(b43.toNat:Int)=92
  ·replace T:=T.1 c9
   obtain⟨p10,p11,T⟩:=T
   simp only[bigRow] at p10
   replace F:=aa (eq_true c9)<|aa p10<|aa p11.wrap<|F
   exact lo F T
  replace T:=T.2 c9
  replace F:=aa (eq_false c9)<|F
  by_cases c12:(b43.toNat:Int)=36
  ·replace T:=T.1 c12
   obtain⟨p13,p14,T⟩:=T
   simp only[bigRow] at p13
   replace F:=aa (eq_true c12)<|aa p13<|aa p14.wrap<|F
   exact lo F T
  replace T:=T.2 c12
  replace F:=aa (eq_false c12)<|F
  by_cases c15:(b43.toNat:Int)=10
  ·replace T:=T.1 c15
   obtain⟨p16,p17,T⟩:=T
   simp only[bigRow] at p16
   replace F:=aa (eq_true c15)<|aa p16<|aa p17.wrap<|F
   exact lo F T
  replace T:=T.2 c15
  obtain⟨p18,p19,T⟩:=T
  simp only[bigRow] at p18
  replace F:=aa (eq_false c15)<|aa p18<|aa p19.wrap<|F
  exact lo F T
 replace T:=T.2 c3
 obtain⟨p20,T⟩:=T
 replace F:=aa (eq_false c3)<|aa p20.wrap<|F
 exact lo F T
theorem zky (l_:List Part) (i27:Int) (i37:Int) (l38:List UInt8) (r:List UInt8) (T :
  (0≤i27) ∧
 ∃ (v44:Part),(l_[i27.toNat]?=some v44) ∧
 ((i37 < (v44.Text.length:Int)) →
  (0≤i37) ∧
  ∃ (b45:UInt8),(v44.Text[i37.toNat]?=some b45) ∧
  (((b45.toNat:Int)=34) →
   (bigRow (l38.length+2) 1) ∧
   (I64 (i37+1)) ∧
   zca l_ i27 (i37+1) (l38++[(92:UInt8),b45]) r) ∧
  (¬ ((b45.toNat:Int)=34) →
   (((b45.toNat:Int)=92) →
    (bigRow (l38.length+2) 1) ∧
    (I64 (i37+1)) ∧
    zca l_ i27 (i37+1) (l38++[(92:UInt8),b45]) r) ∧
   (¬ ((b45.toNat:Int)=92) →
    (((b45.toNat:Int)=36) →
     (bigRow (l38.length+2) 1) ∧
     (I64 (i37+1)) ∧
     zca l_ i27 (i37+1) (l38++[(92:UInt8),b45]) r) ∧
    (¬ ((b45.toNat:Int)=36) →
     (((b45.toNat:Int)=10) →
      (bigRow (l38.length+2) 1) ∧
      (I64 (i37+1)) ∧
      zca l_ i27 (i37+1) (l38++[(92:UInt8),(110:UInt8)]) r) ∧
     (¬ ((b45.toNat:Int)=10) →
      (bigRow (l38.length+1) 1) ∧
      (I64 (i37+1)) ∧
      zca l_ i27 (i37+1) (l38++[b45]) r))))) ∧
 (¬ (i37 < (v44.Text.length:Int)) →
  (I64 (i27+1)) ∧
  zd3 l_ (i27+1) l38 r)):zca l_ i27 i37 l38 r:=by
 intro S e f h
 unfold zaC
 rw[zo]
 have F:=aa zdi<|zbU
 obtain⟨p1,v44,q2,T⟩:=T
 replace F:=aa h<|aa p1<|aa q2<|F
 by_cases c3:i37 < (v44.Text.length:Int)
 ·replace T:=T.1 c3
  obtain⟨p4,b45,q5,T⟩:=T
  replace F:=aa (eq_true c3)<|aa p4<|aa q5<|F
  by_cases c6:(b45.toNat:Int)=34
  ·replace T:=T.1 c6
   obtain⟨p7,p8,T⟩:=T
   simp only[bigRow] at p7
   replace F:=aa (eq_true c6)<|aa p7<|aa p8.wrap<|F
   exact lo F T
  replace T:=T.2 c6
  replace F:=aa (eq_false c6)<|F
  by_cases c9:(b45.toNat:Int)=92
  ·replace T:=T.1 c9
   obtain⟨p10,p11,T⟩:=T
   simp only[bigRow] at p10
   replace F:=aa (eq_true c9)<|aa p10<|aa p11.wrap<|F
   exact lo F T
  replace T:=T.2 c9
  replace F:=aa (eq_false c9)<|F
  by_cases c12:(b45.toNat:Int)=36
  ·replace T:=T.1 c12
   obtain⟨p13,p14,T⟩:=T
   simp only[bigRow] at p13
   replace F:=aa (eq_true c12)<|aa p13<|aa p14.wrap<|F
   exact lo F T
  replace T:=T.2 c12
  replace F:=aa (eq_false c12)<|F
  by_cases c15:(b45.toNat:Int)=10
  ·replace T:=T.1 c15
   obtain⟨p16,p17,T⟩:=T
   simp only[bigRow] at p16
   replace F:=aa (eq_true c15)<|aa p16<|aa p17.wrap<|F
   exact lo F T
  replace T:=T.2 c15
  obtain⟨p18,p19,T⟩:=T
  simp only[bigRow] at p18
  replace F:=aa (eq_false c15)<|aa p18<|aa p19.wrap<|F
  exact lo F T
 replace T:=T.2 c3
 obtain⟨p20,T⟩:=T
 replace F:=aa (eq_false c3)<|aa p20.wrap<|F
 exact lo F T
theorem zkZ (l_:List Part) (i31:Int) (i40:Int) (l41:List UInt8) (r:List UInt8) (T :
  (0≤i31) ∧
 ∃ (v46:Part),(l_[i31.toNat]?=some v46) ∧
 ((i40 < (v46.Text.length:Int)) →
  (0≤i40) ∧
  ∃ (b47:UInt8),(v46.Text[i40.toNat]?=some b47) ∧
  (((b47.toNat:Int)=34) →
   (bigRow (l41.length+2) 1) ∧
   (I64 (i40+1)) ∧
   zb2 l_ i31 (i40+1) (l41++[(92:UInt8),b47]) r) ∧
  (¬ ((b47.toNat:Int)=34) →
   (((b47.toNat:Int)=92) →
    (bigRow (l41.length+2) 1) ∧
    (I64 (i40+1)) ∧
    zb2 l_ i31 (i40+1) (l41++[(92:UInt8),b47]) r) ∧
   (¬ ((b47.toNat:Int)=92) →
    (((b47.toNat:Int)=36) →
     (bigRow (l41.length+2) 1) ∧
     (I64 (i40+1)) ∧
     zb2 l_ i31 (i40+1) (l41++[(92:UInt8),b47]) r) ∧
    (¬ ((b47.toNat:Int)=36) →
     (((b47.toNat:Int)=10) →
      (bigRow (l41.length+2) 1) ∧
      (I64 (i40+1)) ∧
      zb2 l_ i31 (i40+1) (l41++[(92:UInt8),(110:UInt8)]) r) ∧
     (¬ ((b47.toNat:Int)=10) →
      (bigRow (l41.length+1) 1) ∧
      (I64 (i40+1)) ∧
      zb2 l_ i31 (i40+1) (l41++[b47]) r))))) ∧
 (¬ (i40 < (v46.Text.length:Int)) →
  (I64 (i31+1)) ∧
  zdQ l_ (i31+1) l41 r)):zb2 l_ i31 i40 l41 r:=by
 intro S e f h
 unfold zaC
 rw[zo]
 have F:=aa zdi<|zbU
 obtain⟨p1,v46,q2,T⟩:=T
 replace F:=aa h<|aa p1<|aa q2<|F
 by_cases c3:i40 < (v46.Text.length:Int)
 ·replace T:=T.1 c3
  obtain⟨p4,b47,q5,T⟩:=T
  replace F:=aa (eq_true c3)<|aa p4<|aa q5<|F
  by_cases c6:(b47.toNat:Int)=34
  ·replace T:=T.1 c6
   obtain⟨p7,p8,T⟩:=T
   simp only[bigRow] at p7
   replace F:=aa (eq_true c6)<|aa p7<|aa p8.wrap<|F
   exact lo F T
  replace T:=T.2 c6
  replace F:=aa (eq_false c6)<|F
  by_cases c9:(b47.toNat:Int)=92
  ·replace T:=T.1 c9
   obtain⟨p10,p11,T⟩:=T
   simp only[bigRow] at p10
   replace F:=aa (eq_true c9)<|aa p10<|aa p11.wrap<|F
   exact lo F T
  replace T:=T.2 c9
  replace F:=aa (eq_false c9)<|F
  by_cases c12:(b47.toNat:Int)=36
  ·replace T:=T.1 c12
   obtain⟨p13,p14,T⟩:=T
   simp only[bigRow] at p13
   replace F:=aa (eq_true c12)<|aa p13<|aa p14.wrap<|F
   exact lo F T
  replace T:=T.2 c12
  replace F:=aa (eq_false c12)<|F
  by_cases c15:(b47.toNat:Int)=10
  ·replace T:=T.1 c15
   obtain⟨p16,p17,T⟩:=T
   simp only[bigRow] at p16
   replace F:=aa (eq_true c15)<|aa p16<|aa p17.wrap<|F
   exact lo F T
  replace T:=T.2 c15
  obtain⟨p18,p19,T⟩:=T
  simp only[bigRow] at p18
  replace F:=aa (eq_false c15)<|aa p18<|aa p19.wrap<|F
  exact lo F T
 replace T:=T.2 c3
 obtain⟨p20,T⟩:=T
 replace F:=aa (eq_false c3)<|aa p20.wrap<|F
 exact lo F T
theorem zuh (l_:List Part) (r:List UInt8) (T :
  zeK l_ [(34:UInt8)] 0 r):zqI l_ r:=by
 intro S
 rw[za zxI _ _ rfl]
 have F:=aa zdi<|zbU
 exact lo F T
theorem zyw:SP 46=some (.code sc_Q46):=zb rfl Tryz.func46 comp_Q46
def zcG (l_:List Node) (v1:Node) (s4:List UInt8) (i5:Int) (r:List UInt8):Prop:=∀ (S:Sto) (e:Nat→PV) (f:Fr),e 0=.list 5 (l_.map eNode) false∧e 5=.ptr 0 5 0∧e 6=.str s4∧e 7=.int .i64 i5∧f.box 5=some [.int .i64 v1.Kind,.int .i64 v1.Num,.str v1.Text,.list 2 (v1.Parts.map ePart) false,.list 1 (v1.Kids.map eI) false]→zp4 SP (E SP (.loop b_Q46_1) ⟨e,f::S⟩)=.ok (.v (.str r)) S
theorem zeb (l_:List Node) (v1:Node) (s4:List UInt8) (i5:Int) (r:List UInt8) (T :
  ((i5 < (v1.Kids.length:Int)) →
  ((0 < i5) →
   (s4.length+2≤zd) ∧
   (0≤i5) ∧
   ∃ (v58:Int),(v1.Kids[i5.toNat]?=some v58) ∧
   ∃ (r59:List UInt8),(zaQ l_ v58 r59) ∧
   (s4.length+2+r59.length≤zd) ∧
   (I64 (i5+1)) ∧
   zcG l_ v1 ((s4++[44,32])++r59) (i5+1) r) ∧
  (¬ (0 < i5) →
   (0≤i5) ∧
   ∃ (v60:Int),(v1.Kids[i5.toNat]?=some v60) ∧
   ∃ (r61:List UInt8),(zaQ l_ v60 r61) ∧
   (s4.length+r61.length≤zd) ∧
   (I64 (i5+1)) ∧
   zcG l_ v1 (s4++r61) (i5+1) r)) ∧
 (¬ (i5 < (v1.Kids.length:Int)) →
  ((v1.Kind=6) →
   (1+s4.length≤zd) ∧
   (s4.length+1+1≤zd) ∧
   (([91]++s4)++[93])=r) ∧
  (¬ (v1.Kind=6) →
   (v1.Text.length+1≤zd) ∧
   (v1.Text.length+1+s4.length≤zd) ∧
   (v1.Text.length+1+s4.length+1≤zd) ∧
   (((v1.Text++[40])++s4)++[41])=r))):zcG l_ v1 s4 i5 r:=by
 intro S e f h
 unfold zp4
 rw[zo]
 have F:=zvj
 exact rn (aa h<|F) T
theorem zus (l_:List Node) (at_:Int) (r:List UInt8) (T :
  (0≤at_) ∧
 ∃ (v1:Node),(l_[at_.toNat]?=some v1) ∧
 ((v1.Kind=1) →
  ∃ (r2:List UInt8),(zqT v1.Num r2) ∧
  r2=r) ∧
 (¬ (v1.Kind=1) →
  ((v1.Kind=2) →
   ∃ (r3:List UInt8),(zqI v1.Parts r3) ∧
   r3=r) ∧
  (¬ (v1.Kind=2) →
   ((v1.Kind=3) →
    ((v1.Num=1) →
     [116,114,117,101]=r) ∧
    (¬ (v1.Num=1) →
     [102,97,108,115,101]=r)) ∧
   (¬ (v1.Kind=3) →
    ((v1.Kind=4) →
     v1.Text=r) ∧
    (¬ (v1.Kind=4) →
     ((v1.Kind=5) →
      zcG l_ v1 [] 0 r) ∧
     (¬ (v1.Kind=5) →
      ((v1.Kind=6) →
       zcG l_ v1 [] 0 r) ∧
      (¬ (v1.Kind=6) →
       ((v1.Kind=7) →
        ∃ (v6:Int),(v1.Kids[0]?=some v6) ∧
        ∃ (r7:List UInt8),(zaQ l_ v6 r7) ∧
        (0≤v6) ∧
        ∃ (v8:Node),(l_[v6.toNat]?=some v8) ∧
        ∃ (r9:Int),(zc7 v8.Kind r9) ∧
        ∃ (r10:List UInt8),(zcB r7 (decide (r9 < 7)) r10) ∧
        (r10.length+1≤zd) ∧
        ∃ (v11:Int),(v1.Kids[1]?=some v11) ∧
        ∃ (r12:List UInt8),(zaQ l_ v11 r12) ∧
        (r10.length+1+r12.length≤zd) ∧
        (r10.length+1+r12.length+1≤zd) ∧
        (((r10++[91])++r12)++[93])=r) ∧
       (¬ (v1.Kind=7) →
        ((v1.Kind=8) →
         ∃ (v13:Int),(v1.Kids[0]?=some v13) ∧
         ∃ (r14:List UInt8),(zaQ l_ v13 r14) ∧
         (0≤v13) ∧
         ∃ (v15:Node),(l_[v13.toNat]?=some v15) ∧
         ∃ (r16:Int),(zc7 v15.Kind r16) ∧
         ∃ (r17:List UInt8),(zcB r14 (decide (r16 < 6)) r17) ∧
         (1+r17.length≤zd) ∧
         ([33]++r17)=r) ∧
        (¬ (v1.Kind=8) →
         ((v1.Kind=9) →
          ∃ (v18:Int),(v1.Kids[0]?=some v18) ∧
          ∃ (r19:List UInt8),(zaQ l_ v18 r19) ∧
          (0≤v18) ∧
          ∃ (v20:Node),(l_[v18.toNat]?=some v20) ∧
          ∃ (r21:Int),(zc7 v20.Kind r21) ∧
          ∃ (r22:List UInt8),(zcB r19 (decide (r21 < 6)) r22) ∧
          (1+r22.length≤zd) ∧
          ([45]++r22)=r) ∧
         (¬ (v1.Kind=9) →
          ((v1.Kind=10) →
           ∃ (v23:Int),(v1.Kids[0]?=some v23) ∧
           ∃ (r24:List UInt8),(zaQ l_ v23 r24) ∧
           (0≤v23) ∧
           ∃ (v25:Node),(l_[v23.toNat]?=some v25) ∧
           ∃ (r26:Int),(zc7 v25.Kind r26) ∧
           ∃ (r27:List UInt8),(zcB r24 (decide (r26=0)) r27) ∧
           (r27.length+3≤zd) ∧
           ∃ (v28:Int),(v1.Kids[1]?=some v28) ∧
           ∃ (r29:List UInt8),(zaQ l_ v28 r29) ∧
           (r27.length+3+r29.length≤zd) ∧
           (r27.length+3+r29.length+3≤zd) ∧
           ∃ (v30:Int),(v1.Kids[2]?=some v30) ∧
           ∃ (r31:List UInt8),(zaQ l_ v30 r31) ∧
           (r27.length+3+r29.length+3+r31.length≤zd) ∧
           ((((r27++[32,63,32])++r29)++[32,58,32])++r31)=r) ∧
          (¬ (v1.Kind=10) →
           ∃ (v32:Int),(v1.Kids[0]?=some v32) ∧
           ∃ (v33:Int),(v1.Kids[1]?=some v33) ∧
           ∃ (r34:Int),(zc7 v1.Kind r34) ∧
           (0≤v32) ∧
           ∃ (v35:Node),(l_[v32.toNat]?=some v35) ∧
           ∃ (r36:Int),(zc7 v35.Kind r36) ∧
           ((r36 < r34) →
            ∃ (r37:List UInt8),(zaQ l_ v32 r37) ∧
            ∃ (r38:List UInt8),(zcB r37 true r38) ∧
            (r38.length+1≤zd) ∧
            (I64 (v1.Kind - 11)) ∧
            (0≤(v1.Kind - 11)) ∧
            ∃ (v39:List UInt8),(([[124,124],[38,38],[61,61],[33,61],[60],[60,61],[62],[62,61],[43],[45],[42],[47],[37]]:List (List UInt8))[(v1.Kind - 11).toNat]?=some v39) ∧
            (r38.length+1+v39.length≤zd) ∧
            (r38.length+1+v39.length+1≤zd) ∧
            ∃ (r40:List UInt8),(zaQ l_ v33 r40) ∧
            (0≤v33) ∧
            ∃ (v41:Node),(l_[v33.toNat]?=some v41) ∧
            ∃ (r42:Int),(zc7 v41.Kind r42) ∧
            ∃ (r43:List UInt8),(zcB r40 (decide (r42≤r34)) r43) ∧
            (r38.length+1+v39.length+1+r43.length≤zd) ∧
            ((((r38++[32])++v39)++[32])++r43)=r) ∧
           (¬ (r36 < r34) →
            ((r34=3) →
             ∃ (r44:List UInt8),(zaQ l_ v32 r44) ∧
             ∃ (r45:List UInt8),(zcB r44 (decide (r36=3)) r45) ∧
             (r45.length+1≤zd) ∧
             (I64 (v1.Kind - 11)) ∧
             (0≤(v1.Kind - 11)) ∧
             ∃ (v46:List UInt8),(([[124,124],[38,38],[61,61],[33,61],[60],[60,61],[62],[62,61],[43],[45],[42],[47],[37]]:List (List UInt8))[(v1.Kind - 11).toNat]?=some v46) ∧
             (r45.length+1+v46.length≤zd) ∧
             (r45.length+1+v46.length+1≤zd) ∧
             ∃ (r47:List UInt8),(zaQ l_ v33 r47) ∧
             (0≤v33) ∧
             ∃ (v48:Node),(l_[v33.toNat]?=some v48) ∧
             ∃ (r49:Int),(zc7 v48.Kind r49) ∧
             ∃ (r50:List UInt8),(zcB r47 (decide (r49≤r34)) r50) ∧
             (r45.length+1+v46.length+1+r50.length≤zd) ∧
             ((((r45++[32])++v46)++[32])++r50)=r) ∧
            (¬ (r34=3) →
             ∃ (r51:List UInt8),(zaQ l_ v32 r51) ∧
             ∃ (r52:List UInt8),(zcB r51 false r52) ∧
             (r52.length+1≤zd) ∧
             (I64 (v1.Kind - 11)) ∧
             (0≤(v1.Kind - 11)) ∧
             ∃ (v53:List UInt8),(([[124,124],[38,38],[61,61],[33,61],[60],[60,61],[62],[62,61],[43],[45],[42],[47],[37]]:List (List UInt8))[(v1.Kind - 11).toNat]?=some v53) ∧
             (r52.length+1+v53.length≤zd) ∧
             (r52.length+1+v53.length+1≤zd) ∧
             ∃ (r54:List UInt8),(zaQ l_ v33 r54) ∧
             (0≤v33) ∧
             ∃ (v55:Node),(l_[v33.toNat]?=some v55) ∧
             ∃ (r56:Int),(zc7 v55.Kind r56) ∧
             ∃ (r57:List UInt8),(zcB r54 (decide (r56≤r34)) r57) ∧
             (r52.length+1+v53.length+1+r57.length≤zd) ∧
             ((((r52++[32])++v53)++[32])++r57)=r))))))))))))):zaQ l_ at_ r:=by
 intro S
 rw[za zyw _ _ rfl]
 have F:=zvj
 exact rn F T
theorem zyQ:SP 24=some (.code sc_Q24):=zb rfl Tryz.func24 comp_Q24
theorem zuu (l_:List Node) (r:List UInt8) (T :
  ∃ (r1:Bool),(zqe l_ r1) ∧
 ((r1=true) →
  (I64 ((l_.length:Int) - 1)) ∧
  ∃ (r2:List UInt8),(zaQ l_ ((l_.length:Int) - 1) r2) ∧
  r2=r) ∧
 (¬ (r1=true) →
  []=r)):zms l_ r:=by
 intro S
 rw[za zyQ _ _ rfl]
 have F:=zzu
 exact rn F T
theorem zyD:SP 25=some (.code sc_Q25):=zb rfl Tryz.func25 comp_Q25
theorem ztT  (r:Bool) (T :
  ∃ (r1:List Node) (r2:Int),(zbb [40,32,49,43,32,50,41,32,42,51] r1 r2) ∧
 ∃ (r3:List UInt8),(zh8 r1 r3) ∧
 (decide (r3=[40,49,32,43,32,50,41,32,42,32,51]))=r):ze3  r:=by
 intro S
 rw[za zyD _ _ rfl]
 have F:=zzh
 exact rn F T
end Go.Proofs.YtfbcnpbhhooapaaGreatDoor.M
namespace Go.Proofs.YtfbcnpbhhooapaaGreatDoor.M
open Go
def c_Q137_1:SC:=.seq (.reg [vO 2 (.mov (cI 0))]) .ret
def c_Q137_2:SC:=.cond (.t 10) (.seq (.reg [vO 2 (.mov (cI 2))]) .ret) (.seq (.reg [mO 22 0,vO 23 (.bin .leq (.c (.int .u8 48)) (.t 22)),mO 24 23,gO 25 24 true (.mov (.t 0)),gO 26 24 true (.bin .leq (.t 25) (.c (.int .u8 57))),vO 27 (.pick (.t 24) (.t 26) (.c (.bool false))),mO 21 27]) (.cond (.t 21) (.seq (.reg [vO 2 (.mov (cI 3))]) .ret) (.seq (.reg [mO 29 0,vO 30 (.bin .eql (.t 29) (.c (.int .u8 34))),mO 28 30]) (.cond (.t 28) (.seq (.reg [vO 2 (.mov (cI 4))]) .ret) (.seq (.reg [mO 32 0,vO 33 (.bin .eql (.t 32) (.c (.int .u8 35))),mO 31 33]) (.cond (.t 31) (.seq (.reg [vO 2 (.mov (cI 5))]) .ret) .skip))))))
def c_Q137_3:SC:=.cond (.t 3) (.seq (.reg [vO 2 (.mov (cI 1))]) .ret) (.seq (.reg [mO 11 0,vO 12 (.bin .eql (.t 11) (.c (.int .u8 95))),mO 13 12,gO 14 13 false (.mov (.t 0)),gO 15 13 false (.bin .leq (.c (.int .u8 97)) (.t 14)),gO 16 13 false (.mov (.t 15)),gO 17 16 true (.mov (.t 0)),gO 18 16 true (.bin .leq (.t 17) (.c (.int .u8 122))),gO 19 13 false (.pick (.t 16) (.t 18) (.c (.bool false))),vO 20 (.pick (.t 13) (.c (.bool true)) (.t 19)),mO 10 20]) c_Q137_2)
def c_Q137_4:SC:=.seq (.block 0 (.seq (.reg [mO 4 0,vO 5 (.bin .eql (.t 4) (.c (.int .u8 32))),mO 6 5,gO 7 6 false (.mov (.t 0)),gO 8 6 false (.bin .eql (.t 7) (.c (.int .u8 10))),vO 9 (.pick (.t 6) (.c (.bool true)) (.t 8)),mO 3 9]) c_Q137_3)) c_Q137_1
def sc_Q137:zf:=⟨1,34,.seq (.reg [vO 2 (.mov (cI 0))]) c_Q137_4,[(.t 2)]⟩
theorem zyT:type_of% (aI (ue c_Q137_1.eq_1)<|aI (ue c_Q137_2.eq_1)<|aI (ue c_Q137_3.eq_1)<|aI (ue c_Q137_4.eq_1)<|sc_Q137.eq_1):=aI (ue c_Q137_1.eq_1)<|aI (ue c_Q137_2.eq_1)<|aI (ue c_Q137_3.eq_1)<|aI (ue c_Q137_4.eq_1)<|sc_Q137.eq_1
theorem comp_Q137:comp Tryz.prog Tryz.f137=some sc_Q137:=by kernel_rfl
def c_Q151_1:SC:=.seq (.reg [mO 20 0,vO 21 (.len true (.t 20)),mO 4 21]) .ret
def b_Q151_1:SC:=.seq (.reg [vO 9 (.bin .lss (.t 8) (.t 7))]) (.seq (.cond (.t 9) .skip (.exit 0)) (.seq (.block 1 (.seq (.reg [mO 10 8,mO 5 10]) (.seq (.reg [mO 11 1,mO 12 0,mO 13 5,vO 14 (.istr (.t 12) (.t 13)),kO 15 137 [(.t 14)],kO 16 170 [(.t 11),(.t 15)],vO 17 (.un .not (.t 16))]) (.cond (.t 17) (.seq (.reg [mO 18 5,mO 4 18]) .ret) .skip)))) (.reg [vO 19 (.bin .add (.t 8) (cI 1)),mO 8 19])))
def sc_Q151:zf:=⟨2,22,.seq (.reg [vO 4 (.mov (cI 0))]) (.seq (.seq (.reg [mO 6 0,vO 7 (.len true (.t 6)),vO 8 (.mov (cI 0))]) (.block 0 (.loop b_Q151_1))) c_Q151_1),[(.t 4)]⟩
noncomputable def znF (SP:Prg) (x:EO):CO:=fin [(.t 4)] (thC SP (zw 0 (x)) c_Q151_1)
theorem zsq:type_of% (aI (ue c_Q151_1.eq_1)<|aI (ue b_Q151_1.eq_1)<|sc_Q151.eq_1):=aI (ue c_Q151_1.eq_1)<|aI (ue b_Q151_1.eq_1)<|sc_Q151.eq_1
theorem comp_Q151:comp Tryz.prog Tryz.f151=some sc_Q151:=by kernel_rfl
def sc_Q135:zf:=⟨2,31,.seq (.reg [vO 4 (.mov (.c (.str [])))]) (.seq (.reg [mO 6 0,vO 7 (.nchk (.t 6)),vO 8 (.faddr 0 (.t 7)),vO 9 (.load none (.t 8)),mO 10 1,vO 11 (.sls (.t 9) none (some (.t 10))),mO 5 11]) (.seq (.dreg [mO 12 0,mO 13 0,mO 14 0,vO 15 (.nchk (.t 14)),vO 16 (.faddr 0 (.t 15)),vO 17 (.load none (.t 16)),mO 18 1,vO 19 (.sls (.t 17) (some (.t 18)) none),mO 20 0,vO 21 (.nchk (.t 20)),vO 22 (.faddr 1 (.t 21)),vO 23 (.load none (.t 22)),mO 24 1,vO 25 (.bin .add (.t 23) (.t 24)),vO 26 (.nchk (.t 12)),vO 27 (.faddr 0 (.t 26)),⟨none,none,.store 1 (.t 27) (.t 19)⟩,vO 28 (.nchk (.t 13)),vO 29 (.faddr 1 (.t 28)),⟨none,none,.store 1 (.t 29) (.t 25)⟩] [false,false,false,false,false,false,false,false,false,false,false,false,false,false,true,true,true,true,true,true]) (.seq (.reg [mO 30 5,mO 4 30]) .ret))),[(.t 4)]⟩
theorem zyU:type_of% (sc_Q135.eq_1):=sc_Q135.eq_1
theorem comp_Q135:comp Tryz.prog Tryz.f135=some sc_Q135:=by kernel_rfl
def sc_Q134:zf:=⟨2,13,.seq (.reg [vO 4 (.mov (.c (.str [])))]) (.seq (.reg [mO 5 0,mO 6 0,vO 7 (.nchk (.t 6)),vO 8 (.faddr 0 (.t 7)),vO 9 (.load none (.t 8)),mO 10 1,kO 11 151 [(.t 9),(.t 10)],kO 12 135 [(.t 5),(.t 11)],mO 4 12]) .ret),[(.t 4)]⟩
theorem zyv:type_of% (sc_Q134.eq_1):=sc_Q134.eq_1
theorem comp_Q134:comp Tryz.prog Tryz.f134=some sc_Q134:=by kernel_rfl
def c_Q165_1:SC:=.dreg [mO 31 0,vO 32 (.nchk (.t 31)),vO 33 (.load none (.t 32)),mO 34 4,vO 35 (.bin .sub (.t 34) (cI 1)),vO 36 (.iaddr 2 (.t 33) (.t 35)),vO 37 (.faddr 1 (.t 36)),vO 38 (.load none (.t 37)),mO 39 1,⟨some 40,none,.bslice 1 1 [(.int .u8 0)] [(0,(.t 39))]⟩,vO 41 (.conv .bytes (.t 40)),vO 42 (.bin .add (.t 38) (.t 41)),vO 43 (.iaddr 2 (.t 33) (.t 35)),vO 44 (.faddr 1 (.t 43)),⟨none,none,.store 1 (.t 44) (.t 42)⟩] [false,false,false,false,false,false,false,false,false,false,false,true,true,true,true]
def c_Q165_2:SC:=.seq (.seq (.reg [mO 9 4,vO 10 (.bin .eql (.t 9) (cI 0)),mO 11 10,gO 12 11 false (.mov (.t 0)),gO 13 11 false (.nchk (.t 12)),gO 14 11 false (.load none (.t 13)),gO 15 11 false (.mov (.t 4)),gO 16 11 false (.bin .sub (.t 15) (cI 1)),gO 17 11 false (.iaddr 2 (.t 14) (.t 16)),gO 18 11 false (.faddr 0 (.t 17)),gO 19 11 false (.load none (.t 18)),vO 20 (.pick (.t 11) (.c (.bool true)) (.t 19))]) (.cond (.t 20) (.seq (.reg [mO 21 0,mO 22 0,vO 23 (.nchk (.t 22)),vO 24 (.load none (.t 23)),vO 25 (.build [(.bool false),(.str [])] []),⟨some 26,none,.bslice 2 1 [(.bool false),(.str [])] [(0,(.t 25))]⟩,⟨some 27,none,.append 2 24 (.t 24) (.t 26)⟩,vO 28 (.nchk (.t 21)),⟨none,none,.store 1 (.t 28) (.t 27)⟩]) (.reg [mO 29 4,vO 30 (.bin .add (.t 29) (cI 1)),mO 4 30])) .skip)) c_Q165_1
def sc_Q165:zf:=⟨2,45,.seq (.reg [mO 5 0,vO 6 (.nchk (.t 5)),vO 7 (.load none (.t 6)),vO 8 (.len false (.t 7)),mO 4 8]) c_Q165_2,[]⟩
theorem zxo:type_of% (aI (ue c_Q165_1.eq_1)<|aI (ue c_Q165_2.eq_1)<|sc_Q165.eq_1):=aI (ue c_Q165_1.eq_1)<|aI (ue c_Q165_2.eq_1)<|sc_Q165.eq_1
theorem comp_Q165:comp Tryz.prog Tryz.f165=some sc_Q165:=by kernel_rfl
def sc_Q164:zf:=⟨1,15,.seq (.reg [vO 2 (.mov (.c (.int .u8 0))),vO 3 (.mov (.c (.bool false)))]) (.seq (.seq (.reg [mO 5 0,vO 6 (.len true (.t 5)),vO 7 (.bin .lss (.t 6) (cI 2))]) (.cond (.t 7) (.seq (.reg [vO 2 (.mov (.c (.int .u8 0))),vO 3 (.mov (.c (.bool false)))]) .ret) .skip)) (.seq (.reg [mO 8 0,vO 9 (.istr (.t 8) (cI 1)),kO 10 179 [(.c (.str [34,92,36,110])),(.t 9)],mO 4 10]) (.seq (.seq (.reg [mO 11 4,vO 12 (.bin .lss (.t 11) (cI 0))]) (.cond (.t 12) (.seq (.reg [vO 2 (.mov (.c (.int .u8 0))),vO 3 (.mov (.c (.bool false)))]) .ret) .skip)) (.seq (.reg [mO 13 4,vO 14 (.istr (.c (.str [34,92,36,10])) (.t 13)),mO 2 14,vO 3 (.mov (.c (.bool true)))]) .ret)))),[(.t 2),(.t 3)]⟩
theorem zxK:type_of% (sc_Q164.eq_1):=sc_Q164.eq_1
theorem comp_Q164:comp Tryz.prog Tryz.f164=some sc_Q164:=by kernel_rfl
def c_Q166_1:SC:=.seq (.reg [mO 18 4,kO 19 112 [(.t 18),(.c (.str [46]))],mO 17 19,vO 20 (.extract 0 (.t 17)),vO 21 (.extract 1 (.t 17)),vO 22 (.extract 2 (.t 17)),mO 7 20,mO 8 21,mO 9 22]) (.seq (.reg [mO 23 4,mO 24 6,mO 25 24,gO 26 25 true (.mov (.t 9)),vO 27 (.pick (.t 25) (.t 26) (.c (.bool false))),mO 28 27,gO 29 28 true (.mov (.t 7)),⟨some 30,some (28,true),.call (.c (.func 115 [])) [(.t 29)]⟩,vO 31 (.pick (.t 28) (.t 30) (.c (.bool false))),mO 32 31,gO 33 32 true (.mov (.t 8)),⟨some 34,some (32,true),.call (.c (.func 115 [])) [(.t 33)]⟩,vO 35 (.pick (.t 32) (.t 34) (.c (.bool false))),mO 2 23,mO 3 35]) .ret)
def c_Q166_2:SC:=.seq (.reg [mO 11 0,vO 12 (.sls (.t 11) (some (cI 2)) none),kO 13 112 [(.t 12),(.c (.str [125]))],mO 10 13,vO 14 (.extract 0 (.t 10)),vO 15 (.extract 1 (.t 10)),vO 16 (.extract 2 (.t 10)),mO 4 14,mO 5 15,mO 6 16]) c_Q166_1
def sc_Q166:zf:=⟨1,36,.seq (.reg [vO 2 (.mov (.c (.str []))),vO 3 (.mov (.c (.bool false)))]) c_Q166_2,[(.t 2),(.t 3)]⟩
theorem zyA:type_of% (aI (ue c_Q166_1.eq_1)<|aI (ue c_Q166_2.eq_1)<|sc_Q166.eq_1):=aI (ue c_Q166_1.eq_1)<|aI (ue c_Q166_2.eq_1)<|sc_Q166.eq_1
theorem comp_Q166:comp Tryz.prog Tryz.f166=some sc_Q166:=by kernel_rfl
def sc_Q115:zf:=⟨1,24,.seq (.reg [vO 2 (.mov (.c (.bool false)))]) (.seq (.reg [mO 3 0,vO 4 (.bin .neq (.t 3) (.c (.str []))),mO 5 4,gO 6 5 true (.mov (.t 0)),gO 7 5 true (.len true (.t 6)),gO 8 5 true (.bin .leq (.t 7) (cI 24)),vO 9 (.pick (.t 5) (.t 8) (.c (.bool false))),mO 10 9,gO 11 10 true (.mov (.t 0)),gO 12 10 true (.istr (.t 11) (cI 0)),⟨some 13,some (10,true),.call (.c (.func 137 [])) [(.t 12)]⟩,gO 14 10 true (.bin .eql (.t 13) (cI 2)),vO 15 (.pick (.t 10) (.t 14) (.c (.bool false))),mO 16 15,gO 17 16 true (.mov (.t 0)),⟨some 18,some (16,true),.bslice 1 2 [(.int .i64 0)] [(0,(cI 2)),(1,(cI 3))]⟩,⟨some 19,some (16,true),.call (.c (.func 151 [])) [(.t 17),(.t 18)]⟩,gO 20 16 true (.mov (.t 0)),gO 21 16 true (.len true (.t 20)),gO 22 16 true (.bin .eql (.t 19) (.t 21)),vO 23 (.pick (.t 16) (.t 22) (.c (.bool false))),mO 2 23]) .ret),[(.t 2)]⟩
theorem zxE:type_of% (sc_Q115.eq_1):=sc_Q115.eq_1
theorem comp_Q115:comp Tryz.prog Tryz.f115=some sc_Q115:=by kernel_rfl
def sc_Q119:zf:=⟨1,9,.seq (.reg [vO 2 (.mov (.c (.bool false)))]) (.seq (.reg [mO 3 0,vO 4 (.bin .geq (.t 3) (.c (.int .u8 48))),mO 5 4,gO 6 5 true (.mov (.t 0)),gO 7 5 true (.bin .leq (.t 6) (.c (.int .u8 57))),vO 8 (.pick (.t 5) (.t 7) (.c (.bool false))),mO 2 8]) .ret),[(.t 2)]⟩
theorem zx2:type_of% (sc_Q119.eq_1):=sc_Q119.eq_1
theorem comp_Q119:comp Tryz.prog Tryz.f119=some sc_Q119:=by kernel_rfl
def sc_Q118:zf:=⟨1,13,.seq (.reg [vO 2 (.mov (.c (.bool false)))]) (.seq (.reg [mO 3 0,vO 4 (.bin .geq (.t 3) (.c (.int .u8 97))),mO 5 4,gO 6 5 true (.mov (.t 0)),gO 7 5 true (.bin .leq (.t 6) (.c (.int .u8 122))),vO 8 (.pick (.t 5) (.t 7) (.c (.bool false))),mO 9 8,gO 10 9 false (.mov (.t 0)),gO 11 9 false (.bin .eql (.t 10) (.c (.int .u8 95))),vO 12 (.pick (.t 9) (.c (.bool true)) (.t 11)),mO 2 12]) .ret),[(.t 2)]⟩
theorem zxP:type_of% (sc_Q118.eq_1):=sc_Q118.eq_1
theorem comp_Q118:comp Tryz.prog Tryz.f118=some sc_Q118:=by kernel_rfl
def c_Q77_1:SC:=.seq (.reg [mO 37 5,mO 4 37]) .ret
def b_Q77_1:SC:=.seq (.seq (.reg [mO 19 5,mO 20 0,vO 21 (.len true (.t 20)),vO 22 (.bin .lss (.t 19) (.t 21)),mO 23 22,gO 24 23 true (.mov (.t 0)),gO 25 23 true (.mov (.t 5)),gO 26 23 true (.istr (.t 24) (.t 25)),⟨some 27,some (23,true),.call (.c (.func 118 [])) [(.t 26)]⟩,gO 28 23 true (.mov (.t 27)),gO 29 28 false (.mov (.t 0)),gO 30 28 false (.mov (.t 5)),gO 31 28 false (.istr (.t 29) (.t 30)),⟨some 32,some (28,false),.call (.c (.func 119 [])) [(.t 31)]⟩,gO 33 23 true (.pick (.t 28) (.c (.bool true)) (.t 32)),vO 34 (.pick (.t 23) (.t 33) (.c (.bool false)))]) (.cond (.t 34) .skip (.exit 0))) (.block 1 (.reg [mO 35 5,vO 36 (.bin .add (.t 35) (cI 1)),mO 5 36]))
def c_Q77_2:SC:=.seq (.reg [mO 18 1,mO 5 18]) (.seq (.block 0 (.loop b_Q77_1)) c_Q77_1)
def c_Q77_3:SC:=.seq (.seq (.reg [mO 6 1,mO 7 0,vO 8 (.len true (.t 7)),vO 9 (.bin .geq (.t 6) (.t 8)),mO 10 9,gO 11 10 false (.mov (.t 0)),gO 12 10 false (.mov (.t 1)),gO 13 10 false (.istr (.t 11) (.t 12)),⟨some 14,some (10,false),.call (.c (.func 118 [])) [(.t 13)]⟩,gO 15 10 false (.un .not (.t 14)),vO 16 (.pick (.t 10) (.c (.bool true)) (.t 15))]) (.cond (.t 16) (.seq (.reg [mO 17 1,mO 4 17]) .ret) .skip)) c_Q77_2
def sc_Q77:zf:=⟨2,38,.seq (.reg [vO 4 (.mov (cI 0))]) c_Q77_3,[(.t 4)]⟩
noncomputable def zpj (SP:Prg) (x:EO):CO:=fin [(.t 4)] (thC SP (zw 0 (x)) c_Q77_1)
theorem zvx:type_of% (aI (ue c_Q77_1.eq_1)<|aI (ue b_Q77_1.eq_1)<|aI (ue c_Q77_2.eq_1)<|aI (ue c_Q77_3.eq_1)<|sc_Q77.eq_1):=aI (ue c_Q77_1.eq_1)<|aI (ue b_Q77_1.eq_1)<|aI (ue c_Q77_2.eq_1)<|aI (ue c_Q77_3.eq_1)<|sc_Q77.eq_1
theorem comp_Q77:comp Tryz.prog Tryz.f77=some sc_Q77:=by kernel_rfl
def sc_Q79:zf:=⟨1,17,.seq (.reg [vO 2 (.mov (.c (.bool false)))]) (.seq (.reg [mO 3 0,vO 4 (.bin .neq (.t 3) (.c (.str []))),mO 5 4,gO 6 5 true (.mov (.t 0)),gO 7 5 true (.len true (.t 6)),gO 8 5 true (.bin .leq (.t 7) (cI 24)),vO 9 (.pick (.t 5) (.t 8) (.c (.bool false))),mO 10 9,gO 11 10 true (.mov (.t 0)),⟨some 12,some (10,true),.call (.c (.func 77 [])) [(.t 11),(cI 0)]⟩,gO 13 10 true (.mov (.t 0)),gO 14 10 true (.len true (.t 13)),gO 15 10 true (.bin .eql (.t 12) (.t 14)),vO 16 (.pick (.t 10) (.t 15) (.c (.bool false))),mO 2 16]) .ret),[(.t 2)]⟩
theorem zzi:type_of% (sc_Q79.eq_1):=sc_Q79.eq_1
theorem comp_Q79:comp Tryz.prog Tryz.f79=some sc_Q79:=by kernel_rfl
def c_Q78_1:SC:=.seq (.reg [mO 6 3,vO 7 (.bin .gtr (.t 6) (cI 0)),mO 8 7,gO 9 8 true (.mov (.t 3)),gO 10 8 true (.mov (.t 0)),gO 11 8 true (.len true (.t 10)),gO 12 8 true (.bin .lss (.t 9) (.t 11)),vO 13 (.pick (.t 8) (.t 12) (.c (.bool false))),mO 14 13,gO 15 14 true (.mov (.t 0)),gO 16 14 true (.mov (.t 3)),gO 17 14 true (.istr (.t 15) (.t 16)),gO 18 14 true (.bin .eql (.t 17) (.c (.int .u8 46))),vO 19 (.pick (.t 14) (.t 18) (.c (.bool false))),mO 20 19,gO 21 20 true (.mov (.t 0)),gO 22 20 true (.mov (.t 3)),gO 23 20 true (.sls (.t 21) none (some (.t 22))),⟨some 24,some (20,true),.call (.c (.func 79 [])) [(.t 23)]⟩,vO 25 (.pick (.t 20) (.t 24) (.c (.bool false))),mO 26 25,gO 27 26 true (.mov (.t 0)),gO 28 26 true (.mov (.t 3)),gO 29 26 true (.bin .add (.t 28) (cI 1)),gO 30 26 true (.sls (.t 27) (some (.t 29)) none),⟨some 31,some (26,true),.call (.c (.func 79 [])) [(.t 30)]⟩,vO 32 (.pick (.t 26) (.t 31) (.c (.bool false))),mO 2 32]) .ret
def c_Q78_2:SC:=.seq (.reg [mO 4 0,kO 5 77 [(.t 4),(cI 0)],mO 3 5]) c_Q78_1
def sc_Q78:zf:=⟨1,33,.seq (.reg [vO 2 (.mov (.c (.bool false)))]) c_Q78_2,[(.t 2)]⟩
theorem zzF:type_of% (aI (ue c_Q78_1.eq_1)<|aI (ue c_Q78_2.eq_1)<|sc_Q78.eq_1):=aI (ue c_Q78_1.eq_1)<|aI (ue c_Q78_2.eq_1)<|sc_Q78.eq_1
theorem comp_Q78:comp Tryz.prog Tryz.f78=some sc_Q78:=by kernel_rfl
def zmf:SC:=.seq (.reg [vO 126 (.build [(.int .i64 0),(.str []),(.int .i64 0),(.nils 2),(.int .i64 0)] []),⟨none,none,.store 5 (.t 4) (.t 126)⟩,vO 5 (.mov (cI 0))]) .ret
def zmj:SC:=.reg [mO 17 8,vO 18 (.bin .add (.t 17) (cI 1)),mO 8 18]
def zml:SC:=.seq (.reg [mO 59 0,mO 60 8,vO 61 (.istr (.t 59) (.t 60))]) (.block 3 (.seq (.seq (.reg [vO 64 (.bin .eql (.t 61) (.c (.int .u8 34))),mO 63 64]) (.cond (.t 63) .skip (.seq (.reg [vO 65 (.bin .eql (.t 61) (.c (.int .u8 92))),mO 63 65]) (.cond (.t 63) .skip (.reg [vO 66 (.bin .eql (.t 61) (.c (.int .u8 36))),mO 63 66]))))) (.cond (.t 63) (.reg [mO 67 7,mO 68 0,mO 69 8,vO 70 (.istr (.t 68) (.t 69)),⟨some 71,none,.bslice 1 1 [(.int .u8 0)] [(0,(.t 70))]⟩,⟨some 72,none,.append 1 1 (.t 67) (.t 71)⟩,mO 7 72]) (.seq (.reg [vO 74 (.bin .eql (.t 61) (.c (.int .u8 110))),mO 73 74]) (.cond (.t 73) (.reg [mO 75 7,⟨some 76,none,.bslice 1 1 [(.int .u8 0)] [(0,(.c (.int .u8 10)))]⟩,⟨some 77,none,.append 1 1 (.t 75) (.t 76)⟩,mO 7 77]) (.seq (.reg [vO 62 (.build [(.int .i64 0),(.str []),(.int .i64 0),(.nils 2),(.int .i64 0)] []),⟨none,none,.store 5 (.t 4) (.t 62)⟩,vO 5 (.mov (cI 0))]) .ret))))))
def zl9:SC:=.seq (.seq (.reg [mO 54 8,mO 55 0,vO 56 (.len true (.t 55)),vO 57 (.bin .geq (.t 54) (.t 56))]) (.cond (.t 57) (.seq (.reg [vO 58 (.build [(.int .i64 0),(.str []),(.int .i64 0),(.nils 2),(.int .i64 0)] []),⟨none,none,.store 5 (.t 4) (.t 58)⟩,vO 5 (.mov (cI 0))]) .ret) .skip)) zml
def zma:SC:=.seq (.reg [mO 110 6,mO 111 0,mO 112 8,vO 113 (.bin .add (.t 112) (cI 2)),mO 114 8,mO 115 10,vO 116 (.bin .add (.t 114) (.t 115)),vO 117 (.bin .sub (.t 116) (cI 1)),vO 118 (.sls (.t 111) (some (.t 113)) (some (.t 117))),vO 119 (.build [(.bool false),(.str [])] [(0,1,(.c (.bool true))),(1,1,(.t 118))]),⟨some 120,none,.bslice 2 1 [(.bool false),(.str [])] [(0,(.t 119))]⟩,⟨some 121,none,.append 2 24 (.t 110) (.t 120)⟩,mO 6 121]) (.reg [mO 122 8,mO 123 10,vO 124 (.bin .add (.t 122) (.t 123)),vO 125 (.bin .sub (.t 124) (cI 1)),mO 8 125])
def zmh:SC:=.seq (.seq (.reg [mO 101 7,vO 102 (.len false (.t 101)),vO 103 (.bin .gtr (.t 102) (cI 0))]) (.cond (.t 103) (.seq (.reg [mO 104 6,mO 105 7,vO 106 (.conv .bytes (.t 105)),vO 107 (.build [(.bool false),(.str [])] [(1,1,(.t 106))]),⟨some 108,none,.bslice 2 1 [(.bool false),(.str [])] [(0,(.t 107))]⟩,⟨some 109,none,.append 2 24 (.t 104) (.t 108)⟩,mO 6 109]) (.reg [⟨some 7,none,.nilv 1⟩])) .skip)) zma
def zl8:SC:=.seq (.seq (.reg [mO 98 10,vO 99 (.bin .eql (.t 98) (cI 0))]) (.cond (.t 99) (.seq (.reg [vO 100 (.build [(.int .i64 0),(.str []),(.int .i64 0),(.nils 2),(.int .i64 0)] []),⟨none,none,.store 5 (.t 4) (.t 100)⟩,vO 5 (.mov (cI 0))]) .ret) .skip)) zmh
def zmi:SC:=.cond (.t 78) (.seq (.reg [mO 95 0,mO 96 8,kO 97 154 [(.t 95),(.t 96)],mO 10 97]) zl8) (.reg [mO 22 7,mO 23 9,⟨some 24,none,.bslice 1 1 [(.int .u8 0)] [(0,(.t 23))]⟩,⟨some 25,none,.append 1 1 (.t 22) (.t 24)⟩,mO 7 25])
def zmk:SC:=.cond (.t 49) (.seq (.reg [mO 52 8,vO 53 (.bin .add (.t 52) (cI 1)),mO 8 53]) zl9) (.seq (.reg [mO 79 9,vO 80 (.bin .eql (.t 79) (.c (.int .u8 36))),mO 81 80,gO 82 81 true (.mov (.t 8)),gO 83 81 true (.bin .add (.t 82) (cI 1)),gO 84 81 true (.mov (.t 0)),gO 85 81 true (.len true (.t 84)),gO 86 81 true (.bin .lss (.t 83) (.t 85)),vO 87 (.pick (.t 81) (.t 86) (.c (.bool false))),mO 88 87,gO 89 88 true (.mov (.t 0)),gO 90 88 true (.mov (.t 8)),gO 91 88 true (.bin .add (.t 90) (cI 1)),gO 92 88 true (.istr (.t 89) (.t 91)),gO 93 88 true (.bin .eql (.t 92) (.c (.int .u8 123))),vO 94 (.pick (.t 88) (.t 93) (.c (.bool false))),mO 78 94]) zmi)
def zkV:SC:=.cond (.t 45) (.seq (.reg [vO 48 (.build [(.int .i64 0),(.str []),(.int .i64 0),(.nils 2),(.int .i64 0)] []),⟨none,none,.store 5 (.t 4) (.t 48)⟩,vO 5 (.mov (cI 0))]) .ret) (.seq (.reg [mO 50 9,vO 51 (.bin .eql (.t 50) (.c (.int .u8 92))),mO 49 51]) zmk)
def zkR:SC:=.cond (.t 26) (.seq (.seq (.reg [mO 29 7,vO 30 (.len false (.t 29)),vO 31 (.bin .gtr (.t 30) (cI 0))]) (.cond (.t 31) (.reg [mO 32 6,mO 33 7,vO 34 (.conv .bytes (.t 33)),vO 35 (.build [(.bool false),(.str [])] [(1,1,(.t 34))]),⟨some 36,none,.bslice 2 1 [(.bool false),(.str [])] [(0,(.t 35))]⟩,⟨some 37,none,.append 2 24 (.t 32) (.t 36)⟩,mO 6 37]) .skip)) (.seq (.reg [mO 38 6,mO 39 1,vO 40 (.build [(.int .i64 0),(.str []),(.int .i64 0),(.nils 2),(.int .i64 0)] [(0,1,(cI 2)),(3,1,(.t 38)),(4,1,(.t 39))]),mO 41 8,vO 42 (.bin .add (.t 41) (cI 1)),mO 43 1,vO 44 (.bin .sub (.t 42) (.t 43)),⟨none,none,.store 5 (.t 4) (.t 40)⟩,mO 5 44]) .ret)) (.seq (.reg [mO 46 9,vO 47 (.bin .lss (.t 46) (.c (.int .u8 32))),mO 45 47]) zkV)
def zkB:SC:=.block 2 (.seq (.reg [mO 27 9,vO 28 (.bin .eql (.t 27) (.c (.int .u8 34))),mO 26 28]) zkR)
def zkI:SC:=.seq (.block 1 (.seq (.reg [mO 19 0,mO 20 8,vO 21 (.istr (.t 19) (.t 20)),mO 9 21]) zkB)) zmj
def zlZ:SC:=.seq (.seq (.reg [mO 13 8,mO 14 0,vO 15 (.len true (.t 14)),vO 16 (.bin .lss (.t 13) (.t 15))]) (.cond (.t 16) .skip (.exit 0))) zkI
noncomputable def zmd (SP:Prg) (x:EO):CO:=fin [(.cell 4 (some 5)),(.t 5)] (thC SP (zw 0 (x)) zmf)
def c_Q43_1:SC:=.seq (.reg [vO 4 (.mov (.c (.bool true)))]) .ret
def b_Q43_1:SC:=.seq (.seq (.reg [mO 11 5,mO 12 0,vO 13 (.len false (.t 12)),vO 14 (.bin .lss (.t 11) (.t 13))]) (.cond (.t 14) .skip (.exit 0))) (.seq (.block 1 (.seq (.dreg [mO 17 0,mO 18 5,vO 19 (.iaddr 2 (.t 17) (.t 18)),vO 20 (.load (some 2) (.t 19)),mO 21 1,mO 22 5,vO 23 (.iaddr 2 (.t 21) (.t 22)),vO 24 (.load (some 2) (.t 23)),vO 25 (.eqs true [.b,.s] (.t 20) (.t 24))] [false,false,false,false,false,false,false,false,true]) (.cond (.t 25) (.seq (.reg [vO 4 (.mov (.c (.bool false)))]) .ret) .skip))) (.reg [mO 15 5,vO 16 (.bin .add (.t 15) (cI 1)),mO 5 16]))
def c_Q43_2:SC:=.seq (.seq (.reg [mO 6 0,vO 7 (.len false (.t 6)),mO 8 1,vO 9 (.len false (.t 8)),vO 10 (.bin .neq (.t 7) (.t 9))]) (.cond (.t 10) (.seq (.reg [vO 4 (.mov (.c (.bool false)))]) .ret) .skip)) (.seq (.seq (.reg [vO 5 (.mov (cI 0))]) (.block 0 (.loop b_Q43_1))) c_Q43_1)
def sc_Q43:zf:=⟨2,26,.seq (.reg [vO 4 (.mov (.c (.bool false)))]) c_Q43_2,[(.t 4)]⟩
noncomputable def zpH (SP:Prg) (x:EO):CO:=fin [(.t 4)] (thC SP (zw 0 (x)) c_Q43_1)
theorem zvk:type_of% (aI (ue c_Q43_1.eq_1)<|aI (ue b_Q43_1.eq_1)<|aI (ue c_Q43_2.eq_1)<|sc_Q43.eq_1):=aI (ue c_Q43_1.eq_1)<|aI (ue b_Q43_1.eq_1)<|aI (ue c_Q43_2.eq_1)<|sc_Q43.eq_1
theorem comp_Q43:comp Tryz.prog Tryz.f43=some sc_Q43:=by kernel_rfl
def c_Q16_1:SC:=.seq (.reg [mO 23 3,vO 24 (.bin .add (.c (.int .u64 48)) (.t 23)),vO 25 (.conv (.int .u8) (.t 24)),⟨some 26,none,.bslice 1 1 [(.int .u8 0)] [(0,(.t 25))]⟩,vO 27 (.conv .bytes (.t 26)),mO 28 4,vO 29 (.bin .add (.t 27) (.t 28)),mO 4 29]) (.seq (.seq (.reg [mO 30 0,vO 31 (.bin .lss (.t 30) (cI 0))]) (.cond (.t 31) (.seq (.reg [mO 32 4,vO 33 (.bin .add (.c (.str [45])) (.t 32)),mO 2 33]) .ret) .skip)) (.seq (.reg [mO 34 4,mO 2 34]) .ret))
def b_Q16_1:SC:=.seq (.seq (.reg [mO 11 3,vO 12 (.bin .geq (.t 11) (.c (.int .u64 10)))]) (.cond (.t 12) .skip (.exit 0))) (.block 1 (.seq (.reg [mO 13 3,vO 14 (.bin .rem (.t 13) (.c (.int .u64 10))),vO 15 (.bin .add (.c (.int .u64 48)) (.t 14)),vO 16 (.conv (.int .u8) (.t 15)),⟨some 17,none,.bslice 1 1 [(.int .u8 0)] [(0,(.t 16))]⟩,vO 18 (.conv .bytes (.t 17)),mO 19 4,vO 20 (.bin .add (.t 18) (.t 19)),mO 4 20]) (.reg [mO 21 3,vO 22 (.bin .quo (.t 21) (.c (.int .u64 10))),mO 3 22])))
def c_Q16_2:SC:=.seq (.block 0 (.loop b_Q16_1)) c_Q16_1
def c_Q16_3:SC:=.seq (.seq (.reg [mO 7 0,vO 8 (.bin .lss (.t 7) (cI 0))]) (.cond (.t 8) (.reg [mO 9 3,vO 10 (.un .neg (.t 9)),mO 3 10]) .skip)) c_Q16_2
def c_Q16_4:SC:=.seq (.reg [mO 5 0,vO 6 (.conv (.int .u64) (.t 5)),mO 3 6,vO 4 (.mov (.c (.str [])))]) c_Q16_3
def sc_Q16:zf:=⟨1,35,.seq (.reg [vO 2 (.mov (.c (.str [])))]) c_Q16_4,[(.t 2)]⟩
noncomputable def zoR (SP:Prg) (x:EO):CO:=fin [(.t 2)] (thC SP (zw 0 (x)) c_Q16_1)
theorem zu3:type_of% (aI (ue c_Q16_1.eq_1)<|aI (ue b_Q16_1.eq_1)<|aI (ue c_Q16_2.eq_1)<|aI (ue c_Q16_3.eq_1)<|aI (ue c_Q16_4.eq_1)<|sc_Q16.eq_1):=aI (ue c_Q16_1.eq_1)<|aI (ue b_Q16_1.eq_1)<|aI (ue c_Q16_2.eq_1)<|aI (ue c_Q16_3.eq_1)<|aI (ue c_Q16_4.eq_1)<|sc_Q16.eq_1
theorem comp_Q16:comp Tryz.prog Tryz.f16=some sc_Q16:=by kernel_rfl
end Go.Proofs.YtfbcnpbhhooapaaGreatDoor.M
namespace Go.Proofs.YtfbcnpbhhooapaaGreatDoor.M
open Go Classical
theorem zwe:SP 137=some (.code sc_Q137):=zb rfl Tryz.func137 comp_Q137
theorem zr2 (c:UInt8) (r:Int) (T :
  (((c.toNat:Int)=32) →
  1=r) ∧
 (¬ ((c.toNat:Int)=32) →
  (((c.toNat:Int)=10) →
   1=r) ∧
  (¬ ((c.toNat:Int)=10) →
   (((c.toNat:Int)=95) →
    2=r) ∧
   (¬ ((c.toNat:Int)=95) →
    ((97≤(c.toNat:Int)) →
     (((c.toNat:Int)≤122) →
      2=r) ∧
     (¬ ((c.toNat:Int)≤122) →
      ((48≤(c.toNat:Int)) →
       (((c.toNat:Int)≤57) →
        3=r) ∧
       (¬ ((c.toNat:Int)≤57) →
        (((c.toNat:Int)=34) →
         4=r) ∧
        (¬ ((c.toNat:Int)=34) →
         (((c.toNat:Int)=35) →
          5=r) ∧
         (¬ ((c.toNat:Int)=35) →
          0=r)))) ∧
      (¬ (48≤(c.toNat:Int)) →
       (((c.toNat:Int)=34) →
        4=r) ∧
       (¬ ((c.toNat:Int)=34) →
        (((c.toNat:Int)=35) →
         5=r) ∧
        (¬ ((c.toNat:Int)=35) →
         0=r))))) ∧
    (¬ (97≤(c.toNat:Int)) →
     ((48≤(c.toNat:Int)) →
      (((c.toNat:Int)≤57) →
       3=r) ∧
      (¬ ((c.toNat:Int)≤57) →
       (((c.toNat:Int)=34) →
        4=r) ∧
       (¬ ((c.toNat:Int)=34) →
        (((c.toNat:Int)=35) →
         5=r) ∧
        (¬ ((c.toNat:Int)=35) →
         0=r)))) ∧
     (¬ (48≤(c.toNat:Int)) →
      (((c.toNat:Int)=34) →
       4=r) ∧
      (¬ ((c.toNat:Int)=34) →
       (((c.toNat:Int)=35) →
        5=r) ∧
       (¬ ((c.toNat:Int)=35) →
        0=r)))))))):zeH c r:=by
 intro S
 rw[za zwe _ _ rfl]
 have F:=zyT
 exact rn F T
theorem zwq:SP 151=some (.code sc_Q151):=zb rfl Tryz.func151 comp_Q151
def ze9 (s:List UInt8) (classes:List Int) (i1:Int) (r:Int):Prop:=∀ (S:Sto) (e:Nat→PV) (f:Fr),e 0=.str s∧e 1=.list 1 (classes.map eI) false∧e 7=.int .i64 (s.length:Int)∧e 8=.int .i64 i1→znF SP (E SP (.loop b_Q151_1) ⟨e,f::S⟩)=.ok (.v (.int .i64 r)) S
theorem zfH (s:List UInt8) (classes:List Int) (i1:Int) (r:Int) (T :
  ((i1 < (s.length:Int)) →
  (0≤i1) ∧
  ∃ (b2:UInt8),(s[i1.toNat]?=some b2) ∧
  ∃ (r3:Int),(zeH b2 r3) ∧
  ∃ (r4:Bool),(zaX classes r3 r4) ∧
  ((r4=true) →
   (I64 (i1+1)) ∧
   ze9 s classes (i1+1) r) ∧
  (¬ (r4=true) →
   i1=r)) ∧
 (¬ (i1 < (s.length:Int)) →
  (s.length:Int)=r)):ze9 s classes i1 r:=by
 intro S e f h
 unfold znF
 rw[zo]
 have F:=zsq
 exact rn (aa h<|F) T
theorem zrK (s:List UInt8) (classes:List Int) (r:Int) (T :
  ze9 s classes 0 r):zhx s classes r:=by
 intro S
 rw[za zwq _ _ rfl]
 have F:=zsq
 exact rn F T
theorem zwr:SP 135=some (.code sc_Q135):=zb rfl Tryz.func135 comp_Q135
theorem zth (t:LText) (n:Int) (r:List UInt8) (t':LText) (T :
  (0≤n)∧(n.toNat≤t.left.length) ∧
 (0≤n)∧(n.toNat≤t.left.length) ∧
 (I64 (t.pos+n)) ∧
 (t.left.take (n.toNat))=r∧(LText.mk ((t.left.drop n.toNat).take (t.left.length - n.toNat)) (t.pos+n))=t'):za7 t n r t':=by
 intro S n0 t0 H0
 have hb0:=H0
 obtain⟨w0,hB0⟩:=zh hb0
 have hn0:=zc hB0
 rw[za zwr _ _ rfl]
 have F:=zyU
 obtain⟨p1,p2,p3,p4,p5,rfl,rfl⟩:=T
 exact fi (aa hB0<|aa hn0<|aa p1<|aa p2<|aa p3<|aa p4<|aa p5.wrap<|F)
theorem zww:SP 134=some (.code sc_Q134):=zb rfl Tryz.func134 comp_Q134
theorem zrU (t:LText) (classes:List Int) (r:List UInt8) (t':LText) (T :
  ∃ (r1:Int),(zhx t.left classes r1) ∧
 ∃ (r2:List UInt8) (y3:LText),(za7 t r1 r2 y3) ∧
 r2=r∧y3=t'):zdZ t classes r t':=by
 intro S n0 t0 H0
 have hb0:=H0
 obtain⟨w0,hB0⟩:=zh hb0
 have hn0:=zc hB0
 rw[za zww _ _ rfl]
 have F:=zyv
 obtain⟨r1,q1,r2,y3,q2,rfl,rfl⟩:=T
 simp only[zhx,lF] at q1
 simp only[za7,lF] at q2
 exact fi (aa hB0<|aa hn0<|aa q1<|aa q2<|F)
theorem zvU:SP 165=some (.code sc_Q165):=zb rfl Tryz.func165 comp_Q165
theorem zsp (p:List Part) (p_g0:Nat) (p_z0:Bool) (c:UInt8) (p':List Part) (p'_g0:Nat) (p'_z0:Bool) (T :
  (((p.length:Int)=0) →
  (bigRow (p.length+1) 24) ∧
  (I64 ((p.length:Int)+1)) ∧
  (I64 (((p.length:Int)+1) - 1)) ∧
  (0≤(((p.length:Int)+1) - 1))∧((((p.length:Int)+1) - 1).toNat < p.length+1) ∧
  ∃ (v1:Part),((p++[(Part.mk false [])])[(((p.length:Int)+1) - 1).toNat]?=some v1) ∧
  (v1.Text.length+1≤zd) ∧
  (0≤(((p.length:Int)+1) - 1))∧((((p.length:Int)+1) - 1).toNat < p.length+1) ∧
  (p_z0=false) ∧
  ((p++[(Part.mk false [])]).set ((((p.length:Int)+1) - 1).toNat) (Part.mk v1.Ref (v1.Text++[c])))=p'∧p_g0=p'_g0∧p_z0=p'_z0) ∧
 (¬ ((p.length:Int)=0) →
  (I64 ((p.length:Int) - 1)) ∧
  (0≤((p.length:Int) - 1))∧(((p.length:Int) - 1).toNat < p.length) ∧
  ∃ (v2:Part),(p[((p.length:Int) - 1).toNat]?=some v2) ∧
  ((v2.Ref=true) →
   (bigRow (p.length+1) 24) ∧
   (I64 ((p.length:Int)+1)) ∧
   (I64 (((p.length:Int)+1) - 1)) ∧
   (0≤(((p.length:Int)+1) - 1))∧((((p.length:Int)+1) - 1).toNat < p.length+1) ∧
   ∃ (v3:Part),((p++[(Part.mk false [])])[(((p.length:Int)+1) - 1).toNat]?=some v3) ∧
   (v3.Text.length+1≤zd) ∧
   (0≤(((p.length:Int)+1) - 1))∧((((p.length:Int)+1) - 1).toNat < p.length+1) ∧
   (p_z0=false) ∧
   ((p++[(Part.mk false [])]).set ((((p.length:Int)+1) - 1).toNat) (Part.mk v3.Ref (v3.Text++[c])))=p'∧p_g0=p'_g0∧p_z0=p'_z0) ∧
  (¬ (v2.Ref=true) →
   (I64 ((p.length:Int) - 1)) ∧
   (0≤((p.length:Int) - 1))∧(((p.length:Int) - 1).toNat < p.length) ∧
   (v2.Text.length+1≤zd) ∧
   (0≤((p.length:Int) - 1))∧(((p.length:Int) - 1).toNat < p.length) ∧
   (p_z0=false) ∧
   (p.set (((p.length:Int) - 1).toNat) (Part.mk v2.Ref (v2.Text++[c])))=p'∧p_g0=p'_g0∧p_z0=p'_z0))):zjB p p_g0 p_z0 c p' p'_g0 p'_z0:=by
 intro S n0 t0 H0
 obtain⟨hb0,ha0⟩:=H0
 obtain⟨w0,hB0⟩:=zh hb0
 have hn0:=zc hB0
 rw[za zvU _ _ rfl]
 have F:=zxo
 replace F:=aa ha0<|aa hB0<|aa hn0<|F
 by_cases c1:(p.length:Int)=0
 ·replace T:=T.1 c1
  obtain⟨p2,p3,p4,p5,p6,v1,q7,p8,p9,p10,p11,rfl,rfl,rfl⟩:=T
  simp only[bigRow] at p2
  replace q7:=congrArg (Option.map ePart) q7
  rw[←List.getElem?_map] at q7
  simp only[le,List.map_append,Option.map_some] at q7
  exact fi (aa (eq_true c1)<|aa p2<|aa p3.wrap<|aa p4.wrap<|aa p5<|aa p6<|aa q7<|aa p8<|aa p9<|aa p10<|aa p11<|F)
 replace T:=T.2 c1
 obtain⟨p12,p13,p14,v2,q15,T⟩:=T
 replace F:=aa (eq_false c1)<|aa p12.wrap<|aa p13<|aa p14<|aa q15<|F
 by_cases c16:v2.Ref=true
 ·replace T:=T.1 c16
  obtain⟨p17,p18,p19,p20,p21,v3,q22,p23,p24,p25,p26,rfl,rfl,rfl⟩:=T
  simp only[bigRow] at p17
  replace q22:=congrArg (Option.map ePart) q22
  rw[←List.getElem?_map] at q22
  simp only[le,List.map_append,Option.map_some] at q22
  exact fi (aa c16<|aa p17<|aa p18.wrap<|aa p19.wrap<|aa p20<|aa p21<|aa q22<|aa p23<|aa p24<|aa p25<|aa p26<|F)
 replace T:=T.2 c16
 replace c16:=Bool.eq_false_iff.2 c16
 obtain⟨p27,p28,p29,p30,p31,p32,p33,rfl,rfl,rfl⟩:=T
 exact fi (aa c16<|aa p27.wrap<|aa p28<|aa p29<|aa p30<|aa p31<|aa p32<|aa p33<|F)
theorem zwx:SP 164=some (.code sc_Q164):=zb rfl Tryz.func164 comp_Q164
theorem zlR (s:List UInt8) (ra:UInt8) (rb:Bool) (T :
  (((s.length:Int) < 2) →
  (0:UInt8)=ra∧false=rb) ∧
 (¬ ((s.length:Int) < 2) →
  ∃ (b1:UInt8),(s[1]?=some b1) ∧
  ∃ (r2:Int),(zdo [34,92,36,110] b1 r2) ∧
  ((r2 < 0) →
   (0:UInt8)=ra∧false=rb) ∧
  (¬ (r2 < 0) →
   (0≤r2) ∧
   ∃ (b3:UInt8),([34,92,36,10][r2.toNat]?=some b3) ∧
   b3=ra∧true=rb))):zm0 s ra rb:=by
 intro S
 rw[za zwx _ _ rfl]
 have F:=zxK
 exact rn F T
theorem zw8:SP 166=some (.code sc_Q166):=zb rfl Tryz.func166 comp_Q166
theorem zta (s:List UInt8) (ra:List UInt8) (rb:Bool) (T :
  (2≤s.length) ∧
 ∃ (r1:List UInt8) (r2:List UInt8) (r3:Bool),(zbe ((s.drop 2).take (s.length - 2)) [125] r1 r2 r3) ∧
 ∃ (r4:List UInt8) (r5:List UInt8) (r6:Bool),(zbe r1 [46] r4 r5 r6) ∧
 ((r3=true) →
  ((r6=true) →
   ∃ (r7:Bool),(zdd r4 r7) ∧
   ((r7=true) →
    ∃ (r8:Bool),(zdd r5 r8) ∧
    r1=ra∧r8=rb) ∧
   (¬ (r7=true) →
    r1=ra∧false=rb)) ∧
  (¬ (r6=true) →
   r1=ra∧false=rb)) ∧
 (¬ (r3=true) →
  r1=ra∧false=rb)):zhH s ra rb:=by
 intro S
 rw[za zw8 _ _ rfl]
 have F:=zyA
 exact rn F T
theorem zwt:SP 115=some (.code sc_Q115):=zb rfl Tryz.func115 comp_Q115
theorem zrG (s:List UInt8) (r:Bool) (T :
  ((s=[]) →
  false=r) ∧
 (¬ (s=[]) →
  (((s.length:Int)≤24) →
   ∃ (b1:UInt8),(s[0]?=some b1) ∧
   ∃ (r2:Int),(zeH b1 r2) ∧
   ((r2=2) →
    ∃ (r3:Int),(zhx s [2,3] r3) ∧
    (decide (r3=(s.length:Int)))=r) ∧
   (¬ (r2=2) →
    false=r)) ∧
  (¬ ((s.length:Int)≤24) →
   false=r))):zdd s r:=by
 intro S
 rw[za zwt _ _ rfl]
 have F:=zxE
 exact rn F T
theorem zwu:SP 119=some (.code sc_Q119):=zb rfl Tryz.func119 comp_Q119
theorem zs0 (c:UInt8) (r:Bool) (T :
  ((48≤(c.toNat:Int)) →
  (decide ((c.toNat:Int)≤57))=r) ∧
 (¬ (48≤(c.toNat:Int)) →
  false=r)):zof c r:=by
 intro S
 rw[za zwu _ _ rfl]
 have F:=zx2
 exact rn F T
theorem zxb:SP 118=some (.code sc_Q118):=zb rfl Tryz.func118 comp_Q118
theorem zrz (c:UInt8) (r:Bool) (T :
  ((97≤(c.toNat:Int)) →
  (((c.toNat:Int)≤122) →
   true=r) ∧
  (¬ ((c.toNat:Int)≤122) →
   (decide ((c.toNat:Int)=95))=r)) ∧
 (¬ (97≤(c.toNat:Int)) →
  (decide ((c.toNat:Int)=95))=r)):zjl c r:=by
 intro S
 rw[za zxb _ _ rfl]
 have F:=zxP
 exact rn F T
theorem zxN:SP 77=some (.code sc_Q77):=zb rfl Tryz.func77 comp_Q77
def zdH (s:List UInt8) (i3:Int) (r:Int):Prop:=∀ (S:Sto) (e:Nat→PV) (f:Fr),e 0=.str s∧e 5=.int .i64 i3→zpj SP (E SP (.loop b_Q77_1) ⟨e,f::S⟩)=.ok (.v (.int .i64 r)) S
theorem zgF (s:List UInt8) (i3:Int) (r:Int) (T :
  ((i3 < (s.length:Int)) →
  (0≤i3) ∧
  ∃ (b4:UInt8),(s[i3.toNat]?=some b4) ∧
  ∃ (r5:Bool),(zjl b4 r5) ∧
  ((r5=true) →
   (I64 (i3+1)) ∧
   zdH s (i3+1) r) ∧
  (¬ (r5=true) →
   ∃ (r6:Bool),(zof b4 r6) ∧
   ((r6=true) →
    (I64 (i3+1)) ∧
    zdH s (i3+1) r) ∧
   (¬ (r6=true) →
    i3=r))) ∧
 (¬ (i3 < (s.length:Int)) →
  i3=r)):zdH s i3 r:=by
 intro S e f h
 unfold zpj
 rw[zo]
 have F:=zvx
 exact rn (aa h<|F) T
theorem ztJ (s:List UInt8) (i:Int) (r:Int) (T :
  (((s.length:Int)≤i) →
  i=r) ∧
 (¬ ((s.length:Int)≤i) →
  (0≤i) ∧
  ∃ (b1:UInt8),(s[i.toNat]?=some b1) ∧
  ∃ (r2:Bool),(zjl b1 r2) ∧
  ((r2=true) →
   zdH s i r) ∧
  (¬ (r2=true) →
   i=r))):zkb s i r:=by
 intro S
 rw[za zxN _ _ rfl]
 have F:=zvx
 exact rn F T
theorem zyM:SP 79=some (.code sc_Q79):=zb rfl Tryz.func79 comp_Q79
theorem zuX (s:List UInt8) (r:Bool) (T :
  ((s=[]) →
  false=r) ∧
 (¬ (s=[]) →
  (((s.length:Int)≤24) →
   ∃ (r1:Int),(zkb s 0 r1) ∧
   (decide (r1=(s.length:Int)))=r) ∧
  (¬ ((s.length:Int)≤24) →
   false=r))):zj2 s r:=by
 intro S
 rw[za zyM _ _ rfl]
 have F:=zzi
 exact rn F T
theorem zxX:SP 78=some (.code sc_Q78):=zb rfl Tryz.func78 comp_Q78
theorem zuZ (s:List UInt8) (r:Bool) (T :
  ∃ (r1:Int),(zkb s 0 r1) ∧
 ((0 < r1) →
  ((r1 < (s.length:Int)) →
   (0≤r1) ∧
   ∃ (b2:UInt8),(s[r1.toNat]?=some b2) ∧
   (((b2.toNat:Int)=46) →
    (0≤r1)∧(r1.toNat≤s.length) ∧
    ∃ (r3:Bool),(zj2 (s.take (r1.toNat)) r3) ∧
    ((r3=true) →
     (I64 (r1+1)) ∧
     (0≤(r1+1))∧((r1+1).toNat≤s.length) ∧
     ∃ (r4:Bool),(zj2 ((s.drop ((r1+1).toNat)).take (s.length - ((r1+1).toNat))) r4) ∧
     r4=r) ∧
    (¬ (r3=true) →
     false=r)) ∧
   (¬ ((b2.toNat:Int)=46) →
    false=r)) ∧
  (¬ (r1 < (s.length:Int)) →
   false=r)) ∧
 (¬ (0 < r1) →
  false=r)):zmA s r:=by
 intro S
 rw[za zxX _ _ rfl]
 have F:=zzF
 exact rn F T
def zch (s:List UInt8) (i:Int) (i1:Int) (i2:Int) (s3:List UInt8) (i4:Int) (i5:Int) (l6:List Part) (g7:Nat) (l8:List Part) (l9:List UInt8) (ra:Token) (rb:Int):Prop:=∀ (S:Sto) (e:Nat→PV) (f:Fr),e 0=.str s∧e 1=.int .i64 i∧e 4=.ptr 0 4 0∧e 6=.sl 0 (.slot 6) 0 l8.length l8.length 0 false∧e 7=.sl 0 (.slot 7) 0 l9.length l9.length 0 false∧e 8=.int .i64 i1∧f.box 4=some [.int .i64 i2,.str s3,.int .i64 i4,.sl 0 (.cell 4 3) 0 l6.length l6.length g7 false,.int .i64 i5]∧f.arr (.cell 4 3)=some ⟨2,l6.map ePart,false,g7⟩∧f.arr (.slot 6)=some ⟨2,l8.map ePart,false,0⟩∧f.arr (.slot 7)=some ⟨1,l9.map eB,false,0⟩→zmd SP (E SP (.loop zlZ) ⟨e,f::S⟩)=.ok (.v (.tup [.agg [.int .i64 ra.Kind,.str ra.Text,.int .i64 ra.Num,.list 2 (ra.Parts.map ePart) false,.int .i64 ra.At],.int .i64 rb])) S
theorem zyf:SP 43=some (.code sc_Q43):=zb rfl Tryz.func43 comp_Q43
def zfW (a:List Part) (b:List Part) (i1:Int) (r:Bool):Prop:=∀ (S:Sto) (e:Nat→PV) (f:Fr),e 0=.list 2 (a.map ePart) false∧e 1=.list 2 (b.map ePart) false∧e 5=.int .i64 i1→zpH SP (E SP (.loop b_Q43_1) ⟨e,f::S⟩)=.ok (.v (.bool r)) S
theorem zgy (a:List Part) (b:List Part) (i1:Int) (r:Bool) (T :
  ((i1 < (a.length:Int)) →
  (0≤i1) ∧
  ∃ (v2:Part),(a[i1.toNat]?=some v2) ∧
  (0≤i1) ∧
  ∃ (v3:Part),(b[i1.toNat]?=some v3) ∧
  (((v2.Ref=v3.Ref)∧(v2.Text=v3.Text)) →
   (I64 (i1+1)) ∧
   zfW a b (i1+1) r) ∧
  (¬ ((v2.Ref=v3.Ref)∧(v2.Text=v3.Text)) →
   false=r)) ∧
 (¬ (i1 < (a.length:Int)) →
  true=r)):zfW a b i1 r:=by
 intro S e f h
 unfold zpH
 rw[zo]
 have F:=zvk
 replace F:=aa h<|F
 by_cases c1:i1 < (a.length:Int)
 ·replace T:=T.1 c1
  obtain⟨p2,v2,q3,p4,v3,q5,T⟩:=T
  replace F:=aa (eq_true c1)<|aa p2<|aa q3<|aa p4<|aa q5<|F
  by_cases c6:(v2.Ref=v3.Ref)∧(v2.Text=v3.Text)
  ·replace T:=T.1 c6
   obtain⟨p7,T⟩:=T
   replace F:=aa (eq_true c6.1)<|aa (eq_true c6.2)<|aa p7.wrap<|F
   exact lo F T
  replace T:=T.2 c6
  have c6':(decide (v2.Ref=v3.Ref) && (decide (v2.Text=v3.Text)))=false:=by simp only[←Bool.not_eq_true,Bool.and_eq_true,decide_eq_true_eq];first | exact c6 | simpa using c6
  obtain rfl:=T
  exact fi (aa c6'<|F)
 replace T:=T.2 c1
 obtain rfl:=T
 exact fi (aa (eq_false c1)<|F)
theorem ztx (a:List Part) (b:List Part) (r:Bool) (T :
  (((a.length:Int)=(b.length:Int)) →
  zfW a b 0 r) ∧
 (¬ ((a.length:Int)=(b.length:Int)) →
  false=r)):zq7 a b r:=by
 intro S
 rw[za zyf _ _ rfl]
 have F:=zvk
 exact rn F T
theorem zyo:SP 16=some (.code sc_Q16):=zb rfl Tryz.func16 comp_Q16
def zeI (n:Int) (i1:Int) (s2:List UInt8) (r:List UInt8):Prop:=∀ (S:Sto) (e:Nat→PV) (f:Fr),e 0=.int .i64 n∧e 3=.int .u64 i1∧e 4=.str s2→zoR SP (E SP (.loop b_Q16_1) ⟨e,f::S⟩)=.ok (.v (.str r)) S
theorem zme (n:Int) (i1:Int) (s2:List UInt8) (r:List UInt8) (T :
  ((10≤i1) →
  (U64 (48+(i1.tmod 10))) ∧
  (U8 ((48+(i1.tmod 10)))) ∧
  (1+s2.length≤zd) ∧
  (U64 (i1.tdiv 10)) ∧
  zeI n (i1.tdiv 10) ([(UInt8.ofNat ((48+(i1.tmod 10))).toNat)]++s2) r) ∧
 (¬ (10≤i1) →
  (U64 (48+i1)) ∧
  (U8 ((48+i1))) ∧
  (1+s2.length≤zd) ∧
  ((n < 0) →
   (1+(s2.length+1)≤zd) ∧
   ([45]++([(UInt8.ofNat ((48+i1)).toNat)]++s2))=r) ∧
  (¬ (n < 0) →
   ([(UInt8.ofNat ((48+i1)).toNat)]++s2)=r))):zeI n i1 s2 r:=by
 intro S e f h
 unfold zoR
 rw[zo]
 have F:=zu3
 replace F:=aa h<|F
 by_cases c1:10≤i1
 ·replace T:=T.1 c1
  obtain⟨p2,p3,p4,p5,T⟩:=T
  replace F:=aa (eq_true c1)<|aa p2.wrap<|aa p3.wrap<|aa p4<|aa p5.wrap<|F
  exact lo F T
 replace T:=T.2 c1
 obtain⟨p6,p7,p8,T⟩:=T
 replace F:=aa (eq_false c1)<|aa p6.wrap<|aa p7.wrap<|aa p8<|F
 by_cases c9:n < 0
 ·replace T:=T.1 c9
  obtain⟨p10,rfl⟩:=T
  exact fi (aa (eq_true c9)<|aa p10<|F)
 replace T:=T.2 c9
 obtain rfl:=T
 exact fi (aa (eq_false c9)<|F)
theorem zuF (n:Int) (r:List UInt8) (T :
  ((n < 0) →
  zeI n (IntKind.u64.wrap (0 - (IntKind.u64.wrap n))) [] r) ∧
 (¬ (n < 0) →
  zeI n (IntKind.u64.wrap n) [] r)):zqT n r:=by
 intro S
 rw[za zyo _ _ rfl]
 have F:=zu3
 exact rn F T
end Go.Proofs.YtfbcnpbhhooapaaGreatDoor.M
namespace Go.Proofs.YtfbcnpbhhooapaaGreatDoor.M
open Go
def c_Q97_1:SC:=.block 1 (.seq (.reg [mO 17 0,vO 18 (.nchk (.t 17)),vO 19 (.faddr 0 (.t 18)),vO 20 (.faddr 0 (.t 19)),vO 21 (.load none (.t 20)),kO 22 112 [(.t 21),(.c (.str [10]))],mO 16 22,vO 23 (.extract 0 (.t 16)),vO 24 (.extract 1 (.t 16)),vO 25 (.extract 2 (.t 16)),mO 2 23,mO 3 24,mO 4 25]) (.seq (.reg [mO 26 0,vO 27 (.nchk (.t 26)),vO 28 (.faddr 0 (.t 27)),mO 29 2,vO 30 (.len true (.t 29)),kO 31 135 [(.t 28),(.t 30)]]) (.reg [mO 32 0,vO 33 (.nchk (.t 32)),vO 34 (.faddr 0 (.t 33)),⟨some 35,none,.bslice 1 1 [(.int .i64 0)] [(0,(cI 1))]⟩,kO 36 134 [(.t 34),(.t 35)]])))
def b_Q97_1:SC:=.seq (.seq (.reg [mO 10 0,vO 11 (.nchk (.t 10)),vO 12 (.faddr 0 (.t 11)),vO 13 (.faddr 0 (.t 12)),vO 14 (.load none (.t 13)),kO 15 129 [(.t 14),(.c (.str [35]))]]) (.cond (.t 15) .skip (.exit 0))) c_Q97_1
def c_Q97_2:SC:=.block 0 (.loop b_Q97_1)
def sc_Q97:zf:=⟨1,37,.seq (.reg [mO 5 0,vO 6 (.nchk (.t 5)),vO 7 (.faddr 0 (.t 6)),⟨some 8,none,.bslice 1 1 [(.int .i64 0)] [(0,(cI 1))]⟩,kO 9 134 [(.t 7),(.t 8)]]) c_Q97_2,[]⟩
noncomputable def zps (SP:Prg) (x:EO):CO:=fin [] (zw 0 (x))
theorem zvg:type_of% (aI (ue c_Q97_1.eq_1)<|aI (ue b_Q97_1.eq_1)<|aI (ue c_Q97_2.eq_1)<|sc_Q97.eq_1):=aI (ue c_Q97_1.eq_1)<|aI (ue b_Q97_1.eq_1)<|aI (ue c_Q97_2.eq_1)<|sc_Q97.eq_1
theorem comp_Q97:comp Tryz.prog Tryz.f97=some sc_Q97:=by kernel_rfl
def sc_Q138:zf:=⟨1,14,.seq (.reg [⟨some 2,none,.alloc [(.int .i64 0),(.str []),(.int .i64 0),(.nils 2),(.int .i64 0)]⟩,vO 3 (.mov (.c (.bool false)))]) (.seq (.reg [mO 5 0,vO 6 (.nchk (.t 5)),vO 7 (.faddr 0 (.t 6)),⟨some 8,none,.bslice 1 2 [(.int .i64 0)] [(0,(cI 2)),(1,(cI 3))]⟩,kO 9 134 [(.t 7),(.t 8)],mO 4 9]) (.seq (.reg [mO 10 4,vO 11 (.build [(.int .i64 0),(.str []),(.int .i64 0),(.nils 2),(.int .i64 0)] [(0,1,(cI 3)),(1,1,(.t 10))]),mO 12 4,kO 13 115 [(.t 12)],⟨none,none,.store 5 (.t 2) (.t 11)⟩,mO 3 13]) .ret)),[(.cell 2 (some 5)),(.t 3)]⟩
theorem zyW:type_of% (sc_Q138.eq_1):=sc_Q138.eq_1
theorem comp_Q138:comp Tryz.prog Tryz.f138=some sc_Q138:=by kernel_rfl
def c_Q139_1:SC:=.seq (.reg [mO 7 0,vO 8 (.nchk (.t 7)),vO 9 (.faddr 0 (.t 8)),⟨some 10,none,.bslice 1 1 [(.int .i64 0)] [(0,(cI 3))]⟩,kO 11 134 [(.t 9),(.t 10)],mO 4 11]) (.seq (.reg [mO 13 4,kO 14 163 [(.t 13)],mO 12 14,vO 15 (.extract 0 (.t 12)),vO 16 (.extract 1 (.t 12)),mO 5 15,mO 6 16]) (.seq (.reg [mO 17 5,vO 18 (.build [(.int .i64 0),(.str []),(.int .i64 0),(.nils 2),(.int .i64 0)] [(0,1,(cI 1)),(2,1,(.t 17))]),mO 19 6,vO 20 (.isnile false (.t 19)),mO 21 20,gO 22 21 true (.mov (.t 5)),⟨some 23,some (21,true),.call (.c (.func 106 [])) [(.t 22)]⟩,gO 24 21 true (.mov (.t 4)),gO 25 21 true (.bin .eql (.t 23) (.t 24)),vO 26 (.pick (.t 21) (.t 25) (.c (.bool false))),⟨none,none,.store 5 (.t 2) (.t 18)⟩,mO 3 26]) .ret))
def sc_Q139:zf:=⟨1,27,.seq (.reg [⟨some 2,none,.alloc [(.int .i64 0),(.str []),(.int .i64 0),(.nils 2),(.int .i64 0)]⟩,vO 3 (.mov (.c (.bool false)))]) c_Q139_1,[(.cell 2 (some 5)),(.t 3)]⟩
theorem zxr:type_of% (aI (ue c_Q139_1.eq_1)<|sc_Q139.eq_1):=aI (ue c_Q139_1.eq_1)<|sc_Q139.eq_1
theorem comp_Q139:comp Tryz.prog Tryz.f139=some sc_Q139:=by kernel_rfl
def c_Q140_1:SC:=.seq (.reg [vO 98 (.build [(.int .i64 0),(.str []),(.int .i64 0),(.nils 2),(.int .i64 0)] []),⟨none,none,.store 5 (.t 2) (.t 98)⟩,vO 3 (.mov (.c (.bool false)))]) .ret
def c_Q140_2:SC:=.seq (.seq (.reg [mO 83 9,vO 84 (.un .not (.t 83))]) (.cond (.t 84) (.seq (.reg [vO 85 (.build [(.int .i64 0),(.str []),(.int .i64 0),(.nils 2),(.int .i64 0)] []),⟨none,none,.store 5 (.t 2) (.t 85)⟩,vO 3 (.mov (.c (.bool false)))]) .ret) .skip)) (.seq (.reg [vO 86 (.load none (.t 4)),mO 87 8,vO 88 (.build [(.bool false),(.str [])] [(0,1,(.c (.bool true))),(1,1,(.t 87))]),⟨some 89,none,.bslice 2 1 [(.bool false),(.str [])] [(0,(.t 88))]⟩,⟨some 90,none,.append 2 24 (.t 86) (.t 89)⟩,⟨none,none,.store 1 (.t 4) (.t 90)⟩]) (.reg [mO 91 0,vO 92 (.nchk (.t 91)),vO 93 (.faddr 0 (.t 92)),mO 94 8,vO 95 (.len true (.t 94)),vO 96 (.bin .add (cI 3) (.t 95)),kO 97 135 [(.t 93),(.t 96)]]))
def c_Q140_3:SC:=.cond (.t 67) (.seq (.reg [mO 75 0,vO 76 (.nchk (.t 75)),vO 77 (.faddr 0 (.t 76)),vO 78 (.faddr 0 (.t 77)),vO 79 (.load none (.t 78)),kO 80 166 [(.t 79)],mO 74 80,vO 81 (.extract 0 (.t 74)),vO 82 (.extract 1 (.t 74)),mO 8 81,mO 9 82]) c_Q140_2) (.seq (.reg [mO 26 5,kO 27 165 [(.t 4),(.t 26)]]) (.reg [mO 28 0,vO 29 (.nchk (.t 28)),vO 30 (.faddr 0 (.t 29)),kO 31 135 [(.t 30),(cI 1)]]))
def c_Q140_4:SC:=.cond (.t 46) (.seq (.reg [mO 50 0,vO 51 (.nchk (.t 50)),vO 52 (.faddr 0 (.t 51)),vO 53 (.faddr 0 (.t 52)),vO 54 (.load none (.t 53)),kO 55 164 [(.t 54)],mO 49 55,vO 56 (.extract 0 (.t 49)),vO 57 (.extract 1 (.t 49)),mO 6 56,mO 7 57]) (.seq (.seq (.reg [mO 58 7,vO 59 (.un .not (.t 58))]) (.cond (.t 59) (.seq (.reg [vO 60 (.build [(.int .i64 0),(.str []),(.int .i64 0),(.nils 2),(.int .i64 0)] []),⟨none,none,.store 5 (.t 2) (.t 60)⟩,vO 3 (.mov (.c (.bool false)))]) .ret) .skip)) (.seq (.reg [mO 61 6,kO 62 165 [(.t 4),(.t 61)]]) (.reg [mO 63 0,vO 64 (.nchk (.t 63)),vO 65 (.faddr 0 (.t 64)),kO 66 135 [(.t 65),(cI 2)]])))) (.seq (.reg [mO 68 0,vO 69 (.nchk (.t 68)),vO 70 (.faddr 0 (.t 69)),vO 71 (.faddr 0 (.t 70)),vO 72 (.load none (.t 71)),kO 73 129 [(.t 72),(.c (.str [36,123]))],mO 67 73]) c_Q140_3)
def c_Q140_5:SC:=.cond (.t 42) (.seq (.reg [vO 45 (.build [(.int .i64 0),(.str []),(.int .i64 0),(.nils 2),(.int .i64 0)] []),⟨none,none,.store 5 (.t 2) (.t 45)⟩,vO 3 (.mov (.c (.bool false)))]) .ret) (.seq (.reg [mO 47 5,vO 48 (.bin .eql (.t 47) (.c (.int .u8 92))),mO 46 48]) c_Q140_4)
def c_Q140_6:SC:=.cond (.t 32) (.seq (.reg [mO 36 0,vO 37 (.nchk (.t 36)),vO 38 (.faddr 0 (.t 37)),kO 39 135 [(.t 38),(cI 1)]]) (.seq (.reg [vO 40 (.load none (.t 4)),vO 41 (.build [(.int .i64 0),(.str []),(.int .i64 0),(.nils 2),(.int .i64 0)] [(0,1,(cI 2)),(3,1,(.t 40))]),⟨none,none,.store 5 (.t 2) (.t 41)⟩,vO 3 (.mov (.c (.bool true)))]) .ret)) (.seq (.reg [mO 43 5,vO 44 (.bin .lss (.t 43) (.c (.int .u8 32))),mO 42 44]) c_Q140_5)
def c_Q140_7:SC:=.block 2 (.seq (.reg [mO 33 5,kO 34 137 [(.t 33)],vO 35 (.bin .eql (.t 34) (cI 4)),mO 32 35]) c_Q140_6)
def c_Q140_8:SC:=.block 1 (.seq (.reg [mO 20 0,vO 21 (.nchk (.t 20)),vO 22 (.faddr 0 (.t 21)),vO 23 (.faddr 0 (.t 22)),vO 24 (.load none (.t 23)),vO 25 (.istr (.t 24) (cI 0)),mO 5 25]) c_Q140_7)
def b_Q140_1:SC:=.seq (.seq (.reg [mO 14 0,vO 15 (.nchk (.t 14)),vO 16 (.faddr 0 (.t 15)),vO 17 (.faddr 0 (.t 16)),vO 18 (.load none (.t 17)),vO 19 (.bin .neq (.t 18) (.c (.str [])))]) (.cond (.t 19) .skip (.exit 0))) c_Q140_8
def c_Q140_9:SC:=.seq (.block 0 (.loop b_Q140_1)) c_Q140_1
def c_Q140_10:SC:=.seq (.reg [mO 10 0,vO 11 (.nchk (.t 10)),vO 12 (.faddr 0 (.t 11)),kO 13 135 [(.t 12),(cI 1)]]) c_Q140_9
def c_Q140_11:SC:=.seq (.reg [⟨some 4,none,.alloc [(.nils 2)]⟩]) c_Q140_10
def sc_Q140:zf:=⟨1,99,.seq (.reg [⟨some 2,none,.alloc [(.int .i64 0),(.str []),(.int .i64 0),(.nils 2),(.int .i64 0)]⟩,vO 3 (.mov (.c (.bool false)))]) c_Q140_11,[(.cell 2 (some 5)),(.t 3)]⟩
noncomputable def znU (SP:Prg) (x:EO):CO:=fin [(.cell 2 (some 5)),(.t 3)] (thC SP (zw 0 (x)) c_Q140_1)
theorem zsa:type_of% (aI (ue c_Q140_1.eq_1)<|aI (ue c_Q140_2.eq_1)<|aI (ue c_Q140_3.eq_1)<|aI (ue c_Q140_4.eq_1)<|aI (ue c_Q140_5.eq_1)<|aI (ue c_Q140_6.eq_1)<|aI (ue c_Q140_7.eq_1)<|aI (ue c_Q140_8.eq_1)<|aI (ue b_Q140_1.eq_1)<|aI (ue c_Q140_9.eq_1)<|aI (ue c_Q140_10.eq_1)<|aI (ue c_Q140_11.eq_1)<|sc_Q140.eq_1):=aI (ue c_Q140_1.eq_1)<|aI (ue c_Q140_2.eq_1)<|aI (ue c_Q140_3.eq_1)<|aI (ue c_Q140_4.eq_1)<|aI (ue c_Q140_5.eq_1)<|aI (ue c_Q140_6.eq_1)<|aI (ue c_Q140_7.eq_1)<|aI (ue c_Q140_8.eq_1)<|aI (ue b_Q140_1.eq_1)<|aI (ue c_Q140_9.eq_1)<|aI (ue c_Q140_10.eq_1)<|aI (ue c_Q140_11.eq_1)<|sc_Q140.eq_1
theorem comp_Q140:comp Tryz.prog Tryz.f140=some sc_Q140:=by kernel_rfl
def c_Q136_1:SC:=.seq (.reg [mO 28 0,vO 29 (.nchk (.t 28)),vO 30 (.faddr 0 (.t 29)),mO 31 4,vO 32 (.len true (.t 31)),kO 33 135 [(.t 30),(.t 32)],vO 34 (.build [(.int .i64 0),(.str []),(.int .i64 0),(.nils 2),(.int .i64 0)] [(0,1,(cI 4)),(1,1,(.t 33))]),⟨none,none,.store 5 (.t 2) (.t 34)⟩,vO 3 (.mov (.c (.bool true)))]) .ret
def c_Q136_2:SC:=.seq (.seq (.reg [⟨some 18,none,.bslice 1 6 [(.str [])] [(0,(.c (.str [61,61]))),(1,(.c (.str [33,61]))),(2,(.c (.str [60,61]))),(3,(.c (.str [62,61]))),(4,(.c (.str [38,38]))),(5,(.c (.str [124,124])))]⟩,mO 19 4,kO 20 161 [(.t 18),(.t 19)],vO 21 (.un .not (.t 20))]) (.cond (.t 21) (.seq (.reg [mO 22 4,vO 23 (.sls (.t 22) none (some (cI 1))),mO 4 23]) (.seq (.reg [mO 24 4,kO 25 162 [(.c (.str [123,125,91,93,40,41,61,44,46,43,45,42,47,37,60,62,33,63,58])),(.t 24)],vO 26 (.un .not (.t 25))]) (.cond (.t 26) (.seq (.reg [vO 27 (.build [(.int .i64 0),(.str []),(.int .i64 0),(.nils 2),(.int .i64 0)] []),⟨none,none,.store 5 (.t 2) (.t 27)⟩,vO 3 (.mov (.c (.bool false)))]) .ret) .skip))) .skip)) c_Q136_1
def c_Q136_3:SC:=.seq (.dreg [mO 5 0,vO 6 (.nchk (.t 5)),vO 7 (.faddr 0 (.t 6)),vO 8 (.faddr 0 (.t 7)),vO 9 (.load none (.t 8)),mO 10 0,vO 11 (.nchk (.t 10)),vO 12 (.faddr 0 (.t 11)),vO 13 (.faddr 0 (.t 12)),vO 14 (.load none (.t 13)),vO 15 (.len true (.t 14)),vO 16 (.mm false (cI 2) (.t 15)),vO 17 (.sls (.t 9) none (some (.t 16))),mO 4 17] [false,false,false,false,false,false,false,false,false,false,false,false,true,true]) c_Q136_2
def sc_Q136:zf:=⟨1,35,.seq (.reg [⟨some 2,none,.alloc [(.int .i64 0),(.str []),(.int .i64 0),(.nils 2),(.int .i64 0)]⟩,vO 3 (.mov (.c (.bool false)))]) c_Q136_3,[(.cell 2 (some 5)),(.t 3)]⟩
theorem zxG:type_of% (aI (ue c_Q136_1.eq_1)<|aI (ue c_Q136_2.eq_1)<|aI (ue c_Q136_3.eq_1)<|sc_Q136.eq_1):=aI (ue c_Q136_1.eq_1)<|aI (ue c_Q136_2.eq_1)<|aI (ue c_Q136_3.eq_1)<|sc_Q136.eq_1
theorem comp_Q136:comp Tryz.prog Tryz.f136=some sc_Q136:=by kernel_rfl
def c_Q98_1:SC:=.seq (.reg [mO 34 4,⟨some 35,none,.call (.t 34) []⟩,mO 33 35,vO 36 (.extract 0 (.t 33)),vO 37 (.extract 1 (.t 33)),⟨some 5,none,.alloc [(.int .i64 0),(.str []),(.int .i64 0),(.nils 2),(.int .i64 0)]⟩,⟨none,none,.store 5 (.t 5) (.t 36)⟩,mO 6 37]) (.seq (.reg [mO 38 3,vO 39 (.faddr 4 (.t 5)),⟨none,none,.store 1 (.t 39) (.t 38)⟩]) (.seq (.dreg [mO 40 0,mO 41 0,vO 42 (.nchk (.t 41)),vO 43 (.faddr 2 (.t 42)),vO 44 (.load none (.t 43)),vO 45 (.load (some 5) (.t 5)),⟨some 46,none,.bslice 5 1 [(.int .i64 0),(.str []),(.int .i64 0),(.nils 2),(.int .i64 0)] [(0,(.t 45))]⟩,⟨some 47,none,.append 5 64 (.t 44) (.t 46)⟩,vO 48 (.nchk (.t 40)),vO 49 (.faddr 2 (.t 48)),⟨none,none,.store 1 (.t 49) (.t 47)⟩] [false,false,false,false,false,false,false,true,true,true,true]) (.seq (.reg [mO 50 6,mO 2 50]) .ret)))
def c_Q98_2:SC:=.seq (.seq (.reg [mO 14 0,vO 15 (.nchk (.t 14)),vO 16 (.faddr 0 (.t 15)),vO 17 (.faddr 0 (.t 16)),vO 18 (.load none (.t 17)),vO 19 (.istr (.t 18) (cI 0)),kO 20 137 [(.t 19)]]) (.block 0 (.seq (.reg [vO 22 (.bin .eql (.t 20) (cI 2)),mO 21 22]) (.cond (.t 21) (.reg [mO 23 0,vO 24 (.meth 138 [(.t 23)]),mO 4 24]) (.seq (.reg [vO 26 (.bin .eql (.t 20) (cI 3)),mO 25 26]) (.cond (.t 25) (.reg [mO 27 0,vO 28 (.meth 139 [(.t 27)]),mO 4 28]) (.seq (.reg [vO 30 (.bin .eql (.t 20) (cI 4)),mO 29 30]) (.cond (.t 29) (.reg [mO 31 0,vO 32 (.meth 140 [(.t 31)]),mO 4 32]) .skip)))))))) c_Q98_1
def c_Q98_3:SC:=.seq (.reg [mO 12 0,vO 13 (.meth 136 [(.t 12)]),mO 4 13]) c_Q98_2
def c_Q98_4:SC:=.seq (.reg [mO 7 0,vO 8 (.nchk (.t 7)),vO 9 (.faddr 0 (.t 8)),vO 10 (.faddr 1 (.t 9)),vO 11 (.load none (.t 10)),mO 3 11]) c_Q98_3
def sc_Q98:zf:=⟨1,51,.seq (.reg [vO 2 (.mov (.c (.bool false)))]) c_Q98_4,[(.t 2)]⟩
theorem zzH:type_of% (aI (ue c_Q98_1.eq_1)<|aI (ue c_Q98_2.eq_1)<|aI (ue c_Q98_3.eq_1)<|aI (ue c_Q98_4.eq_1)<|sc_Q98.eq_1):=aI (ue c_Q98_1.eq_1)<|aI (ue c_Q98_2.eq_1)<|aI (ue c_Q98_3.eq_1)<|aI (ue c_Q98_4.eq_1)<|sc_Q98.eq_1
theorem comp_Q98:comp Tryz.prog Tryz.f98=some sc_Q98:=by kernel_rfl
def c_Q60_1:SC:=.seq (.dreg [mO 25 4,vO 26 (.nchk (.t 25)),vO 27 (.faddr 2 (.t 26)),vO 28 (.load none (.t 27)),mO 29 4,vO 30 (.nchk (.t 29)),vO 31 (.faddr 0 (.t 30)),vO 32 (.faddr 1 (.t 31)),vO 33 (.load none (.t 32)),vO 34 (.build [(.int .i64 0),(.str []),(.int .i64 0),(.nils 2),(.int .i64 0)] [(0,1,(cI 0)),(4,1,(.t 33))]),⟨some 35,none,.bslice 5 1 [(.int .i64 0),(.str []),(.int .i64 0),(.nils 2),(.int .i64 0)] [(0,(.t 34))]⟩,⟨some 36,none,.append 5 64 (.t 28) (.t 35)⟩,mO 2 36,vO 3 (.mov (cI 0))] [false,false,false,false,false,false,false,false,false,false,false,true,true,true]) .ret
def b_Q60_1:SC:=.seq (.seq (.reg [mO 14 4,vO 15 (.nchk (.t 14)),vO 16 (.faddr 0 (.t 15)),vO 17 (.faddr 0 (.t 16)),vO 18 (.load none (.t 17)),vO 19 (.bin .neq (.t 18) (.c (.str [])))]) (.cond (.t 19) .skip (.exit 0))) (.seq (.block 1 (.seq (.reg [mO 22 4,kO 23 98 [(.t 22)],vO 24 (.un .not (.t 23))]) (.cond (.t 24) (.seq (.reg [⟨some 2,none,.nilv 5⟩,vO 3 (.mov (cI 5))]) .ret) .skip))) (.reg [mO 20 4,kO 21 97 [(.t 20)]]))
def c_Q60_2:SC:=.seq (.seq (.reg [mO 12 4,kO 13 97 [(.t 12)]]) (.block 0 (.loop b_Q60_1))) c_Q60_1
def c_Q60_3:SC:=.seq (.reg [mO 8 0,vO 9 (.build [(.str []),(.int .i64 0)] [(0,1,(.t 8))]),vO 10 (.build [(.str []),(.int .i64 0),(.nils 5)] [(0,2,(.t 9))]),⟨some 11,none,.box (.t 10)⟩,mO 4 11]) c_Q60_2
def c_Q60_4:SC:=.seq (.seq (.reg [mO 5 0,vO 6 (.len true (.t 5)),vO 7 (.bin .gtr (.t 6) (cI 6000))]) (.cond (.t 7) (.seq (.reg [⟨some 2,none,.nilv 5⟩,vO 3 (.mov (cI 4))]) .ret) .skip)) c_Q60_3
def sc_Q60:zf:=⟨1,37,.seq (.reg [⟨some 2,none,.nilv 5⟩,vO 3 (.mov (cI 0))]) c_Q60_4,[(.t 2),(.t 3)]⟩
noncomputable def zp8 (SP:Prg) (x:EO):CO:=fin [(.t 2),(.t 3)] (thC SP (zw 0 (x)) c_Q60_1)
theorem zvy:type_of% (aI (ue c_Q60_1.eq_1)<|aI (ue b_Q60_1.eq_1)<|aI (ue c_Q60_2.eq_1)<|aI (ue c_Q60_3.eq_1)<|aI (ue c_Q60_4.eq_1)<|sc_Q60.eq_1):=aI (ue c_Q60_1.eq_1)<|aI (ue b_Q60_1.eq_1)<|aI (ue c_Q60_2.eq_1)<|aI (ue c_Q60_3.eq_1)<|aI (ue c_Q60_4.eq_1)<|sc_Q60.eq_1
theorem comp_Q60:comp Tryz.prog Tryz.f60=some sc_Q60:=by kernel_rfl
def sc_slices_Contains_int_int:zf:=⟨2,9,.seq (.reg [vO 4 (.mov (.c (.bool false)))]) (.seq (.reg [mO 5 0,mO 6 1,kO 7 190 [(.t 5),(.t 6)],vO 8 (.bin .geq (.t 7) (cI 0)),mO 4 8]) .ret),[(.t 4)]⟩
theorem zel:type_of% (sc_slices_Contains_int_int.eq_1):=sc_slices_Contains_int_int.eq_1
theorem comp_slices_Contains_int_int:comp Tryz.prog Tryz.f170=some sc_slices_Contains_int_int:=by kernel_rfl
def c_slices_Index_int_int_1:SC:=.seq (.reg [vO 4 (.mov (cI (-1)))]) .ret
def b_slices_Index_int_int_1:SC:=.seq (.reg [vO 9 (.bin .lss (.t 8) (.t 7))]) (.seq (.cond (.t 9) .skip (.exit 0)) (.seq (.block 1 (.seq (.reg [mO 10 8,mO 5 10]) (.seq (.reg [mO 11 1,mO 12 0,mO 13 5,vO 14 (.iaddr 1 (.t 12) (.t 13)),vO 15 (.load none (.t 14)),vO 16 (.bin .eql (.t 11) (.t 15))]) (.cond (.t 16) (.seq (.reg [mO 17 5,mO 4 17]) .ret) .skip)))) (.reg [vO 18 (.bin .add (.t 8) (cI 1)),mO 8 18])))
def sc_slices_Index_int_int:zf:=⟨2,19,.seq (.reg [vO 4 (.mov (cI 0))]) (.seq (.seq (.reg [mO 6 0,vO 7 (.len false (.t 6)),vO 8 (.mov (cI 0))]) (.block 0 (.loop b_slices_Index_int_int_1))) c_slices_Index_int_int_1),[(.t 4)]⟩
noncomputable def zb4 (SP:Prg) (x:EO):CO:=fin [(.t 4)] (thC SP (zw 0 (x)) c_slices_Index_int_int_1)
theorem zcp:type_of% (aI (ue c_slices_Index_int_int_1.eq_1)<|aI (ue b_slices_Index_int_int_1.eq_1)<|sc_slices_Index_int_int.eq_1):=aI (ue c_slices_Index_int_int_1.eq_1)<|aI (ue b_slices_Index_int_int_1.eq_1)<|sc_slices_Index_int_int.eq_1
theorem comp_slices_Index_int_int:comp Tryz.prog Tryz.f190=some sc_slices_Index_int_int:=by kernel_rfl
def sc_slices_Contains_string_string:zf:=⟨2,9,.seq (.reg [vO 4 (.mov (.c (.bool false)))]) (.seq (.reg [mO 5 0,mO 6 1,kO 7 62 [(.t 5),(.t 6)],vO 8 (.bin .geq (.t 7) (cI 0)),mO 4 8]) .ret),[(.t 4)]⟩
theorem zcW:type_of% (sc_slices_Contains_string_string.eq_1):=sc_slices_Contains_string_string.eq_1
theorem comp_slices_Contains_string_string:comp Tryz.prog Tryz.f161=some sc_slices_Contains_string_string:=by kernel_rfl
def sc_Q38:zf:=⟨1,13,.seq (.reg [⟨some 2,none,.alloc [(.int .i64 0),(.str []),(.int .i64 0),(.nils 2),(.int .i64 0)]⟩]) (.seq (.dreg [mO 3 0,vO 4 (.nchk (.t 3)),vO 5 (.faddr 0 (.t 4)),vO 6 (.load none (.t 5)),mO 7 0,vO 8 (.nchk (.t 7)),vO 9 (.faddr 1 (.t 8)),vO 10 (.load none (.t 9)),vO 11 (.iaddr 5 (.t 6) (.t 10)),vO 12 (.load (some 5) (.t 11)),⟨none,none,.store 5 (.t 2) (.t 12)⟩] [false,false,false,false,false,false,false,false,true,true,true]) .ret),[(.cell 2 (some 5))]⟩
theorem zy9:type_of% (sc_Q38.eq_1):=sc_Q38.eq_1
theorem comp_Q38:comp Tryz.prog Tryz.f38=some sc_Q38:=by kernel_rfl
def sc_Q42:zf:=⟨2,6,.reg [mO 4 1,vO 5 (.mkif 116 (.t 4)),⟨none,none,.panic (.t 5)⟩],[]⟩
theorem zzn:type_of% (sc_Q42.eq_1):=sc_Q42.eq_1
theorem comp_Q42:comp Tryz.prog Tryz.f42=some sc_Q42:=by kernel_rfl
def sc_Q102:zf:=⟨2,16,.seq (.reg [vO 4 (.mov (.c (.bool false)))]) (.seq (.reg [mO 5 0,kO 6 38 [(.t 5)],vO 7 (.field 0 none (.t 6)),vO 8 (.bin .eql (.t 7) (cI 4)),mO 9 8,gO 10 9 true (.mov (.t 0)),⟨some 11,some (9,true),.call (.c (.func 38 [])) [(.t 10)]⟩,gO 12 9 true (.field 1 none (.t 11)),gO 13 9 true (.mov (.t 1)),gO 14 9 true (.bin .eql (.t 12) (.t 13)),vO 15 (.pick (.t 9) (.t 14) (.c (.bool false))),mO 4 15]) .ret),[(.t 4)]⟩
theorem zxV:type_of% (sc_Q102.eq_1):=sc_Q102.eq_1
theorem comp_Q102:comp Tryz.prog Tryz.f102=some sc_Q102:=by kernel_rfl
def sc_Q67:zf:=⟨2,16,.seq (.reg [vO 4 (.mov (.c (.bool false)))]) (.seq (.seq (.reg [mO 5 0,mO 6 1,kO 7 102 [(.t 5),(.t 6)],vO 8 (.un .not (.t 7))]) (.cond (.t 8) (.seq (.reg [vO 4 (.mov (.c (.bool false)))]) .ret) .skip)) (.seq (.reg [mO 9 0,vO 10 (.nchk (.t 9)),vO 11 (.faddr 1 (.t 10)),vO 12 (.load none (.t 11)),vO 13 (.bin .add (.t 12) (cI 1)),vO 14 (.nchk (.t 9)),vO 15 (.faddr 1 (.t 14)),⟨none,none,.store 1 (.t 15) (.t 13)⟩]) (.seq (.reg [vO 4 (.mov (.c (.bool true)))]) .ret))),[(.t 4)]⟩
theorem zzq:type_of% (sc_Q67.eq_1):=sc_Q67.eq_1
theorem comp_Q67:comp Tryz.prog Tryz.f67=some sc_Q67:=by kernel_rfl
def sc_Q66:zf:=⟨2,10,.seq (.reg [mO 4 0,mO 5 1,kO 6 67 [(.t 4),(.t 5)],vO 7 (.un .not (.t 6))]) (.cond (.t 7) (.reg [mO 8 0,kO 9 42 [(.t 8),(cI 5)]]) .skip),[]⟩
theorem zzI:type_of% (sc_Q66.eq_1):=sc_Q66.eq_1
theorem comp_Q66:comp Tryz.prog Tryz.f66=some sc_Q66:=by kernel_rfl
def sc_Q101:zf:=⟨1,20,.seq (.reg [vO 2 (.mov (.c (.str [])))]) (.seq (.reg [mO 4 0,kO 5 38 [(.t 4)],⟨some 3,none,.alloc [(.int .i64 0),(.str []),(.int .i64 0),(.nils 2),(.int .i64 0)]⟩,⟨none,none,.store 5 (.t 3) (.t 5)⟩]) (.seq (.seq (.reg [vO 6 (.faddr 0 (.t 3)),vO 7 (.load none (.t 6)),vO 8 (.bin .neq (.t 7) (cI 3))]) (.cond (.t 8) (.reg [mO 9 0,kO 10 42 [(.t 9),(cI 5)]]) .skip)) (.seq (.reg [mO 11 0,vO 12 (.nchk (.t 11)),vO 13 (.faddr 1 (.t 12)),vO 14 (.load none (.t 13)),vO 15 (.bin .add (.t 14) (cI 1)),vO 16 (.nchk (.t 11)),vO 17 (.faddr 1 (.t 16)),⟨none,none,.store 1 (.t 17) (.t 15)⟩]) (.seq (.reg [vO 18 (.faddr 1 (.t 3)),vO 19 (.load none (.t 18)),mO 2 19]) .ret)))),[(.t 2)]⟩
theorem zxM:type_of% (sc_Q101.eq_1):=sc_Q101.eq_1
theorem comp_Q101:comp Tryz.prog Tryz.f101=some sc_Q101:=by kernel_rfl
def sc_Q104:zf:=⟨2,32,.seq (.seq (.reg [mO 4 0,vO 5 (.nchk (.t 4)),vO 6 (.faddr 0 (.t 5)),mO 7 1,kO 8 102 [(.t 6),(.t 7)],mO 9 8,gO 10 9 true (.mov (.t 0)),gO 11 9 true (.nchk (.t 10)),gO 12 9 true (.faddr 3 (.t 11)),gO 13 9 true (.load none (.t 12)),gO 14 9 true (.bin .geq (.t 13) (cI 64)),vO 15 (.pick (.t 9) (.t 14) (.c (.bool false)))]) (.cond (.t 15) (.reg [mO 16 0,vO 17 (.nchk (.t 16)),vO 18 (.faddr 0 (.t 17)),kO 19 42 [(.t 18),(cI 6)]]) .skip)) (.seq (.reg [mO 20 0,vO 21 (.nchk (.t 20)),vO 22 (.faddr 0 (.t 21)),mO 23 1,kO 24 66 [(.t 22),(.t 23)]]) (.reg [mO 25 0,vO 26 (.nchk (.t 25)),vO 27 (.faddr 3 (.t 26)),vO 28 (.load none (.t 27)),vO 29 (.bin .add (.t 28) (cI 1)),vO 30 (.nchk (.t 25)),vO 31 (.faddr 3 (.t 30)),⟨none,none,.store 1 (.t 31) (.t 29)⟩])),[]⟩
theorem zxp:type_of% (sc_Q104.eq_1):=sc_Q104.eq_1
theorem comp_Q104:comp Tryz.prog Tryz.f104=some sc_Q104:=by kernel_rfl
def sc_Q181:zf:=⟨2,16,.seq (.reg [mO 4 0,vO 5 (.nchk (.t 4)),vO 6 (.faddr 0 (.t 5)),mO 7 1,kO 8 66 [(.t 6),(.t 7)]]) (.reg [mO 9 0,vO 10 (.nchk (.t 9)),vO 11 (.faddr 3 (.t 10)),vO 12 (.load none (.t 11)),vO 13 (.bin .sub (.t 12) (cI 1)),vO 14 (.nchk (.t 9)),vO 15 (.faddr 3 (.t 14)),⟨none,none,.store 1 (.t 15) (.t 13)⟩]),[]⟩
theorem zys:type_of% (sc_Q181.eq_1):=sc_Q181.eq_1
theorem comp_Q181:comp Tryz.prog Tryz.f181=some sc_Q181:=by kernel_rfl
def sc_Q105:zf:=⟨4,29,.seq (.reg [vO 8 (.mov (cI 0))]) (.seq (.dreg [mO 9 0,mO 10 0,vO 11 (.nchk (.t 10)),vO 12 (.faddr 2 (.t 11)),vO 13 (.load none (.t 12)),mO 14 1,mO 15 2,mO 16 3,kO 17 144 [(.t 16)],vO 18 (.build [(.int .i64 0),(.int .i64 0),(.str []),(.nils 2),(.nils 1)] [(0,1,(.t 14)),(2,1,(.t 15)),(4,1,(.t 17))]),⟨some 19,none,.bslice 5 1 [(.int .i64 0),(.int .i64 0),(.str []),(.nils 2),(.nils 1)] [(0,(.t 18))]⟩,⟨some 20,none,.append 5 80 (.t 13) (.t 19)⟩,vO 21 (.nchk (.t 9)),vO 22 (.faddr 2 (.t 21)),⟨none,none,.store 1 (.t 22) (.t 20)⟩] [false,false,false,false,false,false,false,false,false,false,false,true,true,true,true]) (.seq (.reg [mO 23 0,vO 24 (.nchk (.t 23)),vO 25 (.faddr 2 (.t 24)),vO 26 (.load none (.t 25)),vO 27 (.len false (.t 26)),vO 28 (.bin .sub (.t 27) (cI 1)),mO 8 28]) .ret)),[(.t 8)]⟩
theorem zxR:type_of% (sc_Q105.eq_1):=sc_Q105.eq_1
theorem comp_Q105:comp Tryz.prog Tryz.f105=some sc_Q105:=by kernel_rfl
def c_Q143_1:SC:=.seq (.reg [⟨some 15,none,.bslice 1 5 [(.int .i64 0)] [(0,(cI 11)),(1,(cI 12)),(2,(cI 13)),(3,(cI 19)),(4,(cI 21))]⟩,mO 7 15]) (.seq (.reg [mO 16 6,mO 17 0,vO 18 (.iaddr 1 (.t 16) (.t 17)),vO 19 (.load none (.t 18)),mO 20 1,kO 21 62 [(.t 19),(.t 20)],mO 8 21]) (.seq (.reg [mO 22 7,mO 23 0,vO 24 (.iaddr 1 (.t 22) (.t 23)),vO 25 (.load none (.t 24)),mO 26 8,vO 27 (.bin .add (.t 25) (.t 26)),mO 28 8,vO 29 (.bin .geq (.t 28) (cI 0)),mO 4 27,mO 5 29]) .ret))
def c_Q143_2:SC:=.seq (.reg [⟨some 9,none,.bslice 1 1 [(.str [])] [(0,(.c (.str [124,124])))]⟩,⟨some 10,none,.bslice 1 1 [(.str [])] [(0,(.c (.str [38,38])))]⟩,⟨some 11,none,.bslice 1 6 [(.str [])] [(0,(.c (.str [61,61]))),(1,(.c (.str [33,61]))),(2,(.c (.str [60]))),(3,(.c (.str [60,61]))),(4,(.c (.str [62]))),(5,(.c (.str [62,61])))]⟩,⟨some 12,none,.bslice 1 2 [(.str [])] [(0,(.c (.str [43]))),(1,(.c (.str [45])))]⟩,⟨some 13,none,.bslice 1 3 [(.str [])] [(0,(.c (.str [42]))),(1,(.c (.str [47]))),(2,(.c (.str [37])))]⟩,⟨some 14,none,.bslice 1 5 [(.nils 1)] [(0,(.t 9)),(1,(.t 10)),(2,(.t 11)),(3,(.t 12)),(4,(.t 13))]⟩,mO 6 14]) c_Q143_1
def sc_Q143:zf:=⟨2,30,.seq (.reg [vO 4 (.mov (cI 0)),vO 5 (.mov (.c (.bool false)))]) c_Q143_2,[(.t 4),(.t 5)]⟩
theorem zxZ:type_of% (aI (ue c_Q143_1.eq_1)<|aI (ue c_Q143_2.eq_1)<|sc_Q143.eq_1):=aI (ue c_Q143_1.eq_1)<|aI (ue c_Q143_2.eq_1)<|sc_Q143.eq_1
theorem comp_Q143:comp Tryz.prog Tryz.f143=some sc_Q143:=by kernel_rfl
def c_slices_Index_string_string_1:SC:=.seq (.reg [vO 4 (.mov (cI (-1)))]) .ret
def b_slices_Index_string_string_1:SC:=.seq (.reg [vO 9 (.bin .lss (.t 8) (.t 7))]) (.seq (.cond (.t 9) .skip (.exit 0)) (.seq (.block 1 (.seq (.reg [mO 10 8,mO 5 10]) (.seq (.reg [mO 11 1,mO 12 0,mO 13 5,vO 14 (.iaddr 1 (.t 12) (.t 13)),vO 15 (.load none (.t 14)),vO 16 (.bin .eql (.t 11) (.t 15))]) (.cond (.t 16) (.seq (.reg [mO 17 5,mO 4 17]) .ret) .skip)))) (.reg [vO 18 (.bin .add (.t 8) (cI 1)),mO 8 18])))
def sc_slices_Index_string_string:zf:=⟨2,19,.seq (.reg [vO 4 (.mov (cI 0))]) (.seq (.seq (.reg [mO 6 0,vO 7 (.len false (.t 6)),vO 8 (.mov (cI 0))]) (.block 0 (.loop b_slices_Index_string_string_1))) c_slices_Index_string_string_1),[(.t 4)]⟩
noncomputable def zbj (SP:Prg) (x:EO):CO:=fin [(.t 4)] (thC SP (zw 0 (x)) c_slices_Index_string_string_1)
theorem zbA:type_of% (aI (ue c_slices_Index_string_string_1.eq_1)<|aI (ue b_slices_Index_string_string_1.eq_1)<|sc_slices_Index_string_string.eq_1):=aI (ue c_slices_Index_string_string_1.eq_1)<|aI (ue b_slices_Index_string_string_1.eq_1)<|sc_slices_Index_string_string.eq_1
theorem comp_slices_Index_string_string:comp Tryz.prog Tryz.f62=some sc_slices_Index_string_string:=by kernel_rfl
def sc_Q202:zf:=⟨3,20,.seq (.reg [vO 6 (.mov (cI 0))]) (.seq (.reg [mO 8 0,mO 9 1,kO 10 105 [(.t 8),(.t 9),(.c (.str [])),(.c (.nils 1))],mO 7 10]) (.seq (.reg [mO 11 0,vO 12 (.nchk (.t 11)),vO 13 (.faddr 2 (.t 12)),vO 14 (.load none (.t 13)),mO 15 7,mO 16 2,vO 17 (.iaddr 5 (.t 14) (.t 15)),vO 18 (.faddr 1 (.t 17)),⟨none,none,.store 1 (.t 18) (.t 16)⟩]) (.seq (.reg [mO 19 7,mO 6 19]) .ret))),[(.t 6)]⟩
theorem zxO:type_of% (sc_Q202.eq_1):=sc_Q202.eq_1
theorem comp_Q202:comp Tryz.prog Tryz.f202=some sc_Q202:=by kernel_rfl
def c_Q201_1:SC:=.seq (.reg [mO 32 0,kO 33 104 [(.t 32),(.c (.str [40]))]]) (.seq (.reg [mO 34 0,mO 35 3,mO 36 0,kO 37 203 [(.t 36),(.c (.str [41]))],kO 38 105 [(.t 34),(cI 5),(.t 35),(.t 37)],mO 2 38]) .ret)
def c_Q201_2:SC:=.cond (.t 8) (.seq (.reg [mO 11 0,kO 12 202 [(.t 11),(cI 3),(cI 1)],mO 2 12]) .ret) (.seq (.reg [mO 14 3,vO 15 (.bin .eql (.t 14) (.c (.str [102,97,108,115,101]))),mO 13 15]) (.cond (.t 13) (.seq (.reg [mO 16 0,kO 17 202 [(.t 16),(cI 3),(cI 0)],mO 2 17]) .ret) (.seq (.reg [mO 19 0,vO 20 (.nchk (.t 19)),vO 21 (.faddr 0 (.t 20)),kO 22 67 [(.t 21),(.c (.str [46]))],mO 18 22]) (.cond (.t 18) (.seq (.reg [mO 23 0,mO 24 3,vO 25 (.bin .add (.t 24) (.c (.str [46]))),mO 26 0,vO 27 (.nchk (.t 26)),vO 28 (.faddr 0 (.t 27)),kO 29 101 [(.t 28)],vO 30 (.bin .add (.t 25) (.t 29)),kO 31 105 [(.t 23),(cI 4),(.t 30),(.c (.nils 1))],mO 2 31]) .ret) .skip))))
def c_Q201_3:SC:=.seq (.block 0 (.seq (.reg [mO 9 3,vO 10 (.bin .eql (.t 9) (.c (.str [116,114,117,101]))),mO 8 10]) c_Q201_2)) c_Q201_1
def c_Q201_4:SC:=.seq (.reg [mO 4 0,vO 5 (.nchk (.t 4)),vO 6 (.faddr 0 (.t 5)),kO 7 101 [(.t 6)],mO 3 7]) c_Q201_3
def sc_Q201:zf:=⟨1,39,.seq (.reg [vO 2 (.mov (cI 0))]) c_Q201_4,[(.t 2)]⟩
theorem zy4:type_of% (aI (ue c_Q201_1.eq_1)<|aI (ue c_Q201_2.eq_1)<|aI (ue c_Q201_3.eq_1)<|aI (ue c_Q201_4.eq_1)<|sc_Q201.eq_1):=aI (ue c_Q201_1.eq_1)<|aI (ue c_Q201_2.eq_1)<|aI (ue c_Q201_3.eq_1)<|aI (ue c_Q201_4.eq_1)<|sc_Q201.eq_1
theorem comp_Q201:comp Tryz.prog Tryz.f201=some sc_Q201:=by kernel_rfl
def c_Q180_1:SC:=.seq (.reg [mO 69 0,kO 70 104 [(.t 69),(.c (.str [40]))]]) (.seq (.reg [mO 71 0,kO 72 68 [(.t 71)],mO 5 72]) (.seq (.reg [mO 73 0,kO 74 181 [(.t 73),(.c (.str [41]))]]) (.seq (.reg [mO 75 5,mO 2 75]) .ret)))
def c_Q180_2:SC:=.cond (.t 33) (.seq (.reg [mO 37 0,vO 38 (.nchk (.t 37)),vO 39 (.faddr 0 (.t 38)),vO 40 (.faddr 1 (.t 39)),vO 41 (.load none (.t 40)),vO 42 (.bin .add (.t 41) (cI 1)),vO 43 (.nchk (.t 37)),vO 44 (.faddr 0 (.t 43)),vO 45 (.faddr 1 (.t 44)),⟨none,none,.store 1 (.t 45) (.t 42)⟩]) (.seq (.reg [mO 46 0,kO 47 105 [(.t 46),(cI 2),(.c (.str [])),(.c (.nils 1))],mO 4 47]) (.seq (.dreg [mO 48 0,vO 49 (.nchk (.t 48)),vO 50 (.faddr 2 (.t 49)),vO 51 (.load none (.t 50)),mO 52 4,vO 53 (.faddr 3 (.t 3)),vO 54 (.load none (.t 53)),vO 55 (.iaddr 5 (.t 51) (.t 52)),vO 56 (.faddr 3 (.t 55)),⟨none,none,.store 1 (.t 56) (.t 54)⟩] [false,false,false,false,false,false,false,true,true,true]) (.seq (.reg [mO 57 4,mO 2 57]) .ret)))) (.seq (.reg [mO 59 0,vO 60 (.nchk (.t 59)),vO 61 (.faddr 0 (.t 60)),kO 62 102 [(.t 61),(.c (.str [91]))],mO 58 62]) (.cond (.t 58) (.seq (.reg [mO 63 0,kO 64 104 [(.t 63),(.c (.str [91]))]]) (.seq (.reg [mO 65 0,mO 66 0,kO 67 203 [(.t 66),(.c (.str [93]))],kO 68 105 [(.t 65),(cI 6),(.c (.str [])),(.t 67)],mO 2 68]) .ret)) .skip))
def c_Q180_3:SC:=.cond (.t 16) (.seq (.reg [mO 20 0,vO 21 (.nchk (.t 20)),vO 22 (.faddr 0 (.t 21)),vO 23 (.faddr 1 (.t 22)),vO 24 (.load none (.t 23)),vO 25 (.bin .add (.t 24) (cI 1)),vO 26 (.nchk (.t 20)),vO 27 (.faddr 0 (.t 26)),vO 28 (.faddr 1 (.t 27)),⟨none,none,.store 1 (.t 28) (.t 25)⟩]) (.seq (.reg [mO 29 0,vO 30 (.faddr 2 (.t 3)),vO 31 (.load none (.t 30)),kO 32 202 [(.t 29),(cI 1),(.t 31)],mO 2 32]) .ret)) (.seq (.reg [vO 34 (.faddr 0 (.t 3)),vO 35 (.load none (.t 34)),vO 36 (.bin .eql (.t 35) (cI 2)),mO 33 36]) c_Q180_2)
def c_Q180_4:SC:=.cond (.t 10) (.seq (.reg [mO 14 0,kO 15 201 [(.t 14)],mO 2 15]) .ret) (.seq (.reg [vO 17 (.faddr 0 (.t 3)),vO 18 (.load none (.t 17)),vO 19 (.bin .eql (.t 18) (cI 1)),mO 16 19]) c_Q180_3)
def c_Q180_5:SC:=.seq (.block 0 (.seq (.reg [vO 11 (.faddr 0 (.t 3)),vO 12 (.load none (.t 11)),vO 13 (.bin .eql (.t 12) (cI 3)),mO 10 13]) c_Q180_4)) c_Q180_1
def c_Q180_6:SC:=.seq (.reg [mO 6 0,vO 7 (.nchk (.t 6)),vO 8 (.faddr 0 (.t 7)),kO 9 38 [(.t 8)],⟨some 3,none,.alloc [(.int .i64 0),(.str []),(.int .i64 0),(.nils 2),(.int .i64 0)]⟩,⟨none,none,.store 5 (.t 3) (.t 9)⟩]) c_Q180_5
def sc_Q180:zf:=⟨1,76,.seq (.reg [vO 2 (.mov (cI 0))]) c_Q180_6,[(.t 2)]⟩
theorem zyH:type_of% (aI (ue c_Q180_1.eq_1)<|aI (ue c_Q180_2.eq_1)<|aI (ue c_Q180_3.eq_1)<|aI (ue c_Q180_4.eq_1)<|aI (ue c_Q180_5.eq_1)<|aI (ue c_Q180_6.eq_1)<|sc_Q180.eq_1):=aI (ue c_Q180_1.eq_1)<|aI (ue c_Q180_2.eq_1)<|aI (ue c_Q180_3.eq_1)<|aI (ue c_Q180_4.eq_1)<|aI (ue c_Q180_5.eq_1)<|aI (ue c_Q180_6.eq_1)<|sc_Q180.eq_1
theorem comp_Q180:comp Tryz.prog Tryz.f180=some sc_Q180:=by kernel_rfl
def sc_Q41:zf:=⟨1,12,.seq (.reg [⟨some 2,none,.nilv 5⟩]) (.seq (.reg [mO 3 0,vO 4 (.nchk (.t 3)),vO 5 (.faddr 2 (.t 4)),⟨none,none,.store 1 (.t 5) (.c (.nils 5))⟩]) (.seq (.reg [mO 6 0,kO 7 68 [(.t 6)]]) (.seq (.reg [mO 8 0,vO 9 (.nchk (.t 8)),vO 10 (.faddr 2 (.t 9)),vO 11 (.load none (.t 10)),mO 2 11]) .ret))),[(.t 2)]⟩
theorem zzl:type_of% (sc_Q41.eq_1):=sc_Q41.eq_1
theorem comp_Q41:comp Tryz.prog Tryz.f41=some sc_Q41:=by kernel_rfl
def c_Q103_1:SC:=.seq (.reg [mO 54 5,mO 4 54]) .ret
def c_Q103_2:SC:=.seq (.seq (.reg [mO 32 7,vO 33 (.un .not (.t 32))]) (.cond (.t 33) (.exit 0) .skip)) (.seq (.reg [mO 34 0,vO 35 (.nchk (.t 34)),vO 36 (.faddr 0 (.t 35)),vO 37 (.faddr 1 (.t 36)),vO 38 (.load none (.t 37)),vO 39 (.bin .add (.t 38) (cI 1)),vO 40 (.nchk (.t 34)),vO 41 (.faddr 0 (.t 40)),vO 42 (.faddr 1 (.t 41)),⟨none,none,.store 1 (.t 42) (.t 39)⟩]) (.seq (.reg [mO 43 0,mO 44 6,mO 45 5,mO 46 0,mO 47 1,vO 48 (.bin .add (.t 47) (cI 1)),kO 49 103 [(.t 46),(.t 48)],⟨some 50,none,.bslice 1 2 [(.int .i64 0)] [(0,(.t 45)),(1,(.t 49))]⟩,kO 51 105 [(.t 43),(.t 44),(.c (.str [])),(.t 50)],mO 5 51]) (.seq (.reg [mO 52 1,vO 53 (.bin .eql (.t 52) (cI 2))]) (.cond (.t 53) (.exit 0) .skip))))
def c_Q103_3:SC:=.block 1 (.seq (.reg [mO 23 1,mO 24 0,vO 25 (.nchk (.t 24)),vO 26 (.faddr 0 (.t 25)),kO 27 38 [(.t 26)],vO 28 (.field 1 none (.t 27)),kO 29 143 [(.t 23),(.t 28)],mO 22 29,vO 30 (.extract 0 (.t 22)),vO 31 (.extract 1 (.t 22)),mO 6 30,mO 7 31]) c_Q103_2)
def b_Q103_1:SC:=.seq (.seq (.reg [mO 16 0,vO 17 (.nchk (.t 16)),vO 18 (.faddr 0 (.t 17)),kO 19 38 [(.t 18)],vO 20 (.field 0 none (.t 19)),vO 21 (.bin .eql (.t 20) (cI 4))]) (.cond (.t 21) .skip (.exit 0))) c_Q103_3
def c_Q103_4:SC:=.seq (.block 0 (.loop b_Q103_1)) c_Q103_1
def c_Q103_5:SC:=.seq (.reg [mO 12 0,mO 13 1,vO 14 (.bin .add (.t 13) (cI 1)),kO 15 103 [(.t 12),(.t 14)],mO 5 15]) c_Q103_4
def c_Q103_6:SC:=.seq (.seq (.reg [mO 8 1,vO 9 (.bin .eql (.t 8) (cI 5))]) (.cond (.t 9) (.seq (.reg [mO 10 0,kO 11 142 [(.t 10)],mO 4 11]) .ret) .skip)) c_Q103_5
def sc_Q103:zf:=⟨2,55,.seq (.reg [vO 4 (.mov (cI 0))]) c_Q103_6,[(.t 4)]⟩
noncomputable def zmT (SP:Prg) (x:EO):CO:=fin [(.t 4)] (thC SP (zw 0 (x)) c_Q103_1)
theorem zrD:type_of% (aI (ue c_Q103_1.eq_1)<|aI (ue c_Q103_2.eq_1)<|aI (ue c_Q103_3.eq_1)<|aI (ue b_Q103_1.eq_1)<|aI (ue c_Q103_4.eq_1)<|aI (ue c_Q103_5.eq_1)<|aI (ue c_Q103_6.eq_1)<|sc_Q103.eq_1):=aI (ue c_Q103_1.eq_1)<|aI (ue c_Q103_2.eq_1)<|aI (ue c_Q103_3.eq_1)<|aI (ue b_Q103_1.eq_1)<|aI (ue c_Q103_4.eq_1)<|aI (ue c_Q103_5.eq_1)<|aI (ue c_Q103_6.eq_1)<|sc_Q103.eq_1
theorem comp_Q103:comp Tryz.prog Tryz.f103=some sc_Q103:=by kernel_rfl
def c_Q68_1:SC:=.seq (.reg [mO 14 0,kO 15 104 [(.t 14),(.c (.str [63]))]]) (.seq (.reg [mO 16 0,kO 17 68 [(.t 16)],mO 4 17]) (.seq (.reg [mO 18 0,vO 19 (.nchk (.t 18)),vO 20 (.faddr 0 (.t 19)),kO 21 66 [(.t 20),(.c (.str [58]))]]) (.seq (.reg [mO 22 0,kO 23 68 [(.t 22)],mO 5 23]) (.seq (.reg [mO 24 0,vO 25 (.nchk (.t 24)),vO 26 (.faddr 3 (.t 25)),vO 27 (.load none (.t 26)),vO 28 (.bin .sub (.t 27) (cI 1)),vO 29 (.nchk (.t 24)),vO 30 (.faddr 3 (.t 29)),⟨none,none,.store 1 (.t 30) (.t 28)⟩]) (.seq (.reg [mO 31 0,mO 32 3,mO 33 4,mO 34 5,⟨some 35,none,.bslice 1 3 [(.int .i64 0)] [(0,(.t 32)),(1,(.t 33)),(2,(.t 34))]⟩,kO 36 105 [(.t 31),(cI 10),(.c (.str [])),(.t 35)],mO 2 36]) .ret)))))
def c_Q68_2:SC:=.seq (.seq (.reg [mO 8 0,vO 9 (.nchk (.t 8)),vO 10 (.faddr 0 (.t 9)),kO 11 102 [(.t 10),(.c (.str [63]))],vO 12 (.un .not (.t 11))]) (.cond (.t 12) (.seq (.reg [mO 13 3,mO 2 13]) .ret) .skip)) c_Q68_1
def c_Q68_3:SC:=.seq (.reg [mO 6 0,kO 7 103 [(.t 6),(cI 0)],mO 3 7]) c_Q68_2
def sc_Q68:zf:=⟨1,37,.seq (.reg [vO 2 (.mov (cI 0))]) c_Q68_3,[(.t 2)]⟩
theorem zza:type_of% (aI (ue c_Q68_1.eq_1)<|aI (ue c_Q68_2.eq_1)<|aI (ue c_Q68_3.eq_1)<|sc_Q68.eq_1):=aI (ue c_Q68_1.eq_1)<|aI (ue c_Q68_2.eq_1)<|aI (ue c_Q68_3.eq_1)<|sc_Q68.eq_1
theorem comp_Q68:comp Tryz.prog Tryz.f68=some sc_Q68:=by kernel_rfl
def c_Q142_1:SC:=.seq (.reg [mO 21 0,kO 22 142 [(.t 21)],mO 4 22]) (.seq (.reg [mO 23 0,vO 24 (.nchk (.t 23)),vO 25 (.faddr 3 (.t 24)),vO 26 (.load none (.t 25)),vO 27 (.bin .sub (.t 26) (cI 1)),vO 28 (.nchk (.t 23)),vO 29 (.faddr 3 (.t 28)),⟨none,none,.store 1 (.t 29) (.t 27)⟩]) (.seq (.reg [mO 30 0,mO 31 3,mO 32 4,⟨some 33,none,.bslice 1 1 [(.int .i64 0)] [(0,(.t 32))]⟩,kO 34 105 [(.t 30),(.t 31),(.c (.str [])),(.t 33)],mO 2 34]) .ret))
def c_Q142_2:SC:=.seq (.block 0 (.seq (.reg [mO 8 0,vO 9 (.nchk (.t 8)),vO 10 (.faddr 0 (.t 9)),kO 11 102 [(.t 10),(.c (.str [45]))],mO 7 11]) (.cond (.t 7) (.reg [mO 12 0,kO 13 104 [(.t 12),(.c (.str [45]))]]) (.seq (.reg [mO 15 0,vO 16 (.nchk (.t 15)),vO 17 (.faddr 0 (.t 16)),kO 18 102 [(.t 17),(.c (.str [33]))],mO 14 18]) (.cond (.t 14) (.seq (.reg [mO 19 0,kO 20 104 [(.t 19),(.c (.str [33]))]]) (.reg [vO 3 (.mov (cI 8))])) (.seq (.reg [mO 5 0,kO 6 167 [(.t 5)],mO 2 6]) .ret)))))) c_Q142_1
def c_Q142_3:SC:=.seq (.reg [vO 3 (.mov (cI 9))]) c_Q142_2
def sc_Q142:zf:=⟨1,35,.seq (.reg [vO 2 (.mov (cI 0))]) c_Q142_3,[(.t 2)]⟩
theorem zx8:type_of% (aI (ue c_Q142_1.eq_1)<|aI (ue c_Q142_2.eq_1)<|aI (ue c_Q142_3.eq_1)<|sc_Q142.eq_1):=aI (ue c_Q142_1.eq_1)<|aI (ue c_Q142_2.eq_1)<|aI (ue c_Q142_3.eq_1)<|sc_Q142.eq_1
theorem comp_Q142:comp Tryz.prog Tryz.f142=some sc_Q142:=by kernel_rfl
def c_Q167_1:SC:=.seq (.reg [mO 22 3,mO 2 22]) .ret
def b_Q167_1:SC:=.seq (.seq (.reg [mO 7 0,vO 8 (.nchk (.t 7)),vO 9 (.faddr 0 (.t 8)),kO 10 102 [(.t 9),(.c (.str [91]))]]) (.cond (.t 10) .skip (.exit 0))) (.block 1 (.seq (.reg [mO 11 0,kO 12 104 [(.t 11),(.c (.str [91]))]]) (.seq (.reg [mO 13 0,kO 14 68 [(.t 13)],mO 4 14]) (.seq (.reg [mO 15 0,kO 16 181 [(.t 15),(.c (.str [93]))]]) (.reg [mO 17 0,mO 18 3,mO 19 4,⟨some 20,none,.bslice 1 2 [(.int .i64 0)] [(0,(.t 18)),(1,(.t 19))]⟩,kO 21 105 [(.t 17),(cI 7),(.c (.str [])),(.t 20)],mO 3 21])))))
def sc_Q167:zf:=⟨1,23,.seq (.reg [vO 2 (.mov (cI 0))]) (.seq (.reg [mO 5 0,kO 6 180 [(.t 5)],mO 3 6]) (.seq (.block 0 (.loop b_Q167_1)) c_Q167_1)),[(.t 2)]⟩
noncomputable def znP (SP:Prg) (x:EO):CO:=fin [(.t 2)] (thC SP (zw 0 (x)) c_Q167_1)
theorem zrI:type_of% (aI (ue c_Q167_1.eq_1)<|aI (ue b_Q167_1.eq_1)<|sc_Q167.eq_1):=aI (ue c_Q167_1.eq_1)<|aI (ue b_Q167_1.eq_1)<|sc_Q167.eq_1
theorem comp_Q167:comp Tryz.prog Tryz.f167=some sc_Q167:=by kernel_rfl
def c_Q203_1:SC:=.seq (.reg [mO 26 0,mO 27 1,kO 28 181 [(.t 26),(.t 27)]]) (.seq (.reg [mO 29 5,mO 4 29]) .ret)
def b_Q203_1:SC:=.seq (.seq (.reg [mO 17 0,vO 18 (.nchk (.t 17)),vO 19 (.faddr 0 (.t 18)),kO 20 67 [(.t 19),(.c (.str [44]))]]) (.cond (.t 20) .skip (.exit 0))) (.block 1 (.reg [mO 21 5,mO 22 0,kO 23 68 [(.t 22)],⟨some 24,none,.bslice 1 1 [(.int .i64 0)] [(0,(.t 23))]⟩,⟨some 25,none,.append 1 8 (.t 21) (.t 24)⟩,mO 5 25]))
def c_Q203_2:SC:=.seq (.reg [⟨some 5,none,.nilv 1⟩]) (.seq (.seq (.reg [mO 6 0,vO 7 (.nchk (.t 6)),vO 8 (.faddr 0 (.t 7)),mO 9 1,kO 10 102 [(.t 8),(.t 9)],vO 11 (.un .not (.t 10))]) (.cond (.t 11) (.seq (.reg [mO 12 5,mO 13 0,kO 14 68 [(.t 13)],⟨some 15,none,.bslice 1 1 [(.int .i64 0)] [(0,(.t 14))]⟩,⟨some 16,none,.append 1 8 (.t 12) (.t 15)⟩,mO 5 16]) (.block 0 (.loop b_Q203_1))) .skip)) c_Q203_1)
def sc_Q203:zf:=⟨2,30,.seq (.reg [⟨some 4,none,.nilv 1⟩]) c_Q203_2,[(.t 4)]⟩
noncomputable def zmK (SP:Prg) (x:EO):CO:=fin [(.t 4)] (thC SP (zw 0 (x)) c_Q203_1)
theorem zsU:type_of% (aI (ue c_Q203_1.eq_1)<|aI (ue b_Q203_1.eq_1)<|aI (ue c_Q203_2.eq_1)<|sc_Q203.eq_1):=aI (ue c_Q203_1.eq_1)<|aI (ue b_Q203_1.eq_1)<|aI (ue c_Q203_2.eq_1)<|sc_Q203.eq_1
theorem comp_Q203:comp Tryz.prog Tryz.f203=some sc_Q203:=by kernel_rfl
def sc_Q40:zf:=⟨2,19,.seq (.reg [mO 3 0,vO 4 (.nchk (.t 3)),vO 5 (.faddr 0 (.t 4)),kO 6 41 [(.t 5)],⟨none,none,.store 1 (.t 1) (.t 6)⟩]) (.seq (.reg [mO 7 0,vO 8 (.nchk (.t 7)),vO 9 (.faddr 0 (.t 8)),vO 10 (.faddr 0 (.t 9)),kO 11 38 [(.t 10)],vO 12 (.field 0 none (.t 11)),vO 13 (.bin .neq (.t 12) (cI 0))]) (.cond (.t 13) (.reg [mO 14 0,vO 15 (.nchk (.t 14)),vO 16 (.faddr 0 (.t 15)),vO 17 (.faddr 0 (.t 16)),kO 18 42 [(.t 17),(cI 5)]]) .skip)),[]⟩
theorem zzg:type_of% (sc_Q40.eq_1):=sc_Q40.eq_1
theorem comp_Q40:comp Tryz.prog Tryz.f40=some sc_Q40:=by kernel_rfl
def sc_Q20:zf:=⟨1,13,.seq (.reg [⟨some 2,none,.nilv 5⟩,vO 3 (.mov (cI 0))]) (.seq (.reg [⟨some 4,none,.alloc [(.nils 5)]⟩]) (.seq (.reg [mO 6 0,vO 7 (.func 40 [(.t 4)]),kO 8 36 [(.t 6),(.t 7)],mO 5 8]) (.seq (.seq (.reg [mO 9 5,vO 10 (.bin .neq (.t 9) (cI 0))]) (.cond (.t 10) (.seq (.reg [mO 11 5,⟨some 2,none,.nilv 5⟩,mO 3 11]) .ret) .skip)) (.seq (.reg [vO 12 (.load none (.t 4)),mO 2 12,vO 3 (.mov (cI 0))]) .ret)))),[(.t 2),(.t 3)]⟩
theorem zq9:type_of% (sc_Q20.eq_1):=sc_Q20.eq_1
theorem comp_Q20:comp Tryz.prog Tryz.f20=some sc_Q20:=by kernel_rfl
end Go.Proofs.YtfbcnpbhhooapaaGreatDoor.M
namespace Go.Proofs.YtfbcnpbhhooapaaGreatDoor.M
open Go Classical
theorem zyV:SP 38=some (.code sc_Q38):=zb rfl Tryz.func38 comp_Q38
theorem ztD (t:PTokens) (r:Token) (t':PTokens) (T :
  (0≤t.pos) ∧
 ∃ (v1:Token),(t.l[t.pos.toNat]?=some v1) ∧
 v1=r∧t=t'):zbv t r t':=by
 intro S n0 t0 H0
 have hb0:=H0
 obtain⟨w0,hB0⟩:=zh hb0
 have hn0:=zc hB0
 rw[za zyV _ _ rfl]
 have F:=zy9
 obtain⟨p1,v1,q2,rfl,rfl⟩:=T
 exact fi (aa hB0<|aa hn0<|aa p1<|aa q2<|F)
theorem zyS:SP 42=some (.code sc_Q42):=zb rfl Tryz.func42 comp_Q42
theorem ztA (t:PTokens) (e_:Int) (o:Option Int) (t':PTokens) (T :
  some e_=o∧t=t'):zdM t e_ o t':=by
 intro S n0 t0 H0
 have hb0:=H0
 obtain⟨w0,hB0⟩:=zh hb0
 have hn0:=zc hB0
 rw[za zyS _ _ rfl]
 have F:=zzn
 obtain⟨rfl,rfl⟩:=T
 exact fi (aa hB0<|aa hn0<|F)
theorem zwL:SP 102=some (.code sc_Q102):=zb rfl Tryz.func102 comp_Q102
theorem zsc (t:PTokens) (s:List UInt8) (r:Bool) (t':PTokens) (T :
  ∃ (r1:Token) (y2:PTokens),(zbv t r1 y2) ∧
 ((r1.Kind=4) →
  ∃ (r3:Token) (y4:PTokens),(zbv y2 r3 y4) ∧
  (decide (r3.Text=s))=r∧y4=t') ∧
 (¬ (r1.Kind=4) →
  false=r∧y2=t')):zas t s r t':=by
 intro S n0 t0 H0
 have hb0:=H0
 obtain⟨w0,hB0⟩:=zh hb0
 have hn0:=zc hB0
 rw[za zwL _ _ rfl]
 have F:=zxV
 obtain⟨r1,y2,q1,T⟩:=T
 simp only[zbv,lF] at q1
 replace F:=aa hB0<|aa hn0<|aa q1<|F
 by_cases c2:r1.Kind=4
 ·replace T:=T.1 c2
  obtain⟨r3,y4,q3,rfl,rfl⟩:=T
  simp only[zbv,lF] at q3
  exact fi (aa (eq_true c2)<|aa q3<|F)
 replace T:=T.2 c2
 obtain⟨rfl,rfl⟩:=T
 exact fi (aa (eq_false c2)<|F)
theorem zxU:SP 67=some (.code sc_Q67):=zb rfl Tryz.func67 comp_Q67
theorem znZ (t:PTokens) (s:List UInt8) (r:Bool) (t':PTokens) (T :
  ∃ (r1:Bool) (y2:PTokens),(zas t s r1 y2) ∧
 ((r1=true) →
  (I64 (y2.pos+1)) ∧
  true=r∧(PTokens.mk y2.l (y2.pos+1))=t') ∧
 (¬ (r1=true) →
  false=r∧y2=t')):zei t s r t':=by
 intro S n0 t0 H0
 have hb0:=H0
 obtain⟨w0,hB0⟩:=zh hb0
 have hn0:=zc hB0
 rw[za zxU _ _ rfl]
 have F:=zzq
 obtain⟨r1,y2,q1,T⟩:=T
 simp only[zas,lF] at q1
 replace F:=aa hB0<|aa hn0<|aa q1<|F
 by_cases c2:r1=true
 ·replace T:=T.1 c2
  obtain⟨p3,rfl,rfl⟩:=T
  exact fi (aa c2<|aa p3.wrap<|F)
 replace T:=T.2 c2
 replace c2:=Bool.eq_false_iff.2 c2
 obtain⟨rfl,rfl⟩:=T
 exact fi (aa c2<|F)
theorem zxJ:SP 66=some (.code sc_Q66):=zb rfl Tryz.func66 comp_Q66
theorem znl (t:PTokens) (s:List UInt8) (o:Option Int) (t':PTokens) (T :
  ∃ (r1:Bool) (y2:PTokens),(zei t s r1 y2) ∧
 ((r1=true) →
  none=o∧y2=t') ∧
 (¬ (r1=true) →
  ∃ (o3:Option Int) (y4:PTokens),(zdM y2 5 o3 y4) ∧
  (match o3 with
  | none=>(False )
  | some e5=>(some e5=o∧y4=t')))):zcZ t s o t':=by
 intro S n0 t0 H0
 have hb0:=H0
 obtain⟨w0,hB0⟩:=zh hb0
 have hn0:=zc hB0
 rw[za zxJ _ _ rfl]
 have F:=zzI
 obtain⟨r1,y2,q1,T⟩:=T
 simp only[zei,lF] at q1
 replace F:=aa hB0<|aa hn0<|aa q1<|F
 by_cases c2:r1=true
 ·replace T:=T.1 c2
  obtain⟨rfl,rfl⟩:=T
  exact fi (aa c2<|F)
 replace T:=T.2 c2
 replace c2:=Bool.eq_false_iff.2 c2
 obtain⟨o3,y4,q3,T⟩:=T
 simp only[zdM,lF] at q3
 replace F:=aa c2<|aa q3<|F
 cases o3 with
 | none=>exact False.elim T
 | some e5 =>
   dsimp only at T
   obtain⟨rfl,rfl⟩:=T
   exact fi F
theorem zxa:SP 101=some (.code sc_Q101):=zb rfl Tryz.func101 comp_Q101
theorem zlW (t:PTokens) (o:Option Int) (r:List UInt8) (t':PTokens) (T :
  ∃ (r1:Token) (y2:PTokens),(zbv t r1 y2) ∧
 ((r1.Kind=3) →
  (I64 (y2.pos+1)) ∧
  none=o∧r1.Text=r∧(PTokens.mk y2.l (y2.pos+1))=t') ∧
 (¬ (r1.Kind=3) →
  ∃ (o3:Option Int) (y4:PTokens),(zdM y2 5 o3 y4) ∧
  (match o3 with
  | none=>(False )
  | some e5=>(some e5=o∧y4=t')))):zeQ t o r t':=by
 intro S n0 t0 H0
 have hb0:=H0
 obtain⟨w0,hB0⟩:=zh hb0
 have hn0:=zc hB0
 rw[za zxa _ _ rfl]
 have F:=zxM
 obtain⟨r1,y2,q1,T⟩:=T
 simp only[zbv,lF] at q1
 replace F:=aa hB0<|aa hn0<|aa q1<|F
 by_cases c2:r1.Kind=3
 ·replace T:=T.1 c2
  obtain⟨p3,rfl,rfl,rfl⟩:=T
  exact fi (aa (eq_true c2)<|aa p3.wrap<|F)
 replace T:=T.2 c2
 obtain⟨o3,y4,q4,T⟩:=T
 simp only[zdM,lF] at q4
 replace F:=aa (eq_false c2)<|aa q4<|F
 cases o3 with
 | none=>exact False.elim T
 | some e5 =>
   dsimp only at T
   obtain⟨rfl,rfl⟩:=T
   exact fi F
theorem zwy:SP 104=some (.code sc_Q104):=zb rfl Tryz.func104 comp_Q104
theorem zhs (x:PExprs) (x_g2:Nat) (x_z2:Bool) (s:List UInt8) (o:Option Int) (x':PExprs) (x'_g2:Nat) (x'_z2:Bool) (T :
  ∃ (r1:Bool) (y2:PTokens),(zas x.tokens s r1 y2) ∧
 ((r1=true) →
  ((64≤x.deep) →
   ∃ (o3:Option Int) (y4:PTokens),(zdM y2 6 o3 y4) ∧
   (match o3 with
   | none=>(False )
   | some e5=>(some e5=o∧(PExprs.mk y4 x.out x.deep)=x'∧x_g2=x'_g2∧x_z2=x'_z2))) ∧
  (¬ (64≤x.deep) →
   ∃ (o6:Option Int) (y7:PTokens),(zcZ y2 s o6 y7) ∧
   (match o6 with
   | none=>((I64 (x.deep+1)) ∧
    none=o∧(PExprs.mk y7 x.out (x.deep+1))=x'∧x_g2=x'_g2∧x_z2=x'_z2)
   | some e8=>(some e8=o∧(PExprs.mk y7 x.out x.deep)=x'∧x_g2=x'_g2∧x_z2=x'_z2)))) ∧
 (¬ (r1=true) →
  ∃ (o9:Option Int) (y10:PTokens),(zcZ y2 s o9 y10) ∧
  (match o9 with
  | none=>((I64 (x.deep+1)) ∧
   none=o∧(PExprs.mk y10 x.out (x.deep+1))=x'∧x_g2=x'_g2∧x_z2=x'_z2)
  | some e11=>(some e11=o∧(PExprs.mk y10 x.out x.deep)=x'∧x_g2=x'_g2∧x_z2=x'_z2)))):zaI x x_g2 x_z2 s o x' x'_g2 x'_z2:=by
 intro S n0 t0 H0
 obtain⟨hb0,ha0⟩:=H0
 obtain⟨w0,hB0⟩:=zh hb0
 have hn0:=zc hB0
 rw[za zwy _ _ rfl]
 have F:=zxp
 obtain⟨r1,y2,q1,T⟩:=T
 simp only[zas,lF] at q1
 replace F:=aa ha0<|aa hB0<|aa hn0<|aa q1<|F
 by_cases c2:r1=true
 ·replace T:=T.1 c2
  replace F:=aa c2<|F
  by_cases c3:64≤x.deep
  ·replace T:=T.1 c3
   obtain⟨o3,y4,q4,T⟩:=T
   simp only[zdM,lF] at q4
   replace F:=aa (eq_true c3)<|aa q4<|F
   cases o3 with
   | none=>exact False.elim T
   | some e5 =>
     dsimp only at T
     obtain⟨rfl,rfl,rfl,rfl⟩:=T
     exact fi F
  replace T:=T.2 c3
  obtain⟨o6,y7,q5,T⟩:=T
  simp only[zcZ,lF] at q5
  replace F:=aa (eq_false c3)<|aa q5<|F
  cases o6 with
  | none =>
    dsimp only at T
    obtain⟨p6,rfl,rfl,rfl,rfl⟩:=T
    exact fi (aa p6.wrap<|F)
  | some e8 =>
    dsimp only at T
    obtain⟨rfl,rfl,rfl,rfl⟩:=T
    exact fi F
 replace T:=T.2 c2
 replace c2:=Bool.eq_false_iff.2 c2
 obtain⟨o9,y10,q7,T⟩:=T
 simp only[zcZ,lF] at q7
 replace F:=aa c2<|aa q7<|F
 cases o9 with
 | none =>
   dsimp only at T
   obtain⟨p8,rfl,rfl,rfl,rfl⟩:=T
   exact fi (aa p8.wrap<|F)
 | some e11 =>
   dsimp only at T
   obtain⟨rfl,rfl,rfl,rfl⟩:=T
   exact fi F
theorem zwc:SP 181=some (.code sc_Q181):=zb rfl Tryz.func181 comp_Q181
theorem zlJ (x:PExprs) (x_g2:Nat) (x_z2:Bool) (s:List UInt8) (o:Option Int) (x':PExprs) (x'_g2:Nat) (x'_z2:Bool) (T :
  ∃ (o1:Option Int) (y2:PTokens),(zcZ x.tokens s o1 y2) ∧
 (match o1 with
 | none=>((I64 (x.deep - 1)) ∧
  none=o∧(PExprs.mk y2 x.out (x.deep - 1))=x'∧x_g2=x'_g2∧x_z2=x'_z2)
 | some e3=>(some e3=o∧(PExprs.mk y2 x.out x.deep)=x'∧x_g2=x'_g2∧x_z2=x'_z2))):zce x x_g2 x_z2 s o x' x'_g2 x'_z2:=by
 intro S n0 t0 H0
 obtain⟨hb0,ha0⟩:=H0
 obtain⟨w0,hB0⟩:=zh hb0
 have hn0:=zc hB0
 rw[za zwc _ _ rfl]
 have F:=zys
 obtain⟨o1,y2,q1,T⟩:=T
 simp only[zcZ,lF] at q1
 replace F:=aa ha0<|aa hB0<|aa hn0<|aa q1<|F
 cases o1 with
 | none =>
   dsimp only at T
   obtain⟨p2,rfl,rfl,rfl,rfl⟩:=T
   exact fi (aa p2.wrap<|F)
 | some e3 =>
   dsimp only at T
   obtain⟨rfl,rfl,rfl,rfl⟩:=T
   exact fi F
theorem zwM:SP 105=some (.code sc_Q105):=zb rfl Tryz.func105 comp_Q105
theorem zst (x:PExprs) (x_g2:Nat) (x_z2:Bool) (kind:Int) (text:List UInt8) (kids:List Int) (r:Int) (x':PExprs) (x'_g2:Nat) (x'_z2:Bool) (T :
  ∃ (r1:List Int),(zcs kids r1) ∧
 (bigRow (x.out.length+1) 80) ∧
 (I64 (((x.out.length+1:Nat):Int) - 1)) ∧
 (((x.out.length+1:Nat):Int) - 1)=r∧(PExprs.mk x.tokens (x.out++[(Node.mk kind 0 text [] r1)]) x.deep)=x'∧x_g2=x'_g2∧x_z2=x'_z2):zao x x_g2 x_z2 kind text kids r x' x'_g2 x'_z2:=by
 intro S n0 t0 H0
 obtain⟨hb0,ha0⟩:=H0
 obtain⟨w0,hB0⟩:=zh hb0
 have hn0:=zc hB0
 rw[za zwM _ _ rfl]
 have F:=zxR
 exact rp n0 t0 (aa ha0<|aa hB0<|aa hn0<|F) T
theorem zvO:SP 143=some (.code sc_Q143):=zb rfl Tryz.func143 comp_Q143
theorem zrR (rank:Int) (s:List UInt8) (ra:Int) (rb:Bool) (T :
  (0≤rank) ∧
 ∃ (v1:List (List UInt8)),(([[[124,124]],[[38,38]],[[61,61],[33,61],[60],[60,61],[62],[62,61]],[[43],[45]],[[42],[47],[37]]]:List (List (List UInt8)))[rank.toNat]?=some v1) ∧
 ∃ (r2:Int),(zL v1 s r2) ∧
 (0≤rank) ∧
 ∃ (v3:Int),(([11,12,13,19,21]:List Int)[rank.toNat]?=some v3) ∧
 (I64 (v3+r2)) ∧
 (v3+r2)=ra∧(decide (0≤r2))=rb):zhk rank s ra rb:=by
 intro S
 rw[za zvO _ _ rfl]
 have F:=zxZ
 obtain⟨p1,v1,q2,r2,q3,p4,v3,q5,p6,rfl,rfl⟩:=T
 replace q2:=congrArg (Option.map eLS) q2
 rw[←List.getElem?_map] at q2
 simp only[le,List.map_append,Option.map_some] at q2
 simp only[zL,lF] at q3
 replace q5:=congrArg (Option.map eI) q5
 rw[←List.getElem?_map] at q5
 simp only[le,List.map_append,Option.map_some] at q5
 exact fi (aa p1<|aa q2<|aa q3<|aa p4<|aa q5<|aa p6.wrap<|F)
theorem zdn:SP 62=some (.code sc_slices_Index_string_string):=zb rfl Tryz.func62 comp_slices_Index_string_string
def zF (s:List (List UInt8)) (v:List UInt8) (i1:Int) (r:Int):Prop:=∀ (S:Sto) (e:Nat→PV) (f:Fr),e 0=.list 1 (s.map eS) false∧e 1=.str v∧e 7=.int .i64 (s.length:Int)∧e 8=.int .i64 i1→zbj SP (E SP (.loop b_slices_Index_string_string_1) ⟨e,f::S⟩)=.ok (.v (.int .i64 r)) S
theorem zz (s:List (List UInt8)) (v:List UInt8) (i1:Int) (r:Int) (T :
  ((i1 < (s.length:Int)) →
  (0≤i1) ∧
  ∃ (v2:List UInt8),(s[i1.toNat]?=some v2) ∧
  ((v=v2) →
   i1=r) ∧
  (¬ (v=v2) →
   (I64 (i1+1)) ∧
   zF s v (i1+1) r)) ∧
 (¬ (i1 < (s.length:Int)) →
  (-1)=r)):zF s v i1 r:=by
 intro S e f h
 unfold zbj
 rw[zo]
 have F:=zbA
 exact rn (aa h<|F) T
theorem zbc (s:List (List UInt8)) (v:List UInt8) (r:Int) (T :
  zF s v 0 r):zL s v r:=by
 intro S
 rw[za zdn _ _ rfl]
 have F:=zbA
 exact rn F T
theorem zwK:SP 202=some (.code sc_Q202):=zb rfl Tryz.func202 comp_Q202
theorem zsi (x:PExprs) (x_g2:Nat) (x_z2:Bool) (kind:Int) (n:Int) (r:Int) (x':PExprs) (x'_g2:Nat) (x'_z2:Bool) (T :
  ∃ (r1:Int) (y2:PExprs) (g3:Nat) (z4:Bool),(zao x x_g2 x_z2 kind [] [] r1 y2 g3 z4) ∧
 (0≤r1)∧(r1.toNat < y2.out.length) ∧
 (z4=false) ∧
 ∃ (v5:Node),(y2.out[r1.toNat]?=some v5) ∧
 r1=r∧(PExprs.mk y2.tokens (y2.out.set r1.toNat (Node.mk v5.Kind n v5.Text v5.Parts v5.Kids)) y2.deep)=x'∧g3=x'_g2∧z4=x'_z2):zdV x x_g2 x_z2 kind n r x' x'_g2 x'_z2:=by
 intro S n0 t0 H0
 obtain⟨hb0,ha0⟩:=H0
 obtain⟨w0,hB0⟩:=zh hb0
 have hn0:=zc hB0
 rw[za zwK _ _ rfl]
 have F:=zxO
 exact rp n0 t0 (aa ha0<|aa hB0<|aa hn0<|F) T
theorem zwQ:SP 201=some (.code sc_Q201):=zb rfl Tryz.func201 comp_Q201
theorem zbC (x:PExprs) (x_g2:Nat) (x_z2:Bool) (o:Option Int) (r:Int) (x':PExprs) (x'_g2:Nat) (x'_z2:Bool) (T :
  ∃ (o2:Option Int) (r1:List UInt8) (y3:PTokens),(zeQ x.tokens o2 r1 y3) ∧
 (match o2 with
 | none=>(((r1=[116,114,117,101]) →
   ∃ (r5:Int) (y6:PExprs) (g7:Nat) (z8:Bool),(zdV (PExprs.mk y3 x.out x.deep) x_g2 x_z2 3 1 r5 y6 g7 z8) ∧
   none=o∧r5=r∧y6=x'∧g7=x'_g2∧z8=x'_z2) ∧
  (¬ (r1=[116,114,117,101]) →
   ((r1=[102,97,108,115,101]) →
    ∃ (r9:Int) (y10:PExprs) (g11:Nat) (z12:Bool),(zdV (PExprs.mk y3 x.out x.deep) x_g2 x_z2 3 0 r9 y10 g11 z12) ∧
    none=o∧r9=r∧y10=x'∧g11=x'_g2∧z12=x'_z2) ∧
   (¬ (r1=[102,97,108,115,101]) →
    ∃ (r13:Bool) (y14:PTokens),(zei y3 [46] r13 y14) ∧
    ((r13=true) →
     (r1.length+1≤zd) ∧
     ∃ (o16:Option Int) (r15:List UInt8) (y17:PTokens),(zeQ y14 o16 r15 y17) ∧
     (match o16 with
     | none=>((r1.length+1+r15.length≤zd) ∧
      ∃ (r19:Int) (y20:PExprs) (g21:Nat) (z22:Bool),(zao (PExprs.mk y17 x.out x.deep) x_g2 x_z2 4 ((r1++[46])++r15) [] r19 y20 g21 z22) ∧
      none=o∧r19=r∧y20=x'∧g21=x'_g2∧z22=x'_z2)
     | some e18=>(some e18=o∧(PExprs.mk y17 x.out x.deep)=x'∧x_g2=x'_g2∧x_z2=x'_z2))) ∧
    (¬ (r13=true) →
     ∃ (o23:Option Int) (y24:PExprs) (g25:Nat) (z26:Bool),(zaI (PExprs.mk y14 x.out x.deep) x_g2 x_z2 [40] o23 y24 g25 z26) ∧
     (match o23 with
     | none=>(∃ (o29:Option Int) (r28:List Int) (y30:PExprs) (g31:Nat) (z32:Bool),(zeT y24 g25 z26 [41] o29 r28 y30 g31 z32) ∧
      (match o29 with
      | none=>(∃ (r34:Int) (y35:PExprs) (g36:Nat) (z37:Bool),(zao y30 g31 z32 5 r1 r28 r34 y35 g36 z37) ∧
       none=o∧r34=r∧y35=x'∧g36=x'_g2∧z37=x'_z2)
      | some e33=>(some e33=o∧y30=x'∧g31=x'_g2∧z32=x'_z2)))
     | some e27=>(some e27=o∧y24=x'∧g25=x'_g2∧z26=x'_z2))))))
 | some e4=>(some e4=o∧(PExprs.mk y3 x.out x.deep)=x'∧x_g2=x'_g2∧x_z2=x'_z2))):zjm x x_g2 x_z2 o r x' x'_g2 x'_z2:=by
 intro S n0 t0 H0
 obtain⟨hb0,ha0⟩:=H0
 obtain⟨w0,hB0⟩:=zh hb0
 have hn0:=zc hB0
 rw[za zwQ _ _ rfl]
 have F:=zy4
 obtain⟨o2,r1,y3,q1,T⟩:=T
 simp only[zeQ,lF] at q1
 replace F:=aa ha0<|aa hB0<|aa hn0<|aa q1<|F
 cases o2 with
 | none =>
   dsimp only at T
   by_cases c2:r1=[116,114,117,101]
   ·replace T:=T.1 c2
    obtain⟨r5,y6,g7,z8,q3,rfl,rfl,rfl,rfl,rfl⟩:=T
    simp only[zdV,lF] at q3
    exact fi (aa (eq_true c2)<|aa q3<|F)
   replace T:=T.2 c2
   replace F:=aa (eq_false c2)<|F
   by_cases c4:r1=[102,97,108,115,101]
   ·replace T:=T.1 c4
    obtain⟨r9,y10,g11,z12,q5,rfl,rfl,rfl,rfl,rfl⟩:=T
    simp only[zdV,lF] at q5
    exact fi (aa (eq_true c4)<|aa q5<|F)
   replace T:=T.2 c4
   obtain⟨r13,y14,q6,T⟩:=T
   simp only[zei,lF] at q6
   replace F:=aa (eq_false c4)<|aa q6<|F
   by_cases c7:r13=true
   ·replace T:=T.1 c7
    obtain⟨p8,o16,r15,y17,q9,T⟩:=T
    simp only[zeQ,lF] at q9
    replace F:=aa c7<|aa p8<|aa q9<|F
    cases o16 with
    | none =>
      dsimp only at T
      obtain⟨p10,r19,y20,g21,z22,q11,rfl,rfl,rfl,rfl,rfl⟩:=T
      simp only[zao,lF] at q11
      exact fi (aa p10<|aa q11<|F)
    | some e18 =>
      dsimp only at T
      obtain⟨rfl,rfl,rfl,rfl⟩:=T
      exact fi F
   replace T:=T.2 c7
   replace c7:=Bool.eq_false_iff.2 c7
   obtain⟨o23,y24,g25,z26,q12,T⟩:=T
   simp only[zaI,lF] at q12
   replace F:=aa c7<|aa q12<|F
   cases o23 with
   | none =>
     dsimp only at T
     obtain⟨o29,r28,y30,g31,z32,q13,T⟩:=T
     simp only[zeT,lF] at q13
     replace F:=aa q13<|F
     cases o29 with
     | none =>
       dsimp only at T
       obtain⟨r34,y35,g36,z37,q14,rfl,rfl,rfl,rfl,rfl⟩:=T
       simp only[zao,lF] at q14
       exact fi (aa q14<|F)
     | some e33 =>
       dsimp only at T
       obtain⟨rfl,rfl,rfl,rfl⟩:=T
       exact fi F
   | some e27 =>
     dsimp only at T
     obtain⟨rfl,rfl,rfl,rfl⟩:=T
     exact fi F
 | some e4 =>
   dsimp only at T
   obtain⟨rfl,rfl,rfl,rfl⟩:=T
   exact fi F
theorem zwJ:SP 180=some (.code sc_Q180):=zb rfl Tryz.func180 comp_Q180
theorem zaE (x:PExprs) (x_g2:Nat) (x_z2:Bool) (o:Option Int) (r:Int) (x':PExprs) (x'_g2:Nat) (x'_z2:Bool) (T :
  ∃ (r1:Token) (y2:PTokens),(zbv x.tokens r1 y2) ∧
 ((r1.Kind=3) →
  ∃ (o4:Option Int) (r3:Int) (y5:PExprs) (g6:Nat) (z7:Bool),(zjm (PExprs.mk y2 x.out x.deep) x_g2 x_z2 o4 r3 y5 g6 z7) ∧
  (match o4 with
  | none=>(none=o∧r3=r∧y5=x'∧g6=x'_g2∧z7=x'_z2)
  | some e8=>(some e8=o∧y5=x'∧g6=x'_g2∧z7=x'_z2))) ∧
 (¬ (r1.Kind=3) →
  ((r1.Kind=1) →
   (I64 (y2.pos+1)) ∧
   ∃ (r9:Int) (y10:PExprs) (g11:Nat) (z12:Bool),(zdV (PExprs.mk (PTokens.mk y2.l (y2.pos+1)) x.out x.deep) x_g2 x_z2 1 r1.Num r9 y10 g11 z12) ∧
   none=o∧r9=r∧y10=x'∧g11=x'_g2∧z12=x'_z2) ∧
  (¬ (r1.Kind=1) →
   ((r1.Kind=2) →
    (I64 (y2.pos+1)) ∧
    ∃ (r13:Int) (y14:PExprs) (g15:Nat) (z16:Bool),(zao (PExprs.mk (PTokens.mk y2.l (y2.pos+1)) x.out x.deep) x_g2 x_z2 2 [] [] r13 y14 g15 z16) ∧
    (0≤r13)∧(r13.toNat < y14.out.length) ∧
    (z16=false) ∧
    ∃ (v17:Node),(y14.out[r13.toNat]?=some v17) ∧
    none=o∧r13=r∧(PExprs.mk y14.tokens (y14.out.set r13.toNat (Node.mk v17.Kind v17.Num v17.Text r1.Parts v17.Kids)) y14.deep)=x'∧g15=x'_g2∧z16=x'_z2) ∧
   (¬ (r1.Kind=2) →
    ∃ (r18:Bool) (y19:PTokens),(zas y2 [91] r18 y19) ∧
    ((r18=true) →
     ∃ (o20:Option Int) (y21:PExprs) (g22:Nat) (z23:Bool),(zaI (PExprs.mk y19 x.out x.deep) x_g2 x_z2 [91] o20 y21 g22 z23) ∧
     (match o20 with
     | none=>(∃ (o26:Option Int) (r25:List Int) (y27:PExprs) (g28:Nat) (z29:Bool),(zeT y21 g22 z23 [93] o26 r25 y27 g28 z29) ∧
      (match o26 with
      | none=>(∃ (r31:Int) (y32:PExprs) (g33:Nat) (z34:Bool),(zao y27 g28 z29 6 [] r25 r31 y32 g33 z34) ∧
       none=o∧r31=r∧y32=x'∧g33=x'_g2∧z34=x'_z2)
      | some e30=>(some e30=o∧y27=x'∧g28=x'_g2∧z29=x'_z2)))
     | some e24=>(some e24=o∧y21=x'∧g22=x'_g2∧z23=x'_z2))) ∧
    (¬ (r18=true) →
     ∃ (o35:Option Int) (y36:PExprs) (g37:Nat) (z38:Bool),(zaI (PExprs.mk y19 x.out x.deep) x_g2 x_z2 [40] o35 y36 g37 z38) ∧
     (match o35 with
     | none=>(∃ (o41:Option Int) (r40:Int) (y42:PExprs) (g43:Nat) (z44:Bool),(zbh y36 g37 z38 o41 r40 y42 g43 z44) ∧
      (match o41 with
      | none=>(∃ (o46:Option Int) (y47:PExprs) (g48:Nat) (z49:Bool),(zce y42 g43 z44 [41] o46 y47 g48 z49) ∧
       (match o46 with
       | none=>(none=o∧r40=r∧y47=x'∧g48=x'_g2∧z49=x'_z2)
       | some e50=>(some e50=o∧y47=x'∧g48=x'_g2∧z49=x'_z2)))
      | some e45=>(some e45=o∧y42=x'∧g43=x'_g2∧z44=x'_z2)))
     | some e39=>(some e39=o∧y36=x'∧g37=x'_g2∧z38=x'_z2))))))):zhc x x_g2 x_z2 o r x' x'_g2 x'_z2:=by
 intro S n0 t0 H0
 obtain⟨hb0,ha0⟩:=H0
 obtain⟨w0,hB0⟩:=zh hb0
 have hn0:=zc hB0
 rw[za zwJ _ _ rfl]
 have F:=zyH
 obtain⟨r1,y2,q1,T⟩:=T
 simp only[zbv,lF] at q1
 replace F:=aa ha0<|aa hB0<|aa hn0<|aa q1<|F
 by_cases c2:r1.Kind=3
 ·replace T:=T.1 c2
  obtain⟨o4,r3,y5,g6,z7,q3,T⟩:=T
  simp only[zjm,lF] at q3
  replace F:=aa (eq_true c2)<|aa q3<|F
  cases o4 with
  | none =>
    dsimp only at T
    obtain⟨rfl,rfl,rfl,rfl,rfl⟩:=T
    exact fi F
  | some e8 =>
    dsimp only at T
    obtain⟨rfl,rfl,rfl,rfl⟩:=T
    exact fi F
 replace T:=T.2 c2
 replace F:=aa (eq_false c2)<|F
 by_cases c4:r1.Kind=1
 ·replace T:=T.1 c4
  obtain⟨p5,r9,y10,g11,z12,q6,rfl,rfl,rfl,rfl,rfl⟩:=T
  simp only[zdV,lF] at q6
  exact fi (aa (eq_true c4)<|aa p5.wrap<|aa q6<|F)
 replace T:=T.2 c4
 replace F:=aa (eq_false c4)<|F
 by_cases c7:r1.Kind=2
 ·replace T:=T.1 c7
  obtain⟨p8,r13,y14,g15,z16,q9,p10,p11,p12,v17,q13,rfl,rfl,rfl,rfl,rfl⟩:=T
  simp only[zao,lF] at q9
  exact fi (aa (eq_true c7)<|aa p8.wrap<|aa q9<|aa p10<|aa p11<|aa p12<|aa q13<|F)
 replace T:=T.2 c7
 obtain⟨r18,y19,q14,T⟩:=T
 simp only[zas,lF] at q14
 replace F:=aa (eq_false c7)<|aa q14<|F
 by_cases c15:r18=true
 ·replace T:=T.1 c15
  obtain⟨o20,y21,g22,z23,q16,T⟩:=T
  simp only[zaI,lF] at q16
  replace F:=aa c15<|aa q16<|F
  cases o20 with
  | none =>
    dsimp only at T
    obtain⟨o26,r25,y27,g28,z29,q17,T⟩:=T
    simp only[zeT,lF] at q17
    replace F:=aa q17<|F
    cases o26 with
    | none =>
      dsimp only at T
      obtain⟨r31,y32,g33,z34,q18,rfl,rfl,rfl,rfl,rfl⟩:=T
      simp only[zao,lF] at q18
      exact fi (aa q18<|F)
    | some e30 =>
      dsimp only at T
      obtain⟨rfl,rfl,rfl,rfl⟩:=T
      exact fi F
  | some e24 =>
    dsimp only at T
    obtain⟨rfl,rfl,rfl,rfl⟩:=T
    exact fi F
 replace T:=T.2 c15
 replace c15:=Bool.eq_false_iff.2 c15
 obtain⟨o35,y36,g37,z38,q19,T⟩:=T
 simp only[zaI,lF] at q19
 replace F:=aa c15<|aa q19<|F
 cases o35 with
 | none =>
   dsimp only at T
   obtain⟨o41,r40,y42,g43,z44,q20,T⟩:=T
   simp only[zbh,lF] at q20
   replace F:=aa q20<|F
   cases o41 with
   | none =>
     dsimp only at T
     obtain⟨o46,y47,g48,z49,q21,T⟩:=T
     simp only[zce,lF] at q21
     replace F:=aa q21<|F
     cases o46 with
     | none =>
       dsimp only at T
       obtain⟨rfl,rfl,rfl,rfl,rfl⟩:=T
       exact fi F
     | some e50 =>
       dsimp only at T
       obtain⟨rfl,rfl,rfl,rfl⟩:=T
       exact fi F
   | some e45 =>
     dsimp only at T
     obtain⟨rfl,rfl,rfl,rfl⟩:=T
     exact fi F
 | some e39 =>
   dsimp only at T
   obtain⟨rfl,rfl,rfl,rfl⟩:=T
   exact fi F
theorem zyL:SP 41=some (.code sc_Q41):=zb rfl Tryz.func41 comp_Q41
theorem zos (x:PExprs) (x_g2:Nat) (x_z2:Bool) (o:Option Int) (r:List Node) (x':PExprs) (x'_g2:Nat) (x'_z2:Bool) (T :
  ∃ (o2:Option Int) (r1:Int) (y3:PExprs) (g4:Nat) (z5:Bool),(zbh (PExprs.mk x.tokens [] x.deep) (x_g2+1) false o2 r1 y3 g4 z5) ∧
 (match o2 with
 | none=>(none=o∧y3.out=r∧y3=x'∧g4=x'_g2∧true=x'_z2)
 | some e6=>(some e6=o∧y3=x'∧g4=x'_g2∧z5=x'_z2))):zjo x x_g2 x_z2 o r x' x'_g2 x'_z2:=by
 intro S n0 t0 H0
 obtain⟨hb0,ha0⟩:=H0
 obtain⟨w0,hB0⟩:=zh hb0
 have hn0:=zc hB0
 rw[za zyL _ _ rfl]
 have F:=zzl
 obtain⟨o2,r1,y3,g4,z5,q1,T⟩:=T
 simp only[zbh,lF] at q1
 replace F:=aa ha0<|aa hB0<|aa hn0<|aa q1<|F
 cases o2 with
 | none =>
   dsimp only at T
   obtain⟨rfl,rfl,rfl,rfl,rfl⟩:=T
   exact fi F
 | some e6 =>
   dsimp only at T
   obtain⟨rfl,rfl,rfl,rfl⟩:=T
   exact fi F
end Go.Proofs.YtfbcnpbhhooapaaGreatDoor.M

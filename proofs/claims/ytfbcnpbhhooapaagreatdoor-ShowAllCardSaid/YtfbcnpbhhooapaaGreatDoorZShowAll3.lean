/- Parts of a proof, one behind another: Bk2, Bk3, X0, R, R2, Sc12, Lt12, Sc13, Lt13. -/
import Derived.Test.YtfbcnpbhhooapaaGreatDoorZShowAll2
import Derived.KernelRfl
import Derived.Test.YtfbcnpbhhooapaaGreatDoorProg
set_option maxHeartbeats 4000000
namespace Go.Proofs.YtfbcnpbhhooapaaGreatDoor.Bk
open Go Go.RowKit Go.Shelf
attribute [local go_sem] Oper.semAt_some
def run (o:Int→Int):Int→List Int→Int
 | f,[]=>f
 | f,k::ks=>if k < 0∨k≠f - 1 then -1 else if o k < 0 then -1 else run o (o k) ks
theorem upto_snd (zs:List Int):∀ k,k≤zs.length→(upto (bk zs) k).map (·.2)=zs.reverse.take k
 | 0,_=>by simp[upto]
 | k+1,h=>by
  rw[upto_succ,List.map_append,upto_snd zs k (by omega),List.take_add_one,List.getElem?_reverse (by omega)]
  have:zs.length - 1 - k < zs.length:=by omega
  simp[bk,this]
theorem keeps_below {W W':World} (h:Below W.heap.size W W'):KeepsOthers W W':=⟨h.size,fun j o hj _=>by
 rw[h.block j (Array.getElem?_eq_some_iff.1 hj).1];exact hj⟩
structure Bx (w:World) (lv r:Value) (nd:Array Value) (W:World):Prop where
 below:Below w.heap.size w W
 size:w.heap.size+3≤W.heap.size
 h2:W.heap[w.heap.size]?=some (.cells #[lv] 35 (0,0))
 h4:W.heap[w.heap.size+1]?=some (.cells #[r] 3 (0,0))
 h5:W.heap[w.heap.size+2]?=some (.cells nd 41 (0,0))
theorem Bx.on {w:World} {lv r:Value} {nd:Array Value} {W W':World} (h:Bx w lv r nd W) (hb:Below (w.heap.size+3) W W'):Bx w lv r nd W' :=
 ⟨h.below.trans (hb.mono (by omega)),Nat.le_trans h.size hb.size,(hb.block _ (by omega)).trans h.h2,(hb.block _ (by omega)).trans h.h4,(hb.block _ (by omega)).trans h.h5⟩
theorem Bx.c2 {w:World} {lv r:Value} {nd:Array Value} {W:World} (h:Bx w lv r nd W):W.cell? ⟨w.heap.size,0,none⟩=some lv:=by simp[World.cell?,h.h2]
theorem Bx.c4 {w:World} {lv r:Value} {nd:Array Value} {W:World} (h:Bx w lv r nd W):W.cell? ⟨w.heap.size+1,0,none⟩=some r:=by simp[World.cell?,h.h4]
theorem Bx.f4 {w:World} {lv r:Value} {nd:Array Value} {W:World} (h:Bx w lv r nd W):W.frozen? ⟨w.heap.size+1,0,none⟩=false:=by simp[World.frozen?,h.h4]
theorem Bx.c5 {w:World} {lv r:Value} {nd:Array Value} {W:World} (h:Bx w lv r nd W) (j:Nat):W.cell? ⟨w.heap.size+2,j,none⟩=nd[j]?:=by simp[World.cell?,h.h5]
theorem Bx.new (w:World) (lv r:Value) (nd:Array Value):Bx w lv r nd (((w.alloc (.cells #[lv] 35)).alloc (.cells #[r] 3)).alloc (.cells nd 41)):=by
 refine⟨(((Below.refl _ w).alloc (Nat.le_refl _) _).alloc (by simp) _).alloc (by simp;omega) _,by simp,?_,?_,?_⟩
 ·exact (Below.heap_alloc _ _ _ (by simp;omega)).trans ((Below.heap_alloc _ _ _ (by simp)).trans (World.alloc_heap_new w _))
 ·refine (Below.heap_alloc _ _ _ (by simp)).trans ?_
  have:=World.alloc_heap_new (w.alloc (.cells #[lv] 35)) (.cells #[r] 3)
  rwa [World.size_alloc] at this
 have:=World.alloc_heap_new ((w.alloc (.cells #[lv] 35)).alloc (.cells #[r] 3)) (.cells nd 41)
 rwa [World.size_alloc,World.size_alloc] at this
structure Ls (w:World) (bf:Nat) (lv sv:Value) (r f:Int) (W:World):Prop where
 below:Below w.heap.size w W
 lt:w.heap.size+2 < bf
 l:Boxed W w.heap.size 35 lv
 r:Boxed W (w.heap.size+1) 3 (.int .i64 r)
 f:Boxed W bf 3 (.int .i64 f)
 s:Boxed W (bf+1) 39 sv
theorem Ls.own {w:World} {bf:Nat} {lv sv:Value} {r f:Int} {W W':World} {B:Nat} {row:Option Nat} (h:Ls w bf lv sv r f W) (hB:w.heap.size≤B) (hg:W.grownBy W' row) (hr:∀ r,row=some r→B≤r∧∃ o:Obj,W.heap[r]?=some o∧o.isCells=false):Ls w bf lv sv r f W':=by
 have hb:∀ (B:Nat) (t:TypeId) (v:Value),Boxed W B t v→Boxed W' B t v:=fun B t v h=>h.kept hg (fun e=>by
  obtain⟨_,o,ho,hc⟩:=hr B e.symm
  rw[show W.heap[B]?=_ from h] at ho;cases ho;cases hc)
 exact⟨h.below.grown hg h.below.size (fun k e=>Nat.le_trans hB (hr k e).1),h.lt,hb _ _ _ h.l,hb _ _ _ h.r,hb _ _ _ h.f,hb _ _ _ h.s⟩
theorem Ls.setR {w:World} {bf:Nat} {lv sv:Value} {r f:Int} {W:World} (h:Ls w bf lv sv r f W) (r':Int):Ls w bf lv sv r' f (W.setCell ⟨w.heap.size+1,0,none⟩ (.int .i64 r')) :=
 have hl:=h.lt
 ⟨h.below.setCell (p:=⟨w.heap.size+1,0,none⟩) (by simp) _,h.lt,h.l.other (by omega) _,h.r.set _,h.f.other (by omega) _,h.s.other (by omega) _⟩
theorem Ls.setF {w:World} {bf:Nat} {lv sv:Value} {r f:Int} {W:World} (h:Ls w bf lv sv r f W) (f':Int):Ls w bf lv sv r f' (W.setCell ⟨bf,0,none⟩ (.int .i64 f')) :=
 have hl:=h.lt
 ⟨h.below.setCell (p:=⟨bf,0,none⟩) (by simp;omega) _,h.lt,h.l.other (by omega) _,h.r.other (by omega) _,h.f.set _,h.s.other (by omega) _⟩
theorem Ls.on {w:World} {bf:Nat} {lv sv:Value} {r f:Int} {W W':World} (h:Ls w bf lv sv r f W) (hb:Below W.heap.size W W'):Ls w bf lv sv r f W' :=
 have k:∀ (B:Nat) (t:TypeId) (v:Value),Boxed W B t v→Boxed W' B t v:=fun B t v h=>(hb.block B h.lt).trans h
 ⟨h.below.trans (hb.mono h.below.size),h.lt,k _ _ _ h.l,k _ _ _ h.r,k _ _ _ h.f,k _ _ _ h.s⟩
theorem Ls.kq {w:World} {bf:Nat} {lv sv:Value} {r f r' f':Int} {W W':World} (h:Ls w bf lv sv r f W) (h':Ls w bf lv sv r' f' W') (hb:Below w.heap.size W W'):Kq w.heap.size (bf+1) W W':=⟨hb,(show W'.heap[bf+1]?=_ from h'.s).trans (show W.heap[bf+1]?=_ from h.s).symm⟩
def LI (w:World) (bf:Nat) (lv sv:Value) (o:Int→Int) (e:Nat) (pre:List (Int × Int)) (W:World):Prop:=∃ f:Int,Ls w bf lv sv 0 f W∧0≤f∧f≤e∧∀ rest,run o e (pre.map (·.2)++rest)=run o f rest
def LX (w:World) (bf:Nat) (lv sv:Value) (o:Int→Int) (e:Nat) (c:Code) (pre:List (Int × Int)) (W:World):Prop:=∃ f:Int,Ls w bf lv sv (-1) f W∧c=.ret∧∀ rest,run o e (pre.map (·.2)++rest)=-1
theorem LI.own {w:World} {bf:Nat} {lv sv:Value} {o:Int→Int} {e B:Nat} (hB:w.heap.size≤B):OwnFrom B (LI w bf lv sv o e):=fun s W W' row ⟨f,h1,h2⟩ hg hr=>⟨f,h1.own hB hg hr,h2⟩
theorem LX.own {w:World} {bf:Nat} {lv sv:Value} {o:Int→Int} {e B:Nat} (hB:w.heap.size≤B) (c:Code):OwnFrom B (LX w bf lv sv o e c):=fun s W W' row ⟨f,h1,h2⟩ hg hr=>⟨f,h1.own hB hg hr,h2⟩
set_option maxRecDepth 100000 in
theorem begin_in (w:World) (bl ol ln cp e:Nat) (kind num:Int) (text:ByteArray) (A3 A4:Option Addr) (l3 c3 l4 c4:Nat) (ks:List Int) (kk:Int) (pp:Bool) (o:Int→Int) (res:Int)
  (hbl:bl < w.heap.size) (he:e < ln) (hln:ln≤1000000000) (hlc:ln≤cp)
  (q0:w.cell? ⟨bl,ol+e*5,none⟩=some (.int .i64 kind)) (q1:w.cell? ⟨bl,ol+e*5+1,none⟩=some (.int .i64 num)) (q2:w.cell? ⟨bl,ol+e*5+2,none⟩=some (.string text)) (q3:w.cell? ⟨bl,ol+e*5+3,none⟩=some (.slice A3 l3 c3)) (q4:w.cell? ⟨bl,ol+e*5+4,none⟩=some (.slice A4 l4 c4))
  (hl4:l4=ks.length) (hks:Ints w.heap.size w (.slice A4 l4 c4) ks) (hreach:ks.length≤1000000000)
  (hK:∀ W,Below w.heap.size w W→Calls Tryz.prog 73 #[.int .i64 kind] W fun x W'=>x=.returned (.int .i64 kk)∧Below W.heap.size W W')
  (hP:(kk=ks.length∨kk=-1)→∀ W,Below w.heap.size w W→Calls Tryz.prog 74 #[.agg #[.int .i64 kind,.int .i64 num,.string text,.slice A3 l3 c3,.slice A4 l4 c4]] W fun x W'=>x=.returned (.bool pp)∧Below W.heap.size W W')
  (hB:(kk=ks.length∨kk=-1)→pp=true→∀ k:Int,0≤k→k < e→o k≤k∧∀ W,Below w.heap.size w W→Calls Tryz.prog 47 #[.slice (some ⟨bl,ol,none⟩) ln cp,.int .i64 k] W fun x W'=>x=.returned (.int .i64 (o k))∧Below W.heap.size W W')
  (hr:res=if (kk≠ks.length∧kk≠-1)∨pp=false then -1 else run o e ks.reverse) :
  Calls Tryz.prog 47 #[.slice (some ⟨bl,ol,none⟩) ln cp,.int .i64 (e:Int)] w fun x w' =>
   x=.returned (.int .i64 res)∧Below w.heap.size w w':=by
 subst hl4
 refine (callsIn_wide (n:=9)).1 ?_
 refine callsIn_of_wp_marks Tryz.func47 rfl trivial ?_ rfl
 simp only[Tryz.ntmps47,List.size_toArray,List.length_cons,List.length_nil,Nat.reduceAdd,Nat.reduceSub,Array.replicate_succ,Array.replicate_zero,List.push_toArray,List.append_toArray,List.nil_append,List.cons_append]
 gi_wp2
 refine⟨trivial,?_⟩
 have hx0:=Bx.new w (.slice (some ⟨bl,ol,none⟩) ln cp) (.int .i64 0) #[.int .i64 kind,.int .i64 num,.string text,.slice A3 l3 c3,.slice A4 ks.length c4]
 refine (callsIn_wide.2 (hK _ hx0.below)).mono ?_
 rintro x w1 ⟨rfl,hb1⟩
 have hx1:=hx0.on (hb1.mono (by simp))
 have a2:=hx1.c2
 have a4:=hx1.c4
 have f4:=hx1.f4
 have a50:=hx1.c5 0
 have a51:=hx1.c5 1
 have a52:=hx1.c5 2
 have a53:=hx1.c5 3
 have a54:=hx1.c5 4
 simp only[List.getElem?_toArray,List.getElem?_cons_zero,List.getElem?_cons_succ] at a50 a51 a52 a53 a54
 gi_wp2
 ·refine⟨trivial,?_⟩
  refine ((callsIn_wide (n:=8)).2 (hP (.inl (by assumption)) w1 hx1.below)).mono ?_
  rintro x w2 ⟨rfl,hb2⟩
  have hx2:=hx1.on (hb2.mono hx1.size)
  have d2:=hx2.c2
  have d4:=hx2.c4
  have g4:=hx2.f4
  have d54:=hx2.c5 4
  simp only[List.getElem?_toArray,List.getElem?_cons_zero,List.getElem?_cons_succ] at d54
  cases pp with
  | false =>
   gi_wp2
   have hb4:Boxed w2 (w.heap.size+1) 3 (.int .i64 0):=hx2.h4
   have hc5:=(hb4.set (.int .i64 (-1))).cell
   refine⟨.int .i64 (-1),?_,by rw[hr];simp,hx2.below.setCell (p:=⟨w.heap.size+1,0,none⟩) (by simp) _⟩
   simp[results,Tryz.f47,go_sem,hc5]
  | true =>
   have hx3:=hx2.on (((Below.refl _ w2).alloc hx2.size (.cells #[.int .i64 (e:Int)] 3)))
   have hz:w.heap.size+1+1 < w2.heap.size:=by have:=hx2.size;omega
   have e54:=hx3.c5 4
   simp only[List.getElem?_toArray,List.getElem?_cons_zero,List.getElem?_cons_succ] at e54
   gi_wp2
   refine⟨trivial,?_⟩
   refine (backward_in Fence.wide 8 trivial rfl A4 ks.length c4 _).mono ?_
   rintro x w4 ⟨rfl,rfl⟩
   gi_wp2
   have hW2:=hx2.below.size
   have hz2:=hx2.size
   obtain⟨W0,hW0⟩:∃ W0,(w2.alloc (.cells #[.int .i64 (e:Int)] 3)).alloc (.cells #[.slice A4 ks.length c4] 39)=W0:=⟨_,rfl⟩
   have hs0:W0.heap.size=w2.heap.size+2:=by rw[←hW0];simp
   have hK0:Boxed W0 (w2.heap.size+1) 39 (.slice A4 ks.length c4):=by
    rw[←hW0]
    have:=Boxed.new (w2.alloc (.cells #[.int .i64 (e:Int)] 3)) 39 (.slice A4 ks.length c4)
    rwa [World.size_alloc] at this
   have hF0:Boxed W0 w2.heap.size 3 (.int .i64 (e:Int)):=by
    rw[←hW0]
    exact (Boxed.new w2 3 (.int .i64 (e:Int))).alloc _
   have hb0:Below w2.heap.size w2 W0:=by
    rw[←hW0]
    exact ((Below.refl _ w2).alloc (Nat.le_refl _) _).alloc (by simp) _
   have hx4:=hx2.on (hb0.mono hz2)
   have hL0:Ls w w2.heap.size (.slice (some ⟨bl,ol,none⟩) ln cp) (.slice A4 ks.length c4) 0 e W0:=⟨hx4.below,by omega,hx4.h2,hx4.h4,hF0,hK0⟩
   rw[hW0]
   refine wpIn_rangeFunc_ownG (w0:=W0) rfl (by decide) (gf:=117) (lb:=#[.pointer (some ⟨w2.heap.size+1,0,none⟩)]) rfl trivial (enters_of Tryz.func117 (by kernel_rfl) rfl)
    (back_stops Fence.wide 8 trivial rfl (by decide) (w2.heap.size+1) w.heap.size _ ks (by omega) W0 (by omega) (by omega) hK0.cell (hks.below hx4.below)) (fun h k=>Kq.trans h k) (fun W l o o'=>Kq.put (by omega) (by omega) W l o o') (Below.refl _ _) (fun _=>rfl)
    (LI w w2.heap.size (.slice (some ⟨bl,ol,none⟩) ln cp) (.slice A4 ks.length c4) o e)
    (LX w w2.heap.size (.slice (some ⟨bl,ol,none⟩) ln cp) (.slice A4 ks.length c4) o e)
    (LI.own (by omega)) (LX.own (by omega)) ⟨e,hL0,by omega,by omega,fun rest=>rfl⟩ ?a1 ?assign ?body ?done ?stop
   case assign =>
    intro l x W K hK
    gi_wp2
    exact hK
   case body =>
    rintro l pre ⟨x1,x2⟩ W ⟨f,hL,hf0,hfe,hrun⟩ _
    have b2:=hL.l.cell
    have b4:=hL.r.cell
    have b4f:=hL.r.frozen
    have b7:=hL.f.cell
    have b7f:=hL.f.frozen
    have stop:(x2 < 0∨x2≠f - 1)→∀ rest,run o e ((pre++[(x1,x2)]).map (·.2)++rest)=-1:=fun h rest=>by
     rw[List.map_append,List.append_assoc,hrun]
     simp only[List.map_cons,List.map_nil,List.cons_append,List.nil_append,run]
     rw[if_pos h]
    gi_wp2
    ·have hq:x2 < 0∨(x2 != f - 1)=true:=by assumption
     exact⟨(KeepsOthers.setCell _ _ _).from _,f,hL.setR _,rfl,stop (by simpa using hq)⟩
    ·have hq:0≤x2∧(x2 != f - 1)=false:=by assumption
     have hx:x2=f - 1:=by simpa using hq.2
     have h0:0≤x2:=hq.1
     clear hq
     subst hx
     obtain⟨ho,hc⟩:=hB (.inl (by assumption)) (by trivial) (f - 1) h0 (by omega)
     refine⟨trivial,?_⟩
     refine (CallsIn.inRound l ((callsIn_wide (n:=6)).2 (hc W hL.below))).mono ?_
     rintro y W5 ⟨rfl,hb5⟩
     have hL5:=hL.on hb5
     have hL6:=hL5.setF (o (f - 1))
     have c7:=hL5.f.cell
     have c7f:=hL5.f.frozen
     have c8:=hL6.f.cell
     have c4:=hL6.r.cell
     have c45:=hL5.r.cell
     have c4g:=hL5.r.frozen
     have c4f:=hL6.r.frozen
     have go:∀ rest,run o e ((pre++[(x1,f - 1)]).map (·.2)++rest)=if o (f - 1) < 0 then -1 else run o (o (f - 1)) rest:=fun rest=>by
      rw[List.map_append,List.append_assoc,hrun]
      simp only[List.map_cons,List.map_nil,List.cons_append,List.nil_append,run]
      rw[if_neg (by omega)]
     have keep:KeepsOthers W (W5.setCell ⟨w2.heap.size,0,none⟩ (.int .i64 (o (f - 1)))):=(keeps_below hb5).trans (KeepsOthers.setCell _ _ _)
     have bel:Below w.heap.size W (W5.setCell ⟨w2.heap.size,0,none⟩ (.int .i64 (o (f - 1)))):=(hb5.mono hL.below.size).setCell (p:=⟨w2.heap.size,0,none⟩) (by simp;omega) _
     gi_wp2
     ·have hn:o (f - 1) < 0:=by assumption
      exact⟨(keep.trans (KeepsOthers.setCell _ _ _)).from _,_,hL6.setR _,rfl,fun rest=>by rw[go,if_pos hn]⟩
     have hn:0≤o (f - 1):=by assumption
     exact⟨keep.from _,hL.kq hL6 bel,_,hL6,hn,by omega,fun rest=>by rw[go,if_neg (by omega)]⟩
    exact⟨(KeepsOthers.setCell _ _ _).from _,f,hL.setR _,rfl,stop (.inl (by assumption))⟩
   case done =>
    rintro D ys W hD rfl ⟨f,hL,hf0,hfe,hrun⟩ hK
    have b4:=hL.r.cell
    have b4f:=hL.r.frozen
    have b7:=hL.f.cell
    have hL6:=hL.setR f
    have hres:run o e ks.reverse=f:=by
     have:=hrun []
     rw[upto_snd ks ks.length (Nat.le_refl _),List.append_nil,List.take_of_length_le (by simp)] at this
     exact this
    gi_wp2
    have hK':=(KeepsOthers.setCell W ⟨w.heap.size+1,0,none⟩ (.int .i64 f)).same D _ hK rfl
    refine⟨by simp,.inl ⟨_,_,rfl,run_takeDeferred hK',?_⟩⟩
    have hc5:=cell_kept hL6.r.cell (grownBy_putObj' _ D (.deferred none)) (fun r e=>by cases e;exact⟨_,hK',rfl⟩)
    have e0:res=f:=by
     rw[hr,if_neg,hres]
     rintro (h | h)
     ·rcases (show kk=ks.length∨kk=-1 from (.inl (by assumption))) with e | e
      ·exact h.1 e
      exact h.2 e
     cases h
    refine⟨.int .i64 f,?_,by rw[e0],hL6.below.trans (belowK_b (w:=w) (Nat.le_refl _) _ D _ _ (by omega) hK' rfl rfl)⟩
    simp[results,Tryz.f47,go_sem,hc5]
   case stop =>
    rintro D c pre W hD ⟨k,hk,rfl⟩ ⟨f,hL,rfl,hrun⟩ hK
    have hres:run o e ks.reverse=-1:=by
     have:=hrun (ks.reverse.drop k)
     rw[upto_snd ks k hk,List.take_append_drop] at this
     exact this
    gi_wp2
    refine⟨by simp,.inl ⟨_,_,rfl,run_takeDeferred hK,?_⟩⟩
    have hc5:=cell_kept hL.r.cell (grownBy_putObj' _ D (.deferred none)) (fun r e=>by cases e;exact⟨_,hK,rfl⟩)
    have e0:res=-1:=by
     rw[hr,hres]
     split <;> rfl
    refine⟨.int .i64 (-1),?_,by rw[e0],hL.below.trans (belowK_b (w:=w) (Nat.le_refl _) _ D _ _ (by omega) hK rfl rfl)⟩
    simp[results,Tryz.f47,go_sem,hc5]
 ·refine⟨trivial,?_⟩
  refine ((callsIn_wide (n:=8)).2 (hP (.inr (by assumption)) w1 hx1.below)).mono ?_
  rintro x w2 ⟨rfl,hb2⟩
  have hx2:=hx1.on (hb2.mono hx1.size)
  have d2:=hx2.c2
  have d4:=hx2.c4
  have g4:=hx2.f4
  have d54:=hx2.c5 4
  simp only[List.getElem?_toArray,List.getElem?_cons_zero,List.getElem?_cons_succ] at d54
  cases pp with
  | false =>
   gi_wp2
   have hb4:Boxed w2 (w.heap.size+1) 3 (.int .i64 0):=hx2.h4
   have hc5:=(hb4.set (.int .i64 (-1))).cell
   refine⟨.int .i64 (-1),?_,by rw[hr];simp,hx2.below.setCell (p:=⟨w.heap.size+1,0,none⟩) (by simp) _⟩
   simp[results,Tryz.f47,go_sem,hc5]
  | true =>
   have hx3:=hx2.on (((Below.refl _ w2).alloc hx2.size (.cells #[.int .i64 (e:Int)] 3)))
   have hz:w.heap.size+1+1 < w2.heap.size:=by have:=hx2.size;omega
   have e54:=hx3.c5 4
   simp only[List.getElem?_toArray,List.getElem?_cons_zero,List.getElem?_cons_succ] at e54
   gi_wp2
   refine⟨trivial,?_⟩
   refine (backward_in Fence.wide 8 trivial rfl A4 ks.length c4 _).mono ?_
   rintro x w4 ⟨rfl,rfl⟩
   gi_wp2
   have hW2:=hx2.below.size
   have hz2:=hx2.size
   obtain⟨W0,hW0⟩:∃ W0,(w2.alloc (.cells #[.int .i64 (e:Int)] 3)).alloc (.cells #[.slice A4 ks.length c4] 39)=W0:=⟨_,rfl⟩
   have hs0:W0.heap.size=w2.heap.size+2:=by rw[←hW0];simp
   have hK0:Boxed W0 (w2.heap.size+1) 39 (.slice A4 ks.length c4):=by
    rw[←hW0]
    have:=Boxed.new (w2.alloc (.cells #[.int .i64 (e:Int)] 3)) 39 (.slice A4 ks.length c4)
    rwa [World.size_alloc] at this
   have hF0:Boxed W0 w2.heap.size 3 (.int .i64 (e:Int)):=by
    rw[←hW0]
    exact (Boxed.new w2 3 (.int .i64 (e:Int))).alloc _
   have hb0:Below w2.heap.size w2 W0:=by
    rw[←hW0]
    exact ((Below.refl _ w2).alloc (Nat.le_refl _) _).alloc (by simp) _
   have hx4:=hx2.on (hb0.mono hz2)
   have hL0:Ls w w2.heap.size (.slice (some ⟨bl,ol,none⟩) ln cp) (.slice A4 ks.length c4) 0 e W0:=⟨hx4.below,by omega,hx4.h2,hx4.h4,hF0,hK0⟩
   rw[hW0]
   refine wpIn_rangeFunc_ownG (w0:=W0) rfl (by decide) (gf:=117) (lb:=#[.pointer (some ⟨w2.heap.size+1,0,none⟩)]) rfl trivial (enters_of Tryz.func117 (by kernel_rfl) rfl)
    (back_stops Fence.wide 8 trivial rfl (by decide) (w2.heap.size+1) w.heap.size _ ks (by omega) W0 (by omega) (by omega) hK0.cell (hks.below hx4.below)) (fun h k=>Kq.trans h k) (fun W l o o'=>Kq.put (by omega) (by omega) W l o o') (Below.refl _ _) (fun _=>rfl)
    (LI w w2.heap.size (.slice (some ⟨bl,ol,none⟩) ln cp) (.slice A4 ks.length c4) o e)
    (LX w w2.heap.size (.slice (some ⟨bl,ol,none⟩) ln cp) (.slice A4 ks.length c4) o e)
    (LI.own (by omega)) (LX.own (by omega)) ⟨e,hL0,by omega,by omega,fun rest=>rfl⟩ ?a2 ?assign ?body ?done ?stop
   case assign =>
    intro l x W K hK
    gi_wp2
    exact hK
   case body =>
    rintro l pre ⟨x1,x2⟩ W ⟨f,hL,hf0,hfe,hrun⟩ _
    have b2:=hL.l.cell
    have b4:=hL.r.cell
    have b4f:=hL.r.frozen
    have b7:=hL.f.cell
    have b7f:=hL.f.frozen
    have stop:(x2 < 0∨x2≠f - 1)→∀ rest,run o e ((pre++[(x1,x2)]).map (·.2)++rest)=-1:=fun h rest=>by
     rw[List.map_append,List.append_assoc,hrun]
     simp only[List.map_cons,List.map_nil,List.cons_append,List.nil_append,run]
     rw[if_pos h]
    gi_wp2
    ·have hq:x2 < 0∨(x2 != f - 1)=true:=by assumption
     exact⟨(KeepsOthers.setCell _ _ _).from _,f,hL.setR _,rfl,stop (by simpa using hq)⟩
    ·have hq:0≤x2∧(x2 != f - 1)=false:=by assumption
     have hx:x2=f - 1:=by simpa using hq.2
     have h0:0≤x2:=hq.1
     clear hq
     subst hx
     obtain⟨ho,hc⟩:=hB (.inr (by assumption)) (by trivial) (f - 1) h0 (by omega)
     refine⟨trivial,?_⟩
     refine (CallsIn.inRound l ((callsIn_wide (n:=6)).2 (hc W hL.below))).mono ?_
     rintro y W5 ⟨rfl,hb5⟩
     have hL5:=hL.on hb5
     have hL6:=hL5.setF (o (f - 1))
     have c7:=hL5.f.cell
     have c7f:=hL5.f.frozen
     have c8:=hL6.f.cell
     have c4:=hL6.r.cell
     have c45:=hL5.r.cell
     have c4g:=hL5.r.frozen
     have c4f:=hL6.r.frozen
     have go:∀ rest,run o e ((pre++[(x1,f - 1)]).map (·.2)++rest)=if o (f - 1) < 0 then -1 else run o (o (f - 1)) rest:=fun rest=>by
      rw[List.map_append,List.append_assoc,hrun]
      simp only[List.map_cons,List.map_nil,List.cons_append,List.nil_append,run]
      rw[if_neg (by omega)]
     have keep:KeepsOthers W (W5.setCell ⟨w2.heap.size,0,none⟩ (.int .i64 (o (f - 1)))):=(keeps_below hb5).trans (KeepsOthers.setCell _ _ _)
     have bel:Below w.heap.size W (W5.setCell ⟨w2.heap.size,0,none⟩ (.int .i64 (o (f - 1)))):=(hb5.mono hL.below.size).setCell (p:=⟨w2.heap.size,0,none⟩) (by simp;omega) _
     gi_wp2
     ·have hn:o (f - 1) < 0:=by assumption
      exact⟨(keep.trans (KeepsOthers.setCell _ _ _)).from _,_,hL6.setR _,rfl,fun rest=>by rw[go,if_pos hn]⟩
     have hn:0≤o (f - 1):=by assumption
     exact⟨keep.from _,hL.kq hL6 bel,_,hL6,hn,by omega,fun rest=>by rw[go,if_neg (by omega)]⟩
    exact⟨(KeepsOthers.setCell _ _ _).from _,f,hL.setR _,rfl,stop (.inl (by assumption))⟩
   case done =>
    rintro D ys W hD rfl ⟨f,hL,hf0,hfe,hrun⟩ hK
    have b4:=hL.r.cell
    have b4f:=hL.r.frozen
    have b7:=hL.f.cell
    have hL6:=hL.setR f
    have hres:run o e ks.reverse=f:=by
     have:=hrun []
     rw[upto_snd ks ks.length (Nat.le_refl _),List.append_nil,List.take_of_length_le (by simp)] at this
     exact this
    gi_wp2
    have hK':=(KeepsOthers.setCell W ⟨w.heap.size+1,0,none⟩ (.int .i64 f)).same D _ hK rfl
    refine⟨by simp,.inl ⟨_,_,rfl,run_takeDeferred hK',?_⟩⟩
    have hc5:=cell_kept hL6.r.cell (grownBy_putObj' _ D (.deferred none)) (fun r e=>by cases e;exact⟨_,hK',rfl⟩)
    have e0:res=f:=by
     rw[hr,if_neg,hres]
     rintro (h | h)
     ·rcases (show kk=ks.length∨kk=-1 from (.inr (by assumption))) with e | e
      ·exact h.1 e
      exact h.2 e
     cases h
    refine⟨.int .i64 f,?_,by rw[e0],hL6.below.trans (belowK_b (w:=w) (Nat.le_refl _) _ D _ _ (by omega) hK' rfl rfl)⟩
    simp[results,Tryz.f47,go_sem,hc5]
   case stop =>
    rintro D c pre W hD ⟨k,hk,rfl⟩ ⟨f,hL,rfl,hrun⟩ hK
    have hres:run o e ks.reverse=-1:=by
     have:=hrun (ks.reverse.drop k)
     rw[upto_snd ks k hk,List.take_append_drop] at this
     exact this
    gi_wp2
    refine⟨by simp,.inl ⟨_,_,rfl,run_takeDeferred hK,?_⟩⟩
    have hc5:=cell_kept hL.r.cell (grownBy_putObj' _ D (.deferred none)) (fun r e=>by cases e;exact⟨_,hK,rfl⟩)
    have e0:res=-1:=by
     rw[hr,hres]
     split <;> rfl
    refine⟨.int .i64 (-1),?_,by rw[e0],hL.below.trans (belowK_b (w:=w) (Nat.le_refl _) _ D _ _ (by omega) hK rfl rfl)⟩
    simp[results,Tryz.f47,go_sem,hc5]
 refine⟨trivial,?_⟩
 gi_wp2
 have hb4:Boxed w1 (w.heap.size+1) 3 (.int .i64 0):=hx1.h4
 have hc5:=(hb4.set (.int .i64 (-1))).cell
 refine⟨.int .i64 (-1),?_,?_,hx1.below.setCell (p:=⟨w.heap.size+1,0,none⟩) (by simp) _⟩
 ·simp[results,Tryz.f47,go_sem,hc5]
 rw[hr,if_pos]
 exact .inl ⟨by assumption,by assumption⟩
end Go.Proofs.YtfbcnpbhhooapaaGreatDoor.Bk
namespace Go.Proofs.YtfbcnpbhhooapaaGreatDoor.M
set_option linter.unusedSimpArgs false
set_option linter.unusedVariables false
set_option linter.unusedSectionVars false
open Go Go.RowKit Classical
section
variable [Base] {g g':Gh} {S S':Sto} {w w':World} {P:Program}
def dataG (g:Gh):Gh:=⟨fun _ _=>none,fun _ _=>none,g.fz⟩
theorem dataG_own (g:Gh) (x:Ow):(dataG g).own x=none:=by cases x <;> rfl
theorem dataG_wr {W:World} (hw:WR g S w) (hb:Below w.heap.size w W):WR (dataG g) [] W where
 ok:=⟨Nat.le_trans hw.ok.size hb.size,fun k hk=>(hb.block k (Nat.lt_of_lt_of_le hk hw.ok.size)).trans (hw.ok.keep k hk),fun x k h=>by rw[dataG_own] at h;cases h⟩
 fz:=fun b o v h=>by
  have h1:=hw.fz b o v h
  have hlt:=cell_lt h1
  unfold World.cell? at h1 ⊢
  rw[hb.block b hlt]
  exact h1
 box:=fun n t b h=>by cases h
 arr:=fun n k ai h=>by cases h
 inj:=fun x y b h=>by rw[dataG_own] at h;cases h
theorem ask_ok {cl:Oracle} (hcl:OracleOk P cl) {f:Nat} {args:List PV} {v:PV} (ho:pureO cl f args=some v) {W:World} (hw:WR g S w) (hb:Below w.heap.size w W) {cs:Array Value} (ha:ArgsR (dataG g) args cs) (he:(callFunc f cs).run P W=.ok (.enter f cs) W) :
  Calls P f cs W fun e W'=>∃ c g',e=.returned c∧VR g' v c∧Below W.heap.size W W':=by
 have h1:=pureO_inv ho
 have h2:=hcl f args [] (by rw[h1];intro e;cases e) (dataG g) W cs (dataG_wr hw hb) ha
 rw[h1] at h2
 rcases h2 with⟨_,h2⟩ | ⟨c,W',h2,_⟩
 ·refine h2.mono fun e W' h=>?_
  cases e with
  | returned c =>
   obtain⟨g',_,_,ht,hv,_⟩:=h
   exact⟨c,g',rfl,hv,ht.os,ht.tape,ht.output,ht.size,fun k hk=>ht.keep k hk fun x=>by rw[dataG_own];exact fun e=>by cases e⟩
  | panicked ch=>exact h.elim
  | outgrown=>exact h.elim
 rw[he] at h2
 cases h2
theorem vr_int {g:Gh} {k:IntKind} {n:Int} {c:Value} (h:VR g (.int k n) c):c=.int k n:=by
 cases h with
 | data _ _ h=>cases h;rfl
theorem vr_bool {g:Gh} {b:Bool} {c:Value} (h:VR g (.bool b) c):c=.bool b:=by
 cases h with
 | data _ _ h=>cases h;rfl
def kidsOf:List (List PV)→Option (List Int)
 | []=>some []
 | [.int .i64 k]::l=>(kidsOf l).map (k::·)
 | _=>none
def askAll (lv:PV) (k:List Int→Qn):Nat→List Int→Qn
 | 0,acc=>k acc
 | n+1,acc=>.ask 47 [lv,.int .i64 (acc.length:Nat)] fun r=>match r with
  | .int .i64 v=>if v≤(acc.length:Nat) then askAll lv k n (acc++[v]) else .no
  | _=>.no
def beginK (lv:PV) (kind num:Int) (text:List UInt8) (l3 l4:PV) (ks:List Int) (e:Int):Qn :=
 .ask 73 [.int .i64 kind] fun kk=>match kk with
  | .int .i64 kk=>if kk≠(ks.length:Nat)∧kk≠-1 then .ret (.int .i64 (-1)) else
   .ask 74 [.agg [.int .i64 kind,.int .i64 num,.str text,l3,l4]] fun pp=>match pp with
    | .bool pp=>if pp=false then .ret (.int .i64 (-1)) else askAll lv (fun rs=>.ret (.int .i64 (Bk.run (fun k=>(rs[k.toNat]?).getD 0) e ks.reverse))) e.toNat []
    | _=>.no
  | _=>.no
def beginQ:List PV→Qn
 | [.list 5 rows full,.int .i64 e] =>
  if 0≤e∧e.toNat < rows.length∧rows.length≤1000000000 then
   match rows[e.toNat]? with
   | some [.int .i64 kind,.int .i64 num,.str text,.list z3 r3 f3,.list 1 r4 f4] =>
    match kidsOf r4 with
    | some ks=>if ks.length≤1000000000 then beginK (.list 5 rows full) kind num text (.list z3 r3 f3) (.list 1 r4 f4) ks e else .no
    | none=>.no
   | _=>.no
  else .no
 | _=>.no
theorem kidsOf_get:∀ {r:List (List PV)} {ks:List Int},kidsOf r=some ks→r=ks.map fun k=>[PV.int .i64 k]
 | [],ks,h=>by cases h;rfl
 | a::l,ks,h=>by
  unfold kidsOf at h
  split at h
  ·rename_i e
   cases e
  ·rename_i k l' e
   obtain⟨q,hq,rfl⟩:=Option.map_eq_some_iff.1 h
   obtain⟨rfl,rfl⟩:=List.cons.inj e
   rw[List.map_cons,←kidsOf_get hq]
  cases h
theorem argsR1 {v:PV} {c:Value} (h:VR g v c):ArgsR g [v] #[c]:=⟨rfl,fun i u hu=>by
 match i,hu with
 | 0,hu=>cases hu;exact h⟩
theorem argsR2 {v u:PV} {c d:Value} (h:VR g v c) (h':VR g u d):ArgsR g [v,u] #[c,d]:=⟨rfl,fun i x hx=>by
 match i,hx with
 | 0,hx=>cases hx;exact h
 | 1,hx=>cases hx;exact h'⟩
theorem vr_agg5 {a0 a1 a2 a3 a4:PV} {u0 u1 u2 u3 u4:Value} (h0:VR g a0 u0) (h1:VR g a1 u1) (h2:VR g a2 u2) (h3:VR g a3 u3) (h4:VR g a4 u4):VR g (.agg [a0,a1,a2,a3,a4]) (.agg #[u0,u1,u2,u3,u4]) :=
 .agg _ _ rfl fun i v hv=>by
  match i,hv with
  | 0,hv=>cases hv;exact h0
  | 1,hv=>cases hv;exact h1
  | 2,hv=>cases hv;exact h2
  | 3,hv=>cases hv;exact h3
  | 4,hv=>cases hv;exact h4
theorem askAll_ev {o:Nat→List PV→Option PV} {lv:PV} {k:List Int→Qn} {v:PV}:∀ (n:Nat) (acc:List Int),(askAll lv k n acc).ev o=some v→∃ rs,rs.length=acc.length+n∧(∀ j,j < acc.length→rs[j]?=acc[j]?)∧(k rs).ev o=some v∧∀ j,acc.length≤j→j < rs.length→∃ u,rs[j]?=some u∧u≤(j:Nat)∧o 47 [lv,.int .i64 (j:Nat)]=some (.int .i64 u)
 | 0,acc,h=>⟨acc,rfl,fun _ _=>rfl,h,fun j h1 h2=>by omega⟩
 | n+1,acc,h=>by
  simp only[askAll,Qn.ev] at h
  cases ho:o 47 [lv,.int .i64 (acc.length:Nat)] with
  | none=>rw[ho] at h;cases h
  | some r =>
   rw[ho] at h
   simp only at h
   split at h
   ·rename_i u
    split at h
    ·rename_i hu
     obtain⟨rs,h1,h2,h3,h4⟩:=askAll_ev n (acc++[u]) h
     simp only[List.length_append,List.length_cons,List.length_nil] at h1 h2 h4
     refine⟨rs,by omega,fun j hj=>(h2 j (by omega)).trans (List.getElem?_append_left hj),h3,fun j hj1 hj2=>?_⟩
     by_cases e:j=acc.length
     ·subst e
      refine⟨u,(h2 acc.length (by omega)).trans (by simp),hu,ho⟩
     exact h4 j (by omega) hj2
    cases h
   cases h
end
theorem begin_orc [Base]:OrcOk Tryz.prog 47 beginQ:=by
 intro cl hcl hm args v hq g S w cs hw ha
 unfold beginQ at hq
 split at hq
 ·rename_i rows full e
  split at hq
  ·rename_i hc
   obtain⟨he0,hel,hrl⟩:=hc
   split at hq
   ·rename_i kind num text z3 r3 f3 r4 f4 hrow
    split at hq
    ·rename_i ks hks
     split at hq
     ·rename_i hkl
      obtain⟨c,d,rfl,h1,h2⟩:=args2 ha
      obtain rfl:=vr_int h2
      cases h1 with
      | data _ _ h1 =>
       have h10:=h1
       cases h1 with
       | list _ _ _ A cap cv hl hf hs hA hcell hv =>
        have hne:rows≠[]:=fun e=>by rw[e] at hel;simp at hel
        obtain⟨ad,rfl,hspot⟩:=hA hne
        obtain⟨bl,ol,sp⟩:=ad
        simp only at hspot
        subst hspot
        have q:∀ (j:Nat) (u:PV),[PV.int .i64 kind,.int .i64 num,.str text,.list z3 r3 f3,.list 1 r4 f4][j]?=some u→w.cell? ⟨bl,ol+(e.toNat*5+j),none⟩=some (cv e.toNat j)∧FR g.fz u (cv e.toNat j):=fun j u hu =>
         ⟨hw.fz _ _ _ (hcell ⟨bl,ol,none⟩ e.toNat j _ u rfl hrow hu),hv e.toNat j _ u hrow hu⟩
        obtain⟨q0,v0⟩:=q 0 _ rfl
        obtain⟨q1,v1⟩:=q 1 _ rfl
        obtain⟨q2,v2⟩:=q 2 _ rfl
        obtain⟨q3,v3⟩:=q 3 _ rfl
        obtain⟨q4,v4⟩:=q 4 _ rfl
        have w3:=v3
        have w4:=v4
        generalize cv e.toNat 0=u0 at *
        generalize cv e.toNat 1=u1 at *
        generalize cv e.toNat 2=u2 at *
        generalize cv e.toNat 3=u3 at *
        generalize cv e.toNat 4=u4 at *
        cases v0
        cases v1
        cases v2
        cases v3 with
        | list _ _ _ A3 c3 _ _ _ _ _ _ _ =>
         cases v4 with
         | list _ _ _ A4 c4 cv4 _ _ _ hA4 hcell4 hv4 =>
          have hbl:bl < w.heap.size:=cell_lt q0
          have hr4:=kidsOf_get hks
          have hl4:r4.length=ks.length:=by rw[hr4,List.length_map]
          have hkid:∀ j,j < ks.length→r4[j]?=some [.int .i64 ((ks[j]?).getD 0)]:=fun j hj=>by rw[hr4,List.getElem?_map,List.getElem?_eq_getElem hj];rfl
          have hI:Bk.Ints w.heap.size w (.slice A4 r4.length c4) ks:=by
           by_cases h0:0 < ks.length
           ·have hne4:r4≠[]:=fun e=>by rw[e] at hl4;simp at hl4;omega
            obtain⟨⟨b4,o4,sp4⟩,rfl,hs4⟩:=hA4 hne4
            simp only at hs4
            subst hs4
            have hcell4':∀ j,j < ks.length→w.cell? ⟨b4,o4+j,none⟩=some (.int .i64 ((ks[j]?).getD 0)):=fun j hj=>by
             have h5:=hcell4 ⟨b4,o4,none⟩ j 0 _ _ rfl (hkid j hj) rfl
             have h6:=hv4 j 0 _ _ (hkid j hj) rfl
             have h7:=hw.fz _ _ _ h5
             simp only[Nat.mul_one,Nat.add_zero] at h7
             rw[h7,vr_int (g:=g) (.data _ _ h6)]
            exact .inr ⟨h0,b4,o4,c4,by rw[hl4],cell_lt (hcell4' 0 h0),hcell4'⟩
           exact .inl ⟨A4,c4,by rw[hl4,show ks.length=0 by omega],List.length_eq_zero_iff.1 (by omega)⟩
          have ee:e=((e.toNat:Nat):Int):=by omega
          unfold beginK at hq
          simp only[Qn.ev] at hq
          cases hk73:pureO cl 73 [.int .i64 kind] with
          | none=>rw[hk73] at hq;cases hq
          | some k73 =>
           rw[hk73] at hq
           simp only at hq
           split at hq
           ·rename_i kk
            have hK:∀ W,Below w.heap.size w W→Calls Tryz.prog 73 #[.int .i64 kind] W fun x W'=>x=.returned (.int .i64 kk)∧Below W.heap.size W W':=fun W hb =>
             (ask_ok hcl hk73 hw hb (argsR1 (.data _ _ (.int _ _))) (enters_of Tryz.func73 (by kernel_rfl) rfl _ _)).mono fun x W' ⟨c,g',h1,h2,h3⟩=>⟨by rw[h1,vr_int h2],h3⟩
            have fin:∀ (res:Int) (pp:Bool) (o:Int→Int),
              ((kk=ks.length∨kk=-1)→∀ W,Below w.heap.size w W→Calls Tryz.prog 74 #[.agg #[.int .i64 kind,.int .i64 num,.string ⟨text.toArray⟩,.slice A3 r3.length c3,.slice A4 r4.length c4]] W fun x W'=>x=.returned (.bool pp)∧Below W.heap.size W W') →
              ((kk=ks.length∨kk=-1)→pp=true→∀ k:Int,0≤k→k < e.toNat→o k≤k∧∀ W,Below w.heap.size w W→Calls Tryz.prog 47 #[.slice (some ⟨bl,ol,none⟩) rows.length cap,.int .i64 k] W fun x W'=>x=.returned (.int .i64 (o k))∧Below W.heap.size W W') →
              (res=if (kk≠ks.length∧kk≠-1)∨pp=false then -1 else Bk.run o e.toNat ks.reverse)→v=.int .i64 res →
              Answers Tryz.prog 47 #[.slice (some ⟨bl,ol,none⟩) rows.length cap,.int .i64 e] w (CallPost g S w (.ok (.v v) S)):=fun res pp o hP hB hr hv=>by
             have key:=Bk.begin_in w bl ol rows.length cap e.toNat kind num ⟨text.toArray⟩ A3 A4 r3.length c3 r4.length c4 ks kk pp o res hbl hel hrl hl q0 q1 q2 q3 q4 hl4 hI hkl hK hP hB hr
             rw[←ee] at key
             subst hv
             left
             refine⟨enters_of Tryz.func47 (by kernel_rfl) rfl _ _,key.mono fun x W' ⟨h1,h2⟩=>?_⟩
             subst h1
             exact ext_post hw h2 (.data _ _ (.int _ _))
            split at hq
            ·rename_i hkk
             simp only[Qn.ev,Option.some.injEq] at hq
             exact fin (-1) false (fun _=>0) (fun h=>absurd h (by rintro (h | h);exact hkk.1 h;exact hkk.2 h)) (fun _ h=>by cases h) (by rw[if_pos (.inl hkk)]) hq.symm
            rename_i hkk
            simp only[Qn.ev] at hq
            cases hk74:pureO cl 74 [.agg [.int .i64 kind,.int .i64 num,.str text,.list z3 r3 f3,.list 1 r4 f4]] with
            | none=>rw[hk74] at hq;cases hq
            | some k74 =>
             rw[hk74] at hq
             simp only at hq
             split at hq
             ·rename_i pp
              have hP:(kk=ks.length∨kk=-1)→∀ W,Below w.heap.size w W→Calls Tryz.prog 74 #[.agg #[.int .i64 kind,.int .i64 num,.string ⟨text.toArray⟩,.slice A3 r3.length c3,.slice A4 r4.length c4]] W fun x W'=>x=.returned (.bool pp)∧Below W.heap.size W W':=fun _ W hb =>
               (ask_ok hcl hk74 hw hb (argsR1 (vr_agg5 (.data _ _ (.int _ _)) (.data _ _ (.int _ _)) (.data _ _ (.str _)) (.data _ _ w3) (.data _ _ w4))) (enters_of Tryz.func74 (by kernel_rfl) rfl _ _)).mono fun x W' ⟨c,g',h1,h2,h3⟩=>⟨by rw[h1,vr_bool h2],h3⟩
              split at hq
              ·rename_i hpp
               subst hpp
               simp only[Qn.ev,Option.some.injEq] at hq
               exact fin (-1) false (fun _=>0) hP (fun _ h=>by cases h) (by rw[if_pos (.inr rfl)]) hq.symm
              rename_i hpp
              obtain⟨rs,r1,r2,r3',r4'⟩:=askAll_ev _ _ hq
              simp only[List.length_nil,Nat.zero_add] at r1 r4'
              simp only[Qn.ev,Option.some.injEq] at r3'
              refine fin _ pp (fun k=>(rs[k.toNat]?).getD 0) hP (fun _ _ k k0 k1=>?_) (by rw[if_neg (by rintro (h | h);exact hkk h;exact hpp h)]) (by rw[←r3',←ee])
              obtain⟨u,u1,u2,u3⟩:=r4' k.toNat (by omega) (by omega)
              have ek:((k.toNat:Nat):Int)=k:=by omega
              rw[ek] at u2 u3
              have e1:(rs[k.toNat]?).getD 0=u:=by rw[u1];rfl
              simp only[e1]
              exact⟨u2,fun W hb=>(ask_ok hcl u3 hw hb (argsR2 (.data _ _ h10) (.data _ _ (.int _ _))) (enters_of Tryz.func47 (by kernel_rfl) rfl _ _)).mono fun x W' ⟨c,g',h1,h2,h3⟩=>⟨by rw[h1,vr_int h2],h3⟩⟩
             cases hq
           cases hq
     cases hq
    cases hq
   cases hq
  cases hq
 cases hq
end Go.Proofs.YtfbcnpbhhooapaaGreatDoor.M
namespace Go.Proofs.YtfbcnpbhhooapaaGreatDoor.M
set_option linter.unusedVariables false
open Go Classical
noncomputable def exts:Nat→Option XF:=fun f=>if f=106 then some (.fn (itoaX)) else if f=108 then some (.fn (boolX)) else if f=94 then some (.fn (repeatX)) else if f=112 then some (.fn (cutX)) else if f=179 then some (.fn (indexX)) else if f=129 then some (.fn (prefixX)) else if f=162 then some (.fn (containsX)) else if f=120 then some (.fn (replaceX)) else if f=163 then some (.fn (atoiX 218)) else if f=144 then some (.fn (cloneX 1 8)) else if f=36 then some (.rcv rcv_Q36) else if f=47 then some (.orc beginQ) else  none
noncomputable def SP:Prg:=SPof Tryz.prog exts
theorem sp_strconv_Itoa:SP 106=some (.ext (itoaX)):=rfl
theorem sp_strconv_FormatBool:SP 108=some (.ext (boolX)):=rfl
theorem sp_strings_Repeat:SP 94=some (.ext (repeatX)):=rfl
theorem sp_strings_Cut:SP 112=some (.ext (cutX)):=rfl
theorem sp_strings_IndexByte:SP 179=some (.ext (indexX)):=rfl
theorem sp_strings_HasPrefix:SP 129=some (.ext (prefixX)):=rfl
theorem sp_strings_Contains:SP 162=some (.ext (containsX)):=rfl
theorem sp_strings_ReplaceAll:SP 120=some (.ext (replaceX)):=rfl
theorem sp_strconv_Atoi:SP 163=some (.ext (atoiX 218)):=rfl
theorem sp_slices_Clone_int_int:SP 144=some (.ext (cloneX 1 8)):=rfl
theorem sp_Q36:SP 36=some (.rcv rcv_Q36):=rfl
theorem sp_Q47:SP 47=some (.orc beginQ):=rfl
end Go.Proofs.YtfbcnpbhhooapaaGreatDoor.M
namespace Go.Proofs.YtfbcnpbhhooapaaGreatDoor.M
open Go Classical
def R_Q12 (x0:List Node) (x1:List Block) (r0:Bool):Prop:=∀ (S:Sto),call SP 12 [.list 5 (x0.map eNode) false,.list 4 (x1.map eBlock) false] S=.ok (.v (.bool r0)) S
def R_Q16 (x0:Int) (r0:List UInt8):Prop:=∀ (S:Sto),call SP 16 [.int .i64 x0] S=.ok (.v (.str r0)) S
def R_Q20 (x0:List UInt8) (r0:List Node) (r1:Int):Prop:=∀ (S:Sto),call SP 20 [.str x0] S=.ok (.v (.tup [.list 5 (r0.map eNode) false,.int .i64 r1])) S
def R_Q23 (x0:List Node) (r0:List UInt8):Prop:=∀ (S:Sto),call SP 23 [.list 5 (x0.map eNode) false] S=.ok (.v (.str r0)) S
def R_Q24 (x0:List Node) (r0:List UInt8):Prop:=∀ (S:Sto),call SP 24 [.list 5 (x0.map eNode) false] S=.ok (.v (.str r0)) S
def R_Q25 (r0:Bool):Prop:=∀ (S:Sto),call SP 25 [] S=.ok (.v (.bool r0)) S
def R_Q26 (x0:List Node) (r0:Bool):Prop:=∀ (S:Sto),call SP 26 [.list 5 (x0.map eNode) false] S=.ok (.v (.bool r0)) S
def R_Q27 (x0:List Node) (r0:Bool):Prop:=∀ (S:Sto),call SP 27 [.list 5 (x0.map eNode) false] S=.ok (.v (.bool r0)) S
def R_Q28 (x0:List Block) (x1:Int) (r0:Bool):Prop:=∀ (S:Sto),call SP 28 [.list 4 (x0.map eBlock) false,.int .i64 x1] S=.ok (.v (.bool r0)) S
def R_Q29 (x0:List Node) (r0:Bool):Prop:=∀ (S:Sto),call SP 29 [.list 5 (x0.map eNode) false] S=.ok (.v (.bool r0)) S
def R_Q30 (x0:List Block) (r0:Bool):Prop:=∀ (S:Sto),call SP 30 [.list 4 (x0.map eBlock) false] S=.ok (.v (.bool r0)) S
def R_Q31 (x0:List Block) (r0:Bool):Prop:=∀ (S:Sto),call SP 31 [.list 4 (x0.map eBlock) false] S=.ok (.v (.bool r0)) S
def R_Q34 (x0:List Block) (r0:List UInt8):Prop:=∀ (S:Sto),call SP 34 [.list 4 (x0.map eBlock) false] S=.ok (.v (.str r0)) S
def R_Q35 (x0:List Block) (r0:List UInt8):Prop:=∀ (S:Sto),call SP 35 [.list 4 (x0.map eBlock) false] S=.ok (.v (.str r0)) S
def R_Q40 (x0:PBlocks) (x0_g2:Nat) (x0_z2:Bool) (x1:PV) (o:Option Int) (x0':PBlocks) (x0'_g2:Nat) (x0'_z2:Bool) (x1':PV):Prop:=∀ (S:Sto) (n0:Nat) (t0:Nat) (n1:Nat) (t1:Nat),(getBox S n0 t0).map (List.take 4)=some [.list 5 (x0.exprs.tokens.l.map eToken) false,.int .i64 x0.exprs.tokens.pos,.sl 0 (.cell t0 2) 0 x0.exprs.out.length x0.exprs.out.length x0_g2 false,.int .i64 x0.exprs.deep]∧getArr S n0 (.cell t0 2)=some ⟨5,x0.exprs.out.map eNode,x0_z2,x0_g2⟩→(getBox S n1 t1).map (List.take 1)=some [x1]→n0≠n1→call SP 40 [.ptr n0 t0 0,.ptr n1 t1 0] S=po 116 o (.v (.tup [])) (setBox (setArr (setBox S n0 t0 ([.list 5 (x0'.exprs.tokens.l.map eToken) false,.int .i64 x0'.exprs.tokens.pos,.sl 0 (.cell t0 2) 0 x0'.exprs.out.length x0'.exprs.out.length x0'_g2 false,.int .i64 x0'.exprs.deep]++((getBox S n0 t0).getD []).drop 4)) n0 (.cell t0 2) ⟨5,x0'.exprs.out.map eNode,x0'_z2,x0'_g2⟩) n1 t1 ([x1']++((getBox (setArr (setBox S n0 t0 ([.list 5 (x0'.exprs.tokens.l.map eToken) false,.int .i64 x0'.exprs.tokens.pos,.sl 0 (.cell t0 2) 0 x0'.exprs.out.length x0'.exprs.out.length x0'_g2 false,.int .i64 x0'.exprs.deep]++((getBox S n0 t0).getD []).drop 4)) n0 (.cell t0 2) ⟨5,x0'.exprs.out.map eNode,x0'_z2,x0'_g2⟩) n1 t1).getD []).drop 1))
def R_Q46 (x0:List Node) (x1:Int) (r0:List UInt8):Prop:=∀ (S:Sto),call SP 46 [.list 5 (x0.map eNode) false,.int .i64 x1] S=.ok (.v (.str r0)) S
def R_Q47 (x0:List Node) (x1:Int) (r0:Int):Prop:=∀ (S:Sto),call SP 47 [.list 5 (x0.map eNode) false,.int .i64 x1] S=.ok (.v (.int .i64 r0)) S
def R_Q48 (x0:Int) (r0:Int):Prop:=∀ (S:Sto),call SP 48 [.int .i64 x0] S=.ok (.v (.int .i64 r0)) S
def R_Q49 (x0:Node) (r0:Bool):Prop:=∀ (S:Sto),call SP 49 [.agg (eNode x0)] S=.ok (.v (.bool r0)) S
def R_Q51 (x0:Block) (r0:Bool):Prop:=∀ (S:Sto),call SP 51 [.agg (eBlock x0)] S=.ok (.v (.bool r0)) S
def R_Q52 (x0:Block) (x1:Bool) (r0:Bool):Prop:=∀ (S:Sto),call SP 52 [.agg (eBlock x0),.bool x1] S=.ok (.v (.bool r0)) S
def R_Q53 (x0:List Block) (x1:Bool) (r0:Bool):Prop:=∀ (S:Sto),call SP 53 [.list 4 (x0.map eBlock) false,.bool x1] S=.ok (.v (.bool r0)) S
def R_Q59 (x0:List Block) (x1:List UInt8) (r0:List UInt8):Prop:=∀ (S:Sto),call SP 59 [.list 4 (x0.map eBlock) false,.str x1] S=.ok (.v (.str r0)) S
def R_Q60 (x0:List UInt8) (r0:List Token) (r1:Int):Prop:=∀ (S:Sto),call SP 60 [.str x0] S=.ok (.v (.tup [.list 5 (r0.map eToken) false,.int .i64 r1])) S
def R_slices_Index_string_string (x0:List (List UInt8)) (x1:List UInt8) (r0:Int):Prop:=∀ (S:Sto),call SP 62 [.list 1 (x0.map eS) false,.str x1] S=.ok (.v (.int .i64 r0)) S
def R_Q70 (x0:List Part) (r0:List UInt8):Prop:=∀ (S:Sto),call SP 70 [.list 2 (x0.map ePart) false] S=.ok (.v (.str r0)) S
def R_Q71 (x0:List UInt8) (x1:Bool) (r0:List UInt8):Prop:=∀ (S:Sto),call SP 71 [.str x0,.bool x1] S=.ok (.v (.str r0)) S
def R_Q72 (x0:Int) (r0:Int):Prop:=∀ (S:Sto),call SP 72 [.int .i64 x0] S=.ok (.v (.int .i64 r0)) S
def R_Q73 (x0:Int) (r0:Int):Prop:=∀ (S:Sto),call SP 73 [.int .i64 x0] S=.ok (.v (.int .i64 r0)) S
def R_Q74 (x0:Node) (r0:Bool):Prop:=∀ (S:Sto),call SP 74 [.agg (eNode x0)] S=.ok (.v (.bool r0)) S
def R_Q76 (x0:List Part) (r0:Bool):Prop:=∀ (S:Sto),call SP 76 [.list 2 (x0.map ePart) false] S=.ok (.v (.bool r0)) S
def R_Q77 (x0:List UInt8) (x1:Int) (r0:Int):Prop:=∀ (S:Sto),call SP 77 [.str x0,.int .i64 x1] S=.ok (.v (.int .i64 r0)) S
def R_Q78 (x0:List UInt8) (r0:Bool):Prop:=∀ (S:Sto),call SP 78 [.str x0] S=.ok (.v (.bool r0)) S
def R_Q79 (x0:List UInt8) (r0:Bool):Prop:=∀ (S:Sto),call SP 79 [.str x0] S=.ok (.v (.bool r0)) S
def R_Q81 (x0:List UInt8) (r0:Bool):Prop:=∀ (S:Sto),call SP 81 [.str x0] S=.ok (.v (.bool r0)) S
def R_Q82 (x0:List Attr) (r0:Bool):Prop:=∀ (S:Sto),call SP 82 [.list 2 (x0.map eAttr) false] S=.ok (.v (.bool r0)) S
def R_Q83 (x0:Block) (r0:Bool):Prop:=∀ (S:Sto),call SP 83 [.agg (eBlock x0)] S=.ok (.v (.bool r0)) S
def R_Q84 (x0:Block) (x1:Bool) (r0:Bool):Prop:=∀ (S:Sto),call SP 84 [.agg (eBlock x0),.bool x1] S=.ok (.v (.bool r0)) S
def R_strings_Repeat (x0:List UInt8) (x1:Int) (r0:List UInt8):Prop:=∀ (S:Sto),call SP 94 [.str x0,.int .i64 x1] S=.ok (.v (.str r0)) S
def R_Q96 (x0:Int) (r0:List UInt8):Prop:=∀ (S:Sto),call SP 96 [.int .i64 x0] S=.ok (.v (.str r0)) S
def R_strconv_Itoa (x0:Int) (r0:List UInt8):Prop:=∀ (S:Sto),call SP 106 [.int .i64 x0] S=.ok (.v (.str r0)) S
def R_strconv_FormatBool (x0:Bool) (r0:List UInt8):Prop:=∀ (S:Sto),call SP 108 [.bool x0] S=.ok (.v (.str r0)) S
def R_strings_Cut (x0:List UInt8) (x1:List UInt8) (r0:List UInt8) (r1:List UInt8) (r2:Bool):Prop:=∀ (S:Sto),call SP 112 [.str x0,.str x1] S=.ok (.v (.tup [.str r0,.str r1,.bool r2])) S
def R_Q113 (x0:List UInt8) (r0:Bool):Prop:=∀ (S:Sto),call SP 113 [.str x0] S=.ok (.v (.bool r0)) S
def R_Q114 (x0:List UInt8) (r0:Bool):Prop:=∀ (S:Sto),call SP 114 [.str x0] S=.ok (.v (.bool r0)) S
def R_Q115 (x0:List UInt8) (r0:Bool):Prop:=∀ (S:Sto),call SP 115 [.str x0] S=.ok (.v (.bool r0)) S
def R_Q116 (x0:List Part) (r0:Bool):Prop:=∀ (S:Sto),call SP 116 [.list 2 (x0.map ePart) false] S=.ok (.v (.bool r0)) S
def R_Q118 (x0:UInt8) (r0:Bool):Prop:=∀ (S:Sto),call SP 118 [.int .u8 ((x0.toNat:Nat):Int)] S=.ok (.v (.bool r0)) S
def R_Q119 (x0:UInt8) (r0:Bool):Prop:=∀ (S:Sto),call SP 119 [.int .u8 ((x0.toNat:Nat):Int)] S=.ok (.v (.bool r0)) S
def R_strings_ReplaceAll (x0:List UInt8) (x1:List UInt8) (x2:List UInt8) (r0:List UInt8):Prop:=∀ (S:Sto),call SP 120 [.str x0,.str x1,.str x2] S=.ok (.v (.str r0)) S
def R_Q121 (x0:Attr) (x1:Attr) (r0:Bool):Prop:=∀ (S:Sto) (n1:Nat) (t1:Nat),(getBox S n1 t1).map (List.take 2)=some [.str x1.Name,.list 5 (x1.Expr.map eNode) false]→call SP 121 [.agg (eAttr x0),.ptr n1 t1 0] S=.ok (.v (.bool r0)) S
def R_Q122 (x0:List UInt8) (r0:Bool):Prop:=∀ (S:Sto),call SP 122 [.str x0] S=.ok (.v (.bool r0)) S
def R_strings_HasPrefix (x0:List UInt8) (x1:List UInt8) (r0:Bool):Prop:=∀ (S:Sto),call SP 129 [.str x0,.str x1] S=.ok (.v (.bool r0)) S
def R_Q137 (x0:UInt8) (r0:Int):Prop:=∀ (S:Sto),call SP 137 [.int .u8 ((x0.toNat:Nat):Int)] S=.ok (.v (.int .i64 r0)) S
def R_Q143 (x0:Int) (x1:List UInt8) (r0:Int) (r1:Bool):Prop:=∀ (S:Sto),call SP 143 [.int .i64 x0,.str x1] S=.ok (.v (.tup [.int .i64 r0,.bool r1])) S
def R_slices_Clone_int_int (x0:List Int) (r0:List Int):Prop:=∀ (S:Sto),call SP 144 [.list 1 (x0.map eI) false] S=.ok (.v (.list 1 (r0.map eI) false)) S
def R_Q148 (x0:Int) (r0:Int):Prop:=∀ (S:Sto),call SP 148 [.int .i64 x0] S=.ok (.v (.int .i64 r0)) S
def R_Q149 (x0:Int) (r0:List UInt8):Prop:=∀ (S:Sto),call SP 149 [.int .i64 x0] S=.ok (.v (.str r0)) S
def R_Q151 (x0:List UInt8) (x1:List Int) (r0:Int):Prop:=∀ (S:Sto),call SP 151 [.str x0,.list 1 (x1.map eI) false] S=.ok (.v (.int .i64 r0)) S
def R_Q152 (x0:List UInt8) (r0:Bool):Prop:=∀ (S:Sto),call SP 152 [.str x0] S=.ok (.v (.bool r0)) S
def R_slices_Contains_string_string (x0:List (List UInt8)) (x1:List UInt8) (r0:Bool):Prop:=∀ (S:Sto),call SP 161 [.list 1 (x0.map eS) false,.str x1] S=.ok (.v (.bool r0)) S
def R_strings_Contains (x0:List UInt8) (x1:List UInt8) (r0:Bool):Prop:=∀ (S:Sto),call SP 162 [.str x0,.str x1] S=.ok (.v (.bool r0)) S
def R_strconv_Atoi (x0:List UInt8) (r0:Int) (r1:Bool):Prop:=∀ (S:Sto),call SP 163 [.str x0] S=.ok (.v (.tup [.int .i64 r0,eE 218 r1])) S
def R_Q164 (x0:List UInt8) (r0:UInt8) (r1:Bool):Prop:=∀ (S:Sto),call SP 164 [.str x0] S=.ok (.v (.tup [.int .u8 ((r0.toNat:Nat):Int),.bool r1])) S
def R_Q166 (x0:List UInt8) (r0:List UInt8) (r1:Bool):Prop:=∀ (S:Sto),call SP 166 [.str x0] S=.ok (.v (.tup [.str r0,.bool r1])) S
def R_slices_Contains_int_int (x0:List Int) (x1:Int) (r0:Bool):Prop:=∀ (S:Sto),call SP 170 [.list 1 (x0.map eI) false,.int .i64 x1] S=.ok (.v (.bool r0)) S
def R_strings_IndexByte (x0:List UInt8) (x1:UInt8) (r0:Int):Prop:=∀ (S:Sto),call SP 179 [.str x0,.int .u8 ((x1.toNat:Nat):Int)] S=.ok (.v (.int .i64 r0)) S
def R_slices_Index_int_int (x0:List Int) (x1:Int) (r0:Int):Prop:=∀ (S:Sto),call SP 190 [.list 1 (x0.map eI) false,.int .i64 x1] S=.ok (.v (.int .i64 r0)) S
def R_Q38 (x0:PTokens) (r0:Token) (x0':PTokens):Prop:=∀ (S:Sto) (n0:Nat) (t0:Nat),(getBox S n0 t0).map (List.take 2)=some [.list 5 (x0.l.map eToken) false,.int .i64 x0.pos]→call SP 38 [.ptr n0 t0 0] S=.ok (.v (.agg [.int .i64 r0.Kind,.str r0.Text,.int .i64 r0.Num,.list 2 (r0.Parts.map ePart) false,.int .i64 r0.At])) (setBox S n0 t0 ([.list 5 (x0'.l.map eToken) false,.int .i64 x0'.pos]++((getBox S n0 t0).getD []).drop 2))
def R_Q41 (x0:PExprs) (x0_g2:Nat) (x0_z2:Bool) (o:Option Int) (r0:List Node) (x0':PExprs) (x0'_g2:Nat) (x0'_z2:Bool):Prop:=∀ (S:Sto) (n0:Nat) (t0:Nat),(getBox S n0 t0).map (List.take 4)=some [.list 5 (x0.tokens.l.map eToken) false,.int .i64 x0.tokens.pos,.sl 0 (.cell t0 2) 0 x0.out.length x0.out.length x0_g2 false,.int .i64 x0.deep]∧getArr S n0 (.cell t0 2)=some ⟨5,x0.out.map eNode,x0_z2,x0_g2⟩→call SP 41 [.ptr n0 t0 0] S=po 116 o (.v (.list 5 (r0.map eNode) false)) (setArr (setBox S n0 t0 ([.list 5 (x0'.tokens.l.map eToken) false,.int .i64 x0'.tokens.pos,.sl 0 (.cell t0 2) 0 x0'.out.length x0'.out.length x0'_g2 false,.int .i64 x0'.deep]++((getBox S n0 t0).getD []).drop 4)) n0 (.cell t0 2) ⟨5,x0'.out.map eNode,x0'_z2,x0'_g2⟩)
def R_Q42 (x0:PTokens) (x1:Int) (o:Option Int) (x0':PTokens):Prop:=∀ (S:Sto) (n0:Nat) (t0:Nat),(getBox S n0 t0).map (List.take 2)=some [.list 5 (x0.l.map eToken) false,.int .i64 x0.pos]→call SP 42 [.ptr n0 t0 0,.int .i64 x1] S=po 116 o (.v (.tup [])) (setBox S n0 t0 ([.list 5 (x0'.l.map eToken) false,.int .i64 x0'.pos]++((getBox S n0 t0).getD []).drop 2))
def R_Q45 (x0:SWriter) (x0_g0:Nat) (x0_z0:Bool) (x1:List Node) (x0':SWriter) (x0'_g0:Nat) (x0'_z0:Bool):Prop:=∀ (S:Sto) (n0:Nat) (t0:Nat),(getBox S n0 t0).map (List.take 1)=some [.sl 0 (.cell t0 0) 0 x0.out.length x0.out.length x0_g0 false]∧getArr S n0 (.cell t0 0)=some ⟨1,x0.out.map eB,x0_z0,x0_g0⟩→call SP 45 [.ptr n0 t0 0,.list 5 (x1.map eNode) false] S=.ok (.v (.tup [])) (setArr (setBox S n0 t0 ([.sl 0 (.cell t0 0) 0 x0'.out.length x0'.out.length x0'_g0 false]++((getBox S n0 t0).getD []).drop 1)) n0 (.cell t0 0) ⟨1,x0'.out.map eB,x0'_z0,x0'_g0⟩)
def R_Q58 (x0:SBlocks) (x0_g0:Nat) (x0_z0:Bool) (x1:Block) (x2:Int) (x0':SBlocks) (x0'_g0:Nat) (x0'_z0:Bool):Prop:=∀ (S:Sto) (n0:Nat) (t0:Nat),(getBox S n0 t0).map (List.take 1)=some [.sl 0 (.cell t0 0) 0 x0.writer.out.length x0.writer.out.length x0_g0 false]∧getArr S n0 (.cell t0 0)=some ⟨1,x0.writer.out.map eB,x0_z0,x0_g0⟩→call SP 58 [.ptr n0 t0 0,.agg (eBlock x1),.int .i64 x2] S=.ok (.v (.tup [])) (setArr (setBox S n0 t0 ([.sl 0 (.cell t0 0) 0 x0'.writer.out.length x0'.writer.out.length x0'_g0 false]++((getBox S n0 t0).getD []).drop 1)) n0 (.cell t0 0) ⟨1,x0'.writer.out.map eB,x0'_z0,x0'_g0⟩)
def R_Q66 (x0:PTokens) (x1:List UInt8) (o:Option Int) (x0':PTokens):Prop:=∀ (S:Sto) (n0:Nat) (t0:Nat),(getBox S n0 t0).map (List.take 2)=some [.list 5 (x0.l.map eToken) false,.int .i64 x0.pos]→call SP 66 [.ptr n0 t0 0,.str x1] S=po 116 o (.v (.tup [])) (setBox S n0 t0 ([.list 5 (x0'.l.map eToken) false,.int .i64 x0'.pos]++((getBox S n0 t0).getD []).drop 2))
def R_Q67 (x0:PTokens) (x1:List UInt8) (r0:Bool) (x0':PTokens):Prop:=∀ (S:Sto) (n0:Nat) (t0:Nat),(getBox S n0 t0).map (List.take 2)=some [.list 5 (x0.l.map eToken) false,.int .i64 x0.pos]→call SP 67 [.ptr n0 t0 0,.str x1] S=.ok (.v (.bool r0)) (setBox S n0 t0 ([.list 5 (x0'.l.map eToken) false,.int .i64 x0'.pos]++((getBox S n0 t0).getD []).drop 2))
def R_Q68 (x0:PExprs) (x0_g2:Nat) (x0_z2:Bool) (o:Option Int) (r0:Int) (x0':PExprs) (x0'_g2:Nat) (x0'_z2:Bool):Prop:=∀ (S:Sto) (n0:Nat) (t0:Nat),(getBox S n0 t0).map (List.take 4)=some [.list 5 (x0.tokens.l.map eToken) false,.int .i64 x0.tokens.pos,.sl 0 (.cell t0 2) 0 x0.out.length x0.out.length x0_g2 false,.int .i64 x0.deep]∧getArr S n0 (.cell t0 2)=some ⟨5,x0.out.map eNode,x0_z2,x0_g2⟩→call SP 68 [.ptr n0 t0 0] S=po 116 o (.v (.int .i64 r0)) (setArr (setBox S n0 t0 ([.list 5 (x0'.tokens.l.map eToken) false,.int .i64 x0'.tokens.pos,.sl 0 (.cell t0 2) 0 x0'.out.length x0'.out.length x0'_g2 false,.int .i64 x0'.deep]++((getBox S n0 t0).getD []).drop 4)) n0 (.cell t0 2) ⟨5,x0'.out.map eNode,x0'_z2,x0'_g2⟩)
def R_Q69 (x0:SWriter) (x0_g0:Nat) (x0_z0:Bool) (x0_l:List Node) (x1:Int) (x0':SWriter) (x0'_g0:Nat) (x0'_z0:Bool):Prop:=∀ (S:Sto) (n0:Nat) (t0:Nat),(getBox S n0 t0).map (List.take 1)=some [.sl 0 (.cell t0 0) 0 x0.out.length x0.out.length x0_g0 false]∧getArr S n0 (.cell t0 0)=some ⟨1,x0.out.map eB,x0_z0,x0_g0⟩→call SP 69 [.agg [.ptr n0 t0 0,.list 5 (x0_l.map eNode) false],.int .i64 x1] S=.ok (.v (.tup [])) (setArr (setBox S n0 t0 ([.sl 0 (.cell t0 0) 0 x0'.out.length x0'.out.length x0'_g0 false]++((getBox S n0 t0).getD []).drop 1)) n0 (.cell t0 0) ⟨1,x0'.out.map eB,x0'_z0,x0'_g0⟩)
def R_Q95 (x0:SWriter) (x0_g0:Nat) (x0_z0:Bool) (x1:List (List UInt8)) (x0':SWriter) (x0'_g0:Nat) (x0'_z0:Bool):Prop:=∀ (S:Sto) (n0:Nat) (t0:Nat),(getBox S n0 t0).map (List.take 1)=some [.sl 0 (.cell t0 0) 0 x0.out.length x0.out.length x0_g0 false]∧getArr S n0 (.cell t0 0)=some ⟨1,x0.out.map eB,x0_z0,x0_g0⟩→call SP 95 [.ptr n0 t0 0,.list 1 (x1.map eS) false] S=.ok (.v (.tup [])) (setArr (setBox S n0 t0 ([.sl 0 (.cell t0 0) 0 x0'.out.length x0'.out.length x0'_g0 false]++((getBox S n0 t0).getD []).drop 1)) n0 (.cell t0 0) ⟨1,x0'.out.map eB,x0'_z0,x0'_g0⟩)
def R_Q97 (x0:LTokens) (x0_g2:Nat) (x0_z2:Bool) (x0':LTokens) (x0'_g2:Nat) (x0'_z2:Bool):Prop:=∀ (S:Sto) (n0:Nat) (t0:Nat),(getBox S n0 t0).map (List.take 3)=some [.str x0.text.left,.int .i64 x0.text.pos,.sl 0 (.cell t0 2) 0 x0.out.length x0.out.length x0_g2 false]∧getArr S n0 (.cell t0 2)=some ⟨5,x0.out.map eToken,x0_z2,x0_g2⟩→call SP 97 [.ptr n0 t0 0] S=.ok (.v (.tup [])) (setArr (setBox S n0 t0 ([.str x0'.text.left,.int .i64 x0'.text.pos,.sl 0 (.cell t0 2) 0 x0'.out.length x0'.out.length x0'_g2 false]++((getBox S n0 t0).getD []).drop 3)) n0 (.cell t0 2) ⟨5,x0'.out.map eToken,x0'_z2,x0'_g2⟩)
def R_Q98 (x0:LTokens) (x0_g2:Nat) (x0_z2:Bool) (r0:Bool) (x0':LTokens) (x0'_g2:Nat) (x0'_z2:Bool):Prop:=∀ (S:Sto) (n0:Nat) (t0:Nat),(getBox S n0 t0).map (List.take 3)=some [.str x0.text.left,.int .i64 x0.text.pos,.sl 0 (.cell t0 2) 0 x0.out.length x0.out.length x0_g2 false]∧getArr S n0 (.cell t0 2)=some ⟨5,x0.out.map eToken,x0_z2,x0_g2⟩→call SP 98 [.ptr n0 t0 0] S=.ok (.v (.bool r0)) (setArr (setBox S n0 t0 ([.str x0'.text.left,.int .i64 x0'.text.pos,.sl 0 (.cell t0 2) 0 x0'.out.length x0'.out.length x0'_g2 false]++((getBox S n0 t0).getD []).drop 3)) n0 (.cell t0 2) ⟨5,x0'.out.map eToken,x0'_z2,x0'_g2⟩)
def R_Q101 (x0:PTokens) (o:Option Int) (r0:List UInt8) (x0':PTokens):Prop:=∀ (S:Sto) (n0:Nat) (t0:Nat),(getBox S n0 t0).map (List.take 2)=some [.list 5 (x0.l.map eToken) false,.int .i64 x0.pos]→call SP 101 [.ptr n0 t0 0] S=po 116 o (.v (.str r0)) (setBox S n0 t0 ([.list 5 (x0'.l.map eToken) false,.int .i64 x0'.pos]++((getBox S n0 t0).getD []).drop 2))
def R_Q102 (x0:PTokens) (x1:List UInt8) (r0:Bool) (x0':PTokens):Prop:=∀ (S:Sto) (n0:Nat) (t0:Nat),(getBox S n0 t0).map (List.take 2)=some [.list 5 (x0.l.map eToken) false,.int .i64 x0.pos]→call SP 102 [.ptr n0 t0 0,.str x1] S=.ok (.v (.bool r0)) (setBox S n0 t0 ([.list 5 (x0'.l.map eToken) false,.int .i64 x0'.pos]++((getBox S n0 t0).getD []).drop 2))
def R_Q103 (x0:PExprs) (x0_g2:Nat) (x0_z2:Bool) (x1:Int) (o:Option Int) (r0:Int) (x0':PExprs) (x0'_g2:Nat) (x0'_z2:Bool):Prop:=∀ (S:Sto) (n0:Nat) (t0:Nat),(getBox S n0 t0).map (List.take 4)=some [.list 5 (x0.tokens.l.map eToken) false,.int .i64 x0.tokens.pos,.sl 0 (.cell t0 2) 0 x0.out.length x0.out.length x0_g2 false,.int .i64 x0.deep]∧getArr S n0 (.cell t0 2)=some ⟨5,x0.out.map eNode,x0_z2,x0_g2⟩→call SP 103 [.ptr n0 t0 0,.int .i64 x1] S=po 116 o (.v (.int .i64 r0)) (setArr (setBox S n0 t0 ([.list 5 (x0'.tokens.l.map eToken) false,.int .i64 x0'.tokens.pos,.sl 0 (.cell t0 2) 0 x0'.out.length x0'.out.length x0'_g2 false,.int .i64 x0'.deep]++((getBox S n0 t0).getD []).drop 4)) n0 (.cell t0 2) ⟨5,x0'.out.map eNode,x0'_z2,x0'_g2⟩)
def R_Q104 (x0:PExprs) (x0_g2:Nat) (x0_z2:Bool) (x1:List UInt8) (o:Option Int) (x0':PExprs) (x0'_g2:Nat) (x0'_z2:Bool):Prop:=∀ (S:Sto) (n0:Nat) (t0:Nat),(getBox S n0 t0).map (List.take 4)=some [.list 5 (x0.tokens.l.map eToken) false,.int .i64 x0.tokens.pos,.sl 0 (.cell t0 2) 0 x0.out.length x0.out.length x0_g2 false,.int .i64 x0.deep]∧getArr S n0 (.cell t0 2)=some ⟨5,x0.out.map eNode,x0_z2,x0_g2⟩→call SP 104 [.ptr n0 t0 0,.str x1] S=po 116 o (.v (.tup [])) (setArr (setBox S n0 t0 ([.list 5 (x0'.tokens.l.map eToken) false,.int .i64 x0'.tokens.pos,.sl 0 (.cell t0 2) 0 x0'.out.length x0'.out.length x0'_g2 false,.int .i64 x0'.deep]++((getBox S n0 t0).getD []).drop 4)) n0 (.cell t0 2) ⟨5,x0'.out.map eNode,x0'_z2,x0'_g2⟩)
def R_Q105 (x0:PExprs) (x0_g2:Nat) (x0_z2:Bool) (x1:Int) (x2:List UInt8) (x3:List Int) (r0:Int) (x0':PExprs) (x0'_g2:Nat) (x0'_z2:Bool):Prop:=∀ (S:Sto) (n0:Nat) (t0:Nat),(getBox S n0 t0).map (List.take 4)=some [.list 5 (x0.tokens.l.map eToken) false,.int .i64 x0.tokens.pos,.sl 0 (.cell t0 2) 0 x0.out.length x0.out.length x0_g2 false,.int .i64 x0.deep]∧getArr S n0 (.cell t0 2)=some ⟨5,x0.out.map eNode,x0_z2,x0_g2⟩→call SP 105 [.ptr n0 t0 0,.int .i64 x1,.str x2,.list 1 (x3.map eI) false] S=.ok (.v (.int .i64 r0)) (setArr (setBox S n0 t0 ([.list 5 (x0'.tokens.l.map eToken) false,.int .i64 x0'.tokens.pos,.sl 0 (.cell t0 2) 0 x0'.out.length x0'.out.length x0'_g2 false,.int .i64 x0'.deep]++((getBox S n0 t0).getD []).drop 4)) n0 (.cell t0 2) ⟨5,x0'.out.map eNode,x0'_z2,x0'_g2⟩)
def R_Q107 (x0:SWriter) (x0_g0:Nat) (x0_z0:Bool) (x0_l:List Node) (x1:List Part) (x0':SWriter) (x0'_g0:Nat) (x0'_z0:Bool):Prop:=∀ (S:Sto) (n0:Nat) (t0:Nat),(getBox S n0 t0).map (List.take 1)=some [.sl 0 (.cell t0 0) 0 x0.out.length x0.out.length x0_g0 false]∧getArr S n0 (.cell t0 0)=some ⟨1,x0.out.map eB,x0_z0,x0_g0⟩→call SP 107 [.agg [.ptr n0 t0 0,.list 5 (x0_l.map eNode) false],.list 2 (x1.map ePart) false] S=.ok (.v (.tup [])) (setArr (setBox S n0 t0 ([.sl 0 (.cell t0 0) 0 x0'.out.length x0'.out.length x0'_g0 false]++((getBox S n0 t0).getD []).drop 1)) n0 (.cell t0 0) ⟨1,x0'.out.map eB,x0'_z0,x0'_g0⟩)
def R_Q109 (x0:SWriter) (x0_g0:Nat) (x0_z0:Bool) (x0_l:List Node) (x1:List Int) (x0':SWriter) (x0'_g0:Nat) (x0'_z0:Bool):Prop:=∀ (S:Sto) (n0:Nat) (t0:Nat),(getBox S n0 t0).map (List.take 1)=some [.sl 0 (.cell t0 0) 0 x0.out.length x0.out.length x0_g0 false]∧getArr S n0 (.cell t0 0)=some ⟨1,x0.out.map eB,x0_z0,x0_g0⟩→call SP 109 [.agg [.ptr n0 t0 0,.list 5 (x0_l.map eNode) false],.list 1 (x1.map eI) false] S=.ok (.v (.tup [])) (setArr (setBox S n0 t0 ([.sl 0 (.cell t0 0) 0 x0'.out.length x0'.out.length x0'_g0 false]++((getBox S n0 t0).getD []).drop 1)) n0 (.cell t0 0) ⟨1,x0'.out.map eB,x0'_z0,x0'_g0⟩)
def R_Q110 (x0:SWriter) (x0_g0:Nat) (x0_z0:Bool) (x0_l:List Node) (x1:Int) (x2:Int) (x0':SWriter) (x0'_g0:Nat) (x0'_z0:Bool):Prop:=∀ (S:Sto) (n0:Nat) (t0:Nat),(getBox S n0 t0).map (List.take 1)=some [.sl 0 (.cell t0 0) 0 x0.out.length x0.out.length x0_g0 false]∧getArr S n0 (.cell t0 0)=some ⟨1,x0.out.map eB,x0_z0,x0_g0⟩→call SP 110 [.agg [.ptr n0 t0 0,.list 5 (x0_l.map eNode) false],.int .i64 x1,.int .i64 x2] S=.ok (.v (.tup [])) (setArr (setBox S n0 t0 ([.sl 0 (.cell t0 0) 0 x0'.out.length x0'.out.length x0'_g0 false]++((getBox S n0 t0).getD []).drop 1)) n0 (.cell t0 0) ⟨1,x0'.out.map eB,x0'_z0,x0'_g0⟩)
def R_Q111 (x0:SWriter) (x0_g0:Nat) (x0_z0:Bool) (x0_l:List Node) (x1:Node) (x0':SWriter) (x0'_g0:Nat) (x0'_z0:Bool):Prop:=∀ (S:Sto) (n0:Nat) (t0:Nat),(getBox S n0 t0).map (List.take 1)=some [.sl 0 (.cell t0 0) 0 x0.out.length x0.out.length x0_g0 false]∧getArr S n0 (.cell t0 0)=some ⟨1,x0.out.map eB,x0_z0,x0_g0⟩→call SP 111 [.agg [.ptr n0 t0 0,.list 5 (x0_l.map eNode) false],.agg (eNode x1)] S=.ok (.v (.tup [])) (setArr (setBox S n0 t0 ([.sl 0 (.cell t0 0) 0 x0'.out.length x0'.out.length x0'_g0 false]++((getBox S n0 t0).getD []).drop 1)) n0 (.cell t0 0) ⟨1,x0'.out.map eB,x0'_z0,x0'_g0⟩)
def R_Q134 (x0:LText) (x1:List Int) (r0:List UInt8) (x0':LText):Prop:=∀ (S:Sto) (n0:Nat) (t0:Nat),(getBox S n0 t0).map (List.take 2)=some [.str x0.left,.int .i64 x0.pos]→call SP 134 [.ptr n0 t0 0,.list 1 (x1.map eI) false] S=.ok (.v (.str r0)) (setBox S n0 t0 ([.str x0'.left,.int .i64 x0'.pos]++((getBox S n0 t0).getD []).drop 2))
def R_Q135 (x0:LText) (x1:Int) (r0:List UInt8) (x0':LText):Prop:=∀ (S:Sto) (n0:Nat) (t0:Nat),(getBox S n0 t0).map (List.take 2)=some [.str x0.left,.int .i64 x0.pos]→call SP 135 [.ptr n0 t0 0,.int .i64 x1] S=.ok (.v (.str r0)) (setBox S n0 t0 ([.str x0'.left,.int .i64 x0'.pos]++((getBox S n0 t0).getD []).drop 2))
def R_Q136 (x0:LTokens) (x0_g2:Nat) (x0_z2:Bool) (r0:Token) (r1:Bool) (x0':LTokens) (x0'_g2:Nat) (x0'_z2:Bool):Prop:=∀ (S:Sto) (n0:Nat) (t0:Nat),(getBox S n0 t0).map (List.take 3)=some [.str x0.text.left,.int .i64 x0.text.pos,.sl 0 (.cell t0 2) 0 x0.out.length x0.out.length x0_g2 false]∧getArr S n0 (.cell t0 2)=some ⟨5,x0.out.map eToken,x0_z2,x0_g2⟩→call SP 136 [.ptr n0 t0 0] S=.ok (.v (.tup [.agg [.int .i64 r0.Kind,.str r0.Text,.int .i64 r0.Num,.list 2 (r0.Parts.map ePart) false,.int .i64 r0.At],.bool r1])) (setArr (setBox S n0 t0 ([.str x0'.text.left,.int .i64 x0'.text.pos,.sl 0 (.cell t0 2) 0 x0'.out.length x0'.out.length x0'_g2 false]++((getBox S n0 t0).getD []).drop 3)) n0 (.cell t0 2) ⟨5,x0'.out.map eToken,x0'_z2,x0'_g2⟩)
def R_Q138 (x0:LTokens) (x0_g2:Nat) (x0_z2:Bool) (r0:Token) (r1:Bool) (x0':LTokens) (x0'_g2:Nat) (x0'_z2:Bool):Prop:=∀ (S:Sto) (n0:Nat) (t0:Nat),(getBox S n0 t0).map (List.take 3)=some [.str x0.text.left,.int .i64 x0.text.pos,.sl 0 (.cell t0 2) 0 x0.out.length x0.out.length x0_g2 false]∧getArr S n0 (.cell t0 2)=some ⟨5,x0.out.map eToken,x0_z2,x0_g2⟩→call SP 138 [.ptr n0 t0 0] S=.ok (.v (.tup [.agg [.int .i64 r0.Kind,.str r0.Text,.int .i64 r0.Num,.list 2 (r0.Parts.map ePart) false,.int .i64 r0.At],.bool r1])) (setArr (setBox S n0 t0 ([.str x0'.text.left,.int .i64 x0'.text.pos,.sl 0 (.cell t0 2) 0 x0'.out.length x0'.out.length x0'_g2 false]++((getBox S n0 t0).getD []).drop 3)) n0 (.cell t0 2) ⟨5,x0'.out.map eToken,x0'_z2,x0'_g2⟩)
def R_Q139 (x0:LTokens) (x0_g2:Nat) (x0_z2:Bool) (r0:Token) (r1:Bool) (x0':LTokens) (x0'_g2:Nat) (x0'_z2:Bool):Prop:=∀ (S:Sto) (n0:Nat) (t0:Nat),(getBox S n0 t0).map (List.take 3)=some [.str x0.text.left,.int .i64 x0.text.pos,.sl 0 (.cell t0 2) 0 x0.out.length x0.out.length x0_g2 false]∧getArr S n0 (.cell t0 2)=some ⟨5,x0.out.map eToken,x0_z2,x0_g2⟩→call SP 139 [.ptr n0 t0 0] S=.ok (.v (.tup [.agg [.int .i64 r0.Kind,.str r0.Text,.int .i64 r0.Num,.list 2 (r0.Parts.map ePart) false,.int .i64 r0.At],.bool r1])) (setArr (setBox S n0 t0 ([.str x0'.text.left,.int .i64 x0'.text.pos,.sl 0 (.cell t0 2) 0 x0'.out.length x0'.out.length x0'_g2 false]++((getBox S n0 t0).getD []).drop 3)) n0 (.cell t0 2) ⟨5,x0'.out.map eToken,x0'_z2,x0'_g2⟩)
def R_Q140 (x0:LTokens) (x0_g2:Nat) (x0_z2:Bool) (r0:Token) (r1:Bool) (x0':LTokens) (x0'_g2:Nat) (x0'_z2:Bool):Prop:=∀ (S:Sto) (n0:Nat) (t0:Nat),(getBox S n0 t0).map (List.take 3)=some [.str x0.text.left,.int .i64 x0.text.pos,.sl 0 (.cell t0 2) 0 x0.out.length x0.out.length x0_g2 false]∧getArr S n0 (.cell t0 2)=some ⟨5,x0.out.map eToken,x0_z2,x0_g2⟩→call SP 140 [.ptr n0 t0 0] S=.ok (.v (.tup [.agg [.int .i64 r0.Kind,.str r0.Text,.int .i64 r0.Num,.list 2 (r0.Parts.map ePart) false,.int .i64 r0.At],.bool r1])) (setArr (setBox S n0 t0 ([.str x0'.text.left,.int .i64 x0'.text.pos,.sl 0 (.cell t0 2) 0 x0'.out.length x0'.out.length x0'_g2 false]++((getBox S n0 t0).getD []).drop 3)) n0 (.cell t0 2) ⟨5,x0'.out.map eToken,x0'_z2,x0'_g2⟩)
def R_Q142 (x0:PExprs) (x0_g2:Nat) (x0_z2:Bool) (o:Option Int) (r0:Int) (x0':PExprs) (x0'_g2:Nat) (x0'_z2:Bool):Prop:=∀ (S:Sto) (n0:Nat) (t0:Nat),(getBox S n0 t0).map (List.take 4)=some [.list 5 (x0.tokens.l.map eToken) false,.int .i64 x0.tokens.pos,.sl 0 (.cell t0 2) 0 x0.out.length x0.out.length x0_g2 false,.int .i64 x0.deep]∧getArr S n0 (.cell t0 2)=some ⟨5,x0.out.map eNode,x0_z2,x0_g2⟩→call SP 142 [.ptr n0 t0 0] S=po 116 o (.v (.int .i64 r0)) (setArr (setBox S n0 t0 ([.list 5 (x0'.tokens.l.map eToken) false,.int .i64 x0'.tokens.pos,.sl 0 (.cell t0 2) 0 x0'.out.length x0'.out.length x0'_g2 false,.int .i64 x0'.deep]++((getBox S n0 t0).getD []).drop 4)) n0 (.cell t0 2) ⟨5,x0'.out.map eNode,x0'_z2,x0'_g2⟩)
def R_Q146 (x0:SWriter) (x0_g0:Nat) (x0_z0:Bool) (x1:List UInt8) (x0':SWriter) (x0'_g0:Nat) (x0'_z0:Bool):Prop:=∀ (S:Sto) (n0:Nat) (t0:Nat),(getBox S n0 t0).map (List.take 1)=some [.sl 0 (.cell t0 0) 0 x0.out.length x0.out.length x0_g0 false]∧getArr S n0 (.cell t0 0)=some ⟨1,x0.out.map eB,x0_z0,x0_g0⟩→call SP 146 [.ptr n0 t0 0,.str x1] S=.ok (.v (.tup [])) (setArr (setBox S n0 t0 ([.sl 0 (.cell t0 0) 0 x0'.out.length x0'.out.length x0'_g0 false]++((getBox S n0 t0).getD []).drop 1)) n0 (.cell t0 0) ⟨1,x0'.out.map eB,x0'_z0,x0'_g0⟩)
def R_Q165 (x0:List Part) (x0_g0:Nat) (x0_z0:Bool) (x1:UInt8) (x0':List Part) (x0'_g0:Nat) (x0'_z0:Bool):Prop:=∀ (S:Sto) (n0:Nat) (t0:Nat),(getBox S n0 t0).map (List.take 1)=some [.sl 0 (.cell t0 0) 0 x0.length x0.length x0_g0 false]∧getArr S n0 (.cell t0 0)=some ⟨2,x0.map ePart,x0_z0,x0_g0⟩→call SP 165 [.ptr n0 t0 0,.int .u8 ((x1.toNat:Nat):Int)] S=.ok (.v (.tup [])) (setArr (setBox S n0 t0 ([.sl 0 (.cell t0 0) 0 x0'.length x0'.length x0'_g0 false]++((getBox S n0 t0).getD []).drop 1)) n0 (.cell t0 0) ⟨2,x0'.map ePart,x0'_z0,x0'_g0⟩)
def R_Q167 (x0:PExprs) (x0_g2:Nat) (x0_z2:Bool) (o:Option Int) (r0:Int) (x0':PExprs) (x0'_g2:Nat) (x0'_z2:Bool):Prop:=∀ (S:Sto) (n0:Nat) (t0:Nat),(getBox S n0 t0).map (List.take 4)=some [.list 5 (x0.tokens.l.map eToken) false,.int .i64 x0.tokens.pos,.sl 0 (.cell t0 2) 0 x0.out.length x0.out.length x0_g2 false,.int .i64 x0.deep]∧getArr S n0 (.cell t0 2)=some ⟨5,x0.out.map eNode,x0_z2,x0_g2⟩→call SP 167 [.ptr n0 t0 0] S=po 116 o (.v (.int .i64 r0)) (setArr (setBox S n0 t0 ([.list 5 (x0'.tokens.l.map eToken) false,.int .i64 x0'.tokens.pos,.sl 0 (.cell t0 2) 0 x0'.out.length x0'.out.length x0'_g2 false,.int .i64 x0'.deep]++((getBox S n0 t0).getD []).drop 4)) n0 (.cell t0 2) ⟨5,x0'.out.map eNode,x0'_z2,x0'_g2⟩)
def R_Q180 (x0:PExprs) (x0_g2:Nat) (x0_z2:Bool) (o:Option Int) (r0:Int) (x0':PExprs) (x0'_g2:Nat) (x0'_z2:Bool):Prop:=∀ (S:Sto) (n0:Nat) (t0:Nat),(getBox S n0 t0).map (List.take 4)=some [.list 5 (x0.tokens.l.map eToken) false,.int .i64 x0.tokens.pos,.sl 0 (.cell t0 2) 0 x0.out.length x0.out.length x0_g2 false,.int .i64 x0.deep]∧getArr S n0 (.cell t0 2)=some ⟨5,x0.out.map eNode,x0_z2,x0_g2⟩→call SP 180 [.ptr n0 t0 0] S=po 116 o (.v (.int .i64 r0)) (setArr (setBox S n0 t0 ([.list 5 (x0'.tokens.l.map eToken) false,.int .i64 x0'.tokens.pos,.sl 0 (.cell t0 2) 0 x0'.out.length x0'.out.length x0'_g2 false,.int .i64 x0'.deep]++((getBox S n0 t0).getD []).drop 4)) n0 (.cell t0 2) ⟨5,x0'.out.map eNode,x0'_z2,x0'_g2⟩)
def R_Q181 (x0:PExprs) (x0_g2:Nat) (x0_z2:Bool) (x1:List UInt8) (o:Option Int) (x0':PExprs) (x0'_g2:Nat) (x0'_z2:Bool):Prop:=∀ (S:Sto) (n0:Nat) (t0:Nat),(getBox S n0 t0).map (List.take 4)=some [.list 5 (x0.tokens.l.map eToken) false,.int .i64 x0.tokens.pos,.sl 0 (.cell t0 2) 0 x0.out.length x0.out.length x0_g2 false,.int .i64 x0.deep]∧getArr S n0 (.cell t0 2)=some ⟨5,x0.out.map eNode,x0_z2,x0_g2⟩→call SP 181 [.ptr n0 t0 0,.str x1] S=po 116 o (.v (.tup [])) (setArr (setBox S n0 t0 ([.list 5 (x0'.tokens.l.map eToken) false,.int .i64 x0'.tokens.pos,.sl 0 (.cell t0 2) 0 x0'.out.length x0'.out.length x0'_g2 false,.int .i64 x0'.deep]++((getBox S n0 t0).getD []).drop 4)) n0 (.cell t0 2) ⟨5,x0'.out.map eNode,x0'_z2,x0'_g2⟩)
def R_Q201 (x0:PExprs) (x0_g2:Nat) (x0_z2:Bool) (o:Option Int) (r0:Int) (x0':PExprs) (x0'_g2:Nat) (x0'_z2:Bool):Prop:=∀ (S:Sto) (n0:Nat) (t0:Nat),(getBox S n0 t0).map (List.take 4)=some [.list 5 (x0.tokens.l.map eToken) false,.int .i64 x0.tokens.pos,.sl 0 (.cell t0 2) 0 x0.out.length x0.out.length x0_g2 false,.int .i64 x0.deep]∧getArr S n0 (.cell t0 2)=some ⟨5,x0.out.map eNode,x0_z2,x0_g2⟩→call SP 201 [.ptr n0 t0 0] S=po 116 o (.v (.int .i64 r0)) (setArr (setBox S n0 t0 ([.list 5 (x0'.tokens.l.map eToken) false,.int .i64 x0'.tokens.pos,.sl 0 (.cell t0 2) 0 x0'.out.length x0'.out.length x0'_g2 false,.int .i64 x0'.deep]++((getBox S n0 t0).getD []).drop 4)) n0 (.cell t0 2) ⟨5,x0'.out.map eNode,x0'_z2,x0'_g2⟩)
def R_Q202 (x0:PExprs) (x0_g2:Nat) (x0_z2:Bool) (x1:Int) (x2:Int) (r0:Int) (x0':PExprs) (x0'_g2:Nat) (x0'_z2:Bool):Prop:=∀ (S:Sto) (n0:Nat) (t0:Nat),(getBox S n0 t0).map (List.take 4)=some [.list 5 (x0.tokens.l.map eToken) false,.int .i64 x0.tokens.pos,.sl 0 (.cell t0 2) 0 x0.out.length x0.out.length x0_g2 false,.int .i64 x0.deep]∧getArr S n0 (.cell t0 2)=some ⟨5,x0.out.map eNode,x0_z2,x0_g2⟩→call SP 202 [.ptr n0 t0 0,.int .i64 x1,.int .i64 x2] S=.ok (.v (.int .i64 r0)) (setArr (setBox S n0 t0 ([.list 5 (x0'.tokens.l.map eToken) false,.int .i64 x0'.tokens.pos,.sl 0 (.cell t0 2) 0 x0'.out.length x0'.out.length x0'_g2 false,.int .i64 x0'.deep]++((getBox S n0 t0).getD []).drop 4)) n0 (.cell t0 2) ⟨5,x0'.out.map eNode,x0'_z2,x0'_g2⟩)
def R_Q203 (x0:PExprs) (x0_g2:Nat) (x0_z2:Bool) (x1:List UInt8) (o:Option Int) (r0:List Int) (x0':PExprs) (x0'_g2:Nat) (x0'_z2:Bool):Prop:=∀ (S:Sto) (n0:Nat) (t0:Nat),(getBox S n0 t0).map (List.take 4)=some [.list 5 (x0.tokens.l.map eToken) false,.int .i64 x0.tokens.pos,.sl 0 (.cell t0 2) 0 x0.out.length x0.out.length x0_g2 false,.int .i64 x0.deep]∧getArr S n0 (.cell t0 2)=some ⟨5,x0.out.map eNode,x0_z2,x0_g2⟩→call SP 203 [.ptr n0 t0 0,.str x1] S=po 116 o (.arr 1 (r0.map eI) false) (setArr (setBox S n0 t0 ([.list 5 (x0'.tokens.l.map eToken) false,.int .i64 x0'.tokens.pos,.sl 0 (.cell t0 2) 0 x0'.out.length x0'.out.length x0'_g2 false,.int .i64 x0'.deep]++((getBox S n0 t0).getD []).drop 4)) n0 (.cell t0 2) ⟨5,x0'.out.map eNode,x0'_z2,x0'_g2⟩)
end Go.Proofs.YtfbcnpbhhooapaaGreatDoor.M
namespace Go.Proofs.YtfbcnpbhhooapaaGreatDoor.M
open Go
set_option linter.unusedVariables false
def c_Q148_1:SC:=.seq (.reg [⟨some 2,none,.v (.mov (.c (.int .i64 7)))⟩]) .ret
def c_Q148_2:SC:=.cond (.t 12) (.seq (.reg [⟨some 2,none,.v (.mov (.c (.int .i64 3)))⟩]) .ret) (.seq (.reg [⟨some 20,none,.v (.mov (.t 0))⟩,⟨some 21,none,.v (.bin .eql (.t 20) (.c (.int .i64 19)))⟩,⟨some 22,none,.v (.mov (.t 21))⟩,⟨some 23,some (22,false),.v (.mov (.t 0))⟩,⟨some 24,some (22,false),.v (.bin .eql (.t 23) (.c (.int .i64 20)))⟩,⟨some 25,none,.v (.pick (.t 22) (.c (.bool true)) (.t 24))⟩,⟨some 19,none,.v (.mov (.t 25))⟩]) (.cond (.t 19) (.seq (.reg [⟨some 2,none,.v (.mov (.c (.int .i64 4)))⟩]) .ret) (.seq (.reg [⟨some 27,none,.v (.mov (.t 0))⟩,⟨some 28,none,.v (.bin .geq (.t 27) (.c (.int .i64 21)))⟩,⟨some 26,none,.v (.mov (.t 28))⟩]) (.cond (.t 26) (.seq (.reg [⟨some 2,none,.v (.mov (.c (.int .i64 5)))⟩]) .ret) (.seq (.reg [⟨some 30,none,.v (.mov (.t 0))⟩,⟨some 31,none,.v (.bin .eql (.t 30) (.c (.int .i64 8)))⟩,⟨some 32,none,.v (.mov (.t 31))⟩,⟨some 33,some (32,false),.v (.mov (.t 0))⟩,⟨some 34,some (32,false),.v (.bin .eql (.t 33) (.c (.int .i64 9)))⟩,⟨some 35,none,.v (.pick (.t 32) (.c (.bool true)) (.t 34))⟩,⟨some 29,none,.v (.mov (.t 35))⟩]) (.cond (.t 29) (.seq (.reg [⟨some 2,none,.v (.mov (.c (.int .i64 6)))⟩]) .ret) .skip))))))
def c_Q148_3:SC:=.cond (.t 9) (.seq (.reg [⟨some 2,none,.v (.mov (.c (.int .i64 2)))⟩]) .ret) (.seq (.reg [⟨some 13,none,.v (.mov (.t 0))⟩,⟨some 14,none,.v (.bin .geq (.t 13) (.c (.int .i64 13)))⟩,⟨some 15,none,.v (.mov (.t 14))⟩,⟨some 16,some (15,true),.v (.mov (.t 0))⟩,⟨some 17,some (15,true),.v (.bin .leq (.t 16) (.c (.int .i64 18)))⟩,⟨some 18,none,.v (.pick (.t 15) (.t 17) (.c (.bool false)))⟩,⟨some 12,none,.v (.mov (.t 18))⟩]) c_Q148_2)
def c_Q148_4:SC:=.cond (.t 6) (.seq (.reg [⟨some 2,none,.v (.mov (.c (.int .i64 1)))⟩]) .ret) (.seq (.reg [⟨some 10,none,.v (.mov (.t 0))⟩,⟨some 11,none,.v (.bin .eql (.t 10) (.c (.int .i64 12)))⟩,⟨some 9,none,.v (.mov (.t 11))⟩]) c_Q148_3)
def c_Q148_5:SC:=.cond (.t 3) (.seq (.reg [⟨some 2,none,.v (.mov (.c (.int .i64 0)))⟩]) .ret) (.seq (.reg [⟨some 7,none,.v (.mov (.t 0))⟩,⟨some 8,none,.v (.bin .eql (.t 7) (.c (.int .i64 11)))⟩,⟨some 6,none,.v (.mov (.t 8))⟩]) c_Q148_4)
def c_Q148_6:SC:=.seq (.block 0 (.seq (.reg [⟨some 4,none,.v (.mov (.t 0))⟩,⟨some 5,none,.v (.bin .eql (.t 4) (.c (.int .i64 10)))⟩,⟨some 3,none,.v (.mov (.t 5))⟩]) c_Q148_5)) c_Q148_1
def sc_Q148:SFunc:=⟨1,36,.seq (.reg [⟨some 2,none,.v (.mov (.c (.int .i64 0)))⟩]) c_Q148_6,[(.t 2)]⟩
theorem U_Q148:type_of% (aI (ue c_Q148_1.eq_1)<|aI (ue c_Q148_2.eq_1)<|aI (ue c_Q148_3.eq_1)<|aI (ue c_Q148_4.eq_1)<|aI (ue c_Q148_5.eq_1)<|aI (ue c_Q148_6.eq_1)<|sc_Q148.eq_1):=aI (ue c_Q148_1.eq_1)<|aI (ue c_Q148_2.eq_1)<|aI (ue c_Q148_3.eq_1)<|aI (ue c_Q148_4.eq_1)<|aI (ue c_Q148_5.eq_1)<|aI (ue c_Q148_6.eq_1)<|sc_Q148.eq_1
theorem comp_Q148:comp Tryz.prog Tryz.f148=some sc_Q148:=by kernel_rfl
def sc_Q149:SFunc:=⟨1,8,.seq (.reg [⟨some 2,none,.v (.mov (.c (.str [])))⟩]) (.seq (.reg [⟨some 3,none,.bslice 1 13 [(.str [])] [(0,(.c (.str [124,124]))),(1,(.c (.str [38,38]))),(2,(.c (.str [61,61]))),(3,(.c (.str [33,61]))),(4,(.c (.str [60]))),(5,(.c (.str [60,61]))),(6,(.c (.str [62]))),(7,(.c (.str [62,61]))),(8,(.c (.str [43]))),(9,(.c (.str [45]))),(10,(.c (.str [42]))),(11,(.c (.str [47]))),(12,(.c (.str [37])))]⟩,⟨some 4,none,.v (.mov (.t 0))⟩,⟨some 5,none,.v (.bin .sub (.t 4) (.c (.int .i64 11)))⟩,⟨some 6,none,.v (.iaddr 1 (.t 3) (.t 5))⟩,⟨some 7,none,.v (.load none (.t 6))⟩,⟨some 2,none,.v (.mov (.t 7))⟩]) .ret),[(.t 2)]⟩
theorem U_Q149:type_of% (sc_Q149.eq_1):=sc_Q149.eq_1
theorem comp_Q149:comp Tryz.prog Tryz.f149=some sc_Q149:=by kernel_rfl
def b_Q95_1:SC:=.seq (.reg [⟨some 9,none,.v (.bin .lss (.t 8) (.t 7))⟩]) (.seq (.cond (.t 9) .skip (.exit 0)) (.seq (.block 1 (.seq (.reg [⟨some 10,none,.v (.iaddr 1 (.t 6) (.t 8))⟩,⟨some 11,none,.v (.load none (.t 10))⟩,⟨some 5,none,.v (.mov (.t 11))⟩]) (.reg [⟨some 12,none,.v (.mov (.t 0))⟩,⟨some 13,none,.v (.mov (.t 0))⟩,⟨some 14,none,.v (.nchk (.t 13))⟩,⟨some 15,none,.v (.faddr 0 (.t 14))⟩,⟨some 16,none,.v (.load none (.t 15))⟩,⟨some 17,none,.v (.mov (.t 5))⟩,⟨some 18,none,.append 1 1 (.t 16) (.t 17)⟩,⟨some 19,none,.v (.nchk (.t 12))⟩,⟨some 20,none,.v (.faddr 0 (.t 19))⟩,⟨none,none,.store 1 (.t 20) (.t 18)⟩]))) (.reg [⟨some 21,none,.v (.bin .add (.t 8) (.c (.int .i64 1)))⟩,⟨some 8,none,.v (.mov (.t 21))⟩])))
def sc_Q95:SFunc:=⟨2,22,.seq (.reg [⟨some 6,none,.v (.mov (.t 1))⟩,⟨some 7,none,.v (.len false (.t 6))⟩,⟨some 8,none,.v (.mov (.c (.int .i64 0)))⟩]) (.block 0 (.loop b_Q95_1)),[]⟩
noncomputable def k_Q95_1 (SP:Prg) (x:EO):CO:=fin [] (inBlk 0 (x))
theorem U_Q95:type_of% (aI (ue b_Q95_1.eq_1)<|sc_Q95.eq_1):=aI (ue b_Q95_1.eq_1)<|sc_Q95.eq_1
theorem comp_Q95:comp Tryz.prog Tryz.f95=some sc_Q95:=by kernel_rfl
def c_Q146_1:SC:=.reg [⟨some 40,none,.v (.bin .add (.t 8) (.c (.int .i64 1)))⟩,⟨some 8,none,.v (.mov (.t 40))⟩]
def c_Q146_2:SC:=.cond (.t 25) (.reg [⟨some 29,none,.v (.mov (.t 0))⟩,⟨some 30,none,.v (.mov (.t 5))⟩,⟨some 31,none,.v (.conv (.int .i32) (.t 30))⟩,⟨some 32,none,.v (.conv .chr (.t 31))⟩,⟨some 33,none,.bslice 1 2 [(.str [])] [(0,(.c (.str [92]))),(1,(.t 32))]⟩,⟨some 34,none,.call (.c (.func 95 [])) [(.t 29),(.t 33)]⟩]) (.seq (.reg [⟨some 36,none,.v (.bin .eql (.t 14) (.c (.int .u8 10)))⟩,⟨some 35,none,.v (.mov (.t 36))⟩]) (.cond (.t 35) (.reg [⟨some 37,none,.v (.mov (.t 0))⟩,⟨some 38,none,.bslice 1 1 [(.str [])] [(0,(.c (.str [92,110])))]⟩,⟨some 39,none,.call (.c (.func 95 [])) [(.t 37),(.t 38)]⟩]) (.reg [⟨some 15,none,.v (.mov (.t 0))⟩,⟨some 16,none,.v (.mov (.t 0))⟩,⟨some 17,none,.v (.nchk (.t 16))⟩,⟨some 18,none,.v (.faddr 0 (.t 17))⟩,⟨some 19,none,.v (.load none (.t 18))⟩,⟨some 20,none,.v (.mov (.t 5))⟩,⟨some 21,none,.bslice 1 1 [(.int .u8 0)] [(0,(.t 20))]⟩,⟨some 22,none,.append 1 1 (.t 19) (.t 21)⟩,⟨some 23,none,.v (.nchk (.t 15))⟩,⟨some 24,none,.v (.faddr 0 (.t 23))⟩,⟨none,none,.store 1 (.t 24) (.t 22)⟩])))
def c_Q146_3:SC:=.block 2 (.seq (.seq (.reg [⟨some 26,none,.v (.bin .eql (.t 14) (.c (.int .u8 34)))⟩,⟨some 25,none,.v (.mov (.t 26))⟩]) (.cond (.t 25) .skip (.seq (.reg [⟨some 27,none,.v (.bin .eql (.t 14) (.c (.int .u8 92)))⟩,⟨some 25,none,.v (.mov (.t 27))⟩]) (.cond (.t 25) .skip (.reg [⟨some 28,none,.v (.bin .eql (.t 14) (.c (.int .u8 36)))⟩,⟨some 25,none,.v (.mov (.t 28))⟩]))))) c_Q146_2)
def c_Q146_4:SC:=.seq (.reg [⟨some 14,none,.v (.mov (.t 5))⟩]) c_Q146_3
def c_Q146_5:SC:=.seq (.reg [⟨some 11,none,.v (.mov (.t 1))⟩,⟨some 12,none,.v (.mov (.t 4))⟩,⟨some 13,none,.v (.istr (.t 11) (.t 12))⟩,⟨some 5,none,.v (.mov (.t 13))⟩]) c_Q146_4
def c_Q146_6:SC:=.seq (.block 1 (.seq (.reg [⟨some 10,none,.v (.mov (.t 8))⟩,⟨some 4,none,.v (.mov (.t 10))⟩]) c_Q146_5)) c_Q146_1
def c_Q146_7:SC:=.seq (.cond (.t 9) .skip (.exit 0)) c_Q146_6
def b_Q146_1:SC:=.seq (.reg [⟨some 9,none,.v (.bin .lss (.t 8) (.t 7))⟩]) c_Q146_7
def c_Q146_8:SC:=.block 0 (.loop b_Q146_1)
def sc_Q146:SFunc:=⟨2,41,.seq (.reg [⟨some 6,none,.v (.mov (.t 1))⟩,⟨some 7,none,.v (.len true (.t 6))⟩,⟨some 8,none,.v (.mov (.c (.int .i64 0)))⟩]) c_Q146_8,[]⟩
noncomputable def k_Q146_1 (SP:Prg) (x:EO):CO:=fin [] (inBlk 0 (x))
theorem U_Q146:type_of% (aI (ue c_Q146_1.eq_1)<|aI (ue c_Q146_2.eq_1)<|aI (ue c_Q146_3.eq_1)<|aI (ue c_Q146_4.eq_1)<|aI (ue c_Q146_5.eq_1)<|aI (ue c_Q146_6.eq_1)<|aI (ue c_Q146_7.eq_1)<|aI (ue b_Q146_1.eq_1)<|aI (ue c_Q146_8.eq_1)<|sc_Q146.eq_1):=aI (ue c_Q146_1.eq_1)<|aI (ue c_Q146_2.eq_1)<|aI (ue c_Q146_3.eq_1)<|aI (ue c_Q146_4.eq_1)<|aI (ue c_Q146_5.eq_1)<|aI (ue c_Q146_6.eq_1)<|aI (ue c_Q146_7.eq_1)<|aI (ue b_Q146_1.eq_1)<|aI (ue c_Q146_8.eq_1)<|sc_Q146.eq_1
theorem comp_Q146:comp Tryz.prog Tryz.f146=some sc_Q146:=by kernel_rfl
def c_Q107_1:SC:=.reg [⟨some 30,none,.v (.faddr 0 (.t 2))⟩,⟨some 31,none,.v (.load none (.t 30))⟩,⟨some 32,none,.bslice 1 1 [(.str [])] [(0,(.c (.str [34])))]⟩,⟨some 33,none,.call (.c (.func 95 [])) [(.t 31),(.t 32)]⟩]
def b_Q107_1:SC:=.seq (.reg [⟨some 13,none,.v (.bin .lss (.t 12) (.t 11))⟩]) (.seq (.cond (.t 13) .skip (.exit 0)) (.seq (.block 1 (.seq (.reg [⟨some 14,none,.v (.iaddr 2 (.t 10) (.t 12))⟩,⟨some 15,none,.v (.load (some 2) (.t 14))⟩,⟨some 5,none,.alloc [(.bool false),(.str [])]⟩,⟨none,none,.store 2 (.t 5) (.t 15)⟩]) (.seq (.reg [⟨some 16,none,.v (.faddr 0 (.t 5))⟩,⟨some 17,none,.v (.load none (.t 16))⟩]) (.cond (.t 17) (.reg [⟨some 18,none,.v (.faddr 0 (.t 2))⟩,⟨some 19,none,.v (.load none (.t 18))⟩,⟨some 20,none,.v (.faddr 1 (.t 5))⟩,⟨some 21,none,.v (.load none (.t 20))⟩,⟨some 22,none,.bslice 1 3 [(.str [])] [(0,(.c (.str [36,123]))),(1,(.t 21)),(2,(.c (.str [125])))]⟩,⟨some 23,none,.call (.c (.func 95 [])) [(.t 19),(.t 22)]⟩]) (.reg [⟨some 24,none,.v (.faddr 0 (.t 2))⟩,⟨some 25,none,.v (.load none (.t 24))⟩,⟨some 26,none,.v (.faddr 1 (.t 5))⟩,⟨some 27,none,.v (.load none (.t 26))⟩,⟨some 28,none,.call (.c (.func 146 [])) [(.t 25),(.t 27)]⟩]))))) (.reg [⟨some 29,none,.v (.bin .add (.t 12) (.c (.int .i64 1)))⟩,⟨some 12,none,.v (.mov (.t 29))⟩])))
def c_Q107_2:SC:=.seq (.seq (.reg [⟨some 10,none,.v (.mov (.t 1))⟩,⟨some 11,none,.v (.len false (.t 10))⟩,⟨some 12,none,.v (.mov (.c (.int .i64 0)))⟩]) (.block 0 (.loop b_Q107_1))) c_Q107_1
def c_Q107_3:SC:=.seq (.reg [⟨some 6,none,.v (.faddr 0 (.t 2))⟩,⟨some 7,none,.v (.load none (.t 6))⟩,⟨some 8,none,.bslice 1 1 [(.str [])] [(0,(.c (.str [34])))]⟩,⟨some 9,none,.call (.c (.func 95 [])) [(.t 7),(.t 8)]⟩]) c_Q107_2
def sc_Q107:SFunc:=⟨2,34,.seq (.reg [⟨some 2,none,.box (.t 0)⟩]) c_Q107_3,[]⟩
noncomputable def k_Q107_1 (SP:Prg) (x:EO):CO:=fin [] (thC SP (inBlk 0 (x)) c_Q107_1)
theorem U_Q107:type_of% (aI (ue c_Q107_1.eq_1)<|aI (ue b_Q107_1.eq_1)<|aI (ue c_Q107_2.eq_1)<|aI (ue c_Q107_3.eq_1)<|sc_Q107.eq_1):=aI (ue c_Q107_1.eq_1)<|aI (ue b_Q107_1.eq_1)<|aI (ue c_Q107_2.eq_1)<|aI (ue c_Q107_3.eq_1)<|sc_Q107.eq_1
theorem comp_Q107:comp Tryz.prog Tryz.f107=some sc_Q107:=by kernel_rfl
def sc_Q110:SFunc:=⟨3,29,.seq (.reg [⟨some 3,none,.box (.t 0)⟩]) (.seq (.seq (.reg [⟨some 6,none,.v (.faddr 1 (.t 3))⟩,⟨some 7,none,.v (.load none (.t 6))⟩,⟨some 8,none,.v (.mov (.t 1))⟩,⟨some 9,none,.v (.iaddr 5 (.t 7) (.t 8))⟩,⟨some 10,none,.v (.faddr 0 (.t 9))⟩,⟨some 11,none,.v (.load none (.t 10))⟩,⟨some 12,none,.call (.c (.func 148 [])) [(.t 11)]⟩,⟨some 13,none,.v (.mov (.t 2))⟩,⟨some 14,none,.v (.bin .geq (.t 12) (.t 13))⟩]) (.cond (.t 14) (.seq (.reg [⟨some 15,none,.v (.load (some 2) (.t 3))⟩,⟨some 16,none,.v (.mov (.t 1))⟩,⟨some 17,none,.call (.c (.func 69 [])) [(.t 15),(.t 16)]⟩]) .ret) .skip)) (.seq (.reg [⟨some 18,none,.v (.faddr 0 (.t 3))⟩,⟨some 19,none,.v (.load none (.t 18))⟩,⟨some 20,none,.bslice 1 1 [(.str [])] [(0,(.c (.str [40])))]⟩,⟨some 21,none,.call (.c (.func 95 [])) [(.t 19),(.t 20)]⟩]) (.seq (.reg [⟨some 22,none,.v (.load (some 2) (.t 3))⟩,⟨some 23,none,.v (.mov (.t 1))⟩,⟨some 24,none,.call (.c (.func 69 [])) [(.t 22),(.t 23)]⟩]) (.reg [⟨some 25,none,.v (.faddr 0 (.t 3))⟩,⟨some 26,none,.v (.load none (.t 25))⟩,⟨some 27,none,.bslice 1 1 [(.str [])] [(0,(.c (.str [41])))]⟩,⟨some 28,none,.call (.c (.func 95 [])) [(.t 26),(.t 27)]⟩])))),[]⟩
theorem U_Q110:type_of% (sc_Q110.eq_1):=sc_Q110.eq_1
theorem comp_Q110:comp Tryz.prog Tryz.f110=some sc_Q110:=by kernel_rfl
def b_Q109_1:SC:=.seq (.reg [⟨some 9,none,.v (.bin .lss (.t 8) (.t 7))⟩]) (.seq (.cond (.t 9) .skip (.exit 0)) (.seq (.block 1 (.seq (.reg [⟨some 10,none,.v (.mov (.t 8))⟩,⟨some 11,none,.v (.iaddr 1 (.t 6) (.t 8))⟩,⟨some 12,none,.v (.load none (.t 11))⟩,⟨some 4,none,.v (.mov (.t 10))⟩,⟨some 5,none,.v (.mov (.t 12))⟩]) (.seq (.seq (.reg [⟨some 13,none,.v (.mov (.t 4))⟩,⟨some 14,none,.v (.bin .gtr (.t 13) (.c (.int .i64 0)))⟩]) (.cond (.t 14) (.reg [⟨some 15,none,.v (.faddr 0 (.t 2))⟩,⟨some 16,none,.v (.load none (.t 15))⟩,⟨some 17,none,.bslice 1 1 [(.str [])] [(0,(.c (.str [44,32])))]⟩,⟨some 18,none,.call (.c (.func 95 [])) [(.t 16),(.t 17)]⟩]) .skip)) (.reg [⟨some 19,none,.v (.load (some 2) (.t 2))⟩,⟨some 20,none,.v (.mov (.t 5))⟩,⟨some 21,none,.call (.c (.func 69 [])) [(.t 19),(.t 20)]⟩])))) (.reg [⟨some 22,none,.v (.bin .add (.t 8) (.c (.int .i64 1)))⟩,⟨some 8,none,.v (.mov (.t 22))⟩])))
def sc_Q109:SFunc:=⟨2,23,.seq (.reg [⟨some 2,none,.box (.t 0)⟩]) (.seq (.reg [⟨some 6,none,.v (.mov (.t 1))⟩,⟨some 7,none,.v (.len false (.t 6))⟩,⟨some 8,none,.v (.mov (.c (.int .i64 0)))⟩]) (.block 0 (.loop b_Q109_1))),[]⟩
noncomputable def k_Q109_1 (SP:Prg) (x:EO):CO:=fin [] (inBlk 0 (x))
theorem U_Q109:type_of% (aI (ue b_Q109_1.eq_1)<|sc_Q109.eq_1):=aI (ue b_Q109_1.eq_1)<|sc_Q109.eq_1
theorem comp_Q109:comp Tryz.prog Tryz.f109=some sc_Q109:=by kernel_rfl
def c_Q111_1:SC:=.seq (.dreg [⟨some 14,none,.v (.load (some 2) (.t 2))⟩,⟨some 15,none,.v (.faddr 4 (.t 3))⟩,⟨some 16,none,.v (.load none (.t 15))⟩,⟨some 17,none,.v (.iaddr 1 (.t 16) (.c (.int .i64 0)))⟩,⟨some 18,none,.v (.load none (.t 17))⟩,⟨some 19,none,.v (.mov (.t 5))⟩,⟨some 20,none,.call (.c (.func 110 [])) [(.t 14),(.t 18),(.t 19)]⟩] [false,false,false,false,false,false,true]) (.seq (.dreg [⟨some 21,none,.v (.faddr 0 (.t 2))⟩,⟨some 22,none,.v (.load none (.t 21))⟩,⟨some 23,none,.v (.faddr 0 (.t 3))⟩,⟨some 24,none,.v (.load none (.t 23))⟩,⟨some 25,none,.call (.c (.func 149 [])) [(.t 24)]⟩,⟨some 26,none,.bslice 1 3 [(.str [])] [(0,(.c (.str [32]))),(1,(.t 25)),(2,(.c (.str [32])))]⟩,⟨some 27,none,.call (.c (.func 95 [])) [(.t 22),(.t 26)]⟩] [false,false,false,false,false,false,true]) (.dreg [⟨some 28,none,.v (.load (some 2) (.t 2))⟩,⟨some 29,none,.v (.faddr 4 (.t 3))⟩,⟨some 30,none,.v (.load none (.t 29))⟩,⟨some 31,none,.v (.iaddr 1 (.t 30) (.c (.int .i64 1)))⟩,⟨some 32,none,.v (.load none (.t 31))⟩,⟨some 33,none,.v (.mov (.t 4))⟩,⟨some 34,none,.v (.bin .add (.t 33) (.c (.int .i64 1)))⟩,⟨some 35,none,.call (.c (.func 110 [])) [(.t 28),(.t 32),(.t 34)]⟩] [false,false,false,false,false,false,false,true]))
def c_Q111_2:SC:=.seq (.seq (.reg [⟨some 10,none,.v (.mov (.t 4))⟩,⟨some 11,none,.v (.bin .eql (.t 10) (.c (.int .i64 3)))⟩]) (.cond (.t 11) (.reg [⟨some 12,none,.v (.mov (.t 5))⟩,⟨some 13,none,.v (.bin .add (.t 12) (.c (.int .i64 1)))⟩,⟨some 5,none,.v (.mov (.t 13))⟩]) .skip)) c_Q111_1
def c_Q111_3:SC:=.seq (.reg [⟨some 9,none,.v (.mov (.t 4))⟩,⟨some 5,none,.v (.mov (.t 9))⟩]) c_Q111_2
def c_Q111_4:SC:=.seq (.reg [⟨some 6,none,.v (.faddr 0 (.t 3))⟩,⟨some 7,none,.v (.load none (.t 6))⟩,⟨some 8,none,.call (.c (.func 148 [])) [(.t 7)]⟩,⟨some 4,none,.v (.mov (.t 8))⟩]) c_Q111_3
def sc_Q111:SFunc:=⟨2,36,.seq (.reg [⟨some 2,none,.box (.t 0)⟩,⟨some 3,none,.box (.t 1)⟩]) c_Q111_4,[]⟩
theorem U_Q111:type_of% (aI (ue c_Q111_1.eq_1)<|aI (ue c_Q111_2.eq_1)<|aI (ue c_Q111_3.eq_1)<|aI (ue c_Q111_4.eq_1)<|sc_Q111.eq_1):=aI (ue c_Q111_1.eq_1)<|aI (ue c_Q111_2.eq_1)<|aI (ue c_Q111_3.eq_1)<|aI (ue c_Q111_4.eq_1)<|sc_Q111.eq_1
theorem comp_Q111:comp Tryz.prog Tryz.f111=some sc_Q111:=by kernel_rfl
def c_Q69_1:SC:=.seq (.reg [⟨some 132,none,.v (.faddr 0 (.t 2))⟩,⟨some 133,none,.v (.load none (.t 132))⟩,⟨some 134,none,.bslice 1 1 [(.str [])] [(0,(.c (.str [32,63,32])))]⟩,⟨some 135,none,.call (.c (.func 95 [])) [(.t 133),(.t 134)]⟩]) (.seq (.dreg [⟨some 136,none,.v (.load (some 2) (.t 2))⟩,⟨some 137,none,.v (.faddr 4 (.t 4))⟩,⟨some 138,none,.v (.load none (.t 137))⟩,⟨some 139,none,.v (.iaddr 1 (.t 138) (.c (.int .i64 1)))⟩,⟨some 140,none,.v (.load none (.t 139))⟩,⟨some 141,none,.call (.c (.func 69 [])) [(.t 136),(.t 140)]⟩] [false,false,false,false,false,true]) (.seq (.reg [⟨some 142,none,.v (.faddr 0 (.t 2))⟩,⟨some 143,none,.v (.load none (.t 142))⟩,⟨some 144,none,.bslice 1 1 [(.str [])] [(0,(.c (.str [32,58,32])))]⟩,⟨some 145,none,.call (.c (.func 95 [])) [(.t 143),(.t 144)]⟩]) (.dreg [⟨some 146,none,.v (.load (some 2) (.t 2))⟩,⟨some 147,none,.v (.faddr 4 (.t 4))⟩,⟨some 148,none,.v (.load none (.t 147))⟩,⟨some 149,none,.v (.iaddr 1 (.t 148) (.c (.int .i64 2)))⟩,⟨some 150,none,.v (.load none (.t 149))⟩,⟨some 151,none,.call (.c (.func 69 [])) [(.t 146),(.t 150)]⟩] [false,false,false,false,false,true])))
def c_Q69_2:SC:=.cond (.t 124) (.seq (.dreg [⟨some 126,none,.v (.load (some 2) (.t 2))⟩,⟨some 127,none,.v (.faddr 4 (.t 4))⟩,⟨some 128,none,.v (.load none (.t 127))⟩,⟨some 129,none,.v (.iaddr 1 (.t 128) (.c (.int .i64 0)))⟩,⟨some 130,none,.v (.load none (.t 129))⟩,⟨some 131,none,.call (.c (.func 110 [])) [(.t 126),(.t 130),(.c (.int .i64 1))]⟩] [false,false,false,false,false,true]) c_Q69_1) (.reg [⟨some 12,none,.v (.load (some 2) (.t 2))⟩,⟨some 13,none,.v (.load (some 5) (.t 4))⟩,⟨some 14,none,.call (.c (.func 111 [])) [(.t 12),(.t 13)]⟩])
def c_Q69_3:SC:=.cond (.t 112) (.seq (.reg [⟨some 114,none,.v (.faddr 0 (.t 2))⟩,⟨some 115,none,.v (.load none (.t 114))⟩,⟨some 116,none,.bslice 1 1 [(.str [])] [(0,(.c (.str [45])))]⟩,⟨some 117,none,.call (.c (.func 95 [])) [(.t 115),(.t 116)]⟩]) (.dreg [⟨some 118,none,.v (.load (some 2) (.t 2))⟩,⟨some 119,none,.v (.faddr 4 (.t 4))⟩,⟨some 120,none,.v (.load none (.t 119))⟩,⟨some 121,none,.v (.iaddr 1 (.t 120) (.c (.int .i64 0)))⟩,⟨some 122,none,.v (.load none (.t 121))⟩,⟨some 123,none,.call (.c (.func 110 [])) [(.t 118),(.t 122),(.c (.int .i64 6))]⟩] [false,false,false,false,false,true])) (.seq (.reg [⟨some 125,none,.v (.bin .eql (.t 11) (.c (.int .i64 10)))⟩,⟨some 124,none,.v (.mov (.t 125))⟩]) c_Q69_2)
def c_Q69_4:SC:=.cond (.t 100) (.seq (.reg [⟨some 102,none,.v (.faddr 0 (.t 2))⟩,⟨some 103,none,.v (.load none (.t 102))⟩,⟨some 104,none,.bslice 1 1 [(.str [])] [(0,(.c (.str [33])))]⟩,⟨some 105,none,.call (.c (.func 95 [])) [(.t 103),(.t 104)]⟩]) (.dreg [⟨some 106,none,.v (.load (some 2) (.t 2))⟩,⟨some 107,none,.v (.faddr 4 (.t 4))⟩,⟨some 108,none,.v (.load none (.t 107))⟩,⟨some 109,none,.v (.iaddr 1 (.t 108) (.c (.int .i64 0)))⟩,⟨some 110,none,.v (.load none (.t 109))⟩,⟨some 111,none,.call (.c (.func 110 [])) [(.t 106),(.t 110),(.c (.int .i64 6))]⟩] [false,false,false,false,false,true])) (.seq (.reg [⟨some 113,none,.v (.bin .eql (.t 11) (.c (.int .i64 9)))⟩,⟨some 112,none,.v (.mov (.t 113))⟩]) c_Q69_3)
def c_Q69_5:SC:=.cond (.t 78) (.seq (.dreg [⟨some 80,none,.v (.load (some 2) (.t 2))⟩,⟨some 81,none,.v (.faddr 4 (.t 4))⟩,⟨some 82,none,.v (.load none (.t 81))⟩,⟨some 83,none,.v (.iaddr 1 (.t 82) (.c (.int .i64 0)))⟩,⟨some 84,none,.v (.load none (.t 83))⟩,⟨some 85,none,.call (.c (.func 110 [])) [(.t 80),(.t 84),(.c (.int .i64 7))]⟩] [false,false,false,false,false,true]) (.seq (.reg [⟨some 86,none,.v (.faddr 0 (.t 2))⟩,⟨some 87,none,.v (.load none (.t 86))⟩,⟨some 88,none,.bslice 1 1 [(.str [])] [(0,(.c (.str [91])))]⟩,⟨some 89,none,.call (.c (.func 95 [])) [(.t 87),(.t 88)]⟩]) (.seq (.dreg [⟨some 90,none,.v (.load (some 2) (.t 2))⟩,⟨some 91,none,.v (.faddr 4 (.t 4))⟩,⟨some 92,none,.v (.load none (.t 91))⟩,⟨some 93,none,.v (.iaddr 1 (.t 92) (.c (.int .i64 1)))⟩,⟨some 94,none,.v (.load none (.t 93))⟩,⟨some 95,none,.call (.c (.func 69 [])) [(.t 90),(.t 94)]⟩] [false,false,false,false,false,true]) (.reg [⟨some 96,none,.v (.faddr 0 (.t 2))⟩,⟨some 97,none,.v (.load none (.t 96))⟩,⟨some 98,none,.bslice 1 1 [(.str [])] [(0,(.c (.str [93])))]⟩,⟨some 99,none,.call (.c (.func 95 [])) [(.t 97),(.t 98)]⟩])))) (.seq (.reg [⟨some 101,none,.v (.bin .eql (.t 11) (.c (.int .i64 8)))⟩,⟨some 100,none,.v (.mov (.t 101))⟩]) c_Q69_4)
def c_Q69_6:SC:=.cond (.t 64) (.seq (.reg [⟨some 66,none,.v (.faddr 0 (.t 2))⟩,⟨some 67,none,.v (.load none (.t 66))⟩,⟨some 68,none,.bslice 1 1 [(.str [])] [(0,(.c (.str [91])))]⟩,⟨some 69,none,.call (.c (.func 95 [])) [(.t 67),(.t 68)]⟩]) (.seq (.reg [⟨some 70,none,.v (.load (some 2) (.t 2))⟩,⟨some 71,none,.v (.faddr 4 (.t 4))⟩,⟨some 72,none,.v (.load none (.t 71))⟩,⟨some 73,none,.call (.c (.func 109 [])) [(.t 70),(.t 72)]⟩]) (.reg [⟨some 74,none,.v (.faddr 0 (.t 2))⟩,⟨some 75,none,.v (.load none (.t 74))⟩,⟨some 76,none,.bslice 1 1 [(.str [])] [(0,(.c (.str [93])))]⟩,⟨some 77,none,.call (.c (.func 95 [])) [(.t 75),(.t 76)]⟩]))) (.seq (.reg [⟨some 79,none,.v (.bin .eql (.t 11) (.c (.int .i64 7)))⟩,⟨some 78,none,.v (.mov (.t 79))⟩]) c_Q69_5)
def c_Q69_7:SC:=.cond (.t 48) (.seq (.reg [⟨some 50,none,.v (.faddr 0 (.t 2))⟩,⟨some 51,none,.v (.load none (.t 50))⟩,⟨some 52,none,.v (.faddr 2 (.t 4))⟩,⟨some 53,none,.v (.load none (.t 52))⟩,⟨some 54,none,.bslice 1 2 [(.str [])] [(0,(.t 53)),(1,(.c (.str [40])))]⟩,⟨some 55,none,.call (.c (.func 95 [])) [(.t 51),(.t 54)]⟩]) (.seq (.reg [⟨some 56,none,.v (.load (some 2) (.t 2))⟩,⟨some 57,none,.v (.faddr 4 (.t 4))⟩,⟨some 58,none,.v (.load none (.t 57))⟩,⟨some 59,none,.call (.c (.func 109 [])) [(.t 56),(.t 58)]⟩]) (.reg [⟨some 60,none,.v (.faddr 0 (.t 2))⟩,⟨some 61,none,.v (.load none (.t 60))⟩,⟨some 62,none,.bslice 1 1 [(.str [])] [(0,(.c (.str [41])))]⟩,⟨some 63,none,.call (.c (.func 95 [])) [(.t 61),(.t 62)]⟩]))) (.seq (.reg [⟨some 65,none,.v (.bin .eql (.t 11) (.c (.int .i64 6)))⟩,⟨some 64,none,.v (.mov (.t 65))⟩]) c_Q69_6)
def c_Q69_8:SC:=.cond (.t 40) (.reg [⟨some 42,none,.v (.faddr 0 (.t 2))⟩,⟨some 43,none,.v (.load none (.t 42))⟩,⟨some 44,none,.v (.faddr 2 (.t 4))⟩,⟨some 45,none,.v (.load none (.t 44))⟩,⟨some 46,none,.bslice 1 1 [(.str [])] [(0,(.t 45))]⟩,⟨some 47,none,.call (.c (.func 95 [])) [(.t 43),(.t 46)]⟩]) (.seq (.reg [⟨some 49,none,.v (.bin .eql (.t 11) (.c (.int .i64 5)))⟩,⟨some 48,none,.v (.mov (.t 49))⟩]) c_Q69_7)
def c_Q69_9:SC:=.cond (.t 30) (.dreg [⟨some 32,none,.v (.faddr 0 (.t 2))⟩,⟨some 33,none,.v (.load none (.t 32))⟩,⟨some 34,none,.v (.faddr 1 (.t 4))⟩,⟨some 35,none,.v (.load none (.t 34))⟩,⟨some 36,none,.v (.bin .eql (.t 35) (.c (.int .i64 1)))⟩,⟨some 37,none,.call (.c (.func 108 [])) [(.t 36)]⟩,⟨some 38,none,.bslice 1 1 [(.str [])] [(0,(.t 37))]⟩,⟨some 39,none,.call (.c (.func 95 [])) [(.t 33),(.t 38)]⟩] [false,false,false,false,false,false,false,true]) (.seq (.reg [⟨some 41,none,.v (.bin .eql (.t 11) (.c (.int .i64 4)))⟩,⟨some 40,none,.v (.mov (.t 41))⟩]) c_Q69_8)
def c_Q69_10:SC:=.cond (.t 24) (.reg [⟨some 26,none,.v (.load (some 2) (.t 2))⟩,⟨some 27,none,.v (.faddr 3 (.t 4))⟩,⟨some 28,none,.v (.load none (.t 27))⟩,⟨some 29,none,.call (.c (.func 107 [])) [(.t 26),(.t 28)]⟩]) (.seq (.reg [⟨some 31,none,.v (.bin .eql (.t 11) (.c (.int .i64 3)))⟩,⟨some 30,none,.v (.mov (.t 31))⟩]) c_Q69_9)
def c_Q69_11:SC:=.cond (.t 15) (.dreg [⟨some 17,none,.v (.faddr 0 (.t 2))⟩,⟨some 18,none,.v (.load none (.t 17))⟩,⟨some 19,none,.v (.faddr 1 (.t 4))⟩,⟨some 20,none,.v (.load none (.t 19))⟩,⟨some 21,none,.call (.c (.func 106 [])) [(.t 20)]⟩,⟨some 22,none,.bslice 1 1 [(.str [])] [(0,(.t 21))]⟩,⟨some 23,none,.call (.c (.func 95 [])) [(.t 18),(.t 22)]⟩] [false,false,false,false,false,false,true]) (.seq (.reg [⟨some 25,none,.v (.bin .eql (.t 11) (.c (.int .i64 2)))⟩,⟨some 24,none,.v (.mov (.t 25))⟩]) c_Q69_10)
def c_Q69_12:SC:=.block 0 (.seq (.reg [⟨some 16,none,.v (.bin .eql (.t 11) (.c (.int .i64 1)))⟩,⟨some 15,none,.v (.mov (.t 16))⟩]) c_Q69_11)
def c_Q69_13:SC:=.seq (.reg [⟨some 10,none,.v (.faddr 0 (.t 4))⟩,⟨some 11,none,.v (.load none (.t 10))⟩]) c_Q69_12
def c_Q69_14:SC:=.seq (.reg [⟨some 5,none,.v (.faddr 1 (.t 2))⟩,⟨some 6,none,.v (.load none (.t 5))⟩,⟨some 7,none,.v (.mov (.t 1))⟩,⟨some 8,none,.v (.iaddr 5 (.t 6) (.t 7))⟩,⟨some 9,none,.v (.load (some 5) (.t 8))⟩,⟨some 4,none,.alloc [(.int .i64 0),(.int .i64 0),(.str []),(.nils 2),(.nils 1)]⟩,⟨none,none,.store 5 (.t 4) (.t 9)⟩]) c_Q69_13
def sc_Q69:SFunc:=⟨2,152,.seq (.reg [⟨some 2,none,.box (.t 0)⟩]) c_Q69_14,[]⟩
theorem U_Q69:type_of% (aI (ue c_Q69_1.eq_1)<|aI (ue c_Q69_2.eq_1)<|aI (ue c_Q69_3.eq_1)<|aI (ue c_Q69_4.eq_1)<|aI (ue c_Q69_5.eq_1)<|aI (ue c_Q69_6.eq_1)<|aI (ue c_Q69_7.eq_1)<|aI (ue c_Q69_8.eq_1)<|aI (ue c_Q69_9.eq_1)<|aI (ue c_Q69_10.eq_1)<|aI (ue c_Q69_11.eq_1)<|aI (ue c_Q69_12.eq_1)<|aI (ue c_Q69_13.eq_1)<|aI (ue c_Q69_14.eq_1)<|sc_Q69.eq_1):=aI (ue c_Q69_1.eq_1)<|aI (ue c_Q69_2.eq_1)<|aI (ue c_Q69_3.eq_1)<|aI (ue c_Q69_4.eq_1)<|aI (ue c_Q69_5.eq_1)<|aI (ue c_Q69_6.eq_1)<|aI (ue c_Q69_7.eq_1)<|aI (ue c_Q69_8.eq_1)<|aI (ue c_Q69_9.eq_1)<|aI (ue c_Q69_10.eq_1)<|aI (ue c_Q69_11.eq_1)<|aI (ue c_Q69_12.eq_1)<|aI (ue c_Q69_13.eq_1)<|aI (ue c_Q69_14.eq_1)<|sc_Q69.eq_1
theorem comp_Q69:comp Tryz.prog Tryz.f69=some sc_Q69:=by kernel_rfl
def sc_Q45:SFunc:=⟨2,11,.reg [⟨some 4,none,.v (.mov (.t 0))⟩,⟨some 5,none,.v (.mov (.t 1))⟩,⟨some 6,none,.v (.build [.nili,(.nils 5)] [(0,1,(.t 4)),(1,1,(.t 5))])⟩,⟨some 7,none,.v (.mov (.t 1))⟩,⟨some 8,none,.v (.len false (.t 7))⟩,⟨some 9,none,.v (.bin .sub (.t 8) (.c (.int .i64 1)))⟩,⟨some 10,none,.call (.c (.func 69 [])) [(.t 6),(.t 9)]⟩],[]⟩
theorem U_Q45:type_of% (sc_Q45.eq_1):=sc_Q45.eq_1
theorem comp_Q45:comp Tryz.prog Tryz.f45=some sc_Q45:=by kernel_rfl
def sc_Q23:SFunc:=⟨1,17,.seq (.reg [⟨some 2,none,.v (.mov (.c (.str [])))⟩]) (.seq (.seq (.reg [⟨some 4,none,.v (.mov (.t 0))⟩,⟨some 5,none,.call (.c (.func 26 [])) [(.t 4)]⟩,⟨some 6,none,.v (.un .not (.t 5))⟩]) (.cond (.t 6) (.seq (.reg [⟨some 2,none,.v (.mov (.c (.str [])))⟩]) .ret) .skip)) (.seq (.reg [⟨some 7,none,.v (.build [(.nils 1)] [])⟩,⟨some 8,none,.box (.t 7)⟩,⟨some 3,none,.v (.mov (.t 8))⟩]) (.seq (.reg [⟨some 9,none,.v (.mov (.t 3))⟩,⟨some 10,none,.v (.mov (.t 0))⟩,⟨some 11,none,.call (.c (.func 45 [])) [(.t 9),(.t 10)]⟩]) (.seq (.reg [⟨some 12,none,.v (.mov (.t 3))⟩,⟨some 13,none,.v (.nchk (.t 12))⟩,⟨some 14,none,.v (.faddr 0 (.t 13))⟩,⟨some 15,none,.v (.load none (.t 14))⟩,⟨some 16,none,.v (.conv .bytes (.t 15))⟩,⟨some 2,none,.v (.mov (.t 16))⟩]) .ret)))),[(.t 2)]⟩
theorem U_Q23:type_of% (sc_Q23.eq_1):=sc_Q23.eq_1
theorem comp_Q23:comp Tryz.prog Tryz.f23=some sc_Q23:=by kernel_rfl
end Go.Proofs.YtfbcnpbhhooapaaGreatDoor.M
namespace Go.Proofs.YtfbcnpbhhooapaaGreatDoor.M
set_option linter.unusedSimpArgs false
set_option linter.unusedVariables false
open Go Classical
theorem sp_Q148:SP 148=some (.code sc_Q148):=SPof_code rfl Tryz.func148 comp_Q148
theorem Q148_tree (kind:Int) (r:Int) (T :
  ((kind=10) →
  0=r) ∧
 (¬ (kind=10) →
  ((kind=11) →
   1=r) ∧
  (¬ (kind=11) →
   ((kind=12) →
    2=r) ∧
   (¬ (kind=12) →
    ((13≤kind) →
     ((kind≤18) →
      3=r) ∧
     (¬ (kind≤18) →
      ((kind=19) →
       4=r) ∧
      (¬ (kind=19) →
       ((kind=20) →
        4=r) ∧
       (¬ (kind=20) →
        ((21≤kind) →
         5=r) ∧
        (¬ (21≤kind) →
         ((kind=8) →
          6=r) ∧
         (¬ (kind=8) →
          ((kind=9) →
           6=r) ∧
          (¬ (kind=9) →
           7=r))))))) ∧
    (¬ (13≤kind) →
     ((kind=19) →
      4=r) ∧
     (¬ (kind=19) →
      ((kind=20) →
       4=r) ∧
      (¬ (kind=20) →
       ((21≤kind) →
        5=r) ∧
       (¬ (21≤kind) →
        ((kind=8) →
         6=r) ∧
        (¬ (kind=8) →
         ((kind=9) →
          6=r) ∧
         (¬ (kind=9) →
          7=r)))))))))):R_Q148 kind r:=by
 intro S
 rw[call_code sp_Q148 _ _ rfl]
 have F:=U_Q148
 by_cases c1:kind=10
 ·replace T:=T.1 c1
  obtain rfl:=T
  exact fi (aa (eq_true c1)<|F)
 replace T:=T.2 c1
 replace F:=aa (eq_false c1)<|F
 by_cases c2:kind=11
 ·replace T:=T.1 c2
  obtain rfl:=T
  exact fi (aa (eq_true c2)<|F)
 replace T:=T.2 c2
 replace F:=aa (eq_false c2)<|F
 by_cases c3:kind=12
 ·replace T:=T.1 c3
  obtain rfl:=T
  exact fi (aa (eq_true c3)<|F)
 replace T:=T.2 c3
 replace F:=aa (eq_false c3)<|F
 by_cases c4:13≤kind
 ·replace T:=T.1 c4
  replace F:=aa (eq_true c4)<|F
  by_cases c5:kind≤18
  ·replace T:=T.1 c5
   obtain rfl:=T
   exact fi (aa (eq_true c5)<|F)
  replace T:=T.2 c5
  replace F:=aa (eq_false c5)<|F
  by_cases c6:kind=19
  ·replace T:=T.1 c6
   obtain rfl:=T
   exact fi (aa (eq_true c6)<|F)
  replace T:=T.2 c6
  replace F:=aa (eq_false c6)<|F
  by_cases c7:kind=20
  ·replace T:=T.1 c7
   obtain rfl:=T
   exact fi (aa (eq_true c7)<|F)
  replace T:=T.2 c7
  replace F:=aa (eq_false c7)<|F
  by_cases c8:21≤kind
  ·replace T:=T.1 c8
   obtain rfl:=T
   exact fi (aa (eq_true c8)<|F)
  replace T:=T.2 c8
  replace F:=aa (eq_false c8)<|F
  by_cases c9:kind=8
  ·replace T:=T.1 c9
   obtain rfl:=T
   exact fi (aa (eq_true c9)<|F)
  replace T:=T.2 c9
  replace F:=aa (eq_false c9)<|F
  by_cases c10:kind=9
  ·replace T:=T.1 c10
   obtain rfl:=T
   exact fi (aa (eq_true c10)<|F)
  replace T:=T.2 c10
  obtain rfl:=T
  exact fi (aa (eq_false c10)<|F)
 replace T:=T.2 c4
 replace F:=aa (eq_false c4)<|F
 by_cases c11:kind=19
 ·replace T:=T.1 c11
  obtain rfl:=T
  exact fi (aa (eq_true c11)<|F)
 replace T:=T.2 c11
 replace F:=aa (eq_false c11)<|F
 by_cases c12:kind=20
 ·replace T:=T.1 c12
  obtain rfl:=T
  exact fi (aa (eq_true c12)<|F)
 replace T:=T.2 c12
 replace F:=aa (eq_false c12)<|F
 by_cases c13:21≤kind
 ·replace T:=T.1 c13
  obtain rfl:=T
  exact fi (aa (eq_true c13)<|F)
 replace T:=T.2 c13
 replace F:=aa (eq_false c13)<|F
 by_cases c14:kind=8
 ·replace T:=T.1 c14
  obtain rfl:=T
  exact fi (aa (eq_true c14)<|F)
 replace T:=T.2 c14
 replace F:=aa (eq_false c14)<|F
 by_cases c15:kind=9
 ·replace T:=T.1 c15
  obtain rfl:=T
  exact fi (aa (eq_true c15)<|F)
 replace T:=T.2 c15
 obtain rfl:=T
 exact fi (aa (eq_false c15)<|F)
theorem sp_Q149:SP 149=some (.code sc_Q149):=SPof_code rfl Tryz.func149 comp_Q149
theorem Q149_tree (kind:Int) (r:List UInt8) (T :
  (I64 (kind - 11)) ∧
 (0≤(kind - 11)) ∧
 ∃ (v1:List UInt8),(([[124,124],[38,38],[61,61],[33,61],[60],[60,61],[62],[62,61],[43],[45],[42],[47],[37]]:List (List UInt8))[(kind - 11).toNat]?=some v1) ∧
 v1=r):R_Q149 kind r:=by
 intro S
 rw[call_code sp_Q149 _ _ rfl]
 have F:=U_Q149
 obtain⟨p1,p2,v1,q3,rfl⟩:=T
 replace q3:=congrArg (Option.map eS) q3
 rw[←List.getElem?_map] at q3
 simp only[le,List.map_append,Option.map_some] at q3
 exact fi (aa p1.wrap<|aa p2<|aa q3<|F)
theorem sp_Q95:SP 95=some (.code sc_Q95):=SPof_code rfl Tryz.func95 comp_Q95
def At_Q95_1 (l_:List (List UInt8)) (i1:Int) (w2:SWriter) (g3:Nat) (z4:Bool) (w':SWriter) (w'_g0:Nat) (w'_z0:Bool):Prop:=∀ (S:Sto) (e:Nat→PV) (f:Fr) (n0 t0:Nat),((getBox S n0 t0).map (List.take 1)=some [.sl 0 (.cell t0 0) 0 w2.out.length w2.out.length g3 false]∧getArr S n0 (.cell t0 0)=some ⟨1,w2.out.map eB,z4,g3⟩)→e 0=.ptr (n0+1) t0 0∧e 6=.list 1 (l_.map eS) false∧e 7=.int .i64 (l_.length:Int)∧e 8=.int .i64 i1→k_Q95_1 SP (E SP (.loop b_Q95_1) ⟨e,f::S⟩)=.ok (.v (.tup [])) (setArr (setBox S n0 t0 ([.sl 0 (.cell t0 0) 0 w'.out.length w'.out.length w'_g0 false]++((getBox S n0 t0).getD []).drop 1)) n0 (.cell t0 0) ⟨1,w'.out.map eB,w'_z0,w'_g0⟩)
theorem At_Q95_1_step (l_:List (List UInt8)) (i1:Int) (w2:SWriter) (g3:Nat) (z4:Bool) (w':SWriter) (w'_g0:Nat) (w'_z0:Bool) (T :
  ((i1 < (l_.length:Int)) →
  (0≤i1) ∧
  ∃ (v5:List UInt8),(l_[i1.toNat]?=some v5) ∧
  (bigRow (w2.out.length+v5.length) 1) ∧
  (I64 (i1+1)) ∧
  At_Q95_1 l_ (i1+1) (SWriter.mk (w2.out++v5)) g3 z4 w' w'_g0 w'_z0) ∧
 (¬ (i1 < (l_.length:Int)) →
  w2=w'∧g3=w'_g0∧z4=w'_z0)):At_Q95_1 l_ i1 w2 g3 z4 w' w'_g0 w'_z0:=by
 intro S e f n0 t0 H0 h
 obtain⟨hb0,ha0⟩:=H0
 obtain⟨w0,hB0⟩:=take_some hb0
 have hn0:=o_getBox_lt hB0
 unfold k_Q95_1
 rw[E_loop]
 have F:=U_Q95
 replace F:=aa ha0<|aa hB0<|aa hn0<|aa h<|F
 by_cases c1:i1 < (l_.length:Int)
 ·replace T:=T.1 c1
  obtain⟨p2,v5,q3,p4,p5,T⟩:=T
  simp only[bigRow] at p4
  replace F:=aa (eq_true c1)<|aa p2<|aa q3<|aa p4<|aa p5.wrap<|F
  try simp only[F,lw,lx,le,Nat.reduceMul,UInt8.reduceToNat,reduceIte,reduceCtorEq,Nat.reduceEqDiff,Nat.reduceAdd,Nat.reduceLeDiff,Nat.reduceSub,Nat.reduceLT,Int.reduceEq,Int.reduceLT,Int.reduceLE,Int.reduceToNat,Int.reduceAdd,Int.reduceSub,Int.reduceMul,Int.reduceNeg]
  refine (T _ _ _ n0 t0 ?_ ?_).trans ?_
  all_goals exact fi F
 replace T:=T.2 c1
 obtain⟨rfl,rfl,rfl⟩:=T
 exact fi (aa (eq_false c1)<|F)
theorem Q95_tree (w:SWriter) (w_g0:Nat) (w_z0:Bool) (l_:List (List UInt8)) (w':SWriter) (w'_g0:Nat) (w'_z0:Bool) (T :
  At_Q95_1 l_ 0 w w_g0 w_z0 w' w'_g0 w'_z0):R_Q95 w w_g0 w_z0 l_ w' w'_g0 w'_z0:=by
 intro S n0 t0 H0
 obtain⟨hb0,ha0⟩:=H0
 obtain⟨w0,hB0⟩:=take_some hb0
 have hn0:=o_getBox_lt hB0
 rw[call_code sp_Q95 _ _ rfl]
 have F:=U_Q95
 replace F:=aa ha0<|aa hB0<|aa hn0<|F
 try simp only[F,lw,lx,le,Nat.reduceMul,UInt8.reduceToNat,reduceIte,reduceCtorEq,Nat.reduceEqDiff,Nat.reduceAdd,Nat.reduceLeDiff,Nat.reduceSub,Nat.reduceLT,Int.reduceEq,Int.reduceLT,Int.reduceLE,Int.reduceToNat,Int.reduceAdd,Int.reduceSub,Int.reduceMul,Int.reduceNeg]
 refine (T _ _ _ n0 t0 ?_ ?_).trans ?_
 all_goals exact fi F
theorem sp_Q146:SP 146=some (.code sc_Q146):=SPof_code rfl Tryz.func146 comp_Q146
def At_Q146_1 (s:List UInt8) (i1:Int) (w2:SWriter) (g3:Nat) (z4:Bool) (w':SWriter) (w'_g0:Nat) (w'_z0:Bool):Prop:=∀ (S:Sto) (e:Nat→PV) (f:Fr) (n0 t0:Nat),((getBox S n0 t0).map (List.take 1)=some [.sl 0 (.cell t0 0) 0 w2.out.length w2.out.length g3 false]∧getArr S n0 (.cell t0 0)=some ⟨1,w2.out.map eB,z4,g3⟩)→e 0=.ptr (n0+1) t0 0∧e 1=.str s∧e 7=.int .i64 (s.length:Int)∧e 8=.int .i64 i1→k_Q146_1 SP (E SP (.loop b_Q146_1) ⟨e,f::S⟩)=.ok (.v (.tup [])) (setArr (setBox S n0 t0 ([.sl 0 (.cell t0 0) 0 w'.out.length w'.out.length w'_g0 false]++((getBox S n0 t0).getD []).drop 1)) n0 (.cell t0 0) ⟨1,w'.out.map eB,w'_z0,w'_g0⟩)
theorem At_Q146_1_step (s:List UInt8) (i1:Int) (w2:SWriter) (g3:Nat) (z4:Bool) (w':SWriter) (w'_g0:Nat) (w'_z0:Bool) (T :
  ((i1 < (s.length:Int)) →
  (0≤i1) ∧
  ∃ (b5:UInt8),(s[i1.toNat]?=some b5) ∧
  (((b5.toNat:Int)=34) →
   (0≤(IntKind.i32.wrap ((b5.toNat:Int))))∧((IntKind.i32.wrap ((b5.toNat:Int))) < 128) ∧
   ∃ (y6:SWriter) (g7:Nat) (z8:Bool),(R_Q95 w2 g3 z4 [[92],[UInt8.ofNat ((IntKind.i32.wrap ((b5.toNat:Int)))).toNat]] y6 g7 z8) ∧
   (I64 (i1+1)) ∧
   At_Q146_1 s (i1+1) y6 g7 z8 w' w'_g0 w'_z0) ∧
  (¬ ((b5.toNat:Int)=34) →
   (((b5.toNat:Int)=92) →
    (0≤(IntKind.i32.wrap ((b5.toNat:Int))))∧((IntKind.i32.wrap ((b5.toNat:Int))) < 128) ∧
    ∃ (y9:SWriter) (g10:Nat) (z11:Bool),(R_Q95 w2 g3 z4 [[92],[UInt8.ofNat ((IntKind.i32.wrap ((b5.toNat:Int)))).toNat]] y9 g10 z11) ∧
    (I64 (i1+1)) ∧
    At_Q146_1 s (i1+1) y9 g10 z11 w' w'_g0 w'_z0) ∧
   (¬ ((b5.toNat:Int)=92) →
    (((b5.toNat:Int)=36) →
     (0≤(IntKind.i32.wrap ((b5.toNat:Int))))∧((IntKind.i32.wrap ((b5.toNat:Int))) < 128) ∧
     ∃ (y12:SWriter) (g13:Nat) (z14:Bool),(R_Q95 w2 g3 z4 [[92],[UInt8.ofNat ((IntKind.i32.wrap ((b5.toNat:Int)))).toNat]] y12 g13 z14) ∧
     (I64 (i1+1)) ∧
     At_Q146_1 s (i1+1) y12 g13 z14 w' w'_g0 w'_z0) ∧
    (¬ ((b5.toNat:Int)=36) →
     (((b5.toNat:Int)=10) →
      ∃ (y15:SWriter) (g16:Nat) (z17:Bool),(R_Q95 w2 g3 z4 [[92,110]] y15 g16 z17) ∧
      (I64 (i1+1)) ∧
      At_Q146_1 s (i1+1) y15 g16 z17 w' w'_g0 w'_z0) ∧
     (¬ ((b5.toNat:Int)=10) →
      (bigRow (w2.out.length+1) 1) ∧
      (I64 (i1+1)) ∧
      At_Q146_1 s (i1+1) (SWriter.mk (w2.out++[b5])) g3 z4 w' w'_g0 w'_z0))))) ∧
 (¬ (i1 < (s.length:Int)) →
  w2=w'∧g3=w'_g0∧z4=w'_z0)):At_Q146_1 s i1 w2 g3 z4 w' w'_g0 w'_z0:=by
 intro S e f n0 t0 H0 h
 obtain⟨hb0,ha0⟩:=H0
 obtain⟨w0,hB0⟩:=take_some hb0
 have hn0:=o_getBox_lt hB0
 unfold k_Q146_1
 rw[E_loop]
 have F:=U_Q146
 replace F:=aa ha0<|aa hB0<|aa hn0<|aa h<|F
 by_cases c1:i1 < (s.length:Int)
 ·replace T:=T.1 c1
  obtain⟨p2,b5,q3,T⟩:=T
  replace F:=aa (eq_true c1)<|aa p2<|aa q3<|F
  by_cases c4:(b5.toNat:Int)=34
  ·replace T:=T.1 c4
   obtain⟨p5,p6,y6,g7,z8,q7,p8,T⟩:=T
   simp only[R_Q95,lF] at q7
   replace F:=aa (eq_true c4)<|aa p5<|aa p6<|aa q7<|aa p8.wrap<|F
   try simp only[F,lw,lx,le,Nat.reduceMul,UInt8.reduceToNat,reduceIte,reduceCtorEq,Nat.reduceEqDiff,Nat.reduceAdd,Nat.reduceLeDiff,Nat.reduceSub,Nat.reduceLT,Int.reduceEq,Int.reduceLT,Int.reduceLE,Int.reduceToNat,Int.reduceAdd,Int.reduceSub,Int.reduceMul,Int.reduceNeg]
   refine (T _ _ _ n0 t0 ?_ ?_).trans ?_
   all_goals exact fi F
  replace T:=T.2 c4
  replace F:=aa (eq_false c4)<|F
  by_cases c9:(b5.toNat:Int)=92
  ·replace T:=T.1 c9
   obtain⟨p10,p11,y9,g10,z11,q12,p13,T⟩:=T
   simp only[R_Q95,lF] at q12
   replace F:=aa (eq_true c9)<|aa p10<|aa p11<|aa q12<|aa p13.wrap<|F
   try simp only[F,lw,lx,le,Nat.reduceMul,UInt8.reduceToNat,reduceIte,reduceCtorEq,Nat.reduceEqDiff,Nat.reduceAdd,Nat.reduceLeDiff,Nat.reduceSub,Nat.reduceLT,Int.reduceEq,Int.reduceLT,Int.reduceLE,Int.reduceToNat,Int.reduceAdd,Int.reduceSub,Int.reduceMul,Int.reduceNeg]
   refine (T _ _ _ n0 t0 ?_ ?_).trans ?_
   all_goals exact fi F
  replace T:=T.2 c9
  replace F:=aa (eq_false c9)<|F
  by_cases c14:(b5.toNat:Int)=36
  ·replace T:=T.1 c14
   obtain⟨p15,p16,y12,g13,z14,q17,p18,T⟩:=T
   simp only[R_Q95,lF] at q17
   replace F:=aa (eq_true c14)<|aa p15<|aa p16<|aa q17<|aa p18.wrap<|F
   try simp only[F,lw,lx,le,Nat.reduceMul,UInt8.reduceToNat,reduceIte,reduceCtorEq,Nat.reduceEqDiff,Nat.reduceAdd,Nat.reduceLeDiff,Nat.reduceSub,Nat.reduceLT,Int.reduceEq,Int.reduceLT,Int.reduceLE,Int.reduceToNat,Int.reduceAdd,Int.reduceSub,Int.reduceMul,Int.reduceNeg]
   refine (T _ _ _ n0 t0 ?_ ?_).trans ?_
   all_goals exact fi F
  replace T:=T.2 c14
  replace F:=aa (eq_false c14)<|F
  by_cases c19:(b5.toNat:Int)=10
  ·replace T:=T.1 c19
   obtain⟨y15,g16,z17,q20,p21,T⟩:=T
   simp only[R_Q95,lF] at q20
   replace F:=aa (eq_true c19)<|aa q20<|aa p21.wrap<|F
   try simp only[F,lw,lx,le,Nat.reduceMul,UInt8.reduceToNat,reduceIte,reduceCtorEq,Nat.reduceEqDiff,Nat.reduceAdd,Nat.reduceLeDiff,Nat.reduceSub,Nat.reduceLT,Int.reduceEq,Int.reduceLT,Int.reduceLE,Int.reduceToNat,Int.reduceAdd,Int.reduceSub,Int.reduceMul,Int.reduceNeg]
   refine (T _ _ _ n0 t0 ?_ ?_).trans ?_
   all_goals exact fi F
  replace T:=T.2 c19
  obtain⟨p22,p23,T⟩:=T
  simp only[bigRow] at p22
  replace F:=aa (eq_false c19)<|aa p22<|aa p23.wrap<|F
  try simp only[F,lw,lx,le,Nat.reduceMul,UInt8.reduceToNat,reduceIte,reduceCtorEq,Nat.reduceEqDiff,Nat.reduceAdd,Nat.reduceLeDiff,Nat.reduceSub,Nat.reduceLT,Int.reduceEq,Int.reduceLT,Int.reduceLE,Int.reduceToNat,Int.reduceAdd,Int.reduceSub,Int.reduceMul,Int.reduceNeg]
  refine (T _ _ _ n0 t0 ?_ ?_).trans ?_
  all_goals exact fi F
 replace T:=T.2 c1
 obtain⟨rfl,rfl,rfl⟩:=T
 exact fi (aa (eq_false c1)<|F)
theorem Q146_tree (w:SWriter) (w_g0:Nat) (w_z0:Bool) (s:List UInt8) (w':SWriter) (w'_g0:Nat) (w'_z0:Bool) (T :
  At_Q146_1 s 0 w w_g0 w_z0 w' w'_g0 w'_z0):R_Q146 w w_g0 w_z0 s w' w'_g0 w'_z0:=by
 intro S n0 t0 H0
 obtain⟨hb0,ha0⟩:=H0
 obtain⟨w0,hB0⟩:=take_some hb0
 have hn0:=o_getBox_lt hB0
 rw[call_code sp_Q146 _ _ rfl]
 have F:=U_Q146
 replace F:=aa ha0<|aa hB0<|aa hn0<|F
 try simp only[F,lw,lx,le,Nat.reduceMul,UInt8.reduceToNat,reduceIte,reduceCtorEq,Nat.reduceEqDiff,Nat.reduceAdd,Nat.reduceLeDiff,Nat.reduceSub,Nat.reduceLT,Int.reduceEq,Int.reduceLT,Int.reduceLE,Int.reduceToNat,Int.reduceAdd,Int.reduceSub,Int.reduceMul,Int.reduceNeg]
 refine (T _ _ _ n0 t0 ?_ ?_).trans ?_
 all_goals exact fi F
theorem sp_Q107:SP 107=some (.code sc_Q107):=SPof_code rfl Tryz.func107 comp_Q107
def At_Q107_1 (x_l:List Node) (l_:List Part) (i4:Int) (x5:SWriter) (g6:Nat) (z7:Bool) (x':SWriter) (x'_g0:Nat) (x'_z0:Bool):Prop:=∀ (S:Sto) (e:Nat→PV) (f:Fr) (n0 t0:Nat),((getBox S n0 t0).map (List.take 1)=some [.sl 0 (.cell t0 0) 0 x5.out.length x5.out.length g6 false]∧getArr S n0 (.cell t0 0)=some ⟨1,x5.out.map eB,z7,g6⟩)→e 2=.ptr 0 2 0∧e 10=.list 2 (l_.map ePart) false∧e 11=.int .i64 (l_.length:Int)∧e 12=.int .i64 i4∧f.box 2=some [.ptr (n0+1) t0 0,.list 5 (x_l.map eNode) false]→k_Q107_1 SP (E SP (.loop b_Q107_1) ⟨e,f::S⟩)=.ok (.v (.tup [])) (setArr (setBox S n0 t0 ([.sl 0 (.cell t0 0) 0 x'.out.length x'.out.length x'_g0 false]++((getBox S n0 t0).getD []).drop 1)) n0 (.cell t0 0) ⟨1,x'.out.map eB,x'_z0,x'_g0⟩)
theorem At_Q107_1_step (x_l:List Node) (l_:List Part) (i4:Int) (x5:SWriter) (g6:Nat) (z7:Bool) (x':SWriter) (x'_g0:Nat) (x'_z0:Bool) (T :
  ((i4 < (l_.length:Int)) →
  (0≤i4) ∧
  ∃ (v8:Part),(l_[i4.toNat]?=some v8) ∧
  ((v8.Ref=true) →
   ∃ (y9:SWriter) (g10:Nat) (z11:Bool),(R_Q95 x5 g6 z7 [[36,123],v8.Text,[125]] y9 g10 z11) ∧
   (I64 (i4+1)) ∧
   At_Q107_1 x_l l_ (i4+1) y9 g10 z11 x' x'_g0 x'_z0) ∧
  (¬ (v8.Ref=true) →
   ∃ (y12:SWriter) (g13:Nat) (z14:Bool),(R_Q146 x5 g6 z7 v8.Text y12 g13 z14) ∧
   (I64 (i4+1)) ∧
   At_Q107_1 x_l l_ (i4+1) y12 g13 z14 x' x'_g0 x'_z0)) ∧
 (¬ (i4 < (l_.length:Int)) →
  ∃ (y15:SWriter) (g16:Nat) (z17:Bool),(R_Q95 x5 g6 z7 [[34]] y15 g16 z17) ∧
  y15=x'∧g16=x'_g0∧z17=x'_z0)):At_Q107_1 x_l l_ i4 x5 g6 z7 x' x'_g0 x'_z0:=by
 intro S e f n0 t0 H0 h
 obtain⟨hb0,ha0⟩:=H0
 obtain⟨w0,hB0⟩:=take_some hb0
 have hn0:=o_getBox_lt hB0
 unfold k_Q107_1
 rw[E_loop]
 have F:=U_Q107
 replace F:=aa ha0<|aa hB0<|aa hn0<|aa h<|F
 by_cases c1:i4 < (l_.length:Int)
 ·replace T:=T.1 c1
  obtain⟨p2,v8,q3,T⟩:=T
  replace F:=aa (eq_true c1)<|aa p2<|aa q3<|F
  by_cases c4:v8.Ref=true
  ·replace T:=T.1 c4
   obtain⟨y9,g10,z11,q5,p6,T⟩:=T
   simp only[R_Q95,lF] at q5
   replace F:=aa c4<|aa q5<|aa p6.wrap<|F
   try simp only[F,lw,lx,le,Nat.reduceMul,UInt8.reduceToNat,reduceIte,reduceCtorEq,Nat.reduceEqDiff,Nat.reduceAdd,Nat.reduceLeDiff,Nat.reduceSub,Nat.reduceLT,Int.reduceEq,Int.reduceLT,Int.reduceLE,Int.reduceToNat,Int.reduceAdd,Int.reduceSub,Int.reduceMul,Int.reduceNeg]
   refine (T _ _ _ n0 t0 ?_ ?_).trans ?_
   all_goals exact fi F
  replace T:=T.2 c4
  replace c4:=Bool.eq_false_iff.2 c4
  obtain⟨y12,g13,z14,q7,p8,T⟩:=T
  simp only[R_Q146,lF] at q7
  replace F:=aa c4<|aa q7<|aa p8.wrap<|F
  try simp only[F,lw,lx,le,Nat.reduceMul,UInt8.reduceToNat,reduceIte,reduceCtorEq,Nat.reduceEqDiff,Nat.reduceAdd,Nat.reduceLeDiff,Nat.reduceSub,Nat.reduceLT,Int.reduceEq,Int.reduceLT,Int.reduceLE,Int.reduceToNat,Int.reduceAdd,Int.reduceSub,Int.reduceMul,Int.reduceNeg]
  refine (T _ _ _ n0 t0 ?_ ?_).trans ?_
  all_goals exact fi F
 replace T:=T.2 c1
 obtain⟨y15,g16,z17,q9,rfl,rfl,rfl⟩:=T
 simp only[R_Q95,lF] at q9
 exact fi (aa (eq_false c1)<|aa q9<|F)
theorem Q107_tree (x:SWriter) (x_g0:Nat) (x_z0:Bool) (x_l:List Node) (l_:List Part) (x':SWriter) (x'_g0:Nat) (x'_z0:Bool) (T :
  ∃ (y1:SWriter) (g2:Nat) (z3:Bool),(R_Q95 x x_g0 x_z0 [[34]] y1 g2 z3) ∧
 At_Q107_1 x_l l_ 0 y1 g2 z3 x' x'_g0 x'_z0):R_Q107 x x_g0 x_z0 x_l l_ x' x'_g0 x'_z0:=by
 intro S n0 t0 H0
 obtain⟨hb0,ha0⟩:=H0
 obtain⟨w0,hB0⟩:=take_some hb0
 have hn0:=o_getBox_lt hB0
 rw[call_code sp_Q107 _ _ rfl]
 have F:=U_Q107
 obtain⟨y1,g2,z3,q1,T⟩:=T
 simp only[R_Q95,lF] at q1
 replace F:=aa ha0<|aa hB0<|aa hn0<|aa q1<|F
 try simp only[F,lw,lx,le,Nat.reduceMul,UInt8.reduceToNat,reduceIte,reduceCtorEq,Nat.reduceEqDiff,Nat.reduceAdd,Nat.reduceLeDiff,Nat.reduceSub,Nat.reduceLT,Int.reduceEq,Int.reduceLT,Int.reduceLE,Int.reduceToNat,Int.reduceAdd,Int.reduceSub,Int.reduceMul,Int.reduceNeg]
 refine (T _ _ _ n0 t0 ?_ ?_).trans ?_
 all_goals exact fi F
theorem sp_Q110:SP 110=some (.code sc_Q110):=SPof_code rfl Tryz.func110 comp_Q110
theorem Q110_tree (x:SWriter) (x_g0:Nat) (x_z0:Bool) (x_l:List Node) (at_:Int) (least:Int) (x':SWriter) (x'_g0:Nat) (x'_z0:Bool) (T :
  (0≤at_) ∧
 ∃ (v1:Node),(x_l[at_.toNat]?=some v1) ∧
 ∃ (r2:Int),(R_Q148 v1.Kind r2) ∧
 ((least≤r2) →
  ∃ (y3:SWriter) (g4:Nat) (z5:Bool),(R_Q69 x x_g0 x_z0 x_l at_ y3 g4 z5) ∧
  y3=x'∧g4=x'_g0∧z5=x'_z0) ∧
 (¬ (least≤r2) →
  ∃ (y6:SWriter) (g7:Nat) (z8:Bool),(R_Q95 x x_g0 x_z0 [[40]] y6 g7 z8) ∧
  ∃ (y9:SWriter) (g10:Nat) (z11:Bool),(R_Q69 y6 g7 z8 x_l at_ y9 g10 z11) ∧
  ∃ (y12:SWriter) (g13:Nat) (z14:Bool),(R_Q95 y9 g10 z11 [[41]] y12 g13 z14) ∧
  y12=x'∧g13=x'_g0∧z14=x'_z0)):R_Q110 x x_g0 x_z0 x_l at_ least x' x'_g0 x'_z0:=by
 intro S n0 t0 H0
 obtain⟨hb0,ha0⟩:=H0
 obtain⟨w0,hB0⟩:=take_some hb0
 have hn0:=o_getBox_lt hB0
 rw[call_code sp_Q110 _ _ rfl]
 have F:=U_Q110
 obtain⟨p1,v1,q2,r2,q3,T⟩:=T
 simp only[R_Q148,lF] at q3
 replace F:=aa ha0<|aa hB0<|aa hn0<|aa p1<|aa q2<|aa q3<|F
 by_cases c4:least≤r2
 ·replace T:=T.1 c4
  obtain⟨y3,g4,z5,q5,rfl,rfl,rfl⟩:=T
  simp only[R_Q69,lF] at q5
  exact fi (aa (eq_true c4)<|aa q5<|F)
 replace T:=T.2 c4
 obtain⟨y6,g7,z8,q6,y9,g10,z11,q7,y12,g13,z14,q8,rfl,rfl,rfl⟩:=T
 simp only[R_Q95,lF] at q6
 simp only[R_Q69,lF] at q7
 simp only[R_Q95,lF] at q8
 exact fi (aa (eq_false c4)<|aa q6<|aa q7<|aa q8<|F)
theorem sp_Q109:SP 109=some (.code sc_Q109):=SPof_code rfl Tryz.func109 comp_Q109
def At_Q109_1 (x_l:List Node) (l_:List Int) (i1:Int) (x2:SWriter) (g3:Nat) (z4:Bool) (x':SWriter) (x'_g0:Nat) (x'_z0:Bool):Prop:=∀ (S:Sto) (e:Nat→PV) (f:Fr) (n0 t0:Nat),((getBox S n0 t0).map (List.take 1)=some [.sl 0 (.cell t0 0) 0 x2.out.length x2.out.length g3 false]∧getArr S n0 (.cell t0 0)=some ⟨1,x2.out.map eB,z4,g3⟩)→e 2=.ptr 0 2 0∧e 6=.list 1 (l_.map eI) false∧e 7=.int .i64 (l_.length:Int)∧e 8=.int .i64 i1∧f.box 2=some [.ptr (n0+1) t0 0,.list 5 (x_l.map eNode) false]→k_Q109_1 SP (E SP (.loop b_Q109_1) ⟨e,f::S⟩)=.ok (.v (.tup [])) (setArr (setBox S n0 t0 ([.sl 0 (.cell t0 0) 0 x'.out.length x'.out.length x'_g0 false]++((getBox S n0 t0).getD []).drop 1)) n0 (.cell t0 0) ⟨1,x'.out.map eB,x'_z0,x'_g0⟩)
theorem At_Q109_1_step (x_l:List Node) (l_:List Int) (i1:Int) (x2:SWriter) (g3:Nat) (z4:Bool) (x':SWriter) (x'_g0:Nat) (x'_z0:Bool) (T :
  ((i1 < (l_.length:Int)) →
  (0≤i1) ∧
  ∃ (v5:Int),(l_[i1.toNat]?=some v5) ∧
  ((0 < i1) →
   ∃ (y6:SWriter) (g7:Nat) (z8:Bool),(R_Q95 x2 g3 z4 [[44,32]] y6 g7 z8) ∧
   ∃ (y9:SWriter) (g10:Nat) (z11:Bool),(R_Q69 y6 g7 z8 x_l v5 y9 g10 z11) ∧
   (I64 (i1+1)) ∧
   At_Q109_1 x_l l_ (i1+1) y9 g10 z11 x' x'_g0 x'_z0) ∧
  (¬ (0 < i1) →
   ∃ (y12:SWriter) (g13:Nat) (z14:Bool),(R_Q69 x2 g3 z4 x_l v5 y12 g13 z14) ∧
   (I64 (i1+1)) ∧
   At_Q109_1 x_l l_ (i1+1) y12 g13 z14 x' x'_g0 x'_z0)) ∧
 (¬ (i1 < (l_.length:Int)) →
  x2=x'∧g3=x'_g0∧z4=x'_z0)):At_Q109_1 x_l l_ i1 x2 g3 z4 x' x'_g0 x'_z0:=by
 intro S e f n0 t0 H0 h
 obtain⟨hb0,ha0⟩:=H0
 obtain⟨w0,hB0⟩:=take_some hb0
 have hn0:=o_getBox_lt hB0
 unfold k_Q109_1
 rw[E_loop]
 have F:=U_Q109
 replace F:=aa ha0<|aa hB0<|aa hn0<|aa h<|F
 by_cases c1:i1 < (l_.length:Int)
 ·replace T:=T.1 c1
  obtain⟨p2,v5,q3,T⟩:=T
  replace F:=aa (eq_true c1)<|aa p2<|aa q3<|F
  by_cases c4:0 < i1
  ·replace T:=T.1 c4
   obtain⟨y6,g7,z8,q5,y9,g10,z11,q6,p7,T⟩:=T
   simp only[R_Q95,lF] at q5
   simp only[R_Q69,lF] at q6
   replace F:=aa (eq_true c4)<|aa q5<|aa q6<|aa p7.wrap<|F
   try simp only[F,lw,lx,le,Nat.reduceMul,UInt8.reduceToNat,reduceIte,reduceCtorEq,Nat.reduceEqDiff,Nat.reduceAdd,Nat.reduceLeDiff,Nat.reduceSub,Nat.reduceLT,Int.reduceEq,Int.reduceLT,Int.reduceLE,Int.reduceToNat,Int.reduceAdd,Int.reduceSub,Int.reduceMul,Int.reduceNeg]
   refine (T _ _ _ n0 t0 ?_ ?_).trans ?_
   all_goals exact fi F
  replace T:=T.2 c4
  obtain⟨y12,g13,z14,q8,p9,T⟩:=T
  simp only[R_Q69,lF] at q8
  replace F:=aa (eq_false c4)<|aa q8<|aa p9.wrap<|F
  try simp only[F,lw,lx,le,Nat.reduceMul,UInt8.reduceToNat,reduceIte,reduceCtorEq,Nat.reduceEqDiff,Nat.reduceAdd,Nat.reduceLeDiff,Nat.reduceSub,Nat.reduceLT,Int.reduceEq,Int.reduceLT,Int.reduceLE,Int.reduceToNat,Int.reduceAdd,Int.reduceSub,Int.reduceMul,Int.reduceNeg]
  refine (T _ _ _ n0 t0 ?_ ?_).trans ?_
  all_goals exact fi F
 replace T:=T.2 c1
 obtain⟨rfl,rfl,rfl⟩:=T
 exact fi (aa (eq_false c1)<|F)
theorem Q109_tree (x:SWriter) (x_g0:Nat) (x_z0:Bool) (x_l:List Node) (l_:List Int) (x':SWriter) (x'_g0:Nat) (x'_z0:Bool) (T :
  At_Q109_1 x_l l_ 0 x x_g0 x_z0 x' x'_g0 x'_z0):R_Q109 x x_g0 x_z0 x_l l_ x' x'_g0 x'_z0:=by
 intro S n0 t0 H0
 obtain⟨hb0,ha0⟩:=H0
 obtain⟨w0,hB0⟩:=take_some hb0
 have hn0:=o_getBox_lt hB0
 rw[call_code sp_Q109 _ _ rfl]
 have F:=U_Q109
 replace F:=aa ha0<|aa hB0<|aa hn0<|F
 try simp only[F,lw,lx,le,Nat.reduceMul,UInt8.reduceToNat,reduceIte,reduceCtorEq,Nat.reduceEqDiff,Nat.reduceAdd,Nat.reduceLeDiff,Nat.reduceSub,Nat.reduceLT,Int.reduceEq,Int.reduceLT,Int.reduceLE,Int.reduceToNat,Int.reduceAdd,Int.reduceSub,Int.reduceMul,Int.reduceNeg]
 refine (T _ _ _ n0 t0 ?_ ?_).trans ?_
 all_goals exact fi F
theorem sp_Q111:SP 111=some (.code sc_Q111):=SPof_code rfl Tryz.func111 comp_Q111
theorem Q111_tree (x:SWriter) (x_g0:Nat) (x_z0:Bool) (x_l:List Node) (n:Node) (x':SWriter) (x'_g0:Nat) (x'_z0:Bool) (T :
  ∃ (r1:Int),(R_Q148 n.Kind r1) ∧
 ((r1=3) →
  (I64 (r1+1)) ∧
  ∃ (v2:Int),(n.Kids[0]?=some v2) ∧
  ∃ (y3:SWriter) (g4:Nat) (z5:Bool),(R_Q110 x x_g0 x_z0 x_l v2 (r1+1) y3 g4 z5) ∧
  ∃ (r6:List UInt8),(R_Q149 n.Kind r6) ∧
  ∃ (y7:SWriter) (g8:Nat) (z9:Bool),(R_Q95 y3 g4 z5 [[32],r6,[32]] y7 g8 z9) ∧
  ∃ (v10:Int),(n.Kids[1]?=some v10) ∧
  (I64 (r1+1)) ∧
  ∃ (y11:SWriter) (g12:Nat) (z13:Bool),(R_Q110 y7 g8 z9 x_l v10 (r1+1) y11 g12 z13) ∧
  y11=x'∧g12=x'_g0∧z13=x'_z0) ∧
 (¬ (r1=3) →
  ∃ (v14:Int),(n.Kids[0]?=some v14) ∧
  ∃ (y15:SWriter) (g16:Nat) (z17:Bool),(R_Q110 x x_g0 x_z0 x_l v14 r1 y15 g16 z17) ∧
  ∃ (r18:List UInt8),(R_Q149 n.Kind r18) ∧
  ∃ (y19:SWriter) (g20:Nat) (z21:Bool),(R_Q95 y15 g16 z17 [[32],r18,[32]] y19 g20 z21) ∧
  ∃ (v22:Int),(n.Kids[1]?=some v22) ∧
  (I64 (r1+1)) ∧
  ∃ (y23:SWriter) (g24:Nat) (z25:Bool),(R_Q110 y19 g20 z21 x_l v22 (r1+1) y23 g24 z25) ∧
  y23=x'∧g24=x'_g0∧z25=x'_z0)):R_Q111 x x_g0 x_z0 x_l n x' x'_g0 x'_z0:=by
 intro S n0 t0 H0
 obtain⟨hb0,ha0⟩:=H0
 obtain⟨w0,hB0⟩:=take_some hb0
 have hn0:=o_getBox_lt hB0
 rw[call_code sp_Q111 _ _ rfl]
 have F:=U_Q111
 obtain⟨r1,q1,T⟩:=T
 simp only[R_Q148,lF] at q1
 replace F:=aa ha0<|aa hB0<|aa hn0<|aa q1<|F
 by_cases c2:r1=3
 ·replace T:=T.1 c2
  obtain⟨p3,v2,q4,y3,g4,z5,q5,r6,q6,y7,g8,z9,q7,v10,q8,p9,y11,g12,z13,q10,rfl,rfl,rfl⟩:=T
  simp only[R_Q110,lF] at q5
  simp only[R_Q149,lF] at q6
  simp only[R_Q95,lF] at q7
  simp only[R_Q110,lF] at q10
  exact fi (aa (eq_true c2)<|aa p3.wrap<|aa q4<|aa q5<|aa q6<|aa q7<|aa q8<|aa p9.wrap<|aa q10<|F)
 replace T:=T.2 c2
 obtain⟨v14,q11,y15,g16,z17,q12,r18,q13,y19,g20,z21,q14,v22,q15,p16,y23,g24,z25,q17,rfl,rfl,rfl⟩:=T
 simp only[R_Q110,lF] at q12
 simp only[R_Q149,lF] at q13
 simp only[R_Q95,lF] at q14
 simp only[R_Q110,lF] at q17
 exact fi (aa (eq_false c2)<|aa q11<|aa q12<|aa q13<|aa q14<|aa q15<|aa p16.wrap<|aa q17<|F)
theorem sp_Q69:SP 69=some (.code sc_Q69):=SPof_code rfl Tryz.func69 comp_Q69
theorem Q69_tree (x:SWriter) (x_g0:Nat) (x_z0:Bool) (x_l:List Node) (at_:Int) (x':SWriter) (x'_g0:Nat) (x'_z0:Bool) (T :
  (0≤at_) ∧
 ∃ (v1:Node),(x_l[at_.toNat]?=some v1) ∧
 ((v1.Kind=1) →
  ∃ (r2:List UInt8),(R_strconv_Itoa v1.Num r2) ∧
  ∃ (y3:SWriter) (g4:Nat) (z5:Bool),(R_Q95 x x_g0 x_z0 [r2] y3 g4 z5) ∧
  y3=x'∧g4=x'_g0∧z5=x'_z0) ∧
 (¬ (v1.Kind=1) →
  ((v1.Kind=2) →
   ∃ (y6:SWriter) (g7:Nat) (z8:Bool),(R_Q107 x x_g0 x_z0 x_l v1.Parts y6 g7 z8) ∧
   y6=x'∧g7=x'_g0∧z8=x'_z0) ∧
  (¬ (v1.Kind=2) →
   ((v1.Kind=3) →
    ∃ (r9:List UInt8),(R_strconv_FormatBool (decide (v1.Num=1)) r9) ∧
    ∃ (y10:SWriter) (g11:Nat) (z12:Bool),(R_Q95 x x_g0 x_z0 [r9] y10 g11 z12) ∧
    y10=x'∧g11=x'_g0∧z12=x'_z0) ∧
   (¬ (v1.Kind=3) →
    ((v1.Kind=4) →
     ∃ (y13:SWriter) (g14:Nat) (z15:Bool),(R_Q95 x x_g0 x_z0 [v1.Text] y13 g14 z15) ∧
     y13=x'∧g14=x'_g0∧z15=x'_z0) ∧
    (¬ (v1.Kind=4) →
     ((v1.Kind=5) →
      ∃ (y16:SWriter) (g17:Nat) (z18:Bool),(R_Q95 x x_g0 x_z0 [v1.Text,[40]] y16 g17 z18) ∧
      ∃ (y19:SWriter) (g20:Nat) (z21:Bool),(R_Q109 y16 g17 z18 x_l v1.Kids y19 g20 z21) ∧
      ∃ (y22:SWriter) (g23:Nat) (z24:Bool),(R_Q95 y19 g20 z21 [[41]] y22 g23 z24) ∧
      y22=x'∧g23=x'_g0∧z24=x'_z0) ∧
     (¬ (v1.Kind=5) →
      ((v1.Kind=6) →
       ∃ (y25:SWriter) (g26:Nat) (z27:Bool),(R_Q95 x x_g0 x_z0 [[91]] y25 g26 z27) ∧
       ∃ (y28:SWriter) (g29:Nat) (z30:Bool),(R_Q109 y25 g26 z27 x_l v1.Kids y28 g29 z30) ∧
       ∃ (y31:SWriter) (g32:Nat) (z33:Bool),(R_Q95 y28 g29 z30 [[93]] y31 g32 z33) ∧
       y31=x'∧g32=x'_g0∧z33=x'_z0) ∧
      (¬ (v1.Kind=6) →
       ((v1.Kind=7) →
        ∃ (v34:Int),(v1.Kids[0]?=some v34) ∧
        ∃ (y35:SWriter) (g36:Nat) (z37:Bool),(R_Q110 x x_g0 x_z0 x_l v34 7 y35 g36 z37) ∧
        ∃ (y38:SWriter) (g39:Nat) (z40:Bool),(R_Q95 y35 g36 z37 [[91]] y38 g39 z40) ∧
        ∃ (v41:Int),(v1.Kids[1]?=some v41) ∧
        ∃ (y42:SWriter) (g43:Nat) (z44:Bool),(R_Q69 y38 g39 z40 x_l v41 y42 g43 z44) ∧
        ∃ (y45:SWriter) (g46:Nat) (z47:Bool),(R_Q95 y42 g43 z44 [[93]] y45 g46 z47) ∧
        y45=x'∧g46=x'_g0∧z47=x'_z0) ∧
       (¬ (v1.Kind=7) →
        ((v1.Kind=8) →
         ∃ (y48:SWriter) (g49:Nat) (z50:Bool),(R_Q95 x x_g0 x_z0 [[33]] y48 g49 z50) ∧
         ∃ (v51:Int),(v1.Kids[0]?=some v51) ∧
         ∃ (y52:SWriter) (g53:Nat) (z54:Bool),(R_Q110 y48 g49 z50 x_l v51 6 y52 g53 z54) ∧
         y52=x'∧g53=x'_g0∧z54=x'_z0) ∧
        (¬ (v1.Kind=8) →
         ((v1.Kind=9) →
          ∃ (y55:SWriter) (g56:Nat) (z57:Bool),(R_Q95 x x_g0 x_z0 [[45]] y55 g56 z57) ∧
          ∃ (v58:Int),(v1.Kids[0]?=some v58) ∧
          ∃ (y59:SWriter) (g60:Nat) (z61:Bool),(R_Q110 y55 g56 z57 x_l v58 6 y59 g60 z61) ∧
          y59=x'∧g60=x'_g0∧z61=x'_z0) ∧
         (¬ (v1.Kind=9) →
          ((v1.Kind=10) →
           ∃ (v62:Int),(v1.Kids[0]?=some v62) ∧
           ∃ (y63:SWriter) (g64:Nat) (z65:Bool),(R_Q110 x x_g0 x_z0 x_l v62 1 y63 g64 z65) ∧
           ∃ (y66:SWriter) (g67:Nat) (z68:Bool),(R_Q95 y63 g64 z65 [[32,63,32]] y66 g67 z68) ∧
           ∃ (v69:Int),(v1.Kids[1]?=some v69) ∧
           ∃ (y70:SWriter) (g71:Nat) (z72:Bool),(R_Q69 y66 g67 z68 x_l v69 y70 g71 z72) ∧
           ∃ (y73:SWriter) (g74:Nat) (z75:Bool),(R_Q95 y70 g71 z72 [[32,58,32]] y73 g74 z75) ∧
           ∃ (v76:Int),(v1.Kids[2]?=some v76) ∧
           ∃ (y77:SWriter) (g78:Nat) (z79:Bool),(R_Q69 y73 g74 z75 x_l v76 y77 g78 z79) ∧
           y77=x'∧g78=x'_g0∧z79=x'_z0) ∧
          (¬ (v1.Kind=10) →
           ∃ (y80:SWriter) (g81:Nat) (z82:Bool),(R_Q111 x x_g0 x_z0 x_l v1 y80 g81 z82) ∧
           y80=x'∧g81=x'_g0∧z82=x'_z0))))))))))):R_Q69 x x_g0 x_z0 x_l at_ x' x'_g0 x'_z0:=by
 intro S n0 t0 H0
 obtain⟨hb0,ha0⟩:=H0
 obtain⟨w0,hB0⟩:=take_some hb0
 have hn0:=o_getBox_lt hB0
 rw[call_code sp_Q69 _ _ rfl]
 have F:=U_Q69
 obtain⟨p1,v1,q2,T⟩:=T
 replace F:=aa ha0<|aa hB0<|aa hn0<|aa p1<|aa q2<|F
 by_cases c3:v1.Kind=1
 ·replace T:=T.1 c3
  obtain⟨r2,q4,y3,g4,z5,q5,rfl,rfl,rfl⟩:=T
  simp only[R_strconv_Itoa,lF] at q4
  simp only[R_Q95,lF] at q5
  exact fi (aa (eq_true c3)<|aa q4<|aa q5<|F)
 replace T:=T.2 c3
 replace F:=aa (eq_false c3)<|F
 by_cases c6:v1.Kind=2
 ·replace T:=T.1 c6
  obtain⟨y6,g7,z8,q7,rfl,rfl,rfl⟩:=T
  simp only[R_Q107,lF] at q7
  exact fi (aa (eq_true c6)<|aa q7<|F)
 replace T:=T.2 c6
 replace F:=aa (eq_false c6)<|F
 by_cases c8:v1.Kind=3
 ·replace T:=T.1 c8
  obtain⟨r9,q9,y10,g11,z12,q10,rfl,rfl,rfl⟩:=T
  simp only[R_strconv_FormatBool,lF] at q9
  simp only[R_Q95,lF] at q10
  exact fi (aa (eq_true c8)<|aa q9<|aa q10<|F)
 replace T:=T.2 c8
 replace F:=aa (eq_false c8)<|F
 by_cases c11:v1.Kind=4
 ·replace T:=T.1 c11
  obtain⟨y13,g14,z15,q12,rfl,rfl,rfl⟩:=T
  simp only[R_Q95,lF] at q12
  exact fi (aa (eq_true c11)<|aa q12<|F)
 replace T:=T.2 c11
 replace F:=aa (eq_false c11)<|F
 by_cases c13:v1.Kind=5
 ·replace T:=T.1 c13
  obtain⟨y16,g17,z18,q14,y19,g20,z21,q15,y22,g23,z24,q16,rfl,rfl,rfl⟩:=T
  simp only[R_Q95,lF] at q14
  simp only[R_Q109,lF] at q15
  simp only[R_Q95,lF] at q16
  exact fi (aa (eq_true c13)<|aa q14<|aa q15<|aa q16<|F)
 replace T:=T.2 c13
 replace F:=aa (eq_false c13)<|F
 by_cases c17:v1.Kind=6
 ·replace T:=T.1 c17
  obtain⟨y25,g26,z27,q18,y28,g29,z30,q19,y31,g32,z33,q20,rfl,rfl,rfl⟩:=T
  simp only[R_Q95,lF] at q18
  simp only[R_Q109,lF] at q19
  simp only[R_Q95,lF] at q20
  exact fi (aa (eq_true c17)<|aa q18<|aa q19<|aa q20<|F)
 replace T:=T.2 c17
 replace F:=aa (eq_false c17)<|F
 by_cases c21:v1.Kind=7
 ·replace T:=T.1 c21
  obtain⟨v34,q22,y35,g36,z37,q23,y38,g39,z40,q24,v41,q25,y42,g43,z44,q26,y45,g46,z47,q27,rfl,rfl,rfl⟩:=T
  simp only[R_Q110,lF] at q23
  simp only[R_Q95,lF] at q24
  simp only[R_Q69,lF] at q26
  simp only[R_Q95,lF] at q27
  exact fi (aa (eq_true c21)<|aa q22<|aa q23<|aa q24<|aa q25<|aa q26<|aa q27<|F)
 replace T:=T.2 c21
 replace F:=aa (eq_false c21)<|F
 by_cases c28:v1.Kind=8
 ·replace T:=T.1 c28
  obtain⟨y48,g49,z50,q29,v51,q30,y52,g53,z54,q31,rfl,rfl,rfl⟩:=T
  simp only[R_Q95,lF] at q29
  simp only[R_Q110,lF] at q31
  exact fi (aa (eq_true c28)<|aa q29<|aa q30<|aa q31<|F)
 replace T:=T.2 c28
 replace F:=aa (eq_false c28)<|F
 by_cases c32:v1.Kind=9
 ·replace T:=T.1 c32
  obtain⟨y55,g56,z57,q33,v58,q34,y59,g60,z61,q35,rfl,rfl,rfl⟩:=T
  simp only[R_Q95,lF] at q33
  simp only[R_Q110,lF] at q35
  exact fi (aa (eq_true c32)<|aa q33<|aa q34<|aa q35<|F)
 replace T:=T.2 c32
 replace F:=aa (eq_false c32)<|F
 by_cases c36:v1.Kind=10
 ·replace T:=T.1 c36
  obtain⟨v62,q37,y63,g64,z65,q38,y66,g67,z68,q39,v69,q40,y70,g71,z72,q41,y73,g74,z75,q42,v76,q43,y77,g78,z79,q44,rfl,rfl,rfl⟩:=T
  simp only[R_Q110,lF] at q38
  simp only[R_Q95,lF] at q39
  simp only[R_Q69,lF] at q41
  simp only[R_Q95,lF] at q42
  simp only[R_Q69,lF] at q44
  exact fi (aa (eq_true c36)<|aa q37<|aa q38<|aa q39<|aa q40<|aa q41<|aa q42<|aa q43<|aa q44<|F)
 replace T:=T.2 c36
 obtain⟨y80,g81,z82,q45,rfl,rfl,rfl⟩:=T
 simp only[R_Q111,lF] at q45
 exact fi (aa (eq_false c36)<|aa q45<|F)
theorem sp_Q45:SP 45=some (.code sc_Q45):=SPof_code rfl Tryz.func45 comp_Q45
theorem Q45_tree (w:SWriter) (w_g0:Nat) (w_z0:Bool) (l_:List Node) (w':SWriter) (w'_g0:Nat) (w'_z0:Bool) (T :
  (I64 ((l_.length:Int) - 1)) ∧
 ∃ (y1:SWriter) (g2:Nat) (z3:Bool),(R_Q69 w w_g0 w_z0 l_ ((l_.length:Int) - 1) y1 g2 z3) ∧
 y1=w'∧g2=w'_g0∧z3=w'_z0):R_Q45 w w_g0 w_z0 l_ w' w'_g0 w'_z0:=by
 intro S n0 t0 H0
 obtain⟨hb0,ha0⟩:=H0
 obtain⟨w0,hB0⟩:=take_some hb0
 have hn0:=o_getBox_lt hB0
 rw[call_code sp_Q45 _ _ rfl]
 have F:=U_Q45
 obtain⟨p1,y1,g2,z3,q2,rfl,rfl,rfl⟩:=T
 simp only[R_Q69,lF] at q2
 exact fi (aa ha0<|aa hB0<|aa hn0<|aa p1.wrap<|aa q2<|F)
theorem sp_Q23:SP 23=some (.code sc_Q23):=SPof_code rfl Tryz.func23 comp_Q23
theorem Q23_tree (l_:List Node) (r:List UInt8) (T :
  ∃ (r1:Bool),(R_Q26 l_ r1) ∧
 ((r1=true) →
  ∃ (y2:SWriter) (g3:Nat) (z4:Bool),(R_Q45 (SWriter.mk []) 0 false l_ y2 g3 z4) ∧
  y2.out=r) ∧
 (¬ (r1=true) →
  []=r)):R_Q23 l_ r:=by
 intro S
 rw[call_code sp_Q23 _ _ rfl]
 have F:=U_Q23
 obtain⟨r1,q1,T⟩:=T
 simp only[R_Q26,lF] at q1
 replace F:=aa q1<|F
 by_cases c2:r1=true
 ·replace T:=T.1 c2
  obtain⟨y2,g3,z4,q3,rfl⟩:=T
  simp only[R_Q45,lF] at q3
  exact fi (aa c2<|aa q3<|F)
 replace T:=T.2 c2
 replace c2:=Bool.eq_false_iff.2 c2
 obtain rfl:=T
 exact fi (aa c2<|F)
end Go.Proofs.YtfbcnpbhhooapaaGreatDoor.M
namespace Go.Proofs.YtfbcnpbhhooapaaGreatDoor.M
open Go
set_option linter.unusedVariables false
def c_Q72_1:SC:=.seq (.reg [⟨some 2,none,.v (.mov (.c (.int .i64 7)))⟩]) .ret
def c_Q72_2:SC:=.cond (.t 12) (.seq (.reg [⟨some 2,none,.v (.mov (.c (.int .i64 3)))⟩]) .ret) (.seq (.reg [⟨some 20,none,.v (.mov (.t 0))⟩,⟨some 21,none,.v (.bin .eql (.t 20) (.c (.int .i64 19)))⟩,⟨some 22,none,.v (.mov (.t 21))⟩,⟨some 23,some (22,false),.v (.mov (.t 0))⟩,⟨some 24,some (22,false),.v (.bin .eql (.t 23) (.c (.int .i64 20)))⟩,⟨some 25,none,.v (.pick (.t 22) (.c (.bool true)) (.t 24))⟩,⟨some 19,none,.v (.mov (.t 25))⟩]) (.cond (.t 19) (.seq (.reg [⟨some 2,none,.v (.mov (.c (.int .i64 4)))⟩]) .ret) (.seq (.reg [⟨some 27,none,.v (.mov (.t 0))⟩,⟨some 28,none,.v (.bin .geq (.t 27) (.c (.int .i64 21)))⟩,⟨some 29,none,.v (.mov (.t 28))⟩,⟨some 30,some (29,true),.v (.mov (.t 0))⟩,⟨some 31,some (29,true),.v (.bin .leq (.t 30) (.c (.int .i64 23)))⟩,⟨some 32,none,.v (.pick (.t 29) (.t 31) (.c (.bool false)))⟩,⟨some 26,none,.v (.mov (.t 32))⟩]) (.cond (.t 26) (.seq (.reg [⟨some 2,none,.v (.mov (.c (.int .i64 5)))⟩]) .ret) (.seq (.reg [⟨some 34,none,.v (.mov (.t 0))⟩,⟨some 35,none,.v (.bin .eql (.t 34) (.c (.int .i64 8)))⟩,⟨some 36,none,.v (.mov (.t 35))⟩,⟨some 37,some (36,false),.v (.mov (.t 0))⟩,⟨some 38,some (36,false),.v (.bin .eql (.t 37) (.c (.int .i64 9)))⟩,⟨some 39,none,.v (.pick (.t 36) (.c (.bool true)) (.t 38))⟩,⟨some 33,none,.v (.mov (.t 39))⟩]) (.cond (.t 33) (.seq (.reg [⟨some 2,none,.v (.mov (.c (.int .i64 6)))⟩]) .ret) .skip))))))
def c_Q72_3:SC:=.cond (.t 9) (.seq (.reg [⟨some 2,none,.v (.mov (.c (.int .i64 2)))⟩]) .ret) (.seq (.reg [⟨some 13,none,.v (.mov (.t 0))⟩,⟨some 14,none,.v (.bin .geq (.t 13) (.c (.int .i64 13)))⟩,⟨some 15,none,.v (.mov (.t 14))⟩,⟨some 16,some (15,true),.v (.mov (.t 0))⟩,⟨some 17,some (15,true),.v (.bin .leq (.t 16) (.c (.int .i64 18)))⟩,⟨some 18,none,.v (.pick (.t 15) (.t 17) (.c (.bool false)))⟩,⟨some 12,none,.v (.mov (.t 18))⟩]) c_Q72_2)
def c_Q72_4:SC:=.cond (.t 6) (.seq (.reg [⟨some 2,none,.v (.mov (.c (.int .i64 1)))⟩]) .ret) (.seq (.reg [⟨some 10,none,.v (.mov (.t 0))⟩,⟨some 11,none,.v (.bin .eql (.t 10) (.c (.int .i64 12)))⟩,⟨some 9,none,.v (.mov (.t 11))⟩]) c_Q72_3)
def c_Q72_5:SC:=.cond (.t 3) (.seq (.reg [⟨some 2,none,.v (.mov (.c (.int .i64 0)))⟩]) .ret) (.seq (.reg [⟨some 7,none,.v (.mov (.t 0))⟩,⟨some 8,none,.v (.bin .eql (.t 7) (.c (.int .i64 11)))⟩,⟨some 6,none,.v (.mov (.t 8))⟩]) c_Q72_4)
def c_Q72_6:SC:=.seq (.block 0 (.seq (.reg [⟨some 4,none,.v (.mov (.t 0))⟩,⟨some 5,none,.v (.bin .eql (.t 4) (.c (.int .i64 10)))⟩,⟨some 3,none,.v (.mov (.t 5))⟩]) c_Q72_5)) c_Q72_1
def sc_Q72:SFunc:=⟨1,40,.seq (.reg [⟨some 2,none,.v (.mov (.c (.int .i64 0)))⟩]) c_Q72_6,[(.t 2)]⟩
theorem U_Q72:type_of% (aI (ue c_Q72_1.eq_1)<|aI (ue c_Q72_2.eq_1)<|aI (ue c_Q72_3.eq_1)<|aI (ue c_Q72_4.eq_1)<|aI (ue c_Q72_5.eq_1)<|aI (ue c_Q72_6.eq_1)<|sc_Q72.eq_1):=aI (ue c_Q72_1.eq_1)<|aI (ue c_Q72_2.eq_1)<|aI (ue c_Q72_3.eq_1)<|aI (ue c_Q72_4.eq_1)<|aI (ue c_Q72_5.eq_1)<|aI (ue c_Q72_6.eq_1)<|sc_Q72.eq_1
theorem comp_Q72:comp Tryz.prog Tryz.f72=some sc_Q72:=by kernel_rfl
def sc_Q71:SFunc:=⟨2,10,.seq (.reg [⟨some 4,none,.v (.mov (.c (.str [])))⟩]) (.seq (.seq (.reg [⟨some 5,none,.v (.mov (.t 1))⟩]) (.cond (.t 5) (.seq (.reg [⟨some 6,none,.v (.mov (.t 0))⟩,⟨some 7,none,.v (.bin .add (.c (.str [40])) (.t 6))⟩,⟨some 8,none,.v (.bin .add (.t 7) (.c (.str [41])))⟩,⟨some 4,none,.v (.mov (.t 8))⟩]) .ret) .skip)) (.seq (.reg [⟨some 9,none,.v (.mov (.t 0))⟩,⟨some 4,none,.v (.mov (.t 9))⟩]) .ret)),[(.t 4)]⟩
theorem U_Q71:type_of% (sc_Q71.eq_1):=sc_Q71.eq_1
theorem comp_Q71:comp Tryz.prog Tryz.f71=some sc_Q71:=by kernel_rfl
def c_Q70_1:SC:=.seq (.reg [⟨some 66,none,.v (.mov (.t 3))⟩,⟨some 67,none,.bslice 1 1 [(.int .u8 0)] [(0,(.c (.int .u8 34)))]⟩,⟨some 68,none,.append 1 1 (.t 66) (.t 67)⟩,⟨some 69,none,.v (.conv .bytes (.t 68))⟩,⟨some 2,none,.v (.mov (.t 69))⟩]) .ret
def c_Q70_2:SC:=.reg [⟨some 12,none,.v (.mov (.t 4))⟩,⟨some 13,none,.v (.bin .add (.t 12) (.c (.int .i64 1)))⟩,⟨some 4,none,.v (.mov (.t 13))⟩]
def c_Q70_3:SC:=.reg [⟨some 39,none,.v (.mov (.t 5))⟩,⟨some 40,none,.v (.bin .add (.t 39) (.c (.int .i64 1)))⟩,⟨some 5,none,.v (.mov (.t 40))⟩]
def c_Q70_4:SC:=.seq (.reg [⟨some 48,none,.v (.mov (.t 6))⟩]) (.block 4 (.seq (.seq (.reg [⟨some 54,none,.v (.bin .eql (.t 48) (.c (.int .u8 34)))⟩,⟨some 53,none,.v (.mov (.t 54))⟩]) (.cond (.t 53) .skip (.seq (.reg [⟨some 55,none,.v (.bin .eql (.t 48) (.c (.int .u8 92)))⟩,⟨some 53,none,.v (.mov (.t 55))⟩]) (.cond (.t 53) .skip (.reg [⟨some 56,none,.v (.bin .eql (.t 48) (.c (.int .u8 36)))⟩,⟨some 53,none,.v (.mov (.t 56))⟩]))))) (.cond (.t 53) (.reg [⟨some 57,none,.v (.mov (.t 3))⟩,⟨some 58,none,.v (.mov (.t 6))⟩,⟨some 59,none,.bslice 1 2 [(.int .u8 0)] [(0,(.c (.int .u8 92))),(1,(.t 58))]⟩,⟨some 60,none,.append 1 1 (.t 57) (.t 59)⟩,⟨some 3,none,.v (.mov (.t 60))⟩]) (.seq (.reg [⟨some 62,none,.v (.bin .eql (.t 48) (.c (.int .u8 10)))⟩,⟨some 61,none,.v (.mov (.t 62))⟩]) (.cond (.t 61) (.reg [⟨some 63,none,.v (.mov (.t 3))⟩,⟨some 64,none,.bslice 1 2 [(.int .u8 0)] [(0,(.c (.int .u8 92))),(1,(.c (.int .u8 110)))]⟩,⟨some 65,none,.append 1 1 (.t 63) (.t 64)⟩,⟨some 3,none,.v (.mov (.t 65))⟩]) (.reg [⟨some 49,none,.v (.mov (.t 3))⟩,⟨some 50,none,.v (.mov (.t 6))⟩,⟨some 51,none,.bslice 1 1 [(.int .u8 0)] [(0,(.t 50))]⟩,⟨some 52,none,.append 1 1 (.t 49) (.t 51)⟩,⟨some 3,none,.v (.mov (.t 52))⟩]))))))
def c_Q70_5:SC:=.seq (.block 3 (.seq (.reg [⟨some 41,none,.v (.mov (.t 0))⟩,⟨some 42,none,.v (.mov (.t 4))⟩,⟨some 43,none,.v (.iaddr 2 (.t 41) (.t 42))⟩,⟨some 44,none,.v (.faddr 1 (.t 43))⟩,⟨some 45,none,.v (.load none (.t 44))⟩,⟨some 46,none,.v (.mov (.t 5))⟩,⟨some 47,none,.v (.istr (.t 45) (.t 46))⟩,⟨some 6,none,.v (.mov (.t 47))⟩]) c_Q70_4)) c_Q70_3
def b_Q70_2:SC:=.seq (.seq (.reg [⟨some 31,none,.v (.mov (.t 5))⟩,⟨some 32,none,.v (.mov (.t 0))⟩,⟨some 33,none,.v (.mov (.t 4))⟩,⟨some 34,none,.v (.iaddr 2 (.t 32) (.t 33))⟩,⟨some 35,none,.v (.faddr 1 (.t 34))⟩,⟨some 36,none,.v (.load none (.t 35))⟩,⟨some 37,none,.v (.len true (.t 36))⟩,⟨some 38,none,.v (.bin .lss (.t 31) (.t 37))⟩]) (.cond (.t 38) .skip (.exit 2))) c_Q70_5
def c_Q70_6:SC:=.block 2 (.loop b_Q70_2)
def c_Q70_7:SC:=.seq (.reg [⟨some 5,none,.v (.mov (.c (.int .i64 0)))⟩]) c_Q70_6
def c_Q70_8:SC:=.seq (.block 1 (.seq (.seq (.reg [⟨some 14,none,.v (.mov (.t 0))⟩,⟨some 15,none,.v (.mov (.t 4))⟩,⟨some 16,none,.v (.iaddr 2 (.t 14) (.t 15))⟩,⟨some 17,none,.v (.faddr 0 (.t 16))⟩,⟨some 18,none,.v (.load none (.t 17))⟩]) (.cond (.t 18) (.seq (.reg [⟨some 19,none,.v (.mov (.t 3))⟩,⟨some 20,none,.append 1 1 (.t 19) (.c (.str [36,123]))⟩,⟨some 3,none,.v (.mov (.t 20))⟩]) (.seq (.reg [⟨some 21,none,.v (.mov (.t 3))⟩,⟨some 22,none,.v (.mov (.t 0))⟩,⟨some 23,none,.v (.mov (.t 4))⟩,⟨some 24,none,.v (.iaddr 2 (.t 22) (.t 23))⟩,⟨some 25,none,.v (.faddr 1 (.t 24))⟩,⟨some 26,none,.v (.load none (.t 25))⟩,⟨some 27,none,.append 1 1 (.t 21) (.t 26)⟩,⟨some 3,none,.v (.mov (.t 27))⟩]) (.seq (.reg [⟨some 28,none,.v (.mov (.t 3))⟩,⟨some 29,none,.bslice 1 1 [(.int .u8 0)] [(0,(.c (.int .u8 125)))]⟩,⟨some 30,none,.append 1 1 (.t 28) (.t 29)⟩,⟨some 3,none,.v (.mov (.t 30))⟩]) (.exit 1)))) .skip)) c_Q70_7)) c_Q70_2
def b_Q70_1:SC:=.seq (.seq (.reg [⟨some 8,none,.v (.mov (.t 4))⟩,⟨some 9,none,.v (.mov (.t 0))⟩,⟨some 10,none,.v (.len false (.t 9))⟩,⟨some 11,none,.v (.bin .lss (.t 8) (.t 10))⟩]) (.cond (.t 11) .skip (.exit 0))) c_Q70_8
def c_Q70_9:SC:=.block 0 (.loop b_Q70_1)
def c_Q70_10:SC:=.seq (.seq (.reg [⟨some 4,none,.v (.mov (.c (.int .i64 0)))⟩]) c_Q70_9) c_Q70_1
def c_Q70_11:SC:=.seq (.reg [⟨some 7,none,.bslice 1 1 [(.int .u8 0)] [(0,(.c (.int .u8 34)))]⟩,⟨some 3,none,.v (.mov (.t 7))⟩]) c_Q70_10
def sc_Q70:SFunc:=⟨1,70,.seq (.reg [⟨some 2,none,.v (.mov (.c (.str [])))⟩]) c_Q70_11,[(.t 2)]⟩
noncomputable def k_Q70_2 (SP:Prg) (x:EO):CO:=fin [(.t 2)] (thC SP (inBlk 0 (thC SP (thC SP (inBlk 1 (inBlk 2 (x))) c_Q70_2) (.loop b_Q70_1))) c_Q70_1)
noncomputable def k_Q70_1 (SP:Prg) (x:EO):CO:=fin [(.t 2)] (thC SP (inBlk 0 (x)) c_Q70_1)
theorem U_Q70:type_of% (aI (ue c_Q70_1.eq_1)<|aI (ue c_Q70_2.eq_1)<|aI (ue c_Q70_3.eq_1)<|aI (ue c_Q70_4.eq_1)<|aI (ue c_Q70_5.eq_1)<|aI (ue b_Q70_2.eq_1)<|aI (ue c_Q70_6.eq_1)<|aI (ue c_Q70_7.eq_1)<|aI (ue c_Q70_8.eq_1)<|aI (ue b_Q70_1.eq_1)<|aI (ue c_Q70_9.eq_1)<|aI (ue c_Q70_10.eq_1)<|aI (ue c_Q70_11.eq_1)<|sc_Q70.eq_1):=aI (ue c_Q70_1.eq_1)<|aI (ue c_Q70_2.eq_1)<|aI (ue c_Q70_3.eq_1)<|aI (ue c_Q70_4.eq_1)<|aI (ue c_Q70_5.eq_1)<|aI (ue b_Q70_2.eq_1)<|aI (ue c_Q70_6.eq_1)<|aI (ue c_Q70_7.eq_1)<|aI (ue c_Q70_8.eq_1)<|aI (ue b_Q70_1.eq_1)<|aI (ue c_Q70_9.eq_1)<|aI (ue c_Q70_10.eq_1)<|aI (ue c_Q70_11.eq_1)<|sc_Q70.eq_1
theorem comp_Q70:comp Tryz.prog Tryz.f70=some sc_Q70:=by kernel_rfl
def c_Q46_1:SC:=.seq (.dreg [⟨some 195,none,.v (.mov (.t 0))⟩,⟨some 196,none,.v (.mov (.t 9))⟩,⟨some 197,none,.call (.c (.func 46 [])) [(.t 195),(.t 196)]⟩,⟨some 198,none,.v (.mov (.t 13))⟩,⟨some 199,none,.call (.c (.func 71 [])) [(.t 197),(.t 198)]⟩,⟨some 200,none,.v (.bin .add (.t 199) (.c (.str [32])))⟩,⟨some 201,none,.v (.mov (.t 11))⟩,⟨some 202,none,.v (.faddr 0 (.t 5))⟩,⟨some 203,none,.v (.load none (.t 202))⟩,⟨some 204,none,.v (.bin .sub (.t 203) (.c (.int .i64 11)))⟩,⟨some 205,none,.v (.iaddr 1 (.t 201) (.t 204))⟩,⟨some 206,none,.v (.load none (.t 205))⟩,⟨some 207,none,.v (.bin .add (.t 200) (.t 206))⟩,⟨some 208,none,.v (.bin .add (.t 207) (.c (.str [32])))⟩,⟨some 209,none,.v (.mov (.t 0))⟩,⟨some 210,none,.v (.mov (.t 10))⟩,⟨some 211,none,.call (.c (.func 46 [])) [(.t 209),(.t 210)]⟩,⟨some 212,none,.v (.mov (.t 0))⟩,⟨some 213,none,.v (.mov (.t 10))⟩,⟨some 214,none,.v (.iaddr 5 (.t 212) (.t 213))⟩,⟨some 215,none,.v (.faddr 0 (.t 214))⟩,⟨some 216,none,.v (.load none (.t 215))⟩,⟨some 217,none,.call (.c (.func 72 [])) [(.t 216)]⟩,⟨some 218,none,.v (.mov (.t 12))⟩,⟨some 219,none,.v (.bin .leq (.t 217) (.t 218))⟩,⟨some 220,none,.call (.c (.func 71 [])) [(.t 211),(.t 219)]⟩,⟨some 221,none,.v (.bin .add (.t 208) (.t 220))⟩,⟨some 4,none,.v (.mov (.t 221))⟩] [false,false,false,false,false,false,false,false,false,false,false,false,false,false,false,false,false,false,false,false,false,false,false,false,false,false,true,true]) .ret
def c_Q46_2:SC:=.seq (.reg [⟨some 174,none,.v (.mov (.t 0))⟩,⟨some 175,none,.v (.mov (.t 9))⟩,⟨some 176,none,.v (.iaddr 5 (.t 174) (.t 175))⟩,⟨some 177,none,.v (.faddr 0 (.t 176))⟩,⟨some 178,none,.v (.load none (.t 177))⟩,⟨some 179,none,.call (.c (.func 72 [])) [(.t 178)]⟩,⟨some 180,none,.v (.mov (.t 12))⟩,⟨some 181,none,.v (.bin .lss (.t 179) (.t 180))⟩,⟨some 182,none,.v (.mov (.t 181))⟩,⟨some 183,some (182,false),.v (.mov (.t 12))⟩,⟨some 184,some (182,false),.v (.bin .eql (.t 183) (.c (.int .i64 3)))⟩,⟨some 185,some (182,false),.v (.mov (.t 184))⟩,⟨some 186,some (185,true),.v (.mov (.t 0))⟩,⟨some 187,some (185,true),.v (.mov (.t 9))⟩,⟨some 188,some (185,true),.v (.iaddr 5 (.t 186) (.t 187))⟩,⟨some 189,some (185,true),.v (.faddr 0 (.t 188))⟩,⟨some 190,some (185,true),.v (.load none (.t 189))⟩,⟨some 191,some (185,true),.call (.c (.func 72 [])) [(.t 190)]⟩,⟨some 192,some (185,true),.v (.bin .eql (.t 191) (.c (.int .i64 3)))⟩,⟨some 193,some (182,false),.v (.pick (.t 185) (.t 192) (.c (.bool false)))⟩,⟨some 194,none,.v (.pick (.t 182) (.c (.bool true)) (.t 193))⟩,⟨some 13,none,.v (.mov (.t 194))⟩]) c_Q46_1
def c_Q46_3:SC:=.seq (.reg [⟨some 171,none,.v (.faddr 0 (.t 5))⟩,⟨some 172,none,.v (.load none (.t 171))⟩,⟨some 173,none,.call (.c (.func 72 [])) [(.t 172)]⟩,⟨some 12,none,.v (.mov (.t 173))⟩]) c_Q46_2
def c_Q46_4:SC:=.seq (.reg [⟨some 170,none,.bslice 1 13 [(.str [])] [(0,(.c (.str [124,124]))),(1,(.c (.str [38,38]))),(2,(.c (.str [61,61]))),(3,(.c (.str [33,61]))),(4,(.c (.str [60]))),(5,(.c (.str [60,61]))),(6,(.c (.str [62]))),(7,(.c (.str [62,61]))),(8,(.c (.str [43]))),(9,(.c (.str [45]))),(10,(.c (.str [42]))),(11,(.c (.str [47]))),(12,(.c (.str [37])))]⟩,⟨some 11,none,.v (.mov (.t 170))⟩]) c_Q46_3
def c_Q46_5:SC:=.seq (.dreg [⟨some 162,none,.v (.faddr 4 (.t 5))⟩,⟨some 163,none,.v (.load none (.t 162))⟩,⟨some 164,none,.v (.iaddr 1 (.t 163) (.c (.int .i64 0)))⟩,⟨some 165,none,.v (.load none (.t 164))⟩,⟨some 166,none,.v (.faddr 4 (.t 5))⟩,⟨some 167,none,.v (.load none (.t 166))⟩,⟨some 168,none,.v (.iaddr 1 (.t 167) (.c (.int .i64 1)))⟩,⟨some 169,none,.v (.load none (.t 168))⟩,⟨some 9,none,.v (.mov (.t 165))⟩,⟨some 10,none,.v (.mov (.t 169))⟩] [false,false,false,false,false,false,false,false,false,true]) c_Q46_4
def c_Q46_6:SC:=.seq (.seq (.reg [⟨some 62,none,.v (.faddr 0 (.t 5))⟩,⟨some 63,none,.v (.load none (.t 62))⟩,⟨some 64,none,.v (.bin .eql (.t 63) (.c (.int .i64 6)))⟩]) (.cond (.t 64) (.seq (.reg [⟨some 65,none,.v (.mov (.t 6))⟩,⟨some 66,none,.v (.bin .add (.c (.str [91])) (.t 65))⟩,⟨some 67,none,.v (.bin .add (.t 66) (.c (.str [93])))⟩,⟨some 4,none,.v (.mov (.t 67))⟩]) .ret) .skip)) (.seq (.reg [⟨some 68,none,.v (.faddr 2 (.t 5))⟩,⟨some 69,none,.v (.load none (.t 68))⟩,⟨some 70,none,.v (.bin .add (.t 69) (.c (.str [40])))⟩,⟨some 71,none,.v (.mov (.t 6))⟩,⟨some 72,none,.v (.bin .add (.t 70) (.t 71))⟩,⟨some 73,none,.v (.bin .add (.t 72) (.c (.str [41])))⟩,⟨some 4,none,.v (.mov (.t 73))⟩]) .ret)
def b_Q46_1:SC:=.seq (.seq (.reg [⟨some 42,none,.v (.mov (.t 7))⟩,⟨some 43,none,.v (.faddr 4 (.t 5))⟩,⟨some 44,none,.v (.load none (.t 43))⟩,⟨some 45,none,.v (.len false (.t 44))⟩,⟨some 46,none,.v (.bin .lss (.t 42) (.t 45))⟩]) (.cond (.t 46) .skip (.exit 1))) (.seq (.block 2 (.seq (.seq (.reg [⟨some 49,none,.v (.mov (.t 7))⟩,⟨some 50,none,.v (.bin .gtr (.t 49) (.c (.int .i64 0)))⟩]) (.cond (.t 50) (.reg [⟨some 51,none,.v (.mov (.t 6))⟩,⟨some 52,none,.v (.bin .add (.t 51) (.c (.str [44,32])))⟩,⟨some 6,none,.v (.mov (.t 52))⟩]) .skip)) (.reg [⟨some 53,none,.v (.mov (.t 6))⟩,⟨some 54,none,.v (.mov (.t 0))⟩,⟨some 55,none,.v (.faddr 4 (.t 5))⟩,⟨some 56,none,.v (.load none (.t 55))⟩,⟨some 57,none,.v (.mov (.t 7))⟩,⟨some 58,none,.v (.iaddr 1 (.t 56) (.t 57))⟩,⟨some 59,none,.v (.load none (.t 58))⟩,⟨some 60,none,.call (.c (.func 46 [])) [(.t 54),(.t 59)]⟩,⟨some 61,none,.v (.bin .add (.t 53) (.t 60))⟩,⟨some 6,none,.v (.mov (.t 61))⟩]))) (.reg [⟨some 47,none,.v (.mov (.t 7))⟩,⟨some 48,none,.v (.bin .add (.t 47) (.c (.int .i64 1)))⟩,⟨some 7,none,.v (.mov (.t 48))⟩]))
def c_Q46_7:SC:=.seq (.seq (.reg [⟨some 7,none,.v (.mov (.c (.int .i64 0)))⟩]) (.block 1 (.loop b_Q46_1))) c_Q46_6
def c_Q46_8:SC:=.seq (.seq (.reg [⟨some 105,none,.v (.faddr 0 (.t 5))⟩,⟨some 106,none,.v (.load none (.t 105))⟩,⟨some 107,none,.v (.bin .eql (.t 106) (.c (.int .i64 9)))⟩]) (.cond (.t 107) (.reg [⟨some 8,none,.v (.mov (.c (.str [45])))⟩]) .skip)) (.seq (.dreg [⟨some 108,none,.v (.mov (.t 8))⟩,⟨some 109,none,.v (.mov (.t 0))⟩,⟨some 110,none,.v (.faddr 4 (.t 5))⟩,⟨some 111,none,.v (.load none (.t 110))⟩,⟨some 112,none,.v (.iaddr 1 (.t 111) (.c (.int .i64 0)))⟩,⟨some 113,none,.v (.load none (.t 112))⟩,⟨some 114,none,.call (.c (.func 46 [])) [(.t 109),(.t 113)]⟩,⟨some 115,none,.v (.mov (.t 0))⟩,⟨some 116,none,.v (.faddr 4 (.t 5))⟩,⟨some 117,none,.v (.load none (.t 116))⟩,⟨some 118,none,.v (.iaddr 1 (.t 117) (.c (.int .i64 0)))⟩,⟨some 119,none,.v (.load none (.t 118))⟩,⟨some 120,none,.v (.iaddr 5 (.t 115) (.t 119))⟩,⟨some 121,none,.v (.faddr 0 (.t 120))⟩,⟨some 122,none,.v (.load none (.t 121))⟩,⟨some 123,none,.call (.c (.func 72 [])) [(.t 122)]⟩,⟨some 124,none,.v (.bin .lss (.t 123) (.c (.int .i64 6)))⟩,⟨some 125,none,.call (.c (.func 71 [])) [(.t 114),(.t 124)]⟩,⟨some 126,none,.v (.bin .add (.t 108) (.t 125))⟩,⟨some 4,none,.v (.mov (.t 126))⟩] [false,false,false,false,false,false,false,false,false,false,false,false,false,false,false,true,true,true,true,true]) .ret)
def c_Q46_9:SC:=.cond (.t 127) (.seq (.dreg [⟨some 129,none,.v (.mov (.t 0))⟩,⟨some 130,none,.v (.faddr 4 (.t 5))⟩,⟨some 131,none,.v (.load none (.t 130))⟩,⟨some 132,none,.v (.iaddr 1 (.t 131) (.c (.int .i64 0)))⟩,⟨some 133,none,.v (.load none (.t 132))⟩,⟨some 134,none,.call (.c (.func 46 [])) [(.t 129),(.t 133)]⟩,⟨some 135,none,.v (.mov (.t 0))⟩,⟨some 136,none,.v (.faddr 4 (.t 5))⟩,⟨some 137,none,.v (.load none (.t 136))⟩,⟨some 138,none,.v (.iaddr 1 (.t 137) (.c (.int .i64 0)))⟩,⟨some 139,none,.v (.load none (.t 138))⟩,⟨some 140,none,.v (.iaddr 5 (.t 135) (.t 139))⟩,⟨some 141,none,.v (.faddr 0 (.t 140))⟩,⟨some 142,none,.v (.load none (.t 141))⟩,⟨some 143,none,.call (.c (.func 72 [])) [(.t 142)]⟩,⟨some 144,none,.v (.bin .eql (.t 143) (.c (.int .i64 0)))⟩,⟨some 145,none,.call (.c (.func 71 [])) [(.t 134),(.t 144)]⟩,⟨some 146,none,.v (.bin .add (.t 145) (.c (.str [32,63,32])))⟩,⟨some 147,none,.v (.mov (.t 0))⟩,⟨some 148,none,.v (.faddr 4 (.t 5))⟩,⟨some 149,none,.v (.load none (.t 148))⟩,⟨some 150,none,.v (.iaddr 1 (.t 149) (.c (.int .i64 1)))⟩,⟨some 151,none,.v (.load none (.t 150))⟩,⟨some 152,none,.call (.c (.func 46 [])) [(.t 147),(.t 151)]⟩,⟨some 153,none,.v (.bin .add (.t 146) (.t 152))⟩,⟨some 154,none,.v (.bin .add (.t 153) (.c (.str [32,58,32])))⟩,⟨some 155,none,.v (.mov (.t 0))⟩,⟨some 156,none,.v (.faddr 4 (.t 5))⟩,⟨some 157,none,.v (.load none (.t 156))⟩,⟨some 158,none,.v (.iaddr 1 (.t 157) (.c (.int .i64 2)))⟩,⟨some 159,none,.v (.load none (.t 158))⟩,⟨some 160,none,.call (.c (.func 46 [])) [(.t 155),(.t 159)]⟩,⟨some 161,none,.v (.bin .add (.t 154) (.t 160))⟩,⟨some 4,none,.v (.mov (.t 161))⟩] [false,false,false,false,false,false,false,false,false,false,false,false,false,false,false,false,false,false,false,false,false,false,false,false,false,false,false,false,false,false,false,true,true,true]) .ret) .skip
def c_Q46_10:SC:=.cond (.t 102) (.seq (.reg [⟨some 8,none,.v (.mov (.c (.str [33])))⟩]) c_Q46_8) (.seq (.reg [⟨some 128,none,.v (.bin .eql (.t 19) (.c (.int .i64 10)))⟩,⟨some 127,none,.v (.mov (.t 128))⟩]) c_Q46_9)
def c_Q46_11:SC:=.cond (.t 74) (.seq (.dreg [⟨some 76,none,.v (.mov (.t 0))⟩,⟨some 77,none,.v (.faddr 4 (.t 5))⟩,⟨some 78,none,.v (.load none (.t 77))⟩,⟨some 79,none,.v (.iaddr 1 (.t 78) (.c (.int .i64 0)))⟩,⟨some 80,none,.v (.load none (.t 79))⟩,⟨some 81,none,.call (.c (.func 46 [])) [(.t 76),(.t 80)]⟩,⟨some 82,none,.v (.mov (.t 0))⟩,⟨some 83,none,.v (.faddr 4 (.t 5))⟩,⟨some 84,none,.v (.load none (.t 83))⟩,⟨some 85,none,.v (.iaddr 1 (.t 84) (.c (.int .i64 0)))⟩,⟨some 86,none,.v (.load none (.t 85))⟩,⟨some 87,none,.v (.iaddr 5 (.t 82) (.t 86))⟩,⟨some 88,none,.v (.faddr 0 (.t 87))⟩,⟨some 89,none,.v (.load none (.t 88))⟩,⟨some 90,none,.call (.c (.func 72 [])) [(.t 89)]⟩,⟨some 91,none,.v (.bin .lss (.t 90) (.c (.int .i64 7)))⟩,⟨some 92,none,.call (.c (.func 71 [])) [(.t 81),(.t 91)]⟩,⟨some 93,none,.v (.bin .add (.t 92) (.c (.str [91])))⟩,⟨some 94,none,.v (.mov (.t 0))⟩,⟨some 95,none,.v (.faddr 4 (.t 5))⟩,⟨some 96,none,.v (.load none (.t 95))⟩,⟨some 97,none,.v (.iaddr 1 (.t 96) (.c (.int .i64 1)))⟩,⟨some 98,none,.v (.load none (.t 97))⟩,⟨some 99,none,.call (.c (.func 46 [])) [(.t 94),(.t 98)]⟩,⟨some 100,none,.v (.bin .add (.t 93) (.t 99))⟩,⟨some 101,none,.v (.bin .add (.t 100) (.c (.str [93])))⟩,⟨some 4,none,.v (.mov (.t 101))⟩] [false,false,false,false,false,false,false,false,false,false,false,false,false,false,false,false,false,false,false,false,false,false,false,true,true,true,true]) .ret) (.seq (.seq (.reg [⟨some 103,none,.v (.bin .eql (.t 19) (.c (.int .i64 8)))⟩,⟨some 102,none,.v (.mov (.t 103))⟩]) (.cond (.t 102) .skip (.reg [⟨some 104,none,.v (.bin .eql (.t 19) (.c (.int .i64 9)))⟩,⟨some 102,none,.v (.mov (.t 104))⟩]))) c_Q46_10)
def c_Q46_12:SC:=.cond (.t 39) (.seq (.reg [⟨some 6,none,.v (.mov (.c (.str [])))⟩]) c_Q46_7) (.seq (.reg [⟨some 75,none,.v (.bin .eql (.t 19) (.c (.int .i64 7)))⟩,⟨some 74,none,.v (.mov (.t 75))⟩]) c_Q46_11)
def c_Q46_13:SC:=.cond (.t 35) (.seq (.reg [⟨some 37,none,.v (.faddr 2 (.t 5))⟩,⟨some 38,none,.v (.load none (.t 37))⟩,⟨some 4,none,.v (.mov (.t 38))⟩]) .ret) (.seq (.seq (.reg [⟨some 40,none,.v (.bin .eql (.t 19) (.c (.int .i64 5)))⟩,⟨some 39,none,.v (.mov (.t 40))⟩]) (.cond (.t 39) .skip (.reg [⟨some 41,none,.v (.bin .eql (.t 19) (.c (.int .i64 6)))⟩,⟨some 39,none,.v (.mov (.t 41))⟩]))) c_Q46_12)
def c_Q46_14:SC:=.cond (.t 30) (.seq (.seq (.reg [⟨some 32,none,.v (.faddr 1 (.t 5))⟩,⟨some 33,none,.v (.load none (.t 32))⟩,⟨some 34,none,.v (.bin .eql (.t 33) (.c (.int .i64 1)))⟩]) (.cond (.t 34) (.seq (.reg [⟨some 4,none,.v (.mov (.c (.str [116,114,117,101])))⟩]) .ret) .skip)) (.seq (.reg [⟨some 4,none,.v (.mov (.c (.str [102,97,108,115,101])))⟩]) .ret)) (.seq (.reg [⟨some 36,none,.v (.bin .eql (.t 19) (.c (.int .i64 4)))⟩,⟨some 35,none,.v (.mov (.t 36))⟩]) c_Q46_13)
def c_Q46_15:SC:=.cond (.t 25) (.seq (.reg [⟨some 27,none,.v (.faddr 3 (.t 5))⟩,⟨some 28,none,.v (.load none (.t 27))⟩,⟨some 29,none,.call (.c (.func 70 [])) [(.t 28)]⟩,⟨some 4,none,.v (.mov (.t 29))⟩]) .ret) (.seq (.reg [⟨some 31,none,.v (.bin .eql (.t 19) (.c (.int .i64 3)))⟩,⟨some 30,none,.v (.mov (.t 31))⟩]) c_Q46_14)
def c_Q46_16:SC:=.cond (.t 20) (.seq (.reg [⟨some 22,none,.v (.faddr 1 (.t 5))⟩,⟨some 23,none,.v (.load none (.t 22))⟩,⟨some 24,none,.call (.c (.func 16 [])) [(.t 23)]⟩,⟨some 4,none,.v (.mov (.t 24))⟩]) .ret) (.seq (.reg [⟨some 26,none,.v (.bin .eql (.t 19) (.c (.int .i64 2)))⟩,⟨some 25,none,.v (.mov (.t 26))⟩]) c_Q46_15)
def c_Q46_17:SC:=.block 0 (.seq (.reg [⟨some 21,none,.v (.bin .eql (.t 19) (.c (.int .i64 1)))⟩,⟨some 20,none,.v (.mov (.t 21))⟩]) c_Q46_16)
def c_Q46_18:SC:=.seq (.seq (.reg [⟨some 18,none,.v (.faddr 0 (.t 5))⟩,⟨some 19,none,.v (.load none (.t 18))⟩]) c_Q46_17) c_Q46_5
def c_Q46_19:SC:=.seq (.reg [⟨some 14,none,.v (.mov (.t 0))⟩,⟨some 15,none,.v (.mov (.t 1))⟩,⟨some 16,none,.v (.iaddr 5 (.t 14) (.t 15))⟩,⟨some 17,none,.v (.load (some 5) (.t 16))⟩,⟨some 5,none,.alloc [(.int .i64 0),(.int .i64 0),(.str []),(.nils 2),(.nils 1)]⟩,⟨none,none,.store 5 (.t 5) (.t 17)⟩]) c_Q46_18
def sc_Q46:SFunc:=⟨2,222,.seq (.reg [⟨some 4,none,.v (.mov (.c (.str [])))⟩]) c_Q46_19,[(.t 4)]⟩
noncomputable def k_Q46_1 (SP:Prg) (x:EO):CO:=fin [(.t 4)] (thC SP (inBlk 0 (thC SP (inBlk 1 (x)) c_Q46_6)) c_Q46_5)
theorem U_Q46:type_of% (aI (ue c_Q46_1.eq_1)<|aI (ue c_Q46_2.eq_1)<|aI (ue c_Q46_3.eq_1)<|aI (ue c_Q46_4.eq_1)<|aI (ue c_Q46_5.eq_1)<|aI (ue c_Q46_6.eq_1)<|aI (ue b_Q46_1.eq_1)<|aI (ue c_Q46_7.eq_1)<|aI (ue c_Q46_8.eq_1)<|aI (ue c_Q46_9.eq_1)<|aI (ue c_Q46_10.eq_1)<|aI (ue c_Q46_11.eq_1)<|aI (ue c_Q46_12.eq_1)<|aI (ue c_Q46_13.eq_1)<|aI (ue c_Q46_14.eq_1)<|aI (ue c_Q46_15.eq_1)<|aI (ue c_Q46_16.eq_1)<|aI (ue c_Q46_17.eq_1)<|aI (ue c_Q46_18.eq_1)<|aI (ue c_Q46_19.eq_1)<|sc_Q46.eq_1):=aI (ue c_Q46_1.eq_1)<|aI (ue c_Q46_2.eq_1)<|aI (ue c_Q46_3.eq_1)<|aI (ue c_Q46_4.eq_1)<|aI (ue c_Q46_5.eq_1)<|aI (ue c_Q46_6.eq_1)<|aI (ue b_Q46_1.eq_1)<|aI (ue c_Q46_7.eq_1)<|aI (ue c_Q46_8.eq_1)<|aI (ue c_Q46_9.eq_1)<|aI (ue c_Q46_10.eq_1)<|aI (ue c_Q46_11.eq_1)<|aI (ue c_Q46_12.eq_1)<|aI (ue c_Q46_13.eq_1)<|aI (ue c_Q46_14.eq_1)<|aI (ue c_Q46_15.eq_1)<|aI (ue c_Q46_16.eq_1)<|aI (ue c_Q46_17.eq_1)<|aI (ue c_Q46_18.eq_1)<|aI (ue c_Q46_19.eq_1)<|sc_Q46.eq_1
theorem comp_Q46:comp Tryz.prog Tryz.f46=some sc_Q46:=by kernel_rfl
def sc_Q24:SFunc:=⟨1,11,.seq (.reg [⟨some 2,none,.v (.mov (.c (.str [])))⟩]) (.seq (.seq (.reg [⟨some 3,none,.v (.mov (.t 0))⟩,⟨some 4,none,.call (.c (.func 29 [])) [(.t 3)]⟩,⟨some 5,none,.v (.un .not (.t 4))⟩]) (.cond (.t 5) (.seq (.reg [⟨some 2,none,.v (.mov (.c (.str [])))⟩]) .ret) .skip)) (.seq (.reg [⟨some 6,none,.v (.mov (.t 0))⟩,⟨some 7,none,.v (.mov (.t 0))⟩,⟨some 8,none,.v (.len false (.t 7))⟩,⟨some 9,none,.v (.bin .sub (.t 8) (.c (.int .i64 1)))⟩,⟨some 10,none,.call (.c (.func 46 [])) [(.t 6),(.t 9)]⟩,⟨some 2,none,.v (.mov (.t 10))⟩]) .ret)),[(.t 2)]⟩
theorem U_Q24:type_of% (sc_Q24.eq_1):=sc_Q24.eq_1
theorem comp_Q24:comp Tryz.prog Tryz.f24=some sc_Q24:=by kernel_rfl
def sc_Q96:SFunc:=⟨1,7,.seq (.reg [⟨some 2,none,.v (.mov (.c (.str [])))⟩]) (.seq (.reg [⟨some 3,none,.bslice 1 6 [(.str [])] [(0,(.c (.str []))),(1,(.c (.str [118,97,114,105,97,98,108,101]))),(2,(.c (.str [108,111,99,97,108,115]))),(3,(.c (.str [110,111,100,101]))),(4,(.c (.str [109,111,100,117,108,101]))),(5,(.c (.str [100,101,102,105,110,101])))]⟩,⟨some 4,none,.v (.mov (.t 0))⟩,⟨some 5,none,.v (.iaddr 1 (.t 3) (.t 4))⟩,⟨some 6,none,.v (.load none (.t 5))⟩,⟨some 2,none,.v (.mov (.t 6))⟩]) .ret),[(.t 2)]⟩
theorem U_Q96:type_of% (sc_Q96.eq_1):=sc_Q96.eq_1
theorem comp_Q96:comp Tryz.prog Tryz.f96=some sc_Q96:=by kernel_rfl
def c_Q59_1:SC:=.seq (.reg [⟨some 76,none,.v (.mov (.t 5))⟩,⟨some 4,none,.v (.mov (.t 76))⟩]) .ret
def c_Q59_2:SC:=.reg [⟨some 13,none,.v (.mov (.t 6))⟩,⟨some 14,none,.v (.bin .add (.t 13) (.c (.int .i64 1)))⟩,⟨some 6,none,.v (.mov (.t 14))⟩]
def c_Q59_3:SC:=.reg [⟨some 66,none,.v (.mov (.t 5))⟩,⟨some 67,none,.v (.faddr 3 (.t 7))⟩,⟨some 68,none,.v (.load none (.t 67))⟩,⟨some 69,none,.v (.mov (.t 1))⟩,⟨some 70,none,.v (.bin .add (.t 69) (.c (.str [32,32])))⟩,⟨some 71,none,.call (.c (.func 59 [])) [(.t 68),(.t 70)]⟩,⟨some 72,none,.v (.bin .add (.t 66) (.t 71))⟩,⟨some 73,none,.v (.mov (.t 1))⟩,⟨some 74,none,.v (.bin .add (.t 72) (.t 73))⟩,⟨some 75,none,.v (.bin .add (.t 74) (.c (.str [125,10])))⟩,⟨some 5,none,.v (.mov (.t 75))⟩]
def c_Q59_4:SC:=.seq (.block 3 (.dreg [⟨some 45,none,.v (.mov (.t 5))⟩,⟨some 46,none,.v (.mov (.t 1))⟩,⟨some 47,none,.v (.bin .add (.t 45) (.t 46))⟩,⟨some 48,none,.v (.bin .add (.t 47) (.c (.str [32,32])))⟩,⟨some 49,none,.v (.faddr 2 (.t 7))⟩,⟨some 50,none,.v (.load none (.t 49))⟩,⟨some 51,none,.v (.mov (.t 8))⟩,⟨some 52,none,.v (.iaddr 2 (.t 50) (.t 51))⟩,⟨some 53,none,.v (.faddr 0 (.t 52))⟩,⟨some 54,none,.v (.load none (.t 53))⟩,⟨some 55,none,.v (.bin .add (.t 48) (.t 54))⟩,⟨some 56,none,.v (.bin .add (.t 55) (.c (.str [32,61,32])))⟩,⟨some 57,none,.v (.faddr 2 (.t 7))⟩,⟨some 58,none,.v (.load none (.t 57))⟩,⟨some 59,none,.v (.mov (.t 8))⟩,⟨some 60,none,.v (.iaddr 2 (.t 58) (.t 59))⟩,⟨some 61,none,.v (.faddr 1 (.t 60))⟩,⟨some 62,none,.v (.load none (.t 61))⟩,⟨some 63,none,.call (.c (.func 24 [])) [(.t 62)]⟩,⟨some 64,none,.v (.bin .add (.t 56) (.t 63))⟩,⟨some 65,none,.v (.bin .add (.t 64) (.c (.str [10])))⟩,⟨some 5,none,.v (.mov (.t 65))⟩] [false,false,false,false,false,false,false,false,false,false,false,false,false,false,false,false,false,false,false,true,true,true])) (.reg [⟨some 43,none,.v (.mov (.t 8))⟩,⟨some 44,none,.v (.bin .add (.t 43) (.c (.int .i64 1)))⟩,⟨some 8,none,.v (.mov (.t 44))⟩])
def b_Q59_2:SC:=.seq (.seq (.reg [⟨some 38,none,.v (.mov (.t 8))⟩,⟨some 39,none,.v (.faddr 2 (.t 7))⟩,⟨some 40,none,.v (.load none (.t 39))⟩,⟨some 41,none,.v (.len false (.t 40))⟩,⟨some 42,none,.v (.bin .lss (.t 38) (.t 41))⟩]) (.cond (.t 42) .skip (.exit 2))) c_Q59_4
def c_Q59_5:SC:=.block 2 (.loop b_Q59_2)
def c_Q59_6:SC:=.seq (.seq (.reg [⟨some 8,none,.v (.mov (.c (.int .i64 0)))⟩]) c_Q59_5) c_Q59_3
def c_Q59_7:SC:=.seq (.reg [⟨some 36,none,.v (.mov (.t 5))⟩,⟨some 37,none,.v (.bin .add (.t 36) (.c (.str [123,10])))⟩,⟨some 5,none,.v (.mov (.t 37))⟩]) c_Q59_6
def c_Q59_8:SC:=.seq (.seq (.reg [⟨some 27,none,.v (.faddr 0 (.t 7))⟩,⟨some 28,none,.v (.load none (.t 27))⟩,⟨some 29,none,.v (.bin .neq (.t 28) (.c (.int .i64 2)))⟩]) (.cond (.t 29) (.reg [⟨some 30,none,.v (.mov (.t 5))⟩,⟨some 31,none,.v (.bin .add (.t 30) (.c (.str [34])))⟩,⟨some 32,none,.v (.faddr 1 (.t 7))⟩,⟨some 33,none,.v (.load none (.t 32))⟩,⟨some 34,none,.v (.bin .add (.t 31) (.t 33))⟩,⟨some 35,none,.v (.bin .add (.t 34) (.c (.str [34,32])))⟩,⟨some 5,none,.v (.mov (.t 35))⟩]) .skip)) c_Q59_7
def c_Q59_9:SC:=.seq (.reg [⟨some 19,none,.v (.mov (.t 5))⟩,⟨some 20,none,.v (.mov (.t 1))⟩,⟨some 21,none,.v (.bin .add (.t 19) (.t 20))⟩,⟨some 22,none,.v (.faddr 0 (.t 7))⟩,⟨some 23,none,.v (.load none (.t 22))⟩,⟨some 24,none,.call (.c (.func 96 [])) [(.t 23)]⟩,⟨some 25,none,.v (.bin .add (.t 21) (.t 24))⟩,⟨some 26,none,.v (.bin .add (.t 25) (.c (.str [32])))⟩,⟨some 5,none,.v (.mov (.t 26))⟩]) c_Q59_8
def c_Q59_10:SC:=.seq (.block 1 (.seq (.reg [⟨some 15,none,.v (.mov (.t 0))⟩,⟨some 16,none,.v (.mov (.t 6))⟩,⟨some 17,none,.v (.iaddr 4 (.t 15) (.t 16))⟩,⟨some 18,none,.v (.load (some 4) (.t 17))⟩,⟨some 7,none,.alloc [(.int .i64 0),(.str []),(.nils 2),(.nils 4)]⟩,⟨none,none,.store 4 (.t 7) (.t 18)⟩]) c_Q59_9)) c_Q59_2
def b_Q59_1:SC:=.seq (.seq (.reg [⟨some 9,none,.v (.mov (.t 6))⟩,⟨some 10,none,.v (.mov (.t 0))⟩,⟨some 11,none,.v (.len false (.t 10))⟩,⟨some 12,none,.v (.bin .lss (.t 9) (.t 11))⟩]) (.cond (.t 12) .skip (.exit 0))) c_Q59_10
def c_Q59_11:SC:=.block 0 (.loop b_Q59_1)
def c_Q59_12:SC:=.seq (.seq (.reg [⟨some 6,none,.v (.mov (.c (.int .i64 0)))⟩]) c_Q59_11) c_Q59_1
def c_Q59_13:SC:=.seq (.reg [⟨some 5,none,.v (.mov (.c (.str [])))⟩]) c_Q59_12
def sc_Q59:SFunc:=⟨2,77,.seq (.reg [⟨some 4,none,.v (.mov (.c (.str [])))⟩]) c_Q59_13,[(.t 4)]⟩
noncomputable def k_Q59_2 (SP:Prg) (x:EO):CO:=fin [(.t 4)] (thC SP (inBlk 0 (thC SP (thC SP (inBlk 1 (thC SP (inBlk 2 (x)) c_Q59_3)) c_Q59_2) (.loop b_Q59_1))) c_Q59_1)
noncomputable def k_Q59_1 (SP:Prg) (x:EO):CO:=fin [(.t 4)] (thC SP (inBlk 0 (x)) c_Q59_1)
theorem U_Q59:type_of% (aI (ue c_Q59_1.eq_1)<|aI (ue c_Q59_2.eq_1)<|aI (ue c_Q59_3.eq_1)<|aI (ue c_Q59_4.eq_1)<|aI (ue b_Q59_2.eq_1)<|aI (ue c_Q59_5.eq_1)<|aI (ue c_Q59_6.eq_1)<|aI (ue c_Q59_7.eq_1)<|aI (ue c_Q59_8.eq_1)<|aI (ue c_Q59_9.eq_1)<|aI (ue c_Q59_10.eq_1)<|aI (ue b_Q59_1.eq_1)<|aI (ue c_Q59_11.eq_1)<|aI (ue c_Q59_12.eq_1)<|aI (ue c_Q59_13.eq_1)<|sc_Q59.eq_1):=aI (ue c_Q59_1.eq_1)<|aI (ue c_Q59_2.eq_1)<|aI (ue c_Q59_3.eq_1)<|aI (ue c_Q59_4.eq_1)<|aI (ue b_Q59_2.eq_1)<|aI (ue c_Q59_5.eq_1)<|aI (ue c_Q59_6.eq_1)<|aI (ue c_Q59_7.eq_1)<|aI (ue c_Q59_8.eq_1)<|aI (ue c_Q59_9.eq_1)<|aI (ue c_Q59_10.eq_1)<|aI (ue b_Q59_1.eq_1)<|aI (ue c_Q59_11.eq_1)<|aI (ue c_Q59_12.eq_1)<|aI (ue c_Q59_13.eq_1)<|sc_Q59.eq_1
theorem comp_Q59:comp Tryz.prog Tryz.f59=some sc_Q59:=by kernel_rfl
def sc_Q35:SFunc:=⟨1,8,.seq (.reg [⟨some 2,none,.v (.mov (.c (.str [])))⟩]) (.seq (.seq (.reg [⟨some 3,none,.v (.mov (.t 0))⟩,⟨some 4,none,.call (.c (.func 31 [])) [(.t 3)]⟩,⟨some 5,none,.v (.un .not (.t 4))⟩]) (.cond (.t 5) (.seq (.reg [⟨some 2,none,.v (.mov (.c (.str [])))⟩]) .ret) .skip)) (.seq (.reg [⟨some 6,none,.v (.mov (.t 0))⟩,⟨some 7,none,.call (.c (.func 59 [])) [(.t 6),(.c (.str []))]⟩,⟨some 2,none,.v (.mov (.t 7))⟩]) .ret)),[(.t 2)]⟩
theorem U_Q35:type_of% (sc_Q35.eq_1):=sc_Q35.eq_1
theorem comp_Q35:comp Tryz.prog Tryz.f35=some sc_Q35:=by kernel_rfl
def c_Q34_1:SC:=.seq (.reg [⟨some 21,none,.v (.mov (.t 3))⟩,⟨some 22,none,.v (.nchk (.t 21))⟩,⟨some 23,none,.v (.faddr 0 (.t 22))⟩,⟨some 24,none,.v (.faddr 0 (.t 23))⟩,⟨some 25,none,.v (.load none (.t 24))⟩,⟨some 26,none,.v (.conv .bytes (.t 25))⟩,⟨some 2,none,.v (.mov (.t 26))⟩]) .ret
def b_Q34_1:SC:=.seq (.reg [⟨some 14,none,.v (.bin .lss (.t 13) (.t 12))⟩]) (.seq (.cond (.t 14) .skip (.exit 0)) (.seq (.block 1 (.seq (.reg [⟨some 15,none,.v (.iaddr 4 (.t 11) (.t 13))⟩,⟨some 16,none,.v (.load (some 4) (.t 15))⟩,⟨some 5,none,.alloc [(.int .i64 0),(.str []),(.nils 2),(.nils 4)]⟩,⟨none,none,.store 4 (.t 5) (.t 16)⟩]) (.reg [⟨some 17,none,.v (.mov (.t 3))⟩,⟨some 18,none,.v (.load (some 4) (.t 5))⟩,⟨some 19,none,.call (.c (.func 58 [])) [(.t 17),(.t 18),(.c (.int .i64 0))]⟩]))) (.reg [⟨some 20,none,.v (.bin .add (.t 13) (.c (.int .i64 1)))⟩,⟨some 13,none,.v (.mov (.t 20))⟩])))
def c_Q34_2:SC:=.seq (.reg [⟨some 9,none,.v (.build [(.nils 1)] [])⟩,⟨some 10,none,.box (.t 9)⟩,⟨some 3,none,.v (.mov (.t 10))⟩]) (.seq (.seq (.reg [⟨some 11,none,.v (.mov (.t 0))⟩,⟨some 12,none,.v (.len false (.t 11))⟩,⟨some 13,none,.v (.mov (.c (.int .i64 0)))⟩]) (.block 0 (.loop b_Q34_1))) c_Q34_1)
def c_Q34_3:SC:=.seq (.seq (.reg [⟨some 6,none,.v (.mov (.t 0))⟩,⟨some 7,none,.call (.c (.func 30 [])) [(.t 6)]⟩,⟨some 8,none,.v (.un .not (.t 7))⟩]) (.cond (.t 8) (.seq (.reg [⟨some 2,none,.v (.mov (.c (.str [])))⟩]) .ret) .skip)) c_Q34_2
def sc_Q34:SFunc:=⟨1,27,.seq (.reg [⟨some 2,none,.v (.mov (.c (.str [])))⟩]) c_Q34_3,[(.t 2)]⟩
noncomputable def k_Q34_1 (SP:Prg) (x:EO):CO:=fin [(.t 2)] (thC SP (inBlk 0 (x)) c_Q34_1)
theorem U_Q34:type_of% (aI (ue c_Q34_1.eq_1)<|aI (ue b_Q34_1.eq_1)<|aI (ue c_Q34_2.eq_1)<|aI (ue c_Q34_3.eq_1)<|sc_Q34.eq_1):=aI (ue c_Q34_1.eq_1)<|aI (ue b_Q34_1.eq_1)<|aI (ue c_Q34_2.eq_1)<|aI (ue c_Q34_3.eq_1)<|sc_Q34.eq_1
theorem comp_Q34:comp Tryz.prog Tryz.f34=some sc_Q34:=by kernel_rfl
def c_Q58_1:SC:=.reg [⟨some 79,none,.v (.mov (.t 0))⟩,⟨some 80,none,.v (.nchk (.t 79))⟩,⟨some 81,none,.v (.faddr 0 (.t 80))⟩,⟨some 82,none,.v (.mov (.t 6))⟩,⟨some 83,none,.bslice 1 2 [(.str [])] [(0,(.t 82)),(1,(.c (.str [125,10])))]⟩,⟨some 84,none,.call (.c (.func 95 [])) [(.t 81),(.t 83)]⟩]
def b_Q58_1:SC:=.seq (.reg [⟨some 70,none,.v (.bin .lss (.t 69) (.t 68))⟩]) (.seq (.cond (.t 70) .skip (.exit 2)) (.seq (.block 3 (.seq (.reg [⟨some 71,none,.v (.iaddr 4 (.t 67) (.t 69))⟩,⟨some 72,none,.v (.load (some 4) (.t 71))⟩,⟨some 10,none,.alloc [(.int .i64 0),(.str []),(.nils 2),(.nils 4)]⟩,⟨none,none,.store 4 (.t 10) (.t 72)⟩]) (.reg [⟨some 73,none,.v (.mov (.t 0))⟩,⟨some 74,none,.v (.load (some 4) (.t 10))⟩,⟨some 75,none,.v (.mov (.t 2))⟩,⟨some 76,none,.v (.bin .add (.t 75) (.c (.int .i64 1)))⟩,⟨some 77,none,.call (.c (.func 58 [])) [(.t 73),(.t 74),(.t 76)]⟩]))) (.reg [⟨some 78,none,.v (.bin .add (.t 69) (.c (.int .i64 1)))⟩,⟨some 69,none,.v (.mov (.t 78))⟩])))
def c_Q58_2:SC:=.seq (.seq (.reg [⟨some 66,none,.v (.faddr 3 (.t 4))⟩,⟨some 67,none,.v (.load none (.t 66))⟩,⟨some 68,none,.v (.len false (.t 67))⟩,⟨some 69,none,.v (.mov (.c (.int .i64 0)))⟩]) (.block 2 (.loop b_Q58_1))) c_Q58_1
def c_Q58_3:SC:=.seq (.block 1 (.seq (.reg [⟨some 44,none,.v (.iaddr 2 (.t 40) (.t 42))⟩,⟨some 45,none,.v (.load (some 2) (.t 44))⟩,⟨some 8,none,.alloc [(.str []),(.nils 5)]⟩,⟨none,none,.store 2 (.t 8) (.t 45)⟩]) (.seq (.dreg [⟨some 46,none,.v (.mov (.t 0))⟩,⟨some 47,none,.v (.nchk (.t 46))⟩,⟨some 48,none,.v (.faddr 0 (.t 47))⟩,⟨some 49,none,.v (.mov (.t 6))⟩,⟨some 50,none,.v (.faddr 0 (.t 8))⟩,⟨some 51,none,.v (.load none (.t 50))⟩,⟨some 52,none,.bslice 1 4 [(.str [])] [(0,(.t 49)),(1,(.c (.str [32,32]))),(2,(.t 51)),(3,(.c (.str [32,61,32])))]⟩,⟨some 53,none,.call (.c (.func 95 [])) [(.t 48),(.t 52)]⟩] [false,false,false,false,false,false,false,true]) (.seq (.dreg [⟨some 54,none,.v (.mov (.t 0))⟩,⟨some 55,none,.v (.nchk (.t 54))⟩,⟨some 56,none,.v (.faddr 0 (.t 55))⟩,⟨some 57,none,.v (.faddr 1 (.t 8))⟩,⟨some 58,none,.v (.load none (.t 57))⟩,⟨some 59,none,.call (.c (.func 45 [])) [(.t 56),(.t 58)]⟩] [false,false,false,false,false,true]) (.reg [⟨some 60,none,.v (.mov (.t 0))⟩,⟨some 61,none,.v (.nchk (.t 60))⟩,⟨some 62,none,.v (.faddr 0 (.t 61))⟩,⟨some 63,none,.bslice 1 1 [(.str [])] [(0,(.c (.str [10])))]⟩,⟨some 64,none,.call (.c (.func 95 [])) [(.t 62),(.t 63)]⟩]))))) (.reg [⟨some 65,none,.v (.bin .add (.t 42) (.c (.int .i64 1)))⟩,⟨some 42,none,.v (.mov (.t 65))⟩])
def c_Q58_4:SC:=.seq (.cond (.t 43) .skip (.exit 0)) c_Q58_3
def b_Q58_2:SC:=.seq (.reg [⟨some 43,none,.v (.bin .lss (.t 42) (.t 41))⟩]) c_Q58_4
def c_Q58_5:SC:=.block 0 (.loop b_Q58_2)
def c_Q58_6:SC:=.seq (.seq (.reg [⟨some 39,none,.v (.faddr 2 (.t 4))⟩,⟨some 40,none,.v (.load none (.t 39))⟩,⟨some 41,none,.v (.len false (.t 40))⟩,⟨some 42,none,.v (.mov (.c (.int .i64 0)))⟩]) c_Q58_5) c_Q58_2
def c_Q58_7:SC:=.seq (.reg [⟨some 34,none,.v (.mov (.t 0))⟩,⟨some 35,none,.v (.nchk (.t 34))⟩,⟨some 36,none,.v (.faddr 0 (.t 35))⟩,⟨some 37,none,.bslice 1 1 [(.str [])] [(0,(.c (.str [123,10])))]⟩,⟨some 38,none,.call (.c (.func 95 [])) [(.t 36),(.t 37)]⟩]) c_Q58_6
def c_Q58_8:SC:=.seq (.seq (.reg [⟨some 24,none,.v (.faddr 0 (.t 4))⟩,⟨some 25,none,.v (.load none (.t 24))⟩,⟨some 26,none,.v (.bin .neq (.t 25) (.c (.int .i64 2)))⟩]) (.cond (.t 26) (.dreg [⟨some 27,none,.v (.mov (.t 0))⟩,⟨some 28,none,.v (.nchk (.t 27))⟩,⟨some 29,none,.v (.faddr 0 (.t 28))⟩,⟨some 30,none,.v (.faddr 1 (.t 4))⟩,⟨some 31,none,.v (.load none (.t 30))⟩,⟨some 32,none,.bslice 1 3 [(.str [])] [(0,(.c (.str [34]))),(1,(.t 31)),(2,(.c (.str [34,32])))]⟩,⟨some 33,none,.call (.c (.func 95 [])) [(.t 29),(.t 32)]⟩] [false,false,false,false,false,false,true]) .skip)) c_Q58_7
def c_Q58_9:SC:=.seq (.dreg [⟨some 13,none,.v (.mov (.t 0))⟩,⟨some 14,none,.v (.nchk (.t 13))⟩,⟨some 15,none,.v (.faddr 0 (.t 14))⟩,⟨some 16,none,.v (.mov (.t 6))⟩,⟨some 17,none,.bslice 1 6 [(.str [])] [(0,(.c (.str []))),(1,(.c (.str [118,97,114,105,97,98,108,101]))),(2,(.c (.str [108,111,99,97,108,115]))),(3,(.c (.str [110,111,100,101]))),(4,(.c (.str [109,111,100,117,108,101]))),(5,(.c (.str [100,101,102,105,110,101])))]⟩,⟨some 18,none,.v (.faddr 0 (.t 4))⟩,⟨some 19,none,.v (.load none (.t 18))⟩,⟨some 20,none,.v (.iaddr 1 (.t 17) (.t 19))⟩,⟨some 21,none,.v (.load none (.t 20))⟩,⟨some 22,none,.bslice 1 3 [(.str [])] [(0,(.t 16)),(1,(.t 21)),(2,(.c (.str [32])))]⟩,⟨some 23,none,.call (.c (.func 95 [])) [(.t 15),(.t 22)]⟩] [false,false,false,false,false,false,false,false,false,false,true]) c_Q58_8
def c_Q58_10:SC:=.seq (.reg [⟨some 11,none,.v (.mov (.t 2))⟩,⟨some 12,none,.call (.c (.func 94 [])) [(.c (.str [32,32])),(.t 11)]⟩,⟨some 6,none,.v (.mov (.t 12))⟩]) c_Q58_9
def sc_Q58:SFunc:=⟨3,85,.seq (.reg [⟨some 4,none,.box (.t 1)⟩]) c_Q58_10,[]⟩
noncomputable def k_Q58_1 (SP:Prg) (x:EO):CO:=fin [] (thC SP (inBlk 2 (x)) c_Q58_1)
noncomputable def k_Q58_2 (SP:Prg) (x:EO):CO:=fin [] (thC SP (inBlk 0 (x)) c_Q58_2)
theorem U_Q58:type_of% (aI (ue c_Q58_1.eq_1)<|aI (ue b_Q58_1.eq_1)<|aI (ue c_Q58_2.eq_1)<|aI (ue c_Q58_3.eq_1)<|aI (ue c_Q58_4.eq_1)<|aI (ue b_Q58_2.eq_1)<|aI (ue c_Q58_5.eq_1)<|aI (ue c_Q58_6.eq_1)<|aI (ue c_Q58_7.eq_1)<|aI (ue c_Q58_8.eq_1)<|aI (ue c_Q58_9.eq_1)<|aI (ue c_Q58_10.eq_1)<|sc_Q58.eq_1):=aI (ue c_Q58_1.eq_1)<|aI (ue b_Q58_1.eq_1)<|aI (ue c_Q58_2.eq_1)<|aI (ue c_Q58_3.eq_1)<|aI (ue c_Q58_4.eq_1)<|aI (ue b_Q58_2.eq_1)<|aI (ue c_Q58_5.eq_1)<|aI (ue c_Q58_6.eq_1)<|aI (ue c_Q58_7.eq_1)<|aI (ue c_Q58_8.eq_1)<|aI (ue c_Q58_9.eq_1)<|aI (ue c_Q58_10.eq_1)<|sc_Q58.eq_1
theorem comp_Q58:comp Tryz.prog Tryz.f58=some sc_Q58:=by kernel_rfl
def sc_Q25:SFunc:=⟨0,10,.seq (.reg [⟨some 0,none,.v (.mov (.c (.bool false)))⟩]) (.seq (.reg [⟨some 4,none,.call (.c (.func 20 [])) [(.c (.str [40,32,49,43,32,50,41,32,42,51]))]⟩,⟨some 3,none,.v (.mov (.t 4))⟩,⟨some 5,none,.v (.extract 0 (.t 3))⟩,⟨some 6,none,.v (.extract 1 (.t 3))⟩,⟨some 1,none,.v (.mov (.t 5))⟩,⟨some 2,none,.v (.mov (.t 6))⟩]) (.seq (.reg [⟨some 7,none,.v (.mov (.t 1))⟩,⟨some 8,none,.call (.c (.func 23 [])) [(.t 7)]⟩,⟨some 9,none,.v (.bin .eql (.t 8) (.c (.str [40,49,32,43,32,50,41,32,42,32,51])))⟩,⟨some 0,none,.v (.mov (.t 9))⟩]) .ret)),[(.t 0)]⟩
theorem U_Q25:type_of% (sc_Q25.eq_1):=sc_Q25.eq_1
theorem comp_Q25:comp Tryz.prog Tryz.f25=some sc_Q25:=by kernel_rfl
def sc_Q12:SFunc:=⟨2,27,.seq (.reg [⟨some 4,none,.v (.mov (.c (.bool false)))⟩]) (.seq (.seq (.reg [⟨some 5,none,.v (.mov (.t 0))⟩,⟨some 6,none,.call (.c (.func 27 [])) [(.t 5)]⟩,⟨some 7,none,.v (.mov (.t 6))⟩,⟨some 8,some (7,false),.v (.mov (.t 1))⟩,⟨some 9,some (7,false),.call (.c (.func 28 [])) [(.t 8),(.c (.int .i64 0))]⟩,⟨some 10,none,.v (.pick (.t 7) (.c (.bool true)) (.t 9))⟩]) (.cond (.t 10) (.seq (.reg [⟨some 11,none,.call (.c (.func 25 [])) []⟩,⟨some 4,none,.v (.mov (.t 11))⟩]) .ret) .skip)) (.seq (.reg [⟨some 12,none,.v (.mov (.t 0))⟩,⟨some 13,none,.call (.c (.func 23 [])) [(.t 12)]⟩,⟨some 14,none,.v (.mov (.t 0))⟩,⟨some 15,none,.call (.c (.func 24 [])) [(.t 14)]⟩,⟨some 16,none,.v (.bin .eql (.t 13) (.t 15))⟩,⟨some 17,none,.v (.mov (.t 16))⟩,⟨some 18,some (17,true),.v (.mov (.t 1))⟩,⟨some 19,some (17,true),.call (.c (.func 34 [])) [(.t 18)]⟩,⟨some 20,some (17,true),.v (.mov (.t 1))⟩,⟨some 21,some (17,true),.call (.c (.func 35 [])) [(.t 20)]⟩,⟨some 22,some (17,true),.v (.bin .eql (.t 19) (.t 21))⟩,⟨some 23,none,.v (.pick (.t 17) (.t 22) (.c (.bool false)))⟩,⟨some 24,none,.v (.mov (.t 23))⟩,⟨some 25,some (24,true),.call (.c (.func 25 [])) []⟩,⟨some 26,none,.v (.pick (.t 24) (.t 25) (.c (.bool false)))⟩,⟨some 4,none,.v (.mov (.t 26))⟩]) .ret)),[(.t 4)]⟩
theorem U_Q12:type_of% (sc_Q12.eq_1):=sc_Q12.eq_1
theorem comp_Q12:comp Tryz.prog Tryz.f12=some sc_Q12:=by kernel_rfl
end Go.Proofs.YtfbcnpbhhooapaaGreatDoor.M
namespace Go.Proofs.YtfbcnpbhhooapaaGreatDoor.M
set_option linter.unusedSimpArgs false
set_option linter.unusedVariables false
open Go Classical
theorem sp_Q72:SP 72=some (.code sc_Q72):=SPof_code rfl Tryz.func72 comp_Q72
theorem Q72_tree (kind:Int) (r:Int) (T :
  ((kind=10) →
  0=r) ∧
 (¬ (kind=10) →
  ((kind=11) →
   1=r) ∧
  (¬ (kind=11) →
   ((kind=12) →
    2=r) ∧
   (¬ (kind=12) →
    ((13≤kind) →
     ((kind≤18) →
      3=r) ∧
     (¬ (kind≤18) →
      ((kind=19) →
       4=r) ∧
      (¬ (kind=19) →
       ((kind=20) →
        4=r) ∧
       (¬ (kind=20) →
        ((21≤kind) →
         ((kind≤23) →
          5=r) ∧
         (¬ (kind≤23) →
          ((kind=8) →
           6=r) ∧
          (¬ (kind=8) →
           ((kind=9) →
            6=r) ∧
           (¬ (kind=9) →
            7=r)))) ∧
        (¬ (21≤kind) →
         ((kind=8) →
          6=r) ∧
         (¬ (kind=8) →
          ((kind=9) →
           6=r) ∧
          (¬ (kind=9) →
           7=r))))))) ∧
    (¬ (13≤kind) →
     ((kind=19) →
      4=r) ∧
     (¬ (kind=19) →
      ((kind=20) →
       4=r) ∧
      (¬ (kind=20) →
       ((21≤kind) →
        ((kind≤23) →
         5=r) ∧
        (¬ (kind≤23) →
         ((kind=8) →
          6=r) ∧
         (¬ (kind=8) →
          ((kind=9) →
           6=r) ∧
          (¬ (kind=9) →
           7=r)))) ∧
       (¬ (21≤kind) →
        ((kind=8) →
         6=r) ∧
        (¬ (kind=8) →
         ((kind=9) →
          6=r) ∧
         (¬ (kind=9) →
          7=r)))))))))):R_Q72 kind r:=by
 intro S
 rw[call_code sp_Q72 _ _ rfl]
 have F:=U_Q72
 by_cases c1:kind=10
 ·replace T:=T.1 c1
  obtain rfl:=T
  exact fi (aa (eq_true c1)<|F)
 replace T:=T.2 c1
 replace F:=aa (eq_false c1)<|F
 by_cases c2:kind=11
 ·replace T:=T.1 c2
  obtain rfl:=T
  exact fi (aa (eq_true c2)<|F)
 replace T:=T.2 c2
 replace F:=aa (eq_false c2)<|F
 by_cases c3:kind=12
 ·replace T:=T.1 c3
  obtain rfl:=T
  exact fi (aa (eq_true c3)<|F)
 replace T:=T.2 c3
 replace F:=aa (eq_false c3)<|F
 by_cases c4:13≤kind
 ·replace T:=T.1 c4
  replace F:=aa (eq_true c4)<|F
  by_cases c5:kind≤18
  ·replace T:=T.1 c5
   obtain rfl:=T
   exact fi (aa (eq_true c5)<|F)
  replace T:=T.2 c5
  replace F:=aa (eq_false c5)<|F
  by_cases c6:kind=19
  ·replace T:=T.1 c6
   obtain rfl:=T
   exact fi (aa (eq_true c6)<|F)
  replace T:=T.2 c6
  replace F:=aa (eq_false c6)<|F
  by_cases c7:kind=20
  ·replace T:=T.1 c7
   obtain rfl:=T
   exact fi (aa (eq_true c7)<|F)
  replace T:=T.2 c7
  replace F:=aa (eq_false c7)<|F
  by_cases c8:21≤kind
  ·replace T:=T.1 c8
   replace F:=aa (eq_true c8)<|F
   by_cases c9:kind≤23
   ·replace T:=T.1 c9
    obtain rfl:=T
    exact fi (aa (eq_true c9)<|F)
   replace T:=T.2 c9
   replace F:=aa (eq_false c9)<|F
   by_cases c10:kind=8
   ·replace T:=T.1 c10
    obtain rfl:=T
    exact fi (aa (eq_true c10)<|F)
   replace T:=T.2 c10
   replace F:=aa (eq_false c10)<|F
   by_cases c11:kind=9
   ·replace T:=T.1 c11
    obtain rfl:=T
    exact fi (aa (eq_true c11)<|F)
   replace T:=T.2 c11
   obtain rfl:=T
   exact fi (aa (eq_false c11)<|F)
  replace T:=T.2 c8
  replace F:=aa (eq_false c8)<|F
  by_cases c12:kind=8
  ·replace T:=T.1 c12
   obtain rfl:=T
   exact fi (aa (eq_true c12)<|F)
  replace T:=T.2 c12
  replace F:=aa (eq_false c12)<|F
  by_cases c13:kind=9
  ·replace T:=T.1 c13
   obtain rfl:=T
   exact fi (aa (eq_true c13)<|F)
  replace T:=T.2 c13
  obtain rfl:=T
  exact fi (aa (eq_false c13)<|F)
 replace T:=T.2 c4
 replace F:=aa (eq_false c4)<|F
 by_cases c14:kind=19
 ·replace T:=T.1 c14
  obtain rfl:=T
  exact fi (aa (eq_true c14)<|F)
 replace T:=T.2 c14
 replace F:=aa (eq_false c14)<|F
 by_cases c15:kind=20
 ·replace T:=T.1 c15
  obtain rfl:=T
  exact fi (aa (eq_true c15)<|F)
 replace T:=T.2 c15
 replace F:=aa (eq_false c15)<|F
 by_cases c16:21≤kind
 ·replace T:=T.1 c16
  replace F:=aa (eq_true c16)<|F
  by_cases c17:kind≤23
  ·replace T:=T.1 c17
   obtain rfl:=T
   exact fi (aa (eq_true c17)<|F)
  replace T:=T.2 c17
  replace F:=aa (eq_false c17)<|F
  by_cases c18:kind=8
  ·replace T:=T.1 c18
   obtain rfl:=T
   exact fi (aa (eq_true c18)<|F)
  replace T:=T.2 c18
  replace F:=aa (eq_false c18)<|F
  by_cases c19:kind=9
  ·replace T:=T.1 c19
   obtain rfl:=T
   exact fi (aa (eq_true c19)<|F)
  replace T:=T.2 c19
  obtain rfl:=T
  exact fi (aa (eq_false c19)<|F)
 replace T:=T.2 c16
 replace F:=aa (eq_false c16)<|F
 by_cases c20:kind=8
 ·replace T:=T.1 c20
  obtain rfl:=T
  exact fi (aa (eq_true c20)<|F)
 replace T:=T.2 c20
 replace F:=aa (eq_false c20)<|F
 by_cases c21:kind=9
 ·replace T:=T.1 c21
  obtain rfl:=T
  exact fi (aa (eq_true c21)<|F)
 replace T:=T.2 c21
 obtain rfl:=T
 exact fi (aa (eq_false c21)<|F)
theorem sp_Q71:SP 71=some (.code sc_Q71):=SPof_code rfl Tryz.func71 comp_Q71
theorem Q71_tree (s:List UInt8) (is_:Bool) (r:List UInt8) (T :
  ((is_=true) →
  (1+s.length≤maxInt) ∧
  (s.length+1+1≤maxInt) ∧
  (([40]++s)++[41])=r) ∧
 (¬ (is_=true) →
  s=r)):R_Q71 s is_ r:=by
 intro S
 rw[call_code sp_Q71 _ _ rfl]
 have F:=U_Q71
 by_cases c1:is_=true
 ·replace T:=T.1 c1
  obtain⟨p2,p3,rfl⟩:=T
  exact fi (aa c1<|aa p2<|aa p3<|F)
 replace T:=T.2 c1
 replace c1:=Bool.eq_false_iff.2 c1
 obtain rfl:=T
 exact fi (aa c1<|F)
theorem bO34:∀ l:List UInt8,bytesOf (List.map eB l++[[PV.int .u8 34]])=some (l++[34]):=fun l=>by
  have e:List.map eB l++[[PV.int .u8 34]]=List.map eB (l++[34]):=by rw[List.map_append];rfl
  rw[e,bytesOf_eB]
theorem sp_Q70:SP 70=some (.code sc_Q70):=SPof_code rfl Tryz.func70 comp_Q70
def At_Q70_1 (l_:List Part) (l1:List UInt8) (i2:Int) (r:List UInt8):Prop:=∀ (S:Sto) (e:Nat→PV) (f:Fr),e 0=.list 2 (l_.map ePart) false∧e 3=.list 1 (l1.map eB) true∧e 4=.int .i64 i2→k_Q70_1 SP (E SP (.loop b_Q70_1) ⟨e,f::S⟩)=.ok (.v (.str r)) S
def At_Q70_1b (l_:List Part) (i4:Int) (l5:List UInt8) (r:List UInt8):Prop:=∀ (S:Sto) (e:Nat→PV) (f:Fr),e 0=.list 2 (l_.map ePart) false∧e 3=.sl 0 (.slot 20) 0 l5.length l5.length 0 false∧e 4=.int .i64 i4∧f.arr (.slot 20)=some ⟨1,l5.map eB,true,0⟩→k_Q70_1 SP (E SP (.loop b_Q70_1) ⟨e,f::S⟩)=.ok (.v (.str r)) S
def At_Q70_2 (l_:List Part) (i2:Int) (l6:List UInt8) (i7:Int) (r:List UInt8):Prop:=∀ (S:Sto) (e:Nat→PV) (f:Fr),e 0=.list 2 (l_.map ePart) false∧e 3=.list 1 (l6.map eB) true∧e 4=.int .i64 i2∧e 5=.int .i64 i7→k_Q70_2 SP (E SP (.loop b_Q70_2) ⟨e,f::S⟩)=.ok (.v (.str r)) S
def At_Q70_2b (l_:List Part) (i4:Int) (i9:Int) (l10:List UInt8) (r:List UInt8):Prop:=∀ (S:Sto) (e:Nat→PV) (f:Fr),e 0=.list 2 (l_.map ePart) false∧e 3=.sl 0 (.slot 20) 0 l10.length l10.length 0 false∧e 4=.int .i64 i4∧e 5=.int .i64 i9∧f.arr (.slot 20)=some ⟨1,l10.map eB,true,0⟩→k_Q70_2 SP (E SP (.loop b_Q70_2) ⟨e,f::S⟩)=.ok (.v (.str r)) S
def At_Q70_2c (l_:List Part) (i2:Int) (i13:Int) (l14:List UInt8) (r:List UInt8):Prop:=∀ (S:Sto) (e:Nat→PV) (f:Fr),e 0=.list 2 (l_.map ePart) false∧e 3=.sl 0 (.slot 60) 0 l14.length l14.length 0 false∧e 4=.int .i64 i2∧e 5=.int .i64 i13∧f.arr (.slot 60)=some ⟨1,l14.map eB,true,0⟩→k_Q70_2 SP (E SP (.loop b_Q70_2) ⟨e,f::S⟩)=.ok (.v (.str r)) S
def At_Q70_2d (l_:List Part) (i2:Int) (i15:Int) (l16:List UInt8) (r:List UInt8):Prop:=∀ (S:Sto) (e:Nat→PV) (f:Fr),e 0=.list 2 (l_.map ePart) false∧e 3=.sl 0 (.slot 65) 0 l16.length l16.length 0 false∧e 4=.int .i64 i2∧e 5=.int .i64 i15∧f.arr (.slot 65)=some ⟨1,l16.map eB,true,0⟩→k_Q70_2 SP (E SP (.loop b_Q70_2) ⟨e,f::S⟩)=.ok (.v (.str r)) S
def At_Q70_2e (l_:List Part) (i2:Int) (i17:Int) (l18:List UInt8) (r:List UInt8):Prop:=∀ (S:Sto) (e:Nat→PV) (f:Fr),e 0=.list 2 (l_.map ePart) false∧e 3=.sl 0 (.slot 52) 0 l18.length l18.length 0 false∧e 4=.int .i64 i2∧e 5=.int .i64 i17∧f.arr (.slot 52)=some ⟨1,l18.map eB,true,0⟩→k_Q70_2 SP (E SP (.loop b_Q70_2) ⟨e,f::S⟩)=.ok (.v (.str r)) S
def At_Q70_1c (l_:List Part) (i23:Int) (l24:List UInt8) (r:List UInt8):Prop:=∀ (S:Sto) (e:Nat→PV) (f:Fr),e 0=.list 2 (l_.map ePart) false∧e 3=.sl 0 (.slot 60) 0 l24.length l24.length 0 false∧e 4=.int .i64 i23∧f.arr (.slot 60)=some ⟨1,l24.map eB,true,0⟩→k_Q70_1 SP (E SP (.loop b_Q70_1) ⟨e,f::S⟩)=.ok (.v (.str r)) S
def At_Q70_1d (l_:List Part) (i27:Int) (l28:List UInt8) (r:List UInt8):Prop:=∀ (S:Sto) (e:Nat→PV) (f:Fr),e 0=.list 2 (l_.map ePart) false∧e 3=.sl 0 (.slot 65) 0 l28.length l28.length 0 false∧e 4=.int .i64 i27∧f.arr (.slot 65)=some ⟨1,l28.map eB,true,0⟩→k_Q70_1 SP (E SP (.loop b_Q70_1) ⟨e,f::S⟩)=.ok (.v (.str r)) S
def At_Q70_1e (l_:List Part) (i31:Int) (l32:List UInt8) (r:List UInt8):Prop:=∀ (S:Sto) (e:Nat→PV) (f:Fr),e 0=.list 2 (l_.map ePart) false∧e 3=.sl 0 (.slot 52) 0 l32.length l32.length 0 false∧e 4=.int .i64 i31∧f.arr (.slot 52)=some ⟨1,l32.map eB,true,0⟩→k_Q70_1 SP (E SP (.loop b_Q70_1) ⟨e,f::S⟩)=.ok (.v (.str r)) S
def At_Q70_2f (l_:List Part) (i23:Int) (i34:Int) (l35:List UInt8) (r:List UInt8):Prop:=∀ (S:Sto) (e:Nat→PV) (f:Fr),e 0=.list 2 (l_.map ePart) false∧e 3=.sl 0 (.slot 60) 0 l35.length l35.length 0 false∧e 4=.int .i64 i23∧e 5=.int .i64 i34∧f.arr (.slot 60)=some ⟨1,l35.map eB,true,0⟩→k_Q70_2 SP (E SP (.loop b_Q70_2) ⟨e,f::S⟩)=.ok (.v (.str r)) S
def At_Q70_2g (l_:List Part) (i27:Int) (i37:Int) (l38:List UInt8) (r:List UInt8):Prop:=∀ (S:Sto) (e:Nat→PV) (f:Fr),e 0=.list 2 (l_.map ePart) false∧e 3=.sl 0 (.slot 65) 0 l38.length l38.length 0 false∧e 4=.int .i64 i27∧e 5=.int .i64 i37∧f.arr (.slot 65)=some ⟨1,l38.map eB,true,0⟩→k_Q70_2 SP (E SP (.loop b_Q70_2) ⟨e,f::S⟩)=.ok (.v (.str r)) S
def At_Q70_2h (l_:List Part) (i31:Int) (i40:Int) (l41:List UInt8) (r:List UInt8):Prop:=∀ (S:Sto) (e:Nat→PV) (f:Fr),e 0=.list 2 (l_.map ePart) false∧e 3=.sl 0 (.slot 52) 0 l41.length l41.length 0 false∧e 4=.int .i64 i31∧e 5=.int .i64 i40∧f.arr (.slot 52)=some ⟨1,l41.map eB,true,0⟩→k_Q70_2 SP (E SP (.loop b_Q70_2) ⟨e,f::S⟩)=.ok (.v (.str r)) S
theorem At_Q70_1_step (l_:List Part) (l1:List UInt8) (i2:Int) (r:List UInt8) (T :
  ((i2 < (l_.length:Int)) →
  (0≤i2) ∧
  ∃ (v3:Part),(l_[i2.toNat]?=some v3) ∧
  ((v3.Ref=true) →
   (bigRow (l1.length+2) 1) ∧
   (bigRow (l1.length+2+v3.Text.length) 1) ∧
   (bigRow (l1.length+2+v3.Text.length+1) 1) ∧
   (I64 (i2+1)) ∧
   At_Q70_1b l_ (i2+1) (l1++[36,123]++v3.Text++[(125:UInt8)]) r) ∧
  (¬ (v3.Ref=true) →
   At_Q70_2 l_ i2 l1 0 r)) ∧
 (¬ (i2 < (l_.length:Int)) →
  (bigRow (l1.length+1) 1) ∧
  (l1++[(34:UInt8)])=r)):At_Q70_1 l_ l1 i2 r:=by
 intro S e f h
 unfold k_Q70_1
 rw[E_loop]
 have F:=aa bO34<|U_Q70
 replace F:=aa h<|F
 by_cases c1:i2 < (l_.length:Int)
 ·replace T:=T.1 c1
  obtain⟨p2,v3,q3,T⟩:=T
  replace F:=aa (eq_true c1)<|aa p2<|aa q3<|F
  by_cases c4:v3.Ref=true
  ·replace T:=T.1 c4
   obtain⟨p5,p6,p7,p8,T⟩:=T
   simp only[bigRow] at p5
   simp only[bigRow] at p6
   simp only[bigRow] at p7
   replace F:=aa c4<|aa p5<|aa p6<|aa p7<|aa p8.wrap<|F
   exact lo F T
  replace T:=T.2 c4
  replace c4:=Bool.eq_false_iff.2 c4
  replace F:=aa c4<|F
  exact lo F T
 replace T:=T.2 c1
 obtain⟨p9,rfl⟩:=T
 simp only[bigRow] at p9
 exact fi (aa (eq_false c1)<|aa p9<|F)
theorem At_Q70_1b_step (l_:List Part) (i4:Int) (l5:List UInt8) (r:List UInt8) (T :
  ((i4 < (l_.length:Int)) →
  (0≤i4) ∧
  ∃ (v8:Part),(l_[i4.toNat]?=some v8) ∧
  ((v8.Ref=true) →
   (bigRow (l5.length+2) 1) ∧
   (bigRow (l5.length+2+v8.Text.length) 1) ∧
   (bigRow (l5.length+2+v8.Text.length+1) 1) ∧
   (I64 (i4+1)) ∧
   At_Q70_1b l_ (i4+1) (l5++[36,123]++v8.Text++[(125:UInt8)]) r) ∧
  (¬ (v8.Ref=true) →
   At_Q70_2b l_ i4 0 l5 r)) ∧
 (¬ (i4 < (l_.length:Int)) →
  (bigRow (l5.length+1) 1) ∧
  (l5++[(34:UInt8)])=r)):At_Q70_1b l_ i4 l5 r:=by
 intro S e f h
 unfold k_Q70_1
 rw[E_loop]
 have F:=aa bO34<|U_Q70
 replace F:=aa h<|F
 by_cases c1:i4 < (l_.length:Int)
 ·replace T:=T.1 c1
  obtain⟨p2,v8,q3,T⟩:=T
  replace F:=aa (eq_true c1)<|aa p2<|aa q3<|F
  by_cases c4:v8.Ref=true
  ·replace T:=T.1 c4
   obtain⟨p5,p6,p7,p8,T⟩:=T
   simp only[bigRow] at p5
   simp only[bigRow] at p6
   simp only[bigRow] at p7
   replace F:=aa c4<|aa p5<|aa p6<|aa p7<|aa p8.wrap<|F
   exact lo F T
  replace T:=T.2 c4
  replace c4:=Bool.eq_false_iff.2 c4
  replace F:=aa c4<|F
  exact lo F T
 replace T:=T.2 c1
 obtain⟨p9,rfl⟩:=T
 simp only[bigRow] at p9
 exact fi (aa (eq_false c1)<|aa p9<|F)
theorem At_Q70_2_step (l_:List Part) (i2:Int) (l6:List UInt8) (i7:Int) (r:List UInt8) (T :
  (0≤i2) ∧
 ∃ (v11:Part),(l_[i2.toNat]?=some v11) ∧
 ((i7 < (v11.Text.length:Int)) →
  (0≤i7) ∧
  ∃ (b12:UInt8),(v11.Text[i7.toNat]?=some b12) ∧
  (((b12.toNat:Int)=34) →
   (bigRow (l6.length+2) 1) ∧
   (I64 (i7+1)) ∧
   At_Q70_2c l_ i2 (i7+1) (l6++[(92:UInt8),b12]) r) ∧
  (¬ ((b12.toNat:Int)=34) →
   (((b12.toNat:Int)=92) →
    (bigRow (l6.length+2) 1) ∧
    (I64 (i7+1)) ∧
    At_Q70_2c l_ i2 (i7+1) (l6++[(92:UInt8),b12]) r) ∧
   (¬ ((b12.toNat:Int)=92) →
    (((b12.toNat:Int)=36) →
     (bigRow (l6.length+2) 1) ∧
     (I64 (i7+1)) ∧
     At_Q70_2c l_ i2 (i7+1) (l6++[(92:UInt8),b12]) r) ∧
    (¬ ((b12.toNat:Int)=36) →
     (((b12.toNat:Int)=10) →
      (bigRow (l6.length+2) 1) ∧
      (I64 (i7+1)) ∧
      At_Q70_2d l_ i2 (i7+1) (l6++[(92:UInt8),(110:UInt8)]) r) ∧
     (¬ ((b12.toNat:Int)=10) →
      (bigRow (l6.length+1) 1) ∧
      (I64 (i7+1)) ∧
      At_Q70_2e l_ i2 (i7+1) (l6++[b12]) r))))) ∧
 (¬ (i7 < (v11.Text.length:Int)) →
  (I64 (i2+1)) ∧
  At_Q70_1 l_ l6 (i2+1) r)):At_Q70_2 l_ i2 l6 i7 r:=by
 intro S e f h
 unfold k_Q70_2
 rw[E_loop]
 have F:=aa bO34<|U_Q70
 obtain⟨p1,v11,q2,T⟩:=T
 replace F:=aa h<|aa p1<|aa q2<|F
 by_cases c3:i7 < (v11.Text.length:Int)
 ·replace T:=T.1 c3
  obtain⟨p4,b12,q5,T⟩:=T
  replace F:=aa (eq_true c3)<|aa p4<|aa q5<|F
  by_cases c6:(b12.toNat:Int)=34
  ·replace T:=T.1 c6
   obtain⟨p7,p8,T⟩:=T
   simp only[bigRow] at p7
   replace F:=aa (eq_true c6)<|aa p7<|aa p8.wrap<|F
   exact lo F T
  replace T:=T.2 c6
  replace F:=aa (eq_false c6)<|F
  by_cases c9:(b12.toNat:Int)=92
  ·replace T:=T.1 c9
   obtain⟨p10,p11,T⟩:=T
   simp only[bigRow] at p10
   replace F:=aa (eq_true c9)<|aa p10<|aa p11.wrap<|F
   exact lo F T
  replace T:=T.2 c9
  replace F:=aa (eq_false c9)<|F
  by_cases c12:(b12.toNat:Int)=36
  ·replace T:=T.1 c12
   obtain⟨p13,p14,T⟩:=T
   simp only[bigRow] at p13
   replace F:=aa (eq_true c12)<|aa p13<|aa p14.wrap<|F
   exact lo F T
  replace T:=T.2 c12
  replace F:=aa (eq_false c12)<|F
  by_cases c15:(b12.toNat:Int)=10
  ·replace T:=T.1 c15
   obtain⟨p16,p17,T⟩:=T
   simp only[bigRow] at p16
   replace F:=aa (eq_true c15)<|aa p16<|aa p17.wrap<|F
   exact lo F T
  replace T:=T.2 c15
  obtain⟨p18,p19,T⟩:=T
  simp only[bigRow] at p18
  replace F:=aa (eq_false c15)<|aa p18<|aa p19.wrap<|F
  exact lo F T
 replace T:=T.2 c3
 obtain⟨p20,T⟩:=T
 replace F:=aa (eq_false c3)<|aa p20.wrap<|F
 exact lo F T
theorem At_Q70_2b_step (l_:List Part) (i4:Int) (i9:Int) (l10:List UInt8) (r:List UInt8) (T :
  (0≤i4) ∧
 ∃ (v19:Part),(l_[i4.toNat]?=some v19) ∧
 ((i9 < (v19.Text.length:Int)) →
  (0≤i9) ∧
  ∃ (b20:UInt8),(v19.Text[i9.toNat]?=some b20) ∧
  (((b20.toNat:Int)=34) →
   (bigRow (l10.length+2) 1) ∧
   (I64 (i9+1)) ∧
   At_Q70_2b l_ i4 (i9+1) (l10++[(92:UInt8),b20]) r) ∧
  (¬ ((b20.toNat:Int)=34) →
   (((b20.toNat:Int)=92) →
    (bigRow (l10.length+2) 1) ∧
    (I64 (i9+1)) ∧
    At_Q70_2b l_ i4 (i9+1) (l10++[(92:UInt8),b20]) r) ∧
   (¬ ((b20.toNat:Int)=92) →
    (((b20.toNat:Int)=36) →
     (bigRow (l10.length+2) 1) ∧
     (I64 (i9+1)) ∧
     At_Q70_2b l_ i4 (i9+1) (l10++[(92:UInt8),b20]) r) ∧
    (¬ ((b20.toNat:Int)=36) →
     (((b20.toNat:Int)=10) →
      (bigRow (l10.length+2) 1) ∧
      (I64 (i9+1)) ∧
      At_Q70_2b l_ i4 (i9+1) (l10++[(92:UInt8),(110:UInt8)]) r) ∧
     (¬ ((b20.toNat:Int)=10) →
      (bigRow (l10.length+1) 1) ∧
      (I64 (i9+1)) ∧
      At_Q70_2b l_ i4 (i9+1) (l10++[b20]) r))))) ∧
 (¬ (i9 < (v19.Text.length:Int)) →
  (I64 (i4+1)) ∧
  At_Q70_1b l_ (i4+1) l10 r)):At_Q70_2b l_ i4 i9 l10 r:=by
 intro S e f h
 unfold k_Q70_2
 rw[E_loop]
 have F:=aa bO34<|U_Q70
 obtain⟨p1,v19,q2,T⟩:=T
 replace F:=aa h<|aa p1<|aa q2<|F
 by_cases c3:i9 < (v19.Text.length:Int)
 ·replace T:=T.1 c3
  obtain⟨p4,b20,q5,T⟩:=T
  replace F:=aa (eq_true c3)<|aa p4<|aa q5<|F
  by_cases c6:(b20.toNat:Int)=34
  ·replace T:=T.1 c6
   obtain⟨p7,p8,T⟩:=T
   simp only[bigRow] at p7
   replace F:=aa (eq_true c6)<|aa p7<|aa p8.wrap<|F
   exact lo F T
  replace T:=T.2 c6
  replace F:=aa (eq_false c6)<|F
  by_cases c9:(b20.toNat:Int)=92
  ·replace T:=T.1 c9
   obtain⟨p10,p11,T⟩:=T
   simp only[bigRow] at p10
   replace F:=aa (eq_true c9)<|aa p10<|aa p11.wrap<|F
   exact lo F T
  replace T:=T.2 c9
  replace F:=aa (eq_false c9)<|F
  by_cases c12:(b20.toNat:Int)=36
  ·replace T:=T.1 c12
   obtain⟨p13,p14,T⟩:=T
   simp only[bigRow] at p13
   replace F:=aa (eq_true c12)<|aa p13<|aa p14.wrap<|F
   exact lo F T
  replace T:=T.2 c12
  replace F:=aa (eq_false c12)<|F
  by_cases c15:(b20.toNat:Int)=10
  ·replace T:=T.1 c15
   obtain⟨p16,p17,T⟩:=T
   simp only[bigRow] at p16
   replace F:=aa (eq_true c15)<|aa p16<|aa p17.wrap<|F
   exact lo F T
  replace T:=T.2 c15
  obtain⟨p18,p19,T⟩:=T
  simp only[bigRow] at p18
  replace F:=aa (eq_false c15)<|aa p18<|aa p19.wrap<|F
  exact lo F T
 replace T:=T.2 c3
 obtain⟨p20,T⟩:=T
 replace F:=aa (eq_false c3)<|aa p20.wrap<|F
 exact lo F T
theorem At_Q70_2c_step (l_:List Part) (i2:Int) (i13:Int) (l14:List UInt8) (r:List UInt8) (T :
  (0≤i2) ∧
 ∃ (v21:Part),(l_[i2.toNat]?=some v21) ∧
 ((i13 < (v21.Text.length:Int)) →
  (0≤i13) ∧
  ∃ (b22:UInt8),(v21.Text[i13.toNat]?=some b22) ∧
  (((b22.toNat:Int)=34) →
   (bigRow (l14.length+2) 1) ∧
   (I64 (i13+1)) ∧
   At_Q70_2c l_ i2 (i13+1) (l14++[(92:UInt8),b22]) r) ∧
  (¬ ((b22.toNat:Int)=34) →
   (((b22.toNat:Int)=92) →
    (bigRow (l14.length+2) 1) ∧
    (I64 (i13+1)) ∧
    At_Q70_2c l_ i2 (i13+1) (l14++[(92:UInt8),b22]) r) ∧
   (¬ ((b22.toNat:Int)=92) →
    (((b22.toNat:Int)=36) →
     (bigRow (l14.length+2) 1) ∧
     (I64 (i13+1)) ∧
     At_Q70_2c l_ i2 (i13+1) (l14++[(92:UInt8),b22]) r) ∧
    (¬ ((b22.toNat:Int)=36) →
     (((b22.toNat:Int)=10) →
      (bigRow (l14.length+2) 1) ∧
      (I64 (i13+1)) ∧
      At_Q70_2c l_ i2 (i13+1) (l14++[(92:UInt8),(110:UInt8)]) r) ∧
     (¬ ((b22.toNat:Int)=10) →
      (bigRow (l14.length+1) 1) ∧
      (I64 (i13+1)) ∧
      At_Q70_2c l_ i2 (i13+1) (l14++[b22]) r))))) ∧
 (¬ (i13 < (v21.Text.length:Int)) →
  (I64 (i2+1)) ∧
  At_Q70_1c l_ (i2+1) l14 r)):At_Q70_2c l_ i2 i13 l14 r:=by
 intro S e f h
 unfold k_Q70_2
 rw[E_loop]
 have F:=aa bO34<|U_Q70
 obtain⟨p1,v21,q2,T⟩:=T
 replace F:=aa h<|aa p1<|aa q2<|F
 by_cases c3:i13 < (v21.Text.length:Int)
 ·replace T:=T.1 c3
  obtain⟨p4,b22,q5,T⟩:=T
  replace F:=aa (eq_true c3)<|aa p4<|aa q5<|F
  by_cases c6:(b22.toNat:Int)=34
  ·replace T:=T.1 c6
   obtain⟨p7,p8,T⟩:=T
   simp only[bigRow] at p7
   replace F:=aa (eq_true c6)<|aa p7<|aa p8.wrap<|F
   exact lo F T
  replace T:=T.2 c6
  replace F:=aa (eq_false c6)<|F
  by_cases c9:(b22.toNat:Int)=92
  ·replace T:=T.1 c9
   obtain⟨p10,p11,T⟩:=T
   simp only[bigRow] at p10
   replace F:=aa (eq_true c9)<|aa p10<|aa p11.wrap<|F
   exact lo F T
  replace T:=T.2 c9
  replace F:=aa (eq_false c9)<|F
  by_cases c12:(b22.toNat:Int)=36
  ·replace T:=T.1 c12
   obtain⟨p13,p14,T⟩:=T
   simp only[bigRow] at p13
   replace F:=aa (eq_true c12)<|aa p13<|aa p14.wrap<|F
   exact lo F T
  replace T:=T.2 c12
  replace F:=aa (eq_false c12)<|F
  by_cases c15:(b22.toNat:Int)=10
  ·replace T:=T.1 c15
   obtain⟨p16,p17,T⟩:=T
   simp only[bigRow] at p16
   replace F:=aa (eq_true c15)<|aa p16<|aa p17.wrap<|F
   exact lo F T
  replace T:=T.2 c15
  obtain⟨p18,p19,T⟩:=T
  simp only[bigRow] at p18
  replace F:=aa (eq_false c15)<|aa p18<|aa p19.wrap<|F
  exact lo F T
 replace T:=T.2 c3
 obtain⟨p20,T⟩:=T
 replace F:=aa (eq_false c3)<|aa p20.wrap<|F
 exact lo F T
theorem At_Q70_2d_step (l_:List Part) (i2:Int) (i15:Int) (l16:List UInt8) (r:List UInt8) (T :
  (0≤i2) ∧
 ∃ (v25:Part),(l_[i2.toNat]?=some v25) ∧
 ((i15 < (v25.Text.length:Int)) →
  (0≤i15) ∧
  ∃ (b26:UInt8),(v25.Text[i15.toNat]?=some b26) ∧
  (((b26.toNat:Int)=34) →
   (bigRow (l16.length+2) 1) ∧
   (I64 (i15+1)) ∧
   At_Q70_2d l_ i2 (i15+1) (l16++[(92:UInt8),b26]) r) ∧
  (¬ ((b26.toNat:Int)=34) →
   (((b26.toNat:Int)=92) →
    (bigRow (l16.length+2) 1) ∧
    (I64 (i15+1)) ∧
    At_Q70_2d l_ i2 (i15+1) (l16++[(92:UInt8),b26]) r) ∧
   (¬ ((b26.toNat:Int)=92) →
    (((b26.toNat:Int)=36) →
     (bigRow (l16.length+2) 1) ∧
     (I64 (i15+1)) ∧
     At_Q70_2d l_ i2 (i15+1) (l16++[(92:UInt8),b26]) r) ∧
    (¬ ((b26.toNat:Int)=36) →
     (((b26.toNat:Int)=10) →
      (bigRow (l16.length+2) 1) ∧
      (I64 (i15+1)) ∧
      At_Q70_2d l_ i2 (i15+1) (l16++[(92:UInt8),(110:UInt8)]) r) ∧
     (¬ ((b26.toNat:Int)=10) →
      (bigRow (l16.length+1) 1) ∧
      (I64 (i15+1)) ∧
      At_Q70_2d l_ i2 (i15+1) (l16++[b26]) r))))) ∧
 (¬ (i15 < (v25.Text.length:Int)) →
  (I64 (i2+1)) ∧
  At_Q70_1d l_ (i2+1) l16 r)):At_Q70_2d l_ i2 i15 l16 r:=by
 intro S e f h
 unfold k_Q70_2
 rw[E_loop]
 have F:=aa bO34<|U_Q70
 obtain⟨p1,v25,q2,T⟩:=T
 replace F:=aa h<|aa p1<|aa q2<|F
 by_cases c3:i15 < (v25.Text.length:Int)
 ·replace T:=T.1 c3
  obtain⟨p4,b26,q5,T⟩:=T
  replace F:=aa (eq_true c3)<|aa p4<|aa q5<|F
  by_cases c6:(b26.toNat:Int)=34
  ·replace T:=T.1 c6
   obtain⟨p7,p8,T⟩:=T
   simp only[bigRow] at p7
   replace F:=aa (eq_true c6)<|aa p7<|aa p8.wrap<|F
   exact lo F T
  replace T:=T.2 c6
  replace F:=aa (eq_false c6)<|F
  by_cases c9:(b26.toNat:Int)=92
  ·replace T:=T.1 c9
   obtain⟨p10,p11,T⟩:=T
   simp only[bigRow] at p10
   replace F:=aa (eq_true c9)<|aa p10<|aa p11.wrap<|F
   exact lo F T
  replace T:=T.2 c9
  replace F:=aa (eq_false c9)<|F
  by_cases c12:(b26.toNat:Int)=36
  ·replace T:=T.1 c12
   obtain⟨p13,p14,T⟩:=T
   simp only[bigRow] at p13
   replace F:=aa (eq_true c12)<|aa p13<|aa p14.wrap<|F
   exact lo F T
  replace T:=T.2 c12
  replace F:=aa (eq_false c12)<|F
  by_cases c15:(b26.toNat:Int)=10
  ·replace T:=T.1 c15
   obtain⟨p16,p17,T⟩:=T
   simp only[bigRow] at p16
   replace F:=aa (eq_true c15)<|aa p16<|aa p17.wrap<|F
   exact lo F T
  replace T:=T.2 c15
  obtain⟨p18,p19,T⟩:=T
  simp only[bigRow] at p18
  replace F:=aa (eq_false c15)<|aa p18<|aa p19.wrap<|F
  exact lo F T
 replace T:=T.2 c3
 obtain⟨p20,T⟩:=T
 replace F:=aa (eq_false c3)<|aa p20.wrap<|F
 exact lo F T
theorem At_Q70_2e_step (l_:List Part) (i2:Int) (i17:Int) (l18:List UInt8) (r:List UInt8) (T :
  (0≤i2) ∧
 ∃ (v29:Part),(l_[i2.toNat]?=some v29) ∧
 ((i17 < (v29.Text.length:Int)) →
  (0≤i17) ∧
  ∃ (b30:UInt8),(v29.Text[i17.toNat]?=some b30) ∧
  (((b30.toNat:Int)=34) →
   (bigRow (l18.length+2) 1) ∧
   (I64 (i17+1)) ∧
   At_Q70_2e l_ i2 (i17+1) (l18++[(92:UInt8),b30]) r) ∧
  (¬ ((b30.toNat:Int)=34) →
   (((b30.toNat:Int)=92) →
    (bigRow (l18.length+2) 1) ∧
    (I64 (i17+1)) ∧
    At_Q70_2e l_ i2 (i17+1) (l18++[(92:UInt8),b30]) r) ∧
   (¬ ((b30.toNat:Int)=92) →
    (((b30.toNat:Int)=36) →
     (bigRow (l18.length+2) 1) ∧
     (I64 (i17+1)) ∧
     At_Q70_2e l_ i2 (i17+1) (l18++[(92:UInt8),b30]) r) ∧
    (¬ ((b30.toNat:Int)=36) →
     (((b30.toNat:Int)=10) →
      (bigRow (l18.length+2) 1) ∧
      (I64 (i17+1)) ∧
      At_Q70_2e l_ i2 (i17+1) (l18++[(92:UInt8),(110:UInt8)]) r) ∧
     (¬ ((b30.toNat:Int)=10) →
      (bigRow (l18.length+1) 1) ∧
      (I64 (i17+1)) ∧
      At_Q70_2e l_ i2 (i17+1) (l18++[b30]) r))))) ∧
 (¬ (i17 < (v29.Text.length:Int)) →
  (I64 (i2+1)) ∧
  At_Q70_1e l_ (i2+1) l18 r)):At_Q70_2e l_ i2 i17 l18 r:=by
 intro S e f h
 unfold k_Q70_2
 rw[E_loop]
 have F:=aa bO34<|U_Q70
 obtain⟨p1,v29,q2,T⟩:=T
 replace F:=aa h<|aa p1<|aa q2<|F
 by_cases c3:i17 < (v29.Text.length:Int)
 ·replace T:=T.1 c3
  obtain⟨p4,b30,q5,T⟩:=T
  replace F:=aa (eq_true c3)<|aa p4<|aa q5<|F
  by_cases c6:(b30.toNat:Int)=34
  ·replace T:=T.1 c6
   obtain⟨p7,p8,T⟩:=T
   simp only[bigRow] at p7
   replace F:=aa (eq_true c6)<|aa p7<|aa p8.wrap<|F
   exact lo F T
  replace T:=T.2 c6
  replace F:=aa (eq_false c6)<|F
  by_cases c9:(b30.toNat:Int)=92
  ·replace T:=T.1 c9
   obtain⟨p10,p11,T⟩:=T
   simp only[bigRow] at p10
   replace F:=aa (eq_true c9)<|aa p10<|aa p11.wrap<|F
   exact lo F T
  replace T:=T.2 c9
  replace F:=aa (eq_false c9)<|F
  by_cases c12:(b30.toNat:Int)=36
  ·replace T:=T.1 c12
   obtain⟨p13,p14,T⟩:=T
   simp only[bigRow] at p13
   replace F:=aa (eq_true c12)<|aa p13<|aa p14.wrap<|F
   exact lo F T
  replace T:=T.2 c12
  replace F:=aa (eq_false c12)<|F
  by_cases c15:(b30.toNat:Int)=10
  ·replace T:=T.1 c15
   obtain⟨p16,p17,T⟩:=T
   simp only[bigRow] at p16
   replace F:=aa (eq_true c15)<|aa p16<|aa p17.wrap<|F
   exact lo F T
  replace T:=T.2 c15
  obtain⟨p18,p19,T⟩:=T
  simp only[bigRow] at p18
  replace F:=aa (eq_false c15)<|aa p18<|aa p19.wrap<|F
  exact lo F T
 replace T:=T.2 c3
 obtain⟨p20,T⟩:=T
 replace F:=aa (eq_false c3)<|aa p20.wrap<|F
 exact lo F T
theorem At_Q70_1c_step (l_:List Part) (i23:Int) (l24:List UInt8) (r:List UInt8) (T :
  ((i23 < (l_.length:Int)) →
  (0≤i23) ∧
  ∃ (v33:Part),(l_[i23.toNat]?=some v33) ∧
  ((v33.Ref=true) →
   (bigRow (l24.length+2) 1) ∧
   (bigRow (l24.length+2+v33.Text.length) 1) ∧
   (bigRow (l24.length+2+v33.Text.length+1) 1) ∧
   (I64 (i23+1)) ∧
   At_Q70_1c l_ (i23+1) (l24++[36,123]++v33.Text++[(125:UInt8)]) r) ∧
  (¬ (v33.Ref=true) →
   At_Q70_2f l_ i23 0 l24 r)) ∧
 (¬ (i23 < (l_.length:Int)) →
  (bigRow (l24.length+1) 1) ∧
  (l24++[(34:UInt8)])=r)):At_Q70_1c l_ i23 l24 r:=by
 intro S e f h
 unfold k_Q70_1
 rw[E_loop]
 have F:=aa bO34<|U_Q70
 replace F:=aa h<|F
 by_cases c1:i23 < (l_.length:Int)
 ·replace T:=T.1 c1
  obtain⟨p2,v33,q3,T⟩:=T
  replace F:=aa (eq_true c1)<|aa p2<|aa q3<|F
  by_cases c4:v33.Ref=true
  ·replace T:=T.1 c4
   obtain⟨p5,p6,p7,p8,T⟩:=T
   simp only[bigRow] at p5
   simp only[bigRow] at p6
   simp only[bigRow] at p7
   replace F:=aa c4<|aa p5<|aa p6<|aa p7<|aa p8.wrap<|F
   exact lo F T
  replace T:=T.2 c4
  replace c4:=Bool.eq_false_iff.2 c4
  replace F:=aa c4<|F
  exact lo F T
 replace T:=T.2 c1
 obtain⟨p9,rfl⟩:=T
 simp only[bigRow] at p9
 exact fi (aa (eq_false c1)<|aa p9<|F)
theorem At_Q70_1d_step (l_:List Part) (i27:Int) (l28:List UInt8) (r:List UInt8) (T :
  ((i27 < (l_.length:Int)) →
  (0≤i27) ∧
  ∃ (v36:Part),(l_[i27.toNat]?=some v36) ∧
  ((v36.Ref=true) →
   (bigRow (l28.length+2) 1) ∧
   (bigRow (l28.length+2+v36.Text.length) 1) ∧
   (bigRow (l28.length+2+v36.Text.length+1) 1) ∧
   (I64 (i27+1)) ∧
   At_Q70_1d l_ (i27+1) (l28++[36,123]++v36.Text++[(125:UInt8)]) r) ∧
  (¬ (v36.Ref=true) →
   At_Q70_2g l_ i27 0 l28 r)) ∧
 (¬ (i27 < (l_.length:Int)) →
  (bigRow (l28.length+1) 1) ∧
  (l28++[(34:UInt8)])=r)):At_Q70_1d l_ i27 l28 r:=by
 intro S e f h
 unfold k_Q70_1
 rw[E_loop]
 have F:=aa bO34<|U_Q70
 replace F:=aa h<|F
 by_cases c1:i27 < (l_.length:Int)
 ·replace T:=T.1 c1
  obtain⟨p2,v36,q3,T⟩:=T
  replace F:=aa (eq_true c1)<|aa p2<|aa q3<|F
  by_cases c4:v36.Ref=true
  ·replace T:=T.1 c4
   obtain⟨p5,p6,p7,p8,T⟩:=T
   simp only[bigRow] at p5
   simp only[bigRow] at p6
   simp only[bigRow] at p7
   replace F:=aa c4<|aa p5<|aa p6<|aa p7<|aa p8.wrap<|F
   exact lo F T
  replace T:=T.2 c4
  replace c4:=Bool.eq_false_iff.2 c4
  replace F:=aa c4<|F
  exact lo F T
 replace T:=T.2 c1
 obtain⟨p9,rfl⟩:=T
 simp only[bigRow] at p9
 exact fi (aa (eq_false c1)<|aa p9<|F)
theorem At_Q70_1e_step (l_:List Part) (i31:Int) (l32:List UInt8) (r:List UInt8) (T :
  ((i31 < (l_.length:Int)) →
  (0≤i31) ∧
  ∃ (v39:Part),(l_[i31.toNat]?=some v39) ∧
  ((v39.Ref=true) →
   (bigRow (l32.length+2) 1) ∧
   (bigRow (l32.length+2+v39.Text.length) 1) ∧
   (bigRow (l32.length+2+v39.Text.length+1) 1) ∧
   (I64 (i31+1)) ∧
   At_Q70_1e l_ (i31+1) (l32++[36,123]++v39.Text++[(125:UInt8)]) r) ∧
  (¬ (v39.Ref=true) →
   At_Q70_2h l_ i31 0 l32 r)) ∧
 (¬ (i31 < (l_.length:Int)) →
  (bigRow (l32.length+1) 1) ∧
  (l32++[(34:UInt8)])=r)):At_Q70_1e l_ i31 l32 r:=by
 intro S e f h
 unfold k_Q70_1
 rw[E_loop]
 have F:=aa bO34<|U_Q70
 replace F:=aa h<|F
 by_cases c1:i31 < (l_.length:Int)
 ·replace T:=T.1 c1
  obtain⟨p2,v39,q3,T⟩:=T
  replace F:=aa (eq_true c1)<|aa p2<|aa q3<|F
  by_cases c4:v39.Ref=true
  ·replace T:=T.1 c4
   obtain⟨p5,p6,p7,p8,T⟩:=T
   simp only[bigRow] at p5
   simp only[bigRow] at p6
   simp only[bigRow] at p7
   replace F:=aa c4<|aa p5<|aa p6<|aa p7<|aa p8.wrap<|F
   exact lo F T
  replace T:=T.2 c4
  replace c4:=Bool.eq_false_iff.2 c4
  replace F:=aa c4<|F
  exact lo F T
 replace T:=T.2 c1
 obtain⟨p9,rfl⟩:=T
 simp only[bigRow] at p9
 exact fi (aa (eq_false c1)<|aa p9<|F)
theorem At_Q70_2f_step (l_:List Part) (i23:Int) (i34:Int) (l35:List UInt8) (r:List UInt8) (T :
  (0≤i23) ∧
 ∃ (v42:Part),(l_[i23.toNat]?=some v42) ∧
 ((i34 < (v42.Text.length:Int)) →
  (0≤i34) ∧
  ∃ (b43:UInt8),(v42.Text[i34.toNat]?=some b43) ∧
  (((b43.toNat:Int)=34) →
   (bigRow (l35.length+2) 1) ∧
   (I64 (i34+1)) ∧
   At_Q70_2f l_ i23 (i34+1) (l35++[(92:UInt8),b43]) r) ∧
  (¬ ((b43.toNat:Int)=34) →
   (((b43.toNat:Int)=92) →
    (bigRow (l35.length+2) 1) ∧
    (I64 (i34+1)) ∧
    At_Q70_2f l_ i23 (i34+1) (l35++[(92:UInt8),b43]) r) ∧
   (¬ ((b43.toNat:Int)=92) →
    (((b43.toNat:Int)=36) →
     (bigRow (l35.length+2) 1) ∧
     (I64 (i34+1)) ∧
     At_Q70_2f l_ i23 (i34+1) (l35++[(92:UInt8),b43]) r) ∧
    (¬ ((b43.toNat:Int)=36) →
     (((b43.toNat:Int)=10) →
      (bigRow (l35.length+2) 1) ∧
      (I64 (i34+1)) ∧
      At_Q70_2f l_ i23 (i34+1) (l35++[(92:UInt8),(110:UInt8)]) r) ∧
     (¬ ((b43.toNat:Int)=10) →
      (bigRow (l35.length+1) 1) ∧
      (I64 (i34+1)) ∧
      At_Q70_2f l_ i23 (i34+1) (l35++[b43]) r))))) ∧
 (¬ (i34 < (v42.Text.length:Int)) →
  (I64 (i23+1)) ∧
  At_Q70_1c l_ (i23+1) l35 r)):At_Q70_2f l_ i23 i34 l35 r:=by
 intro S e f h
 unfold k_Q70_2
 rw[E_loop]
 have F:=aa bO34<|U_Q70
 obtain⟨p1,v42,q2,T⟩:=T
 replace F:=aa h<|aa p1<|aa q2<|F
 by_cases c3:i34 < (v42.Text.length:Int)
 ·replace T:=T.1 c3
  obtain⟨p4,b43,q5,T⟩:=T
  replace F:=aa (eq_true c3)<|aa p4<|aa q5<|F
  by_cases c6:(b43.toNat:Int)=34
  ·replace T:=T.1 c6
   obtain⟨p7,p8,T⟩:=T
   simp only[bigRow] at p7
   replace F:=aa (eq_true c6)<|aa p7<|aa p8.wrap<|F
   exact lo F T
  replace T:=T.2 c6
  replace F:=aa (eq_false c6)<|F
  by_cases c9:(b43.toNat:Int)=92
  ·replace T:=T.1 c9
   obtain⟨p10,p11,T⟩:=T
   simp only[bigRow] at p10
   replace F:=aa (eq_true c9)<|aa p10<|aa p11.wrap<|F
   exact lo F T
  replace T:=T.2 c9
  replace F:=aa (eq_false c9)<|F
  by_cases c12:(b43.toNat:Int)=36
  ·replace T:=T.1 c12
   obtain⟨p13,p14,T⟩:=T
   simp only[bigRow] at p13
   replace F:=aa (eq_true c12)<|aa p13<|aa p14.wrap<|F
   exact lo F T
  replace T:=T.2 c12
  replace F:=aa (eq_false c12)<|F
  by_cases c15:(b43.toNat:Int)=10
  ·replace T:=T.1 c15
   obtain⟨p16,p17,T⟩:=T
   simp only[bigRow] at p16
   replace F:=aa (eq_true c15)<|aa p16<|aa p17.wrap<|F
   exact lo F T
  replace T:=T.2 c15
  obtain⟨p18,p19,T⟩:=T
  simp only[bigRow] at p18
  replace F:=aa (eq_false c15)<|aa p18<|aa p19.wrap<|F
  exact lo F T
 replace T:=T.2 c3
 obtain⟨p20,T⟩:=T
 replace F:=aa (eq_false c3)<|aa p20.wrap<|F
 exact lo F T
theorem At_Q70_2g_step (l_:List Part) (i27:Int) (i37:Int) (l38:List UInt8) (r:List UInt8) (T :
  (0≤i27) ∧
 ∃ (v44:Part),(l_[i27.toNat]?=some v44) ∧
 ((i37 < (v44.Text.length:Int)) →
  (0≤i37) ∧
  ∃ (b45:UInt8),(v44.Text[i37.toNat]?=some b45) ∧
  (((b45.toNat:Int)=34) →
   (bigRow (l38.length+2) 1) ∧
   (I64 (i37+1)) ∧
   At_Q70_2g l_ i27 (i37+1) (l38++[(92:UInt8),b45]) r) ∧
  (¬ ((b45.toNat:Int)=34) →
   (((b45.toNat:Int)=92) →
    (bigRow (l38.length+2) 1) ∧
    (I64 (i37+1)) ∧
    At_Q70_2g l_ i27 (i37+1) (l38++[(92:UInt8),b45]) r) ∧
   (¬ ((b45.toNat:Int)=92) →
    (((b45.toNat:Int)=36) →
     (bigRow (l38.length+2) 1) ∧
     (I64 (i37+1)) ∧
     At_Q70_2g l_ i27 (i37+1) (l38++[(92:UInt8),b45]) r) ∧
    (¬ ((b45.toNat:Int)=36) →
     (((b45.toNat:Int)=10) →
      (bigRow (l38.length+2) 1) ∧
      (I64 (i37+1)) ∧
      At_Q70_2g l_ i27 (i37+1) (l38++[(92:UInt8),(110:UInt8)]) r) ∧
     (¬ ((b45.toNat:Int)=10) →
      (bigRow (l38.length+1) 1) ∧
      (I64 (i37+1)) ∧
      At_Q70_2g l_ i27 (i37+1) (l38++[b45]) r))))) ∧
 (¬ (i37 < (v44.Text.length:Int)) →
  (I64 (i27+1)) ∧
  At_Q70_1d l_ (i27+1) l38 r)):At_Q70_2g l_ i27 i37 l38 r:=by
 intro S e f h
 unfold k_Q70_2
 rw[E_loop]
 have F:=aa bO34<|U_Q70
 obtain⟨p1,v44,q2,T⟩:=T
 replace F:=aa h<|aa p1<|aa q2<|F
 by_cases c3:i37 < (v44.Text.length:Int)
 ·replace T:=T.1 c3
  obtain⟨p4,b45,q5,T⟩:=T
  replace F:=aa (eq_true c3)<|aa p4<|aa q5<|F
  by_cases c6:(b45.toNat:Int)=34
  ·replace T:=T.1 c6
   obtain⟨p7,p8,T⟩:=T
   simp only[bigRow] at p7
   replace F:=aa (eq_true c6)<|aa p7<|aa p8.wrap<|F
   exact lo F T
  replace T:=T.2 c6
  replace F:=aa (eq_false c6)<|F
  by_cases c9:(b45.toNat:Int)=92
  ·replace T:=T.1 c9
   obtain⟨p10,p11,T⟩:=T
   simp only[bigRow] at p10
   replace F:=aa (eq_true c9)<|aa p10<|aa p11.wrap<|F
   exact lo F T
  replace T:=T.2 c9
  replace F:=aa (eq_false c9)<|F
  by_cases c12:(b45.toNat:Int)=36
  ·replace T:=T.1 c12
   obtain⟨p13,p14,T⟩:=T
   simp only[bigRow] at p13
   replace F:=aa (eq_true c12)<|aa p13<|aa p14.wrap<|F
   exact lo F T
  replace T:=T.2 c12
  replace F:=aa (eq_false c12)<|F
  by_cases c15:(b45.toNat:Int)=10
  ·replace T:=T.1 c15
   obtain⟨p16,p17,T⟩:=T
   simp only[bigRow] at p16
   replace F:=aa (eq_true c15)<|aa p16<|aa p17.wrap<|F
   exact lo F T
  replace T:=T.2 c15
  obtain⟨p18,p19,T⟩:=T
  simp only[bigRow] at p18
  replace F:=aa (eq_false c15)<|aa p18<|aa p19.wrap<|F
  exact lo F T
 replace T:=T.2 c3
 obtain⟨p20,T⟩:=T
 replace F:=aa (eq_false c3)<|aa p20.wrap<|F
 exact lo F T
theorem At_Q70_2h_step (l_:List Part) (i31:Int) (i40:Int) (l41:List UInt8) (r:List UInt8) (T :
  (0≤i31) ∧
 ∃ (v46:Part),(l_[i31.toNat]?=some v46) ∧
 ((i40 < (v46.Text.length:Int)) →
  (0≤i40) ∧
  ∃ (b47:UInt8),(v46.Text[i40.toNat]?=some b47) ∧
  (((b47.toNat:Int)=34) →
   (bigRow (l41.length+2) 1) ∧
   (I64 (i40+1)) ∧
   At_Q70_2h l_ i31 (i40+1) (l41++[(92:UInt8),b47]) r) ∧
  (¬ ((b47.toNat:Int)=34) →
   (((b47.toNat:Int)=92) →
    (bigRow (l41.length+2) 1) ∧
    (I64 (i40+1)) ∧
    At_Q70_2h l_ i31 (i40+1) (l41++[(92:UInt8),b47]) r) ∧
   (¬ ((b47.toNat:Int)=92) →
    (((b47.toNat:Int)=36) →
     (bigRow (l41.length+2) 1) ∧
     (I64 (i40+1)) ∧
     At_Q70_2h l_ i31 (i40+1) (l41++[(92:UInt8),b47]) r) ∧
    (¬ ((b47.toNat:Int)=36) →
     (((b47.toNat:Int)=10) →
      (bigRow (l41.length+2) 1) ∧
      (I64 (i40+1)) ∧
      At_Q70_2h l_ i31 (i40+1) (l41++[(92:UInt8),(110:UInt8)]) r) ∧
     (¬ ((b47.toNat:Int)=10) →
      (bigRow (l41.length+1) 1) ∧
      (I64 (i40+1)) ∧
      At_Q70_2h l_ i31 (i40+1) (l41++[b47]) r))))) ∧
 (¬ (i40 < (v46.Text.length:Int)) →
  (I64 (i31+1)) ∧
  At_Q70_1e l_ (i31+1) l41 r)):At_Q70_2h l_ i31 i40 l41 r:=by
 intro S e f h
 unfold k_Q70_2
 rw[E_loop]
 have F:=aa bO34<|U_Q70
 obtain⟨p1,v46,q2,T⟩:=T
 replace F:=aa h<|aa p1<|aa q2<|F
 by_cases c3:i40 < (v46.Text.length:Int)
 ·replace T:=T.1 c3
  obtain⟨p4,b47,q5,T⟩:=T
  replace F:=aa (eq_true c3)<|aa p4<|aa q5<|F
  by_cases c6:(b47.toNat:Int)=34
  ·replace T:=T.1 c6
   obtain⟨p7,p8,T⟩:=T
   simp only[bigRow] at p7
   replace F:=aa (eq_true c6)<|aa p7<|aa p8.wrap<|F
   exact lo F T
  replace T:=T.2 c6
  replace F:=aa (eq_false c6)<|F
  by_cases c9:(b47.toNat:Int)=92
  ·replace T:=T.1 c9
   obtain⟨p10,p11,T⟩:=T
   simp only[bigRow] at p10
   replace F:=aa (eq_true c9)<|aa p10<|aa p11.wrap<|F
   exact lo F T
  replace T:=T.2 c9
  replace F:=aa (eq_false c9)<|F
  by_cases c12:(b47.toNat:Int)=36
  ·replace T:=T.1 c12
   obtain⟨p13,p14,T⟩:=T
   simp only[bigRow] at p13
   replace F:=aa (eq_true c12)<|aa p13<|aa p14.wrap<|F
   exact lo F T
  replace T:=T.2 c12
  replace F:=aa (eq_false c12)<|F
  by_cases c15:(b47.toNat:Int)=10
  ·replace T:=T.1 c15
   obtain⟨p16,p17,T⟩:=T
   simp only[bigRow] at p16
   replace F:=aa (eq_true c15)<|aa p16<|aa p17.wrap<|F
   exact lo F T
  replace T:=T.2 c15
  obtain⟨p18,p19,T⟩:=T
  simp only[bigRow] at p18
  replace F:=aa (eq_false c15)<|aa p18<|aa p19.wrap<|F
  exact lo F T
 replace T:=T.2 c3
 obtain⟨p20,T⟩:=T
 replace F:=aa (eq_false c3)<|aa p20.wrap<|F
 exact lo F T
theorem Q70_tree (l_:List Part) (r:List UInt8) (T :
  At_Q70_1 l_ [(34:UInt8)] 0 r):R_Q70 l_ r:=by
 intro S
 rw[call_code sp_Q70 _ _ rfl]
 have F:=aa bO34<|U_Q70
 exact lo F T
theorem sp_Q46:SP 46=some (.code sc_Q46):=SPof_code rfl Tryz.func46 comp_Q46
def At_Q46_1 (l_:List Node) (v1:Node) (s4:List UInt8) (i5:Int) (r:List UInt8):Prop:=∀ (S:Sto) (e:Nat→PV) (f:Fr),e 0=.list 5 (l_.map eNode) false∧e 5=.ptr 0 5 0∧e 6=.str s4∧e 7=.int .i64 i5∧f.box 5=some [.int .i64 v1.Kind,.int .i64 v1.Num,.str v1.Text,.list 2 (v1.Parts.map ePart) false,.list 1 (v1.Kids.map eI) false]→k_Q46_1 SP (E SP (.loop b_Q46_1) ⟨e,f::S⟩)=.ok (.v (.str r)) S
theorem At_Q46_1_step (l_:List Node) (v1:Node) (s4:List UInt8) (i5:Int) (r:List UInt8) (T :
  ((i5 < (v1.Kids.length:Int)) →
  ((0 < i5) →
   (s4.length+2≤maxInt) ∧
   (0≤i5) ∧
   ∃ (v58:Int),(v1.Kids[i5.toNat]?=some v58) ∧
   ∃ (r59:List UInt8),(R_Q46 l_ v58 r59) ∧
   (s4.length+2+r59.length≤maxInt) ∧
   (I64 (i5+1)) ∧
   At_Q46_1 l_ v1 ((s4++[44,32])++r59) (i5+1) r) ∧
  (¬ (0 < i5) →
   (0≤i5) ∧
   ∃ (v60:Int),(v1.Kids[i5.toNat]?=some v60) ∧
   ∃ (r61:List UInt8),(R_Q46 l_ v60 r61) ∧
   (s4.length+r61.length≤maxInt) ∧
   (I64 (i5+1)) ∧
   At_Q46_1 l_ v1 (s4++r61) (i5+1) r)) ∧
 (¬ (i5 < (v1.Kids.length:Int)) →
  ((v1.Kind=6) →
   (1+s4.length≤maxInt) ∧
   (s4.length+1+1≤maxInt) ∧
   (([91]++s4)++[93])=r) ∧
  (¬ (v1.Kind=6) →
   (v1.Text.length+1≤maxInt) ∧
   (v1.Text.length+1+s4.length≤maxInt) ∧
   (v1.Text.length+1+s4.length+1≤maxInt) ∧
   (((v1.Text++[40])++s4)++[41])=r))):At_Q46_1 l_ v1 s4 i5 r:=by
 intro S e f h
 unfold k_Q46_1
 rw[E_loop]
 have F:=U_Q46
 replace F:=aa h<|F
 by_cases c1:i5 < (v1.Kids.length:Int)
 ·replace T:=T.1 c1
  replace F:=aa (eq_true c1)<|F
  by_cases c2:0 < i5
  ·replace T:=T.1 c2
   obtain⟨p3,p4,v58,q5,r59,q6,p7,p8,T⟩:=T
   simp only[R_Q46,lF] at q6
   replace F:=aa (eq_true c2)<|aa p3<|aa p4<|aa q5<|aa q6<|aa p7<|aa p8.wrap<|F
   exact lo F T
  replace T:=T.2 c2
  obtain⟨p9,v60,q10,r61,q11,p12,p13,T⟩:=T
  simp only[R_Q46,lF] at q11
  replace F:=aa (eq_false c2)<|aa p9<|aa q10<|aa q11<|aa p12<|aa p13.wrap<|F
  exact lo F T
 replace T:=T.2 c1
 replace F:=aa (eq_false c1)<|F
 by_cases c14:v1.Kind=6
 ·replace T:=T.1 c14
  obtain⟨p15,p16,rfl⟩:=T
  exact fi (aa (eq_true c14)<|aa p15<|aa p16<|F)
 replace T:=T.2 c14
 obtain⟨p17,p18,p19,rfl⟩:=T
 exact fi (aa (eq_false c14)<|aa p17<|aa p18<|aa p19<|F)
theorem Q46_tree (l_:List Node) (at_:Int) (r:List UInt8) (T :
  (0≤at_) ∧
 ∃ (v1:Node),(l_[at_.toNat]?=some v1) ∧
 ((v1.Kind=1) →
  ∃ (r2:List UInt8),(R_Q16 v1.Num r2) ∧
  r2=r) ∧
 (¬ (v1.Kind=1) →
  ((v1.Kind=2) →
   ∃ (r3:List UInt8),(R_Q70 v1.Parts r3) ∧
   r3=r) ∧
  (¬ (v1.Kind=2) →
   ((v1.Kind=3) →
    ((v1.Num=1) →
     [116,114,117,101]=r) ∧
    (¬ (v1.Num=1) →
     [102,97,108,115,101]=r)) ∧
   (¬ (v1.Kind=3) →
    ((v1.Kind=4) →
     v1.Text=r) ∧
    (¬ (v1.Kind=4) →
     ((v1.Kind=5) →
      At_Q46_1 l_ v1 [] 0 r) ∧
     (¬ (v1.Kind=5) →
      ((v1.Kind=6) →
       At_Q46_1 l_ v1 [] 0 r) ∧
      (¬ (v1.Kind=6) →
       ((v1.Kind=7) →
        ∃ (v6:Int),(v1.Kids[0]?=some v6) ∧
        ∃ (r7:List UInt8),(R_Q46 l_ v6 r7) ∧
        (0≤v6) ∧
        ∃ (v8:Node),(l_[v6.toNat]?=some v8) ∧
        ∃ (r9:Int),(R_Q72 v8.Kind r9) ∧
        ∃ (r10:List UInt8),(R_Q71 r7 (decide (r9 < 7)) r10) ∧
        (r10.length+1≤maxInt) ∧
        ∃ (v11:Int),(v1.Kids[1]?=some v11) ∧
        ∃ (r12:List UInt8),(R_Q46 l_ v11 r12) ∧
        (r10.length+1+r12.length≤maxInt) ∧
        (r10.length+1+r12.length+1≤maxInt) ∧
        (((r10++[91])++r12)++[93])=r) ∧
       (¬ (v1.Kind=7) →
        ((v1.Kind=8) →
         ∃ (v13:Int),(v1.Kids[0]?=some v13) ∧
         ∃ (r14:List UInt8),(R_Q46 l_ v13 r14) ∧
         (0≤v13) ∧
         ∃ (v15:Node),(l_[v13.toNat]?=some v15) ∧
         ∃ (r16:Int),(R_Q72 v15.Kind r16) ∧
         ∃ (r17:List UInt8),(R_Q71 r14 (decide (r16 < 6)) r17) ∧
         (1+r17.length≤maxInt) ∧
         ([33]++r17)=r) ∧
        (¬ (v1.Kind=8) →
         ((v1.Kind=9) →
          ∃ (v18:Int),(v1.Kids[0]?=some v18) ∧
          ∃ (r19:List UInt8),(R_Q46 l_ v18 r19) ∧
          (0≤v18) ∧
          ∃ (v20:Node),(l_[v18.toNat]?=some v20) ∧
          ∃ (r21:Int),(R_Q72 v20.Kind r21) ∧
          ∃ (r22:List UInt8),(R_Q71 r19 (decide (r21 < 6)) r22) ∧
          (1+r22.length≤maxInt) ∧
          ([45]++r22)=r) ∧
         (¬ (v1.Kind=9) →
          ((v1.Kind=10) →
           ∃ (v23:Int),(v1.Kids[0]?=some v23) ∧
           ∃ (r24:List UInt8),(R_Q46 l_ v23 r24) ∧
           (0≤v23) ∧
           ∃ (v25:Node),(l_[v23.toNat]?=some v25) ∧
           ∃ (r26:Int),(R_Q72 v25.Kind r26) ∧
           ∃ (r27:List UInt8),(R_Q71 r24 (decide (r26=0)) r27) ∧
           (r27.length+3≤maxInt) ∧
           ∃ (v28:Int),(v1.Kids[1]?=some v28) ∧
           ∃ (r29:List UInt8),(R_Q46 l_ v28 r29) ∧
           (r27.length+3+r29.length≤maxInt) ∧
           (r27.length+3+r29.length+3≤maxInt) ∧
           ∃ (v30:Int),(v1.Kids[2]?=some v30) ∧
           ∃ (r31:List UInt8),(R_Q46 l_ v30 r31) ∧
           (r27.length+3+r29.length+3+r31.length≤maxInt) ∧
           ((((r27++[32,63,32])++r29)++[32,58,32])++r31)=r) ∧
          (¬ (v1.Kind=10) →
           ∃ (v32:Int),(v1.Kids[0]?=some v32) ∧
           ∃ (v33:Int),(v1.Kids[1]?=some v33) ∧
           ∃ (r34:Int),(R_Q72 v1.Kind r34) ∧
           (0≤v32) ∧
           ∃ (v35:Node),(l_[v32.toNat]?=some v35) ∧
           ∃ (r36:Int),(R_Q72 v35.Kind r36) ∧
           ((r36 < r34) →
            ∃ (r37:List UInt8),(R_Q46 l_ v32 r37) ∧
            ∃ (r38:List UInt8),(R_Q71 r37 true r38) ∧
            (r38.length+1≤maxInt) ∧
            (I64 (v1.Kind - 11)) ∧
            (0≤(v1.Kind - 11)) ∧
            ∃ (v39:List UInt8),(([[124,124],[38,38],[61,61],[33,61],[60],[60,61],[62],[62,61],[43],[45],[42],[47],[37]]:List (List UInt8))[(v1.Kind - 11).toNat]?=some v39) ∧
            (r38.length+1+v39.length≤maxInt) ∧
            (r38.length+1+v39.length+1≤maxInt) ∧
            ∃ (r40:List UInt8),(R_Q46 l_ v33 r40) ∧
            (0≤v33) ∧
            ∃ (v41:Node),(l_[v33.toNat]?=some v41) ∧
            ∃ (r42:Int),(R_Q72 v41.Kind r42) ∧
            ∃ (r43:List UInt8),(R_Q71 r40 (decide (r42≤r34)) r43) ∧
            (r38.length+1+v39.length+1+r43.length≤maxInt) ∧
            ((((r38++[32])++v39)++[32])++r43)=r) ∧
           (¬ (r36 < r34) →
            ((r34=3) →
             ∃ (r44:List UInt8),(R_Q46 l_ v32 r44) ∧
             ∃ (r45:List UInt8),(R_Q71 r44 (decide (r36=3)) r45) ∧
             (r45.length+1≤maxInt) ∧
             (I64 (v1.Kind - 11)) ∧
             (0≤(v1.Kind - 11)) ∧
             ∃ (v46:List UInt8),(([[124,124],[38,38],[61,61],[33,61],[60],[60,61],[62],[62,61],[43],[45],[42],[47],[37]]:List (List UInt8))[(v1.Kind - 11).toNat]?=some v46) ∧
             (r45.length+1+v46.length≤maxInt) ∧
             (r45.length+1+v46.length+1≤maxInt) ∧
             ∃ (r47:List UInt8),(R_Q46 l_ v33 r47) ∧
             (0≤v33) ∧
             ∃ (v48:Node),(l_[v33.toNat]?=some v48) ∧
             ∃ (r49:Int),(R_Q72 v48.Kind r49) ∧
             ∃ (r50:List UInt8),(R_Q71 r47 (decide (r49≤r34)) r50) ∧
             (r45.length+1+v46.length+1+r50.length≤maxInt) ∧
             ((((r45++[32])++v46)++[32])++r50)=r) ∧
            (¬ (r34=3) →
             ∃ (r51:List UInt8),(R_Q46 l_ v32 r51) ∧
             ∃ (r52:List UInt8),(R_Q71 r51 false r52) ∧
             (r52.length+1≤maxInt) ∧
             (I64 (v1.Kind - 11)) ∧
             (0≤(v1.Kind - 11)) ∧
             ∃ (v53:List UInt8),(([[124,124],[38,38],[61,61],[33,61],[60],[60,61],[62],[62,61],[43],[45],[42],[47],[37]]:List (List UInt8))[(v1.Kind - 11).toNat]?=some v53) ∧
             (r52.length+1+v53.length≤maxInt) ∧
             (r52.length+1+v53.length+1≤maxInt) ∧
             ∃ (r54:List UInt8),(R_Q46 l_ v33 r54) ∧
             (0≤v33) ∧
             ∃ (v55:Node),(l_[v33.toNat]?=some v55) ∧
             ∃ (r56:Int),(R_Q72 v55.Kind r56) ∧
             ∃ (r57:List UInt8),(R_Q71 r54 (decide (r56≤r34)) r57) ∧
             (r52.length+1+v53.length+1+r57.length≤maxInt) ∧
             ((((r52++[32])++v53)++[32])++r57)=r))))))))))))):R_Q46 l_ at_ r:=by
 intro S
 rw[call_code sp_Q46 _ _ rfl]
 have F:=U_Q46
 obtain⟨p1,v1,q2,T⟩:=T
 replace F:=aa p1<|aa q2<|F
 by_cases c3:v1.Kind=1
 ·replace T:=T.1 c3
  obtain⟨r2,q4,rfl⟩:=T
  simp only[R_Q16,lF] at q4
  exact fi (aa (eq_true c3)<|aa q4<|F)
 replace T:=T.2 c3
 replace F:=aa (eq_false c3)<|F
 by_cases c5:v1.Kind=2
 ·replace T:=T.1 c5
  obtain⟨r3,q6,rfl⟩:=T
  simp only[R_Q70,lF] at q6
  exact fi (aa (eq_true c5)<|aa q6<|F)
 replace T:=T.2 c5
 replace F:=aa (eq_false c5)<|F
 by_cases c7:v1.Kind=3
 ·replace T:=T.1 c7
  replace F:=aa (eq_true c7)<|F
  by_cases c8:v1.Num=1
  ·replace T:=T.1 c8
   obtain rfl:=T
   exact fi (aa (eq_true c8)<|F)
  replace T:=T.2 c8
  obtain rfl:=T
  exact fi (aa (eq_false c8)<|F)
 replace T:=T.2 c7
 replace F:=aa (eq_false c7)<|F
 by_cases c9:v1.Kind=4
 ·replace T:=T.1 c9
  obtain rfl:=T
  exact fi (aa (eq_true c9)<|F)
 replace T:=T.2 c9
 replace F:=aa (eq_false c9)<|F
 by_cases c10:v1.Kind=5
 ·replace T:=T.1 c10
  replace F:=aa (eq_true c10)<|F
  exact lo F T
 replace T:=T.2 c10
 replace F:=aa (eq_false c10)<|F
 by_cases c11:v1.Kind=6
 ·replace T:=T.1 c11
  replace F:=aa (eq_true c11)<|F
  exact lo F T
 replace T:=T.2 c11
 replace F:=aa (eq_false c11)<|F
 by_cases c12:v1.Kind=7
 ·replace T:=T.1 c12
  obtain⟨v6,q13,r7,q14,p15,v8,q16,r9,q17,r10,q18,p19,v11,q20,r12,q21,p22,p23,rfl⟩:=T
  simp only[R_Q46,lF] at q14
  simp only[R_Q72,lF] at q17
  simp only[R_Q71,lF] at q18
  simp only[R_Q46,lF] at q21
  exact fi (aa (eq_true c12)<|aa q13<|aa q14<|aa p15<|aa q16<|aa q17<|aa q18<|aa p19<|aa q20<|aa q21<|aa p22<|aa p23<|F)
 replace T:=T.2 c12
 replace F:=aa (eq_false c12)<|F
 by_cases c24:v1.Kind=8
 ·replace T:=T.1 c24
  obtain⟨v13,q26,r14,q27,p28,v15,q29,r16,q30,r17,q31,p32,rfl⟩:=T
  have d25:¬ (v1.Kind=9):=fun h=>absurd (c24.symm.trans h) (by decide)
  simp only[R_Q46,lF] at q27
  simp only[R_Q72,lF] at q30
  simp only[R_Q71,lF] at q31
  exact fi (aa (eq_true c24)<|aa (eq_false d25)<|aa q26<|aa q27<|aa p28<|aa q29<|aa q30<|aa q31<|aa p32<|F)
 replace T:=T.2 c24
 replace F:=aa (eq_false c24)<|F
 by_cases c33:v1.Kind=9
 ·replace T:=T.1 c33
  obtain⟨v18,q34,r19,q35,p36,v20,q37,r21,q38,r22,q39,p40,rfl⟩:=T
  simp only[R_Q46,lF] at q35
  simp only[R_Q72,lF] at q38
  simp only[R_Q71,lF] at q39
  exact fi (aa (eq_true c33)<|aa q34<|aa q35<|aa p36<|aa q37<|aa q38<|aa q39<|aa p40<|F)
 replace T:=T.2 c33
 replace F:=aa (eq_false c33)<|F
 by_cases c41:v1.Kind=10
 ·replace T:=T.1 c41
  obtain⟨v23,q42,r24,q43,p44,v25,q45,r26,q46,r27,q47,p48,v28,q49,r29,q50,p51,p52,v30,q53,r31,q54,p55,rfl⟩:=T
  simp only[R_Q46,lF] at q43
  simp only[R_Q72,lF] at q46
  simp only[R_Q71,lF] at q47
  simp only[R_Q46,lF] at q50
  simp only[R_Q46,lF] at q54
  exact fi (aa (eq_true c41)<|aa q42<|aa q43<|aa p44<|aa q45<|aa q46<|aa q47<|aa p48<|aa q49<|aa q50<|aa p51<|aa p52<|aa q53<|aa q54<|aa p55<|F)
 replace T:=T.2 c41
 obtain⟨v32,q56,v33,q57,r34,q58,p59,v35,q60,r36,q61,T⟩:=T
 simp only[R_Q72,lF] at q58
 simp only[R_Q72,lF] at q61
 replace F:=aa (eq_false c41)<|aa q56<|aa q57<|aa q58<|aa p59<|aa q60<|aa q61<|F
 by_cases c62:r36 < r34
 ·replace T:=T.1 c62
  obtain⟨r37,q63,r38,q64,p65,p66,p67,v39,q68,p69,p70,r40,q71,p72,v41,q73,r42,q74,r43,q75,p76,rfl⟩:=T
  simp only[R_Q46,lF] at q63
  simp only[R_Q71,lF] at q64
  replace q68:=congrArg (Option.map eS) q68
  rw[←List.getElem?_map] at q68
  simp only[le,List.map_append,Option.map_some] at q68
  simp only[R_Q46,lF] at q71
  simp only[R_Q72,lF] at q74
  simp only[R_Q71,lF] at q75
  exact fi (aa (eq_true c62)<|aa q63<|aa q64<|aa p65<|aa p66.wrap<|aa p67<|aa q68<|aa p69<|aa p70<|aa q71<|aa p72<|aa q73<|aa q74<|aa q75<|aa p76<|F)
 replace T:=T.2 c62
 replace F:=aa (eq_false c62)<|F
 by_cases c77:r34=3
 ·replace T:=T.1 c77
  obtain⟨r44,q78,r45,q79,p80,p81,p82,v46,q83,p84,p85,r47,q86,p87,v48,q88,r49,q89,r50,q90,p91,rfl⟩:=T
  simp only[R_Q46,lF] at q78
  simp only[R_Q71,lF] at q79
  replace q83:=congrArg (Option.map eS) q83
  rw[←List.getElem?_map] at q83
  simp only[le,List.map_append,Option.map_some] at q83
  simp only[R_Q46,lF] at q86
  simp only[R_Q72,lF] at q89
  simp only[R_Q71,lF] at q90
  exact fi (aa (eq_true c77)<|aa q78<|aa q79<|aa p80<|aa p81.wrap<|aa p82<|aa q83<|aa p84<|aa p85<|aa q86<|aa p87<|aa q88<|aa q89<|aa q90<|aa p91<|F)
 replace T:=T.2 c77
 obtain⟨r51,q92,r52,q93,p94,p95,p96,v53,q97,p98,p99,r54,q100,p101,v55,q102,r56,q103,r57,q104,p105,rfl⟩:=T
 simp only[R_Q46,lF] at q92
 simp only[R_Q71,lF] at q93
 replace q97:=congrArg (Option.map eS) q97
 rw[←List.getElem?_map] at q97
 simp only[le,List.map_append,Option.map_some] at q97
 simp only[R_Q46,lF] at q100
 simp only[R_Q72,lF] at q103
 simp only[R_Q71,lF] at q104
 exact fi (aa (eq_false c77)<|aa q92<|aa q93<|aa p94<|aa p95.wrap<|aa p96<|aa q97<|aa p98<|aa p99<|aa q100<|aa p101<|aa q102<|aa q103<|aa q104<|aa p105<|F)
theorem sp_Q24:SP 24=some (.code sc_Q24):=SPof_code rfl Tryz.func24 comp_Q24
theorem Q24_tree (l_:List Node) (r:List UInt8) (T :
  ∃ (r1:Bool),(R_Q29 l_ r1) ∧
 ((r1=true) →
  (I64 ((l_.length:Int) - 1)) ∧
  ∃ (r2:List UInt8),(R_Q46 l_ ((l_.length:Int) - 1) r2) ∧
  r2=r) ∧
 (¬ (r1=true) →
  []=r)):R_Q24 l_ r:=by
 intro S
 rw[call_code sp_Q24 _ _ rfl]
 have F:=U_Q24
 obtain⟨r1,q1,T⟩:=T
 simp only[R_Q29,lF] at q1
 replace F:=aa q1<|F
 by_cases c2:r1=true
 ·replace T:=T.1 c2
  obtain⟨p3,r2,q4,rfl⟩:=T
  simp only[R_Q46,lF] at q4
  exact fi (aa c2<|aa p3.wrap<|aa q4<|F)
 replace T:=T.2 c2
 replace c2:=Bool.eq_false_iff.2 c2
 obtain rfl:=T
 exact fi (aa c2<|F)
theorem sp_Q96:SP 96=some (.code sc_Q96):=SPof_code rfl Tryz.func96 comp_Q96
theorem Q96_tree (kind:Int) (r:List UInt8) (T :
  (0≤kind) ∧
 ∃ (v1:List UInt8),(([[],[118,97,114,105,97,98,108,101],[108,111,99,97,108,115],[110,111,100,101],[109,111,100,117,108,101],[100,101,102,105,110,101]]:List (List UInt8))[kind.toNat]?=some v1) ∧
 v1=r):R_Q96 kind r:=by
 intro S
 rw[call_code sp_Q96 _ _ rfl]
 have F:=U_Q96
 obtain⟨p1,v1,q2,rfl⟩:=T
 replace q2:=congrArg (Option.map eS) q2
 rw[←List.getElem?_map] at q2
 simp only[le,List.map_append,Option.map_some] at q2
 exact fi (aa p1<|aa q2<|F)
theorem sp_Q59:SP 59=some (.code sc_Q59):=SPof_code rfl Tryz.func59 comp_Q59
def At_Q59_1 (l_:List Block) (far:List UInt8) (s1:List UInt8) (i2:Int) (r:List UInt8):Prop:=∀ (S:Sto) (e:Nat→PV) (f:Fr),e 0=.list 4 (l_.map eBlock) false∧e 1=.str far∧e 5=.str s1∧e 6=.int .i64 i2→k_Q59_1 SP (E SP (.loop b_Q59_1) ⟨e,f::S⟩)=.ok (.v (.str r)) S
def At_Q59_2 (l_:List Block) (far:List UInt8) (i2:Int) (v3:Block) (s5:List UInt8) (i6:Int) (r:List UInt8):Prop:=∀ (S:Sto) (e:Nat→PV) (f:Fr),e 0=.list 4 (l_.map eBlock) false∧e 1=.str far∧e 5=.str s5∧e 6=.int .i64 i2∧e 7=.ptr 0 7 0∧e 8=.int .i64 i6∧f.box 7=some [.int .i64 v3.Kind,.str v3.Label,.list 2 (v3.Attrs.map eAttr) false,.list 4 (v3.Blocks.map eBlock) false]→k_Q59_2 SP (E SP (.loop b_Q59_2) ⟨e,f::S⟩)=.ok (.v (.str r)) S
theorem At_Q59_1_step (l_:List Block) (far:List UInt8) (s1:List UInt8) (i2:Int) (r:List UInt8) (T :
  ((i2 < (l_.length:Int)) →
  (0≤i2) ∧
  ∃ (v3:Block),(l_[i2.toNat]?=some v3) ∧
  (s1.length+far.length≤maxInt) ∧
  ∃ (r4:List UInt8),(R_Q96 v3.Kind r4) ∧
  (s1.length+far.length+r4.length≤maxInt) ∧
  (s1.length+far.length+r4.length+1≤maxInt) ∧
  ((v3.Kind=2) →
   (s1.length+far.length+r4.length+1+2≤maxInt) ∧
   At_Q59_2 l_ far i2 v3 ((((s1++far)++r4)++[32])++[123,10]) 0 r) ∧
  (¬ (v3.Kind=2) →
   (s1.length+far.length+r4.length+1+1≤maxInt) ∧
   (s1.length+far.length+r4.length+1+1+v3.Label.length≤maxInt) ∧
   (s1.length+far.length+r4.length+1+1+v3.Label.length+2≤maxInt) ∧
   (s1.length+far.length+r4.length+1+1+v3.Label.length+2+2≤maxInt) ∧
   At_Q59_2 l_ far i2 v3 (((((((s1++far)++r4)++[32])++[34])++v3.Label)++[34,32])++[123,10]) 0 r)) ∧
 (¬ (i2 < (l_.length:Int)) →
  s1=r)):At_Q59_1 l_ far s1 i2 r:=by
 intro S e f h
 unfold k_Q59_1
 rw[E_loop]
 have F:=U_Q59
 replace F:=aa h<|F
 by_cases c1:i2 < (l_.length:Int)
 ·replace T:=T.1 c1
  obtain⟨p2,v3,q3,p4,r4,q5,p6,p7,T⟩:=T
  simp only[R_Q96,lF] at q5
  replace F:=aa (eq_true c1)<|aa p2<|aa q3<|aa p4<|aa q5<|aa p6<|aa p7<|F
  by_cases c8:v3.Kind=2
  ·replace T:=T.1 c8
   obtain⟨p9,T⟩:=T
   replace F:=aa (eq_true c8)<|aa p9<|F
   exact lo F T
  replace T:=T.2 c8
  obtain⟨p10,p11,p12,p13,T⟩:=T
  replace F:=aa (eq_false c8)<|aa p10<|aa p11<|aa p12<|aa p13<|F
  exact lo F T
 replace T:=T.2 c1
 obtain rfl:=T
 exact fi (aa (eq_false c1)<|F)
theorem At_Q59_2_step (l_:List Block) (far:List UInt8) (i2:Int) (v3:Block) (s5:List UInt8) (i6:Int) (r:List UInt8) (T :
  ((i6 < (v3.Attrs.length:Int)) →
  (s5.length+far.length≤maxInt) ∧
  (s5.length+far.length+2≤maxInt) ∧
  (0≤i6) ∧
  ∃ (v7:Attr),(v3.Attrs[i6.toNat]?=some v7) ∧
  (s5.length+far.length+2+v7.Name.length≤maxInt) ∧
  (s5.length+far.length+2+v7.Name.length+3≤maxInt) ∧
  ∃ (r8:List UInt8),(R_Q24 v7.Expr r8) ∧
  (s5.length+far.length+2+v7.Name.length+3+r8.length≤maxInt) ∧
  (s5.length+far.length+2+v7.Name.length+3+r8.length+1≤maxInt) ∧
  (I64 (i6+1)) ∧
  At_Q59_2 l_ far i2 v3 ((((((s5++far)++[32,32])++v7.Name)++[32,61,32])++r8)++[10]) (i6+1) r) ∧
 (¬ (i6 < (v3.Attrs.length:Int)) →
  (far.length+2≤maxInt) ∧
  ∃ (r9:List UInt8),(R_Q59 v3.Blocks (far++[32,32]) r9) ∧
  (s5.length+r9.length≤maxInt) ∧
  (s5.length+r9.length+far.length≤maxInt) ∧
  (s5.length+r9.length+far.length+2≤maxInt) ∧
  (I64 (i2+1)) ∧
  At_Q59_1 l_ far (((s5++r9)++far)++[125,10]) (i2+1) r)):At_Q59_2 l_ far i2 v3 s5 i6 r:=by
 intro S e f h
 unfold k_Q59_2
 rw[E_loop]
 have F:=U_Q59
 replace F:=aa h<|F
 by_cases c1:i6 < (v3.Attrs.length:Int)
 ·replace T:=T.1 c1
  obtain⟨p2,p3,p4,v7,q5,p6,p7,r8,q8,p9,p10,p11,T⟩:=T
  simp only[R_Q24,lF] at q8
  replace F:=aa (eq_true c1)<|aa p2<|aa p3<|aa p4<|aa q5<|aa p6<|aa p7<|aa q8<|aa p9<|aa p10<|aa p11.wrap<|F
  exact lo F T
 replace T:=T.2 c1
 obtain⟨p12,r9,q13,p14,p15,p16,p17,T⟩:=T
 simp only[R_Q59,lF] at q13
 replace F:=aa (eq_false c1)<|aa p12<|aa q13<|aa p14<|aa p15<|aa p16<|aa p17.wrap<|F
 exact lo F T
theorem Q59_tree (l_:List Block) (far:List UInt8) (r:List UInt8) (T :
  At_Q59_1 l_ far [] 0 r):R_Q59 l_ far r:=by
 intro S
 rw[call_code sp_Q59 _ _ rfl]
 have F:=U_Q59
 exact lo F T
theorem sp_Q35:SP 35=some (.code sc_Q35):=SPof_code rfl Tryz.func35 comp_Q35
theorem Q35_tree (l_:List Block) (r:List UInt8) (T :
  ∃ (r1:Bool),(R_Q31 l_ r1) ∧
 ((r1=true) →
  ∃ (r2:List UInt8),(R_Q59 l_ [] r2) ∧
  r2=r) ∧
 (¬ (r1=true) →
  []=r)):R_Q35 l_ r:=by
 intro S
 rw[call_code sp_Q35 _ _ rfl]
 have F:=U_Q35
 obtain⟨r1,q1,T⟩:=T
 simp only[R_Q31,lF] at q1
 replace F:=aa q1<|F
 by_cases c2:r1=true
 ·replace T:=T.1 c2
  obtain⟨r2,q3,rfl⟩:=T
  simp only[R_Q59,lF] at q3
  exact fi (aa c2<|aa q3<|F)
 replace T:=T.2 c2
 replace c2:=Bool.eq_false_iff.2 c2
 obtain rfl:=T
 exact fi (aa c2<|F)
theorem sp_Q34:SP 34=some (.code sc_Q34):=SPof_code rfl Tryz.func34 comp_Q34
def At_Q34_1 (l_:List Block) (i2:Int) (l3:List UInt8) (g4:Nat) (z5:Bool) (r:List UInt8):Prop:=∀ (S:Sto) (e:Nat→PV) (f:Fr),e 3=.ptr 0 10 0∧e 11=.list 4 (l_.map eBlock) false∧e 12=.int .i64 (l_.length:Int)∧e 13=.int .i64 i2∧f.box 10=some [.sl 0 (.cell 10 0) 0 l3.length l3.length g4 false]∧f.arr (.cell 10 0)=some ⟨1,l3.map eB,z5,g4⟩→k_Q34_1 SP (E SP (.loop b_Q34_1) ⟨e,f::S⟩)=.ok (.v (.str r)) S
theorem At_Q34_1_step (l_:List Block) (i2:Int) (l3:List UInt8) (g4:Nat) (z5:Bool) (r:List UInt8) (T :
  ((i2 < (l_.length:Int)) →
  (0≤i2) ∧
  ∃ (v6:Block),(l_[i2.toNat]?=some v6) ∧
  ∃ (y7:SBlocks) (g8:Nat) (z9:Bool),(R_Q58 (SBlocks.mk (SWriter.mk l3)) g4 z5 v6 0 y7 g8 z9) ∧
  (I64 (i2+1)) ∧
  At_Q34_1 l_ (i2+1) y7.writer.out g8 z9 r) ∧
 (¬ (i2 < (l_.length:Int)) →
  l3=r)):At_Q34_1 l_ i2 l3 g4 z5 r:=by
 intro S e f h
 unfold k_Q34_1
 rw[E_loop]
 have F:=U_Q34
 replace F:=aa h<|F
 by_cases c1:i2 < (l_.length:Int)
 ·replace T:=T.1 c1
  obtain⟨p2,v6,q3,y7,g8,z9,q4,p5,T⟩:=T
  simp only[R_Q58,lF] at q4
  replace F:=aa (eq_true c1)<|aa p2<|aa q3<|aa q4<|aa p5.wrap<|F
  exact lo F T
 replace T:=T.2 c1
 obtain rfl:=T
 exact fi (aa (eq_false c1)<|F)
theorem Q34_tree (l_:List Block) (r:List UInt8) (T :
  ∃ (r1:Bool),(R_Q30 l_ r1) ∧
 ((r1=true) →
  At_Q34_1 l_ 0 [] 0 false r) ∧
 (¬ (r1=true) →
  []=r)):R_Q34 l_ r:=by
 intro S
 rw[call_code sp_Q34 _ _ rfl]
 have F:=U_Q34
 obtain⟨r1,q1,T⟩:=T
 simp only[R_Q30,lF] at q1
 replace F:=aa q1<|F
 by_cases c2:r1=true
 ·replace T:=T.1 c2
  replace F:=aa c2<|F
  exact lo F T
 replace T:=T.2 c2
 replace c2:=Bool.eq_false_iff.2 c2
 obtain rfl:=T
 exact fi (aa c2<|F)
theorem sp_Q58:SP 58=some (.code sc_Q58):=SPof_code rfl Tryz.func58 comp_Q58
def At_Q58_2 (x:Block) (deep_:Int) (r1:List UInt8) (i9:Int) (b10:SBlocks) (g11:Nat) (z12:Bool) (b':SBlocks) (b'_g0:Nat) (b'_z0:Bool):Prop:=∀ (S:Sto) (e:Nat→PV) (f:Fr) (n0 t0:Nat),((getBox S n0 t0).map (List.take 1)=some [.sl 0 (.cell t0 0) 0 b10.writer.out.length b10.writer.out.length g11 false]∧getArr S n0 (.cell t0 0)=some ⟨1,b10.writer.out.map eB,z12,g11⟩)→e 0=.ptr (n0+1) t0 0∧e 2=.int .i64 deep_∧e 4=.ptr 0 4 0∧e 6=.str r1∧e 40=.list 2 (x.Attrs.map eAttr) false∧e 41=.int .i64 (x.Attrs.length:Int)∧e 42=.int .i64 i9∧f.box 4=some [.int .i64 x.Kind,.str x.Label,.list 2 (x.Attrs.map eAttr) false,.list 4 (x.Blocks.map eBlock) false]→k_Q58_2 SP (E SP (.loop b_Q58_2) ⟨e,f::S⟩)=.ok (.v (.tup [])) (setArr (setBox S n0 t0 ([.sl 0 (.cell t0 0) 0 b'.writer.out.length b'.writer.out.length b'_g0 false]++((getBox S n0 t0).getD []).drop 1)) n0 (.cell t0 0) ⟨1,b'.writer.out.map eB,b'_z0,b'_g0⟩)
def At_Q58_1 (x:Block) (deep_:Int) (r1:List UInt8) (i29:Int) (b30:SBlocks) (g31:Nat) (z32:Bool) (b':SBlocks) (b'_g0:Nat) (b'_z0:Bool):Prop:=∀ (S:Sto) (e:Nat→PV) (f:Fr) (n0 t0:Nat),((getBox S n0 t0).map (List.take 1)=some [.sl 0 (.cell t0 0) 0 b30.writer.out.length b30.writer.out.length g31 false]∧getArr S n0 (.cell t0 0)=some ⟨1,b30.writer.out.map eB,z32,g31⟩)→e 0=.ptr (n0+1) t0 0∧e 2=.int .i64 deep_∧e 6=.str r1∧e 67=.list 4 (x.Blocks.map eBlock) false∧e 68=.int .i64 (x.Blocks.length:Int)∧e 69=.int .i64 i29→k_Q58_1 SP (E SP (.loop b_Q58_1) ⟨e,f::S⟩)=.ok (.v (.tup [])) (setArr (setBox S n0 t0 ([.sl 0 (.cell t0 0) 0 b'.writer.out.length b'.writer.out.length b'_g0 false]++((getBox S n0 t0).getD []).drop 1)) n0 (.cell t0 0) ⟨1,b'.writer.out.map eB,b'_z0,b'_g0⟩)
theorem At_Q58_2_step (x:Block) (deep_:Int) (r1:List UInt8) (i9:Int) (b10:SBlocks) (g11:Nat) (z12:Bool) (b':SBlocks) (b'_g0:Nat) (b'_z0:Bool) (T :
  ((i9 < (x.Attrs.length:Int)) →
  (0≤i9) ∧
  ∃ (v19:Attr),(x.Attrs[i9.toNat]?=some v19) ∧
  ∃ (y20:SWriter) (g21:Nat) (z22:Bool),(R_Q95 b10.writer g11 z12 [r1,[32,32],v19.Name,[32,61,32]] y20 g21 z22) ∧
  ∃ (y23:SWriter) (g24:Nat) (z25:Bool),(R_Q45 y20 g21 z22 v19.Expr y23 g24 z25) ∧
  ∃ (y26:SWriter) (g27:Nat) (z28:Bool),(R_Q95 y23 g24 z25 [[10]] y26 g27 z28) ∧
  (I64 (i9+1)) ∧
  At_Q58_2 x deep_ r1 (i9+1) (SBlocks.mk y26) g27 z28 b' b'_g0 b'_z0) ∧
 (¬ (i9 < (x.Attrs.length:Int)) →
  At_Q58_1 x deep_ r1 0 b10 g11 z12 b' b'_g0 b'_z0)):At_Q58_2 x deep_ r1 i9 b10 g11 z12 b' b'_g0 b'_z0:=by
 intro S e f n0 t0 H0 h
 obtain⟨hb0,ha0⟩:=H0
 obtain⟨w0,hB0⟩:=take_some hb0
 have hn0:=o_getBox_lt hB0
 unfold k_Q58_2
 rw[E_loop]
 have F:=U_Q58
 replace F:=aa ha0<|aa hB0<|aa hn0<|aa h<|F
 by_cases c1:i9 < (x.Attrs.length:Int)
 ·replace T:=T.1 c1
  obtain⟨p2,v19,q3,y20,g21,z22,q4,y23,g24,z25,q5,y26,g27,z28,q6,p7,T⟩:=T
  simp only[R_Q95,lF] at q4
  simp only[R_Q45,lF] at q5
  simp only[R_Q95,lF] at q6
  replace F:=aa (eq_true c1)<|aa p2<|aa q3<|aa q4<|aa q5<|aa q6<|aa p7.wrap<|F
  try simp only[F,lw,lx,le,Nat.reduceMul,UInt8.reduceToNat,reduceIte,reduceCtorEq,Nat.reduceEqDiff,Nat.reduceAdd,Nat.reduceLeDiff,Nat.reduceSub,Nat.reduceLT,Int.reduceEq,Int.reduceLT,Int.reduceLE,Int.reduceToNat,Int.reduceAdd,Int.reduceSub,Int.reduceMul,Int.reduceNeg]
  refine (T _ _ _ n0 t0 ?_ ?_).trans ?_
  all_goals exact fi F
 replace T:=T.2 c1
 replace F:=aa (eq_false c1)<|F
 try simp only[F,lw,lx,le,Nat.reduceMul,UInt8.reduceToNat,reduceIte,reduceCtorEq,Nat.reduceEqDiff,Nat.reduceAdd,Nat.reduceLeDiff,Nat.reduceSub,Nat.reduceLT,Int.reduceEq,Int.reduceLT,Int.reduceLE,Int.reduceToNat,Int.reduceAdd,Int.reduceSub,Int.reduceMul,Int.reduceNeg]
 refine (T _ _ _ n0 t0 ?_ ?_).trans ?_
 all_goals exact fi F
theorem At_Q58_1_step (x:Block) (deep_:Int) (r1:List UInt8) (i29:Int) (b30:SBlocks) (g31:Nat) (z32:Bool) (b':SBlocks) (b'_g0:Nat) (b'_z0:Bool) (T :
  ((i29 < (x.Blocks.length:Int)) →
  (0≤i29) ∧
  ∃ (v33:Block),(x.Blocks[i29.toNat]?=some v33) ∧
  (I64 (deep_+1)) ∧
  ∃ (y34:SBlocks) (g35:Nat) (z36:Bool),(R_Q58 b30 g31 z32 v33 (deep_+1) y34 g35 z36) ∧
  (I64 (i29+1)) ∧
  At_Q58_1 x deep_ r1 (i29+1) y34 g35 z36 b' b'_g0 b'_z0) ∧
 (¬ (i29 < (x.Blocks.length:Int)) →
  ∃ (y37:SWriter) (g38:Nat) (z39:Bool),(R_Q95 b30.writer g31 z32 [r1,[125,10]] y37 g38 z39) ∧
  (SBlocks.mk y37)=b'∧g38=b'_g0∧z39=b'_z0)):At_Q58_1 x deep_ r1 i29 b30 g31 z32 b' b'_g0 b'_z0:=by
 intro S e f n0 t0 H0 h
 obtain⟨hb0,ha0⟩:=H0
 obtain⟨w0,hB0⟩:=take_some hb0
 have hn0:=o_getBox_lt hB0
 unfold k_Q58_1
 rw[E_loop]
 have F:=U_Q58
 replace F:=aa ha0<|aa hB0<|aa hn0<|aa h<|F
 by_cases c1:i29 < (x.Blocks.length:Int)
 ·replace T:=T.1 c1
  obtain⟨p2,v33,q3,p4,y34,g35,z36,q5,p6,T⟩:=T
  simp only[R_Q58,lF] at q5
  replace F:=aa (eq_true c1)<|aa p2<|aa q3<|aa p4.wrap<|aa q5<|aa p6.wrap<|F
  try simp only[F,lw,lx,le,Nat.reduceMul,UInt8.reduceToNat,reduceIte,reduceCtorEq,Nat.reduceEqDiff,Nat.reduceAdd,Nat.reduceLeDiff,Nat.reduceSub,Nat.reduceLT,Int.reduceEq,Int.reduceLT,Int.reduceLE,Int.reduceToNat,Int.reduceAdd,Int.reduceSub,Int.reduceMul,Int.reduceNeg]
  refine (T _ _ _ n0 t0 ?_ ?_).trans ?_
  all_goals exact fi F
 replace T:=T.2 c1
 obtain⟨y37,g38,z39,q7,rfl,rfl,rfl⟩:=T
 simp only[R_Q95,lF] at q7
 exact fi (aa (eq_false c1)<|aa q7<|F)
theorem Q58_tree (b:SBlocks) (b_g0:Nat) (b_z0:Bool) (x:Block) (deep_:Int) (b':SBlocks) (b'_g0:Nat) (b'_z0:Bool) (T :
  ∃ (r1:List UInt8),(R_strings_Repeat [32,32] deep_ r1) ∧
 (0≤x.Kind) ∧
 ∃ (v2:List UInt8),(([[],[118,97,114,105,97,98,108,101],[108,111,99,97,108,115],[110,111,100,101],[109,111,100,117,108,101],[100,101,102,105,110,101]]:List (List UInt8))[x.Kind.toNat]?=some v2) ∧
 ∃ (y3:SWriter) (g4:Nat) (z5:Bool),(R_Q95 b.writer b_g0 b_z0 [r1,v2,[32]] y3 g4 z5) ∧
 ((x.Kind=2) →
  ∃ (y6:SWriter) (g7:Nat) (z8:Bool),(R_Q95 y3 g4 z5 [[123,10]] y6 g7 z8) ∧
  At_Q58_2 x deep_ r1 0 (SBlocks.mk y6) g7 z8 b' b'_g0 b'_z0) ∧
 (¬ (x.Kind=2) →
  ∃ (y13:SWriter) (g14:Nat) (z15:Bool),(R_Q95 y3 g4 z5 [[34],x.Label,[34,32]] y13 g14 z15) ∧
  ∃ (y16:SWriter) (g17:Nat) (z18:Bool),(R_Q95 y13 g14 z15 [[123,10]] y16 g17 z18) ∧
  At_Q58_2 x deep_ r1 0 (SBlocks.mk y16) g17 z18 b' b'_g0 b'_z0)):R_Q58 b b_g0 b_z0 x deep_ b' b'_g0 b'_z0:=by
 intro S n0 t0 H0
 obtain⟨hb0,ha0⟩:=H0
 obtain⟨w0,hB0⟩:=take_some hb0
 have hn0:=o_getBox_lt hB0
 rw[call_code sp_Q58 _ _ rfl]
 have F:=U_Q58
 obtain⟨r1,q1,p2,v2,q3,y3,g4,z5,q4,T⟩:=T
 simp only[R_strings_Repeat,lF] at q1
 replace q3:=congrArg (Option.map eS) q3
 rw[←List.getElem?_map] at q3
 simp only[le,List.map_append,Option.map_some] at q3
 simp only[R_Q95,lF] at q4
 replace F:=aa ha0<|aa hB0<|aa hn0<|aa q1<|aa p2<|aa q3<|aa q4<|F
 by_cases c5:x.Kind=2
 ·replace T:=T.1 c5
  obtain⟨y6,g7,z8,q6,T⟩:=T
  simp only[R_Q95,lF] at q6
  replace F:=aa (eq_true c5)<|aa q6<|F
  try simp only[F,lw,lx,le,Nat.reduceMul,UInt8.reduceToNat,reduceIte,reduceCtorEq,Nat.reduceEqDiff,Nat.reduceAdd,Nat.reduceLeDiff,Nat.reduceSub,Nat.reduceLT,Int.reduceEq,Int.reduceLT,Int.reduceLE,Int.reduceToNat,Int.reduceAdd,Int.reduceSub,Int.reduceMul,Int.reduceNeg]
  refine (T _ _ _ n0 t0 ?_ ?_).trans ?_
  all_goals exact fi F
 replace T:=T.2 c5
 obtain⟨y13,g14,z15,q7,y16,g17,z18,q8,T⟩:=T
 simp only[R_Q95,lF] at q7
 simp only[R_Q95,lF] at q8
 replace F:=aa (eq_false c5)<|aa q7<|aa q8<|F
 try simp only[F,lw,lx,le,Nat.reduceMul,UInt8.reduceToNat,reduceIte,reduceCtorEq,Nat.reduceEqDiff,Nat.reduceAdd,Nat.reduceLeDiff,Nat.reduceSub,Nat.reduceLT,Int.reduceEq,Int.reduceLT,Int.reduceLE,Int.reduceToNat,Int.reduceAdd,Int.reduceSub,Int.reduceMul,Int.reduceNeg]
 refine (T _ _ _ n0 t0 ?_ ?_).trans ?_
 all_goals exact fi F
theorem sp_Q25:SP 25=some (.code sc_Q25):=SPof_code rfl Tryz.func25 comp_Q25
theorem Q25_tree  (r:Bool) (T :
  ∃ (r1:List Node) (r2:Int),(R_Q20 [40,32,49,43,32,50,41,32,42,51] r1 r2) ∧
 ∃ (r3:List UInt8),(R_Q23 r1 r3) ∧
 (decide (r3=[40,49,32,43,32,50,41,32,42,32,51]))=r):R_Q25  r:=by
 intro S
 rw[call_code sp_Q25 _ _ rfl]
 have F:=U_Q25
 obtain⟨r1,r2,q1,r3,q2,rfl⟩:=T
 simp only[R_Q20,lF] at q1
 simp only[R_Q23,lF] at q2
 exact fi (aa q1<|aa q2<|F)
theorem sp_Q12:SP 12=some (.code sc_Q12):=SPof_code rfl Tryz.func12 comp_Q12
theorem Q12_tree (l_:List Node) (b:List Block) (r:Bool) (T :
  ∃ (r1:Bool),(R_Q27 l_ r1) ∧
 ((r1=true) →
  ∃ (r2:Bool),(R_Q25 r2) ∧
  r2=r) ∧
 (¬ (r1=true) →
  ∃ (r3:Bool),(R_Q28 b 0 r3) ∧
  ((r3=true) →
   ∃ (r4:Bool),(R_Q25 r4) ∧
   r4=r) ∧
  (¬ (r3=true) →
   ∃ (r5:List UInt8),(R_Q23 l_ r5) ∧
   ∃ (r6:List UInt8),(R_Q24 l_ r6) ∧
   ((r5=r6) →
    ∃ (r7:List UInt8),(R_Q34 b r7) ∧
    ∃ (r8:List UInt8),(R_Q35 b r8) ∧
    ((r7=r8) →
     ∃ (r9:Bool),(R_Q25 r9) ∧
     r9=r) ∧
    (¬ (r7=r8) →
     false=r)) ∧
   (¬ (r5=r6) →
    false=r)))):R_Q12 l_ b r:=by
 intro S
 rw[call_code sp_Q12 _ _ rfl]
 have F:=U_Q12
 obtain⟨r1,q1,T⟩:=T
 simp only[R_Q27,lF] at q1
 replace F:=aa q1<|F
 by_cases c2:r1=true
 ·replace T:=T.1 c2
  obtain⟨r2,q3,rfl⟩:=T
  simp only[R_Q25,lF] at q3
  exact fi (aa c2<|aa q3<|F)
 replace T:=T.2 c2
 replace c2:=Bool.eq_false_iff.2 c2
 obtain⟨r3,q4,T⟩:=T
 simp only[R_Q28,lF] at q4
 replace F:=aa c2<|aa q4<|F
 by_cases c5:r3=true
 ·replace T:=T.1 c5
  obtain⟨r4,q6,rfl⟩:=T
  simp only[R_Q25,lF] at q6
  exact fi (aa c5<|aa q6<|F)
 replace T:=T.2 c5
 replace c5:=Bool.eq_false_iff.2 c5
 obtain⟨r5,q7,r6,q8,T⟩:=T
 simp only[R_Q23,lF] at q7
 simp only[R_Q24,lF] at q8
 replace F:=aa c5<|aa q7<|aa q8<|F
 by_cases c9:r5=r6
 ·replace T:=T.1 c9
  obtain⟨r7,q10,r8,q11,T⟩:=T
  simp only[R_Q34,lF] at q10
  simp only[R_Q35,lF] at q11
  replace F:=aa (eq_true c9)<|aa q10<|aa q11<|F
  by_cases c12:r7=r8
  ·replace T:=T.1 c12
   obtain⟨r9,q13,rfl⟩:=T
   simp only[R_Q25,lF] at q13
   exact fi (aa (eq_true c12)<|aa q13<|F)
  replace T:=T.2 c12
  obtain rfl:=T
  exact fi (aa (eq_false c12)<|F)
 replace T:=T.2 c9
 obtain rfl:=T
 exact fi (aa (eq_false c9)<|F)
end Go.Proofs.YtfbcnpbhhooapaaGreatDoor.M

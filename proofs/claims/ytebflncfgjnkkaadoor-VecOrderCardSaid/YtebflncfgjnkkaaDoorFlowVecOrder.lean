/- The walk of doorkeeper/doorkeeperlaw10.VecOrder: what its calls answer is premised; each region's operations are shown once. Written by a program of this session (flow.py). -/
import Derived.Test.YtebflncfgjnkkaaDoorX1
import Derived.Test.YtebflncfgjnkkaaDoorX2
import Derived.Test.YtebflncfgjnkkaaDoorX4
import Derived.Test.YtebflncfgjnkkaaDoorX6
import Derived.Test.YtebflncfgjnkkaaDoorXFlow5
import Derived.Test.YtebflncfgjnkkaaDoorXItoa
namespace Go.Proofs.YtebflncfgjnkkaaDoor.X
open Go.RowKit Go.Proofs.YtebflncfgjnkkaaDoorW.PrintWords Go.Proofs.YtebflncfgjnkkaaDoorW.PrintLast Go.Proofs.YtebflncfgjnkkaaDoorW.Flow
set_option linter.unusedVariables false
set_option linter.unusedSimpArgs false
attribute [local go_sem high] eqA24
def doorkeeperlaw10_VecOrder.es0 : List (Nat × Tmp) := [(0, 18)]
def doorkeeperlaw10_VecOrder.B0 : List Nat := [0]
set_option maxHeartbeats 4000000 in
set_option maxRecDepth 100000 in
theorem doorkeeperlaw10_VecOrder.reg0 (p0 : Int) (p1 : Int) (p2 : Int) (p3 : Int) (p4 : Int) (p5 : Int) (p6 : Int) (p7 : Int) (p8 : Int) {Q : Exit → Act → World → Prop} {a0 : Act} {w0 w : World} {f0 : Fz} (hN : a0.tmps.size = 127) (hD : a0.defers = []) (ws : WS w0 f0 [] w) (E0 : a0.tmps[0]? = some (.int .u16 p0)) (E1 : a0.tmps[1]? = some (.int .u16 p1)) (E2 : a0.tmps[2]? = some (.int .u16 p2)) (E3 : a0.tmps[3]? = some (.int .u16 p3)) (E4 : a0.tmps[4]? = some (.int .u16 p4)) (E5 : a0.tmps[5]? = some (.int .u16 p5)) (E6 : a0.tmps[6]? = some (.int .u16 p6)) (E7 : a0.tmps[7]? = some (.int .u16 p7)) (E8 : a0.tmps[8]? = some (.int .u16 p8))
    (K : ∀ (a : Act) (w : World) (f : Fz), a.tmps.size = 127 → a.defers = [] → WS w0 f [] w → a.tmps[0]? = some (.int .u16 p0) → a.tmps[1]? = some (.int .u16 p1) → a.tmps[2]? = some (.int .u16 p2) → a.tmps[3]? = some (.int .u16 p3) → a.tmps[4]? = some (.int .u16 p4) → a.tmps[5]? = some (.int .u16 p5) → a.tmps[6]? = some (.int .u16 p6) → a.tmps[7]? = some (.int .u16 p7) → a.tmps[8]? = some (.int .u16 p8) → a.tmps[18]? = some (.bool false) → Q .normal a w) :
    (Code.region 0 (opsOf Tryd.f4 0) false).wp Tryd.prog Q a0 w := by
  have hk : esOk doorkeeperlaw10_VecOrder.es0 = true := by kernel_rfl
  have hops : opsOf Tryd.f4 0 = opsOf Tryd.f4 0 := rfl
  conv at hops => rhs; unfold Tryd.f4; simp only [opsOf, Option.bind_some, Option.getD_some, opsIn, Nat.reduceBEq, if_true, if_false, Bool.false_eq_true, reduceIte]
  rw [hops]
  clear hops
  refine region_list (B := doorkeeperlaw10_VecOrder.B0) 1 (St a0 w0 f0 doorkeeperlaw10_VecOrder.es0 [] (([] : List (Nat × Ct)).map fun p => (p.1, (⟨p.2, none⟩ : Bx))) [.pure true (.bool false)]) (by kernel_rfl) (by kernel_rfl) ?_ ?_ ?_
  · exact ws.start
  · show ∀ i ∈ [0], _
    refine steps_cons ?_ ?_
    · refine step_pure (i := 0) (t := 18) hk rfl rfl rfl rfl rfl rfl (gd_none rfl) (fun hC V G f b a w h hon hoff => ?_)
      go_simp; (try rfl)
    exact steps_nil
  · rintro b a w' hb ⟨V, G, f, h⟩
    exact K a w' f (h.size.1.trans hN) (h.size.2.trans hD) (WS.nil h) ((h.keep (t := 0) rfl).trans E0) ((h.keep (t := 1) rfl).trans E1) ((h.keep (t := 2) rfl).trans E2) ((h.keep (t := 3) rfl).trans E3) ((h.keep (t := 4) rfl).trans E4) ((h.keep (t := 5) rfl).trans E5) ((h.keep (t := 6) rfl).trans E6) ((h.keep (t := 7) rfl).trans E7) ((h.keep (t := 8) rfl).trans E8) (StAt.pure_ h hk (j := 0) (t := 18) rfl rfl (hb 0 (by decide)) (by rw [hN]; decide) rfl rfl)
def doorkeeperlaw10_VecOrder.es1 : List (Nat × Tmp) := [(0, 23), (1, 24), (2, 25), (3, 26), (4, 27), (5, 28), (6, 29), (7, 30), (8, 31), (9, 32), (10, 33), (11, 34), (12, 19), (13, 20), (14, 21)]
def doorkeeperlaw10_VecOrder.B1 : List Nat := [0, 1, 3, 7, 15, 31, 63, 127, 255, 511, 1023, 2047, 4095, 8191, 16383, 32767, 65535, 131071]
set_option maxHeartbeats 4000000 in
set_option maxRecDepth 100000 in
theorem doorkeeperlaw10_VecOrder.reg1 (p0 : Int) (p1 : Int) (p2 : Int) (p3 : Int) (p4 : Int) (p5 : Int) (p6 : Int) (p7 : Int) (p8 : Int) (r1_0 : Int) (r1_1 : Int) (r1_2 : Int) (r2_0 : Int) (r2_1 : Int) (r2_2 : Int) (r3_0 : Int) (r3_1 : Int) (r3_2 : Int) {Q : Exit → Act → World → Prop} {a0 : Act} {w0 w : World} {f0 : Fz} (hN : a0.tmps.size = 127) (hD : a0.defers = []) (ws : WS w0 f0 [] w) (E0 : a0.tmps[0]? = some (.int .u16 p0)) (E1 : a0.tmps[1]? = some (.int .u16 p1)) (E2 : a0.tmps[2]? = some (.int .u16 p2)) (E3 : a0.tmps[3]? = some (.int .u16 p3)) (E4 : a0.tmps[4]? = some (.int .u16 p4)) (E5 : a0.tmps[5]? = some (.int .u16 p5)) (E6 : a0.tmps[6]? = some (.int .u16 p6)) (E7 : a0.tmps[7]? = some (.int .u16 p7)) (E8 : a0.tmps[8]? = some (.int .u16 p8)) (E18 : a0.tmps[18]? = some (.bool false)) (q1 : true = true → doorkeeperlaw10_Make.f p0 p1 p2 = some (r1_0, r1_1, r1_2)) (q2 : true = true → doorkeeperlaw10_Make.f p3 p4 p5 = some (r2_0, r2_1, r2_2)) (q3 : true = true → doorkeeperlaw10_Make.f p6 p7 p8 = some (r3_0, r3_1, r3_2))
    (K : ∀ (a : Act) (w : World) (f : Fz) (g19 : Nat) (g20 : Nat) (g21 : Nat), a.tmps.size = 127 → a.defers = [] → WS w0 f [(g21, .pure (.cells #[.int .i64 r3_0, .int .i64 r3_1, .int .i64 r3_2] 24 (0, 0))), (g20, .pure (.cells #[.int .i64 r2_0, .int .i64 r2_1, .int .i64 r2_2] 24 (0, 0))), (g19, .pure (.cells #[.int .i64 r1_0, .int .i64 r1_1, .int .i64 r1_2] 24 (0, 0)))] w → a.tmps[18]? = some (.bool false) → a.tmps[19]? = some (.pointer (some ⟨g19, 0, none⟩)) → a.tmps[20]? = some (.pointer (some ⟨g20, 0, none⟩)) → a.tmps[21]? = some (.pointer (some ⟨g21, 0, none⟩)) → Q .normal a w) :
    (Code.region 1 (opsOf Tryd.f4 1) false).wp Tryd.prog Q a0 w := by
  have hk : esOk doorkeeperlaw10_VecOrder.es1 = true := by kernel_rfl
  have hops : opsOf Tryd.f4 1 = opsOf Tryd.f4 1 := rfl
  conv at hops => rhs; unfold Tryd.f4; simp only [opsOf, Option.bind_some, Option.getD_some, opsIn, Nat.reduceBEq, if_true, if_false, Bool.false_eq_true, reduceIte]
  rw [hops]
  clear hops
  have hu24 := Tryd.underlying24
  refine region_list (B := doorkeeperlaw10_VecOrder.B1) 18 (St a0 w0 f0 doorkeeperlaw10_VecOrder.es1 [(12, ⟨.pure (.cells #[.int .i64 0, .int .i64 0, .int .i64 0] 24 (0, 0)), some (15, .pure (.cells #[.int .i64 r1_0, .int .i64 r1_1, .int .i64 r1_2] 24 (0, 0)))⟩), (13, ⟨.pure (.cells #[.int .i64 0, .int .i64 0, .int .i64 0] 24 (0, 0)), some (16, .pure (.cells #[.int .i64 r2_0, .int .i64 r2_1, .int .i64 r2_2] 24 (0, 0)))⟩), (14, ⟨.pure (.cells #[.int .i64 0, .int .i64 0, .int .i64 0] 24 (0, 0)), some (17, .pure (.cells #[.int .i64 r3_0, .int .i64 r3_1, .int .i64 r3_2] 24 (0, 0)))⟩)] (([] : List (Nat × Ct)).map fun p => (p.1, (⟨p.2, none⟩ : Bx))) [.pure true (.int .u16 p0),
      .pure true (.int .u16 p1),
      .pure true (.int .u16 p2),
      .pure true (.agg #[.int .i64 r1_0, .int .i64 r1_1, .int .i64 r1_2]),
      .pure true (.int .u16 p3),
      .pure true (.int .u16 p4),
      .pure true (.int .u16 p5),
      .pure true (.agg #[.int .i64 r2_0, .int .i64 r2_1, .int .i64 r2_2]),
      .pure true (.int .u16 p6),
      .pure true (.int .u16 p7),
      .pure true (.int .u16 p8),
      .pure true (.agg #[.int .i64 r3_0, .int .i64 r3_1, .int .i64 r3_2]),
      .pure true undef,
      .pure true undef,
      .pure true undef,
      .pure true undef,
      .pure true undef,
      .pure true undef]) (by kernel_rfl) (by kernel_rfl) ?_ ?_ ?_
  · exact ws.start
  · show ∀ i ∈ [0, 1, 2, 3, 4, 5, 6, 7, 8, 9, 10, 11, 12, 13, 14, 15, 16, 17], _
    refine steps_cons ?_ ?_
    · refine step_pure (i := 0) (t := 23) hk rfl rfl rfl rfl rfl rfl (gd_none rfl) (fun hC V G f b a w h hon hoff => ?_)
      have e0 := (h.keep (t := 0) rfl).trans E0
      go_simp; (try rfl)
    refine steps_cons ?_ ?_
    · refine step_pure (i := 1) (t := 24) hk rfl rfl rfl rfl rfl rfl (gd_none rfl) (fun hC V G f b a w h hon hoff => ?_)
      have e1 := (h.keep (t := 1) rfl).trans E1
      go_simp; (try rfl)
    refine steps_cons ?_ ?_
    · refine step_pure (i := 2) (t := 25) hk rfl rfl rfl rfl rfl rfl (gd_none rfl) (fun hC V G f b a w h hon hoff => ?_)
      have e2 := (h.keep (t := 2) rfl).trans E2
      go_simp; (try rfl)
    refine steps_cons ?_ ?_
    · refine step_call (s := .pure true (.agg #[.int .i64 r1_0, .int .i64 r1_1, .int .i64 r1_2])) (C := true) (i := 3) (t := 26) hk rfl rfl rfl rfl rfl rfl (gd_none rfl) rfl Tryd.func11 (by kernel_rfl) rfl rfl (fun hC V G f b a w h hon => ?_)
      have e23 := StAt.pure_ h hk (j := 0) (t := 23) rfl rfl (hon 0 rfl) (by rw [hN]; decide) rfl rfl
      have e24 := StAt.pure_ h hk (j := 1) (t := 24) rfl rfl (hon 1 rfl) (by rw [hN]; decide) rfl rfl
      have e25 := StAt.pure_ h hk (j := 2) (t := 25) rfl rfl (hon 2 rfl) (by rw [hN]; decide) rfl rfl
      refine ⟨#[.int .u16 p0, .int .u16 p1, .int .u16 p2], by simp [Act.eval, e23, e24, e25], (doorkeeperlaw10_Make.calls (w := w) (h := q1 hC)).mono (fun e w' h9 => ⟨_, h9.1, h9.2, rfl⟩)⟩
    refine steps_cons ?_ ?_
    · refine step_pure (i := 4) (t := 27) hk rfl rfl rfl rfl rfl rfl (gd_none rfl) (fun hC V G f b a w h hon hoff => ?_)
      have e3 := (h.keep (t := 3) rfl).trans E3
      go_simp; (try rfl)
    refine steps_cons ?_ ?_
    · refine step_pure (i := 5) (t := 28) hk rfl rfl rfl rfl rfl rfl (gd_none rfl) (fun hC V G f b a w h hon hoff => ?_)
      have e4 := (h.keep (t := 4) rfl).trans E4
      go_simp; (try rfl)
    refine steps_cons ?_ ?_
    · refine step_pure (i := 6) (t := 29) hk rfl rfl rfl rfl rfl rfl (gd_none rfl) (fun hC V G f b a w h hon hoff => ?_)
      have e5 := (h.keep (t := 5) rfl).trans E5
      go_simp; (try rfl)
    refine steps_cons ?_ ?_
    · refine step_call (s := .pure true (.agg #[.int .i64 r2_0, .int .i64 r2_1, .int .i64 r2_2])) (C := true) (i := 7) (t := 30) hk rfl rfl rfl rfl rfl rfl (gd_none rfl) rfl Tryd.func11 (by kernel_rfl) rfl rfl (fun hC V G f b a w h hon => ?_)
      have e27 := StAt.pure_ h hk (j := 4) (t := 27) rfl rfl (hon 4 rfl) (by rw [hN]; decide) rfl rfl
      have e28 := StAt.pure_ h hk (j := 5) (t := 28) rfl rfl (hon 5 rfl) (by rw [hN]; decide) rfl rfl
      have e29 := StAt.pure_ h hk (j := 6) (t := 29) rfl rfl (hon 6 rfl) (by rw [hN]; decide) rfl rfl
      refine ⟨#[.int .u16 p3, .int .u16 p4, .int .u16 p5], by simp [Act.eval, e27, e28, e29], (doorkeeperlaw10_Make.calls (w := w) (h := q2 hC)).mono (fun e w' h9 => ⟨_, h9.1, h9.2, rfl⟩)⟩
    refine steps_cons ?_ ?_
    · refine step_pure (i := 8) (t := 31) hk rfl rfl rfl rfl rfl rfl (gd_none rfl) (fun hC V G f b a w h hon hoff => ?_)
      have e6 := (h.keep (t := 6) rfl).trans E6
      go_simp; (try rfl)
    refine steps_cons ?_ ?_
    · refine step_pure (i := 9) (t := 32) hk rfl rfl rfl rfl rfl rfl (gd_none rfl) (fun hC V G f b a w h hon hoff => ?_)
      have e7 := (h.keep (t := 7) rfl).trans E7
      go_simp; (try rfl)
    refine steps_cons ?_ ?_
    · refine step_pure (i := 10) (t := 33) hk rfl rfl rfl rfl rfl rfl (gd_none rfl) (fun hC V G f b a w h hon hoff => ?_)
      have e8 := (h.keep (t := 8) rfl).trans E8
      go_simp; (try rfl)
    refine steps_cons ?_ ?_
    · refine step_call (s := .pure true (.agg #[.int .i64 r3_0, .int .i64 r3_1, .int .i64 r3_2])) (C := true) (i := 11) (t := 34) hk rfl rfl rfl rfl rfl rfl (gd_none rfl) rfl Tryd.func11 (by kernel_rfl) rfl rfl (fun hC V G f b a w h hon => ?_)
      have e31 := StAt.pure_ h hk (j := 8) (t := 31) rfl rfl (hon 8 rfl) (by rw [hN]; decide) rfl rfl
      have e32 := StAt.pure_ h hk (j := 9) (t := 32) rfl rfl (hon 9 rfl) (by rw [hN]; decide) rfl rfl
      have e33 := StAt.pure_ h hk (j := 10) (t := 33) rfl rfl (hon 10 rfl) (by rw [hN]; decide) rfl rfl
      refine ⟨#[.int .u16 p6, .int .u16 p7, .int .u16 p8], by simp [Act.eval, e31, e32, e33], (doorkeeperlaw10_Make.calls (w := w) (h := q3 hC)).mono (fun e w' h9 => ⟨_, h9.1, h9.2, rfl⟩)⟩
    refine steps_cons ?_ ?_
    · refine step_alloc (i := 12) (t := 19) (ty := 24) (cs := #[.int .i64 0, .int .i64 0, .int .i64 0]) hk rfl rfl rfl rfl rfl rfl rfl rfl (by first | rfl | kernel_rfl | (simp [lk, Bx.after, List.lookup]; done) | decide) (fun a w => by first | (go_simp; done) | (go_simp; rfl))
    refine steps_cons ?_ ?_
    · refine step_alloc (i := 13) (t := 20) (ty := 24) (cs := #[.int .i64 0, .int .i64 0, .int .i64 0]) hk rfl rfl rfl rfl rfl rfl rfl rfl (by first | rfl | kernel_rfl | (simp [lk, Bx.after, List.lookup]; done) | decide) (fun a w => by first | (go_simp; done) | (go_simp; rfl))
    refine steps_cons ?_ ?_
    · refine step_alloc (i := 14) (t := 21) (ty := 24) (cs := #[.int .i64 0, .int .i64 0, .int .i64 0]) hk rfl rfl rfl rfl rfl rfl rfl rfl (by first | rfl | kernel_rfl | (simp [lk, Bx.after, List.lookup]; done) | decide) (fun a w => by first | (go_simp; done) | (go_simp; rfl))
    refine steps_cons ?_ ?_
    · refine step_store (i := 15) (q := 12) (tp := 19) hk rfl rfl rfl rfl rfl rfl rfl rfl rfl (by rw [hN]; decide) rfl rfl rfl (by kernel_rfl) (fun V G f b a w h hon => ?_)
      have e26 := StAt.pure_ h hk (j := 3) (t := 26) rfl rfl (hon 3 rfl) (by rw [hN]; decide) rfl rfl
      exact ⟨_, eval_of e26, rfl, by simp [Value.cells, Value.oneCell'], rfl⟩
    refine steps_cons ?_ ?_
    · refine step_store (i := 16) (q := 13) (tp := 20) hk rfl rfl rfl rfl rfl rfl rfl rfl rfl (by rw [hN]; decide) rfl rfl rfl (by kernel_rfl) (fun V G f b a w h hon => ?_)
      have e30 := StAt.pure_ h hk (j := 7) (t := 30) rfl rfl (hon 7 rfl) (by rw [hN]; decide) rfl rfl
      exact ⟨_, eval_of e30, rfl, by simp [Value.cells, Value.oneCell'], rfl⟩
    refine steps_cons ?_ ?_
    · refine step_store (i := 17) (q := 14) (tp := 21) hk rfl rfl rfl rfl rfl rfl rfl rfl rfl (by rw [hN]; decide) rfl rfl rfl (by kernel_rfl) (fun V G f b a w h hon => ?_)
      have e34 := StAt.pure_ h hk (j := 11) (t := 34) rfl rfl (hon 11 rfl) (by rw [hN]; decide) rfl rfl
      exact ⟨_, eval_of e34, rfl, by simp [Value.cells, Value.oneCell'], rfl⟩
    exact steps_nil
  · rintro b a w' hb ⟨V, G, f, h⟩
    exact K a w' f (G 12) (G 13) (G 14) (h.size.1.trans hN) (h.size.2.trans hD) (WS.new h (i := 14) rfl (hb 14 (by decide)) rfl (hb 17 (by decide)) (WS.new h (i := 13) rfl (hb 13 (by decide)) rfl (hb 16 (by decide)) (WS.new h (i := 12) rfl (hb 12 (by decide)) rfl (hb 15 (by decide)) (WS.nil h)))) ((h.keep (t := 18) rfl).trans E18) (StAt.box_ h hk (j := 12) (t := 19) rfl rfl (hb 12 (by decide)) (by rw [hN]; decide)).1 (StAt.box_ h hk (j := 13) (t := 20) rfl rfl (hb 13 (by decide)) (by rw [hN]; decide)).1 (StAt.box_ h hk (j := 14) (t := 21) rfl rfl (hb 14 (by decide)) (by rw [hN]; decide)).1
def doorkeeperlaw10_VecOrder.es2 : List (Nat × Tmp) := [(0, 35), (1, 36), (2, 37), (3, 38), (4, 22)]
def doorkeeperlaw10_VecOrder.B2 : List Nat := [0, 1, 3, 7, 15, 31]
set_option maxHeartbeats 4000000 in
set_option maxRecDepth 100000 in
theorem doorkeeperlaw10_VecOrder.reg2 (r1_0 : Int) (r1_1 : Int) (r1_2 : Int) (r2_0 : Int) (r2_1 : Int) (r2_2 : Int) (r3_0 : Int) (r3_1 : Int) (r3_2 : Int) (r4_0 : Int) (r4_1 : Int) (r4_2 : Int) (k4 : Nat) (g21 : Nat) (g20 : Nat) (g19 : Nat) {Q : Exit → Act → World → Prop} {a0 : Act} {w0 w : World} {f0 : Fz} (hN : a0.tmps.size = 127) (hD : a0.defers = []) (ws : WS w0 f0 [(g21, .pure (.cells #[.int .i64 r3_0, .int .i64 r3_1, .int .i64 r3_2] 24 (0, 0))), (g20, .pure (.cells #[.int .i64 r2_0, .int .i64 r2_1, .int .i64 r2_2] 24 (0, 0))), (g19, .pure (.cells #[.int .i64 r1_0, .int .i64 r1_1, .int .i64 r1_2] 24 (0, 0)))] w) (E18 : a0.tmps[18]? = some (.bool false)) (E19 : a0.tmps[19]? = some (.pointer (some ⟨g19, 0, none⟩))) (E20 : a0.tmps[20]? = some (.pointer (some ⟨g20, 0, none⟩))) (E21 : a0.tmps[21]? = some (.pointer (some ⟨g21, 0, none⟩))) (q4 : true = true → vec_Max.f k4 ([(⟨r1_0, r1_1, r1_2⟩ : S24), (⟨r2_0, r2_1, r2_2⟩ : S24)] : List (S24)) = some (r4_0, r4_1, r4_2))
    (K : ∀ (a : Act) (w : World) (f : Fz) (g22 : Nat), a.tmps.size = 127 → a.defers = [] → WS w0 f [(g22, .pure (.cells #[.int .i64 r4_0, .int .i64 r4_1, .int .i64 r4_2] 24 (0, 0))), (g21, .pure (.cells #[.int .i64 r3_0, .int .i64 r3_1, .int .i64 r3_2] 24 (0, 0))), (g20, .pure (.cells #[.int .i64 r2_0, .int .i64 r2_1, .int .i64 r2_2] 24 (0, 0))), (g19, .pure (.cells #[.int .i64 r1_0, .int .i64 r1_1, .int .i64 r1_2] 24 (0, 0)))] w → a.tmps[18]? = some (.bool false) → a.tmps[19]? = some (.pointer (some ⟨g19, 0, none⟩)) → a.tmps[20]? = some (.pointer (some ⟨g20, 0, none⟩)) → a.tmps[21]? = some (.pointer (some ⟨g21, 0, none⟩)) → a.tmps[22]? = some (.pointer (some ⟨g22, 0, none⟩)) → Q .normal a w) :
    (Code.region 2 (opsOf Tryd.f4 2) false).wp Tryd.prog Q a0 w := by
  have hk : esOk doorkeeperlaw10_VecOrder.es2 = true := by kernel_rfl
  have hops : opsOf Tryd.f4 2 = opsOf Tryd.f4 2 := rfl
  conv at hops => rhs; unfold Tryd.f4; simp only [opsOf, Option.bind_some, Option.getD_some, opsIn, Nat.reduceBEq, if_true, if_false, Bool.false_eq_true, reduceIte]
  rw [hops]
  clear hops
  have hu24 := Tryd.underlying24
  refine region_list (B := doorkeeperlaw10_VecOrder.B2) 6 (St a0 w0 f0 doorkeeperlaw10_VecOrder.es2 [(4, ⟨.pure (.cells #[.int .i64 0, .int .i64 0, .int .i64 0] 24 (0, 0)), some (5, .pure (.cells #[.int .i64 r4_0, .int .i64 r4_1, .int .i64 r4_2] 24 (0, 0)))⟩)] (([(g21, .pure (.cells #[.int .i64 r3_0, .int .i64 r3_1, .int .i64 r3_2] 24 (0, 0))), (g20, .pure (.cells #[.int .i64 r2_0, .int .i64 r2_1, .int .i64 r2_2] 24 (0, 0))), (g19, .pure (.cells #[.int .i64 r1_0, .int .i64 r1_1, .int .i64 r1_2] 24 (0, 0)))] : List (Nat × Ct)).map fun p => (p.1, (⟨p.2, none⟩ : Bx))) [.pure true (.agg #[.int .i64 r1_0, .int .i64 r1_1, .int .i64 r1_2]),
      .pure true (.agg #[.int .i64 r2_0, .int .i64 r2_1, .int .i64 r2_2]),
      .fr true (fun v W => ∃ A c, v = .slice A (([(⟨r1_0, r1_1, r1_2⟩ : S24), (⟨r2_0, r2_1, r2_2⟩ : S24)] : List (S24))).length c ∧ (([(⟨r1_0, r1_1, r1_2⟩ : S24), (⟨r2_0, r2_1, r2_2⟩ : S24)] : List (S24))).length ≤ c ∧ k24.C W A (([(⟨r1_0, r1_1, r1_2⟩ : S24), (⟨r2_0, r2_1, r2_2⟩ : S24)] : List (S24))).length ([(⟨r1_0, r1_1, r1_2⟩ : S24), (⟨r2_0, r2_1, r2_2⟩ : S24)] : List (S24))),
      .pure true (.agg #[.int .i64 r4_0, .int .i64 r4_1, .int .i64 r4_2]),
      .pure true undef,
      .pure true undef]) (by kernel_rfl) (by kernel_rfl) ?_ ?_ ?_
  · exact ws.start
  · show ∀ i ∈ [0, 1, 2, 3, 4, 5], _
    refine steps_cons ?_ ?_
    · refine step_pure (i := 0) (t := 35) hk rfl rfl rfl rfl rfl rfl (gd_none rfl) (fun hC V G f b a w h hon hoff => ?_)
      have e19 := (h.keep (t := 19) rfl).trans E19
      obtain ⟨o_, ho_, hc_⟩ := StAt.old_ h 2 rfl
      obtain rfl : o_ = _ := hc_
      exact run_load_agg rfl e19 ho_ Tryd.underlying24 rfl (by kernel_rfl)
    refine steps_cons ?_ ?_
    · refine step_pure (i := 1) (t := 36) hk rfl rfl rfl rfl rfl rfl (gd_none rfl) (fun hC V G f b a w h hon hoff => ?_)
      have e20 := (h.keep (t := 20) rfl).trans E20
      obtain ⟨o_, ho_, hc_⟩ := StAt.old_ h 1 rfl
      obtain rfl : o_ = _ := hc_
      exact run_load_agg rfl e20 ho_ Tryd.underlying24 rfl (by kernel_rfl)
    refine steps_cons ?_ ?_
    · refine step_lit (d := k24) (i := 2) (t := 37) (e := 24) (xs := ([(⟨r1_0, r1_1, r1_2⟩ : S24), (⟨r2_0, r2_1, r2_2⟩ : S24)] : List (S24))) hk rfl rfl rfl rfl rfl rfl (gd_none rfl) (by simp) (fun hC V G f b a w h hon => ?_)
      have e35 := StAt.pure_ h hk (j := 0) (t := 35) rfl rfl (hon 0 rfl) (by rw [hN]; decide) rfl rfl
      have e36 := StAt.pure_ h hk (j := 1) (t := 36) rfl rfl (hon 1 rfl) (by rw [hN]; decide) rfl rfl
      exact ⟨[.int .i64 r1_0, .int .i64 r1_1, .int .i64 r1_2, .int .i64 r2_0, .int .i64 r2_1, .int .i64 r2_2], by first | (go_simp; done) | (go_simp; rfl), fun W _ => (Reps.c3 (k24_mk W (⟨r1_0, r1_1, r1_2⟩ : S24)) (Reps.c3 (k24_mk W (⟨r2_0, r2_1, r2_2⟩ : S24)) (Reps.none _ _)))⟩
    refine steps_cons ?_ ?_
    · refine step_call (s := .pure true (.agg #[.int .i64 r4_0, .int .i64 r4_1, .int .i64 r4_2])) (C := true) (i := 3) (t := 38) hk rfl rfl rfl rfl rfl rfl (gd_none rfl) rfl Tryd.func16 (by kernel_rfl) rfl rfl (fun hC V G f b a w h hon => ?_)
      obtain ⟨v37, e37, F37⟩ := StAt.fr_ h hk (j := 2) (t := 37) rfl rfl (hon 2 rfl) (by rw [hN]; decide) rfl rfl
      obtain ⟨A37, c37, hv37, hl37, hr37⟩ := F37 w h.holds
      subst hv37
      refine ⟨#[.slice A37 _ c37], by simp [Act.eval, e37], (vec_Max.calls (w := w) (hr0 := hr37) (hc0 := hl37) (h := q4 hC)).mono (fun e w' h9 => ⟨_, h9.1, h9.2, rfl⟩)⟩
    refine steps_cons ?_ ?_
    · refine step_alloc (i := 4) (t := 22) (ty := 24) (cs := #[.int .i64 0, .int .i64 0, .int .i64 0]) hk rfl rfl rfl rfl rfl rfl rfl rfl (by first | rfl | kernel_rfl | (simp [lk, Bx.after, List.lookup]; done) | decide) (fun a w => by first | (go_simp; done) | (go_simp; rfl))
    refine steps_cons ?_ ?_
    · refine step_store (i := 5) (q := 4) (tp := 22) hk rfl rfl rfl rfl rfl rfl rfl rfl rfl (by rw [hN]; decide) rfl rfl rfl (by kernel_rfl) (fun V G f b a w h hon => ?_)
      have e38 := StAt.pure_ h hk (j := 3) (t := 38) rfl rfl (hon 3 rfl) (by rw [hN]; decide) rfl rfl
      exact ⟨_, eval_of e38, rfl, by simp [Value.cells, Value.oneCell'], rfl⟩
    exact steps_nil
  · rintro b a w' hb ⟨V, G, f, h⟩
    exact K a w' f (G 4) (h.size.1.trans hN) (h.size.2.trans hD) (WS.new h (i := 4) rfl (hb 4 (by decide)) rfl (hb 5 (by decide)) (WS.old h 0 rfl (WS.old h 1 rfl (WS.old h 2 rfl (WS.nil h))))) ((h.keep (t := 18) rfl).trans E18) ((h.keep (t := 19) rfl).trans E19) ((h.keep (t := 20) rfl).trans E20) ((h.keep (t := 21) rfl).trans E21) (StAt.box_ h hk (j := 4) (t := 22) rfl rfl (hb 4 (by decide)) (by rw [hN]; decide)).1
def doorkeeperlaw10_VecOrder.es3 : List (Nat × Tmp) := [(0, 39), (1, 40), (2, 41), (3, 42), (4, 43), (5, 44), (6, 45), (7, 46), (8, 47), (9, 48), (10, 49), (11, 50), (12, 51), (13, 52), (14, 53), (15, 54), (16, 55), (17, 56), (18, 57), (19, 58), (20, 59), (21, 60), (22, 61), (23, 62), (24, 63), (25, 64), (26, 65), (27, 66), (28, 67), (29, 68), (30, 69), (31, 70), (32, 71), (33, 72), (34, 73), (35, 74), (36, 75), (37, 76), (38, 77), (39, 78), (40, 79), (41, 80), (42, 81), (43, 82), (44, 83), (45, 84), (46, 85), (47, 86), (48, 87), (49, 88), (50, 89), (51, 90), (52, 91), (53, 92), (54, 93), (55, 94), (56, 95), (57, 96), (58, 97), (59, 98), (60, 99), (61, 100), (62, 101)]
def doorkeeperlaw10_VecOrder.B3 : List Nat := [0, 1, 3, 7, 15, 31, 63, 127, 255, 511, 1023, 2047, 4095, 8191, 16383, 32767, 65535, 131071, 262143, 524287, 1048575, 2097151, 4194303, 8388607, 16777215, 33554431, 67108863, 134217727, 268435455, 536870911, 1073741823, 2147483647, 4294967295, 8589934591, 17179869183, 34359738367, 68719476735, 137438953471, 274877906943, 549755813887, 1099511627775, 2199023255551, 4398046511103, 8796093022207, 17592186044415, 35184372088831, 70368744177663, 140737488355327, 281474976710655, 562949953421311, 1125899906842623, 2251799813685247, 4503599627370495, 9007199254740991, 18014398509481983, 36028797018963967, 72057594037927935, 144115188075855871, 288230376151711743, 576460752303423487, 1152921504606846975, 2305843009213693951, 4611686018427387903]
set_option maxHeartbeats 4000000 in
set_option maxRecDepth 100000 in
theorem doorkeeperlaw10_VecOrder.reg3 (r1_0 : Int) (r1_1 : Int) (r1_2 : Int) (r2_0 : Int) (r2_1 : Int) (r2_2 : Int) (r3_0 : Int) (r3_1 : Int) (r3_2 : Int) (r4_0 : Int) (r4_1 : Int) (r4_2 : Int) (r5 : Bool) (r6 : Bool) (r7 : Bool) (r8 : Bool) (r9 : Bool) (r10 : Bool) (r11 : Bool) (r12 : Bool) (r13 : Bool) (r14 : Bool) (r15 : Bool) (g22 : Nat) (g21 : Nat) (g20 : Nat) (g19 : Nat) {Q : Exit → Act → World → Prop} {a0 : Act} {w0 w : World} {f0 : Fz} (hN : a0.tmps.size = 127) (hD : a0.defers = []) (ws : WS w0 f0 [(g22, .pure (.cells #[.int .i64 r4_0, .int .i64 r4_1, .int .i64 r4_2] 24 (0, 0))), (g21, .pure (.cells #[.int .i64 r3_0, .int .i64 r3_1, .int .i64 r3_2] 24 (0, 0))), (g20, .pure (.cells #[.int .i64 r2_0, .int .i64 r2_1, .int .i64 r2_2] 24 (0, 0))), (g19, .pure (.cells #[.int .i64 r1_0, .int .i64 r1_1, .int .i64 r1_2] 24 (0, 0)))] w) (E18 : a0.tmps[18]? = some (.bool false)) (E19 : a0.tmps[19]? = some (.pointer (some ⟨g19, 0, none⟩))) (E20 : a0.tmps[20]? = some (.pointer (some ⟨g20, 0, none⟩))) (E21 : a0.tmps[21]? = some (.pointer (some ⟨g21, 0, none⟩))) (E22 : a0.tmps[22]? = some (.pointer (some ⟨g22, 0, none⟩))) (q5 : true = true → vec_Le.f r1_0 r1_1 r1_2 r1_0 r1_1 r1_2 = some r5) (q6 : (true && ((!r5) == false)) = true → vec_Le.f r1_0 r1_1 r1_2 r4_0 r4_1 r4_2 = some r6) (q7 : (true && ((bif (!r5) then true else (!r6)) == false)) = true → vec_Le.f r2_0 r2_1 r2_2 r4_0 r4_1 r4_2 = some r7) (q8 : (true && ((bif (bif (!r5) then true else (!r6)) then true else (!r7)) == false)) = true → vec_Le.f r1_0 r1_1 r1_2 r2_0 r2_1 r2_2 = some r8) (q9 : ((true && ((bif (bif (!r5) then true else (!r6)) then true else (!r7)) == false)) && (r8 == true)) = true → vec_Le.f r2_0 r2_1 r2_2 r1_0 r1_1 r1_2 = some r9) (q10 : (true && ((bif (bif (bif (!r5) then true else (!r6)) then true else (!r7)) then true else (bif (bif r8 then r9 else false) then (!(r1_0 == r2_0) || (!(r1_1 == r2_1) || (!(r1_2 == r2_2)))) else false)) == false)) = true → vec_Le.f r1_0 r1_1 r1_2 r2_0 r2_1 r2_2 = some r10) (q11 : ((true && ((bif (bif (bif (!r5) then true else (!r6)) then true else (!r7)) then true else (bif (bif r8 then r9 else false) then (!(r1_0 == r2_0) || (!(r1_1 == r2_1) || (!(r1_2 == r2_2)))) else false)) == false)) && (r10 == true)) = true → vec_Le.f r2_0 r2_1 r2_2 r3_0 r3_1 r3_2 = some r11) (q12 : ((true && ((bif (bif (bif (!r5) then true else (!r6)) then true else (!r7)) then true else (bif (bif r8 then r9 else false) then (!(r1_0 == r2_0) || (!(r1_1 == r2_1) || (!(r1_2 == r2_2)))) else false)) == false)) && ((bif r10 then r11 else false) == true)) = true → vec_Le.f r1_0 r1_1 r1_2 r3_0 r3_1 r3_2 = some r12) (q13 : (true && ((bif (bif (bif (bif (!r5) then true else (!r6)) then true else (!r7)) then true else (bif (bif r8 then r9 else false) then (!(r1_0 == r2_0) || (!(r1_1 == r2_1) || (!(r1_2 == r2_2)))) else false)) then true else (bif (bif r10 then r11 else false) then (!r12) else false)) == false)) = true → vec_Le.f r1_0 r1_1 r1_2 r3_0 r3_1 r3_2 = some r13) (q14 : ((true && ((bif (bif (bif (bif (!r5) then true else (!r6)) then true else (!r7)) then true else (bif (bif r8 then r9 else false) then (!(r1_0 == r2_0) || (!(r1_1 == r2_1) || (!(r1_2 == r2_2)))) else false)) then true else (bif (bif r10 then r11 else false) then (!r12) else false)) == false)) && (r13 == true)) = true → vec_Le.f r2_0 r2_1 r2_2 r3_0 r3_1 r3_2 = some r14) (q15 : ((true && ((bif (bif (bif (bif (!r5) then true else (!r6)) then true else (!r7)) then true else (bif (bif r8 then r9 else false) then (!(r1_0 == r2_0) || (!(r1_1 == r2_1) || (!(r1_2 == r2_2)))) else false)) then true else (bif (bif r10 then r11 else false) then (!r12) else false)) == false)) && ((bif r13 then r14 else false) == true)) = true → vec_Le.f r4_0 r4_1 r4_2 r3_0 r3_1 r3_2 = some r15)
    (K : ∀ (a : Act) (w : World) (f : Fz), a.tmps.size = 127 → a.defers = [] → WS w0 f [(g22, .pure (.cells #[.int .i64 r4_0, .int .i64 r4_1, .int .i64 r4_2] 24 (0, 0))), (g21, .pure (.cells #[.int .i64 r3_0, .int .i64 r3_1, .int .i64 r3_2] 24 (0, 0))), (g20, .pure (.cells #[.int .i64 r2_0, .int .i64 r2_1, .int .i64 r2_2] 24 (0, 0))), (g19, .pure (.cells #[.int .i64 r1_0, .int .i64 r1_1, .int .i64 r1_2] 24 (0, 0)))] w → a.tmps[18]? = some (.bool false) → a.tmps[19]? = some (.pointer (some ⟨g19, 0, none⟩)) → a.tmps[20]? = some (.pointer (some ⟨g20, 0, none⟩)) → a.tmps[21]? = some (.pointer (some ⟨g21, 0, none⟩)) → a.tmps[22]? = some (.pointer (some ⟨g22, 0, none⟩)) → a.tmps[101]? = some (.bool (bif (bif (bif (bif (bif (!r5) then true else (!r6)) then true else (!r7)) then true else (bif (bif r8 then r9 else false) then (!(r1_0 == r2_0) || (!(r1_1 == r2_1) || (!(r1_2 == r2_2)))) else false)) then true else (bif (bif r10 then r11 else false) then (!r12) else false)) then true else (bif (bif r13 then r14 else false) then (!r15) else false))) → Q .normal a w) :
    (Code.region 3 (opsOf Tryd.f4 3) false).wp Tryd.prog Q a0 w := by
  have hk : esOk doorkeeperlaw10_VecOrder.es3 = true := by kernel_rfl
  have hops : opsOf Tryd.f4 3 = opsOf Tryd.f4 3 := rfl
  conv at hops => rhs; unfold Tryd.f4; simp only [opsOf, Option.bind_some, Option.getD_some, opsIn, Nat.reduceBEq, if_true, if_false, Bool.false_eq_true, reduceIte]
  rw [hops]
  clear hops
  have hu24 := Tryd.underlying24
  refine region_list (B := doorkeeperlaw10_VecOrder.B3) 63 (St a0 w0 f0 doorkeeperlaw10_VecOrder.es3 [] (([(g22, .pure (.cells #[.int .i64 r4_0, .int .i64 r4_1, .int .i64 r4_2] 24 (0, 0))), (g21, .pure (.cells #[.int .i64 r3_0, .int .i64 r3_1, .int .i64 r3_2] 24 (0, 0))), (g20, .pure (.cells #[.int .i64 r2_0, .int .i64 r2_1, .int .i64 r2_2] 24 (0, 0))), (g19, .pure (.cells #[.int .i64 r1_0, .int .i64 r1_1, .int .i64 r1_2] 24 (0, 0)))] : List (Nat × Ct)).map fun p => (p.1, (⟨p.2, none⟩ : Bx))) [.pure true (.agg #[.int .i64 r1_0, .int .i64 r1_1, .int .i64 r1_2]),
      .pure true (.agg #[.int .i64 r1_0, .int .i64 r1_1, .int .i64 r1_2]),
      .pure true (.bool r5),
      .pure true (.bool (!r5)),
      .pure true (.bool (!r5)),
      .pure (true && ((!r5) == false)) (.agg #[.int .i64 r1_0, .int .i64 r1_1, .int .i64 r1_2]),
      .pure (true && ((!r5) == false)) (.agg #[.int .i64 r4_0, .int .i64 r4_1, .int .i64 r4_2]),
      .pure (true && ((!r5) == false)) (.bool r6),
      .pure (true && ((!r5) == false)) (.bool (!r6)),
      .pure true (.bool (bif (!r5) then true else (!r6))),
      .pure true (.bool (bif (!r5) then true else (!r6))),
      .pure (true && ((bif (!r5) then true else (!r6)) == false)) (.agg #[.int .i64 r2_0, .int .i64 r2_1, .int .i64 r2_2]),
      .pure (true && ((bif (!r5) then true else (!r6)) == false)) (.agg #[.int .i64 r4_0, .int .i64 r4_1, .int .i64 r4_2]),
      .pure (true && ((bif (!r5) then true else (!r6)) == false)) (.bool r7),
      .pure (true && ((bif (!r5) then true else (!r6)) == false)) (.bool (!r7)),
      .pure true (.bool (bif (bif (!r5) then true else (!r6)) then true else (!r7))),
      .pure true (.bool (bif (bif (!r5) then true else (!r6)) then true else (!r7))),
      .pure (true && ((bif (bif (!r5) then true else (!r6)) then true else (!r7)) == false)) (.agg #[.int .i64 r1_0, .int .i64 r1_1, .int .i64 r1_2]),
      .pure (true && ((bif (bif (!r5) then true else (!r6)) then true else (!r7)) == false)) (.agg #[.int .i64 r2_0, .int .i64 r2_1, .int .i64 r2_2]),
      .pure (true && ((bif (bif (!r5) then true else (!r6)) then true else (!r7)) == false)) (.bool r8),
      .pure (true && ((bif (bif (!r5) then true else (!r6)) then true else (!r7)) == false)) (.bool r8),
      .pure ((true && ((bif (bif (!r5) then true else (!r6)) then true else (!r7)) == false)) && (r8 == true)) (.agg #[.int .i64 r2_0, .int .i64 r2_1, .int .i64 r2_2]),
      .pure ((true && ((bif (bif (!r5) then true else (!r6)) then true else (!r7)) == false)) && (r8 == true)) (.agg #[.int .i64 r1_0, .int .i64 r1_1, .int .i64 r1_2]),
      .pure ((true && ((bif (bif (!r5) then true else (!r6)) then true else (!r7)) == false)) && (r8 == true)) (.bool r9),
      .pure (true && ((bif (bif (!r5) then true else (!r6)) then true else (!r7)) == false)) (.bool (bif r8 then r9 else false)),
      .pure (true && ((bif (bif (!r5) then true else (!r6)) then true else (!r7)) == false)) (.bool (bif r8 then r9 else false)),
      .pure ((true && ((bif (bif (!r5) then true else (!r6)) then true else (!r7)) == false)) && ((bif r8 then r9 else false) == true)) (.agg #[.int .i64 r1_0, .int .i64 r1_1, .int .i64 r1_2]),
      .pure ((true && ((bif (bif (!r5) then true else (!r6)) then true else (!r7)) == false)) && ((bif r8 then r9 else false) == true)) (.agg #[.int .i64 r2_0, .int .i64 r2_1, .int .i64 r2_2]),
      .pure ((true && ((bif (bif (!r5) then true else (!r6)) then true else (!r7)) == false)) && ((bif r8 then r9 else false) == true)) (.bool (!(r1_0 == r2_0) || (!(r1_1 == r2_1) || (!(r1_2 == r2_2))))),
      .pure (true && ((bif (bif (!r5) then true else (!r6)) then true else (!r7)) == false)) (.bool (bif (bif r8 then r9 else false) then (!(r1_0 == r2_0) || (!(r1_1 == r2_1) || (!(r1_2 == r2_2)))) else false)),
      .pure true (.bool (bif (bif (bif (!r5) then true else (!r6)) then true else (!r7)) then true else (bif (bif r8 then r9 else false) then (!(r1_0 == r2_0) || (!(r1_1 == r2_1) || (!(r1_2 == r2_2)))) else false))),
      .pure true (.bool (bif (bif (bif (!r5) then true else (!r6)) then true else (!r7)) then true else (bif (bif r8 then r9 else false) then (!(r1_0 == r2_0) || (!(r1_1 == r2_1) || (!(r1_2 == r2_2)))) else false))),
      .pure (true && ((bif (bif (bif (!r5) then true else (!r6)) then true else (!r7)) then true else (bif (bif r8 then r9 else false) then (!(r1_0 == r2_0) || (!(r1_1 == r2_1) || (!(r1_2 == r2_2)))) else false)) == false)) (.agg #[.int .i64 r1_0, .int .i64 r1_1, .int .i64 r1_2]),
      .pure (true && ((bif (bif (bif (!r5) then true else (!r6)) then true else (!r7)) then true else (bif (bif r8 then r9 else false) then (!(r1_0 == r2_0) || (!(r1_1 == r2_1) || (!(r1_2 == r2_2)))) else false)) == false)) (.agg #[.int .i64 r2_0, .int .i64 r2_1, .int .i64 r2_2]),
      .pure (true && ((bif (bif (bif (!r5) then true else (!r6)) then true else (!r7)) then true else (bif (bif r8 then r9 else false) then (!(r1_0 == r2_0) || (!(r1_1 == r2_1) || (!(r1_2 == r2_2)))) else false)) == false)) (.bool r10),
      .pure (true && ((bif (bif (bif (!r5) then true else (!r6)) then true else (!r7)) then true else (bif (bif r8 then r9 else false) then (!(r1_0 == r2_0) || (!(r1_1 == r2_1) || (!(r1_2 == r2_2)))) else false)) == false)) (.bool r10),
      .pure ((true && ((bif (bif (bif (!r5) then true else (!r6)) then true else (!r7)) then true else (bif (bif r8 then r9 else false) then (!(r1_0 == r2_0) || (!(r1_1 == r2_1) || (!(r1_2 == r2_2)))) else false)) == false)) && (r10 == true)) (.agg #[.int .i64 r2_0, .int .i64 r2_1, .int .i64 r2_2]),
      .pure ((true && ((bif (bif (bif (!r5) then true else (!r6)) then true else (!r7)) then true else (bif (bif r8 then r9 else false) then (!(r1_0 == r2_0) || (!(r1_1 == r2_1) || (!(r1_2 == r2_2)))) else false)) == false)) && (r10 == true)) (.agg #[.int .i64 r3_0, .int .i64 r3_1, .int .i64 r3_2]),
      .pure ((true && ((bif (bif (bif (!r5) then true else (!r6)) then true else (!r7)) then true else (bif (bif r8 then r9 else false) then (!(r1_0 == r2_0) || (!(r1_1 == r2_1) || (!(r1_2 == r2_2)))) else false)) == false)) && (r10 == true)) (.bool r11),
      .pure (true && ((bif (bif (bif (!r5) then true else (!r6)) then true else (!r7)) then true else (bif (bif r8 then r9 else false) then (!(r1_0 == r2_0) || (!(r1_1 == r2_1) || (!(r1_2 == r2_2)))) else false)) == false)) (.bool (bif r10 then r11 else false)),
      .pure (true && ((bif (bif (bif (!r5) then true else (!r6)) then true else (!r7)) then true else (bif (bif r8 then r9 else false) then (!(r1_0 == r2_0) || (!(r1_1 == r2_1) || (!(r1_2 == r2_2)))) else false)) == false)) (.bool (bif r10 then r11 else false)),
      .pure ((true && ((bif (bif (bif (!r5) then true else (!r6)) then true else (!r7)) then true else (bif (bif r8 then r9 else false) then (!(r1_0 == r2_0) || (!(r1_1 == r2_1) || (!(r1_2 == r2_2)))) else false)) == false)) && ((bif r10 then r11 else false) == true)) (.agg #[.int .i64 r1_0, .int .i64 r1_1, .int .i64 r1_2]),
      .pure ((true && ((bif (bif (bif (!r5) then true else (!r6)) then true else (!r7)) then true else (bif (bif r8 then r9 else false) then (!(r1_0 == r2_0) || (!(r1_1 == r2_1) || (!(r1_2 == r2_2)))) else false)) == false)) && ((bif r10 then r11 else false) == true)) (.agg #[.int .i64 r3_0, .int .i64 r3_1, .int .i64 r3_2]),
      .pure ((true && ((bif (bif (bif (!r5) then true else (!r6)) then true else (!r7)) then true else (bif (bif r8 then r9 else false) then (!(r1_0 == r2_0) || (!(r1_1 == r2_1) || (!(r1_2 == r2_2)))) else false)) == false)) && ((bif r10 then r11 else false) == true)) (.bool r12),
      .pure ((true && ((bif (bif (bif (!r5) then true else (!r6)) then true else (!r7)) then true else (bif (bif r8 then r9 else false) then (!(r1_0 == r2_0) || (!(r1_1 == r2_1) || (!(r1_2 == r2_2)))) else false)) == false)) && ((bif r10 then r11 else false) == true)) (.bool (!r12)),
      .pure (true && ((bif (bif (bif (!r5) then true else (!r6)) then true else (!r7)) then true else (bif (bif r8 then r9 else false) then (!(r1_0 == r2_0) || (!(r1_1 == r2_1) || (!(r1_2 == r2_2)))) else false)) == false)) (.bool (bif (bif r10 then r11 else false) then (!r12) else false)),
      .pure true (.bool (bif (bif (bif (bif (!r5) then true else (!r6)) then true else (!r7)) then true else (bif (bif r8 then r9 else false) then (!(r1_0 == r2_0) || (!(r1_1 == r2_1) || (!(r1_2 == r2_2)))) else false)) then true else (bif (bif r10 then r11 else false) then (!r12) else false))),
      .pure true (.bool (bif (bif (bif (bif (!r5) then true else (!r6)) then true else (!r7)) then true else (bif (bif r8 then r9 else false) then (!(r1_0 == r2_0) || (!(r1_1 == r2_1) || (!(r1_2 == r2_2)))) else false)) then true else (bif (bif r10 then r11 else false) then (!r12) else false))),
      .pure (true && ((bif (bif (bif (bif (!r5) then true else (!r6)) then true else (!r7)) then true else (bif (bif r8 then r9 else false) then (!(r1_0 == r2_0) || (!(r1_1 == r2_1) || (!(r1_2 == r2_2)))) else false)) then true else (bif (bif r10 then r11 else false) then (!r12) else false)) == false)) (.agg #[.int .i64 r1_0, .int .i64 r1_1, .int .i64 r1_2]),
      .pure (true && ((bif (bif (bif (bif (!r5) then true else (!r6)) then true else (!r7)) then true else (bif (bif r8 then r9 else false) then (!(r1_0 == r2_0) || (!(r1_1 == r2_1) || (!(r1_2 == r2_2)))) else false)) then true else (bif (bif r10 then r11 else false) then (!r12) else false)) == false)) (.agg #[.int .i64 r3_0, .int .i64 r3_1, .int .i64 r3_2]),
      .pure (true && ((bif (bif (bif (bif (!r5) then true else (!r6)) then true else (!r7)) then true else (bif (bif r8 then r9 else false) then (!(r1_0 == r2_0) || (!(r1_1 == r2_1) || (!(r1_2 == r2_2)))) else false)) then true else (bif (bif r10 then r11 else false) then (!r12) else false)) == false)) (.bool r13),
      .pure (true && ((bif (bif (bif (bif (!r5) then true else (!r6)) then true else (!r7)) then true else (bif (bif r8 then r9 else false) then (!(r1_0 == r2_0) || (!(r1_1 == r2_1) || (!(r1_2 == r2_2)))) else false)) then true else (bif (bif r10 then r11 else false) then (!r12) else false)) == false)) (.bool r13),
      .pure ((true && ((bif (bif (bif (bif (!r5) then true else (!r6)) then true else (!r7)) then true else (bif (bif r8 then r9 else false) then (!(r1_0 == r2_0) || (!(r1_1 == r2_1) || (!(r1_2 == r2_2)))) else false)) then true else (bif (bif r10 then r11 else false) then (!r12) else false)) == false)) && (r13 == true)) (.agg #[.int .i64 r2_0, .int .i64 r2_1, .int .i64 r2_2]),
      .pure ((true && ((bif (bif (bif (bif (!r5) then true else (!r6)) then true else (!r7)) then true else (bif (bif r8 then r9 else false) then (!(r1_0 == r2_0) || (!(r1_1 == r2_1) || (!(r1_2 == r2_2)))) else false)) then true else (bif (bif r10 then r11 else false) then (!r12) else false)) == false)) && (r13 == true)) (.agg #[.int .i64 r3_0, .int .i64 r3_1, .int .i64 r3_2]),
      .pure ((true && ((bif (bif (bif (bif (!r5) then true else (!r6)) then true else (!r7)) then true else (bif (bif r8 then r9 else false) then (!(r1_0 == r2_0) || (!(r1_1 == r2_1) || (!(r1_2 == r2_2)))) else false)) then true else (bif (bif r10 then r11 else false) then (!r12) else false)) == false)) && (r13 == true)) (.bool r14),
      .pure (true && ((bif (bif (bif (bif (!r5) then true else (!r6)) then true else (!r7)) then true else (bif (bif r8 then r9 else false) then (!(r1_0 == r2_0) || (!(r1_1 == r2_1) || (!(r1_2 == r2_2)))) else false)) then true else (bif (bif r10 then r11 else false) then (!r12) else false)) == false)) (.bool (bif r13 then r14 else false)),
      .pure (true && ((bif (bif (bif (bif (!r5) then true else (!r6)) then true else (!r7)) then true else (bif (bif r8 then r9 else false) then (!(r1_0 == r2_0) || (!(r1_1 == r2_1) || (!(r1_2 == r2_2)))) else false)) then true else (bif (bif r10 then r11 else false) then (!r12) else false)) == false)) (.bool (bif r13 then r14 else false)),
      .pure ((true && ((bif (bif (bif (bif (!r5) then true else (!r6)) then true else (!r7)) then true else (bif (bif r8 then r9 else false) then (!(r1_0 == r2_0) || (!(r1_1 == r2_1) || (!(r1_2 == r2_2)))) else false)) then true else (bif (bif r10 then r11 else false) then (!r12) else false)) == false)) && ((bif r13 then r14 else false) == true)) (.agg #[.int .i64 r4_0, .int .i64 r4_1, .int .i64 r4_2]),
      .pure ((true && ((bif (bif (bif (bif (!r5) then true else (!r6)) then true else (!r7)) then true else (bif (bif r8 then r9 else false) then (!(r1_0 == r2_0) || (!(r1_1 == r2_1) || (!(r1_2 == r2_2)))) else false)) then true else (bif (bif r10 then r11 else false) then (!r12) else false)) == false)) && ((bif r13 then r14 else false) == true)) (.agg #[.int .i64 r3_0, .int .i64 r3_1, .int .i64 r3_2]),
      .pure ((true && ((bif (bif (bif (bif (!r5) then true else (!r6)) then true else (!r7)) then true else (bif (bif r8 then r9 else false) then (!(r1_0 == r2_0) || (!(r1_1 == r2_1) || (!(r1_2 == r2_2)))) else false)) then true else (bif (bif r10 then r11 else false) then (!r12) else false)) == false)) && ((bif r13 then r14 else false) == true)) (.bool r15),
      .pure ((true && ((bif (bif (bif (bif (!r5) then true else (!r6)) then true else (!r7)) then true else (bif (bif r8 then r9 else false) then (!(r1_0 == r2_0) || (!(r1_1 == r2_1) || (!(r1_2 == r2_2)))) else false)) then true else (bif (bif r10 then r11 else false) then (!r12) else false)) == false)) && ((bif r13 then r14 else false) == true)) (.bool (!r15)),
      .pure (true && ((bif (bif (bif (bif (!r5) then true else (!r6)) then true else (!r7)) then true else (bif (bif r8 then r9 else false) then (!(r1_0 == r2_0) || (!(r1_1 == r2_1) || (!(r1_2 == r2_2)))) else false)) then true else (bif (bif r10 then r11 else false) then (!r12) else false)) == false)) (.bool (bif (bif r13 then r14 else false) then (!r15) else false)),
      .pure true (.bool (bif (bif (bif (bif (bif (!r5) then true else (!r6)) then true else (!r7)) then true else (bif (bif r8 then r9 else false) then (!(r1_0 == r2_0) || (!(r1_1 == r2_1) || (!(r1_2 == r2_2)))) else false)) then true else (bif (bif r10 then r11 else false) then (!r12) else false)) then true else (bif (bif r13 then r14 else false) then (!r15) else false)))]) (by kernel_rfl) (by kernel_rfl) ?_ ?_ ?_
  · exact ws.start
  · show ∀ i ∈ [0, 1, 2, 3, 4, 5, 6, 7, 8, 9, 10, 11, 12, 13, 14, 15, 16, 17, 18, 19, 20, 21, 22, 23, 24, 25, 26, 27, 28, 29, 30, 31, 32, 33, 34, 35, 36, 37, 38, 39, 40, 41, 42, 43, 44, 45, 46, 47, 48, 49, 50, 51, 52, 53, 54, 55, 56, 57, 58, 59, 60, 61, 62], _
    refine steps_cons ?_ ?_
    · refine step_pure (i := 0) (t := 39) hk rfl rfl rfl rfl rfl rfl (gd_none rfl) (fun hC V G f b a w h hon hoff => ?_)
      have e19 := (h.keep (t := 19) rfl).trans E19
      obtain ⟨o_, ho_, hc_⟩ := StAt.old_ h 3 rfl
      obtain rfl : o_ = _ := hc_
      exact run_load_agg rfl e19 ho_ Tryd.underlying24 rfl (by kernel_rfl)
    refine steps_cons ?_ ?_
    · refine step_pure (i := 1) (t := 40) hk rfl rfl rfl rfl rfl rfl (gd_none rfl) (fun hC V G f b a w h hon hoff => ?_)
      have e19 := (h.keep (t := 19) rfl).trans E19
      obtain ⟨o_, ho_, hc_⟩ := StAt.old_ h 3 rfl
      obtain rfl : o_ = _ := hc_
      exact run_load_agg rfl e19 ho_ Tryd.underlying24 rfl (by kernel_rfl)
    refine steps_cons ?_ ?_
    · refine step_call (s := .pure true (.bool r5)) (C := true) (i := 2) (t := 41) hk rfl rfl rfl rfl rfl rfl (gd_none rfl) rfl Tryd.func14 (by kernel_rfl) rfl rfl (fun hC V G f b a w h hon => ?_)
      have e39 := StAt.pure_ h hk (j := 0) (t := 39) rfl rfl (hon 0 rfl) (by rw [hN]; decide) rfl rfl
      have e40 := StAt.pure_ h hk (j := 1) (t := 40) rfl rfl (hon 1 rfl) (by rw [hN]; decide) rfl rfl
      refine ⟨#[.agg #[.int .i64 r1_0, .int .i64 r1_1, .int .i64 r1_2], .agg #[.int .i64 r1_0, .int .i64 r1_1, .int .i64 r1_2]], by simp [Act.eval, e39, e40], (vec_Le.calls (w := w) (h := q5 hC)).mono (fun e w' h9 => ⟨_, h9.1, h9.2, rfl⟩)⟩
    refine steps_cons ?_ ?_
    · refine step_pure (i := 3) (t := 42) hk rfl rfl rfl rfl rfl rfl (gd_none rfl) (fun hC V G f b a w h hon hoff => ?_)
      have e41 := StAt.pure_ h hk (j := 2) (t := 41) rfl rfl (hon 2 rfl) (by rw [hN]; decide) rfl rfl
      go_simp; (try rfl)
    refine steps_cons ?_ ?_
    · refine step_pure (i := 4) (t := 43) hk rfl rfl rfl rfl rfl rfl (gd_none rfl) (fun hC V G f b a w h hon hoff => ?_)
      have e42 := StAt.pure_ h hk (j := 3) (t := 42) rfl rfl (hon 3 rfl) (by rw [hN]; decide) rfl rfl
      go_simp; (try rfl)
    refine steps_cons ?_ ?_
    · refine step_pure (i := 5) (t := 44) hk rfl rfl rfl rfl rfl rfl (gd_some (g := 4) (tg := 43) hk (by rw [hN]; decide) rfl rfl rfl rfl rfl rfl rfl) (fun hC V G f b a w h hon hoff => ?_)
      have e19 := (h.keep (t := 19) rfl).trans E19
      obtain ⟨o_, ho_, hc_⟩ := StAt.old_ h 3 rfl
      obtain rfl : o_ = _ := hc_
      exact run_load_agg rfl e19 ho_ Tryd.underlying24 rfl (by kernel_rfl)
    refine steps_cons ?_ ?_
    · refine step_pure (i := 6) (t := 45) hk rfl rfl rfl rfl rfl rfl (gd_some (g := 4) (tg := 43) hk (by rw [hN]; decide) rfl rfl rfl rfl rfl rfl rfl) (fun hC V G f b a w h hon hoff => ?_)
      have e22 := (h.keep (t := 22) rfl).trans E22
      obtain ⟨o_, ho_, hc_⟩ := StAt.old_ h 0 rfl
      obtain rfl : o_ = _ := hc_
      exact run_load_agg rfl e22 ho_ Tryd.underlying24 rfl (by kernel_rfl)
    refine steps_cons ?_ ?_
    · refine step_call (s := .pure (true && ((!r5) == false)) (.bool r6)) (C := (true && ((!r5) == false))) (i := 7) (t := 46) hk rfl rfl rfl rfl rfl rfl (gd_some (g := 4) (tg := 43) hk (by rw [hN]; decide) rfl rfl rfl rfl rfl rfl rfl) rfl Tryd.func14 (by kernel_rfl) rfl rfl (fun hC V G f b a w h hon => ?_)
      have e44 := StAt.pure_ h hk (j := 5) (t := 44) rfl rfl (hon 5 rfl) (by rw [hN]; decide) rfl hC
      have e45 := StAt.pure_ h hk (j := 6) (t := 45) rfl rfl (hon 6 rfl) (by rw [hN]; decide) rfl hC
      refine ⟨#[.agg #[.int .i64 r1_0, .int .i64 r1_1, .int .i64 r1_2], .agg #[.int .i64 r4_0, .int .i64 r4_1, .int .i64 r4_2]], by simp [Act.eval, e44, e45], (vec_Le.calls (w := w) (h := q6 hC)).mono (fun e w' h9 => ⟨_, h9.1, h9.2, rfl⟩)⟩
    refine steps_cons ?_ ?_
    · refine step_pure (i := 8) (t := 47) hk rfl rfl rfl rfl rfl rfl (gd_some (g := 4) (tg := 43) hk (by rw [hN]; decide) rfl rfl rfl rfl rfl rfl rfl) (fun hC V G f b a w h hon hoff => ?_)
      have e46 := StAt.pure_ h hk (j := 7) (t := 46) rfl rfl (hon 7 rfl) (by rw [hN]; decide) rfl hC
      go_simp; (try rfl)
    refine steps_cons ?_ ?_
    · refine step_pure (i := 9) (t := 48) hk rfl rfl rfl rfl rfl rfl (gd_none rfl) (fun hC V G f b a w h hon hoff => ?_)
      have e43 := StAt.pure_ h hk (j := 4) (t := 43) rfl rfl (hon 4 rfl) (by rw [hN]; decide) rfl rfl
      exact run_pick_b rfl (eval_of e43) (fun hc_ => by exact rfl) (fun hc_ => by have e47 := StAt.pure_ h hk (j := 8) (t := 47) rfl rfl (hon 8 rfl) (by rw [hN]; decide) rfl (by first | exact hC | (revert hC; simp; done) | (revert hC hc_; simp; done) | (revert hC hc_; cases r5 <;> simp; done) | (revert hC; cases r5 <;> simp; done) | (revert hC hc_; cases r5 <;> simp +contextual; done)); exact eval_of e47)
    refine steps_cons ?_ ?_
    · refine step_pure (i := 10) (t := 49) hk rfl rfl rfl rfl rfl rfl (gd_none rfl) (fun hC V G f b a w h hon hoff => ?_)
      have e48 := StAt.pure_ h hk (j := 9) (t := 48) rfl rfl (hon 9 rfl) (by rw [hN]; decide) rfl rfl
      go_simp; (try rfl)
    refine steps_cons ?_ ?_
    · refine step_pure (i := 11) (t := 50) hk rfl rfl rfl rfl rfl rfl (gd_some (g := 10) (tg := 49) hk (by rw [hN]; decide) rfl rfl rfl rfl rfl rfl rfl) (fun hC V G f b a w h hon hoff => ?_)
      have e20 := (h.keep (t := 20) rfl).trans E20
      obtain ⟨o_, ho_, hc_⟩ := StAt.old_ h 2 rfl
      obtain rfl : o_ = _ := hc_
      exact run_load_agg rfl e20 ho_ Tryd.underlying24 rfl (by kernel_rfl)
    refine steps_cons ?_ ?_
    · refine step_pure (i := 12) (t := 51) hk rfl rfl rfl rfl rfl rfl (gd_some (g := 10) (tg := 49) hk (by rw [hN]; decide) rfl rfl rfl rfl rfl rfl rfl) (fun hC V G f b a w h hon hoff => ?_)
      have e22 := (h.keep (t := 22) rfl).trans E22
      obtain ⟨o_, ho_, hc_⟩ := StAt.old_ h 0 rfl
      obtain rfl : o_ = _ := hc_
      exact run_load_agg rfl e22 ho_ Tryd.underlying24 rfl (by kernel_rfl)
    refine steps_cons ?_ ?_
    · refine step_call (s := .pure (true && ((bif (!r5) then true else (!r6)) == false)) (.bool r7)) (C := (true && ((bif (!r5) then true else (!r6)) == false))) (i := 13) (t := 52) hk rfl rfl rfl rfl rfl rfl (gd_some (g := 10) (tg := 49) hk (by rw [hN]; decide) rfl rfl rfl rfl rfl rfl rfl) rfl Tryd.func14 (by kernel_rfl) rfl rfl (fun hC V G f b a w h hon => ?_)
      have e50 := StAt.pure_ h hk (j := 11) (t := 50) rfl rfl (hon 11 rfl) (by rw [hN]; decide) rfl hC
      have e51 := StAt.pure_ h hk (j := 12) (t := 51) rfl rfl (hon 12 rfl) (by rw [hN]; decide) rfl hC
      refine ⟨#[.agg #[.int .i64 r2_0, .int .i64 r2_1, .int .i64 r2_2], .agg #[.int .i64 r4_0, .int .i64 r4_1, .int .i64 r4_2]], by simp [Act.eval, e50, e51], (vec_Le.calls (w := w) (h := q7 hC)).mono (fun e w' h9 => ⟨_, h9.1, h9.2, rfl⟩)⟩
    refine steps_cons ?_ ?_
    · refine step_pure (i := 14) (t := 53) hk rfl rfl rfl rfl rfl rfl (gd_some (g := 10) (tg := 49) hk (by rw [hN]; decide) rfl rfl rfl rfl rfl rfl rfl) (fun hC V G f b a w h hon hoff => ?_)
      have e52 := StAt.pure_ h hk (j := 13) (t := 52) rfl rfl (hon 13 rfl) (by rw [hN]; decide) rfl hC
      go_simp; (try rfl)
    refine steps_cons ?_ ?_
    · refine step_pure (i := 15) (t := 54) hk rfl rfl rfl rfl rfl rfl (gd_none rfl) (fun hC V G f b a w h hon hoff => ?_)
      have e49 := StAt.pure_ h hk (j := 10) (t := 49) rfl rfl (hon 10 rfl) (by rw [hN]; decide) rfl rfl
      exact run_pick_b rfl (eval_of e49) (fun hc_ => by exact rfl) (fun hc_ => by have e53 := StAt.pure_ h hk (j := 14) (t := 53) rfl rfl (hon 14 rfl) (by rw [hN]; decide) rfl (by first | exact hC | (revert hC; simp; done) | (revert hC hc_; simp; done) | (revert hC hc_; cases r5 <;> cases r6 <;> simp; done) | (revert hC; cases r5 <;> cases r6 <;> simp; done) | (revert hC hc_; cases r5 <;> cases r6 <;> simp +contextual; done)); exact eval_of e53)
    refine steps_cons ?_ ?_
    · refine step_pure (i := 16) (t := 55) hk rfl rfl rfl rfl rfl rfl (gd_none rfl) (fun hC V G f b a w h hon hoff => ?_)
      have e54 := StAt.pure_ h hk (j := 15) (t := 54) rfl rfl (hon 15 rfl) (by rw [hN]; decide) rfl rfl
      go_simp; (try rfl)
    refine steps_cons ?_ ?_
    · refine step_pure (i := 17) (t := 56) hk rfl rfl rfl rfl rfl rfl (gd_some (g := 16) (tg := 55) hk (by rw [hN]; decide) rfl rfl rfl rfl rfl rfl rfl) (fun hC V G f b a w h hon hoff => ?_)
      have e19 := (h.keep (t := 19) rfl).trans E19
      obtain ⟨o_, ho_, hc_⟩ := StAt.old_ h 3 rfl
      obtain rfl : o_ = _ := hc_
      exact run_load_agg rfl e19 ho_ Tryd.underlying24 rfl (by kernel_rfl)
    refine steps_cons ?_ ?_
    · refine step_pure (i := 18) (t := 57) hk rfl rfl rfl rfl rfl rfl (gd_some (g := 16) (tg := 55) hk (by rw [hN]; decide) rfl rfl rfl rfl rfl rfl rfl) (fun hC V G f b a w h hon hoff => ?_)
      have e20 := (h.keep (t := 20) rfl).trans E20
      obtain ⟨o_, ho_, hc_⟩ := StAt.old_ h 2 rfl
      obtain rfl : o_ = _ := hc_
      exact run_load_agg rfl e20 ho_ Tryd.underlying24 rfl (by kernel_rfl)
    refine steps_cons ?_ ?_
    · refine step_call (s := .pure (true && ((bif (bif (!r5) then true else (!r6)) then true else (!r7)) == false)) (.bool r8)) (C := (true && ((bif (bif (!r5) then true else (!r6)) then true else (!r7)) == false))) (i := 19) (t := 58) hk rfl rfl rfl rfl rfl rfl (gd_some (g := 16) (tg := 55) hk (by rw [hN]; decide) rfl rfl rfl rfl rfl rfl rfl) rfl Tryd.func14 (by kernel_rfl) rfl rfl (fun hC V G f b a w h hon => ?_)
      have e56 := StAt.pure_ h hk (j := 17) (t := 56) rfl rfl (hon 17 rfl) (by rw [hN]; decide) rfl hC
      have e57 := StAt.pure_ h hk (j := 18) (t := 57) rfl rfl (hon 18 rfl) (by rw [hN]; decide) rfl hC
      refine ⟨#[.agg #[.int .i64 r1_0, .int .i64 r1_1, .int .i64 r1_2], .agg #[.int .i64 r2_0, .int .i64 r2_1, .int .i64 r2_2]], by simp [Act.eval, e56, e57], (vec_Le.calls (w := w) (h := q8 hC)).mono (fun e w' h9 => ⟨_, h9.1, h9.2, rfl⟩)⟩
    refine steps_cons ?_ ?_
    · refine step_pure (i := 20) (t := 59) hk rfl rfl rfl rfl rfl rfl (gd_some (g := 16) (tg := 55) hk (by rw [hN]; decide) rfl rfl rfl rfl rfl rfl rfl) (fun hC V G f b a w h hon hoff => ?_)
      have e58 := StAt.pure_ h hk (j := 19) (t := 58) rfl rfl (hon 19 rfl) (by rw [hN]; decide) rfl hC
      go_simp; (try rfl)
    refine steps_cons ?_ ?_
    · refine step_pure (i := 21) (t := 60) hk rfl rfl rfl rfl rfl rfl (gd_some (g := 20) (tg := 59) hk (by rw [hN]; decide) rfl rfl rfl rfl rfl rfl rfl) (fun hC V G f b a w h hon hoff => ?_)
      have e20 := (h.keep (t := 20) rfl).trans E20
      obtain ⟨o_, ho_, hc_⟩ := StAt.old_ h 2 rfl
      obtain rfl : o_ = _ := hc_
      exact run_load_agg rfl e20 ho_ Tryd.underlying24 rfl (by kernel_rfl)
    refine steps_cons ?_ ?_
    · refine step_pure (i := 22) (t := 61) hk rfl rfl rfl rfl rfl rfl (gd_some (g := 20) (tg := 59) hk (by rw [hN]; decide) rfl rfl rfl rfl rfl rfl rfl) (fun hC V G f b a w h hon hoff => ?_)
      have e19 := (h.keep (t := 19) rfl).trans E19
      obtain ⟨o_, ho_, hc_⟩ := StAt.old_ h 3 rfl
      obtain rfl : o_ = _ := hc_
      exact run_load_agg rfl e19 ho_ Tryd.underlying24 rfl (by kernel_rfl)
    refine steps_cons ?_ ?_
    · refine step_call (s := .pure ((true && ((bif (bif (!r5) then true else (!r6)) then true else (!r7)) == false)) && (r8 == true)) (.bool r9)) (C := ((true && ((bif (bif (!r5) then true else (!r6)) then true else (!r7)) == false)) && (r8 == true))) (i := 23) (t := 62) hk rfl rfl rfl rfl rfl rfl (gd_some (g := 20) (tg := 59) hk (by rw [hN]; decide) rfl rfl rfl rfl rfl rfl rfl) rfl Tryd.func14 (by kernel_rfl) rfl rfl (fun hC V G f b a w h hon => ?_)
      have e60 := StAt.pure_ h hk (j := 21) (t := 60) rfl rfl (hon 21 rfl) (by rw [hN]; decide) rfl hC
      have e61 := StAt.pure_ h hk (j := 22) (t := 61) rfl rfl (hon 22 rfl) (by rw [hN]; decide) rfl hC
      refine ⟨#[.agg #[.int .i64 r2_0, .int .i64 r2_1, .int .i64 r2_2], .agg #[.int .i64 r1_0, .int .i64 r1_1, .int .i64 r1_2]], by simp [Act.eval, e60, e61], (vec_Le.calls (w := w) (h := q9 hC)).mono (fun e w' h9 => ⟨_, h9.1, h9.2, rfl⟩)⟩
    refine steps_cons ?_ ?_
    · refine step_pure (i := 24) (t := 63) hk rfl rfl rfl rfl rfl rfl (gd_some (g := 16) (tg := 55) hk (by rw [hN]; decide) rfl rfl rfl rfl rfl rfl rfl) (fun hC V G f b a w h hon hoff => ?_)
      have e59 := StAt.pure_ h hk (j := 20) (t := 59) rfl rfl (hon 20 rfl) (by rw [hN]; decide) rfl hC
      exact run_pick_b rfl (eval_of e59) (fun hc_ => by have e62 := StAt.pure_ h hk (j := 23) (t := 62) rfl rfl (hon 23 rfl) (by rw [hN]; decide) rfl (by first | exact hC | (revert hC; simp; done) | (revert hC hc_; simp; done) | (revert hC hc_; cases r5 <;> cases r6 <;> cases r7 <;> cases r8 <;> simp; done) | (revert hC; cases r5 <;> cases r6 <;> cases r7 <;> cases r8 <;> simp; done) | (revert hC hc_; cases r5 <;> cases r6 <;> cases r7 <;> cases r8 <;> simp +contextual; done)); exact eval_of e62) (fun hc_ => by exact rfl)
    refine steps_cons ?_ ?_
    · refine step_pure (i := 25) (t := 64) hk rfl rfl rfl rfl rfl rfl (gd_some (g := 16) (tg := 55) hk (by rw [hN]; decide) rfl rfl rfl rfl rfl rfl rfl) (fun hC V G f b a w h hon hoff => ?_)
      have e63 := StAt.pure_ h hk (j := 24) (t := 63) rfl rfl (hon 24 rfl) (by rw [hN]; decide) rfl hC
      go_simp; (try rfl)
    refine steps_cons ?_ ?_
    · refine step_pure (i := 26) (t := 65) hk rfl rfl rfl rfl rfl rfl (gd_some (g := 25) (tg := 64) hk (by rw [hN]; decide) rfl rfl rfl rfl rfl rfl rfl) (fun hC V G f b a w h hon hoff => ?_)
      have e19 := (h.keep (t := 19) rfl).trans E19
      obtain ⟨o_, ho_, hc_⟩ := StAt.old_ h 3 rfl
      obtain rfl : o_ = _ := hc_
      exact run_load_agg rfl e19 ho_ Tryd.underlying24 rfl (by kernel_rfl)
    refine steps_cons ?_ ?_
    · refine step_pure (i := 27) (t := 66) hk rfl rfl rfl rfl rfl rfl (gd_some (g := 25) (tg := 64) hk (by rw [hN]; decide) rfl rfl rfl rfl rfl rfl rfl) (fun hC V G f b a w h hon hoff => ?_)
      have e20 := (h.keep (t := 20) rfl).trans E20
      obtain ⟨o_, ho_, hc_⟩ := StAt.old_ h 2 rfl
      obtain rfl : o_ = _ := hc_
      exact run_load_agg rfl e20 ho_ Tryd.underlying24 rfl (by kernel_rfl)
    refine steps_cons ?_ ?_
    · refine step_pure (i := 28) (t := 67) hk rfl rfl rfl rfl rfl rfl (gd_some (g := 25) (tg := 64) hk (by rw [hN]; decide) rfl rfl rfl rfl rfl rfl rfl) (fun hC V G f b a w h hon hoff => ?_)
      have e65 := StAt.pure_ h hk (j := 26) (t := 65) rfl rfl (hon 26 rfl) (by rw [hN]; decide) rfl hC
      have e66 := StAt.pure_ h hk (j := 27) (t := 66) rfl rfl (hon 27 rfl) (by rw [hN]; decide) rfl hC
      go_simp; (try rfl)
    refine steps_cons ?_ ?_
    · refine step_pure (i := 29) (t := 68) hk rfl rfl rfl rfl rfl rfl (gd_some (g := 16) (tg := 55) hk (by rw [hN]; decide) rfl rfl rfl rfl rfl rfl rfl) (fun hC V G f b a w h hon hoff => ?_)
      have e64 := StAt.pure_ h hk (j := 25) (t := 64) rfl rfl (hon 25 rfl) (by rw [hN]; decide) rfl hC
      exact run_pick_b rfl (eval_of e64) (fun hc_ => by have e67 := StAt.pure_ h hk (j := 28) (t := 67) rfl rfl (hon 28 rfl) (by rw [hN]; decide) rfl (by first | exact hC | (revert hC; simp; done) | (revert hC hc_; simp; done) | (revert hC hc_; cases r5 <;> cases r6 <;> cases r7 <;> cases r8 <;> cases r9 <;> simp; done) | (revert hC; cases r5 <;> cases r6 <;> cases r7 <;> cases r8 <;> cases r9 <;> simp; done) | (revert hC hc_; cases r5 <;> cases r6 <;> cases r7 <;> cases r8 <;> cases r9 <;> simp +contextual; done)); exact eval_of e67) (fun hc_ => by exact rfl)
    refine steps_cons ?_ ?_
    · refine step_pure (i := 30) (t := 69) hk rfl rfl rfl rfl rfl rfl (gd_none rfl) (fun hC V G f b a w h hon hoff => ?_)
      have e55 := StAt.pure_ h hk (j := 16) (t := 55) rfl rfl (hon 16 rfl) (by rw [hN]; decide) rfl rfl
      exact run_pick_b rfl (eval_of e55) (fun hc_ => by exact rfl) (fun hc_ => by have e68 := StAt.pure_ h hk (j := 29) (t := 68) rfl rfl (hon 29 rfl) (by rw [hN]; decide) rfl (by first | exact hC | (revert hC; simp; done) | (revert hC hc_; simp; done) | (revert hC hc_; cases r5 <;> cases r6 <;> cases r7 <;> simp; done) | (revert hC; cases r5 <;> cases r6 <;> cases r7 <;> simp; done) | (revert hC hc_; cases r5 <;> cases r6 <;> cases r7 <;> simp +contextual; done)); exact eval_of e68)
    refine steps_cons ?_ ?_
    · refine step_pure (i := 31) (t := 70) hk rfl rfl rfl rfl rfl rfl (gd_none rfl) (fun hC V G f b a w h hon hoff => ?_)
      have e69 := StAt.pure_ h hk (j := 30) (t := 69) rfl rfl (hon 30 rfl) (by rw [hN]; decide) rfl rfl
      go_simp; (try rfl)
    refine steps_cons ?_ ?_
    · refine step_pure (i := 32) (t := 71) hk rfl rfl rfl rfl rfl rfl (gd_some (g := 31) (tg := 70) hk (by rw [hN]; decide) rfl rfl rfl rfl rfl rfl rfl) (fun hC V G f b a w h hon hoff => ?_)
      have e19 := (h.keep (t := 19) rfl).trans E19
      obtain ⟨o_, ho_, hc_⟩ := StAt.old_ h 3 rfl
      obtain rfl : o_ = _ := hc_
      exact run_load_agg rfl e19 ho_ Tryd.underlying24 rfl (by kernel_rfl)
    refine steps_cons ?_ ?_
    · refine step_pure (i := 33) (t := 72) hk rfl rfl rfl rfl rfl rfl (gd_some (g := 31) (tg := 70) hk (by rw [hN]; decide) rfl rfl rfl rfl rfl rfl rfl) (fun hC V G f b a w h hon hoff => ?_)
      have e20 := (h.keep (t := 20) rfl).trans E20
      obtain ⟨o_, ho_, hc_⟩ := StAt.old_ h 2 rfl
      obtain rfl : o_ = _ := hc_
      exact run_load_agg rfl e20 ho_ Tryd.underlying24 rfl (by kernel_rfl)
    refine steps_cons ?_ ?_
    · refine step_call (s := .pure (true && ((bif (bif (bif (!r5) then true else (!r6)) then true else (!r7)) then true else (bif (bif r8 then r9 else false) then (!(r1_0 == r2_0) || (!(r1_1 == r2_1) || (!(r1_2 == r2_2)))) else false)) == false)) (.bool r10)) (C := (true && ((bif (bif (bif (!r5) then true else (!r6)) then true else (!r7)) then true else (bif (bif r8 then r9 else false) then (!(r1_0 == r2_0) || (!(r1_1 == r2_1) || (!(r1_2 == r2_2)))) else false)) == false))) (i := 34) (t := 73) hk rfl rfl rfl rfl rfl rfl (gd_some (g := 31) (tg := 70) hk (by rw [hN]; decide) rfl rfl rfl rfl rfl rfl rfl) rfl Tryd.func14 (by kernel_rfl) rfl rfl (fun hC V G f b a w h hon => ?_)
      have e71 := StAt.pure_ h hk (j := 32) (t := 71) rfl rfl (hon 32 rfl) (by rw [hN]; decide) rfl hC
      have e72 := StAt.pure_ h hk (j := 33) (t := 72) rfl rfl (hon 33 rfl) (by rw [hN]; decide) rfl hC
      refine ⟨#[.agg #[.int .i64 r1_0, .int .i64 r1_1, .int .i64 r1_2], .agg #[.int .i64 r2_0, .int .i64 r2_1, .int .i64 r2_2]], by simp [Act.eval, e71, e72], (vec_Le.calls (w := w) (h := q10 hC)).mono (fun e w' h9 => ⟨_, h9.1, h9.2, rfl⟩)⟩
    refine steps_cons ?_ ?_
    · refine step_pure (i := 35) (t := 74) hk rfl rfl rfl rfl rfl rfl (gd_some (g := 31) (tg := 70) hk (by rw [hN]; decide) rfl rfl rfl rfl rfl rfl rfl) (fun hC V G f b a w h hon hoff => ?_)
      have e73 := StAt.pure_ h hk (j := 34) (t := 73) rfl rfl (hon 34 rfl) (by rw [hN]; decide) rfl hC
      go_simp; (try rfl)
    refine steps_cons ?_ ?_
    · refine step_pure (i := 36) (t := 75) hk rfl rfl rfl rfl rfl rfl (gd_some (g := 35) (tg := 74) hk (by rw [hN]; decide) rfl rfl rfl rfl rfl rfl rfl) (fun hC V G f b a w h hon hoff => ?_)
      have e20 := (h.keep (t := 20) rfl).trans E20
      obtain ⟨o_, ho_, hc_⟩ := StAt.old_ h 2 rfl
      obtain rfl : o_ = _ := hc_
      exact run_load_agg rfl e20 ho_ Tryd.underlying24 rfl (by kernel_rfl)
    refine steps_cons ?_ ?_
    · refine step_pure (i := 37) (t := 76) hk rfl rfl rfl rfl rfl rfl (gd_some (g := 35) (tg := 74) hk (by rw [hN]; decide) rfl rfl rfl rfl rfl rfl rfl) (fun hC V G f b a w h hon hoff => ?_)
      have e21 := (h.keep (t := 21) rfl).trans E21
      obtain ⟨o_, ho_, hc_⟩ := StAt.old_ h 1 rfl
      obtain rfl : o_ = _ := hc_
      exact run_load_agg rfl e21 ho_ Tryd.underlying24 rfl (by kernel_rfl)
    refine steps_cons ?_ ?_
    · refine step_call (s := .pure ((true && ((bif (bif (bif (!r5) then true else (!r6)) then true else (!r7)) then true else (bif (bif r8 then r9 else false) then (!(r1_0 == r2_0) || (!(r1_1 == r2_1) || (!(r1_2 == r2_2)))) else false)) == false)) && (r10 == true)) (.bool r11)) (C := ((true && ((bif (bif (bif (!r5) then true else (!r6)) then true else (!r7)) then true else (bif (bif r8 then r9 else false) then (!(r1_0 == r2_0) || (!(r1_1 == r2_1) || (!(r1_2 == r2_2)))) else false)) == false)) && (r10 == true))) (i := 38) (t := 77) hk rfl rfl rfl rfl rfl rfl (gd_some (g := 35) (tg := 74) hk (by rw [hN]; decide) rfl rfl rfl rfl rfl rfl rfl) rfl Tryd.func14 (by kernel_rfl) rfl rfl (fun hC V G f b a w h hon => ?_)
      have e75 := StAt.pure_ h hk (j := 36) (t := 75) rfl rfl (hon 36 rfl) (by rw [hN]; decide) rfl hC
      have e76 := StAt.pure_ h hk (j := 37) (t := 76) rfl rfl (hon 37 rfl) (by rw [hN]; decide) rfl hC
      refine ⟨#[.agg #[.int .i64 r2_0, .int .i64 r2_1, .int .i64 r2_2], .agg #[.int .i64 r3_0, .int .i64 r3_1, .int .i64 r3_2]], by simp [Act.eval, e75, e76], (vec_Le.calls (w := w) (h := q11 hC)).mono (fun e w' h9 => ⟨_, h9.1, h9.2, rfl⟩)⟩
    refine steps_cons ?_ ?_
    · refine step_pure (i := 39) (t := 78) hk rfl rfl rfl rfl rfl rfl (gd_some (g := 31) (tg := 70) hk (by rw [hN]; decide) rfl rfl rfl rfl rfl rfl rfl) (fun hC V G f b a w h hon hoff => ?_)
      have e74 := StAt.pure_ h hk (j := 35) (t := 74) rfl rfl (hon 35 rfl) (by rw [hN]; decide) rfl hC
      exact run_pick_b rfl (eval_of e74) (fun hc_ => by have e77 := StAt.pure_ h hk (j := 38) (t := 77) rfl rfl (hon 38 rfl) (by rw [hN]; decide) rfl (by first | exact hC | (revert hC; simp; done) | (revert hC hc_; simp; done) | (revert hC hc_; cases r5 <;> cases r6 <;> cases r7 <;> cases r8 <;> cases r9 <;> cases r10 <;> simp; done) | (revert hC; cases r5 <;> cases r6 <;> cases r7 <;> cases r8 <;> cases r9 <;> cases r10 <;> simp; done) | (revert hC hc_; cases r5 <;> cases r6 <;> cases r7 <;> cases r8 <;> cases r9 <;> cases r10 <;> simp +contextual; done)); exact eval_of e77) (fun hc_ => by exact rfl)
    refine steps_cons ?_ ?_
    · refine step_pure (i := 40) (t := 79) hk rfl rfl rfl rfl rfl rfl (gd_some (g := 31) (tg := 70) hk (by rw [hN]; decide) rfl rfl rfl rfl rfl rfl rfl) (fun hC V G f b a w h hon hoff => ?_)
      have e78 := StAt.pure_ h hk (j := 39) (t := 78) rfl rfl (hon 39 rfl) (by rw [hN]; decide) rfl hC
      go_simp; (try rfl)
    refine steps_cons ?_ ?_
    · refine step_pure (i := 41) (t := 80) hk rfl rfl rfl rfl rfl rfl (gd_some (g := 40) (tg := 79) hk (by rw [hN]; decide) rfl rfl rfl rfl rfl rfl rfl) (fun hC V G f b a w h hon hoff => ?_)
      have e19 := (h.keep (t := 19) rfl).trans E19
      obtain ⟨o_, ho_, hc_⟩ := StAt.old_ h 3 rfl
      obtain rfl : o_ = _ := hc_
      exact run_load_agg rfl e19 ho_ Tryd.underlying24 rfl (by kernel_rfl)
    refine steps_cons ?_ ?_
    · refine step_pure (i := 42) (t := 81) hk rfl rfl rfl rfl rfl rfl (gd_some (g := 40) (tg := 79) hk (by rw [hN]; decide) rfl rfl rfl rfl rfl rfl rfl) (fun hC V G f b a w h hon hoff => ?_)
      have e21 := (h.keep (t := 21) rfl).trans E21
      obtain ⟨o_, ho_, hc_⟩ := StAt.old_ h 1 rfl
      obtain rfl : o_ = _ := hc_
      exact run_load_agg rfl e21 ho_ Tryd.underlying24 rfl (by kernel_rfl)
    refine steps_cons ?_ ?_
    · refine step_call (s := .pure ((true && ((bif (bif (bif (!r5) then true else (!r6)) then true else (!r7)) then true else (bif (bif r8 then r9 else false) then (!(r1_0 == r2_0) || (!(r1_1 == r2_1) || (!(r1_2 == r2_2)))) else false)) == false)) && ((bif r10 then r11 else false) == true)) (.bool r12)) (C := ((true && ((bif (bif (bif (!r5) then true else (!r6)) then true else (!r7)) then true else (bif (bif r8 then r9 else false) then (!(r1_0 == r2_0) || (!(r1_1 == r2_1) || (!(r1_2 == r2_2)))) else false)) == false)) && ((bif r10 then r11 else false) == true))) (i := 43) (t := 82) hk rfl rfl rfl rfl rfl rfl (gd_some (g := 40) (tg := 79) hk (by rw [hN]; decide) rfl rfl rfl rfl rfl rfl rfl) rfl Tryd.func14 (by kernel_rfl) rfl rfl (fun hC V G f b a w h hon => ?_)
      have e80 := StAt.pure_ h hk (j := 41) (t := 80) rfl rfl (hon 41 rfl) (by rw [hN]; decide) rfl hC
      have e81 := StAt.pure_ h hk (j := 42) (t := 81) rfl rfl (hon 42 rfl) (by rw [hN]; decide) rfl hC
      refine ⟨#[.agg #[.int .i64 r1_0, .int .i64 r1_1, .int .i64 r1_2], .agg #[.int .i64 r3_0, .int .i64 r3_1, .int .i64 r3_2]], by simp [Act.eval, e80, e81], (vec_Le.calls (w := w) (h := q12 hC)).mono (fun e w' h9 => ⟨_, h9.1, h9.2, rfl⟩)⟩
    refine steps_cons ?_ ?_
    · refine step_pure (i := 44) (t := 83) hk rfl rfl rfl rfl rfl rfl (gd_some (g := 40) (tg := 79) hk (by rw [hN]; decide) rfl rfl rfl rfl rfl rfl rfl) (fun hC V G f b a w h hon hoff => ?_)
      have e82 := StAt.pure_ h hk (j := 43) (t := 82) rfl rfl (hon 43 rfl) (by rw [hN]; decide) rfl hC
      go_simp; (try rfl)
    refine steps_cons ?_ ?_
    · refine step_pure (i := 45) (t := 84) hk rfl rfl rfl rfl rfl rfl (gd_some (g := 31) (tg := 70) hk (by rw [hN]; decide) rfl rfl rfl rfl rfl rfl rfl) (fun hC V G f b a w h hon hoff => ?_)
      have e79 := StAt.pure_ h hk (j := 40) (t := 79) rfl rfl (hon 40 rfl) (by rw [hN]; decide) rfl hC
      exact run_pick_b rfl (eval_of e79) (fun hc_ => by have e83 := StAt.pure_ h hk (j := 44) (t := 83) rfl rfl (hon 44 rfl) (by rw [hN]; decide) rfl (by first | exact hC | (revert hC; simp; done) | (revert hC hc_; simp; done) | (revert hC hc_; cases r5 <;> cases r6 <;> cases r7 <;> cases r8 <;> cases r9 <;> cases r10 <;> cases r11 <;> simp; done) | (revert hC; cases r5 <;> cases r6 <;> cases r7 <;> cases r8 <;> cases r9 <;> cases r10 <;> cases r11 <;> simp; done) | (revert hC hc_; cases r5 <;> cases r6 <;> cases r7 <;> cases r8 <;> cases r9 <;> cases r10 <;> cases r11 <;> simp +contextual; done)); exact eval_of e83) (fun hc_ => by exact rfl)
    refine steps_cons ?_ ?_
    · refine step_pure (i := 46) (t := 85) hk rfl rfl rfl rfl rfl rfl (gd_none rfl) (fun hC V G f b a w h hon hoff => ?_)
      have e70 := StAt.pure_ h hk (j := 31) (t := 70) rfl rfl (hon 31 rfl) (by rw [hN]; decide) rfl rfl
      exact run_pick_b rfl (eval_of e70) (fun hc_ => by exact rfl) (fun hc_ => by have e84 := StAt.pure_ h hk (j := 45) (t := 84) rfl rfl (hon 45 rfl) (by rw [hN]; decide) rfl (by first | exact hC | (revert hC; simp; done) | (revert hC hc_; simp; done) | (revert hC hc_; cases r5 <;> cases r6 <;> cases r7 <;> cases r8 <;> cases r9 <;> simp; done) | (revert hC; cases r5 <;> cases r6 <;> cases r7 <;> cases r8 <;> cases r9 <;> simp; done) | (revert hC hc_; cases r5 <;> cases r6 <;> cases r7 <;> cases r8 <;> cases r9 <;> simp +contextual; done)); exact eval_of e84)
    refine steps_cons ?_ ?_
    · refine step_pure (i := 47) (t := 86) hk rfl rfl rfl rfl rfl rfl (gd_none rfl) (fun hC V G f b a w h hon hoff => ?_)
      have e85 := StAt.pure_ h hk (j := 46) (t := 85) rfl rfl (hon 46 rfl) (by rw [hN]; decide) rfl rfl
      go_simp; (try rfl)
    refine steps_cons ?_ ?_
    · refine step_pure (i := 48) (t := 87) hk rfl rfl rfl rfl rfl rfl (gd_some (g := 47) (tg := 86) hk (by rw [hN]; decide) rfl rfl rfl rfl rfl rfl rfl) (fun hC V G f b a w h hon hoff => ?_)
      have e19 := (h.keep (t := 19) rfl).trans E19
      obtain ⟨o_, ho_, hc_⟩ := StAt.old_ h 3 rfl
      obtain rfl : o_ = _ := hc_
      exact run_load_agg rfl e19 ho_ Tryd.underlying24 rfl (by kernel_rfl)
    refine steps_cons ?_ ?_
    · refine step_pure (i := 49) (t := 88) hk rfl rfl rfl rfl rfl rfl (gd_some (g := 47) (tg := 86) hk (by rw [hN]; decide) rfl rfl rfl rfl rfl rfl rfl) (fun hC V G f b a w h hon hoff => ?_)
      have e21 := (h.keep (t := 21) rfl).trans E21
      obtain ⟨o_, ho_, hc_⟩ := StAt.old_ h 1 rfl
      obtain rfl : o_ = _ := hc_
      exact run_load_agg rfl e21 ho_ Tryd.underlying24 rfl (by kernel_rfl)
    refine steps_cons ?_ ?_
    · refine step_call (s := .pure (true && ((bif (bif (bif (bif (!r5) then true else (!r6)) then true else (!r7)) then true else (bif (bif r8 then r9 else false) then (!(r1_0 == r2_0) || (!(r1_1 == r2_1) || (!(r1_2 == r2_2)))) else false)) then true else (bif (bif r10 then r11 else false) then (!r12) else false)) == false)) (.bool r13)) (C := (true && ((bif (bif (bif (bif (!r5) then true else (!r6)) then true else (!r7)) then true else (bif (bif r8 then r9 else false) then (!(r1_0 == r2_0) || (!(r1_1 == r2_1) || (!(r1_2 == r2_2)))) else false)) then true else (bif (bif r10 then r11 else false) then (!r12) else false)) == false))) (i := 50) (t := 89) hk rfl rfl rfl rfl rfl rfl (gd_some (g := 47) (tg := 86) hk (by rw [hN]; decide) rfl rfl rfl rfl rfl rfl rfl) rfl Tryd.func14 (by kernel_rfl) rfl rfl (fun hC V G f b a w h hon => ?_)
      have e87 := StAt.pure_ h hk (j := 48) (t := 87) rfl rfl (hon 48 rfl) (by rw [hN]; decide) rfl hC
      have e88 := StAt.pure_ h hk (j := 49) (t := 88) rfl rfl (hon 49 rfl) (by rw [hN]; decide) rfl hC
      refine ⟨#[.agg #[.int .i64 r1_0, .int .i64 r1_1, .int .i64 r1_2], .agg #[.int .i64 r3_0, .int .i64 r3_1, .int .i64 r3_2]], by simp [Act.eval, e87, e88], (vec_Le.calls (w := w) (h := q13 hC)).mono (fun e w' h9 => ⟨_, h9.1, h9.2, rfl⟩)⟩
    refine steps_cons ?_ ?_
    · refine step_pure (i := 51) (t := 90) hk rfl rfl rfl rfl rfl rfl (gd_some (g := 47) (tg := 86) hk (by rw [hN]; decide) rfl rfl rfl rfl rfl rfl rfl) (fun hC V G f b a w h hon hoff => ?_)
      have e89 := StAt.pure_ h hk (j := 50) (t := 89) rfl rfl (hon 50 rfl) (by rw [hN]; decide) rfl hC
      go_simp; (try rfl)
    refine steps_cons ?_ ?_
    · refine step_pure (i := 52) (t := 91) hk rfl rfl rfl rfl rfl rfl (gd_some (g := 51) (tg := 90) hk (by rw [hN]; decide) rfl rfl rfl rfl rfl rfl rfl) (fun hC V G f b a w h hon hoff => ?_)
      have e20 := (h.keep (t := 20) rfl).trans E20
      obtain ⟨o_, ho_, hc_⟩ := StAt.old_ h 2 rfl
      obtain rfl : o_ = _ := hc_
      exact run_load_agg rfl e20 ho_ Tryd.underlying24 rfl (by kernel_rfl)
    refine steps_cons ?_ ?_
    · refine step_pure (i := 53) (t := 92) hk rfl rfl rfl rfl rfl rfl (gd_some (g := 51) (tg := 90) hk (by rw [hN]; decide) rfl rfl rfl rfl rfl rfl rfl) (fun hC V G f b a w h hon hoff => ?_)
      have e21 := (h.keep (t := 21) rfl).trans E21
      obtain ⟨o_, ho_, hc_⟩ := StAt.old_ h 1 rfl
      obtain rfl : o_ = _ := hc_
      exact run_load_agg rfl e21 ho_ Tryd.underlying24 rfl (by kernel_rfl)
    refine steps_cons ?_ ?_
    · refine step_call (s := .pure ((true && ((bif (bif (bif (bif (!r5) then true else (!r6)) then true else (!r7)) then true else (bif (bif r8 then r9 else false) then (!(r1_0 == r2_0) || (!(r1_1 == r2_1) || (!(r1_2 == r2_2)))) else false)) then true else (bif (bif r10 then r11 else false) then (!r12) else false)) == false)) && (r13 == true)) (.bool r14)) (C := ((true && ((bif (bif (bif (bif (!r5) then true else (!r6)) then true else (!r7)) then true else (bif (bif r8 then r9 else false) then (!(r1_0 == r2_0) || (!(r1_1 == r2_1) || (!(r1_2 == r2_2)))) else false)) then true else (bif (bif r10 then r11 else false) then (!r12) else false)) == false)) && (r13 == true))) (i := 54) (t := 93) hk rfl rfl rfl rfl rfl rfl (gd_some (g := 51) (tg := 90) hk (by rw [hN]; decide) rfl rfl rfl rfl rfl rfl rfl) rfl Tryd.func14 (by kernel_rfl) rfl rfl (fun hC V G f b a w h hon => ?_)
      have e91 := StAt.pure_ h hk (j := 52) (t := 91) rfl rfl (hon 52 rfl) (by rw [hN]; decide) rfl hC
      have e92 := StAt.pure_ h hk (j := 53) (t := 92) rfl rfl (hon 53 rfl) (by rw [hN]; decide) rfl hC
      refine ⟨#[.agg #[.int .i64 r2_0, .int .i64 r2_1, .int .i64 r2_2], .agg #[.int .i64 r3_0, .int .i64 r3_1, .int .i64 r3_2]], by simp [Act.eval, e91, e92], (vec_Le.calls (w := w) (h := q14 hC)).mono (fun e w' h9 => ⟨_, h9.1, h9.2, rfl⟩)⟩
    refine steps_cons ?_ ?_
    · refine step_pure (i := 55) (t := 94) hk rfl rfl rfl rfl rfl rfl (gd_some (g := 47) (tg := 86) hk (by rw [hN]; decide) rfl rfl rfl rfl rfl rfl rfl) (fun hC V G f b a w h hon hoff => ?_)
      have e90 := StAt.pure_ h hk (j := 51) (t := 90) rfl rfl (hon 51 rfl) (by rw [hN]; decide) rfl hC
      exact run_pick_b rfl (eval_of e90) (fun hc_ => by have e93 := StAt.pure_ h hk (j := 54) (t := 93) rfl rfl (hon 54 rfl) (by rw [hN]; decide) rfl (by first | exact hC | (revert hC; simp; done) | (revert hC hc_; simp; done) | (revert hC hc_; cases r7 <;> cases r8 <;> cases r9 <;> cases r10 <;> cases r11 <;> cases r12 <;> cases r13 <;> simp; done) | (revert hC; cases r7 <;> cases r8 <;> cases r9 <;> cases r10 <;> cases r11 <;> cases r12 <;> cases r13 <;> simp; done) | (revert hC hc_; cases r7 <;> cases r8 <;> cases r9 <;> cases r10 <;> cases r11 <;> cases r12 <;> cases r13 <;> simp +contextual; done)); exact eval_of e93) (fun hc_ => by exact rfl)
    refine steps_cons ?_ ?_
    · refine step_pure (i := 56) (t := 95) hk rfl rfl rfl rfl rfl rfl (gd_some (g := 47) (tg := 86) hk (by rw [hN]; decide) rfl rfl rfl rfl rfl rfl rfl) (fun hC V G f b a w h hon hoff => ?_)
      have e94 := StAt.pure_ h hk (j := 55) (t := 94) rfl rfl (hon 55 rfl) (by rw [hN]; decide) rfl hC
      go_simp; (try rfl)
    refine steps_cons ?_ ?_
    · refine step_pure (i := 57) (t := 96) hk rfl rfl rfl rfl rfl rfl (gd_some (g := 56) (tg := 95) hk (by rw [hN]; decide) rfl rfl rfl rfl rfl rfl rfl) (fun hC V G f b a w h hon hoff => ?_)
      have e22 := (h.keep (t := 22) rfl).trans E22
      obtain ⟨o_, ho_, hc_⟩ := StAt.old_ h 0 rfl
      obtain rfl : o_ = _ := hc_
      exact run_load_agg rfl e22 ho_ Tryd.underlying24 rfl (by kernel_rfl)
    refine steps_cons ?_ ?_
    · refine step_pure (i := 58) (t := 97) hk rfl rfl rfl rfl rfl rfl (gd_some (g := 56) (tg := 95) hk (by rw [hN]; decide) rfl rfl rfl rfl rfl rfl rfl) (fun hC V G f b a w h hon hoff => ?_)
      have e21 := (h.keep (t := 21) rfl).trans E21
      obtain ⟨o_, ho_, hc_⟩ := StAt.old_ h 1 rfl
      obtain rfl : o_ = _ := hc_
      exact run_load_agg rfl e21 ho_ Tryd.underlying24 rfl (by kernel_rfl)
    refine steps_cons ?_ ?_
    · refine step_call (s := .pure ((true && ((bif (bif (bif (bif (!r5) then true else (!r6)) then true else (!r7)) then true else (bif (bif r8 then r9 else false) then (!(r1_0 == r2_0) || (!(r1_1 == r2_1) || (!(r1_2 == r2_2)))) else false)) then true else (bif (bif r10 then r11 else false) then (!r12) else false)) == false)) && ((bif r13 then r14 else false) == true)) (.bool r15)) (C := ((true && ((bif (bif (bif (bif (!r5) then true else (!r6)) then true else (!r7)) then true else (bif (bif r8 then r9 else false) then (!(r1_0 == r2_0) || (!(r1_1 == r2_1) || (!(r1_2 == r2_2)))) else false)) then true else (bif (bif r10 then r11 else false) then (!r12) else false)) == false)) && ((bif r13 then r14 else false) == true))) (i := 59) (t := 98) hk rfl rfl rfl rfl rfl rfl (gd_some (g := 56) (tg := 95) hk (by rw [hN]; decide) rfl rfl rfl rfl rfl rfl rfl) rfl Tryd.func14 (by kernel_rfl) rfl rfl (fun hC V G f b a w h hon => ?_)
      have e96 := StAt.pure_ h hk (j := 57) (t := 96) rfl rfl (hon 57 rfl) (by rw [hN]; decide) rfl hC
      have e97 := StAt.pure_ h hk (j := 58) (t := 97) rfl rfl (hon 58 rfl) (by rw [hN]; decide) rfl hC
      refine ⟨#[.agg #[.int .i64 r4_0, .int .i64 r4_1, .int .i64 r4_2], .agg #[.int .i64 r3_0, .int .i64 r3_1, .int .i64 r3_2]], by simp [Act.eval, e96, e97], (vec_Le.calls (w := w) (h := q15 hC)).mono (fun e w' h9 => ⟨_, h9.1, h9.2, rfl⟩)⟩
    refine steps_cons ?_ ?_
    · refine step_pure (i := 60) (t := 99) hk rfl rfl rfl rfl rfl rfl (gd_some (g := 56) (tg := 95) hk (by rw [hN]; decide) rfl rfl rfl rfl rfl rfl rfl) (fun hC V G f b a w h hon hoff => ?_)
      have e98 := StAt.pure_ h hk (j := 59) (t := 98) rfl rfl (hon 59 rfl) (by rw [hN]; decide) rfl hC
      go_simp; (try rfl)
    refine steps_cons ?_ ?_
    · refine step_pure (i := 61) (t := 100) hk rfl rfl rfl rfl rfl rfl (gd_some (g := 47) (tg := 86) hk (by rw [hN]; decide) rfl rfl rfl rfl rfl rfl rfl) (fun hC V G f b a w h hon hoff => ?_)
      have e95 := StAt.pure_ h hk (j := 56) (t := 95) rfl rfl (hon 56 rfl) (by rw [hN]; decide) rfl hC
      exact run_pick_b rfl (eval_of e95) (fun hc_ => by have e99 := StAt.pure_ h hk (j := 60) (t := 99) rfl rfl (hon 60 rfl) (by rw [hN]; decide) rfl (by first | exact hC | (revert hC; simp; done) | (revert hC hc_; simp; done) | (revert hC hc_; cases r8 <;> cases r9 <;> cases r10 <;> cases r11 <;> cases r12 <;> cases r13 <;> cases r14 <;> simp; done) | (revert hC; cases r8 <;> cases r9 <;> cases r10 <;> cases r11 <;> cases r12 <;> cases r13 <;> cases r14 <;> simp; done) | (revert hC hc_; cases r8 <;> cases r9 <;> cases r10 <;> cases r11 <;> cases r12 <;> cases r13 <;> cases r14 <;> simp +contextual; done)); exact eval_of e99) (fun hc_ => by exact rfl)
    refine steps_cons ?_ ?_
    · refine step_pure (i := 62) (t := 101) hk rfl rfl rfl rfl rfl rfl (gd_none rfl) (fun hC V G f b a w h hon hoff => ?_)
      have e86 := StAt.pure_ h hk (j := 47) (t := 86) rfl rfl (hon 47 rfl) (by rw [hN]; decide) rfl rfl
      exact run_pick_b rfl (eval_of e86) (fun hc_ => by exact rfl) (fun hc_ => by have e100 := StAt.pure_ h hk (j := 61) (t := 100) rfl rfl (hon 61 rfl) (by rw [hN]; decide) rfl (by first | exact hC | (revert hC; simp; done) | (revert hC hc_; simp; done) | (revert hC hc_; cases r6 <;> cases r7 <;> cases r8 <;> cases r9 <;> cases r10 <;> cases r11 <;> cases r12 <;> simp; done) | (revert hC; cases r6 <;> cases r7 <;> cases r8 <;> cases r9 <;> cases r10 <;> cases r11 <;> cases r12 <;> simp; done) | (revert hC hc_; cases r6 <;> cases r7 <;> cases r8 <;> cases r9 <;> cases r10 <;> cases r11 <;> cases r12 <;> simp +contextual; done)); exact eval_of e100)
    exact steps_nil
  · rintro b a w' hb ⟨V, G, f, h⟩
    exact K a w' f (h.size.1.trans hN) (h.size.2.trans hD) (WS.old h 0 rfl (WS.old h 1 rfl (WS.old h 2 rfl (WS.old h 3 rfl (WS.nil h))))) ((h.keep (t := 18) rfl).trans E18) ((h.keep (t := 19) rfl).trans E19) ((h.keep (t := 20) rfl).trans E20) ((h.keep (t := 21) rfl).trans E21) ((h.keep (t := 22) rfl).trans E22) (StAt.pure_ h hk (j := 62) (t := 101) rfl rfl (hb 62 (by decide)) (by rw [hN]; decide) rfl rfl)
def doorkeeperlaw10_VecOrder.es5 : List (Nat × Tmp) := [(0, 102), (1, 103), (2, 104), (3, 105), (4, 106), (5, 107), (6, 108), (7, 109), (8, 110), (9, 111), (10, 112), (11, 113), (12, 114), (13, 115), (14, 116), (15, 117), (16, 118), (17, 119), (18, 120), (19, 121), (20, 122), (21, 123), (22, 124), (23, 125), (24, 126), (25, 18)]
def doorkeeperlaw10_VecOrder.T5 : Bool × List (List Nat × List Nat) := (true, [([], []), ([0], [0]), ([1], [1]), ([], []), ([2, 3], [2, 3]), ([4, 2], [4]), ([5], [5]), ([5], [5]), ([5], [5]), ([6, 7, 8, 5], [5, 6, 7, 8]), ([9, 5, 5], [5, 9]), ([5], [5]), ([5], [5]), ([11, 12, 5], [5, 11, 12]), ([13, 10, 5], [5, 13]), ([10, 14, 5], [5, 10, 14]), ([5, 15], [5, 15]), ([16, 14], [16]), ([17], [17]), ([17, 17], [17]), ([18, 19, 19, 17], [17, 18, 19]), ([17, 20], [17, 20]), ([21, 20], [21]), ([22, 22], [22]), ([22, 23], [22, 23]), ([24, 23, 0, 1, 2, 3, 4, 5, 6, 7, 8, 9, 10, 11, 12, 13, 14, 15, 16, 17, 18, 19, 20, 21, 22, 23, 24], [24])])
def doorkeeperlaw10_VecOrder.B5 : List Nat := [0, 1, 3, 0, 15, 31, 63, 63, 63, 511, 1023, 63, 63, 6207, 16383, 32767, 65535, 131071, 262143, 262143, 1048575, 2097151, 4194303, 8388607, 16777215, 33554431]
theorem doorkeeperlaw10_VecOrder.tab5 : rtab .any (opsOf Tryd.f4 5) = doorkeeperlaw10_VecOrder.T5 := by kernel_rfl
theorem doorkeeperlaw10_VecOrder.bits5 : waitsOk doorkeeperlaw10_VecOrder.T5.2 doorkeeperlaw10_VecOrder.B5 = true := by kernel_rfl
set_option maxHeartbeats 4000000 in
set_option maxRecDepth 100000 in
theorem doorkeeperlaw10_VecOrder.reg5 (r1_0 : Int) (r1_1 : Int) (r1_2 : Int) (r2_0 : Int) (r2_1 : Int) (r2_2 : Int) (r3_0 : Int) (r3_1 : Int) (r3_2 : Int) (r4_0 : Int) (r4_1 : Int) (r4_2 : Int) (r16_0 : Int) (r16_1 : Int) (r16_2 : Int) (k16 : Nat) (r17_0 : Int) (r17_1 : Int) (r17_2 : Int) (k17 : Nat) (r18_0 : Int) (r18_1 : Int) (r18_2 : Int) (k18 : Nat) (r19_0 : Int) (r19_1 : Int) (r19_2 : Int) (r20 : Bool) (r21 : Bool) (k21 : Nat) (g22 : Nat) (g21 : Nat) (g20 : Nat) (g19 : Nat) {Q : Exit → Act → World → Prop} {a0 : Act} {w0 w : World} {f0 : Fz} (hN : a0.tmps.size = 127) (hD : a0.defers = []) (ws : WS w0 f0 [(g22, .pure (.cells #[.int .i64 r4_0, .int .i64 r4_1, .int .i64 r4_2] 24 (0, 0))), (g21, .pure (.cells #[.int .i64 r3_0, .int .i64 r3_1, .int .i64 r3_2] 24 (0, 0))), (g20, .pure (.cells #[.int .i64 r2_0, .int .i64 r2_1, .int .i64 r2_2] 24 (0, 0))), (g19, .pure (.cells #[.int .i64 r1_0, .int .i64 r1_1, .int .i64 r1_2] 24 (0, 0)))] w) (hT : LT_ w0) (E19 : a0.tmps[19]? = some (.pointer (some ⟨g19, 0, none⟩))) (E20 : a0.tmps[20]? = some (.pointer (some ⟨g20, 0, none⟩))) (E21 : a0.tmps[21]? = some (.pointer (some ⟨g21, 0, none⟩))) (E22 : a0.tmps[22]? = some (.pointer (some ⟨g22, 0, none⟩))) (q16 : true = true → vec_Max.f k16 ([(⟨r1_0, r1_1, r1_2⟩ : S24)] : List (S24)) = some (r16_0, r16_1, r16_2)) (q17 : (true && ((r16_0 == r1_0 && (r16_1 == r1_1 && (r16_2 == r1_2))) == true)) = true → vec_Max.f k17 ([(⟨r1_0, r1_1, r1_2⟩ : S24), (⟨r2_0, r2_1, r2_2⟩ : S24), (⟨r3_0, r3_1, r3_2⟩ : S24)] : List (S24)) = some (r17_0, r17_1, r17_2)) (q18 : (true && ((r16_0 == r1_0 && (r16_1 == r1_1 && (r16_2 == r1_2))) == true)) = true → vec_Max.f k18 ([(⟨r3_0, r3_1, r3_2⟩ : S24), (⟨r4_0, r4_1, r4_2⟩ : S24)] : List (S24)) = some (r18_0, r18_1, r18_2)) (q19 : (true && ((bif (r16_0 == r1_0 && (r16_1 == r1_1 && (r16_2 == r1_2))) then (r17_0 == r18_0 && (r17_1 == r18_1 && (r17_2 == r18_2))) else false) == true)) = true → vec_Most.f  = some (r19_0, r19_1, r19_2)) (q20 : (true && ((bif (r16_0 == r1_0 && (r16_1 == r1_1 && (r16_2 == r1_2))) then (r17_0 == r18_0 && (r17_1 == r18_1 && (r17_2 == r18_2))) else false) == true)) = true → vec_Le.f r1_0 r1_1 r1_2 r19_0 r19_1 r19_2 = some r20) (q21 : (true && ((bif (bif (r16_0 == r1_0 && (r16_1 == r1_1 && (r16_2 == r1_2))) then (r17_0 == r18_0 && (r17_1 == r18_1 && (r17_2 == r18_2))) else false) then r20 else false) == true)) = true → doorkeeperlaw10_awake.f k21  = some r21)
    (K : ∀ (a : Act) (w : World) (f : Fz), a.tmps.size = 127 → a.defers = [] → WS w0 f [(g22, .pure (.cells #[.int .i64 r4_0, .int .i64 r4_1, .int .i64 r4_2] 24 (0, 0))), (g21, .pure (.cells #[.int .i64 r3_0, .int .i64 r3_1, .int .i64 r3_2] 24 (0, 0))), (g20, .pure (.cells #[.int .i64 r2_0, .int .i64 r2_1, .int .i64 r2_2] 24 (0, 0))), (g19, .pure (.cells #[.int .i64 r1_0, .int .i64 r1_1, .int .i64 r1_2] 24 (0, 0)))] w → a.tmps[18]? = some (.bool (bif (bif (bif (r16_0 == r1_0 && (r16_1 == r1_1 && (r16_2 == r1_2))) then (r17_0 == r18_0 && (r17_1 == r18_1 && (r17_2 == r18_2))) else false) then r20 else false) then r21 else false)) → Q .normal a w) :
    (Code.region 5 (opsOf Tryd.f4 5) true).wp Tryd.prog Q a0 w := by
  have hk : esOk doorkeeperlaw10_VecOrder.es5 = true := by kernel_rfl
  have hops : opsOf Tryd.f4 5 = opsOf Tryd.f4 5 := rfl
  conv at hops => rhs; unfold Tryd.f4; simp only [opsOf, Option.bind_some, Option.getD_some, opsIn, Nat.reduceBEq, if_true, if_false, Bool.false_eq_true, reduceIte]
  have htab := doorkeeperlaw10_VecOrder.tab5
  rw [hops] at htab ⊢
  clear hops
  have hu24 := Tryd.underlying24
  refine region_any 26 (St a0 w0 f0 doorkeeperlaw10_VecOrder.es5 [] (([(g22, .pure (.cells #[.int .i64 r4_0, .int .i64 r4_1, .int .i64 r4_2] 24 (0, 0))), (g21, .pure (.cells #[.int .i64 r3_0, .int .i64 r3_1, .int .i64 r3_2] 24 (0, 0))), (g20, .pure (.cells #[.int .i64 r2_0, .int .i64 r2_1, .int .i64 r2_2] 24 (0, 0))), (g19, .pure (.cells #[.int .i64 r1_0, .int .i64 r1_1, .int .i64 r1_2] 24 (0, 0)))] : List (Nat × Ct)).map fun p => (p.1, (⟨p.2, none⟩ : Bx))) [.pure true (.agg #[.int .i64 r1_0, .int .i64 r1_1, .int .i64 r1_2]),
      .fr true (fun v W => ∃ A c, v = .slice A (([(⟨r1_0, r1_1, r1_2⟩ : S24)] : List (S24))).length c ∧ (([(⟨r1_0, r1_1, r1_2⟩ : S24)] : List (S24))).length ≤ c ∧ k24.C W A (([(⟨r1_0, r1_1, r1_2⟩ : S24)] : List (S24))).length ([(⟨r1_0, r1_1, r1_2⟩ : S24)] : List (S24))),
      .pure true (.agg #[.int .i64 r16_0, .int .i64 r16_1, .int .i64 r16_2]),
      .pure true (.agg #[.int .i64 r1_0, .int .i64 r1_1, .int .i64 r1_2]),
      .pure true (.bool (r16_0 == r1_0 && (r16_1 == r1_1 && (r16_2 == r1_2)))),
      .pure true (.bool (r16_0 == r1_0 && (r16_1 == r1_1 && (r16_2 == r1_2)))),
      .pure (true && ((r16_0 == r1_0 && (r16_1 == r1_1 && (r16_2 == r1_2))) == true)) (.agg #[.int .i64 r1_0, .int .i64 r1_1, .int .i64 r1_2]),
      .pure (true && ((r16_0 == r1_0 && (r16_1 == r1_1 && (r16_2 == r1_2))) == true)) (.agg #[.int .i64 r2_0, .int .i64 r2_1, .int .i64 r2_2]),
      .pure (true && ((r16_0 == r1_0 && (r16_1 == r1_1 && (r16_2 == r1_2))) == true)) (.agg #[.int .i64 r3_0, .int .i64 r3_1, .int .i64 r3_2]),
      .fr (true && ((r16_0 == r1_0 && (r16_1 == r1_1 && (r16_2 == r1_2))) == true)) (fun v W => ∃ A c, v = .slice A (([(⟨r1_0, r1_1, r1_2⟩ : S24), (⟨r2_0, r2_1, r2_2⟩ : S24), (⟨r3_0, r3_1, r3_2⟩ : S24)] : List (S24))).length c ∧ (([(⟨r1_0, r1_1, r1_2⟩ : S24), (⟨r2_0, r2_1, r2_2⟩ : S24), (⟨r3_0, r3_1, r3_2⟩ : S24)] : List (S24))).length ≤ c ∧ k24.C W A (([(⟨r1_0, r1_1, r1_2⟩ : S24), (⟨r2_0, r2_1, r2_2⟩ : S24), (⟨r3_0, r3_1, r3_2⟩ : S24)] : List (S24))).length ([(⟨r1_0, r1_1, r1_2⟩ : S24), (⟨r2_0, r2_1, r2_2⟩ : S24), (⟨r3_0, r3_1, r3_2⟩ : S24)] : List (S24))),
      .pure (true && ((r16_0 == r1_0 && (r16_1 == r1_1 && (r16_2 == r1_2))) == true)) (.agg #[.int .i64 r17_0, .int .i64 r17_1, .int .i64 r17_2]),
      .pure (true && ((r16_0 == r1_0 && (r16_1 == r1_1 && (r16_2 == r1_2))) == true)) (.agg #[.int .i64 r3_0, .int .i64 r3_1, .int .i64 r3_2]),
      .pure (true && ((r16_0 == r1_0 && (r16_1 == r1_1 && (r16_2 == r1_2))) == true)) (.agg #[.int .i64 r4_0, .int .i64 r4_1, .int .i64 r4_2]),
      .fr (true && ((r16_0 == r1_0 && (r16_1 == r1_1 && (r16_2 == r1_2))) == true)) (fun v W => ∃ A c, v = .slice A (([(⟨r3_0, r3_1, r3_2⟩ : S24), (⟨r4_0, r4_1, r4_2⟩ : S24)] : List (S24))).length c ∧ (([(⟨r3_0, r3_1, r3_2⟩ : S24), (⟨r4_0, r4_1, r4_2⟩ : S24)] : List (S24))).length ≤ c ∧ k24.C W A (([(⟨r3_0, r3_1, r3_2⟩ : S24), (⟨r4_0, r4_1, r4_2⟩ : S24)] : List (S24))).length ([(⟨r3_0, r3_1, r3_2⟩ : S24), (⟨r4_0, r4_1, r4_2⟩ : S24)] : List (S24))),
      .pure (true && ((r16_0 == r1_0 && (r16_1 == r1_1 && (r16_2 == r1_2))) == true)) (.agg #[.int .i64 r18_0, .int .i64 r18_1, .int .i64 r18_2]),
      .pure (true && ((r16_0 == r1_0 && (r16_1 == r1_1 && (r16_2 == r1_2))) == true)) (.bool (r17_0 == r18_0 && (r17_1 == r18_1 && (r17_2 == r18_2)))),
      .pure true (.bool (bif (r16_0 == r1_0 && (r16_1 == r1_1 && (r16_2 == r1_2))) then (r17_0 == r18_0 && (r17_1 == r18_1 && (r17_2 == r18_2))) else false)),
      .pure true (.bool (bif (r16_0 == r1_0 && (r16_1 == r1_1 && (r16_2 == r1_2))) then (r17_0 == r18_0 && (r17_1 == r18_1 && (r17_2 == r18_2))) else false)),
      .pure (true && ((bif (r16_0 == r1_0 && (r16_1 == r1_1 && (r16_2 == r1_2))) then (r17_0 == r18_0 && (r17_1 == r18_1 && (r17_2 == r18_2))) else false) == true)) (.agg #[.int .i64 r1_0, .int .i64 r1_1, .int .i64 r1_2]),
      .pure (true && ((bif (r16_0 == r1_0 && (r16_1 == r1_1 && (r16_2 == r1_2))) then (r17_0 == r18_0 && (r17_1 == r18_1 && (r17_2 == r18_2))) else false) == true)) (.agg #[.int .i64 r19_0, .int .i64 r19_1, .int .i64 r19_2]),
      .pure (true && ((bif (r16_0 == r1_0 && (r16_1 == r1_1 && (r16_2 == r1_2))) then (r17_0 == r18_0 && (r17_1 == r18_1 && (r17_2 == r18_2))) else false) == true)) (.bool r20),
      .pure true (.bool (bif (bif (r16_0 == r1_0 && (r16_1 == r1_1 && (r16_2 == r1_2))) then (r17_0 == r18_0 && (r17_1 == r18_1 && (r17_2 == r18_2))) else false) then r20 else false)),
      .pure true (.bool (bif (bif (r16_0 == r1_0 && (r16_1 == r1_1 && (r16_2 == r1_2))) then (r17_0 == r18_0 && (r17_1 == r18_1 && (r17_2 == r18_2))) else false) then r20 else false)),
      .pure (true && ((bif (bif (r16_0 == r1_0 && (r16_1 == r1_1 && (r16_2 == r1_2))) then (r17_0 == r18_0 && (r17_1 == r18_1 && (r17_2 == r18_2))) else false) then r20 else false) == true)) (.bool r21),
      .pure true (.bool (bif (bif (bif (r16_0 == r1_0 && (r16_1 == r1_1 && (r16_2 == r1_2))) then (r17_0 == r18_0 && (r17_1 == r18_1 && (r17_2 == r18_2))) else false) then r20 else false) then r21 else false)),
      .pure true (.bool (bif (bif (bif (r16_0 == r1_0 && (r16_1 == r1_1 && (r16_2 == r1_2))) then (r17_0 == r18_0 && (r17_1 == r18_1 && (r17_2 == r18_2))) else false) then r20 else false) then r21 else false))]) (by kernel_rfl) (by kernel_rfl) htab doorkeeperlaw10_VecOrder.bits5 (by kernel_rfl) (by kernel_rfl) ?_ ?_ ?_
  · exact ws.drew.start
  · show ∀ i ∈ [0, 1, 2, 3, 4, 5, 6, 7, 8, 9, 10, 11, 12, 13, 14, 15, 16, 17, 18, 19, 20, 21, 22, 23, 24, 25], _
    refine steps_cons ?_ ?_
    · refine step_pure (i := 0) (t := 102) hk rfl rfl rfl rfl rfl rfl (gd_none rfl) (fun hC V G f b a w h hon hoff => ?_)
      have e19 := (h.keep (t := 19) rfl).trans E19
      obtain ⟨o_, ho_, hc_⟩ := StAt.old_ h 3 rfl
      obtain rfl : o_ = _ := hc_
      exact run_load_agg rfl e19 ho_ Tryd.underlying24 rfl (by kernel_rfl)
    refine steps_cons ?_ ?_
    · refine step_lit (d := k24) (i := 1) (t := 103) (e := 24) (xs := ([(⟨r1_0, r1_1, r1_2⟩ : S24)] : List (S24))) hk rfl rfl rfl rfl rfl rfl (gd_none rfl) (by simp) (fun hC V G f b a w h hon => ?_)
      have e102 := StAt.pure_ h hk (j := 0) (t := 102) rfl rfl (hon 0 rfl) (by rw [hN]; decide) rfl rfl
      exact ⟨[.int .i64 r1_0, .int .i64 r1_1, .int .i64 r1_2], by first | (go_simp; done) | (go_simp; rfl), fun W _ => (Reps.c3 (k24_mk W (⟨r1_0, r1_1, r1_2⟩ : S24)) (Reps.none _ _))⟩
    refine steps_cons ?_ ?_
    · refine step_call (s := .pure true (.agg #[.int .i64 r16_0, .int .i64 r16_1, .int .i64 r16_2])) (C := true) (i := 2) (t := 104) hk rfl rfl rfl rfl rfl rfl (gd_none rfl) rfl Tryd.func16 (by kernel_rfl) rfl rfl (fun hC V G f b a w h hon => ?_)
      obtain ⟨v103, e103, F103⟩ := StAt.fr_ h hk (j := 1) (t := 103) rfl rfl (hon 1 rfl) (by rw [hN]; decide) rfl rfl
      obtain ⟨A103, c103, hv103, hl103, hr103⟩ := F103 w h.holds
      subst hv103
      refine ⟨#[.slice A103 _ c103], by simp [Act.eval, e103], (vec_Max.calls (w := w) (hr0 := hr103) (hc0 := hl103) (h := q16 hC)).mono (fun e w' h9 => ⟨_, h9.1, h9.2, rfl⟩)⟩
    refine steps_cons ?_ ?_
    · refine step_pure (i := 3) (t := 105) hk rfl rfl rfl rfl rfl rfl (gd_none rfl) (fun hC V G f b a w h hon hoff => ?_)
      have e19 := (h.keep (t := 19) rfl).trans E19
      obtain ⟨o_, ho_, hc_⟩ := StAt.old_ h 3 rfl
      obtain rfl : o_ = _ := hc_
      exact run_load_agg rfl e19 ho_ Tryd.underlying24 rfl (by kernel_rfl)
    refine steps_cons ?_ ?_
    · refine step_pure (i := 4) (t := 106) hk rfl rfl rfl rfl rfl rfl (gd_none rfl) (fun hC V G f b a w h hon hoff => ?_)
      have e104 := StAt.pure_ h hk (j := 2) (t := 104) rfl rfl (hon 2 rfl) (by rw [hN]; decide) rfl rfl
      have e105 := StAt.pure_ h hk (j := 3) (t := 105) rfl rfl (hon 3 rfl) (by rw [hN]; decide) rfl rfl
      go_simp; (try rfl)
    refine steps_cons ?_ ?_
    · refine step_pure (i := 5) (t := 107) hk rfl rfl rfl rfl rfl rfl (gd_none rfl) (fun hC V G f b a w h hon hoff => ?_)
      have e106 := StAt.pure_ h hk (j := 4) (t := 106) rfl rfl (hon 4 rfl) (by rw [hN]; decide) rfl rfl
      go_simp; (try rfl)
    refine steps_cons ?_ ?_
    · refine step_pure (i := 6) (t := 108) hk rfl rfl rfl rfl rfl rfl (gd_some (g := 5) (tg := 107) hk (by rw [hN]; decide) rfl rfl rfl rfl rfl rfl rfl) (fun hC V G f b a w h hon hoff => ?_)
      have e19 := (h.keep (t := 19) rfl).trans E19
      obtain ⟨o_, ho_, hc_⟩ := StAt.old_ h 3 rfl
      obtain rfl : o_ = _ := hc_
      exact run_load_agg rfl e19 ho_ Tryd.underlying24 rfl (by kernel_rfl)
    refine steps_cons ?_ ?_
    · refine step_pure (i := 7) (t := 109) hk rfl rfl rfl rfl rfl rfl (gd_some (g := 5) (tg := 107) hk (by rw [hN]; decide) rfl rfl rfl rfl rfl rfl rfl) (fun hC V G f b a w h hon hoff => ?_)
      have e20 := (h.keep (t := 20) rfl).trans E20
      obtain ⟨o_, ho_, hc_⟩ := StAt.old_ h 2 rfl
      obtain rfl : o_ = _ := hc_
      exact run_load_agg rfl e20 ho_ Tryd.underlying24 rfl (by kernel_rfl)
    refine steps_cons ?_ ?_
    · refine step_pure (i := 8) (t := 110) hk rfl rfl rfl rfl rfl rfl (gd_some (g := 5) (tg := 107) hk (by rw [hN]; decide) rfl rfl rfl rfl rfl rfl rfl) (fun hC V G f b a w h hon hoff => ?_)
      have e21 := (h.keep (t := 21) rfl).trans E21
      obtain ⟨o_, ho_, hc_⟩ := StAt.old_ h 1 rfl
      obtain rfl : o_ = _ := hc_
      exact run_load_agg rfl e21 ho_ Tryd.underlying24 rfl (by kernel_rfl)
    refine steps_cons ?_ ?_
    · refine step_lit (d := k24) (i := 9) (t := 111) (e := 24) (xs := ([(⟨r1_0, r1_1, r1_2⟩ : S24), (⟨r2_0, r2_1, r2_2⟩ : S24), (⟨r3_0, r3_1, r3_2⟩ : S24)] : List (S24))) hk rfl rfl rfl rfl rfl rfl (gd_some (g := 5) (tg := 107) hk (by rw [hN]; decide) rfl rfl rfl rfl rfl rfl rfl) (by simp) (fun hC V G f b a w h hon => ?_)
      have e108 := StAt.pure_ h hk (j := 6) (t := 108) rfl rfl (hon 6 rfl) (by rw [hN]; decide) rfl hC
      have e109 := StAt.pure_ h hk (j := 7) (t := 109) rfl rfl (hon 7 rfl) (by rw [hN]; decide) rfl hC
      have e110 := StAt.pure_ h hk (j := 8) (t := 110) rfl rfl (hon 8 rfl) (by rw [hN]; decide) rfl hC
      exact ⟨[.int .i64 r1_0, .int .i64 r1_1, .int .i64 r1_2, .int .i64 r2_0, .int .i64 r2_1, .int .i64 r2_2, .int .i64 r3_0, .int .i64 r3_1, .int .i64 r3_2], by first | (go_simp; done) | (go_simp; rfl), fun W _ => (Reps.c3 (k24_mk W (⟨r1_0, r1_1, r1_2⟩ : S24)) (Reps.c3 (k24_mk W (⟨r2_0, r2_1, r2_2⟩ : S24)) (Reps.c3 (k24_mk W (⟨r3_0, r3_1, r3_2⟩ : S24)) (Reps.none _ _))))⟩
    refine steps_cons ?_ ?_
    · refine step_call (s := .pure (true && ((r16_0 == r1_0 && (r16_1 == r1_1 && (r16_2 == r1_2))) == true)) (.agg #[.int .i64 r17_0, .int .i64 r17_1, .int .i64 r17_2])) (C := (true && ((r16_0 == r1_0 && (r16_1 == r1_1 && (r16_2 == r1_2))) == true))) (i := 10) (t := 112) hk rfl rfl rfl rfl rfl rfl (gd_some (g := 5) (tg := 107) hk (by rw [hN]; decide) rfl rfl rfl rfl rfl rfl rfl) rfl Tryd.func16 (by kernel_rfl) rfl rfl (fun hC V G f b a w h hon => ?_)
      obtain ⟨v111, e111, F111⟩ := StAt.fr_ h hk (j := 9) (t := 111) rfl rfl (hon 9 rfl) (by rw [hN]; decide) rfl hC
      obtain ⟨A111, c111, hv111, hl111, hr111⟩ := F111 w h.holds
      subst hv111
      refine ⟨#[.slice A111 _ c111], by simp [Act.eval, e111], (vec_Max.calls (w := w) (hr0 := hr111) (hc0 := hl111) (h := q17 hC)).mono (fun e w' h9 => ⟨_, h9.1, h9.2, rfl⟩)⟩
    refine steps_cons ?_ ?_
    · refine step_pure (i := 11) (t := 113) hk rfl rfl rfl rfl rfl rfl (gd_some (g := 5) (tg := 107) hk (by rw [hN]; decide) rfl rfl rfl rfl rfl rfl rfl) (fun hC V G f b a w h hon hoff => ?_)
      have e21 := (h.keep (t := 21) rfl).trans E21
      obtain ⟨o_, ho_, hc_⟩ := StAt.old_ h 1 rfl
      obtain rfl : o_ = _ := hc_
      exact run_load_agg rfl e21 ho_ Tryd.underlying24 rfl (by kernel_rfl)
    refine steps_cons ?_ ?_
    · refine step_pure (i := 12) (t := 114) hk rfl rfl rfl rfl rfl rfl (gd_some (g := 5) (tg := 107) hk (by rw [hN]; decide) rfl rfl rfl rfl rfl rfl rfl) (fun hC V G f b a w h hon hoff => ?_)
      have e22 := (h.keep (t := 22) rfl).trans E22
      obtain ⟨o_, ho_, hc_⟩ := StAt.old_ h 0 rfl
      obtain rfl : o_ = _ := hc_
      exact run_load_agg rfl e22 ho_ Tryd.underlying24 rfl (by kernel_rfl)
    refine steps_cons ?_ ?_
    · refine step_lit (d := k24) (i := 13) (t := 115) (e := 24) (xs := ([(⟨r3_0, r3_1, r3_2⟩ : S24), (⟨r4_0, r4_1, r4_2⟩ : S24)] : List (S24))) hk rfl rfl rfl rfl rfl rfl (gd_some (g := 5) (tg := 107) hk (by rw [hN]; decide) rfl rfl rfl rfl rfl rfl rfl) (by simp) (fun hC V G f b a w h hon => ?_)
      have e113 := StAt.pure_ h hk (j := 11) (t := 113) rfl rfl (hon 11 rfl) (by rw [hN]; decide) rfl hC
      have e114 := StAt.pure_ h hk (j := 12) (t := 114) rfl rfl (hon 12 rfl) (by rw [hN]; decide) rfl hC
      exact ⟨[.int .i64 r3_0, .int .i64 r3_1, .int .i64 r3_2, .int .i64 r4_0, .int .i64 r4_1, .int .i64 r4_2], by first | (go_simp; done) | (go_simp; rfl), fun W _ => (Reps.c3 (k24_mk W (⟨r3_0, r3_1, r3_2⟩ : S24)) (Reps.c3 (k24_mk W (⟨r4_0, r4_1, r4_2⟩ : S24)) (Reps.none _ _)))⟩
    refine steps_cons ?_ ?_
    · refine step_call (s := .pure (true && ((r16_0 == r1_0 && (r16_1 == r1_1 && (r16_2 == r1_2))) == true)) (.agg #[.int .i64 r18_0, .int .i64 r18_1, .int .i64 r18_2])) (C := (true && ((r16_0 == r1_0 && (r16_1 == r1_1 && (r16_2 == r1_2))) == true))) (i := 14) (t := 116) hk rfl rfl rfl rfl rfl rfl (gd_some (g := 5) (tg := 107) hk (by rw [hN]; decide) rfl rfl rfl rfl rfl rfl rfl) rfl Tryd.func16 (by kernel_rfl) rfl rfl (fun hC V G f b a w h hon => ?_)
      obtain ⟨v115, e115, F115⟩ := StAt.fr_ h hk (j := 13) (t := 115) rfl rfl (hon 13 rfl) (by rw [hN]; decide) rfl hC
      obtain ⟨A115, c115, hv115, hl115, hr115⟩ := F115 w h.holds
      subst hv115
      refine ⟨#[.slice A115 _ c115], by simp [Act.eval, e115], (vec_Max.calls (w := w) (hr0 := hr115) (hc0 := hl115) (h := q18 hC)).mono (fun e w' h9 => ⟨_, h9.1, h9.2, rfl⟩)⟩
    refine steps_cons ?_ ?_
    · refine step_pure (i := 15) (t := 117) hk rfl rfl rfl rfl rfl rfl (gd_some (g := 5) (tg := 107) hk (by rw [hN]; decide) rfl rfl rfl rfl rfl rfl rfl) (fun hC V G f b a w h hon hoff => ?_)
      have e112 := StAt.pure_ h hk (j := 10) (t := 112) rfl rfl (hon 10 rfl) (by rw [hN]; decide) rfl hC
      have e116 := StAt.pure_ h hk (j := 14) (t := 116) rfl rfl (hon 14 rfl) (by rw [hN]; decide) rfl hC
      go_simp; (try rfl)
    refine steps_cons ?_ ?_
    · refine step_pure (i := 16) (t := 118) hk rfl rfl rfl rfl rfl rfl (gd_none rfl) (fun hC V G f b a w h hon hoff => ?_)
      have e107 := StAt.pure_ h hk (j := 5) (t := 107) rfl rfl (hon 5 rfl) (by rw [hN]; decide) rfl rfl
      exact run_pick_b rfl (eval_of e107) (fun hc_ => by have e117 := StAt.pure_ h hk (j := 15) (t := 117) rfl rfl (hon 15 rfl) (by rw [hN]; decide) rfl (by first | exact hC | (revert hC; simp; done) | (revert hC hc_; simp; done) | (revert hC hc_; simp; done) | (revert hC; simp; done) | (revert hC hc_; simp +contextual; done)); exact eval_of e117) (fun hc_ => by exact rfl)
    refine steps_cons ?_ ?_
    · refine step_pure (i := 17) (t := 119) hk rfl rfl rfl rfl rfl rfl (gd_none rfl) (fun hC V G f b a w h hon hoff => ?_)
      have e118 := StAt.pure_ h hk (j := 16) (t := 118) rfl rfl (hon 16 rfl) (by rw [hN]; decide) rfl rfl
      go_simp; (try rfl)
    refine steps_cons ?_ ?_
    · refine step_pure (i := 18) (t := 120) hk rfl rfl rfl rfl rfl rfl (gd_some (g := 17) (tg := 119) hk (by rw [hN]; decide) rfl rfl rfl rfl rfl rfl rfl) (fun hC V G f b a w h hon hoff => ?_)
      have e19 := (h.keep (t := 19) rfl).trans E19
      obtain ⟨o_, ho_, hc_⟩ := StAt.old_ h 3 rfl
      obtain rfl : o_ = _ := hc_
      exact run_load_agg rfl e19 ho_ Tryd.underlying24 rfl (by kernel_rfl)
    refine steps_cons ?_ ?_
    · refine step_call (s := .pure (true && ((bif (r16_0 == r1_0 && (r16_1 == r1_1 && (r16_2 == r1_2))) then (r17_0 == r18_0 && (r17_1 == r18_1 && (r17_2 == r18_2))) else false) == true)) (.agg #[.int .i64 r19_0, .int .i64 r19_1, .int .i64 r19_2])) (C := (true && ((bif (r16_0 == r1_0 && (r16_1 == r1_1 && (r16_2 == r1_2))) then (r17_0 == r18_0 && (r17_1 == r18_1 && (r17_2 == r18_2))) else false) == true))) (i := 19) (t := 121) hk rfl rfl rfl rfl rfl rfl (gd_some (g := 17) (tg := 119) hk (by rw [hN]; decide) rfl rfl rfl rfl rfl rfl rfl) rfl Tryd.func17 (by kernel_rfl) rfl rfl (fun hC V G f b a w h hon => ?_)
      refine ⟨#[], by simp [Act.eval], (vec_Most.calls (w := w) (h := q19 hC)).mono (fun e w' h9 => ⟨_, h9.1, h9.2, rfl⟩)⟩
    refine steps_cons ?_ ?_
    · refine step_call (s := .pure (true && ((bif (r16_0 == r1_0 && (r16_1 == r1_1 && (r16_2 == r1_2))) then (r17_0 == r18_0 && (r17_1 == r18_1 && (r17_2 == r18_2))) else false) == true)) (.bool r20)) (C := (true && ((bif (r16_0 == r1_0 && (r16_1 == r1_1 && (r16_2 == r1_2))) then (r17_0 == r18_0 && (r17_1 == r18_1 && (r17_2 == r18_2))) else false) == true))) (i := 20) (t := 122) hk rfl rfl rfl rfl rfl rfl (gd_some (g := 17) (tg := 119) hk (by rw [hN]; decide) rfl rfl rfl rfl rfl rfl rfl) rfl Tryd.func14 (by kernel_rfl) rfl rfl (fun hC V G f b a w h hon => ?_)
      have e120 := StAt.pure_ h hk (j := 18) (t := 120) rfl rfl (hon 18 rfl) (by rw [hN]; decide) rfl hC
      have e121 := StAt.pure_ h hk (j := 19) (t := 121) rfl rfl (hon 19 rfl) (by rw [hN]; decide) rfl hC
      refine ⟨#[.agg #[.int .i64 r1_0, .int .i64 r1_1, .int .i64 r1_2], .agg #[.int .i64 r19_0, .int .i64 r19_1, .int .i64 r19_2]], by simp [Act.eval, e120, e121], (vec_Le.calls (w := w) (h := q20 hC)).mono (fun e w' h9 => ⟨_, h9.1, h9.2, rfl⟩)⟩
    refine steps_cons ?_ ?_
    · refine step_pure (i := 21) (t := 123) hk rfl rfl rfl rfl rfl rfl (gd_none rfl) (fun hC V G f b a w h hon hoff => ?_)
      have e119 := StAt.pure_ h hk (j := 17) (t := 119) rfl rfl (hon 17 rfl) (by rw [hN]; decide) rfl rfl
      exact run_pick_b rfl (eval_of e119) (fun hc_ => by have e122 := StAt.pure_ h hk (j := 20) (t := 122) rfl rfl (hon 20 rfl) (by rw [hN]; decide) rfl (by first | exact hC | (revert hC; simp; done) | (revert hC hc_; simp; done) | (revert hC hc_; simp; done) | (revert hC; simp; done) | (revert hC hc_; simp +contextual; done)); exact eval_of e122) (fun hc_ => by exact rfl)
    refine steps_cons ?_ ?_
    · refine step_pure (i := 22) (t := 124) hk rfl rfl rfl rfl rfl rfl (gd_none rfl) (fun hC V G f b a w h hon hoff => ?_)
      have e123 := StAt.pure_ h hk (j := 21) (t := 123) rfl rfl (hon 21 rfl) (by rw [hN]; decide) rfl rfl
      go_simp; (try rfl)
    refine steps_cons ?_ ?_
    · refine step_call (s := .pure (true && ((bif (bif (r16_0 == r1_0 && (r16_1 == r1_1 && (r16_2 == r1_2))) then (r17_0 == r18_0 && (r17_1 == r18_1 && (r17_2 == r18_2))) else false) then r20 else false) == true)) (.bool r21)) (C := (true && ((bif (bif (r16_0 == r1_0 && (r16_1 == r1_1 && (r16_2 == r1_2))) then (r17_0 == r18_0 && (r17_1 == r18_1 && (r17_2 == r18_2))) else false) then r20 else false) == true))) (i := 23) (t := 125) hk rfl rfl rfl rfl rfl rfl (gd_some (g := 22) (tg := 124) hk (by rw [hN]; decide) rfl rfl rfl rfl rfl rfl rfl) rfl Tryd.func15 (by kernel_rfl) rfl rfl (fun hC V G f b a w h hon => ?_)
      refine ⟨#[], by simp [Act.eval], (doorkeeperlaw10_awake.calls (hT_ := LT_below hT (h.below)) (w := w) (h := q21 hC)).mono (fun e w' h9 => ⟨_, h9.1, h9.2, rfl⟩)⟩
    refine steps_cons ?_ ?_
    · refine step_pure (i := 24) (t := 126) hk rfl rfl rfl rfl rfl rfl (gd_none rfl) (fun hC V G f b a w h hon hoff => ?_)
      have e124 := StAt.pure_ h hk (j := 22) (t := 124) rfl rfl (hon 22 rfl) (by rw [hN]; decide) rfl rfl
      exact run_pick_b rfl (eval_of e124) (fun hc_ => by have e125 := StAt.pure_ h hk (j := 23) (t := 125) rfl rfl (hon 23 rfl) (by rw [hN]; decide) rfl (by first | exact hC | (revert hC; simp; done) | (revert hC hc_; simp; done) | (revert hC hc_; cases r20 <;> simp; done) | (revert hC; cases r20 <;> simp; done) | (revert hC hc_; cases r20 <;> simp +contextual; done)); exact eval_of e125) (fun hc_ => by exact rfl)
    refine steps_cons ?_ ?_
    · refine step_pure (i := 25) (t := 18) hk rfl rfl rfl rfl rfl rfl (gd_none rfl) (fun hC V G f b a w h hon hoff => ?_)
      have e126 := StAt.pure_ h hk (j := 24) (t := 126) rfl rfl (hon 24 rfl) (by rw [hN]; decide) rfl rfl
      go_simp; (try rfl)
    exact steps_nil
  · rintro b a w' hb ⟨V, G, f, h⟩
    exact K a w' f (h.size.1.trans hN) (h.size.2.trans hD) (WS.old h 0 rfl (WS.old h 1 rfl (WS.old h 2 rfl (WS.old h 3 rfl (WS.nil h))))) (StAt.pure_ h hk (j := 25) (t := 18) rfl rfl (hb 25 (by decide)) (by rw [hN]; decide) rfl rfl)
set_option maxRecDepth 100000 in
theorem doorkeeperlaw10_VecOrder.flow (p0 : Int) (p1 : Int) (p2 : Int) (p3 : Int) (p4 : Int) (p5 : Int) (p6 : Int) (p7 : Int) (p8 : Int) (r1_0 : Int) (r1_1 : Int) (r1_2 : Int) (r2_0 : Int) (r2_1 : Int) (r2_2 : Int) (r3_0 : Int) (r3_1 : Int) (r3_2 : Int) (r4_0 : Int) (r4_1 : Int) (r4_2 : Int) (k4 : Nat) (r5 : Bool) (r6 : Bool) (r7 : Bool) (r8 : Bool) (r9 : Bool) (r10 : Bool) (r11 : Bool) (r12 : Bool) (r13 : Bool) (r14 : Bool) (r15 : Bool) (r16_0 : Int) (r16_1 : Int) (r16_2 : Int) (k16 : Nat) (r17_0 : Int) (r17_1 : Int) (r17_2 : Int) (k17 : Nat) (r18_0 : Int) (r18_1 : Int) (r18_2 : Int) (k18 : Nat) (r19_0 : Int) (r19_1 : Int) (r19_2 : Int) (r20 : Bool) (r21 : Bool) (k21 : Nat) (w : World) (hT : LT_ w) (q1 : true = true → doorkeeperlaw10_Make.f p0 p1 p2 = some (r1_0, r1_1, r1_2))
    (q2 : true = true → doorkeeperlaw10_Make.f p3 p4 p5 = some (r2_0, r2_1, r2_2))
    (q3 : true = true → doorkeeperlaw10_Make.f p6 p7 p8 = some (r3_0, r3_1, r3_2))
    (q4 : true = true → vec_Max.f k4 ([(⟨r1_0, r1_1, r1_2⟩ : S24), (⟨r2_0, r2_1, r2_2⟩ : S24)] : List (S24)) = some (r4_0, r4_1, r4_2))
    (q5 : true = true → vec_Le.f r1_0 r1_1 r1_2 r1_0 r1_1 r1_2 = some r5)
    (q6 : (true && ((!r5) == false)) = true → vec_Le.f r1_0 r1_1 r1_2 r4_0 r4_1 r4_2 = some r6)
    (q7 : (true && ((bif (!r5) then true else (!r6)) == false)) = true → vec_Le.f r2_0 r2_1 r2_2 r4_0 r4_1 r4_2 = some r7)
    (q8 : (true && ((bif (bif (!r5) then true else (!r6)) then true else (!r7)) == false)) = true → vec_Le.f r1_0 r1_1 r1_2 r2_0 r2_1 r2_2 = some r8)
    (q9 : ((true && ((bif (bif (!r5) then true else (!r6)) then true else (!r7)) == false)) && (r8 == true)) = true → vec_Le.f r2_0 r2_1 r2_2 r1_0 r1_1 r1_2 = some r9)
    (q10 : (true && ((bif (bif (bif (!r5) then true else (!r6)) then true else (!r7)) then true else (bif (bif r8 then r9 else false) then (!(r1_0 == r2_0) || (!(r1_1 == r2_1) || (!(r1_2 == r2_2)))) else false)) == false)) = true → vec_Le.f r1_0 r1_1 r1_2 r2_0 r2_1 r2_2 = some r10)
    (q11 : ((true && ((bif (bif (bif (!r5) then true else (!r6)) then true else (!r7)) then true else (bif (bif r8 then r9 else false) then (!(r1_0 == r2_0) || (!(r1_1 == r2_1) || (!(r1_2 == r2_2)))) else false)) == false)) && (r10 == true)) = true → vec_Le.f r2_0 r2_1 r2_2 r3_0 r3_1 r3_2 = some r11)
    (q12 : ((true && ((bif (bif (bif (!r5) then true else (!r6)) then true else (!r7)) then true else (bif (bif r8 then r9 else false) then (!(r1_0 == r2_0) || (!(r1_1 == r2_1) || (!(r1_2 == r2_2)))) else false)) == false)) && ((bif r10 then r11 else false) == true)) = true → vec_Le.f r1_0 r1_1 r1_2 r3_0 r3_1 r3_2 = some r12)
    (q13 : (true && ((bif (bif (bif (bif (!r5) then true else (!r6)) then true else (!r7)) then true else (bif (bif r8 then r9 else false) then (!(r1_0 == r2_0) || (!(r1_1 == r2_1) || (!(r1_2 == r2_2)))) else false)) then true else (bif (bif r10 then r11 else false) then (!r12) else false)) == false)) = true → vec_Le.f r1_0 r1_1 r1_2 r3_0 r3_1 r3_2 = some r13)
    (q14 : ((true && ((bif (bif (bif (bif (!r5) then true else (!r6)) then true else (!r7)) then true else (bif (bif r8 then r9 else false) then (!(r1_0 == r2_0) || (!(r1_1 == r2_1) || (!(r1_2 == r2_2)))) else false)) then true else (bif (bif r10 then r11 else false) then (!r12) else false)) == false)) && (r13 == true)) = true → vec_Le.f r2_0 r2_1 r2_2 r3_0 r3_1 r3_2 = some r14)
    (q15 : ((true && ((bif (bif (bif (bif (!r5) then true else (!r6)) then true else (!r7)) then true else (bif (bif r8 then r9 else false) then (!(r1_0 == r2_0) || (!(r1_1 == r2_1) || (!(r1_2 == r2_2)))) else false)) then true else (bif (bif r10 then r11 else false) then (!r12) else false)) == false)) && ((bif r13 then r14 else false) == true)) = true → vec_Le.f r4_0 r4_1 r4_2 r3_0 r3_1 r3_2 = some r15)
    (q16 : true = true → vec_Max.f k16 ([(⟨r1_0, r1_1, r1_2⟩ : S24)] : List (S24)) = some (r16_0, r16_1, r16_2))
    (q17 : (true && ((r16_0 == r1_0 && (r16_1 == r1_1 && (r16_2 == r1_2))) == true)) = true → vec_Max.f k17 ([(⟨r1_0, r1_1, r1_2⟩ : S24), (⟨r2_0, r2_1, r2_2⟩ : S24), (⟨r3_0, r3_1, r3_2⟩ : S24)] : List (S24)) = some (r17_0, r17_1, r17_2))
    (q18 : (true && ((r16_0 == r1_0 && (r16_1 == r1_1 && (r16_2 == r1_2))) == true)) = true → vec_Max.f k18 ([(⟨r3_0, r3_1, r3_2⟩ : S24), (⟨r4_0, r4_1, r4_2⟩ : S24)] : List (S24)) = some (r18_0, r18_1, r18_2))
    (q19 : (true && ((bif (r16_0 == r1_0 && (r16_1 == r1_1 && (r16_2 == r1_2))) then (r17_0 == r18_0 && (r17_1 == r18_1 && (r17_2 == r18_2))) else false) == true)) = true → vec_Most.f  = some (r19_0, r19_1, r19_2))
    (q20 : (true && ((bif (r16_0 == r1_0 && (r16_1 == r1_1 && (r16_2 == r1_2))) then (r17_0 == r18_0 && (r17_1 == r18_1 && (r17_2 == r18_2))) else false) == true)) = true → vec_Le.f r1_0 r1_1 r1_2 r19_0 r19_1 r19_2 = some r20)
    (q21 : (true && ((bif (bif (r16_0 == r1_0 && (r16_1 == r1_1 && (r16_2 == r1_2))) then (r17_0 == r18_0 && (r17_1 == r18_1 && (r17_2 == r18_2))) else false) then r20 else false) == true)) = true → doorkeeperlaw10_awake.f k21  = some r21)
    (hc0 : (bif (bif (bif (bif (bif (!r5) then true else (!r6)) then true else (!r7)) then true else (bif (bif r8 then r9 else false) then (!(r1_0 == r2_0) || (!(r1_1 == r2_1) || (!(r1_2 == r2_2)))) else false)) then true else (bif (bif r10 then r11 else false) then (!r12) else false)) then true else (bif (bif r13 then r14 else false) then (!r15) else false)) = false)
    (hr : (bif (bif (bif (r16_0 == r1_0 && (r16_1 == r1_1 && (r16_2 == r1_2))) then (r17_0 == r18_0 && (r17_1 == r18_1 && (r17_2 == r18_2))) else false) then r20 else false) then r21 else false) = true) :
    Calls Tryd.prog 4 #[.int .u16 p0, .int .u16 p1, .int .u16 p2, .int .u16 p3, .int .u16 p4, .int .u16 p5, .int .u16 p6, .int .u16 p7, .int .u16 p8] w fun e w' => e = .returned (.bool true) ∧ Below w.heap.size w w' := by
  go_enter Tryd.func4, Tryd.ntmps4
  have ws := WS.enter w
  have hD : (⟨#[.int .u16 p0, .int .u16 p1, .int .u16 p2, .int .u16 p3, .int .u16 p4, .int .u16 p5, .int .u16 p6, .int .u16 p7, .int .u16 p8, undef, undef, undef, undef, undef, undef, undef, undef, undef, undef, undef, undef, undef, undef, undef, undef, undef, undef, undef, undef, undef, undef, undef, undef, undef, undef, undef, undef, undef, undef, undef, undef, undef, undef, undef, undef, undef, undef, undef, undef, undef, undef, undef, undef, undef, undef, undef, undef, undef, undef, undef, undef, undef, undef, undef, undef, undef, undef, undef, undef, undef, undef, undef, undef, undef, undef, undef, undef, undef, undef, undef, undef, undef, undef, undef, undef, undef, undef, undef, undef, undef, undef, undef, undef, undef, undef, undef, undef, undef, undef, undef, undef, undef, undef, undef, undef, undef, undef, undef, undef, undef, undef, undef, undef, undef, undef, undef, undef, undef, undef, undef, undef, undef, undef, undef, undef, undef, undef], []⟩ : Act).defers = [] := rfl
  have hN : (#[.int .u16 p0, .int .u16 p1, .int .u16 p2, .int .u16 p3, .int .u16 p4, .int .u16 p5, .int .u16 p6, .int .u16 p7, .int .u16 p8, undef, undef, undef, undef, undef, undef, undef, undef, undef, undef, undef, undef, undef, undef, undef, undef, undef, undef, undef, undef, undef, undef, undef, undef, undef, undef, undef, undef, undef, undef, undef, undef, undef, undef, undef, undef, undef, undef, undef, undef, undef, undef, undef, undef, undef, undef, undef, undef, undef, undef, undef, undef, undef, undef, undef, undef, undef, undef, undef, undef, undef, undef, undef, undef, undef, undef, undef, undef, undef, undef, undef, undef, undef, undef, undef, undef, undef, undef, undef, undef, undef, undef, undef, undef, undef, undef, undef, undef, undef, undef, undef, undef, undef, undef, undef, undef, undef, undef, undef, undef, undef, undef, undef, undef, undef, undef, undef, undef, undef, undef, undef, undef, undef, undef, undef, undef, undef, undef] : Array Value).size = 127 := rfl
  have E0 : (⟨#[.int .u16 p0, .int .u16 p1, .int .u16 p2, .int .u16 p3, .int .u16 p4, .int .u16 p5, .int .u16 p6, .int .u16 p7, .int .u16 p8, undef, undef, undef, undef, undef, undef, undef, undef, undef, undef, undef, undef, undef, undef, undef, undef, undef, undef, undef, undef, undef, undef, undef, undef, undef, undef, undef, undef, undef, undef, undef, undef, undef, undef, undef, undef, undef, undef, undef, undef, undef, undef, undef, undef, undef, undef, undef, undef, undef, undef, undef, undef, undef, undef, undef, undef, undef, undef, undef, undef, undef, undef, undef, undef, undef, undef, undef, undef, undef, undef, undef, undef, undef, undef, undef, undef, undef, undef, undef, undef, undef, undef, undef, undef, undef, undef, undef, undef, undef, undef, undef, undef, undef, undef, undef, undef, undef, undef, undef, undef, undef, undef, undef, undef, undef, undef, undef, undef, undef, undef, undef, undef, undef, undef, undef, undef, undef, undef], []⟩ : Act).tmps[0]? = some (.int .u16 p0) := rfl
  have E1 : (⟨#[.int .u16 p0, .int .u16 p1, .int .u16 p2, .int .u16 p3, .int .u16 p4, .int .u16 p5, .int .u16 p6, .int .u16 p7, .int .u16 p8, undef, undef, undef, undef, undef, undef, undef, undef, undef, undef, undef, undef, undef, undef, undef, undef, undef, undef, undef, undef, undef, undef, undef, undef, undef, undef, undef, undef, undef, undef, undef, undef, undef, undef, undef, undef, undef, undef, undef, undef, undef, undef, undef, undef, undef, undef, undef, undef, undef, undef, undef, undef, undef, undef, undef, undef, undef, undef, undef, undef, undef, undef, undef, undef, undef, undef, undef, undef, undef, undef, undef, undef, undef, undef, undef, undef, undef, undef, undef, undef, undef, undef, undef, undef, undef, undef, undef, undef, undef, undef, undef, undef, undef, undef, undef, undef, undef, undef, undef, undef, undef, undef, undef, undef, undef, undef, undef, undef, undef, undef, undef, undef, undef, undef, undef, undef, undef, undef], []⟩ : Act).tmps[1]? = some (.int .u16 p1) := rfl
  have E2 : (⟨#[.int .u16 p0, .int .u16 p1, .int .u16 p2, .int .u16 p3, .int .u16 p4, .int .u16 p5, .int .u16 p6, .int .u16 p7, .int .u16 p8, undef, undef, undef, undef, undef, undef, undef, undef, undef, undef, undef, undef, undef, undef, undef, undef, undef, undef, undef, undef, undef, undef, undef, undef, undef, undef, undef, undef, undef, undef, undef, undef, undef, undef, undef, undef, undef, undef, undef, undef, undef, undef, undef, undef, undef, undef, undef, undef, undef, undef, undef, undef, undef, undef, undef, undef, undef, undef, undef, undef, undef, undef, undef, undef, undef, undef, undef, undef, undef, undef, undef, undef, undef, undef, undef, undef, undef, undef, undef, undef, undef, undef, undef, undef, undef, undef, undef, undef, undef, undef, undef, undef, undef, undef, undef, undef, undef, undef, undef, undef, undef, undef, undef, undef, undef, undef, undef, undef, undef, undef, undef, undef, undef, undef, undef, undef, undef, undef], []⟩ : Act).tmps[2]? = some (.int .u16 p2) := rfl
  have E3 : (⟨#[.int .u16 p0, .int .u16 p1, .int .u16 p2, .int .u16 p3, .int .u16 p4, .int .u16 p5, .int .u16 p6, .int .u16 p7, .int .u16 p8, undef, undef, undef, undef, undef, undef, undef, undef, undef, undef, undef, undef, undef, undef, undef, undef, undef, undef, undef, undef, undef, undef, undef, undef, undef, undef, undef, undef, undef, undef, undef, undef, undef, undef, undef, undef, undef, undef, undef, undef, undef, undef, undef, undef, undef, undef, undef, undef, undef, undef, undef, undef, undef, undef, undef, undef, undef, undef, undef, undef, undef, undef, undef, undef, undef, undef, undef, undef, undef, undef, undef, undef, undef, undef, undef, undef, undef, undef, undef, undef, undef, undef, undef, undef, undef, undef, undef, undef, undef, undef, undef, undef, undef, undef, undef, undef, undef, undef, undef, undef, undef, undef, undef, undef, undef, undef, undef, undef, undef, undef, undef, undef, undef, undef, undef, undef, undef, undef], []⟩ : Act).tmps[3]? = some (.int .u16 p3) := rfl
  have E4 : (⟨#[.int .u16 p0, .int .u16 p1, .int .u16 p2, .int .u16 p3, .int .u16 p4, .int .u16 p5, .int .u16 p6, .int .u16 p7, .int .u16 p8, undef, undef, undef, undef, undef, undef, undef, undef, undef, undef, undef, undef, undef, undef, undef, undef, undef, undef, undef, undef, undef, undef, undef, undef, undef, undef, undef, undef, undef, undef, undef, undef, undef, undef, undef, undef, undef, undef, undef, undef, undef, undef, undef, undef, undef, undef, undef, undef, undef, undef, undef, undef, undef, undef, undef, undef, undef, undef, undef, undef, undef, undef, undef, undef, undef, undef, undef, undef, undef, undef, undef, undef, undef, undef, undef, undef, undef, undef, undef, undef, undef, undef, undef, undef, undef, undef, undef, undef, undef, undef, undef, undef, undef, undef, undef, undef, undef, undef, undef, undef, undef, undef, undef, undef, undef, undef, undef, undef, undef, undef, undef, undef, undef, undef, undef, undef, undef, undef], []⟩ : Act).tmps[4]? = some (.int .u16 p4) := rfl
  have E5 : (⟨#[.int .u16 p0, .int .u16 p1, .int .u16 p2, .int .u16 p3, .int .u16 p4, .int .u16 p5, .int .u16 p6, .int .u16 p7, .int .u16 p8, undef, undef, undef, undef, undef, undef, undef, undef, undef, undef, undef, undef, undef, undef, undef, undef, undef, undef, undef, undef, undef, undef, undef, undef, undef, undef, undef, undef, undef, undef, undef, undef, undef, undef, undef, undef, undef, undef, undef, undef, undef, undef, undef, undef, undef, undef, undef, undef, undef, undef, undef, undef, undef, undef, undef, undef, undef, undef, undef, undef, undef, undef, undef, undef, undef, undef, undef, undef, undef, undef, undef, undef, undef, undef, undef, undef, undef, undef, undef, undef, undef, undef, undef, undef, undef, undef, undef, undef, undef, undef, undef, undef, undef, undef, undef, undef, undef, undef, undef, undef, undef, undef, undef, undef, undef, undef, undef, undef, undef, undef, undef, undef, undef, undef, undef, undef, undef, undef], []⟩ : Act).tmps[5]? = some (.int .u16 p5) := rfl
  have E6 : (⟨#[.int .u16 p0, .int .u16 p1, .int .u16 p2, .int .u16 p3, .int .u16 p4, .int .u16 p5, .int .u16 p6, .int .u16 p7, .int .u16 p8, undef, undef, undef, undef, undef, undef, undef, undef, undef, undef, undef, undef, undef, undef, undef, undef, undef, undef, undef, undef, undef, undef, undef, undef, undef, undef, undef, undef, undef, undef, undef, undef, undef, undef, undef, undef, undef, undef, undef, undef, undef, undef, undef, undef, undef, undef, undef, undef, undef, undef, undef, undef, undef, undef, undef, undef, undef, undef, undef, undef, undef, undef, undef, undef, undef, undef, undef, undef, undef, undef, undef, undef, undef, undef, undef, undef, undef, undef, undef, undef, undef, undef, undef, undef, undef, undef, undef, undef, undef, undef, undef, undef, undef, undef, undef, undef, undef, undef, undef, undef, undef, undef, undef, undef, undef, undef, undef, undef, undef, undef, undef, undef, undef, undef, undef, undef, undef, undef], []⟩ : Act).tmps[6]? = some (.int .u16 p6) := rfl
  have E7 : (⟨#[.int .u16 p0, .int .u16 p1, .int .u16 p2, .int .u16 p3, .int .u16 p4, .int .u16 p5, .int .u16 p6, .int .u16 p7, .int .u16 p8, undef, undef, undef, undef, undef, undef, undef, undef, undef, undef, undef, undef, undef, undef, undef, undef, undef, undef, undef, undef, undef, undef, undef, undef, undef, undef, undef, undef, undef, undef, undef, undef, undef, undef, undef, undef, undef, undef, undef, undef, undef, undef, undef, undef, undef, undef, undef, undef, undef, undef, undef, undef, undef, undef, undef, undef, undef, undef, undef, undef, undef, undef, undef, undef, undef, undef, undef, undef, undef, undef, undef, undef, undef, undef, undef, undef, undef, undef, undef, undef, undef, undef, undef, undef, undef, undef, undef, undef, undef, undef, undef, undef, undef, undef, undef, undef, undef, undef, undef, undef, undef, undef, undef, undef, undef, undef, undef, undef, undef, undef, undef, undef, undef, undef, undef, undef, undef, undef], []⟩ : Act).tmps[7]? = some (.int .u16 p7) := rfl
  have E8 : (⟨#[.int .u16 p0, .int .u16 p1, .int .u16 p2, .int .u16 p3, .int .u16 p4, .int .u16 p5, .int .u16 p6, .int .u16 p7, .int .u16 p8, undef, undef, undef, undef, undef, undef, undef, undef, undef, undef, undef, undef, undef, undef, undef, undef, undef, undef, undef, undef, undef, undef, undef, undef, undef, undef, undef, undef, undef, undef, undef, undef, undef, undef, undef, undef, undef, undef, undef, undef, undef, undef, undef, undef, undef, undef, undef, undef, undef, undef, undef, undef, undef, undef, undef, undef, undef, undef, undef, undef, undef, undef, undef, undef, undef, undef, undef, undef, undef, undef, undef, undef, undef, undef, undef, undef, undef, undef, undef, undef, undef, undef, undef, undef, undef, undef, undef, undef, undef, undef, undef, undef, undef, undef, undef, undef, undef, undef, undef, undef, undef, undef, undef, undef, undef, undef, undef, undef, undef, undef, undef, undef, undef, undef, undef, undef, undef, undef], []⟩ : Act).tmps[8]? = some (.int .u16 p8) := rfl
  refine wp_seq ?_
  refine doorkeeperlaw10_VecOrder.reg0 p0 p1 p2 p3 p4 p5 p6 p7 p8 hN hD ws E0 E1 E2 E3 E4 E5 E6 E7 E8 ?_
  intro a w f hN hD ws E0 E1 E2 E3 E4 E5 E6 E7 E8 E18
  show Code.wp _ _ _ _ _
  refine wp_seq ?_
  refine doorkeeperlaw10_VecOrder.reg1 p0 p1 p2 p3 p4 p5 p6 p7 p8 r1_0 r1_1 r1_2 r2_0 r2_1 r2_2 r3_0 r3_1 r3_2 hN hD ws E0 E1 E2 E3 E4 E5 E6 E7 E8 E18 q1 q2 q3 ?_
  intro a w f g19 g20 g21 hN hD ws E18 E19 E20 E21
  show Code.wp _ _ _ _ _
  refine wp_seq ?_
  refine doorkeeperlaw10_VecOrder.reg2 r1_0 r1_1 r1_2 r2_0 r2_1 r2_2 r3_0 r3_1 r3_2 r4_0 r4_1 r4_2 k4 g21 g20 g19 hN hD ws E18 E19 E20 E21 q4 ?_
  intro a w f g22 hN hD ws E18 E19 E20 E21 E22
  show Code.wp _ _ _ _ _
  refine wp_seq ?_
  refine wp_seq ?_
  refine doorkeeperlaw10_VecOrder.reg3 r1_0 r1_1 r1_2 r2_0 r2_1 r2_2 r3_0 r3_1 r3_2 r4_0 r4_1 r4_2 r5 r6 r7 r8 r9 r10 r11 r12 r13 r14 r15 g22 g21 g20 g19 hN hD ws E18 E19 E20 E21 E22 q5 q6 q7 q8 q9 q10 q11 q12 q13 q14 q15 ?_
  intro a w f hN hD ws E18 E19 E20 E21 E22 E101
  show Code.wp _ _ _ _ _
  refine wp_cond_false (by rw [← hc0]; exact eval_of E101) ?_
  refine wp_skip ?_
  show Code.wp _ _ _ _ _
  refine wp_seq ?_
  refine doorkeeperlaw10_VecOrder.reg5 r1_0 r1_1 r1_2 r2_0 r2_1 r2_2 r3_0 r3_1 r3_2 r4_0 r4_1 r4_2 r16_0 r16_1 r16_2 k16 r17_0 r17_1 r17_2 k17 r18_0 r18_1 r18_2 k18 r19_0 r19_1 r19_2 r20 r21 k21 g22 g21 g20 g19 hN hD ws hT E19 E20 E21 E22 q16 q17 q18 q19 q20 q21 ?_
  intro a w f hN hD ws E18
  show Code.wp _ _ _ _ _
  refine wp_ret ?_
  rw [hr] at E18
  exact bodyPost_ret (results_slot rfl E18) hD ⟨rfl, ws.below⟩
end Go.Proofs.YtebflncfgjnkkaaDoor.X

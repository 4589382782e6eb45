/- FLOW, fifth part: what holds between regions; the ends. -/
import Derived.Test.YtebflncfgjnkkaaDoorXFlow4
namespace Go.Proofs.YtebflncfgjnkkaaDoorW.Flow
open Go.RowKit Go.Proofs.YtebflncfgjnkkaaDoorW.PrintWords Go.Proofs.YtebflncfgjnkkaaDoorW.PrintLast
/-- Between regions: what is frozen, and what the variables hold. -/
structure WS (w0 : World) (f : Fz) (bs : List (Nat × Ct)) (w : World) : Prop where
  holds : Holds f w
  below : Below w0.heap.size w0 w
  box : ∀ p ∈ bs, f p.1 = none ∧ (∃ o, w.heap[p.1]? = some o ∧ p.2.R o f) ∧ w0.heap.size ≤ p.1
theorem WS.enter (w : World) : WS w (fun k => w.heap[k]?) [] w := ⟨fun _ _ h => h, Below.refl _ _, fun _ h => by cases h⟩
section
variable {a0 : Act} {w0 : World} {f0 f : Fz} {es : List (Nat × Tmp)} {al bx : List (Nat × Bx)} {sps : List Sp} {bs : List (Nat × Ct)} {w : World} {V : Nat → Value} {G : Nat → Nat} {b : Nat → Bool} {a : Act}
theorem WS.start (h : WS w0 f0 bs w) : St a0 w0 f0 es al (bs.map fun p => (p.1, ⟨p.2, none⟩)) sps (fun _ => false) a0 w := by
  refine ⟨fun _ => undef, fun _ => 0, f0, ?_, Fz.le_refl _, h.holds, h.below, ?_, fun i _ hb => (by cases hb), fun i _ hb => (by cases hb), fun e _ _ hb => (by cases hb)⟩
  · have : ∀ (l : List (Nat × Tmp × Value)) (a : Act), putSel a (fun _ => false) l = a := by
      intro l
      induction l with
      | nil => intro a; rfl
      | cons e l ih => intro a; unfold putSel; simp [ih]
    rw [this]
  · intro p hp
    rw [List.map_map] at hp
    obtain ⟨q, hq, rfl⟩ := List.mem_map.1 hp
    exact h.box q hq
theorem WS.drew (h : WS w0 f0 bs w) : WS w0 f0 bs w.drew := ⟨fun k o hk => h.holds k o hk, below_drew1 h.below, fun p hp => h.box p hp⟩
theorem WS.nil (h : StAt a0 w0 f0 es al bx sps V G f b a w) : WS w0 f [] w := ⟨h.holds, h.below, fun _ h => by cases h⟩
theorem WS.old (h : StAt a0 w0 f0 es al bx sps V G f b a w) (k : Nat) {g : Nat} {c : Ct} (hx : bx[k]? = some (g, ⟨c, none⟩)) (ws : WS w0 f bs w) : WS w0 f ((g, c) :: bs) w := by
  refine ⟨ws.holds, ws.below, fun p hp => ?_⟩
  rcases List.mem_cons.1 hp with rfl | hp
  · have := h.old (g, fun b => ((⟨c, none⟩ : Bx).at_ b).R) (List.mem_map.2 ⟨_, List.mem_of_getElem? hx, rfl⟩)
    exact this
  · exact ws.box p hp
theorem WS.new (h : StAt a0 w0 f0 es al bx sps V G f b a w) {i s : Nat} {c0 c1 : Ct} (hA : (al.map (·.1)).contains i = true) (hb : b i = true) (hx : lk al i = ⟨c0, some (s, c1)⟩) (hs : b s = true) (ws : WS w0 f bs w) : WS w0 f ((G i, c1) :: bs) w := by
  refine ⟨ws.holds, ws.below, fun p hp => ?_⟩
  rcases List.mem_cons.1 hp with rfl | hp
  · obtain ⟨_, h2, ⟨o, h3, h4⟩, h5⟩ := h.new i (List.contains_iff_mem.1 hA) hb
    refine ⟨h2, ⟨o, h3, ?_⟩, h5⟩
    rw [hx] at h4
    simpa [Bx.at_, hs] using h4
  · exact ws.box p hp
theorem WS.made (h : StAt a0 w0 f0 es al bx sps V G f b a w) {i : Nat} {c0 : Ct} (hA : (al.map (·.1)).contains i = true) (hb : b i = true) (hx : lk al i = ⟨c0, none⟩) (ws : WS w0 f bs w) : WS w0 f ((G i, c0) :: bs) w := by
  refine ⟨ws.holds, ws.below, fun p hp => ?_⟩
  rcases List.mem_cons.1 hp with rfl | hp
  · obtain ⟨_, h2, ⟨o, h3, h4⟩, h5⟩ := h.new i (List.contains_iff_mem.1 hA) hb
    refine ⟨h2, ⟨o, h3, ?_⟩, h5⟩
    rw [hx] at h4
    exact h4
  · exact ws.box p hp
end
section
variable {P : Program} {a : Act} {w : World}
theorem results_slot {fn : Func} {t : Tmp} {v : Value} (h : fn.results = #[.tmp t]) (e : a.tmps[t]? = some v) : (results fn a.tmps).run P w = .ok v w := by
  rw [results_tmp h]
  simp [Array.getD_eq_getD_getElem?, e]
theorem run_pick_b {oi : Oper} {c x y : Operand} {cb bx by' : Bool} (hop : oi.op = .pick c x y) (hc : a.eval c = .bool cb) (hx : cb = true → a.eval x = .bool bx) (hy : cb = false → a.eval y = .bool by') : (execOp a.eval oi).run P w = .ok (.value (.bool (bif cb then bx else by'))) w := by
  unfold execOp
  rw [hop]
  cases cb
  · simp [hc, hy rfl, asBool]
  · simp [hc, hx rfl, asBool]
end
end Go.Proofs.YtebflncfgjnkkaaDoorW.Flow

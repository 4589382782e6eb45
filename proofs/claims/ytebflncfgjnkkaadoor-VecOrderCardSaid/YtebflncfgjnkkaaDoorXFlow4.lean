/- FLOW, fourth part: variables that are made and written; loads; rows that are written out; what calls have made is frozen. -/
import Derived.Test.YtebflncfgjnkkaaDoorXFlow3
namespace Go.Proofs.YtebflncfgjnkkaaDoorW.Flow
open Go.RowKit Go.Proofs.YtebflncfgjnkkaaDoorW.PrintWords Go.Proofs.YtebflncfgjnkkaaDoorW.PrintLast
theorem wrote_all {w : World} {g : Nat} {cs : Array Value} {ty : TypeId} {vs : List Value} (h : w.heap[g]? = some (.cells cs ty (0, 0))) (hl : vs.length = cs.size) : Wrote w (w.setCells g 0 vs) g (.cells vs.toArray ty (0, 0)) := by
  obtain ⟨h1, h2, h3, h4⟩ := setCells_same g vs 0 w
  obtain ⟨cur, h5, h6, h7⟩ := setCells_row vs 0 w cs h (by omega)
  refine ⟨h1, h2, h3, h4, fun k hk => setCells_far vs 0 k hk, ?_⟩
  rw [h5]
  have : cur = vs.toArray := by
    apply Array.toList_inj.1
    rw [h7]
    simp only [List.take_zero, List.nil_append, Nat.zero_add]
    rw [List.drop_eq_nil_of_le (by rw [Array.length_toList]; omega)]
    simp
  rw [this]
section
variable {P : Program} {ops : Array Oper} {Q : Exit → Act → World → Prop} {B O : List Nat}
variable {a0 : Act} {w0 : World} {f0 : Fz} {es : List (Nat × Tmp)} {al bx : List (Nat × Bx)} {sps : List Sp}
/-- What writes variable x waits for operation i. -/
def Bx.after (x : Bx) (O B : List Nat) (i : Nat) : Bool := match x.st with
  | none => true
  | some s => O.contains s.1 && (B.getD s.1 0).testBit i
theorem step_alloc {i t : Nat} {oi : Oper} {ty : TypeId} {cs : Array Value} {x : Bx} (hk : esOk es = true) (hi : ops[i]? = some oi) (hd : oi.dst = some t) (hg : oi.guard = none) (he : es.contains (i, t) = true) (hA : (al.map (·.1)).contains i = true) (hn : noSt al bx i = true)
    (hx : lk al i = x) (hc : x.o = .pure (.cells cs ty (0, 0))) (hst : x.after O B i = true) (hrun : ∀ (a : Act) (w : World), (execOp a.eval oi).run P w = .ok (.value (.pointer (some ⟨w.heap.size, 0, none⟩))) (w.alloc (.cells cs ty))) :
    StepAt P ops Q B O (St a0 w0 f0 es al bx sps) i := by
  simp only [noSt, Bool.and_eq_true, List.all_eq_true] at hn
  rintro b a w ⟨V, G, f, hr⟩ hb hon hoff
  refine ⟨oi, hi, fun K hK => ?_⟩
  rw [if_pos (by simp [Region.wanted, hg])]
  unfold Oper.wp
  rw [hrun]
  show K (a.put oi.dst _) _
  rw [hd]
  refine hK.out _ _ ⟨_, _, _, (hr.alloc hk (List.contains_iff_mem.1 he) hA hb (o := .cells cs ty (0, 0)) (fun j hj _ => ?_) ?_ (fun p hp => ?_)).choose_spec.choose_spec.choose_spec⟩
  · obtain ⟨q, hq, _, h2⟩ := lk_mem hj
    rw [h2, Bx.up_ (hn.1 q hq) b]
  · obtain ⟨q, hq, _, h2⟩ := lk_mem (List.contains_iff_mem.1 hA)
    have hnx : x.not i = true := by rw [← hx, h2]; exact hn.1 q hq
    rw [hx, Bx.up_ hnx b]
    have : x.at_ b = x.o := by
      unfold Bx.at_
      unfold Bx.after at hst
      cases hs : x.st with
      | none => rfl
      | some s =>
        rw [hs] at hst
        simp only [hoff s.1 hst]
        rfl
    rw [this, hc]
    rfl
  · obtain ⟨q, hq, rfl⟩ := List.mem_map.1 hp
    simp only [Bx.up_ (hn.2 q hq) b]
/-- A variable made in this region is written, whole. -/
theorem step_store {i q tp : Nat} {oi : Oper} {ty te : TypeId} {vop : Operand} {cs : Array Value} {c1 : Ct} (hk : esOk es = true) (hi : ops[i]? = some oi) (hd : oi.dst = none) (hg : oi.guard = none) (hop : oi.op = .store ty (.tmp tp) vop) (hes : (es.all fun e => !(e.1 == i)) = true)
    (hA : (al.map (·.1)).contains q = true) (hAi : (al.map (·.1)).contains i = false) (he : es.contains (q, tp) = true) (hbit : (O.contains q && (B.getD i 0).testBit q) = true) (hsz : tp < a0.tmps.size) (hx : lk al q = ⟨.pure (.cells cs te (0, 0)), some (i, c1)⟩)
    (hn : (al.all fun p => p.1 == q || p.2.not i) = true) (hn2 : (bx.all fun p => p.2.not i) = true) (hinfo : (P.info? ty).map (·.size) = some cs.size)
    (hv : ∀ V G f b a w, StAt a0 w0 f0 es al bx sps V G f b a w → (∀ j, (O.contains j && (B.getD i 0).testBit j) = true → b j = true) → ∃ u, a.eval vop = u ∧ u.cells.toList.length = cs.size ∧ (∀ x ∈ u.cells.toList, x.oneCell' = true) ∧ c1.R (.cells u.cells te (0, 0)) f) :
    StepAt P ops Q B O (St a0 w0 f0 es al bx sps) i := by
  simp only [List.all_eq_true] at hn hn2
  rintro b a w ⟨V, G, f, hr⟩ hb hon hoff
  refine ⟨oi, hi, fun K hK => ?_⟩
  rw [if_pos (by simp [Region.wanted, hg])]
  obtain ⟨u, hu, hul, h1, hc1⟩ := hv V G f b a w hr hon
  obtain ⟨hp, o, ho, hoc⟩ := StAt.box_ hr hk he hA (hon q hbit) hsz
  rw [hx] at hoc
  have : o = .cells cs te (0, 0) := by
    simp only [Bx.at_, hb] at hoc
    exact hoc
  subst this
  have hrun := run_store_run (P := P) (o := 0) ty u u.cells.toList ho rfl (by rw [hul]; exact hinfo) (by omega) h1
  have hw := wrote_all ho hul
  unfold Oper.wp
  have hrun2 : (execOp a.eval oi).run P w = .ok .skip (w.setCells (G q) 0 u.cells.toList) := by
    unfold execOp
    rw [hop]
    have e1 : a.eval (.tmp tp) = .pointer (some ⟨G q, 0, none⟩) := eval_of hp
    simp [e1, hu, hrun]
  rw [hrun2]
  show K (a.put oi.dst undef) _
  rw [hd]
  refine hK.out _ _ ⟨_, _, _, (hr.store hes hAi (List.contains_iff_mem.1 hA) (hon q hbit) hw (fun j hj hne => ?_) ?_ (fun p hp => ?_)).choose_spec.choose_spec.choose_spec⟩
  · obtain ⟨q', hq, h3, h2⟩ := lk_mem hj
    have := hn q' hq
    rw [Bool.or_eq_true] at this
    rcases this with h | h
    · exact absurd (by rw [← h3]; simpa using h) hne
    · rw [h2, Bx.up_ h b]
  · show ((lk al q).at_ (up b i)).R _ f
    rw [hx]
    simp only [Bx.at_, up_self, if_true]
    simpa using hc1
  · obtain ⟨q', hq, rfl⟩ := List.mem_map.1 hp
    simp only [Bx.up_ (hn2 q' hq) b]
/-- A whole variable is loaded. -/
theorem run_load_agg {oi : Oper} {ty te : TypeId} {tp g : Nat} {cs : Array Value} {fr : Nat × Nat} {d : TypeDesc} {a : Act} {w : World} (hop : oi.op = .load ty (.tmp tp)) (he : a.tmps[tp]? = some (.pointer (some ⟨g, 0, none⟩))) (hh : w.heap[g]? = some (.cells cs te fr))
    (hu : P.underlying ty = some d) (hd : (match d with | .struct _ | .array _ _ => true | _ => false) = true) (hi : (P.info? ty).map (·.size) = some cs.size) : (execOp a.eval oi).run P w = .ok (.value (.agg cs)) w := by
  unfold execOp
  rw [hop]
  have e1 : a.eval (.tmp tp) = .pointer (some ⟨g, 0, none⟩) := eval_of he
  simp [e1, Instr.loadAt, Instr.sureAddr, run_loadVar_row w g te ty cs fr d hh hu hd hi]
/-- Frozen: what a call has made. -/
theorem fr_of_foot {φ : World → Prop} {w : World} {ok : Nat → Prop} {f : Fz} (h : Foot φ w ok) (hok : ∀ k, ok k → k < w.heap.size → ∃ o, f k = some o ∧ w.heap[k]? = some o) : Fr φ f := fun W hW => h W (fun k hk hlt => by
  obtain ⟨o, h1, h2⟩ := hok k hk hlt
  rw [hW k o h1, h2])
theorem foot_of_fr {φ : World → Prop} {w : World} {f : Fz} (h : Fr φ f) (hf : Holds f w) : Foot φ w (fun k => (f k).isSome = true) := fun W hW => h W (fun k o hk => by
  rw [hW k (show (f k).isSome = true by rw [hk]; rfl) (hf.lt hk)]
  exact hf k o hk)
theorem fr_of_V {α : Type} {d : Kd α} {e : Nat} {w w' : World} {base : Nat} {f : Fz} {v : Value} {xs : List α} (hf : Holds f w) (hb : Below w.heap.size w w') (h : d.V e w' base (fun k => (f k).isSome = true ∨ w.heap.size ≤ k) v xs) :
    ∃ A c, v = .slice A xs.length c ∧ xs.length ≤ c ∧ Fr (fun W => d.C W A xs.length xs) (ext f w w') := by
  obtain ⟨A, c, hv, hl, hF⟩ := h
  refine ⟨A, c, hv, hl, fr_of_foot hF (fun k hk hlt => ?_)⟩
  rcases hk with hk | hk
  · obtain ⟨o, ho⟩ := Option.isSome_iff_exists.1 hk
    exact ⟨o, le_ext hf w' k o ho, hf.below hb k o ho⟩
  · refine ⟨w'.heap[k], ?_, Array.getElem?_eq_getElem hlt⟩
    unfold ext
    rw [if_neg (by omega)]
    exact Array.getElem?_eq_getElem hlt
theorem fr_of_R {α : Type} {d : Kd α} {e : Nat} {w w' : World} {f : Fz} {ok : Nat → Prop} {v : Value} {xs : List α} (h : d.R e w' w.heap.size ok v xs) : ∃ A c, v = .slice A xs.length c ∧ xs.length ≤ c ∧ Fr (fun W => d.C W A xs.length xs) (ext f w w') := by
  obtain ⟨A, c, hv, hl, _⟩ := Kd.R_reads h
  refine ⟨A, c, hv, hl, fun W hW => ?_⟩
  have h2 := Kd.R_move (Kd.R_bound h) (w1 := W) (fun k hk => by
    obtain ⟨_, h3, h4, q, _, cells, h5⟩ := hk
    rw [h5]
    refine hW k _ ?_
    unfold ext
    rw [if_neg (by omega)]
    exact h5)
  obtain ⟨A', c', hv', _, hC⟩ := Kd.R_reads h2
  rw [hv] at hv'
  injection hv' with hA
  rw [hA]
  exact hC
/-- What came in. -/
theorem fr_came {α : Type} {d : Kd α} (hd : Kd.Heap d) {w : World} {A : Option Addr} {n : Nat} {xs : List α} (h : d.C w A n xs) : Fr (fun W => d.C W A n xs) (fun k => w.heap[k]?) :=
  fr_of_foot (Kd.C_F hd h) (fun k _ hlt => ⟨w.heap[k], Array.getElem?_eq_getElem hlt, Array.getElem?_eq_getElem hlt⟩)
theorem V_of_fr {α : Type} {d : Kd α} {e base : Nat} {w : World} {f : Fz} {A : Option Addr} {c : Nat} {xs : List α} (hl : xs.length ≤ c) (h : Fr (fun W => d.C W A xs.length xs) f) (hf : Holds f w) : d.V e w base (fun k => (f k).isSome = true) (.slice A xs.length c) xs :=
  ⟨A, c, rfl, hl, foot_of_fr h hf⟩
/-- A row that is written out. -/
theorem row_lit {α : Type} {d : Kd α} {W : World} {g : Nat} {e : TypeId} {xs : List α} {inner : List Value} (hh : W.heap[g]? = some (.cells inner.toArray e (0, 0))) (hr : Reps (d.K W) d.sz xs inner) (hm : xs.length ≤ 9223372036854775807) : d.C W (some ⟨g, 0, none⟩) xs.length xs := by
  refine ⟨rfl, hm, fun _ => ⟨_, rfl, fun j p hj => ⟨(inner.drop (j * d.sz)).take d.sz, ?_, hr.2 j p hj, fun i u hu => ?_⟩⟩⟩
  · exact d.K_len (hr.2 j p hj)
  · have hadd : (⟨g, 0, none⟩ : Addr).add (j * d.sz + i) = ⟨g, j * d.sz + i, none⟩ := by unfold Addr.add; split <;> simp_all
    rw [hadd, cell_of_row W g _ _ e (0, 0) hh]
    rw [List.getElem?_take] at hu
    split at hu
    · rw [List.getElem?_drop] at hu
      simpa using hu
    · cases hu
theorem step_lit {α : Type} {d : Kd α} {i t : Nat} {oi : Oper} {C : Bool} {e : TypeId} {xs : List α} (hk : esOk es = true) (hi : ops[i]? = some oi) (hd : oi.dst = some t) (he : es.contains (i, t) = true) (hA : (al.map (·.1)).contains i = false) (hn : noSt al bx i = true)
    (hs : sps[i]? = some (.fr C (fun v W => ∃ A c, v = .slice A xs.length c ∧ xs.length ≤ c ∧ d.C W A xs.length xs))) (hg : Gd ops B O a0 w0 f0 es al bx sps i oi C) (hm : xs.length ≤ 9223372036854775807)
    (h : C = true → ∀ V G f b a w, StAt a0 w0 f0 es al bx sps V G f b a w → (∀ j, (O.contains j && (B.getD i 0).testBit j) = true → b j = true) →
      ∃ inner : List Value, (execOp a.eval oi).run P w = .ok (.value (.slice (some ⟨w.heap.size, 0, none⟩) xs.length xs.length)) (w.alloc (.cells inner.toArray e)) ∧ ∀ W, Holds f W → Reps (d.K W) d.sz xs inner) :
    StepAt P ops Q B O (St a0 w0 f0 es al bx sps) i :=
  step_sp (s := .fr C _) hk hi hd he hA hn hs hg (fun hC V G f b a w hr hon hoff K hK => by
    obtain ⟨inner, hrun, hreps⟩ := h hC V G f b a w hr hon
    unfold Oper.wp
    rw [hrun]
    show K (a.put oi.dst _) _
    rw [hd]
    refine hK _ _ (below_alloc (Below.refl _ _) _) (fun W hW => ⟨_, _, rfl, Nat.le_refl _, row_lit (inner := inner) (e := e) ?_ (hreps W (fun k o hk => hW k o (le_ext hr.holds _ k o hk))) hm⟩)
    refine hW _ _ ?_
    unfold ext
    rw [if_neg (Nat.lt_irrefl _)]
    exact heap_alloc_new w _)
end
end Go.Proofs.YtebflncfgjnkkaaDoorW.Flow

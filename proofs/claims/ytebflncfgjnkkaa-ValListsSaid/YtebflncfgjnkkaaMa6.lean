/- THE ABSTRACT MACHINE, sixth part: an operation that only yields a value yields the one that the machine reckons. -/
import Derived.Test.YtebflncfgjnkkaaMa5
import Derived.Deep.MidRow
import Derived.Deep.AppendSrc
import Derived.Shelf.Abstract
import Derived.Laws.Small
import Derived.Laws.Unary
import Derived.Laws.Strings
import Derived.Laws.Runes
import Derived.Laws.StructEq
import Derived.Laws.Shifts
import Derived.Laws.BytesString
namespace Go.Proofs.Ytebflncfgjnkkaa.M
set_option linter.unusedSimpArgs false
set_option linter.unusedVariables false
open Go
section
variable {g : Gh} {S : Sto} {w : World} {P : Program}
theorem VR.int_inv {k : IntKind} {n : Int} {c : Value} (h : VR g (.int k n) c) : c = .int k n := by cases h with | data _ _ h => cases h; rfl
theorem VR.bool_inv {b : Bool} {c : Value} (h : VR g (.bool b) c) : c = .bool b := by cases h with | data _ _ h => cases h; rfl
theorem VR.str_inv {s : List UInt8} {c : Value} (h : VR g (.str s) c) : c = .string ⟨s.toArray⟩ := by cases h with | data _ _ h => cases h; rfl
theorem VR.agg_inv {vs : List PV} {c : Value} (h : VR g (.agg vs) c) : ∃ cs : Array Value, c = .agg cs ∧ vs.length = cs.size ∧ ∀ i v, vs[i]? = some v → VR g v (cs.getD i Go.undef) := by
  cases h with
  | data _ _ h => cases h
  | agg _ cs hl h => exact ⟨cs, rfl, hl, h⟩
theorem VR.tup_inv {vs : List PV} {c : Value} (h : VR g (.tup vs) c) : ∃ cs : Array Value, c = .tuple cs ∧ vs.length = cs.size ∧ ∀ i v, vs[i]? = some v → VR g v (cs.getD i Go.undef) := by
  cases h with
  | data _ _ h => cases h
  | tup _ cs hl h => exact ⟨cs, rfl, hl, h⟩
theorem VR.ptr_inv {n t o : Nat} {c : Value} (h : VR g (.ptr n t o) c) : ∃ b, g.b n t = some b ∧ c = .pointer (some ⟨b, o, none⟩) := by
  cases h with
  | data _ _ h => cases h
  | ptr _ _ _ b h => exact ⟨b, h, rfl⟩
theorem VR.undef_inv {c : Value} (h : VR g .undef c) : c = Go.undef := by
  cases h with
  | data _ _ h => cases h
  | undef => rfl
theorem VR.func_inv {f : Nat} {caps : List PV} {c : Value} (h : VR g (.func f caps) c) : ∃ cs : Array Value, c = .func (.func f) #[] cs ∧ caps.length = cs.size ∧ ∀ i v, caps[i]? = some v → VR g v (cs.getD i Go.undef) := by
  cases h with
  | data _ _ h => cases h; exact ⟨#[], rfl, rfl, fun i v h => by simp at h⟩
  | func _ _ cs hl h => exact ⟨cs, rfl, hl, h⟩
theorem FR.pure_ {fz : Fz} {v : PV} {c : Value} (h : FR fz v c) : v.pure = true := by
  induction h with
  | iface t v c _ ih => simpa [PV.pure] using ih
  | _ => simp [PV.pure]
theorem FR.one_ {fz : Fz} {v : PV} {c : Value} (h : FR fz v c) : v.one = true := by cases h <;> rfl
theorem FR.oneCell {fz : Fz} {v : PV} {c : Value} (h : FR fz v c) : c.oneCell' = true := by cases h <;> rfl
/-- One cell's value is one cell's. -/
theorem VR.oneCell {v : PV} {c : Value} (h : VR g v c) (h1 : v.one = true) : c.oneCell' = true := by
  cases h with
  | data _ _ h => exact h.oneCell
  | agg | tup | undef | junk => cases h1
  | ptr | rowp | func | iface => rfl
  | elem _ _ _ _ _ _ _ _ _ _ h => exact h
  | sl _ _ _ _ _ _ _ _ _ _ _ h => exact h
/-- What is pure is frozen data, or a function, or an interface's. -/
theorem VR.pure_FR {v : PV} {c : Value} (h : VR g v c) (hp : v.pure = true) : FR g.fz v c := by
  induction h with
  | data v c h => exact h
  | func f caps cs hl _ _ =>
    simp only [PV.pure, List.isEmpty_iff] at hp
    subst hp
    have : cs = #[] := by simpa using hl.symm
    subst this
    exact .func f
  | iface t v c _ ih => exact .iface t v c (ih hp)
  | _ => cases hp

/-! ### Operands -/
theorem str_of (s : ByteArray) : (.string ⟨s.data.toList.toArray⟩ : Value) = .string s := by simp
theorem cV_FR {t : TypeId} {v : Value} {p : PV} (h : cV P t v = some p) : FR g.fz p v := by
  unfold cV at h
  split at h <;> first
    | (cases h; done)
    | (simp only [Option.some.injEq] at h; subst h; first | exact .bool _ | exact .int _ _ | exact .nils _ _ | exact .nili | (rename_i s; have := FR.str (fz := g.fz) s.data.toList; rwa [str_of] at this))
structure Rel (g : Gh) (ac : Ac) (a : Act) (w : World) : Prop where
  wr : WR g ac.S w
  env : ∀ t, VR g (ac.e t) (a.eval (.tmp t))
theorem Rel.ev {ac : Ac} {a : Act} (h : Rel g ac a w) {t : TypeId} {x : Operand} {x' : X} (hx : cX P t x = some x') : VR g (ac.ev x') (a.eval x) := by
  cases x with
  | tmp n => simp only [cX, Option.some.injEq] at hx; subst hx; exact h.env n
  | const v =>
    simp only [cX, Option.map_eq_some_iff] at hx
    obtain ⟨p, hp, rfl⟩ := hx
    exact .data _ _ (cV_FR hp)
  | global n => cases hx
  | func f => simp only [cX, Option.some.injEq] at hx; subst hx; exact .data _ _ (.func f)

/-! ### A slice, seen -/
structure Seen (g : Gh) (w : World) (z : Nat) (rows : List (List PV)) (full : Bool) (A : Option Addr) (cap : Nat) (cs : Nat → Nat → Value) : Prop where
  le : rows.length ≤ cap
  full : full = true → cap = rows.length
  each : ∀ r ∈ rows, r.length = z
  addr : rows ≠ [] → ∃ ad, A = some ad ∧ ad.spot = none
  cell : ∀ ad i j row v, A = some ad → rows[i]? = some row → row[j]? = some v → w.cell? ⟨ad.block, ad.off + (i * z + j), none⟩ = some (cs i j)
  fr : ∀ i j row v, rows[i]? = some row → row[j]? = some v → FR g.fz v (cs i j)
theorem seen {v : PV} {c : Value} {z : Nat} {rows : List (List PV)} {full : Bool} (hw : WR g S w) (h : VR g v c) (hv : view S v = some (z, rows, full)) : ∃ A cap cs, c = .slice A rows.length cap ∧ Seen g w z rows full A cap cs := by
  cases v <;> try cases hv
  case nils =>
    cases h with | data _ _ h => cases h with | nils z A => exact ⟨A, 0, (fun _ _ => Go.undef), rfl, ⟨Nat.le_refl _, (fun _ => rfl), (fun r hr => by cases hr), (fun h => absurd rfl h), (fun _ i _ _ _ _ h => by simp at h), (fun i _ _ _ h => by simp at h)⟩⟩
  case list =>
    cases h with | data _ _ h => cases h with | list _ _ _ A cap cs hl hf hs hA hc hv => exact ⟨A, cap, cs, rfl, ⟨hl, hf, hs, hA, fun ad i j row v h1 h2 h3 => hw.fz _ _ _ (hc ad i j row v h1 h2 h3), hv⟩⟩
  case sl n a off len ver gen f =>
    simp only [view] at hv
    cases hA : getArr S n a with
    | none => simp [hA] at hv
    | some R =>
      simp only [hA] at hv
      split at hv
      · rename_i hcur
        simp only [Option.some.injEq, Prod.mk.injEq] at hv
        obtain ⟨rfl, rfl, rfl⟩ := hv
        cases h with
        | data _ _ h => cases h
        | sl _ _ _ _ _ _ _ ai _ ha hle _ hs =>
          obtain ⟨R', hR', hr⟩ := hw.arr n a ai ha
          obtain rfl : R = R' := Option.some.inj (hA.symm.trans hR')
          obtain ⟨A, cap, rfl, sa⟩ := hs (hr.gen.trans hcur.1) (hr.len.trans hcur.2)
          have hfit : off + len ≤ R.rows.length := by rw [← hr.len]; exact sa.fits
          have hlen : ((R.rows.drop off).take len).length = len := by rw [List.length_take, List.length_drop]; omega
          have hget : ∀ i row, ((R.rows.drop off).take len)[i]? = some row → R.rows[off + i]? = some row ∧ i < len := by
            intro i row hi
            rw [List.getElem?_take] at hi
            split at hi
            · rename_i hlt
              rw [List.getElem?_drop] at hi
              exact ⟨hi, hlt⟩
            · cases hi
          obtain ⟨cs, h1, h2⟩ := hr.cells
          refine ⟨A, cap, fun i j => cs (off + i) j, by rw [hlen], ⟨by rw [hlen]; exact sa.le, fun hf => by rw [hlen]; exact sa.whole hf, fun r hr' => hr.each r (List.mem_of_mem_drop (List.mem_of_mem_take hr')), ?_, ?_, ?_⟩⟩
          · intro hne
            have hpos : 0 < len := by
              rcases Nat.eq_zero_or_pos len with h0 | h0
              · subst h0; simp at hne
              · exact h0
            obtain ⟨ad, _, _, h5⟩ := sa.pos hpos
            exact ⟨_, h5, rfl⟩
          · intro ad i j row v had hi hj
            obtain ⟨hi', hlt⟩ := hget i row hi
            obtain ⟨ad', h3, h4, h5⟩ := sa.pos (by omega)
            rw [had] at h5
            obtain rfl := Option.some.inj h5
            have := (h2 ad' (off + i) j row v h3 hi' hj).1
            rw [show ad'.off + off * ai.sz + (i * R.sz + j) = ad'.off + ((off + i) * R.sz + j) by rw [hr.sz, Nat.add_mul]; omega]
            exact this
          · intro i j row v hi hj
            exact h1 (off + i) j row v (hget i row hi).1 hj
      · cases hv
theorem view_len {v : PV} {z : Nat} {rows : List (List PV)} {full : Bool} {n : Nat} {A : Option Addr} {cap : Nat} (hw : WR g S w) (h : VR g v (.slice A n cap)) (hv : view S v = some (z, rows, full)) : n = rows.length := by
  obtain ⟨A', cap', cs, he, _⟩ := seen hw h hv
  cases he
  rfl
end
end Go.Proofs.Ytebflncfgjnkkaa.M

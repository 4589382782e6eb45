/- strconv.Itoa, as the shelf tells it, for the printed texts: it reads the listed table of powers of ten. -/
import Derived.Test.YtebflncfgjnkkaaDoorX0
import Derived.Test.YtebflncfgjnkkaaDoorShelf
import Derived.WalkSmall
import Derived.Lib.AppendIntMem
namespace Go.Proofs.YtebflncfgjnkkaaDoor.X
open Go.RowKit Go.Lib Go.Proofs.YtebflncfgjnkkaaDoorW.PrintWords Go.Proofs.YtebflncfgjnkkaaDoorW.PrintLast
/-- The listed table holds its powers of ten. -/
def LT_ (w : World) : Prop := Lib.TabIs Tryd.prog w "internal/strconv.uint64pow10" .u64 Lib.pow10Tab
theorem gTab : Tryd.prog.globalNamed "internal/strconv.uint64pow10" = some 0 := by kernel_rfl
theorem LT_below {w w' : World} (h : LT_ w) (hb : Below w.heap.size w w') : LT_ w' := by
  have hg : ∃ g, Tryd.prog.globalNamed "internal/strconv.uint64pow10" = some g := ⟨_, gTab⟩
  have h' : w.var? Tryd.prog "internal/strconv.uint64pow10" = _ := h
  refine var?_below hb gTab ?_ h
  unfold World.var? at h'
  rw [gTab] at h'
  simp only [Option.bind_some] at h'
  by_cases hlt : 0 < w.heap.size
  · exact hlt
  · rw [Array.getElem?_eq_none (by omega)] at h'
    simp at h'
def strconv_Itoa.f (a0 : Int) : Option ByteArray := if -9223372036854775808 ≤ a0 then (if a0 ≤ 9223372036854775807 then some ⟨(Lib.itoa a0).toArray⟩ else none) else none
theorem strconv_Itoa.calls (a0 : Int) (r : ByteArray) (w : World) (hT_ : LT_ w) (h : strconv_Itoa.f a0 = some r) :
    Calls Tryd.prog 67 #[.int .i64 a0] w fun e w' => e = .returned (.string r) ∧ Below w.heap.size w w' := by
  unfold strconv_Itoa.f at h
  split at h
  · split at h
    · rename_i h0 h1
      obtain rfl := Option.some.inj h
      refine (Tryd.strconv_Itoa a0 h0 h1 w hT_).mono fun e w' ⟨he, k, os, hw⟩ => ⟨he, ?_⟩
      subst hw
      exact below_grow _ _ (Nat.le_refl _) _ _
    · cases h
  · cases h
end Go.Proofs.YtebflncfgjnkkaaDoor.X

/- What comes in of these types, by the printed kinds. Written by a program of this session (xin.py). -/
import Derived.Test.YtebflncfgjnkkaaDoorXOpen
import Derived.Test.YtebflncfgjnkkaaDoorX0
namespace Go.Proofs.YtebflncfgjnkkaaDoor.X
open Go.RowKit Go.Proofs.YtebflncfgjnkkaaDoorW.PrintWords Go.Proofs.YtebflncfgjnkkaaDoorW.PrintLast Go.Proofs.YtebflncfgjnkkaaDoorW.Open
def ok24 (x : S24) : Prop := (Lit.int .i64 x.f0).wf = true ∧ (Lit.int .i64 x.f1).wf = true ∧ (Lit.int .i64 x.f2).wf = true
theorem opn24 (m : Nat) : OpN Tryd.prog 24 k24 ok24 m := opn_iso _ (fun p => ⟨p.1, p.2.1, p.2.2⟩) (fun _ => rfl) (opn_struct' Tryd.underlying24 rfl (by kernel_rfl) (fun m => (opf_cons rfl (by kernel_rfl) (opn_int Tryd.underlying3 m) (opf_cons rfl (by kernel_rfl) (opn_int Tryd.underlying3 m) (opf_one rfl (by kernel_rfl) (opn_int Tryd.underlying3 m))))) m)
end Go.Proofs.YtebflncfgjnkkaaDoor.X

/- The laws' arguments, opened: outlines and the reference's changes. -/
import Derived.Test.YtbaihnpanoibdaaOpens
import Derived.Test.YtbaihnpanoibdaaQx0
import Derived.Test.YtbaihnpanoibdaaRows
namespace Go.Proofs.Ytbaihnpanoibdaa.Q
open Go.RowKit Go.Proofs.YtbaihnpanoibdaaW.PrintWords
set_option linter.unusedVariables false
theorem opens34 : Opens.Opens Try.prog 34 k34 (fun _ => True) := Opens.Opens.imp (Opens.Opens.iso (Opens.opens_struct Try.underlying34 (Opens.FO.cons (off' := 1) (Opens.opens_int Try.underlying3 (by kernel_rfl)) rfl rfl (Opens.FO.one (Opens.opens_int Try.underlying3 (by kernel_rfl)) rfl)) (by kernel_rfl)) (fun x : S34 => (x.f0, x.f1)) (fun a => ⟨a.1, a.2⟩) (fun _ => rfl)) (fun _ _ => trivial)
theorem opens36 : Opens.Opens Try.prog 36 k36 (fun _ => True) := Opens.Opens.imp (Opens.Opens.iso (Opens.opens_struct Try.underlying36 (Opens.FO.cons (off' := 2) opens34 rfl rfl (Opens.FO.cons (off' := 3) (Opens.opens_int Try.underlying3 (by kernel_rfl)) rfl rfl (Opens.FO.cons (off' := 4) (Opens.opens_bool Try.underlying4 (by kernel_rfl)) rfl rfl (Opens.FO.one (Opens.opens_string Try.underlying9 (by kernel_rfl)) rfl)))) (by kernel_rfl)) (fun x : S36 => (x.f0, x.f1, x.f2, x.f3)) (fun a => ⟨a.1, a.2.1, a.2.2.1, a.2.2.2⟩) (fun _ => rfl)) (fun _ _ => trivial)
theorem opens39 : Opens.Opens Try.prog 39 k39 (fun _ => True) := Opens.Opens.imp (Opens.Opens.iso (Opens.opens_struct Try.underlying39 (Opens.FO.cons (off' := 1) (Opens.opens_int Try.underlying3 (by kernel_rfl)) rfl rfl (Opens.FO.cons (off' := 2) (Opens.opens_int Try.underlying3 (by kernel_rfl)) rfl rfl (Opens.FO.one opens36 rfl))) (by kernel_rfl)) (fun x : S39 => (x.f0, x.f1, x.f2)) (fun a => ⟨a.1, a.2.1, a.2.2⟩) (fun _ => rfl)) (fun _ _ => trivial)
theorem opens22 : Opens.Opens Try.prog 22 (Kd.slice 36 k36) (fun _ => True) := Opens.Opens.imp (Opens.opens_slice (P := Try.prog) Try.underlying22 (by kernel_rfl) opens36) (fun _ _ => trivial)
theorem opens29 : Opens.Opens Try.prog 29 (Kd.slice 39 k39) (fun _ => True) := Opens.Opens.imp (Opens.opens_slice (P := Try.prog) Try.underlying29 (by kernel_rfl) opens39) (fun _ _ => trivial)
end Go.Proofs.Ytbaihnpanoibdaa.Q

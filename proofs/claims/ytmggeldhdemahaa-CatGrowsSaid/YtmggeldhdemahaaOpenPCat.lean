-- Laid by wip/gprint.py (a printer of our own over the kit's) out of the translation
import Derived.Test.YtmggeldhdemahaaOpen
import Derived.Test.YtmggeldhdemahaaPCatx0
namespace Go.Proofs.Ytmggeldhdemahaa.PCat
open Go.RowKit Go.Proofs.Ytmggeldhdemahaa.Open Go.Proofs.YtmggeldhdemahaaW.PrintWords
def gT46 (x : S46) : Prop := ((Lit.int .i64 x.f0).wf = true) ∧ ((Lit.int .i64 x.f1).wf = true)
theorem opens46 : Opens Try.prog 46 k46 gT46 :=
  opens_iso (opens_struct2 Try.underlying46 rfl rfl (by kernel_rfl) (by kernel_rfl) (by kernel_rfl)  (opens_int (k := .i64) Try.underlying3) (opens_int (k := .i64) Try.underlying3)) _ (fun a => ⟨a.1, a.2⟩) (fun _ => rfl)

def gT24 (x : S24) : Prop := ((Lit.int .i64 x.f0).wf = true) ∧ (∀ y_ ∈ x.f1, gT46 y_)
theorem opens24 : Opens Try.prog 24 k24 gT24 :=
  opens_iso (opens_struct2 Try.underlying24 rfl rfl (by kernel_rfl) (by kernel_rfl) (by kernel_rfl)  (opens_int (k := .i64) Try.underlying3) (opens_slice (d := k46) Try.underlying22 (by kernel_rfl) opens46)) _ (fun a => ⟨a.1, a.2⟩) (fun _ => rfl)

end Go.Proofs.Ytmggeldhdemahaa.PCat

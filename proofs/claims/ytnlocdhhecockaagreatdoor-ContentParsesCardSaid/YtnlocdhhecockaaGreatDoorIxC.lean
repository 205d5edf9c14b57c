/-
  Layer 7: strings.IndexAny along every text (IxOk).
-/
import Derived.Test.YtnlocdhhecockaaGreatDoorIxB
import Derived.Test.YtnlocdhhecockaaGreatDoorCpA
namespace Go.Proofs.YtnlocdhhecockaaGreatDoor
open Go.RowKit Go.Cold
theorem IxOk_any (s : ByteArray) (hs : s.size ≤ 1000) : IxOk s := by
  intro ends he k hk W
  have hall : ∀ e ∈ [slashE, (⟨#[58, 44, 41]⟩ : ByteArray), ⟨#[58, 40, 44, 41]⟩, ⟨#[44, 41]⟩], (2 ≤ e.size ∧ e.size ≤ 1000) ∧ ∀ b ∈ e.data.toList, b.toNat < 128 := by decide +kernel
  obtain ⟨⟨h1, h2⟩, h3⟩ := hall ends he
  exact IndexAny_any (s.extract k s.size) ends W h1 (by rw [ByteArray.size_extract]; omega) h2 (fun j b hb => h3 b (List.mem_of_getElem? hb))
end Go.Proofs.YtnlocdhhecockaaGreatDoor

/- A word spoilt; a heap of free pages. Plain lemmas; conditions: in each. -/
import Derived.Test.YthadoehgmdageaaDoorZ2SdU
set_option linter.unusedVariables false
set_option linter.unusedSimpArgs false
namespace Go.Proofs.YthadoehgmdageaaDoor.Fl
open Go.RowKit
theorem MadeI.zero (n : Nat) (h1 : 1 ≤ n) (h2 : n ≤ 16) : MadeI (List.replicate (32 * n) (0 : Int)) (List.replicate n ((0, 0, 0) : Sp)) := by
  have hget : ∀ q : Nat, stP (List.replicate n ((0, 0, 0) : Sp)) ((q : Nat) : Int) = 0 := fun q => by
    unfold stP; rw [spAt_n]
    by_cases h : q < n
    · simp [List.getD, List.getElem?_replicate, h]
    · simp [List.getD, List.getElem?_replicate, h]
  refine ⟨form_of (fun s hs => by rw [(List.mem_replicate.1 hs).2]; rfl) (by rw [List.length_replicate]; exact h1) (by rw [List.length_replicate]; exact h2) (by rw [List.length_replicate, List.length_replicate]), rep_u32 n, rep_u64 _, fun q hq _ => ?_, fun q j hb => absurd (hget q) hb.2.1⟩
  rw [List.length_replicate] at hq
  refine (zero_iff (by rw [List.length_replicate]; omega)).2 fun k hk => ?_
  simp only [List.getD, List.getElem?_replicate]
  split <;> rfl

end Go.Proofs.YthadoehgmdageaaDoor.Fl

/- The walks of the laws on queues: the document's example; texts. -/
import Derived.Test.YtcdblopnaimfoaaQ
namespace Go.Proofs.Ytcdblopnaimfoaa
open Go.RowKit Go.Conc

set_option maxHeartbeats 1000000 in
theorem anchor9 (w : World) : Calls Try.prog 15 #[] w fun e w' => e = .returned (.bool true) ∧ Below w.heap.size w w' := by
  go_enter Try.func15, Try.ntmps15
  go_wp2_with fail
  refine (newI_ok 4 (by omega) (by omega) _).mono ?_
  rintro e w1 ⟨rfl, hq1, hb1, hs1⟩
  go_wp2_with fail
  refine (putI_room _ _ 1 _ _ _ hq1 (by simp)).mono ?_
  rintro e w2 ⟨rfl, hq2, hf2⟩
  go_wp2_with fail
  refine (putI_room _ _ 2 _ _ _ hq2 (by simp)).mono ?_
  rintro e w3 ⟨rfl, hq3, hf3⟩
  go_wp2_with fail
  refine (takeI_some _ _ 1 _ _ _ hq3).mono ?_
  rintro e w4 ⟨rfl, hq4, hf4⟩
  go_wp2_with fail
  refine (lenI _ _ _ _ _ hq4).mono ?_
  rintro e w5 ⟨rfl, rfl⟩
  go_wp2
  go_ret
  refine ⟨by simp, ?_⟩
  have hF : Fr (· = w.heap.size) w w5 :=  (((Fr.of_below hb1).trans hf2 (fun _ _ h => h)).trans hf3 (fun _ _ h => h)).trans hf4 (fun _ _ h => h)
  exact hF.below (Nat.le_refl _) (by omega)
end Go.Proofs.Ytcdblopnaimfoaa

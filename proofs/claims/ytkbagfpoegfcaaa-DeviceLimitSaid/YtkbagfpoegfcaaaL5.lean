/- 'revetmentlaw07.DeviceLimit' returns true for every input, its arguments as they were. No condition. -/
import Derived.Test.YtkbagfpoegfcaaaD41
namespace Go.Proofs.Ytkbagfpoegfcaaa
open Go.ChangeShapes Go.WideShapes Go.ChangeAt Go.RowKit

set_option maxRecDepth 100000 in
theorem deviceLimit_lifted (os : Os) (started : os.Started) (H : Type) (enc : TypeId × Value → H) :
    ReturnsInHanded {} Try.checked os 5 .any (Rows.deviceLimitSpec.pre6 enc Try.prog Try.f5 Rows.deviceLimitRow.domain false) (Rows.deviceLimitSpec.post enc Try.prog Try.f5 false true false false) := by
  refine returnsInHanded_of_change (C := Try.checked) Try.own started (by kernel_rfl) Try.func5
    (ChangeSpec.witness6 (enc := enc) (C := Try.checked) false ⟨#[], #[.int .i64 0, .int .i64 0, .int .i64 0, .slice none 0 0], []⟩ 8 (by kernel_rfl) (by kernel_rfl) (by kernel_rfl) (by kernel_rfl)) ?_
  intro W base args ds gs before hval0 hW _ _
  have hval : ∀ (j : Nat) t v, Try.f5.params[j]? = some t → args[j]? = some v → Value.okWide Try.prog W .any base t v := hval0
  have hW' := hW
  obtain ⟨p, q, hA0, hV, rfl, _, _⟩ := hW
  have hA : DataW.TrodAll enc Try.prog W 0 (fun _ => true) true Try.f5.params.toList args.toList ds p := hA0
  rw [Try.params5] at hA hval
  obtain ⟨v0, v1, v2, v3, d0, d1, d2, d3, p0, p1, p2, p3, rfl, rfl, rfl, h0, h1, h2, h3⟩ := trodAll_four hA
  obtain ⟨rfl, rfl⟩ := trodVars_none hV
  obtain ⟨x0, rfl, w0⟩ := arg_int (hval 0 3 v0 rfl rfl) h0
  obtain ⟨x1, rfl, w1⟩ := arg_int (hval 1 3 v1 rfl rfl) h1
  obtain ⟨x2, rfl, w2⟩ := arg_int (hval 2 3 v2 rfl rfl) h2
  have hlt3 : ∀ x ∈ p3, x.block < W.heap.size := fun x hx => by simpa using hW'.lt x (by simp [hx])
  obtain ⟨x3, s3⟩ := arg_ops (hval 3 55 v3 rfl rfl) h3 hlt3
  exact law_calls (s := Rows.deviceLimitSpec) rfl rfl (by kernel_rfl) hW' rfl (limit_walk W x0 x1 x2 v3 x3 s3)

theorem deviceLimit_holds : Rows.DeviceLimitSaid :=
  OpenClaim.holds_of_wide 5 Try.f5 rfl rfl rfl rfl rfl rfl rfl ⟨rfl, rfl, rfl, rfl, rfl⟩ rfl rfl rfl rfl rfl (by kernel_rfl) Try.func5 (by kernel_rfl)
    (of_decide_eq_true (by kernel_rfl)) (by unfold Func.isWrapper; first | (rw [if_pos (by decide +kernel)]; kernel_rfl) | (rw [if_neg (by decide +kernel)]; exact ⟨rfl, rfl⟩))
    (fun os started H enc _ => deviceLimit_lifted os started H enc)

#print axioms deviceLimit_holds
end Go.Proofs.Ytkbagfpoegfcaaa

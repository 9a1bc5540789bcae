/- 'revetmentlaw10.PoolPlays' returns true for every input, its arguments as they were. No condition. -/
import Derived.Test.YtcdblopnaimfoaaPr
import Derived.Test.YtcdblopnaimfoaaLaw
import Derived.Test.YtcdblopnaimfoaaArgs2
namespace Go.Proofs.Ytcdblopnaimfoaa
open Go.ChangeShapes Go.WideShapes Go.ChangeAt Go.RowKit

set_option maxRecDepth 100000 in
theorem poolPlays_lifted (os : Os) (started : os.Started) (H : Type) (enc : TypeId × Value → H) :
    ReturnsInHanded {} Try.checked os 13 .any (Rows.poolPlaysSpec.pre6 enc Try.prog Try.f13 Rows.poolPlaysRow.domain false) (Rows.poolPlaysSpec.post enc Try.prog Try.f13 false true false false) := by
  refine returnsInHanded_of_change (C := Try.checked) Try.own started (by kernel_rfl) Try.func13
    (ChangeSpec.witness6 (enc := enc) (C := Try.checked) false ⟨#[], #[.agg #[.int .i64 0, .int .i64 0, .int .i64 0, .int .i64 0, .int .i64 0, .int .i64 0], .slice none 0 0, .int .i64 0], []⟩ 8 (by kernel_rfl) (by kernel_rfl) (by kernel_rfl) (by kernel_rfl)) ?_
  intro W base args ds gs before hval0 hW _ _
  have hval : ∀ (j : Nat) t v, Try.f13.params[j]? = some t → args[j]? = some v → Value.okWide Try.prog W .any base t v := hval0
  have hW' := hW
  obtain ⟨p, q, hA0, hV, rfl, _, _⟩ := hW
  have hA : DataW.TrodAll enc Try.prog W 0 (fun _ => true) true Try.f13.params.toList args.toList ds p := hA0
  rw [Try.params13] at hA hval
  obtain ⟨v0, v1, v2, d0, d1, d2, p0, p1, p2, rfl, rfl, rfl, h0, h1, h2⟩ := trodAll_three hA
  obtain ⟨rfl, rfl⟩ := trodVars_none hV
  have hlt0 : ∀ x ∈ p0, x.block < W.heap.size := fun x hx => by simpa using hW'.lt x (by simp [hx])
  obtain ⟨D, Z, S, B, P, O, rfl, f1, f2, f3, f4, f5, f6⟩ := arg_geom (hval 0 42 v0 rfl rfl) h0
  have hlt1 : ∀ x ∈ p1, x.block < W.heap.size := fun x hx => by simpa using hW'.lt x (by simp [hx])
  obtain ⟨x1, m1, w1, s1⟩ := arg_ops10 (hval 1 78 v1 rfl rfl) h1 hlt1
  obtain ⟨x2, rfl, w2⟩ := arg_int (hval 2 3 v2 rfl rfl) h2
  exact law_calls (s := Rows.poolPlaysSpec) rfl rfl (by kernel_rfl) hW' rfl (poolPlays_walk W D Z S B P O v1 x1 m1 w1 s1 x2)

theorem poolPlays_holds : Rows.PoolPlaysSaid :=
  OpenClaim.holds_of_wide 13 Try.f13 rfl rfl rfl rfl rfl rfl rfl ⟨rfl, rfl, rfl, rfl, rfl⟩ rfl rfl rfl rfl rfl (by kernel_rfl) Try.func13 (by kernel_rfl)
    (of_decide_eq_true (by kernel_rfl)) (by unfold Func.isWrapper; first | (rw [if_pos (by decide +kernel)]; kernel_rfl) | (rw [if_neg (by decide +kernel)]; exact ⟨rfl, rfl⟩))
    (fun os started H enc _ => poolPlays_lifted os started H enc)

#print axioms poolPlays_holds
end Go.Proofs.Ytcdblopnaimfoaa

/- A zone's domain. Condition: the geometry is small. -/
import Derived.Test.YtcdblopnaimfoaaGc
import Derived.Test.YtcdblopnaimfoaaFr
namespace Go.Proofs.Ytcdblopnaimfoaa
open Go.RowKit Go.Conc

theorem dz_bI {D Z S B P O : Int} (h : Small D Z S B P O) : 3 ≤ D * Z ∧ D * Z ≤ 512 := by
  obtain ⟨d0, d1, z0, z1, s0, s1, b0, b1, p0, p1, o0, o1⟩ := h
  rcases dcases d0 d1 with rfl | rfl | rfl | rfl | rfl | rfl <;> omega
theorem all_eqI {D Z S B P O : Int} (h : Small D Z S B P O) : PGeomRight.geom_Geom_All.f D Z S B P O = some (D * Z) := by
  have h1 := dz_bI h
  unfold PGeomRight.geom_Geom_All.f
  simp (disch := omega) only [w64]

def domP (D Z z : Int) : Int := if 0 ≤ z ∧ z < D * Z then z / Z else -1

section
variable {D Z S B P O : Int}
set_option maxHeartbeats 400000 in
theorem domainI (h : Small D Z S B P O) (z : Int) (w : World) :
    Calls Try.prog 36 #[.agg #[.int .i64 D, .int .i64 Z, .int .i64 S, .int .i64 B, .int .i64 P, .int .i64 O], .int .i64 z] w fun e w' => e = .returned (.int .i64 (domP D Z z)) ∧ Below w.heap.size w w' := by
  by_cases h0 : z < 0
  · have e : domP D Z z = -1 := if_neg (by omega)
    go_enter Try.func36, Try.ntmps36
    go_wp2
    go_ret
    exact ⟨by rw [e]; rfl, (Below.refl _ _).alloc (Nat.le_refl _) _⟩
  · by_cases h1 : D * Z ≤ z
    · have e : domP D Z z = -1 := if_neg (by omega)
      go_enter Try.func36, Try.ntmps36
      go_wp2_with fail
      refine (PGeomRight.geom_Geom_All.calls D Z S B P O _ _ (all_eqI h)).mono ?_
      rintro e w1 ⟨rfl, hb⟩
      go_wp2
      go_ret
      exact ⟨by rw [e]; rfl, ((Below.refl _ w).alloc (Nat.le_refl _) _).trans (hb.mono (by simp))⟩
    · have e : domP D Z z = z / Z := if_pos (by omega)
      have e2 : Int.tdiv z Z = z / Z := Int.tdiv_eq_ediv_of_nonneg (by omega)
      have z0 := h.z0
      have z1 := h.z1
      have hd := dz_bI h
      have q1 : 0 ≤ z / Z := Int.ediv_nonneg (by omega) (by omega)
      have q2 : z / Z ≤ z := Int.ediv_le_self _ (by omega)
      go_enter Try.func36, Try.ntmps36
      go_wp2_with fail
      refine (PGeomRight.geom_Geom_All.calls D Z S B P O _ _ (all_eqI h)).mono ?_
      rintro e w1 ⟨rfl, hb⟩
      have cg := fun i => blk_cell ((Fr.of_below (S := fun _ => False) hb).heap (blk_new w _) id) i
      go_wp2
      go_ret
      exact ⟨by rw [e]; simp, ((Below.refl _ w).alloc (Nat.le_refl _) _).trans (hb.mono (by simp))⟩

end
end Go.Proofs.Ytcdblopnaimfoaa

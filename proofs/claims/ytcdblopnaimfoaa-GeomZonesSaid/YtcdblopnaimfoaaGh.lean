/- Whether a geometry has a sector; the function's contract. Conditions: none where it may not be; else its numbers are small. -/
import Derived.Test.YtcdblopnaimfoaaGf
namespace Go.Proofs.Ytcdblopnaimfoaa
open Go.RowKit Go.Conc

theorem holds_no (D Z S B P O x1 x2 : Int) (h : rightB D Z S B P O = false) (w : World) :
    Calls Try.prog 34 #[.agg #[.int .i64 D, .int .i64 Z, .int .i64 S, .int .i64 B, .int .i64 P, .int .i64 O], .int .i64 x1, .int .i64 x2] w fun e w' => e = .returned (.bool false) ∧ Below w.heap.size w w' := by
  have r1 : PGeomRight.geom_Geom_Right.f D Z S B P O = some false := by rw [right_eq, h]
  go_enter Try.func34, Try.ntmps34
  go_wp2_with fail
  refine (PGeomRight.geom_Geom_Right.calls D Z S B P O _ _ r1).mono ?_
  rintro e w1 ⟨rfl, hb⟩
  go_wp2
  go_ret
  exact ⟨rfl, ((Below.refl _ w).alloc (Nat.le_refl _) _).trans (hb.mono (by simp))⟩

def thereB (D Z S x1 x2 : Int) : Bool := decide (0 ≤ x1 ∧ x1 ≤ D * Z - 1) && (decide (0 ≤ x2) && decide (x2 ≤ S - 1))

set_option maxHeartbeats 400000 in
theorem holds_yes {D Z S B P O : Int} (x1 x2 : Int) (h : rightB D Z S B P O = true) (hS : Small D Z S B P O) (w : World) :
    Calls Try.prog 34 #[.agg #[.int .i64 D, .int .i64 Z, .int .i64 S, .int .i64 B, .int .i64 P, .int .i64 O], .int .i64 x1, .int .i64 x2] w fun e w' => e = .returned (.bool (thereB D Z S x1 x2)) ∧ Below w.heap.size w w' := by
  have r1 : PGeomRight.geom_Geom_Right.f D Z S B P O = some true := by rw [right_eq, h]
  have q0 := dz_b hS
  have q1 := hS.s0
  have q2 := hS.s1
  have e0 : IntKind.i64.wrap (D * Z - 1) = D * Z - 1 := IntWalk.i64_in _ (by omega)
  by_cases h1 : 0 ≤ x1 ∧ x1 ≤ D * Z - 1
  · go_enter Try.func34, Try.ntmps34
    go_wp2_with fail
    refine (PGeomRight.geom_Geom_Right.calls D Z S B P O _ _ r1).mono ?_
    rintro e w1 ⟨rfl, hb⟩
    have hh := (Fr.of_below (S := fun _ => False) hb).heap (blk_new w _) id
    have cg := fun i => blk_cell hh i
    go_wp2_with fail
    refine (PGeomRight.geom_Geom_All.calls D Z S B P O _ _ (all_eq hS)).mono ?_
    rintro e w2 ⟨rfl, hb2⟩
    have hh2 := (Fr.of_below (S := fun _ => False) hb2).heap hh id
    replace cg := fun i => blk_cell hh2 i
    go_wp2_with fail
    refine (within_any _ _ _ _).mono ?_
    rintro e w' ⟨rfl, rfl⟩
    rw [decide_eq_true h1]
    go_wp2_with fail
    refine (within_any _ _ _ _).mono ?_
    rintro e w' ⟨rfl, rfl⟩
    go_wp2
    go_ret
    have hb1 := ((Below.refl _ w).alloc (Nat.le_refl _) _).trans (hb.mono (by simp))
    exact ⟨by rw [thereB, decide_eq_true h1]; rfl, hb1.trans (hb2.mono hb1.size)⟩
  · go_enter Try.func34, Try.ntmps34
    go_wp2_with fail
    refine (PGeomRight.geom_Geom_Right.calls D Z S B P O _ _ r1).mono ?_
    rintro e w1 ⟨rfl, hb⟩
    have hh := (Fr.of_below (S := fun _ => False) hb).heap (blk_new w _) id
    have cg := fun i => blk_cell hh i
    go_wp2_with fail
    refine (PGeomRight.geom_Geom_All.calls D Z S B P O _ _ (all_eq hS)).mono ?_
    rintro e w2 ⟨rfl, hb2⟩
    have hh2 := (Fr.of_below (S := fun _ => False) hb2).heap hh id
    replace cg := fun i => blk_cell hh2 i
    have h1' := Lib.hid h1
    clear h1
    go_wp2_with fail
    refine (within_any _ _ _ _).mono ?_
    rintro e w' ⟨rfl, rfl⟩
    rw [decide_eq_false h1'.out]
    go_wp2
    go_ret
    have hb1 := ((Below.refl _ w).alloc (Nat.le_refl _) _).trans (hb.mono (by simp))
    exact ⟨by rw [thereB, decide_eq_false h1'.out]; rfl, hb1.trans (hb2.mono hb1.size)⟩
end Go.Proofs.Ytcdblopnaimfoaa

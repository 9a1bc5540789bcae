/- The walks of two laws on geometries: with more zones or fewer blocks; rooms. No condition. -/
import Derived.Test.YtcdblopnaimfoaaGb
import Derived.Test.YtcdblopnaimfoaaGc
import Derived.Deep.RegionHeld3
namespace Go.Proofs.Ytcdblopnaimfoaa
open Go.RowKit Go.Conc

/-! ### plain laws -/
theorem seg_mono {D Z P z : Int} (d0 : 3 ≤ D) (d1 : D ≤ 8) (h : Z ≤ z) : segP D Z P ≤ segP D z P := by
  unfold segP YtcdblopnaimfoaaW.PrintWords.mn
  rcases dcases d0 d1 with rfl | rfl | rfl | rfl | rfl | rfl <;> (split <;> split <;> omega)
theorem right_more {D Z S B P O z b : Int} (h : RightP D Z S B P O) (h1 : Z ≤ z) (h2 : z ≤ 64) (h3 : 1 ≤ b) (h4 : b ≤ B) : RightP D z S b P O := by
  obtain ⟨hs, hp, hq⟩ := h
  refine ⟨⟨hs.d0, hs.d1, by have := hs.z0; omega, h2, hs.s0, hs.s1, h3, by have := hs.b1; omega, hs.p0, hs.p1, hs.o0, hs.o1⟩, ?_, ?_⟩
  · unfold partsP at *; omega
  · have := seg_mono (P := P) hs.d0 hs.d1 h1
    have := Int.mul_le_mul_of_nonneg_left this (by have := hs.s0; omega : 0 ≤ S)
    omega
theorem seg_pos {D Z S B P O : Int} (h : RightP D Z S B P O) : 1 ≤ segP D Z P := by
  obtain ⟨hs, hp, hq⟩ := h
  rcases Int.lt_or_le (segP D Z P) 1 with h | h
  · have : S * segP D Z P ≤ S * 0 := Int.mul_le_mul_of_nonneg_left (by omega) (by have := hs.s0; omega)
    have := hs.b0
    omega
  · exact h
theorem zones_more {D Z S B P O : Int} (h : RightP D Z S B P O) : P + 2 < Z := by
  have hp := seg_pos h
  obtain ⟨⟨d0, d1, z0, z1, s0, s1, b0, b1, p0, p1, o0, o1⟩, _, _⟩ := h
  unfold segP YtcdblopnaimfoaaW.PrintWords.mn at hp
  rcases dcases d0 d1 with rfl | rfl | rfl | rfl | rfl | rfl <;> (split at hp <;> omega)

def commandsP (D Z S B : Int) : Int := 64 * (D * Z + 2) * (D * Z + 2) * (S + 2) * (B + S + partsP B + 4)
def passesP (D B P : Int) : Int := 3 * (D * P + 2) * (B + 3)
theorem parts_b {D Z S B P O : Int} (h : Small D Z S B P O) : 1 ≤ partsP B ∧ partsP B ≤ 129 := by
  have := h.b0; have := h.b1; unfold partsP; omega
theorem dz_b {D Z S B P O : Int} (h : Small D Z S B P O) : 3 ≤ D * Z ∧ D * Z ≤ 512 := by
  obtain ⟨d0, d1, z0, z1, s0, s1, b0, b1, p0, p1, o0, o1⟩ := h
  rcases dcases d0 d1 with rfl | rfl | rfl | rfl | rfl | rfl <;> omega
theorem dp_b {D Z S B P O : Int} (h : Small D Z S B P O) : 0 ≤ D * P ∧ D * P ≤ 32 := by
  obtain ⟨d0, d1, z0, z1, s0, s1, b0, b1, p0, p1, o0, o1⟩ := h
  rcases dcases d0 d1 with rfl | rfl | rfl | rfl | rfl | rfl <;> omega
theorem mul_bb {x y a b c d : Int} (hx : a ≤ x ∧ x ≤ b) (hy : c ≤ y ∧ y ≤ d) (ha : 0 ≤ a) (hc : 0 ≤ c) : a * c ≤ x * y ∧ x * y ≤ b * d :=
  ⟨Int.mul_le_mul hx.1 hy.1 hc (by omega), Int.mul_le_mul hx.2 hy.2 (by omega) (by omega)⟩
theorem commands_b {D Z S B P O : Int} (h : Small D Z S B P O) : (320 ≤ 64 * (D * Z + 2) ∧ 64 * (D * Z + 2) ≤ 32896) ∧ (1600 ≤ 64 * (D * Z + 2) * (D * Z + 2) ∧ 64 * (D * Z + 2) * (D * Z + 2) ≤ 16908544) ∧
    (9600 ≤ 64 * (D * Z + 2) * (D * Z + 2) * (S + 2) ∧ 64 * (D * Z + 2) * (D * Z + 2) * (S + 2) ≤ 1115963904) ∧ (96000 ≤ commandsP D Z S B ∧ commandsP D Z S B ≤ 505531648512) := by
  have h1 := dz_b h
  have h2 := parts_b h
  have a1 := mul_bb (x := 64 * (D * Z + 2)) (y := D * Z + 2) (a := 320) (b := 32896) (c := 5) (d := 514) (by omega) (by omega) (by omega) (by omega)
  have a2 := mul_bb (x := 64 * (D * Z + 2) * (D * Z + 2)) (y := S + 2) (a := 1600) (b := 16908544) (c := 6) (d := 66) (by omega) (by have := h.s0; have := h.s1; omega) (by omega) (by omega)
  have a3 := mul_bb (x := 64 * (D * Z + 2) * (D * Z + 2) * (S + 2)) (y := B + S + partsP B + 4) (a := 9600) (b := 1115963904) (c := 10) (d := 453) (by omega) (by have := h.s0; have := h.s1; have := h.b0; have := h.b1; omega) (by omega) (by omega)
  unfold commandsP
  refine ⟨by omega, by omega, by omega, by omega⟩
theorem commands_eq {D Z S B P O : Int} (h : Small D Z S B P O) : PGeomRight.geom_Geom_Commands.f D Z S B P O = some (commandsP D Z S B) := by
  have h1 := dz_b h
  have h2 := parts_b h
  obtain ⟨c1, c2, c3, c4⟩ := commands_b h
  have := h.s0; have := h.s1; have := h.b0; have := h.b1
  unfold PGeomRight.geom_Geom_Commands.f PGeomRight.geom_Geom_All.f
  rw [parts_eq h, Option.bind_some, Option.bind_some]
  unfold commandsP at *
  simp (disch := omega) only [w64]
theorem passes_b {D Z S B P O : Int} (h : Small D Z S B P O) : 6 * (B + 3) ≤ passesP D B P ∧ passesP D B P ≤ 26418 := by
  have h1 := dp_b h
  have a1 := mul_bb (x := 3 * (D * P + 2)) (y := B + 3) (a := 6) (b := 102) (c := B + 3) (d := 259) (by omega) (by have := h.b1; omega) (by omega) (by have := h.b0; omega)
  unfold passesP; omega
theorem passes_eq {D Z S B P O : Int} (h : Small D Z S B P O) : PGeomRight.geom_Geom_Passes.f D Z S B P O = some (passesP D B P) := by
  have h1 := dp_b h
  have h2 := passes_b h
  have := h.b0; have := h.b1
  unfold PGeomRight.geom_Geom_Passes.f
  unfold passesP at *
  simp (disch := omega) only [w64]

set_option maxRecDepth 100000 in
set_option maxHeartbeats 1000000 in
theorem geomMore_walk (w : World) (D Z S B P O z b : Int) :
    Calls Try.prog 5 #[.agg #[.int .i64 D, .int .i64 Z, .int .i64 S, .int .i64 B, .int .i64 P, .int .i64 O], .int .i64 z, .int .i64 b] w fun e w' => e = .returned (.bool true) ∧ Below w.heap.size w w' := by
  have fin : ∀ w1 w2, Below (w.alloc (.cells #[.int .i64 D, .int .i64 Z, .int .i64 S, .int .i64 B, .int .i64 P, .int .i64 O] 42)).heap.size (w.alloc (.cells #[.int .i64 D, .int .i64 Z, .int .i64 S, .int .i64 B, .int .i64 P, .int .i64 O] 42)) w1 →
      Below w1.heap.size w1 w2 → Below w.heap.size w w2 ∧ w2.heap[w.heap.size]? = some (.cells #[.int .i64 D, .int .i64 Z, .int .i64 S, .int .i64 B, .int .i64 P, .int .i64 O] 42 (0, 0)) := fun w1 w2 h1 h2 => by
    have h12 := h1.trans (h2.mono h1.size)
    exact ⟨((Below.refl _ w).alloc (Nat.le_refl _) _).trans (h12.mono (by simp)), (Fr.of_below (S := fun _ => False) h12).heap (blk_new w _) id⟩
  cases hr : rightB D Z S B P O with
  | false =>
    go_enter Try.func5, Try.ntmps5
    go_wp2_with fail
    refine (anchor5 _).mono ?_
    rintro e w1 ⟨rfl, hb1⟩
    have cg := fun i => blk_cell (fin _ _ hb1 (Below.refl _ _)).2 i
    go_wp2_with fail
    refine (PGeomRight.geom_Geom_Right.calls D Z S B P O false _ (by rw [right_eq, hr])).mono ?_
    rintro e w2 ⟨rfl, hb2⟩
    go_wp2
    go_ret
    exact ⟨rfl, (fin _ _ hb1 hb2).1⟩
  | true =>
    have hR := rightB_iff.1 hr
    by_cases h1 : z < Z
    · go_enter Try.func5, Try.ntmps5
      go_wp2_with fail
      refine (anchor5 _).mono ?_
      rintro e w1 ⟨rfl, hb1⟩
      have cg := fun i => blk_cell (fin _ _ hb1 (Below.refl _ _)).2 i
      go_wp2_with fail
      refine (PGeomRight.geom_Geom_Right.calls D Z S B P O true _ (by rw [right_eq, hr])).mono ?_
      rintro e w2 ⟨rfl, hb2⟩
      have cg2 := fun i => blk_cell (fin _ _ hb1 hb2).2 i
      go_wp2
      go_ret
      exact ⟨rfl, (fin _ _ hb1 hb2).1⟩
    by_cases h2 : 64 < z
    · go_enter Try.func5, Try.ntmps5
      go_wp2_with fail
      refine (anchor5 _).mono ?_
      rintro e w1 ⟨rfl, hb1⟩
      have cg := fun i => blk_cell (fin _ _ hb1 (Below.refl _ _)).2 i
      go_wp2_with fail
      refine (PGeomRight.geom_Geom_Right.calls D Z S B P O true _ (by rw [right_eq, hr])).mono ?_
      rintro e w2 ⟨rfl, hb2⟩
      have cg2 := fun i => blk_cell (fin _ _ hb1 hb2).2 i
      go_wp2
      go_ret
      exact ⟨rfl, (fin _ _ hb1 hb2).1⟩
    by_cases h3 : b < 1
    · go_enter Try.func5, Try.ntmps5
      go_wp2_with fail
      refine (anchor5 _).mono ?_
      rintro e w1 ⟨rfl, hb1⟩
      have cg := fun i => blk_cell (fin _ _ hb1 (Below.refl _ _)).2 i
      go_wp2_with fail
      refine (PGeomRight.geom_Geom_Right.calls D Z S B P O true _ (by rw [right_eq, hr])).mono ?_
      rintro e w2 ⟨rfl, hb2⟩
      have cg2 := fun i => blk_cell (fin _ _ hb1 hb2).2 i
      go_wp2
      go_ret
      exact ⟨rfl, (fin _ _ hb1 hb2).1⟩
    by_cases h4 : B < b
    · go_enter Try.func5, Try.ntmps5
      go_wp2_with fail
      refine (anchor5 _).mono ?_
      rintro e w1 ⟨rfl, hb1⟩
      have cg := fun i => blk_cell (fin _ _ hb1 (Below.refl _ _)).2 i
      go_wp2_with fail
      refine (PGeomRight.geom_Geom_Right.calls D Z S B P O true _ (by rw [right_eq, hr])).mono ?_
      rintro e w2 ⟨rfl, hb2⟩
      have cg2 := fun i => blk_cell (fin _ _ hb1 hb2).2 i
      go_wp2
      go_ret
      exact ⟨rfl, (fin _ _ hb1 hb2).1⟩
    go_enter Try.func5, Try.ntmps5
    go_wp2_with fail
    refine (anchor5 _).mono ?_
    rintro e w1 ⟨rfl, hb1⟩
    have cg := fun i => blk_cell (fin _ _ hb1 (Below.refl _ _)).2 i
    go_wp2_with fail
    refine (PGeomRight.geom_Geom_Right.calls D Z S B P O true _ (by rw [right_eq, hr])).mono ?_
    rintro e w2 ⟨rfl, hb2⟩
    have cg2 := fun i => blk_cell (fin _ _ hb1 hb2).2 i
    have fg2 := fun i => blk_frozen (fin _ _ hb1 hb2).2 i
    go_wp2_with fail
    refine (PGeomRight.geom_Geom_Right.calls D z S b P O true _ (by rw [right_eq, rightB_iff.2 (right_more hR (by omega) (by omega) (by omega) (by omega))])).mono ?_
    rintro e w3 ⟨rfl, hb3⟩
    go_wp2
    go_ret
    refine ⟨rfl, Below.trans ?_ (hb3.mono ?_)⟩
    · exact ((fin _ _ hb1 hb2).1.setCell (by simp) _).setCell (by simp) _
    · have := (fin _ _ hb1 hb2).1.size; simp [World.setCell]; exact this

/-- The geometry's box as it was laid; nothing old has turned. -/
def Gs (D Z S B P O : Int) (w w' : World) : Prop := w'.heap[w.heap.size]? = some (.cells #[.int .i64 D, .int .i64 Z, .int .i64 S, .int .i64 B, .int .i64 P, .int .i64 O] 42 (0, 0)) ∧ Below w.heap.size w w'
theorem Gs.drew {D Z S B P O : Int} {w w' : World} (h : Gs D Z S B P O w w') : Gs D Z S B P O w w'.drew := ⟨h.1, h.2.drew⟩
theorem Gs.step {D Z S B P O : Int} {w w' w'' : World} (h : Gs D Z S B P O w w') (hb : Below w'.heap.size w' w'') : Gs D Z S B P O w w'' :=
  ⟨(Fr.of_below (S := fun _ => False) hb).heap h.1 id, h.2.trans (hb.mono h.2.size)⟩
theorem Gs.all {D Z S B P O : Int} {w w' : World} (h : Gs D Z S B P O w w') : w'.cell? ⟨w.heap.size, 0, none⟩ = some (.int .i64 D) ∧ w'.cell? ⟨w.heap.size, 1, none⟩ = some (.int .i64 Z) ∧ w'.cell? ⟨w.heap.size, 2, none⟩ = some (.int .i64 S) ∧ w'.cell? ⟨w.heap.size, 3, none⟩ = some (.int .i64 B) ∧ w'.cell? ⟨w.heap.size, 4, none⟩ = some (.int .i64 P) ∧ w'.cell? ⟨w.heap.size, 5, none⟩ = some (.int .i64 O) ∧ Gs D Z S B P O w w' :=
  ⟨blk_cell h.1 0, blk_cell h.1 1, blk_cell h.1 2, blk_cell h.1 3, blk_cell h.1 4, blk_cell h.1 5, h⟩

theorem Gs.again {D Z S B P O : Int} {w w' w'' : World} (h : w'.cell? ⟨w.heap.size, 0, none⟩ = some (.int .i64 D) ∧ w'.cell? ⟨w.heap.size, 1, none⟩ = some (.int .i64 Z) ∧ w'.cell? ⟨w.heap.size, 2, none⟩ = some (.int .i64 S) ∧ w'.cell? ⟨w.heap.size, 3, none⟩ = some (.int .i64 B) ∧ w'.cell? ⟨w.heap.size, 4, none⟩ = some (.int .i64 P) ∧ w'.cell? ⟨w.heap.size, 5, none⟩ = some (.int .i64 O) ∧ Gs D Z S B P O w w') (hb : Below w'.heap.size w' w'') :
    w''.cell? ⟨w.heap.size, 0, none⟩ = some (.int .i64 D) ∧ w''.cell? ⟨w.heap.size, 1, none⟩ = some (.int .i64 Z) ∧ w''.cell? ⟨w.heap.size, 2, none⟩ = some (.int .i64 S) ∧ w''.cell? ⟨w.heap.size, 3, none⟩ = some (.int .i64 B) ∧ w''.cell? ⟨w.heap.size, 4, none⟩ = some (.int .i64 P) ∧ w''.cell? ⟨w.heap.size, 5, none⟩ = some (.int .i64 O) ∧ Gs D Z S B P O w w'' :=
  Gs.all (Gs.step h.2.2.2.2.2.2 hb)

set_option maxRecDepth 100000 in
set_option maxHeartbeats 2000000 in
theorem geomRooms_walk (w : World) (D Z S B P O : Int) :
    Calls Try.prog 7 #[.agg #[.int .i64 D, .int .i64 Z, .int .i64 S, .int .i64 B, .int .i64 P, .int .i64 O]] w fun e w' => e = .returned (.bool true) ∧ Below w.heap.size w w' := by
  have fin : ∀ w1 w2, Below (w.alloc (.cells #[.int .i64 D, .int .i64 Z, .int .i64 S, .int .i64 B, .int .i64 P, .int .i64 O] 42)).heap.size (w.alloc (.cells #[.int .i64 D, .int .i64 Z, .int .i64 S, .int .i64 B, .int .i64 P, .int .i64 O] 42)) w1 →
      Below w1.heap.size w1 w2 → Below w.heap.size w w2 ∧ w2.heap[w.heap.size]? = some (.cells #[.int .i64 D, .int .i64 Z, .int .i64 S, .int .i64 B, .int .i64 P, .int .i64 O] 42 (0, 0)) := fun w1 w2 h1 h2 => by
    have h12 := h1.trans (h2.mono h1.size)
    exact ⟨((Below.refl _ w).alloc (Nat.le_refl _) _).trans (h12.mono (by simp)), (Fr.of_below (S := fun _ => False) h12).heap (blk_new w _) id⟩
  cases hr : rightB D Z S B P O with
  | false =>
    go_enter Try.func7, Try.ntmps7
    go_wp2_with fail
    refine (anchor5 _).mono ?_
    rintro e w1 ⟨rfl, hb1⟩
    have cg := fun i => blk_cell (fin _ _ hb1 (Below.refl _ _)).2 i
    go_wp2_with fail
    refine (PGeomRight.geom_Geom_Right.calls D Z S B P O false _ (by rw [right_eq, hr])).mono ?_
    rintro e w2 ⟨rfl, hb2⟩
    go_wp2
    go_ret
    exact ⟨rfl, (fin _ _ hb1 hb2).1⟩
  | true =>
    have hR := rightB_iff.1 hr
    obtain ⟨hS, hp, hq⟩ := id hR
    have q1 := seg_pos hR
    have q2 := (seg_b hS).2
    have q3 := zones_more hR
    have q4 := mul_b (x := S) (y := segP D Z P) (a := 64) (b := 1000) ⟨by have := hS.s0; omega, hS.s1⟩ (seg_b hS) (by omega)
    have q5 := mul_b (x := D) (y := P) (a := 8) (b := 4) ⟨by have := hS.d0; omega, hS.d1⟩ ⟨by have := hS.p0; omega, hS.p1⟩ (by omega)
    go_enter Try.func7, Try.ntmps7
    go_wp2_with fail
    refine (anchor5 _).mono ?_
    rintro e w1 ⟨rfl, hb1⟩
    have cg := fun i => blk_cell (fin _ _ hb1 (Below.refl _ _)).2 i
    go_wp2_with fail
    refine (PGeomRight.geom_Geom_Right.calls D Z S B P O true _ (by rw [right_eq, hr])).mono ?_
    rintro e w2 ⟨rfl, hb2⟩
    have hg := (fin _ _ hb1 hb2).2
    have hB := (fin _ _ hb1 hb2).1
    clear cg hb1 hb2 fin
    go_wp2_with fail
    have hG : Gs D Z S B P O w w2 := ⟨hg, hB⟩
    have b0 := hS.b0
    have b1 := hS.b1
    have pp := hS.p0
    have pq := hS.p1
    have cb := (commands_b hS).2.2.2
    have pb := passes_b hS
    have e1 : IntKind.i64.wrap (2 * B) = 2 * B := IntWalk.i64_in _ (by omega)
    have e2 : IntKind.i64.wrap (S * segP D Z P) = S * segP D Z P := IntWalk.i64_in _ (by omega)
    have e3 : IntKind.i64.wrap (P + 2) = P + 2 := IntWalk.i64_in _ (by omega)
    have e4 : IntKind.i64.wrap (B + 3) = B + 3 := IntWalk.i64_in _ (by omega)
    have e5 : IntKind.i64.wrap (6 * (B + 3)) = 6 * (B + 3) := IntWalk.i64_in _ (by omega)
    have d1 : decide (2 * B ≤ S * segP D Z P) = true := decide_eq_true hq
    have d2 : decide (partsP B ≤ S) = true := decide_eq_true hp
    have d3 : decide (P + 2 < Z) = true := decide_eq_true q3
    have d4 : decide (1 ≤ segP D Z P) = true := decide_eq_true q1
    have d5 : decide (0 < commandsP D Z S B) = true := decide_eq_true (by omega)
    have d6 : decide (6 * (B + 3) ≤ passesP D B P) = true := decide_eq_true pb.1
    clear hg hB hr hp hq q1 q2 q3 q4 q5 b0 b1 pp pq cb pb hR
    go_region_held3 (fun w' => w'.cell? ⟨w.heap.size, 0, none⟩ = some (.int .i64 D) ∧ w'.cell? ⟨w.heap.size, 1, none⟩ = some (.int .i64 Z) ∧ w'.cell? ⟨w.heap.size, 2, none⟩ = some (.int .i64 S) ∧ w'.cell? ⟨w.heap.size, 3, none⟩ = some (.int .i64 B) ∧ w'.cell? ⟨w.heap.size, 4, none⟩ = some (.int .i64 P) ∧ w'.cell? ⟨w.heap.size, 5, none⟩ = some (.int .i64 O) ∧ Gs D Z S B P O w w')
      (first | exact Gs.all (Gs.drew hG) | exact Gs.again (by assumption) (by assumption))
      (first | (go_at_call 30; refine (PGeomRight.geom_Geom_Segments.calls D Z S B P O _ _ (seg_eq hS)).mono ?_; rintro e w' ⟨rfl, hb⟩) | (go_at_call 27; refine (PGeomRight.geom_Geom_Parts.calls D Z S B P O _ _ (parts_eq hS)).mono ?_; rintro e w' ⟨rfl, hb⟩) | (go_at_call 32; refine (PGeomRight.geom_Geom_Commands.calls D Z S B P O _ _ (commands_eq hS)).mono ?_; rintro e w' ⟨rfl, hb⟩) | (go_at_call 33; refine (PGeomRight.geom_Geom_Passes.calls D Z S B P O _ _ (passes_eq hS)).mono ?_; rintro e w' ⟨rfl, hb⟩))
    go_wp2
    go_ret
    exact ⟨rfl, (by assumption : _ ∧ _ ∧ _ ∧ _ ∧ _ ∧ _ ∧ Gs D Z S B P O w _).2.2.2.2.2.2.2⟩
end Go.Proofs.Ytcdblopnaimfoaa

/- What the printed functions on geometries come to, in plain numbers; and that the document's and the program's are one. No condition. -/
import Derived.Test.YtcdblopnaimfoaaPGeomRightx
namespace Go.Proofs.Ytcdblopnaimfoaa
open Go.RowKit PGeomRight Go.Proofs.YtcdblopnaimfoaaW.PrintWords Go.Proofs.YtcdblopnaimfoaaW.PrintMore

structure Small (D Z S B P O : Int) : Prop where
  d0 : 3 ≤ D
  d1 : D ≤ 8
  z0 : 1 ≤ Z
  z1 : Z ≤ 64
  s0 : 4 ≤ S
  s1 : S ≤ 64
  b0 : 1 ≤ B
  b1 : B ≤ 256
  p0 : 0 ≤ P
  p1 : P ≤ 4
  o0 : 4 ≤ O
  o1 : O ≤ 64
def segP (D Z P : Int) : Int := mn ((D - 1) * (Z - P - 2) - (D * P + 4) + 1) (D * (Z - P - 2) - 2 * (D * P + 4) + 1) / 2 - 1 - D * P
def partsP (B : Int) : Int := 1 + (B + 1) / 2
def RightP (D Z S B P O : Int) : Prop := Small D Z S B P O ∧ partsP B ≤ S ∧ 2 * B ≤ S * segP D Z P
noncomputable instance (D Z S B P O : Int) : Decidable (RightP D Z S B P O) := Classical.propDecidable _
noncomputable def rightB (D Z S B P O : Int) : Bool := decide (RightP D Z S B P O)

theorem w64 {x : Int} (h1 : -9223372036854775808 ≤ x) (h2 : x ≤ 9223372036854775807) : wrap64 x = x := by unfold wrap64; omega

theorem dcases {D : Int} (h0 : 3 ≤ D) (h1 : D ≤ 8) : D = 3 ∨ D = 4 ∨ D = 5 ∨ D = 6 ∨ D = 7 ∨ D = 8 := by omega

variable {D Z S B P O : Int}

theorem seg_b (h : Small D Z S B P O) : -1000 ≤ segP D Z P ∧ segP D Z P ≤ 1000 := by
  obtain ⟨d0, d1, z0, z1, s0, s1, b0, b1, p0, p1, o0, o1⟩ := h
  unfold segP mn
  rcases dcases d0 d1 with rfl | rfl | rfl | rfl | rfl | rfl <;> split <;> omega

theorem parts_eq (h : Small D Z S B P O) : geom_Geom_Parts.f D Z S B P O = some (partsP B) := by
  obtain ⟨d0, d1, z0, z1, s0, s1, b0, b1, p0, p1, o0, o1⟩ := h
  unfold geom_Geom_Parts.f partsP
  rw [w64 (x := B + 2) (by omega) (by omega), w64 (x := B + 2 - 1) (by omega) (by omega), Int.tdiv_eq_ediv_of_nonneg (by omega)]
  unfold wrap64
  congr 1; omega

theorem seg_eq (h : Small D Z S B P O) : geom_Geom_Segments.f D Z S B P O = some (segP D Z P) := by
  obtain ⟨d0, d1, z0, z1, s0, s1, b0, b1, p0, p1, o0, o1⟩ := h
  unfold geom_Geom_Segments.f geom_Geom_Reserve.f segP
  rw [Option.bind_some]
  congr 1
  unfold mn
  rcases dcases d0 d1 with rfl | rfl | rfl | rfl | rfl | rfl <;>
  · simp (disch := omega) only [w64]

theorem small_eq : geom_Geom_small.f D Z S B P O = some (decide (3 ≤ D ∧ D ≤ 8 ∧ 1 ≤ Z ∧ Z ≤ 64 ∧ 4 ≤ S ∧ S ≤ 64 ∧ 1 ≤ B ∧ B ≤ 256 ∧ 0 ≤ P ∧ P ≤ 4 ∧ 4 ≤ O ∧ O ≤ 64)) := by
  have h : ∀ n a b : Int, geom_within.f n a b = some (decide (a ≤ n ∧ n ≤ b)) := fun n a b => by
    unfold geom_within.f
    by_cases h : n ≥ a
    · rw [if_pos h]; congr 1; by_cases h2 : n ≤ b
      · rw [decide_eq_true h2, decide_eq_true ⟨h, h2⟩]
      · rw [decide_eq_false h2, decide_eq_false (fun x => h2 x.2)]
    · rw [if_neg h, decide_eq_false (fun x => h x.1)]
  unfold geom_Geom_small.f
  simp only [h, Option.bind_some, decide_eq_true_eq]
  by_cases h1 : 3 ≤ D ∧ D ≤ 8
  · by_cases h2 : 1 ≤ Z ∧ Z ≤ 64
    · by_cases h3 : 4 ≤ S ∧ S ≤ 64
      · by_cases h4 : 1 ≤ B ∧ B ≤ 256
        · by_cases h5 : 0 ≤ P ∧ P ≤ 4
          · simp only [h1, h2, h3, h4, h5, and_self, if_true, true_and]
          · simp only [h1, h2, h3, h4, h5, and_self, if_true, if_false]; congr 1; exact (decide_eq_false (by omega)).symm
        · simp only [h1, h2, h3, h4, and_self, if_true, if_false]; congr 1; exact (decide_eq_false (by omega)).symm
      · simp only [h1, h2, h3, and_self, if_true, if_false]; congr 1; exact (decide_eq_false (by omega)).symm
    · simp only [h1, h2, and_self, if_true, if_false]; congr 1; exact (decide_eq_false (by omega)).symm
  · simp only [h1, if_false]; congr 1; exact (decide_eq_false (by omega)).symm

theorem mul_b {x y a b : Int} (hx : 0 ≤ x ∧ x ≤ a) (hy : -b ≤ y ∧ y ≤ b) (hb : 0 ≤ b) : -(a * b) ≤ x * y ∧ x * y ≤ a * b := by
  have h1 : x * y ≤ x * b := Int.mul_le_mul_of_nonneg_left hy.2 hx.1
  have h2 : x * (-b) ≤ x * y := Int.mul_le_mul_of_nonneg_left hy.1 hx.1
  have h3 : x * b ≤ a * b := Int.mul_le_mul_of_nonneg_right hx.2 hb
  have h4 : x * (-b) = -(x * b) := Int.mul_neg x b
  omega

theorem right_eq : geom_Geom_Right.f D Z S B P O = some (rightB D Z S B P O) := by
  unfold geom_Geom_Right.f rightB
  rw [small_eq, Option.bind_some]
  by_cases hs : 3 ≤ D ∧ D ≤ 8 ∧ 1 ≤ Z ∧ Z ≤ 64 ∧ 4 ≤ S ∧ S ≤ 64 ∧ 1 ≤ B ∧ B ≤ 256 ∧ 0 ≤ P ∧ P ≤ 4 ∧ 4 ≤ O ∧ O ≤ 64
  · have hS : Small D Z S B P O := by obtain ⟨a, b, c, d, e, f, g, h, i, j, k, l⟩ := hs; exact ⟨a, b, c, d, e, f, g, h, i, j, k, l⟩
    rw [decide_eq_true hs, if_pos rfl, parts_eq hS, seg_eq hS, Option.bind_some, Option.bind_some]
    have hb := seg_b hS
    have hm := mul_b (x := S) (y := segP D Z P) (a := 64) (b := 1000) (by omega) hb (by omega)
    rw [w64 (x := 2 * B) (by omega) (by omega), w64 (x := S * segP D Z P) (by omega) (by omega)]
    by_cases hp : partsP B ≤ S
    · rw [if_pos hp]; congr 1; by_cases h2 : 2 * B ≤ S * segP D Z P
      · rw [decide_eq_true h2]; exact (decide_eq_true (show RightP D Z S B P O from ⟨hS, hp, h2⟩)).symm
      · rw [decide_eq_false h2]; exact (decide_eq_false (show ¬ RightP D Z S B P O from fun x => h2 x.2.2)).symm
    · rw [if_neg hp]; congr 1; exact (decide_eq_false (show ¬ RightP D Z S B P O from fun x => hp x.2.1)).symm
  · rw [decide_eq_false hs, if_neg (by decide)]; congr 1
    exact (decide_eq_false (show ¬ RightP D Z S B P O from fun x => hs (by obtain ⟨⟨a, b, c, d, e, f, g, h, i, j, k, l⟩, _⟩ := x; exact ⟨a, b, c, d, e, f, g, h, i, j, k, l⟩))).symm
theorem rightB_iff : rightB D Z S B P O = true ↔ RightP D Z S B P O := by unfold rightB; exact decide_eq_true_iff

/-! ### the document's -/
theorem refParts_l0 (n : Nat) : ∀ (k : Nat) (i x : Int), 0 ≤ i → i ≤ 1000 → B ≤ 256 → (B - i ≤ 2 * (n : Int)) → 0 ≤ x → x ≤ 1000 + i → n < k →
    revetmentref05_G_Parts.l0 k x i D Z S B P O = some (x + if i < B then (B - i + 1) / 2 else 0) := by
  induction n with
  | zero =>
    intro k i x h0 h1 hB hn hx hx1 hk
    obtain ⟨k, rfl⟩ : ∃ m, k = m + 1 := ⟨k - 1, by omega⟩
    simp only [revetmentref05_G_Parts.l0]
    rw [if_neg (by omega), if_neg (by omega), Int.add_zero]
  | succ n ih =>
    intro k i x h0 h1 hB hn hx hx1 hk
    obtain ⟨k, rfl⟩ : ∃ m, k = m + 1 := ⟨k - 1, by omega⟩
    simp only [revetmentref05_G_Parts.l0]
    by_cases hlt : i < B
    · rw [if_pos hlt, w64 (x := x + 1) (by omega) (by omega), w64 (x := i + 2) (by omega) (by omega), ih k (i + 2) (x + 1) (by omega) (by omega) hB (by omega) (by omega) (by omega) (by omega), if_pos hlt]
      congr 1
      split <;> omega
    · rw [if_neg hlt, if_neg hlt, Int.add_zero]
theorem refParts_eq (h : Small D Z S B P O) (k : Nat) (hk : 300 < k) : revetmentref05_G_Parts.f k D Z S B P O = some (partsP B) := by
  obtain ⟨d0, d1, z0, z1, s0, s1, b0, b1, p0, p1, o0, o1⟩ := h
  unfold revetmentref05_G_Parts.f partsP
  rw [refParts_l0 300 k 0 1 (by omega) (by omega) b1 (by omega) (by omega) (by omega) hk, if_pos (by omega)]
  congr 2; omega
theorem half_eq (n : Int) (h1 : -100000 ≤ n) (h2 : n ≤ 100000) : revetmentref05_half.f n = some (n / 2) := by
  unfold revetmentref05_half.f
  by_cases h : n < 0
  · rw [if_pos h]
    rw [w64 (x := 1 - n) (by omega) (by omega), Int.tdiv_eq_ediv_of_nonneg (by omega)]
    simp (disch := omega) only [w64]
    congr 1; omega
  · rw [if_neg h, Int.tdiv_eq_ediv_of_nonneg (by omega)]
    simp (disch := omega) only [w64]
theorem refSeg_eq (h : Small D Z S B P O) : revetmentref05_G_Segments.f D Z S B P O = some (segP D Z P) := by
  obtain ⟨d0, d1, z0, z1, s0, s1, b0, b1, p0, p1, o0, o1⟩ := h
  unfold revetmentref05_G_Segments.f segP mn
  rcases dcases d0 d1 with rfl | rfl | rfl | rfl | rfl | rfl <;>
  · simp (disch := omega) only [w64]
    split
    · rw [half_eq _ (by omega) (by omega), Option.bind_some]; simp (disch := omega) only [w64]
    · rw [half_eq _ (by omega) (by omega), Option.bind_some]; simp (disch := omega) only [w64]
theorem ite_r {α : Type} {c : Prop} [Decidable c] {a b r : α} (h1 : c → a = r) (h2 : ¬ c → b = r) : (if c then a else b) = r := by
  by_cases h : c
  · rw [if_pos h]; exact h1 h
  · rw [if_neg h]; exact h2 h
theorem refRight_eq (k : Nat) (hk : 400 < k) : revetmentref05_G_Right.f k D Z S B P O = some (rightB D Z S B P O) := by
  obtain ⟨k, rfl⟩ : ∃ m, k = m + 1 := ⟨k - 1, by omega⟩
  have hno : ∀ b : Bool, b = true → revetmentref05_G_Right.j0 (k + 1) b D Z S B P O = some false := fun b hb => by simp only [revetmentref05_G_Right.j0]; rw [if_pos hb]
  by_cases hs : 3 ≤ D ∧ D ≤ 8 ∧ 1 ≤ Z ∧ Z ≤ 64 ∧ 4 ≤ S ∧ S ≤ 64 ∧ 1 ≤ B ∧ B ≤ 256 ∧ 0 ≤ P ∧ P ≤ 4 ∧ 4 ≤ O ∧ O ≤ 64
  · have hS : Small D Z S B P O := by obtain ⟨a, b, c, d, e, f, g, h, i, j, k, l⟩ := hs; exact ⟨a, b, c, d, e, f, g, h, i, j, k, l⟩
    unfold revetmentref05_G_Right.f
    rw [if_neg (by omega), if_neg (by omega), if_neg (by omega), if_neg (by omega), if_neg (by omega), if_neg (by omega), if_neg (by omega), if_neg (by omega), if_neg (by omega), if_neg (by omega), if_neg (by omega), decide_eq_false (by omega)]
    simp only [revetmentref05_G_Right.j0]
    rw [if_neg (by decide), refParts_eq hS k (by omega), refSeg_eq hS, Option.bind_some, Option.bind_some]
    have hb := seg_b hS
    have hm := mul_b (x := S) (y := segP D Z P) (a := 64) (b := 1000) (by omega) hb (by omega)
    rw [w64 (x := 2 * B) (by omega) (by omega), w64 (x := S * segP D Z P) (by omega) (by omega)]
    unfold rightB
    by_cases hp : partsP B ≤ S
    · rw [if_pos hp]; congr 1; by_cases h2 : 2 * B ≤ S * segP D Z P
      · rw [decide_eq_true h2]; exact (decide_eq_true (show RightP D Z S B P O from ⟨hS, hp, h2⟩)).symm
      · rw [decide_eq_false h2]; exact (decide_eq_false (show ¬ RightP D Z S B P O from fun x => h2 x.2.2)).symm
    · rw [if_neg hp]; congr 1; exact (decide_eq_false (show ¬ RightP D Z S B P O from fun x => hp x.2.1)).symm
  · have hf : rightB D Z S B P O = false := by
      unfold rightB
      exact decide_eq_false (fun x => hs (by obtain ⟨⟨a, b, c, d, e, f, g, h, i, j, k, l⟩, _⟩ := x; exact ⟨a, b, c, d, e, f, g, h, i, j, k, l⟩))
    rw [hf]
    unfold revetmentref05_G_Right.f
    refine ite_r (fun _ => hno true rfl) (fun h1 => ?_)
    refine ite_r (fun _ => hno true rfl) (fun h2 => ?_)
    refine ite_r (fun _ => hno true rfl) (fun h3 => ?_)
    refine ite_r (fun _ => hno true rfl) (fun h4 => ?_)
    refine ite_r (fun _ => hno true rfl) (fun h5 => ?_)
    refine ite_r (fun _ => hno true rfl) (fun h6 => ?_)
    refine ite_r (fun _ => hno true rfl) (fun h7 => ?_)
    refine ite_r (fun _ => hno true rfl) (fun h8 => ?_)
    refine ite_r (fun _ => hno true rfl) (fun h9 => ?_)
    refine ite_r (fun _ => hno true rfl) (fun h10 => ?_)
    refine ite_r (fun _ => hno true rfl) (fun h11 => ?_)
    exact hno _ (decide_eq_true (by omega))
end Go.Proofs.Ytcdblopnaimfoaa

/- A pool's functions that read: fullest, Pairs. Conditions: the geometry is small. -/
import Derived.Test.YtcdblopnaimfoaaPa
import Derived.WalkLawsBesides
namespace Go.Proofs.Ytcdblopnaimfoaa
open Go.RowKit Go.Conc

/-- The domain with the most free zones, of the first ones, but for one. -/
def fullP (C : Nat → List Int) (but : Int) : Nat → Int
  | 0 => -1
  | i + 1 => if (i : Int) ≠ but ∧ (fullP C but i < 0 ∨ (C (fullP C but i).toNat).length < (C i).length) then (i : Int) else fullP C but i
theorem fullP_b (C : Nat → List Int) (but : Int) : ∀ i, -1 ≤ fullP C but i ∧ fullP C but i < i
  | 0 => by simp [fullP]
  | i + 1 => by
    have := fullP_b C but i
    rw [fullP]
    split <;> (push_cast; omega)
def sumP (C : Nat → List Int) : Nat → Int
  | 0 => 0
  | i + 1 => sumP C i + (C i).length
def pairsP (Dn : Nat) (C : Nat → List Int) : Int := if sumP C Dn / 2 ≤ sumP C Dn - cntP Dn C (fullP C (-1) Dn) then sumP C Dn / 2 else sumP C Dn - cntP Dn C (fullP C (-1) Dn)
section
variable {base : Nat} {W W' : World} {p Dn Zn : Nat} {S B P O : Int} {l : Value} {qb qc : Nat → Nat} {C : Nat → List Int} {T : Nat → Prop}
theorem sumP_b (h : PoolAt base W p Dn Zn S B P O l qb qc C) : ∀ i, i ≤ Dn → 0 ≤ sumP C i ∧ sumP C i ≤ 64 * i
  | 0, _ => by simp [sumP]
  | i + 1, hi => by
    have := sumP_b h i (by omega)
    have h2 := h.len (d := i) (by omega)
    have := h.dz
    rw [sumP]
    push_cast
    omega

set_option linter.unusedSimpArgs false in
set_option maxRecDepth 100000 in
set_option maxHeartbeats 4000000 in
theorem fullest_calls (h : PoolAt base W p Dn Zn S B P O l qb qc C) (but : Int) : Calls Try.prog 64 #[.pointer (some ⟨p, 0, none⟩), .int .i64 but] W fun e w' => e = .returned (.int .i64 (fullP C but Dn)) ∧ Fr (fun _ => False) W w' := by
  obtain ⟨g, cap, rfl, hcell⟩ := h.val
  have hdz := h.dz
  have cp := fun i => blk_cell h.pc i
  have HC := Lib.hid hcell
  clear hcell
  go_enter Try.func64, Try.ntmps64
  go_wp2_with fail
  go_loopw [5, 13] (fun b i w => ∃ k : Nat, k ≤ Dn ∧ i = .int .i64 k ∧ b = .int .i64 (fullP C but k) ∧ Fr (fun _ => False) W w) (fun _ i _ => Dn - (intOf i).toNat)
  case atStart => exact ⟨0, by omega, rfl, rfl, Fr.refl _ _⟩
  case round =>
    clear cp
    obtain ⟨k, hk, rfl, rfl, hf⟩ := hrel
    have h2 := h.fr0 hf
    have hfb := fullP_b C but k
    by_cases hlt : k < Dn
    · have hc := hf.cell (HC.out k hlt) id
      have hfs : fullP C but (k + 1) = if (k : Int) ≠ but ∧ (fullP C but k < 0 ∨ (C (fullP C but k).toNat).length < (C k).length) then (k : Int) else fullP C but k := rfl
      have HS := Lib.hid hfs
      clear hfs
      obtain ⟨f, hfe⟩ : ∃ f, fullP C but k = f := ⟨_, rfl⟩
      rw [hfe] at hfb HS ⊢
      clear hfe
      have hlk := lenI _ _ _ _ _ (h2.q k hlt)
      rw [ints_length] at hlk
      go_wp2_with fail
      by_cases hkb : (k : Int) = but
      · have e1 : ((k : Int) != but) = false := by simpa using hkb
        refine (wpIn_wide (n := 0)).1 ?_
        refine regionIn_seq (fun _ V => Fr (fun _ => False) wr V) rfl (by kernel_rfl) (by kernel_rfl) (by kernel_rfl) (fun _ => trivial) rfl (Fr.refl _ _).drew ?_
        iterate 20
          first
          | (apply SeqR.step
             · rfl
             · intro d V hV ht
               simp [Oper.gives, execOp, Act.eval, go_sem, e1]
               exact ⟨rfl, hV⟩)
          | (apply SeqR.pass
             · rfl
             · exact fun d V hV _ => hV)
          simp only [Act.put, List.setIfInBounds_toArray, List.set_cons_succ, List.set_cons_zero]
        refine SeqR.nil fun V hV => ?_
        have e2 : fullP C but (k + 1) = f := by rw [HS.out, if_neg (by simp [hkb])]
        go_wp2_with fail
        go_roundw
        case rel => exact ⟨k + 1, by omega, by go_num, by rw [e2], hf.trans hV (fun _ _ h => h)⟩
        case measure => simp [intOf]; omega
      · have e1 : ((k : Int) != but) = true := by simpa using hkb
        by_cases hf0 : f < 0
        · have e3 : decide (f < 0) = true := decide_eq_true hf0
          refine (wpIn_wide (n := 0)).1 ?_
          refine regionIn_seq (fun _ V => Fr (fun _ => False) wr V) rfl (by kernel_rfl) (by kernel_rfl) (by kernel_rfl) (fun _ => trivial) rfl (Fr.refl _ _).drew ?_
          iterate 20
            first
            | (apply SeqR.step
               · rfl
               · intro d V hV ht
                 simp [Oper.gives, execOp, Act.eval, go_sem, e1, e3]
                 exact ⟨rfl, hV⟩)
            | (apply SeqR.pass
               · rfl
               · exact fun d V hV _ => hV)
            simp only [Act.put, List.setIfInBounds_toArray, List.set_cons_succ, List.set_cons_zero]
          refine SeqR.nil fun V hV => ?_
          have e2 : fullP C but (k + 1) = k := by rw [HS.out, if_pos ⟨hkb, .inl hf0⟩]
          go_wp2_with fail
          go_roundw
          case rel => exact ⟨k + 1, by omega, by go_num, by rw [e2], hf.trans hV (fun _ _ h => h)⟩
          case measure => simp [intOf]; omega
        · obtain ⟨j, rfl⟩ := Int.eq_ofNat_of_zero_le (by omega : 0 ≤ f)
          have hj : j < Dn := by omega
          have hcj := hf.cell (HC.out j hj) id
          have e3 : decide ((j : Int) < 0) = false := decide_eq_false (by omega)
          cases hcmp : decide ((C j).length < (C k).length) with
          | true =>
            have hcmp' : (C j).length < (C k).length := of_decide_eq_true hcmp
            refine (wpIn_wide (n := 0)).1 ?_
            refine regionIn_seq (fun _ V => Fr (fun _ => False) wr V) rfl (by kernel_rfl) (by kernel_rfl) (by kernel_rfl) (fun _ => trivial) rfl (Fr.refl _ _).drew ?_
            iterate 20
              first
              | (apply SeqR.step
                 · rfl
                 · intro d V hV ht
                   have h3 := h2.fr0 hV
                   have cp := fun i => blk_cell h3.pc i
                   have c1 := hV.cell hc id
                   have c2 := hV.cell hcj id
                   have l1 := lenI _ _ _ _ _ (h3.q k hlt)
                   have l2 := lenI _ _ _ _ _ (h3.q j hj)
                   rw [ints_length] at l1 l2
                   simp [Oper.gives, execOp, Act.eval, go_sem, e1, e3, cp, c1, c2, hcmp, hcmp', hj]
                   first
                   | exact ⟨rfl, hV⟩
                   | (refine callsIn_wide.2 (l1.mono ?_); rintro e W9 ⟨rfl, rfl⟩; exact ⟨_, rfl, rfl, hV⟩)
                   | (refine callsIn_wide.2 (l2.mono ?_); rintro e W9 ⟨rfl, rfl⟩; exact ⟨_, rfl, rfl, hV⟩))
              | (apply SeqR.pass
                 · rfl
                 · exact fun d V hV _ => hV)
              simp only [Act.put, List.setIfInBounds_toArray, List.set_cons_succ, List.set_cons_zero]
            refine SeqR.nil fun V hV => ?_
            have e2 : fullP C but (k + 1) = k := by rw [HS.out, if_pos ⟨hkb, .inr (by rw [Int.toNat_natCast]; exact hcmp')⟩]
            go_wp2_with fail
            go_roundw
            case rel => exact ⟨k + 1, by omega, by go_num, by rw [e2], hf.trans hV (fun _ _ h => h)⟩
            case measure => simp [intOf]; omega
          | false =>
            have hcmp' : ¬ (C j).length < (C k).length := of_decide_eq_false hcmp
            refine (wpIn_wide (n := 0)).1 ?_
            refine regionIn_seq (fun _ V => Fr (fun _ => False) wr V) rfl (by kernel_rfl) (by kernel_rfl) (by kernel_rfl) (fun _ => trivial) rfl (Fr.refl _ _).drew ?_
            iterate 20
              first
              | (apply SeqR.step
                 · rfl
                 · intro d V hV ht
                   have h3 := h2.fr0 hV
                   have cp := fun i => blk_cell h3.pc i
                   have c1 := hV.cell hc id
                   have c2 := hV.cell hcj id
                   have l1 := lenI _ _ _ _ _ (h3.q k hlt)
                   have l2 := lenI _ _ _ _ _ (h3.q j hj)
                   rw [ints_length] at l1 l2
                   simp [Oper.gives, execOp, Act.eval, go_sem, e1, e3, cp, c1, c2, hcmp, hcmp', hj]
                   first
                   | exact ⟨rfl, hV⟩
                   | (refine callsIn_wide.2 (l1.mono ?_); rintro e W9 ⟨rfl, rfl⟩; exact ⟨_, rfl, rfl, hV⟩)
                   | (refine callsIn_wide.2 (l2.mono ?_); rintro e W9 ⟨rfl, rfl⟩; exact ⟨_, rfl, rfl, hV⟩))
              | (apply SeqR.pass
                 · rfl
                 · exact fun d V hV _ => hV)
              simp only [Act.put, List.setIfInBounds_toArray, List.set_cons_succ, List.set_cons_zero]
            refine SeqR.nil fun V hV => ?_
            have e2 : fullP C but (k + 1) = (j : Int) := by rw [HS.out, if_neg (by rintro ⟨_, h | h⟩; omega; rw [Int.toNat_natCast] at h; exact hcmp' h)]
            go_wp2_with fail
            go_roundw
            case rel => exact ⟨k + 1, by omega, by go_num, by rw [e2], hf.trans hV (fun _ _ h => h)⟩
            case measure => simp [intOf]; omega
    · obtain rfl : k = Dn := by omega
      go_wp2_with fail
      go_ret
      exact ⟨rfl, hf⟩
end
end Go.Proofs.Ytcdblopnaimfoaa

/- A pool's number of pairs. Condition: the geometry is small. -/
import Derived.Test.YtcdblopnaimfoaaPb
namespace Go.Proofs.Ytcdblopnaimfoaa
open Go.RowKit Go.Conc

section
variable {base : Nat} {W W' : World} {p Dn Zn : Nat} {S B P O : Int} {l : Value} {qb qc : Nat → Nat} {C : Nat → List Int} {T : Nat → Prop}
theorem cntP_b (h : PoolAt base W p Dn Zn S B P O l qb qc C) (d : Int) : 0 ≤ cntP Dn C d ∧ cntP Dn C d ≤ 64 := by
  unfold cntP
  have := h.dz
  split
  · have := h.len (d := d.toNat) (by omega)
    omega
  · omega
set_option maxHeartbeats 1000000 in
theorem pairs_calls (h : PoolAt base W p Dn Zn S B P O l qb qc C) : Calls Try.prog 50 #[.pointer (some ⟨p, 0, none⟩)] W fun e w' => e = .returned (.int .i64 (pairsP Dn C)) ∧ Fr (fun _ => False) W w' := by
  obtain ⟨g, cap, rfl, hcell⟩ := h.val
  have hdz := h.dz
  have cp := fun i => blk_cell h.pc i
  have HC := Lib.hid hcell
  clear hcell
  go_enter Try.func50, Try.ntmps50
  go_wp2_with fail
  go_loopw [3, 11] (fun b i w => ∃ k : Nat, k ≤ Dn ∧ i = .int .i64 k ∧ b = .int .i64 (sumP C k) ∧ w = W) (fun _ i _ => Dn - (intOf i).toNat)
  case atStart => exact ⟨0, by omega, rfl, rfl, rfl⟩
  case round =>
    obtain ⟨k, hk, rfl, rfl, rfl⟩ := hrel
    have hsb := sumP_b h k hk
    by_cases hlt : k < Dn
    · have hc := HC.out k hlt
      have hl := lenI _ _ _ _ _ (h.q k hlt)
      rw [ints_length] at hl
      have hln := h.len hlt
      have hs1 := Lib.hid (show sumP C (k + 1) = sumP C k + (C k).length from rfl)
      obtain ⟨s, hs⟩ : ∃ s, sumP C k = s := ⟨_, rfl⟩
      rw [hs] at hsb hs1 ⊢
      clear hs
      go_wp2_with fail
      refine hl.mono ?_
      rintro e w' ⟨rfl, rfl⟩
      have hw : IntKind.i64.wrap (s + ((C k).length : Int)) = s + (C k).length := IntWalk.i64_in _ (by omega)
      go_wp2_with fail
      go_roundw
      case rel => exact ⟨k + 1, by omega, by go_num, by rw [hs1.out], trivial⟩
      case measure => simp [intOf]; omega
    · obtain rfl : k = Dn := by omega
      have hcb := cntP_b h (fullP C (-1) k)
      have hfull := fullest_calls h (-1)
      have hfb := fullP_b C (-1) k
      have hpp : pairsP k C = if sumP C k / 2 ≤ sumP C k - cntP k C (fullP C (-1) k) then sumP C k / 2 else sumP C k - cntP k C (fullP C (-1) k) := rfl
      have HP := Lib.hid hpp
      have HCN : ∀ V, Fr (fun _ => False) wr V → Calls Try.prog 49 #[.pointer (some ⟨p, 0, none⟩), .int .i64 (fullP C (-1) k)] V fun e w' => e = .returned (.int .i64 (cntP k C (fullP C (-1) k))) ∧ w' = V := fun V hV => count_calls (h.fr0 hV) _
      have HQ := Lib.hid HCN
      clear hpp HCN
      obtain ⟨s, hs⟩ : ∃ s, sumP C k = s := ⟨_, rfl⟩
      obtain ⟨f, hf⟩ : ∃ s, fullP C (-1) k = s := ⟨_, rfl⟩
      rw [hs] at hsb HP ⊢
      rw [hf] at HP hfull hcb HQ
      obtain ⟨c, hcn⟩ : ∃ s, cntP k C f = s := ⟨_, rfl⟩
      rw [hcn] at HP hcb HQ
      clear hs hf hcn
      have hq2 : s.tdiv 2 = s / 2 := Int.tdiv_eq_ediv_of_nonneg (by omega)
      go_wp2_with fail
      refine hfull.mono ?_
      rintro e V ⟨rfl, hV⟩
      have hct := HQ.out V hV
      go_wp2_with fail
      refine hct.mono ?_
      rintro e V2 ⟨rfl, rfl⟩
      have hw : IntKind.i64.wrap (s - c) = s - c := IntWalk.i64_in _ (by omega)
      go_wp2
      · go_ret
        exact ⟨by rw [HP.out, if_neg (by omega)]; rfl, hV⟩
      · go_ret
        exact ⟨by rw [HP.out, if_pos (by omega)]; rfl, hV⟩
end
end Go.Proofs.Ytcdblopnaimfoaa

/- The walk of the law on a queue that is full. -/
import Derived.Test.YtcdblopnaimfoaaQLb
namespace Go.Proofs.Ytcdblopnaimfoaa
open Go.RowKit Go.Conc

set_option maxRecDepth 100000 in
set_option maxHeartbeats 1000000 in
theorem queueFull_walk (w : World) (r : Int) (v : Value) (zs : List Int) (hm : zs.length ≤ maxLen) (hs : Sl1 w w.heap.size v (zs.map (.int .i64))) :
    Calls Try.prog 4 #[.int .i64 r, v] w fun e w' => e = .returned (.bool true) ∧ Below w.heap.size w w' := by
  obtain ⟨a, cap, rfl, hc⟩ := hs
  rw [List.length_map]
  unfold maxLen at hm
  by_cases hr : r < 1 ∨ 4096 < r
  · go_enter Try.func4, Try.ntmps4
    go_wp2_with fail
    refine (anchor9 _).mono ?_
    rintro e w1 ⟨rfl, hb1⟩
    go_wp2_with fail
    refine (newI_no r hr _).mono ?_
    rintro e w2 ⟨rfl, rfl⟩
    go_wp2
    go_ret
    exact ⟨rfl, hb1⟩
  by_cases hhi : 200 < zs.length
  · go_enter Try.func4, Try.ntmps4
    go_wp2_with fail
    refine (anchor9 _).mono ?_
    rintro e w1 ⟨rfl, hb1⟩
    go_wp2_with fail
    refine (newI_ok r (by omega) (by omega) _).mono ?_
    rintro e w2 ⟨rfl, hq2, hb2, hs2⟩
    go_wp2
    go_ret
    exact ⟨rfl, hb1.trans (hb2.mono hb1.size)⟩
  obtain ⟨R, rfl⟩ := Int.eq_ofNat_of_zero_le (by omega : 0 ≤ r)
  go_enter Try.func4, Try.ntmps4
  go_wp2_with fail
  refine (anchor9 _).mono ?_
  rintro e w1 ⟨rfl, hb1⟩
  go_wp2_with fail
  refine (newI_ok R (by omega) (by omega) _).mono ?_
  rintro e w2 ⟨rfl, hq2, hb2, hs2⟩
  rw [Int.toNat_natCast] at hq2
  go_wp2_with fail
  have hsz1 := hb1.size
  have hB2 : Below w.heap.size w w2 := hb1.trans (hb2.mono hsz1)
  clear hb1 hb2
  obtain ⟨c, hcq⟩ : ∃ c, w1.heap.size = c := ⟨_, rfl⟩
  rw [hcq] at hq2 hsz1 ⊢
  clear hcq
  go_loopw [33] (fun i wr => ∃ k : Nat, k ≤ zs.length ∧ i = .int .i64 k ∧ QAt 92 wr (c + 1) c R ((zs.take (min k R)).map (.int .i64)) ∧ Below w.heap.size w wr)
    (fun i _ => zs.length - (intOf i).toNat)
  case atStart => exact ⟨0, Nat.zero_le _, rfl, by simpa using hq2, hB2⟩
  case round =>
    obtain ⟨k, hk, rfl, hq, hB⟩ := hrel
    by_cases hlt : k < zs.length
    · obtain ⟨b, o, rfl, hbB, hcell⟩ := hc (by intro h; have := congrArg List.length h; simp at this; simp [this] at hlt)
      have hck : wr.cell? ⟨b, o + k, none⟩ = some (.int .i64 zs[k]) := by
        rw [hB.cell (p := ⟨b, o + k, none⟩) hbB, hcell k (by simpa using hlt)]; simp
      by_cases hkR : k < R
      · go_wp2_with fail
        refine (putI_room _ _ zs[k] _ _ _ hq (by simp; omega)).mono ?_
        rintro e w3 ⟨rfl, hq3, hf3⟩
        go_wp2_with fail
        go_roundw
        case rel =>
          refine ⟨k + 1, by omega, by go_num, ?_, hB.trans (hf3.below hB.size (by omega))⟩
          rw [Nat.min_eq_left (by omega)] at hq3 ⊢
          rw [take_map_succ _ _ _ hlt]; exact hq3
        case measure => simp [intOf]; omega
      · go_wp2_with fail
        refine (putI_full _ _ zs[k] _ _ _ hq (by simp; omega)).mono ?_
        rintro e w3 ⟨rfl, rfl⟩
        go_wp2_with fail
        go_roundw
        case rel =>
          refine ⟨k + 1, by omega, by go_num, ?_, hB⟩
          rw [Nat.min_eq_right (by omega)] at hq ⊢
          exact hq
        case measure => simp [intOf]; omega
    · obtain rfl : k = zs.length := by omega
      have hq' : QAt 92 wr (c + 1) c R (((zs.take R).drop 0).map (.int .i64)) := by
        rw [List.drop_zero]
        rcases Nat.le_total zs.length R with h | h
        · rw [Nat.min_eq_left h, List.take_length] at hq; rw [List.take_of_length_le h]; exact hq
        · rw [Nat.min_eq_right h] at hq; exact hq
      clear hq hlt hk
      by_cases hnR : zs.length < R
      all_goals
        go_wp2_with fail
        go_loopw [60] (fun i wr => ∃ k : Nat, k ≤ min R zs.length ∧ i = .int .i64 k ∧ QAt 92 wr (c + 1) c R (((zs.take R).drop k).map (.int .i64)) ∧ Below w.heap.size w wr)
          (fun i _ => min R zs.length - (intOf i).toNat)
        case atStart => exact ⟨0, Nat.zero_le _, rfl, hq', hB⟩
        case round =>
          clear hq' hB
          obtain ⟨k, hk, rfl, hq, hB⟩ := hrel
          by_cases hlt : k < min R zs.length
          · have hkn : k < zs.length := by omega
            have hkR : k < R := by omega
            obtain ⟨b, o, rfl, hbB, hcell⟩ := hc (by intro h; have := congrArg List.length h; simp at this; simp [this] at hkn)
            have hck : wr.cell? ⟨b, o + k, none⟩ = some (.int .i64 zs[k]) := by
              rw [hB.cell (p := ⟨b, o + k, none⟩) hbB, hcell k (by simpa using hkn)]; simp
            go_wp2_with fail
            rw [drop_map_cons _ _ _ (by rw [List.length_take]; exact hlt), List.getElem_take] at hq
            refine (takeI_some _ _ zs[k] _ _ _ hq).mono ?_
            rintro e w3 ⟨rfl, hq3, hf3⟩
            have hck3 := hf3.cell hck (show ¬ b = c by omega)
            go_wp2_with fail
            go_roundw
            case rel => exact ⟨k + 1, by omega, by go_num, hq3, hB.trans (hf3.below hB.size (by omega))⟩
            case measure => simp [intOf]; omega
          · have hq' : QAt 92 wr (c + 1) c R [] := by rwa [List.drop_of_length_le (by rw [List.length_take]; omega)] at hq
            have hdn : zs.length < R → ¬ k < zs.length := by omega
            have hdR : ¬ zs.length < R → ¬ k < R := by omega
            go_wp2_with fail
            refine (lenI _ _ _ _ _ hq').mono ?_
            rintro e w3 ⟨rfl, rfl⟩
            go_wp2
            go_ret
            exact ⟨by simp, hB⟩
end Go.Proofs.Ytcdblopnaimfoaa

/- The walk of the law on a queue of texts. -/
import Derived.Test.YtcdblopnaimfoaaQLa
import Derived.Test.YtcdblopnaimfoaaArgs
import Derived.Lib.Hide
namespace Go.Proofs.Ytcdblopnaimfoaa
open Go.RowKit Go.Conc

theorem take_map_succ {α β : Type} (l : List α) (f : α → β) (k : Nat) (h : k < l.length) : (l.take (k + 1)).map f = (l.take k).map f ++ [f l[k]] := by
  rw [List.take_succ_eq_append_getElem h, List.map_append]; rfl
theorem drop_map_cons {α β : Type} (l : List α) (f : α → β) (k : Nat) (h : k < l.length) : (l.drop k).map f = f l[k] :: (l.drop (k + 1)).map f := by
  rw [List.drop_eq_getElem_cons h, List.map_cons]

set_option maxRecDepth 100000 in
set_option maxHeartbeats 1000000 in
theorem queueTexts_walk (w : World) (v : Value) (ss : List ByteArray) (hm : ss.length ≤ maxLen) (hs : Sl1 w w.heap.size v (ss.map .string)) :
    Calls Try.prog 3 #[v] w fun e w' => e = .returned (.bool true) ∧ Below w.heap.size w w' := by
  obtain ⟨a, cap, rfl, hc⟩ := hs
  rw [List.length_map]
  unfold maxLen at hm
  by_cases hlo : ss.length < 1
  · go_enter Try.func3, Try.ntmps3
    go_wp2_with fail
    refine (anchor9 _).mono ?_
    rintro e w1 ⟨rfl, hb1⟩
    go_wp2
    go_ret
    exact ⟨rfl, hb1⟩
  by_cases hhi : 60 < ss.length
  · go_enter Try.func3, Try.ntmps3
    go_wp2_with fail
    refine (anchor9 _).mono ?_
    rintro e w1 ⟨rfl, hb1⟩
    go_wp2
    go_ret
    exact ⟨rfl, hb1⟩
  obtain ⟨b, o, rfl, hbB, hcell⟩ := hc (by intro h; apply hlo; have := congrArg List.length h; simp at this; simp [this])
  go_enter Try.func3, Try.ntmps3
  go_wp2_with fail
  refine (anchor9 _).mono ?_
  rintro e w1 ⟨rfl, hb1⟩
  go_wp2_with fail
  refine (newS_ok ss.length (by omega) (by omega) _).mono ?_
  rintro e w2 ⟨rfl, hq2, hb2, hs2⟩
  rw [Int.toNat_natCast] at hq2
  go_wp2_with fail
  have hsz1 := hb1.size
  have hB2 : Below w.heap.size w w2 := hb1.trans (hb2.mono hsz1)
  clear hb1 hb2 hc
  obtain ⟨c, hcq⟩ : ∃ c, w1.heap.size = c := ⟨_, rfl⟩
  rw [hcq] at hq2 hsz1 ⊢
  clear hcq
  go_loopw [37] (fun i wr => ∃ k : Nat, k ≤ ss.length ∧ i = .int .i64 k ∧ QAt 89 wr (c + 1) c ss.length ((ss.take k).map .string) ∧ Below w.heap.size w wr)
    (fun i _ => ss.length - (intOf i).toNat)
  case atStart => exact ⟨0, Nat.zero_le _, rfl, hq2, hB2⟩
  case round =>
    obtain ⟨k, hk, rfl, hq, hB⟩ := hrel
    by_cases hlt : k < ss.length
    · have hck : wr.cell? ⟨b, o + k, none⟩ = some (.string ss[k]) := by
        rw [hB.cell (p := ⟨b, o + k, none⟩) hbB, hcell k (by simpa using hlt)]; simp
      go_wp2_with fail
      refine (putS_room _ _ ss[k] _ _ _ hq (by simp; omega)).mono ?_
      rintro e w3 ⟨rfl, hq3, hf3⟩
      go_wp2_with fail
      go_roundw
      case rel =>
        refine ⟨k + 1, by omega, by go_num, ?_, hB.trans (hf3.below hB.size (by omega))⟩
        rw [take_map_succ _ _ _ hlt]; exact hq3
      case measure => simp [intOf]; omega
    · obtain rfl : k = ss.length := by omega
      go_wp2_with fail
      refine (putS_full _ _ _ _ _ _ hq (by simp)).mono ?_
      rintro e w3 ⟨rfl, rfl⟩
      go_wp2_with fail
      go_loopw [51] (fun i wr => ∃ k : Nat, k ≤ ss.length ∧ i = .int .i64 k ∧ QAt 89 wr (c + 1) c ss.length ((ss.drop k).map .string) ∧ Below w.heap.size w wr)
        (fun i _ => ss.length - (intOf i).toNat)
      case atStart => exact ⟨0, Nat.zero_le _, rfl, by simpa using hq, hB⟩
      case round =>
        clear hq hB hlt hk
        obtain ⟨k, hk, rfl, hq, hB⟩ := hrel
        by_cases hlt : k < ss.length
        · have hck : wr.cell? ⟨b, o + k, none⟩ = some (.string ss[k]) := by
            rw [hB.cell (p := ⟨b, o + k, none⟩) hbB, hcell k (by simpa using hlt)]; simp
          go_wp2_with fail
          rw [drop_map_cons _ _ _ hlt] at hq
          refine (takeS_some _ _ ss[k] _ _ _ hq).mono ?_
          rintro e w3 ⟨rfl, hq3, hf3⟩
          go_wp2_with fail
          go_roundw
          case rel => exact ⟨k + 1, by omega, by go_num, hq3, hB.trans (hf3.below hB.size (by omega))⟩
          case measure => simp [intOf]; omega
        · obtain rfl : k = ss.length := by omega
          go_wp2_with fail
          refine (takeS_none _ _ _ _ (by simpa using hq)).mono ?_
          rintro e w3 ⟨rfl, rfl⟩
          go_wp2
          go_ret
          exact ⟨rfl, hB⟩
end Go.Proofs.Ytcdblopnaimfoaa

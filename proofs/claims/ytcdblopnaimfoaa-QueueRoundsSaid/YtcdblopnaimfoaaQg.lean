/- The walk of the law on a queue's rounds. No condition. -/
import Derived.Test.YtcdblopnaimfoaaQe
import Derived.Test.YtcdblopnaimfoaaQLa
import Derived.Test.YtcdblopnaimfoaaArgs
namespace Go.Proofs.Ytcdblopnaimfoaa
open Go.RowKit Go.Conc

/-- Turned k times: the first becomes the last. -/
def rot (L : List Int) : Nat → List Int
  | 0 => L
  | k + 1 => match rot L k with | [] => [] | x :: t => t ++ [x]
theorem rot_len (L : List Int) : ∀ k, (rot L k).length = L.length
  | 0 => rfl
  | k + 1 => by
    have := rot_len L k
    rw [rot]
    cases h : rot L k with
    | nil => rw [h] at this; simpa using this
    | cons x t => rw [h] at this; simp at this ⊢; omega
theorem rot_low (L : List Int) : ∀ k, k ≤ L.length → rot L k = L.drop k ++ L.take k
  | 0, _ => by simp [rot]
  | k + 1, h => by
    rw [rot, rot_low L k (by omega), List.drop_eq_getElem_cons (by omega), List.cons_append, List.take_succ_eq_append_getElem (show k < L.length by omega), ← List.append_assoc]
theorem rot_add (L : List Int) (a : Nat) : ∀ b, rot (rot L a) b = rot L (a + b)
  | 0 => rfl
  | b + 1 => by rw [rot, rot_add L a b]; rfl
theorem rot_full (L : List Int) : ∀ r, rot L (r * L.length) = L
  | 0 => by simp [rot]
  | r + 1 => by
    rw [Nat.succ_mul, ← rot_add, rot_full L r, rot_low L _ (Nat.le_refl _)]
    simp
theorem row_far {W W' : World} {base : Nat} {u : Value} {xs : List Value} {n b c cap : Nat} {ys : List Value} (h : W.ownsRow base 3 1 u n xs) (hq : QAt 92 W b c cap ys) (hf : Fr (fun k => k = c) W W') : W'.ownsRow base 3 1 u n xs :=
  row_fr h hf fun k hk => by
    rintro rfl
    obtain ⟨cur, hc⟩ := row_obj h hk
    obtain ⟨_, s, r, h4⟩ := hq
    rw [h4] at hc; cases hc

set_option linter.unusedSimpArgs false in
set_option linter.unusedVariables false in
set_option maxRecDepth 100000 in
set_option maxHeartbeats 8000000 in
theorem queueRounds_walk (w : World) (room : Int) (v : Value) (zs : List Int) (hm : zs.length ≤ maxLen) (hs : Sl1 w w.heap.size v (zs.map (.int .i64))) (rounds : Int) :
    Calls Try.prog 10 #[.int .i64 room, v, .int .i64 rounds] w fun e w' => e = .returned (.bool true) ∧ Below w.heap.size w w' := by
  obtain ⟨a, cap0, rfl, hc⟩ := hs
  rw [List.length_map]
  have HC := Lib.hid hc
  clear hc
  go_enter Try.func10, Try.ntmps10
  go_wp2_with fail
  refine (anchor9 _).mono ?_
  rintro e w1 ⟨rfl, hb⟩
  go_wp2_with fail
  by_cases hrm : 1 ≤ room ∧ room ≤ 4096
  · obtain ⟨r1, r2⟩ := hrm
    obtain ⟨cap, rfl⟩ := Int.eq_ofNat_of_zero_le (by omega : 0 ≤ room)
    refine (newI_ok _ r1 r2 _).mono ?_
    rintro e w2 ⟨rfl, hq, hb2, hz2⟩
    rw [Int.toNat_natCast] at hq
    have b2 := hb.trans (hb2.mono hb.size)
    obtain ⟨c, hcd⟩ : ∃ c, w1.heap.size = c := ⟨_, rfl⟩
    have hcw : w.heap.size ≤ c := by have := hb.size; omega
    rw [hcd] at hq ⊢
    clear hcd hb2 hz2 hb w1
    have hcap : cap ≤ 4096 := by omega
    by_cases hbad : 100 < zs.length ∨ rounds < 0 ∨ 5 < rounds
    · by_cases g1 : 100 < zs.length
      · go_wp2
        go_ret
        exact ⟨rfl, b2⟩
      · by_cases g2 : rounds < 0
        · go_wp2
          go_ret
          exact ⟨rfl, b2⟩
        · have g3 : 5 < rounds := by omega
          go_wp2
          go_ret
          exact ⟨rfl, b2⟩
    · have g1 : ¬ 100 < zs.length := by omega
      have g2 : 0 ≤ rounds := by omega
      have g3 : rounds ≤ 5 := by omega
      clear hbad
      go_wp2_with fail
      go_loopw [9, 43] (fun u i W => ∃ k : Nat, k ≤ zs.length ∧ i = .int .i64 k ∧ QAt 92 W (c + 1) c cap (ints (zs.take (min k cap))) ∧ W.ownsRow w.heap.size 3 1 u (min k cap) (ints (zs.take (min k cap))) ∧ Below w.heap.size w W) (fun _ i _ => zs.length - (intOf i).toNat)
      case atStart => exact ⟨0, by omega, rfl, by simpa [ints] using hq, by rw [Nat.zero_min]; exact World.ownsRow_nil _ _ _ _, b2⟩
      case round =>
        clear hq b2
        obtain ⟨k, hk, rfl, hq, hrow, hb⟩ := hrel
        obtain ⟨au, cu, rfl⟩ := row_val hrow
        by_cases hlt : k < zs.length
        · obtain ⟨bb, o, rfl, hbl, hcell⟩ := HC.out (List.ne_nil_of_length_pos (by rw [List.length_map]; omega))
          have hcc : wr.cell? ⟨bb, o + k, none⟩ = some (.int .i64 zs[k]) := (World.cell?_of_block (hb.block bb hbl)).trans (by have := hcell k (by simpa using hlt); simpa using this)
          clear hcell
          go_wp2_with fail
          by_cases hkc : k < cap
          · have e1 : min k cap = k := by omega
            have e2 : min (k + 1) cap = k + 1 := by omega
            have E2 := Lib.hid e2
            clear e2
            rw [e1] at hq hrow ⊢
            refine (putI_room _ c zs[k] cap _ _ hq (by rw [ints_length, List.length_take]; omega)).mono ?_
            rintro e W2 ⟨rfl, hq2, hf2⟩
            rw [← ints_take_succ hlt] at hq2
            have hrow2 := row_far hrow hq hf2
            have hb2 := hb.trans (hf2.below hb.size (fun i hi e => by omega))
            have hs2 := hb2.size
            clear hrow hq hf2 hcc hb
            go_wp2_with (at_builtin; refine wpList_app (v := .slice au k cu) (m := 1) rfl (.tmp 51) (.tmp 53) rfl rfl rfl rfl (row_fr hrow2 ((Fr.refl (fun _ => False) W2).alloc _) (fun _ _ => id)) (one_rd W2 (.int .i64 zs[k])) rfl (by intro u hu; simp at hu; subst hu; rfl) (by omega) (by simp; omega) ?_; intro a4 n4 w4 hown4 hgrow4 hat4)
            have hf4 : Fr (fun j => (Value.slice au k cu).ownBlock = some j) (W2.alloc (.cells #[.int .i64 zs[k]] 3)) w4 := Fr.grown hgrow4 (fun k hk => hk)
            have hf5 : Fr (fun j => (Value.slice au k cu).ownBlock = some j) W2 w4 := ((Fr.refl _ W2).alloc _).trans hf4 (fun _ _ h => h)
            rw [← ints_take_succ hlt] at hown4
            have hq3 := hq2.fr hf5 (fun e => by obtain ⟨cur, hc⟩ := row_obj hrow2 e; exact ne_obj hc hq2.1 (by intro e; cases e) rfl) (fun e => by obtain ⟨cur, hc⟩ := row_obj hrow2 e; obtain ⟨_, s, r, h4⟩ := hq2; rw [h4] at hc; cases hc)
            have hb3 := hb2.trans (hf5.below hs2 (fun i hi e => by have := (hrow2.lt i e).1; omega))
            clear hrow2 hf4 hf5 hgrow4 hat4 hq2 hb2
            go_roundw
            case rel => exact ⟨k + 1, by omega, by go_num, by rw [E2.out]; exact hq3, by rw [E2.out]; exact hown4, hb3⟩
            case measure => simp [intOf]; omega
          · have e1 : min k cap = cap := by omega
            have e2 : min (k + 1) cap = cap := by omega
            have E2 := Lib.hid e2
            clear e2
            rw [e1] at hq hrow ⊢
            refine (putI_full _ c zs[k] cap _ _ hq (by rw [ints_length, List.length_take]; omega)).mono ?_
            rintro e W2 ⟨rfl, rfl⟩
            go_wp2_with fail
            go_roundw
            case rel => exact ⟨k + 1, by omega, by go_num, by rw [E2.out]; exact hq, by rw [E2.out]; exact hrow, hb⟩
            case measure => simp [intOf]; omega
        · obtain rfl : k = zs.length := by omega
          obtain ⟨n, hn⟩ : ∃ n, min zs.length cap = n := ⟨_, rfl⟩
          rw [hn] at hq hrow ⊢
          have hln : (zs.take n).length = n := by rw [List.length_take]; omega
          have hncap : n ≤ cap := by omega
          have hn100 : n ≤ 100 := by omega
          generalize zs.take n = L at hq hrow hln
          clear hn
          subst hln
          go_wp2_with fail
          refine (lenI _ _ _ _ _ hq).mono ?_
          rintro e W2 ⟨rfl, rfl⟩
          rw [ints_length]
          obtain ⟨r, rfl⟩ := Int.eq_ofNat_of_zero_le g2
          have hr5 : r ≤ 5 := by omega
          have hm500 : r * L.length ≤ 500 := by have := Nat.mul_le_mul hr5 hn100; omega
          obtain ⟨m, hmm⟩ : ∃ m, r * L.length = m := ⟨_, rfl⟩
          have hmul : (r : Int) * (L.length : Int) = (m : Int) := by rw [← hmm]; push_cast; rfl
          have hw : IntKind.i64.wrap ((r : Int) * (L.length : Int)) = (m : Int) := by rw [hmul]; exact IntWalk.i64_in _ (by omega)
          have HM := Lib.hid hmm
          rw [hmm] at hm500
          clear hmm hmul
          go_wp2_with fail
          go_loopw [60] (fun i W => ∃ j : Nat, j ≤ m ∧ i = .int .i64 j ∧ QAt 92 W (c + 1) c cap (ints (rot L j)) ∧ W.ownsRow w.heap.size 3 1 (.slice au L.length cu) L.length (ints L) ∧ Below w.heap.size w W) (fun i _ => m - (intOf i).toNat)
          case atStart => exact ⟨0, by omega, rfl, hq, hrow, hb⟩
          case round =>
            clear hq hrow hb
            obtain ⟨j, hj, rfl, hq, hrow, hb⟩ := hrel
            by_cases hlt2 : j < m
            · obtain ⟨x, t, hxt⟩ : ∃ x t, rot L j = x :: t := by
                cases h : rot L j with
                | nil =>
                  have := rot_len L j
                  rw [h] at this
                  have h2 := HM.out
                  rw [← this] at h2
                  simp at h2
                  omega
                | cons x t => exact ⟨x, t, rfl⟩
              have hnx : rot L (j + 1) = t ++ [x] := by rw [rot, hxt]
              have hlt3 : t.length < cap := by have := rot_len L j; rw [hxt] at this; simp at this; omega
              rw [hxt] at hq
              have HN := Lib.hid hnx
              clear hxt hnx
              go_wp2_with fail
              refine (takeI_some _ c x cap (ints t) _ hq).mono ?_
              rintro e W3 ⟨rfl, hq3, hf3⟩
              have hrow3 := row_far hrow hq hf3
              have hb3 := hb.trans (hf3.below hb.size (fun i hi e => by omega))
              clear hrow hq hb hf3
              go_wp2_with fail
              refine (putI_room _ c x cap (ints t) _ hq3 (by rw [ints_length]; exact hlt3)).mono ?_
              rintro e W4 ⟨rfl, hq4, hf4⟩
              have hrow4 := row_far hrow3 hq3 hf4
              have hb4 := hb3.trans (hf4.below hb3.size (fun i hi e => by omega))
              have e9 : ints t ++ [.int .i64 x] = ints (rot L (j + 1)) := by rw [HN.out]; simp [ints]
              rw [e9] at hq4
              clear hrow3 hq3 hb3 hf4 e9
              go_wp2_with fail
              go_roundw
              case rel => exact ⟨j + 1, by omega, by go_num, hq4, hrow4, hb4⟩
              case measure => simp [intOf]; omega
            · obtain rfl : j = m := by omega
              have hrr : rot L j = L := by rw [← HM.out]; exact rot_full L r
              rw [hrr] at hq
              clear hrr
              have hk2 := keepQ hq (by omega) hncap 44 #[] (fun _ => true) (enters Try.func44 rfl (by decide)) (fun x V _ => by simpa using allC x V)
              have hft : L.filter (fun _ => true) = L := by simp
              rw [hft, Nat.sub_self] at hk2
              clear hft
              go_wp2_with fail
              refine hk2.mono ?_
              rintro e W3 ⟨rfl, hq3, hf3⟩
              have hrow3 := row_far hrow hq hf3
              have hb3 := hb.trans (hf3.below hb.size (fun i hi e => by omega))
              clear hk2
              go_wp2_with fail
              refine (sameQ hq3 (row_rd hrow3) (by omega) hncap).mono ?_
              rintro e W4 ⟨rfl, hq4, hf4⟩
              have hb4 := hb3.trans (hf4.below hb3.size (fun i hi e => by omega))
              go_wp2
              go_ret
              exact ⟨rfl, hb4⟩
  · refine (newI_no _ (by omega) _).mono ?_
    rintro e w2 ⟨rfl, rfl⟩
    go_wp2
    go_ret
    exact ⟨rfl, hb⟩
end Go.Proofs.Ytcdblopnaimfoaa

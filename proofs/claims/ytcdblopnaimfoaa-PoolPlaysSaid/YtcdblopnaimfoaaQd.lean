/- The document's queue; 'even'; 'same'. Conditions: fewer than 1000 numbers. -/
import Derived.Test.YtcdblopnaimfoaaQc
namespace Go.Proofs.Ytcdblopnaimfoaa
open Go.RowKit Go.Conc

/-- Has it no lowest bit? -/
def evenP (x : Int) : Bool := bits BinOp.and IntKind.i64 x 1 == 0
theorem evenC (x : Int) (w : World) : Calls Try.prog 41 #[.int .i64 x] w fun e w' => e = .returned (.bool (evenP x)) ∧ w' = w := by
  go_enter Try.func41, Try.ntmps41
  go_wp2
  go_ret
  exact ⟨rfl, rfl⟩
theorem allC (x : Int) (w : World) : Calls Try.prog 44 #[.int .i64 x] w fun e w' => e = .returned (.bool true) ∧ w' = w := by
  go_enter Try.func44, Try.ntmps44
  go_wp2
  go_ret
  exact ⟨rfl, rfl⟩
section
variable {w w' : World} {D : Nat → Prop} {v : Value} {L : List Int} {b c cap : Nat} {T : TypeId} {xs ys : List Value}
/-- What is read does not lie in a channel. -/
theorem RdAt.frc (h : RdAt D w v ys) (hq : QAt T w b c cap xs) (hf : Fr (fun k => k = c) w w') : RdAt D w' v ys := by
  obtain ⟨a, cp, h1, h2, h3⟩ := h
  refine ⟨a, cp, h1, h2, fun hne => ?_⟩
  obtain ⟨g, o, e, hD, hc⟩ := h3 hne
  refine ⟨g, o, e, hD, fun i hi => hf.cell (hc i hi) ?_⟩
  rintro rfl
  obtain ⟨_, s, r, h4⟩ := hq
  have := hc i hi
  simp [World.cell?, h4] at this
theorem RdAt.sharp (h : RdAt D w v ys) (hq : QAt T w b c cap xs) : RdAt (fun k => D k ∧ k < w.heap.size ∧ k ≠ c) w v ys := by
  obtain ⟨a, cp, h1, h2, h3⟩ := h
  refine ⟨a, cp, h1, h2, fun hne => ?_⟩
  obtain ⟨g, o, e, hD, hc⟩ := h3 hne
  have h0 := hc 0 (List.length_pos_iff.2 hne)
  refine ⟨g, o, e, ⟨hD, cell_lt h0, ?_⟩, hc⟩
  rintro rfl
  obtain ⟨_, s, r, h4⟩ := hq
  simp [World.cell?, h4] at h0
theorem RdAt.frb (h : RdAt D w v ys) (hf : Fr (fun k => w.heap.size ≤ k) w w') : RdAt D w' v ys := by
  obtain ⟨a, cp, h1, h2, h3⟩ := h
  refine ⟨a, cp, h1, h2, fun hne => ?_⟩
  obtain ⟨g, o, e, hD, hc⟩ := h3 hne
  exact ⟨g, o, e, hD, fun i hi => hf.cell (hc i hi) (by have := cell_lt (hc i hi); simp at this ⊢; omega)⟩
theorem RdAt.cellAt (h : RdAt D w v ys) {i : Nat} (hi : i < ys.length) : ∃ g o cp, v = .slice (some ⟨g, o, none⟩) ys.length cp ∧ D g ∧ w.cell? ⟨g, o + i, none⟩ = some ys[i] := by
  obtain ⟨a, cp, rfl, -, h3⟩ := h
  obtain ⟨g, o, rfl, hD, hc⟩ := h3 (List.ne_nil_of_length_pos (by omega))
  exact ⟨g, o, cp, rfl, hD, hc i hi⟩
theorem RdAt.val (h : RdAt D w v ys) : ∃ a cp, v = .slice a ys.length cp := by
  obtain ⟨a, cp, rfl, -, -⟩ := h
  exact ⟨a, cp, rfl⟩

theorem refPut_full (h : RdAt D w v (ints L)) (room x : Int) (hr : room ≤ L.length) : Calls Try.prog 37 #[v, .int .i64 room, .int .i64 x] w fun e w' => e = .returned (.tuple #[v, .int .i64 17]) ∧ w' = w := by
  obtain ⟨a, cp, rfl⟩ := h.val
  rw [ints_length]
  go_enter Try.func37, Try.ntmps37
  go_wp2
  go_ret2
  exact ⟨rfl, rfl⟩
set_option maxHeartbeats 1000000 in
theorem refPut_room (h : RdAt D w v (ints L)) (room x : Int) (hr : L.length < room) (hl : L.length < 1000) : Calls Try.prog 37 #[v, .int .i64 room, .int .i64 x] w fun e w' =>
    ∃ u, e = .returned (.tuple #[u, .int .i64 0]) ∧ w'.ownsRow w.heap.size 3 1 u (L.length + 1) (ints (L ++ [x])) ∧ Fr (fun _ => False) w w' := by
  have h' := h
  obtain ⟨a, cp, rfl⟩ := h.val
  rw [ints_length] at h h' ⊢
  go_enter Try.func37, Try.ntmps37
  go_wp2_with (first | (at_builtin; refine wpList_app (v := .slice none 0 0) (m := L.length) rfl (.tmp 14) (.tmp 15) rfl rfl rfl rfl (World.ownsRow_nil w w.heap.size 3 1) h (ints_length L) (ints_one L) (by omega) (Nat.le_refl _) ?_; intro a3 n3 w3 hown3 hgrow3 hat3; rw [Nat.zero_add, List.nil_append] at hown3; have f3 : Fr (fun _ => False) w w3 := Fr.grown hgrow3 (fun k hk => by cases hk); have s3 := f3.size; rw [Nat.zero_add]) | (at_builtin; refine wpList_app (v := .slice a3 L.length n3) (m := 1) rfl (.tmp 17) (.tmp 19) rfl rfl rfl rfl (row_fr hown3 ((Fr.refl (fun _ => False) w3).alloc _) (fun _ _ => id)) (one_rd w3 (.int .i64 x)) rfl (by intro u hu; simp at hu; subst hu; rfl) (by omega) (by simp; omega) ?_; intro a4 n4 w4 hown4 hgrow4 hat4))
  have f4 : Fr (fun j => (Value.slice a3 L.length n3).ownBlock = some j) (w3.alloc (.cells #[.int .i64 x] 3)) w4 := Fr.grown hgrow4 (fun k hk => hk)
  have f5 : Fr (fun _ => False) w w4 := (f3.alloc _).trans f4 (fun i hi e => by have := (hown3.lt i e).1; omega)
  have e1 : ints L ++ [.int .i64 x] = ints (L ++ [x]) := by simp [ints]
  rw [e1] at hown4
  go_ret2
  exact ⟨_, rfl, hown4, f5⟩
theorem refTake_none (h : RdAt D w v (ints [])) : Calls Try.prog 38 #[v] w fun e w' => e = .returned (.tuple #[v, .int .i64 0, .int .i64 15]) ∧ w' = w := by
  obtain ⟨a, cp, rfl⟩ := h.val
  rw [ints_length]
  go_enter Try.func38, Try.ntmps38
  go_wp2
  go_ret3
  exact ⟨rfl, rfl⟩
set_option maxHeartbeats 1000000 in
theorem refTake_some {x : Int} (h : RdAt D w v (ints (x :: L))) (hl : L.length < 1000) : Calls Try.prog 38 #[v] w fun e w' => ∃ u, e = .returned (.tuple #[u, .int .i64 x, .int .i64 0]) ∧ RdAt D w' u (ints L) ∧ Fr (fun _ => False) w w' := by
  obtain ⟨a, cp, rfl, hcp, hc⟩ := h
  obtain ⟨g, o, rfl, hD, hcell⟩ := hc (by simp [ints])
  have h0 : w.cell? ⟨g, o, none⟩ = some (.int .i64 x) := by simpa [ints] using hcell 0 (by simp [ints])
  have hgt : ∀ i (hi : i < (ints L).length), w.cell? ⟨g, o + 1 + i, none⟩ = some (ints L)[i] := fun i hi => by
    have := hcell (i + 1) (by simp [ints] at hi ⊢; omega)
    rw [show o + 1 + i = o + (i + 1) by omega, this]; simp [ints]
  have H := Lib.hid hgt
  rw [ints_length] at hcp ⊢
  rw [List.length_cons] at hcp ⊢
  clear hgt hcell hc
  by_cases h1 : cp = 1
  · subst h1
    obtain rfl : L = [] := List.length_eq_zero_iff.1 (by omega)
    go_enter Try.func38, Try.ntmps38
    go_wp2_with fail
    go_quiet (fail)
    go_wp2_with fail
    go_ret3
    exact ⟨_, rfl, ⟨_, 0, rfl, Nat.le_refl _, fun h => absurd rfl h⟩, ⟨rfl, rfl, rfl, Nat.le_refl _, fun _ _ _ => rfl⟩⟩
  · have h2 : 1 < cp := by omega
    have h3 : ¬ cp ≤ 1 := by omega
    go_enter Try.func38, Try.ntmps38
    go_wp2_with fail
    go_quiet (fail)
    go_wp2_with fail
    go_ret3
    refine ⟨_, rfl, ⟨_, cp - 1, by rw [ints_length]; rfl, by rw [ints_length]; omega, fun _ => ⟨g, o + 1, rfl, hD, fun i hi => ?_⟩⟩, ⟨rfl, rfl, rfl, Nat.le_refl _, fun _ _ _ => rfl⟩⟩
    simpa using H.out i hi
theorem filter_take {p : Int → Bool} {k : Nat} (h : k < L.length) : (L.take (k + 1)).filter p = (L.take k).filter p ++ (if p L[k] = true then [L[k]] else []) := by
  rw [List.take_succ_eq_append_getElem h, List.filter_append]
  cases hp : p L[k] <;> simp [hp]
set_option maxHeartbeats 2000000 in
theorem refEven (h : RdAt D w v (ints L)) (hl : L.length < 1000) : Calls Try.prog 39 #[v] w fun e w' =>
    ∃ u, e = .returned u ∧ w'.ownsRow w.heap.size 3 1 u (L.filter evenP).length (ints (L.filter evenP)) ∧ Fr (fun _ => False) w w' := by
  have h' := h
  obtain ⟨a, cp, rfl⟩ := h.val
  rw [ints_length] at h h' ⊢
  go_enter Try.func39, Try.ntmps39
  go_wp2_with fail
  go_loopw [3, 4] (fun u i W => ∃ k : Nat, k ≤ L.length ∧ i = .int .i64 k ∧ W.ownsRow w.heap.size 3 1 u ((L.take k).filter evenP).length (ints ((L.take k).filter evenP)) ∧ Fr (fun _ => False) w W) (fun _ i _ => L.length - (intOf i).toNat)
  case atStart => exact ⟨0, by omega, rfl, World.ownsRow_nil _ _ _ _, Fr.refl _ _⟩
  case round =>
    obtain ⟨k, hk, rfl, hu, hf⟩ := hrel
    obtain ⟨au, cu, rfl⟩ := row_val hu
    have hlf : ((L.take k).filter evenP).length ≤ k := Nat.le_trans (List.length_filter_le _ _) (by rw [List.length_take]; omega)
    have hsz := hf.size
    by_cases hlt : k < L.length
    · obtain ⟨g, o, cp', e, hD, hcl⟩ := (h.fr hf (fun _ _ => id)).cellAt (i := k) (by rw [ints_length]; exact hlt)
      rw [ints_get L hlt] at hcl
      rw [ints_length] at e
      cases e
      have HT := Lib.hid (filter_take (p := evenP) hlt)
      obtain ⟨n, hn⟩ : ∃ n, ((L.take k).filter evenP).length = n := ⟨_, rfl⟩
      obtain ⟨M, hM⟩ : ∃ M, (L.take k).filter evenP = M := ⟨_, rfl⟩
      have HM := Lib.hid hM
      rw [hM] at hu hn ⊢
      rw [hn] at hu ⊢
      have HN := Lib.hid hn
      have hnk : n ≤ k := by rw [← hn, ← hM]; exact hlf
      clear hlf hM hn
      cases hpk : (bits BinOp.and IntKind.i64 L[k] 1 == 0) with
      | true =>
        have HP := Lib.hid (show evenP L[k] = true from hpk)
        go_wp2_with (at_builtin; refine wpList_app (v := .slice au n cu) (m := 1) rfl (.tmp 17) (.tmp 22) rfl rfl rfl rfl (row_fr hu ((Fr.refl (fun _ => False) wr).alloc _) (fun _ _ => id)) (one_rd wr (.int .i64 L[k])) rfl (by intro u hu; simp at hu; subst hu; rfl) (by omega) (by simp; omega) ?_; intro a4 n4 w4 hown4 hgrow4 hat4)
        have f4 : Fr (fun j => (Value.slice au n cu).ownBlock = some j) (wr.alloc (.cells #[.int .i64 L[k]] 3)) w4 := Fr.grown hgrow4 (fun k hk => hk)
        have f5 : Fr (fun _ => False) w w4 := (hf.alloc _).trans f4 (fun i hi e => by have := (hu.lt i e).1; omega)
        have e2 : ints M ++ [.int .i64 L[k]] = ints ((L.take (k + 1)).filter evenP) := by rw [HT.out, HP.out, HM.out]; simp [ints]
        have e3 : n + 1 = ((L.take (k + 1)).filter evenP).length := by rw [HT.out, HP.out, HM.out]; simp [HN.out]
        rw [e2] at hown4
        have E3 := Lib.hid e3
        clear e2 e3 hu hgrow4 hat4 f4 hpk
        go_roundw
        case rel => exact ⟨k + 1, by omega, by go_num, by rw [← E3.out]; exact hown4, f5⟩
        case measure => simp [intOf]; omega
      | false =>
        have HP := Lib.hid (show evenP L[k] = false from hpk)
        go_wp2_with fail
        have e2 : (L.take (k + 1)).filter evenP = M := by rw [HT.out, HP.out, HM.out]; simp
        go_roundw
        case rel => exact ⟨k + 1, by omega, by go_num, by rw [e2, HN.out]; exact hu, hf⟩
        case measure => simp [intOf]; omega
    · obtain rfl : k = L.length := by omega
      rw [List.take_length] at hu ⊢
      clear hlf
      go_wp2_with fail
      go_ret
      exact ⟨_, rfl, hu, hf⟩
end
end Go.Proofs.Ytcdblopnaimfoaa

/- A zone's memory, and what its functions do: New, failed, State, Len, Safe, Read, Append, Reset, Finish, Flush, Crash, Fail. Conditions: a zone's length is below 100, its numbers are small. -/
import Derived.Test.YtlffjkijjggpkaaFr
import Derived.Test.YtlffjkijjggpkaaProg
import Derived.Maps.AppendAt
import Derived.OwnWalk
import Derived.BigQuiet
import Derived.Lib.Hide
import Derived.OwnWalkIn
namespace Go.Proofs.Ytlffjkijjggpkaa
open Go.RowKit Go.Conc

/-- The zone at block b: its sectors L (in the row of v), its size, how many are safe, its state, whether it was finished. -/
structure ZAt (T E : TypeId) (base : Nat) (w : World) (b : Nat) (v : Value) (L : List Value) (size safe st : Int) (fin : Bool) : Prop where
  z : w.heap[b]? = some (.cells #[v, .int .i64 size, .int .i64 safe, .int .i64 st, .bool fin] T (0, 0))
  row : w.ownsRow base E 1 v L.length L
  ne : v.ownBlock ≠ some b
  bb : base ≤ b

/-- Its blocks. -/
def Zf (b : Nat) (v : Value) : Nat → Prop := fun k => k = b ∨ v.ownBlock = some k

section
variable {T E : TypeId} {base : Nat} {w w' : World} {b : Nat} {v : Value} {L : List Value} {size safe st : Int} {fin : Bool} {S : Nat → Prop}
theorem row_fr {n : Nat} {size : Nat} (h : w.ownsRow base E size v n L) (hf : Fr S w w') (hn : ∀ k, v.ownBlock = some k → ¬ S k) : w'.ownsRow base E size v n L := by
  refine ⟨h.1, ?_⟩
  rcases h.2 with h0 | ⟨g, cap, cur, rfl, hb, hg, h1⟩
  · exact .inl h0
  · exact .inr ⟨g, cap, cur, rfl, hb, hf.heap hg (hn g rfl), h1⟩
theorem ZAt.fr (h : ZAt T E base w b v L size safe st fin) (hf : Fr S w w') (h1 : ¬ S b) (h2 : ∀ k, v.ownBlock = some k → ¬ S k) : ZAt T E base w' b v L size safe st fin :=
  ⟨hf.heap h.z h1, row_fr h.row hf h2, h.ne, h.bb⟩
theorem ZAt.lt (h : ZAt T E base w b v L size safe st fin) : b < w.heap.size := blk_lt h.z
theorem ZAt.rlt (h : ZAt T E base w b v L size safe st fin) {k : Nat} (hk : v.ownBlock = some k) : base ≤ k ∧ k < w.heap.size := h.row.lt k hk
theorem row_val {n : Nat} {size : Nat} (h : w.ownsRow base E size v n L) : ∃ a cap, v = .slice a n cap := by
  rcases h.2 with ⟨rfl, rfl⟩ | ⟨g, cap, cur, rfl, _⟩
  · exact ⟨none, 0, rfl⟩
  · exact ⟨_, cap, rfl⟩
/-- A sector's cell. -/
theorem row_cell {n : Nat} (h : w.ownsRow base E 1 v n L) {i : Nat} (hi : i < L.length) : ∃ g cap, v = .slice (some ⟨g, 0, none⟩) n cap ∧ w.cell? ⟨g, i, none⟩ = some L[i] ∧ w.frozen? ⟨g, i, none⟩ = false := by
  rcases h.2 with ⟨rfl, rfl⟩ | ⟨g, cap, cur, rfl, hb, hg, h1, h2, h3, h4⟩
  · have := h.1; omega
  · refine ⟨g, cap, rfl, ?_, blk_frozen hg i⟩
    rw [blk_cell hg i]
    have h5 : cur.toList[i]? = some L[i] := by
      have h6 : (cur.toList.take (n * 1))[i]? = some L[i] := by rw [h4]; exact List.getElem?_eq_getElem hi
      rw [List.getElem?_take] at h6
      split at h6
      · exact h6
      · cases h6
    simpa using h5
theorem row_len {n : Nat} (h : w.ownsRow base E 1 v n L) : L.length = n := by have := h.1; omega
theorem Fr.drewN (S : Nat → Prop) (w : World) (n : Nat) : Fr S w (w.drewN n) := ⟨rfl, rfl, rfl, Nat.le_refl _, fun _ _ _ => rfl⟩
theorem Fr.grown {row : Option Nat} (h : w.grownBy w' row) (hs : ∀ k, row = some k → S k) : Fr S w w' :=
  ⟨h.os, h.tape, h.output, h.size, fun k hk hn => h.block k hk (fun e => hn (hs k e.symm))⟩
/-- The zone's numbers written anew. -/
theorem ZAt.put3 (h : ZAt T E base w b v L size safe st fin) (x : Int) : ZAt T E base (w.setCell ⟨b, 3, none⟩ (.int .i64 x)) b v L size safe x fin :=
  ⟨by simpa using blk_put h.z 3 (.int .i64 x), row_fr h.row (Fr.set1 w b 3 _) (fun k hk e => h.ne (by rw [hk, e])), h.ne, h.bb⟩
theorem ZAt.put2 (h : ZAt T E base w b v L size safe st fin) (x : Int) : ZAt T E base (w.setCell ⟨b, 2, none⟩ (.int .i64 x)) b v L size x st fin :=
  ⟨by simpa using blk_put h.z 2 (.int .i64 x), row_fr h.row (Fr.set1 w b 2 _) (fun k hk e => h.ne (by rw [hk, e])), h.ne, h.bb⟩
theorem ZAt.put4 (h : ZAt T E base w b v L size safe st fin) (x : Bool) : ZAt T E base (w.setCell ⟨b, 4, none⟩ (.bool x)) b v L size safe st x :=
  ⟨by simpa using blk_put h.z 4 (.bool x), row_fr h.row (Fr.set1 w b 4 _) (fun k hk e => h.ne (by rw [hk, e])), h.ne, h.bb⟩
/-- Another row laid into it. -/
theorem ZAt.put0 (h : ZAt T E base w b v L size safe st fin) {v' : Value} {L' : List Value} (hr : w.ownsRow base E 1 v' L'.length L') (hn : v'.ownBlock ≠ some b) :
    ZAt T E base (w.setCell ⟨b, 0, none⟩ v') b v' L' size safe st fin :=
  ⟨by simpa using blk_put h.z 0 v', row_fr hr (Fr.set1 w b 0 _) (fun k hk e => hn (by rw [hk, e])), hn, h.bb⟩
end

theorem info3 : (Try.prog.info? 3).map (fun i => (i.zero, i.size, i.bytes)) = some (some (.int .i64 0), 1, 8) := by kernel_rfl
theorem info9 : (Try.prog.info? 9).map (fun i => (i.zero, i.size, i.bytes)) = some (some (.string ⟨#[]⟩), 1, 16) := by kernel_rfl
/-- The error of a zone that failed. -/
def failedOf (st : Int) : Int := if st = 4 then 32 else if st = 3 then 30 else 0

section
variable {base : Nat} {w : World} {b : Nat} {v : Value} {L : List Value} {size safe st : Int} {fin : Bool}
theorem newS_ok (h1 : 1 ≤ size) (h2 : size ≤ 64) (w : World) : Calls Try.prog 8 #[.int .i64 size] w fun e w' =>
    e = .returned (.tuple #[.pointer (some ⟨w.heap.size, 0, none⟩), .int .i64 0]) ∧ w' = w.alloc (.cells #[.slice none 0 0, .int .i64 size, .int .i64 0, .int .i64 0, .bool false] 56) := by
  go_enter Try.func8, Try.ntmps8
  go_wp2
  go_ret2
  exact ⟨rfl, rfl⟩
theorem newS_no (h : size < 1 ∨ 64 < size) (w : World) : Calls Try.prog 8 #[.int .i64 size] w fun e w' => e = .returned (.tuple #[.pointer none, .int .i64 13]) ∧ w' = w := by
  rcases h with h | h
  · go_enter Try.func8, Try.ntmps8
    go_wp2
    go_ret2
    exact ⟨rfl, rfl⟩
  · have h' : 1 ≤ size := by omega
    go_enter Try.func8, Try.ntmps8
    go_wp2
    go_ret2
    exact ⟨rfl, rfl⟩
/-- The new zone. -/
theorem newS_at (w : World) (size : Int) (hb : base ≤ w.heap.size) : ZAt 56 9 base (w.alloc (.cells #[.slice none 0 0, .int .i64 size, .int .i64 0, .int .i64 0, .bool false] 56)) w.heap.size (.slice none 0 0) [] size 0 0 false :=
  ⟨blk_new _ _, World.ownsRow_nil _ _ _ _, by simp [Value.ownBlock], hb⟩
theorem failedS (h : ZAt 56 9 base w b v L size safe st fin) : Calls Try.prog 28 #[.pointer (some ⟨b, 0, none⟩)] w fun e w' => e = .returned (.int .i64 (failedOf st)) ∧ w' = w := by
  have cg := fun i => blk_cell h.z i
  by_cases h4 : st = 4
  · have e : failedOf st = 32 := if_pos h4
    rw [e]
    go_enter Try.func28, Try.ntmps28
    go_wp2
    go_ret
    exact ⟨rfl, rfl⟩
  · by_cases h3 : st = 3
    · have e : failedOf st = 30 := by rw [failedOf, if_neg h4, if_pos h3]
      rw [e]
      go_enter Try.func28, Try.ntmps28
      go_wp2
      go_ret
      exact ⟨rfl, rfl⟩
    · have e : failedOf st = 0 := by rw [failedOf, if_neg h4, if_neg h3]
      rw [e]
      go_enter Try.func28, Try.ntmps28
      go_wp2
      go_ret
      exact ⟨rfl, rfl⟩
theorem stateS (h : ZAt 56 9 base w b v L size safe st fin) : Calls Try.prog 11 #[.pointer (some ⟨b, 0, none⟩)] w fun e w' => e = .returned (.int .i64 st) ∧ w' = w := by
  have cg := fun i => blk_cell h.z i
  go_enter Try.func11, Try.ntmps11
  go_wp2
  go_ret
  exact ⟨rfl, rfl⟩
theorem lenS (h : ZAt 56 9 base w b v L size safe st fin) : Calls Try.prog 13 #[.pointer (some ⟨b, 0, none⟩)] w fun e w' => e = .returned (.int .i64 L.length) ∧ w' = w := by
  obtain ⟨a, cap, rfl⟩ := row_val h.row
  have cg := fun i => blk_cell h.z i
  go_enter Try.func13, Try.ntmps13
  go_wp2
  go_ret
  exact ⟨rfl, rfl⟩
theorem readS_off (h : ZAt 56 9 base w b v L size safe 4 fin) (x : Int) : Calls Try.prog 10 #[.pointer (some ⟨b, 0, none⟩), .int .i64 x] w fun e w' => e = .returned (.tuple #[.string ⟨#[]⟩, .int .i64 32]) ∧ w' = w := by
  have cg := fun i => blk_cell h.z i
  go_enter Try.func10, Try.ntmps10
  go_wp2
  go_ret2
  exact ⟨rfl, rfl⟩
theorem readS_no (h : ZAt 56 9 base w b v L size safe st fin) (h4 : st ≠ 4) (x : Int) (hx : x < 0 ∨ L.length ≤ x) : Calls Try.prog 10 #[.pointer (some ⟨b, 0, none⟩), .int .i64 x] w fun e w' => e = .returned (.tuple #[.string ⟨#[]⟩, .int .i64 31]) ∧ w' = w := by
  obtain ⟨a, cap, rfl⟩ := row_val h.row
  have cg := fun i => blk_cell h.z i
  rcases hx with hx | hx
  · go_enter Try.func10, Try.ntmps10
    go_wp2
    go_ret2
    exact ⟨rfl, rfl⟩
  · have h0 : 0 ≤ x := by omega
    go_enter Try.func10, Try.ntmps10
    go_wp2
    go_ret2
    exact ⟨rfl, rfl⟩
theorem readS_at (h : ZAt 56 9 base w b v L size safe st fin) (h4 : st ≠ 4) (k : Nat) (hk : k < L.length) : Calls Try.prog 10 #[.pointer (some ⟨b, 0, none⟩), .int .i64 k] w fun e w' => e = .returned (.tuple #[L[k], .int .i64 0]) ∧ w' = w := by
  obtain ⟨g, cap, rfl, hc, hfz⟩ := row_cell h.row hk
  have cg := fun i => blk_cell h.z i
  go_enter Try.func10, Try.ntmps10
  go_wp2
  go_ret2
  exact ⟨rfl, rfl⟩
theorem resetS_no (h : ZAt 56 9 base w b v L size safe st fin) (hs : failedOf st ≠ 0) : Calls Try.prog 12 #[.pointer (some ⟨b, 0, none⟩)] w fun e w' => e = .returned (.int .i64 (failedOf st)) ∧ w' = w := by
  go_enter Try.func12, Try.ntmps12
  go_wp2_with fail
  refine (failedS h).mono ?_
  rintro e w' ⟨rfl, rfl⟩
  go_wp2
  go_ret
  exact ⟨rfl, rfl⟩
set_option maxHeartbeats 1000000 in
theorem resetS_ok (h : ZAt 56 9 base w b v L size safe st fin) (hs : failedOf st = 0) : Calls Try.prog 12 #[.pointer (some ⟨b, 0, none⟩)] w fun e w' =>
    e = .returned (.int .i64 0) ∧ ZAt 56 9 base w' b (.slice none 0 0) [] size 0 0 false ∧ Fr (Zf b v) w w' := by
  have h1 := h.put0 (World.ownsRow_nil w base 9 1) (by simp [Value.ownBlock])
  have h2 := h1.put2 0
  have h3 := h2.put3 0
  have h4 := h3.put4 false
  have f4 : Fr (Zf b v) w _ := (((Fr.setCell (Fr.refl (Zf b v) w) (p := ⟨b, 0, none⟩) (.inl (.inl rfl)) (.slice none 0 0)).setCell (p := ⟨b, 2, none⟩) (.inl (.inl rfl)) (.int .i64 0)).setCell (p := ⟨b, 3, none⟩) (.inl (.inl rfl)) (.int .i64 0)).setCell (p := ⟨b, 4, none⟩) (.inl (.inl rfl)) (.bool false)
  have g0 := fun i => blk_frozen h.z i
  have g1 := fun i => blk_frozen h1.z i
  have g2 := fun i => blk_frozen h2.z i
  have g3 := fun i => blk_frozen h3.z i
  go_enter Try.func12, Try.ntmps12
  go_wp2_with fail
  refine (failedS h).mono ?_
  rintro e w' ⟨rfl, rfl⟩
  rw [hs]
  have c0 := fun i => blk_cell h.z i
  have c1 := fun i => blk_cell h1.z i
  have c2 := fun i => blk_cell h2.z i
  have c3 := fun i => blk_cell h3.z i
  go_wp2
  go_ret
  exact ⟨rfl, h4, f4⟩
theorem appendS_no (h : ZAt 56 9 base w b v L size safe st fin) (hs : failedOf st ≠ 0) (x : Value) : Calls Try.prog 9 #[.pointer (some ⟨b, 0, none⟩), x] w fun e w' => e = .returned (.tuple #[.int .i64 0, .int .i64 (failedOf st)]) ∧ w' = w := by
  go_enter Try.func9, Try.ntmps9
  go_wp2_with fail
  refine (failedS h).mono ?_
  rintro e w' ⟨rfl, rfl⟩
  go_wp2
  go_ret2
  exact ⟨rfl, rfl⟩
theorem appendS_full (h : ZAt 56 9 base w b v L size safe 2 fin) (x : Value) : Calls Try.prog 9 #[.pointer (some ⟨b, 0, none⟩), x] w fun e w' => e = .returned (.tuple #[.int .i64 0, .int .i64 17]) ∧ w' = w := by
  go_enter Try.func9, Try.ntmps9
  go_wp2_with fail
  refine (failedS h).mono ?_
  rintro e w' ⟨rfl, rfl⟩
  have cg := fun i => blk_cell h.z i
  have e0 : failedOf 2 = 0 := rfl
  rw [e0]
  go_wp2
  go_ret2
  exact ⟨rfl, rfl⟩
set_option maxHeartbeats 2000000 in
theorem appendS_room (h : ZAt 56 9 base w b v L size safe st fin) (hs : failedOf st = 0) (h2 : st ≠ 2) (hl : L.length < 100) (x : ByteArray) : Calls Try.prog 9 #[.pointer (some ⟨b, 0, none⟩), Value.string x] w fun e w' =>
    e = .returned (.tuple #[.int .i64 L.length, .int .i64 0]) ∧ ∃ v', ZAt 56 9 base w' b v' (L ++ [Value.string x]) size safe (if (L.length : Int) + 1 = size then 2 else 1) fin ∧ Fr (Zf b v) w w' ∧ ∀ k, v'.ownBlock = some k → v.ownBlock = some k ∨ w.heap.size ≤ k := by
  obtain ⟨i0, hi, hz0, hz1, hz2⟩ := info_parts info9
  have cg := fun i => blk_cell h.z i
  have hlt := h.lt
  have ca := fun o i => blk_cell (blk_alloc h.z o) i
  have hmx : L.length + 1 ≤ maxLen := by unfold maxLen; omega
  obtain ⟨st2, hst2⟩ : ∃ x : Int, (if (L.length : Int) + 1 = size then (2 : Int) else 1) = x := ⟨_, rfl⟩
  rw [hst2]
  go_enter Try.func9, Try.ntmps9
  go_wp2_with fail
  refine (failedS h).mono ?_
  rintro e w' ⟨rfl, rfl⟩
  rw [hs]
  go_wp2_with (at_builtin; refine wpList_append_own_at _ rfl _ _ 22 rfl base 9 i0 (.string ⟨#[]⟩) 1 16 Try.underlying22 hi hz0 hz1 hz2 rfl (by decide) v _ _ rfl (row_fr h.row ((Fr.refl (fun _ => False) w').alloc _) (fun _ _ h => h)) ⟨w'.heap.size, 0, none⟩ 1 1 [Value.string x] rfl rfl (cell_one_new _ _ _) (by intro u hu; simp at hu; subst hu; rfl) hmx (by omega) (by have := h.bb; simp; omega) ?_; intro v1 w1 hown1 hgrow1 hnil1 hat1; obtain ⟨a1, cap1, rfl⟩ := row_val hown1; have z1 := (hgrow1.block b (by simp; omega) (fun e => h.ne e.symm)).trans (blk_alloc h.z _); have c1 := fun i => blk_cell z1 i; have f1 := fun i => blk_frozen z1 i; have z2 := blk_put z1 0 (.slice a1 (L.length + 1) cap1); have c2 := fun i => blk_cell z2 i; have f2 := fun i => blk_frozen z2 i)
  rw [World.size_alloc] at hat1
  have hn1 : (Value.slice a1 (L.length + 1) cap1).ownBlock ≠ some b := fun e => by
    rcases hat1 with e1 | e1
    · exact h.ne (e1.symm.trans e)
    · rw [e] at e1; cases e1; omega
  have hl1 : (L ++ [Value.string x]).length = L.length + 1 := by simp
  have hB : ZAt 56 9 base (w1.setCell ⟨b, 0, none⟩ (.slice a1 (L.length + 1) cap1)) b (.slice a1 (L.length + 1) cap1) (L ++ [Value.string x]) size safe st fin :=
    ⟨by simpa using z2, by rw [hl1]; exact row_fr hown1 (Fr.set1 w1 b 0 _) (fun k hk e => hn1 (by rw [hk, e])), hn1, h.bb⟩
  have hC := hB.put3 1
  have hF : Fr (Zf b v) w' ((w1.setCell ⟨b, 0, none⟩ (.slice a1 (L.length + 1) cap1)).setCell ⟨b, 3, none⟩ (.int .i64 1)) :=
    ((((Fr.refl (Zf b v) w').alloc _).trans (Fr.grown hgrow1 (fun k hk => .inr hk)) (fun _ _ h => h)).setCell (.inl (.inl rfl)) _).setCell (.inl (.inl rfl)) _
  have hown : ∀ k, (Value.slice a1 (L.length + 1) cap1).ownBlock = some k → v.ownBlock = some k ∨ w'.heap.size ≤ k := fun k hk => by
    rcases hat1 with e1 | e1
    · exact .inl (e1.symm.trans hk)
    · rw [hk] at e1; cases e1; exact .inr (by omega)
  clear hB z2 c2 f2 z1 c1 f1 hgrow1 hown1 hnil1 hat1 cg ca h
  generalize (w1.setCell ⟨b, 0, none⟩ (.slice a1 (L.length + 1) cap1)).setCell ⟨b, 3, none⟩ (.int .i64 1) = w3 at hC hF ⊢
  clear w1
  have c3 := fun i => blk_cell hC.z i
  have f3 := fun i => blk_frozen hC.z i
  by_cases hsz : (L.length : Int) + 1 = size
  · rw [if_pos hsz] at hst2
    subst hst2
    have hd : decide ((L.length : Int) + 1 = size) = true := decide_eq_true hsz
    go_quiet (fail)
    replace hC := hC.fr (Fr.drewN (fun _ => False) w3 nq) id (fun _ _ => id)
    replace hF := hF.trans (Fr.drewN (fun _ => False) w3 nq) (fun _ _ h => h.elim)
    generalize w3.drewN nq = w4 at hC hF ⊢
    clear c3 f3 w3
    have c3 := fun i => blk_cell hC.z i
    have f3 := fun i => blk_frozen hC.z i
    have hD := hC.put3 2
    have hF2 : Fr (Zf b v) w' (w4.setCell ⟨b, 3, none⟩ (.int .i64 2)) := hF.setCell (.inl (.inl rfl)) _
    have c4 := fun i => blk_cell hD.z i
    have f4 := fun i => blk_frozen hD.z i
    go_wp2
    go_ret2
    refine ⟨by simp; omega, _, hD, hF2, hown⟩
  · rw [if_neg hsz] at hst2
    subst hst2
    have hd : decide ((L.length : Int) + 1 = size) = false := decide_eq_false hsz
    go_quiet (fail)
    replace hC := hC.fr (Fr.drewN (fun _ => False) w3 nq) id (fun _ _ => id)
    replace hF := hF.trans (Fr.drewN (fun _ => False) w3 nq) (fun _ _ h => h.elim)
    generalize w3.drewN nq = w4 at hC hF ⊢
    clear c3 f3 w3
    have c3 := fun i => blk_cell hC.z i
    have f3 := fun i => blk_frozen hC.z i
    go_wp2
    go_ret2
    refine ⟨by simp, _, hC, hF, hown⟩
end

section
variable {base : Nat} {w : World} {b : Nat} {v : Value} {L : List Value} {size safe st : Int} {fin : Bool}
theorem newI_ok (h1 : 1 ≤ size) (h2 : size ≤ 64) (w : World) : Calls Try.prog 14 #[.int .i64 size] w fun e w' =>
    e = .returned (.tuple #[.pointer (some ⟨w.heap.size, 0, none⟩), .int .i64 0]) ∧ w' = w.alloc (.cells #[.slice none 0 0, .int .i64 size, .int .i64 0, .int .i64 0, .bool false] 58) := by
  go_enter Try.func14, Try.ntmps14
  go_wp2
  go_ret2
  exact ⟨rfl, rfl⟩
theorem newI_no (h : size < 1 ∨ 64 < size) (w : World) : Calls Try.prog 14 #[.int .i64 size] w fun e w' => e = .returned (.tuple #[.pointer none, .int .i64 13]) ∧ w' = w := by
  rcases h with h | h
  · go_enter Try.func14, Try.ntmps14
    go_wp2
    go_ret2
    exact ⟨rfl, rfl⟩
  · have h' : 1 ≤ size := by omega
    go_enter Try.func14, Try.ntmps14
    go_wp2
    go_ret2
    exact ⟨rfl, rfl⟩
/-- The new zone. -/
theorem newI_at (w : World) (size : Int) (hb : base ≤ w.heap.size) : ZAt 58 3 base (w.alloc (.cells #[.slice none 0 0, .int .i64 size, .int .i64 0, .int .i64 0, .bool false] 58)) w.heap.size (.slice none 0 0) [] size 0 0 false :=
  ⟨blk_new _ _, World.ownsRow_nil _ _ _ _, by simp [Value.ownBlock], hb⟩
theorem failedI (h : ZAt 58 3 base w b v L size safe st fin) : Calls Try.prog 29 #[.pointer (some ⟨b, 0, none⟩)] w fun e w' => e = .returned (.int .i64 (failedOf st)) ∧ w' = w := by
  have cg := fun i => blk_cell h.z i
  by_cases h4 : st = 4
  · have e : failedOf st = 32 := if_pos h4
    rw [e]
    go_enter Try.func29, Try.ntmps29
    go_wp2
    go_ret
    exact ⟨rfl, rfl⟩
  · by_cases h3 : st = 3
    · have e : failedOf st = 30 := by rw [failedOf, if_neg h4, if_pos h3]
      rw [e]
      go_enter Try.func29, Try.ntmps29
      go_wp2
      go_ret
      exact ⟨rfl, rfl⟩
    · have e : failedOf st = 0 := by rw [failedOf, if_neg h4, if_neg h3]
      rw [e]
      go_enter Try.func29, Try.ntmps29
      go_wp2
      go_ret
      exact ⟨rfl, rfl⟩
theorem stateI (h : ZAt 58 3 base w b v L size safe st fin) : Calls Try.prog 25 #[.pointer (some ⟨b, 0, none⟩)] w fun e w' => e = .returned (.int .i64 st) ∧ w' = w := by
  have cg := fun i => blk_cell h.z i
  go_enter Try.func25, Try.ntmps25
  go_wp2
  go_ret
  exact ⟨rfl, rfl⟩
theorem lenI (h : ZAt 58 3 base w b v L size safe st fin) : Calls Try.prog 21 #[.pointer (some ⟨b, 0, none⟩)] w fun e w' => e = .returned (.int .i64 L.length) ∧ w' = w := by
  obtain ⟨a, cap, rfl⟩ := row_val h.row
  have cg := fun i => blk_cell h.z i
  go_enter Try.func21, Try.ntmps21
  go_wp2
  go_ret
  exact ⟨rfl, rfl⟩
theorem readI_off (h : ZAt 58 3 base w b v L size safe 4 fin) (x : Int) : Calls Try.prog 26 #[.pointer (some ⟨b, 0, none⟩), .int .i64 x] w fun e w' => e = .returned (.tuple #[.int .i64 0, .int .i64 32]) ∧ w' = w := by
  have cg := fun i => blk_cell h.z i
  go_enter Try.func26, Try.ntmps26
  go_wp2
  go_ret2
  exact ⟨rfl, rfl⟩
theorem readI_no (h : ZAt 58 3 base w b v L size safe st fin) (h4 : st ≠ 4) (x : Int) (hx : x < 0 ∨ L.length ≤ x) : Calls Try.prog 26 #[.pointer (some ⟨b, 0, none⟩), .int .i64 x] w fun e w' => e = .returned (.tuple #[.int .i64 0, .int .i64 31]) ∧ w' = w := by
  obtain ⟨a, cap, rfl⟩ := row_val h.row
  have cg := fun i => blk_cell h.z i
  rcases hx with hx | hx
  · go_enter Try.func26, Try.ntmps26
    go_wp2
    go_ret2
    exact ⟨rfl, rfl⟩
  · have h0 : 0 ≤ x := by omega
    go_enter Try.func26, Try.ntmps26
    go_wp2
    go_ret2
    exact ⟨rfl, rfl⟩
theorem readI_at (h : ZAt 58 3 base w b v L size safe st fin) (h4 : st ≠ 4) (k : Nat) (hk : k < L.length) : Calls Try.prog 26 #[.pointer (some ⟨b, 0, none⟩), .int .i64 k] w fun e w' => e = .returned (.tuple #[L[k], .int .i64 0]) ∧ w' = w := by
  obtain ⟨g, cap, rfl, hc, hfz⟩ := row_cell h.row hk
  have cg := fun i => blk_cell h.z i
  go_enter Try.func26, Try.ntmps26
  go_wp2
  go_ret2
  exact ⟨rfl, rfl⟩
theorem resetI_no (h : ZAt 58 3 base w b v L size safe st fin) (hs : failedOf st ≠ 0) : Calls Try.prog 17 #[.pointer (some ⟨b, 0, none⟩)] w fun e w' => e = .returned (.int .i64 (failedOf st)) ∧ w' = w := by
  go_enter Try.func17, Try.ntmps17
  go_wp2_with fail
  refine (failedI h).mono ?_
  rintro e w' ⟨rfl, rfl⟩
  go_wp2
  go_ret
  exact ⟨rfl, rfl⟩
set_option maxHeartbeats 1000000 in
theorem resetI_ok (h : ZAt 58 3 base w b v L size safe st fin) (hs : failedOf st = 0) : Calls Try.prog 17 #[.pointer (some ⟨b, 0, none⟩)] w fun e w' =>
    e = .returned (.int .i64 0) ∧ ZAt 58 3 base w' b (.slice none 0 0) [] size 0 0 false ∧ Fr (Zf b v) w w' := by
  have h1 := h.put0 (World.ownsRow_nil w base 3 1) (by simp [Value.ownBlock])
  have h2 := h1.put2 0
  have h3 := h2.put3 0
  have h4 := h3.put4 false
  have f4 : Fr (Zf b v) w _ := (((Fr.setCell (Fr.refl (Zf b v) w) (p := ⟨b, 0, none⟩) (.inl (.inl rfl)) (.slice none 0 0)).setCell (p := ⟨b, 2, none⟩) (.inl (.inl rfl)) (.int .i64 0)).setCell (p := ⟨b, 3, none⟩) (.inl (.inl rfl)) (.int .i64 0)).setCell (p := ⟨b, 4, none⟩) (.inl (.inl rfl)) (.bool false)
  have g0 := fun i => blk_frozen h.z i
  have g1 := fun i => blk_frozen h1.z i
  have g2 := fun i => blk_frozen h2.z i
  have g3 := fun i => blk_frozen h3.z i
  go_enter Try.func17, Try.ntmps17
  go_wp2_with fail
  refine (failedI h).mono ?_
  rintro e w' ⟨rfl, rfl⟩
  rw [hs]
  have c0 := fun i => blk_cell h.z i
  have c1 := fun i => blk_cell h1.z i
  have c2 := fun i => blk_cell h2.z i
  have c3 := fun i => blk_cell h3.z i
  go_wp2
  go_ret
  exact ⟨rfl, h4, f4⟩
theorem appendI_no (h : ZAt 58 3 base w b v L size safe st fin) (hs : failedOf st ≠ 0) (x : Value) : Calls Try.prog 16 #[.pointer (some ⟨b, 0, none⟩), x] w fun e w' => e = .returned (.tuple #[.int .i64 0, .int .i64 (failedOf st)]) ∧ w' = w := by
  go_enter Try.func16, Try.ntmps16
  go_wp2_with fail
  refine (failedI h).mono ?_
  rintro e w' ⟨rfl, rfl⟩
  go_wp2
  go_ret2
  exact ⟨rfl, rfl⟩
theorem appendI_full (h : ZAt 58 3 base w b v L size safe 2 fin) (x : Value) : Calls Try.prog 16 #[.pointer (some ⟨b, 0, none⟩), x] w fun e w' => e = .returned (.tuple #[.int .i64 0, .int .i64 17]) ∧ w' = w := by
  go_enter Try.func16, Try.ntmps16
  go_wp2_with fail
  refine (failedI h).mono ?_
  rintro e w' ⟨rfl, rfl⟩
  have cg := fun i => blk_cell h.z i
  have e0 : failedOf 2 = 0 := rfl
  rw [e0]
  go_wp2
  go_ret2
  exact ⟨rfl, rfl⟩
set_option maxHeartbeats 2000000 in
theorem appendI_room (h : ZAt 58 3 base w b v L size safe st fin) (hs : failedOf st = 0) (h2 : st ≠ 2) (hl : L.length < 100) (x : Int) : Calls Try.prog 16 #[.pointer (some ⟨b, 0, none⟩), Value.int .i64 x] w fun e w' =>
    e = .returned (.tuple #[.int .i64 L.length, .int .i64 0]) ∧ ∃ v', ZAt 58 3 base w' b v' (L ++ [Value.int .i64 x]) size safe (if (L.length : Int) + 1 = size then 2 else 1) fin ∧ Fr (Zf b v) w w' ∧ ∀ k, v'.ownBlock = some k → v.ownBlock = some k ∨ w.heap.size ≤ k := by
  obtain ⟨i0, hi, hz0, hz1, hz2⟩ := info_parts info3
  have cg := fun i => blk_cell h.z i
  have hlt := h.lt
  have ca := fun o i => blk_cell (blk_alloc h.z o) i
  have hmx : L.length + 1 ≤ maxLen := by unfold maxLen; omega
  obtain ⟨st2, hst2⟩ : ∃ x : Int, (if (L.length : Int) + 1 = size then (2 : Int) else 1) = x := ⟨_, rfl⟩
  rw [hst2]
  go_enter Try.func16, Try.ntmps16
  go_wp2_with fail
  refine (failedI h).mono ?_
  rintro e w' ⟨rfl, rfl⟩
  rw [hs]
  go_wp2_with (at_builtin; refine wpList_append_own_at _ rfl _ _ 39 rfl base 3 i0 (.int .i64 0) 1 8 Try.underlying39 hi hz0 hz1 hz2 rfl (by decide) v _ _ rfl (row_fr h.row ((Fr.refl (fun _ => False) w').alloc _) (fun _ _ h => h)) ⟨w'.heap.size, 0, none⟩ 1 1 [Value.int .i64 x] rfl rfl (cell_one_new _ _ _) (by intro u hu; simp at hu; subst hu; rfl) hmx (by omega) (by have := h.bb; simp; omega) ?_; intro v1 w1 hown1 hgrow1 hnil1 hat1; obtain ⟨a1, cap1, rfl⟩ := row_val hown1; have z1 := (hgrow1.block b (by simp; omega) (fun e => h.ne e.symm)).trans (blk_alloc h.z _); have c1 := fun i => blk_cell z1 i; have f1 := fun i => blk_frozen z1 i; have z2 := blk_put z1 0 (.slice a1 (L.length + 1) cap1); have c2 := fun i => blk_cell z2 i; have f2 := fun i => blk_frozen z2 i)
  rw [World.size_alloc] at hat1
  have hn1 : (Value.slice a1 (L.length + 1) cap1).ownBlock ≠ some b := fun e => by
    rcases hat1 with e1 | e1
    · exact h.ne (e1.symm.trans e)
    · rw [e] at e1; cases e1; omega
  have hl1 : (L ++ [Value.int .i64 x]).length = L.length + 1 := by simp
  have hB : ZAt 58 3 base (w1.setCell ⟨b, 0, none⟩ (.slice a1 (L.length + 1) cap1)) b (.slice a1 (L.length + 1) cap1) (L ++ [Value.int .i64 x]) size safe st fin :=
    ⟨by simpa using z2, by rw [hl1]; exact row_fr hown1 (Fr.set1 w1 b 0 _) (fun k hk e => hn1 (by rw [hk, e])), hn1, h.bb⟩
  have hC := hB.put3 1
  have hF : Fr (Zf b v) w' ((w1.setCell ⟨b, 0, none⟩ (.slice a1 (L.length + 1) cap1)).setCell ⟨b, 3, none⟩ (.int .i64 1)) :=
    ((((Fr.refl (Zf b v) w').alloc _).trans (Fr.grown hgrow1 (fun k hk => .inr hk)) (fun _ _ h => h)).setCell (.inl (.inl rfl)) _).setCell (.inl (.inl rfl)) _
  have hown : ∀ k, (Value.slice a1 (L.length + 1) cap1).ownBlock = some k → v.ownBlock = some k ∨ w'.heap.size ≤ k := fun k hk => by
    rcases hat1 with e1 | e1
    · exact .inl (e1.symm.trans hk)
    · rw [hk] at e1; cases e1; exact .inr (by omega)
  clear hB z2 c2 f2 z1 c1 f1 hgrow1 hown1 hnil1 hat1 cg ca h
  generalize (w1.setCell ⟨b, 0, none⟩ (.slice a1 (L.length + 1) cap1)).setCell ⟨b, 3, none⟩ (.int .i64 1) = w3 at hC hF ⊢
  clear w1
  have c3 := fun i => blk_cell hC.z i
  have f3 := fun i => blk_frozen hC.z i
  by_cases hsz : (L.length : Int) + 1 = size
  · rw [if_pos hsz] at hst2
    subst hst2
    have hd : decide ((L.length : Int) + 1 = size) = true := decide_eq_true hsz
    go_quiet (fail)
    replace hC := hC.fr (Fr.drewN (fun _ => False) w3 nq) id (fun _ _ => id)
    replace hF := hF.trans (Fr.drewN (fun _ => False) w3 nq) (fun _ _ h => h.elim)
    generalize w3.drewN nq = w4 at hC hF ⊢
    clear c3 f3 w3
    have c3 := fun i => blk_cell hC.z i
    have f3 := fun i => blk_frozen hC.z i
    have hD := hC.put3 2
    have hF2 : Fr (Zf b v) w' (w4.setCell ⟨b, 3, none⟩ (.int .i64 2)) := hF.setCell (.inl (.inl rfl)) _
    have c4 := fun i => blk_cell hD.z i
    have f4 := fun i => blk_frozen hD.z i
    go_wp2
    go_ret2
    refine ⟨by simp; omega, _, hD, hF2, hown⟩
  · rw [if_neg hsz] at hst2
    subst hst2
    have hd : decide ((L.length : Int) + 1 = size) = false := decide_eq_false hsz
    go_quiet (fail)
    replace hC := hC.fr (Fr.drewN (fun _ => False) w3 nq) id (fun _ _ => id)
    replace hF := hF.trans (Fr.drewN (fun _ => False) w3 nq) (fun _ _ h => h.elim)
    generalize w3.drewN nq = w4 at hC hF ⊢
    clear c3 f3 w3
    have c3 := fun i => blk_cell hC.z i
    have f3 := fun i => blk_frozen hC.z i
    go_wp2
    go_ret2
    refine ⟨by simp, _, hC, hF, hown⟩
end

end Go.Proofs.Ytlffjkijjggpkaa

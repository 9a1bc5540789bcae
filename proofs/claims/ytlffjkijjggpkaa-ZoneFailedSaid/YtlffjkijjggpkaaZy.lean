/- More of a zone of numbers: Safe, Flush, Finish, Fail, Clone, Crash. Conditions: a zone's length is below 100, its numbers are small. -/
import Derived.Test.YtlffjkijjggpkaaZz
import Derived.Test.YtlffjkijjggpkaaRv
import Derived.Laws.Cover3
namespace Go.Proofs.Ytlffjkijjggpkaa
open Go.RowKit Go.Conc

section
variable {base : Nat} {w : World} {b : Nat} {v : Value} {L : List Value} {size safe st : Int} {fin : Bool}
theorem safeI (h : ZAt 58 3 base w b v L size safe st fin) : Calls Try.prog 15 #[.pointer (some ⟨b, 0, none⟩)] w fun e w' => e = .returned (.int .i64 safe) ∧ w' = w := by
  have cg := fun i => blk_cell h.z i
  go_enter Try.func15, Try.ntmps15
  go_wp2
  go_ret
  exact ⟨rfl, rfl⟩
theorem flushI (h : ZAt 58 3 base w b v L size safe st fin) : Calls Try.prog 19 #[.pointer (some ⟨b, 0, none⟩)] w fun e w' => (∃ u, e = .returned u) ∧ ZAt 58 3 base w' b v L size L.length st fin ∧ Fr (Zf b v) w w' := by
  obtain ⟨a, cap, rfl⟩ := row_val h.row
  have cg := fun i => blk_cell h.z i
  have fg := fun i => blk_frozen h.z i
  go_enter Try.func19, Try.ntmps19
  go_wp2
  go_end0
  exact ⟨⟨_, rfl⟩, h.put2 _, (Fr.refl _ _).setCell (.inl (.inl rfl)) _⟩
theorem finishI_no (h : ZAt 58 3 base w b v L size safe st fin) (hs : failedOf st ≠ 0) : Calls Try.prog 18 #[.pointer (some ⟨b, 0, none⟩)] w fun e w' => e = .returned (.int .i64 (failedOf st)) ∧ w' = w := by
  go_enter Try.func18, Try.ntmps18
  go_wp2_with fail
  refine (failedI h).mono ?_
  rintro e w' ⟨rfl, rfl⟩
  go_wp2
  go_ret
  exact ⟨rfl, rfl⟩
theorem finishI_ok (h : ZAt 58 3 base w b v L size safe st fin) (hs : failedOf st = 0) : Calls Try.prog 18 #[.pointer (some ⟨b, 0, none⟩)] w fun e w' =>
    e = .returned (.int .i64 0) ∧ ZAt 58 3 base w' b v L size safe 2 true ∧ Fr (Zf b v) w w' := by
  have h3 := h.put3 2
  have h4 := h3.put4 true
  have f4 : Fr (Zf b v) w _ := ((Fr.refl (Zf b v) w).setCell (p := ⟨b, 3, none⟩) (.inl (.inl rfl)) (.int .i64 2)).setCell (p := ⟨b, 4, none⟩) (.inl (.inl rfl)) (.bool true)
  have g0 := fun i => blk_frozen h.z i
  have g1 := fun i => blk_frozen h3.z i
  go_enter Try.func18, Try.ntmps18
  go_wp2_with fail
  refine (failedI h).mono ?_
  rintro e w' ⟨rfl, rfl⟩
  rw [hs]
  have c0 := fun i => blk_cell h.z i
  have c1 := fun i => blk_cell h3.z i
  go_wp2
  go_ret
  exact ⟨rfl, h4, f4⟩

def failTo (st x : Int) : Int := if x = 4 ∨ (x = 3 ∧ st ≠ 4) then x else st
theorem failI (h : ZAt 58 3 base w b v L size safe st fin) (x : Int) : Calls Try.prog 22 #[.pointer (some ⟨b, 0, none⟩), .int .i64 x] w fun e w' =>
    (∃ u, e = .returned u) ∧ ZAt 58 3 base w' b v L size safe (failTo st x) fin ∧ Fr (Zf b v) w w' := by
  have cg := fun i => blk_cell h.z i
  have fg := fun i => blk_frozen h.z i
  by_cases h4 : x = 4
  · subst h4
    go_enter Try.func22, Try.ntmps22
    go_wp2
    go_end0
    exact ⟨⟨_, rfl⟩, by simpa [failTo] using h.put3 4, (Fr.refl _ _).setCell (.inl (.inl rfl)) _⟩
  · by_cases h3 : x = 3
    · subst h3
      by_cases hs : st = 4
      · go_enter Try.func22, Try.ntmps22
        go_wp2
        go_end0
        exact ⟨⟨_, rfl⟩, by simpa [failTo, hs] using h, Fr.refl _ _⟩
      · go_enter Try.func22, Try.ntmps22
        go_wp2
        go_end0
        exact ⟨⟨_, rfl⟩, by simpa [failTo, hs] using h.put3 3, (Fr.refl _ _).setCell (.inl (.inl rfl)) _⟩
    · go_enter Try.func22, Try.ntmps22
      go_wp2
      go_end0
      exact ⟨⟨_, rfl⟩, by simpa [failTo, h3, h4] using h, Fr.refl _ _⟩

theorem eqNil39 (a : Option Addr) (l c : Nat) (w : World) : (binOp .eql 39 (.slice a l c) (.slice none 0 0)).run Try.prog w = .ok (.bool a.isNone) w := by
  simp only [binOp]
  simp [run_equal_slice_nil w 39 3 a l c Try.underlying39]
theorem clone_nil (w : World) : Calls Try.prog 30 #[.slice none 0 0] w fun e w' => e = .returned (.slice none 0 0) ∧ w' = w := by
  have hq := eqNil39
  go_enter Try.func30, Try.ntmps30
  go_wp2
  go_ret
  exact ⟨rfl, rfl⟩
set_option maxHeartbeats 1000000 in
theorem clone_at {g n cap : Nat} (hb : base ≤ w.heap.size) (hn : n < 100) (news : List Value) (hl : news.length = n) (hnews : ∀ j u, news[j]? = some u → w.cell? ⟨g, j, none⟩ = some u) (h1 : ∀ u ∈ news, u.oneCell' = true) :
    Calls Try.prog 30 #[.slice (some ⟨g, 0, none⟩) n cap] w fun e w' => ∃ v', e = .returned v' ∧ w'.ownsRow base 3 1 v' n news ∧ Fr (fun _ => False) w w' ∧ ∀ k, v'.ownBlock = some k → w.heap.size ≤ k := by
  obtain ⟨i0, hi, hz0, hz1, hz2⟩ := info_parts info3
  have hmx : 0 + n ≤ maxLen := by unfold maxLen; omega
  have hq := eqNil39
  go_enter Try.func30, Try.ntmps30
  have hn1 : ∀ j u, news[j]? = some u → (w.alloc (.cells #[] 3)).cell? ((⟨g, 0, none⟩ : Addr).add j) = some u := by
    intro j u hu
    rw [show (⟨g, 0, none⟩ : Addr).add j = ⟨g, j, none⟩ by simp [Addr.add]; omega]
    exact Fr.cell ((Fr.refl (fun _ => False) w).alloc (.cells #[] 3)) (hnews j u hu) id
  have hl1 : news.length = n * 1 := by omega
  go_wp2_with (at_builtin; refine wpList_append_own_at _ rfl _ _ 39 rfl base 3 i0 (.int .i64 0) 1 8 Try.underlying39 hi hz0 hz1 hz2 rfl (by decide) (.slice (some ⟨w.heap.size, 0, none⟩) 0 0) 0 [] rfl (World.ownsRow_made w #[] 0 hb (Nat.zero_le _) rfl) ⟨g, 0, none⟩ n cap news rfl hl1 hn1 h1 hmx (by omega) (by simp; omega) ?_; intro v1 w1 hown1 hgrow1 hnil1 hat1; obtain ⟨a1, cap1, rfl⟩ := row_val hown1)
  go_ret
  rw [Nat.zero_add] at hown1 hat1
  refine ⟨_, rfl, by simpa using hown1, ((Fr.refl (fun _ => False) w).alloc _).trans (Fr.grown (S := fun k => k = w.heap.size) hgrow1 (fun k hk => by simpa [Value.ownBlock] using hk.symm)) (fun i hi h => by omega), fun k hk => ?_⟩
  rcases hat1 with e | e
  · have e1 := hk.symm.trans e; simp [Value.ownBlock] at e1; omega
  · have e1 := hk.symm.trans e; simp at e1; omega

/-- How many sectors are left behind a crash. -/
def crashN (safe n x : Int) : Int := safe + (if x ≤ 0 then 0 else if x ≤ n - safe then x else n - safe)
def crashSt (st n size : Int) (fin : Bool) : Int := if 3 ≤ st then st else if fin = true ∨ n = size then 2 else if n = 0 then 0 else 1

set_option linter.unusedSimpArgs false in
set_option maxHeartbeats 2000000 in
theorem crashI (h : ZAt 58 3 base w b v L size safe st fin) (hs0 : 0 ≤ safe) (hs1 : safe ≤ L.length) (hl : L.length < 100) (h1 : ∀ u ∈ L, u.oneCell' = true) (x : Int) (m : Nat) (hm : (m : Int) = crashN safe L.length x) :
    Calls Try.prog 20 #[.pointer (some ⟨b, 0, none⟩), .int .i64 x] w fun e w' => (∃ u, e = .returned u) ∧ ∃ v', ZAt 58 3 base w' b v' (L.take m) size m (crashSt st m size fin) fin ∧ Fr (Zf b v) w w' ∧
      ∀ k, v'.ownBlock = some k → v.ownBlock = some k ∨ w.heap.size ≤ k := by
  obtain ⟨a, cap, rfl⟩ := row_val h.row
  have cg := fun i => blk_cell h.z i
  obtain ⟨mx, hmx0⟩ : ∃ mx : Int, (if x < 0 then 0 else x) = mx := ⟨_, rfl⟩
  have hmx : (if x < 0 then (0 : Int) else x) = mx := hmx0
  obtain ⟨mn, hmn0⟩ : ∃ mn : Int, (if (L.length : Int) - safe < mx then (L.length : Int) - safe else mx) = mn := ⟨_, rfl⟩
  have hmn := hmn0
  have hw1 : IntKind.i64.wrap ((L.length : Int) - safe) = L.length - safe := IntWalk.i64_in _ (by omega)
  have hw2 : IntKind.i64.wrap (safe + mn) = safe + mn := IntWalk.i64_in _ (by omega)
  go_enter Try.func20, Try.ntmps20
  go_wp2_with fail
  refine (wpIn_wide (n := 0)).1 ?_
  refine regionIn_valued (P := Try.prog) (fun q => ([.pointer (some ⟨b, 0, none⟩), .pointer (some ⟨b, 0, none⟩), .pointer (some ⟨b, 2, none⟩), .int .i64 (safe), .int .i64 (x), .int .i64 (mx), .pointer (some ⟨b, 0, none⟩), .pointer (some ⟨b, 0, none⟩), .pointer (some ⟨b, 0, none⟩), .slice a L.length cap, .int .i64 (L.length), .pointer (some ⟨b, 0, none⟩), .pointer (some ⟨b, 0, none⟩), .pointer (some ⟨b, 2, none⟩), .int .i64 (safe), .int .i64 (L.length - safe), .int .i64 (mn), .int .i64 (safe + mn), .int .i64 (safe + mn)] : List Value).getD q undef) (Fr (fun _ => False) w) rfl (by kernel_rfl) (by kernel_rfl) ((Fr.refl _ w).drew) ?_ ?_
  · intro j o ho A Wx hW hA hdf
    rcases j with _ | _ | _ | _ | _ | _ | _ | _ | _ | _ | _ | _ | _ | _ | _ | _ | _ | _ | _ | j
    · cases ho
      rw [if_pos (by kernel_rfl)]
      have r1 : A.tmps.getD 0 undef = .pointer (some ⟨b, 0, none⟩) := (hA 0 (by decide)).trans (by kernel_rfl)
      refine ⟨fun f _ => trivial, ?_⟩
      rw [Oper.semAt_eq _ _ _ (fun c h => by cases h)]
      simp [execOp, Act.eval, go_sem, r1]
      exact hW
    · cases ho
      rw [if_pos (by kernel_rfl)]
      have r1 : A.tmps.getD 5 undef = .pointer (some ⟨b, 0, none⟩) := (hA 5 (by decide)).trans (by kernel_rfl)
      refine ⟨fun f _ => trivial, ?_⟩
      rw [Oper.semAt_eq _ _ _ (fun c h => by cases h)]
      simp [execOp, Act.eval, go_sem, r1]
      exact hW
    · cases ho
      rw [if_pos (by kernel_rfl)]
      have r1 : A.tmps.getD 6 undef = .pointer (some ⟨b, 0, none⟩) := (hA 6 (by decide)).trans (by kernel_rfl)
      refine ⟨fun f _ => trivial, ?_⟩
      rw [Oper.semAt_eq _ _ _ (fun c h => by cases h)]
      simp [execOp, Act.eval, go_sem, r1]
      exact hW
    · cases ho
      rw [if_pos (by kernel_rfl)]
      have r1 : A.tmps.getD 7 undef = .pointer (some ⟨b, 2, none⟩) := (hA 7 (by decide)).trans (by kernel_rfl)
      have ca := fun i => blk_cell (hW.heap h.z id) i
      refine ⟨fun f _ => trivial, ?_⟩
      rw [Oper.semAt_eq _ _ _ (fun c h => by cases h)]
      simp [execOp, Act.eval, go_sem, r1, ca]
      exact hW
    · cases ho
      rw [if_pos (by kernel_rfl)]
      have r1 : A.tmps.getD 1 undef = .int .i64 (x) := (hA 1 (by decide)).trans (by kernel_rfl)
      refine ⟨fun f _ => trivial, ?_⟩
      rw [Oper.semAt_eq _ _ _ (fun c h => by cases h)]
      simp [execOp, Act.eval, go_sem, r1]
      exact hW
    · cases ho
      rw [if_pos (by kernel_rfl)]
      have r1 : A.tmps.getD 9 undef = .int .i64 (x) := (hA 9 (by decide)).trans (by kernel_rfl)
      refine ⟨fun f _ => trivial, ?_⟩
      rw [Oper.semAt_eq _ _ _ (fun c h => by cases h)]
      simp [execOp, Act.eval, go_sem, r1, hmx]
      exact hW
    · cases ho
      rw [if_pos (by kernel_rfl)]
      have r1 : A.tmps.getD 0 undef = .pointer (some ⟨b, 0, none⟩) := (hA 0 (by decide)).trans (by kernel_rfl)
      refine ⟨fun f _ => trivial, ?_⟩
      rw [Oper.semAt_eq _ _ _ (fun c h => by cases h)]
      simp [execOp, Act.eval, go_sem, r1]
      exact hW
    · cases ho
      rw [if_pos (by kernel_rfl)]
      have r1 : A.tmps.getD 11 undef = .pointer (some ⟨b, 0, none⟩) := (hA 11 (by decide)).trans (by kernel_rfl)
      refine ⟨fun f _ => trivial, ?_⟩
      rw [Oper.semAt_eq _ _ _ (fun c h => by cases h)]
      simp [execOp, Act.eval, go_sem, r1]
      exact hW
    · cases ho
      rw [if_pos (by kernel_rfl)]
      have r1 : A.tmps.getD 12 undef = .pointer (some ⟨b, 0, none⟩) := (hA 12 (by decide)).trans (by kernel_rfl)
      refine ⟨fun f _ => trivial, ?_⟩
      rw [Oper.semAt_eq _ _ _ (fun c h => by cases h)]
      simp [execOp, Act.eval, go_sem, r1]
      exact hW
    · cases ho
      rw [if_pos (by kernel_rfl)]
      have r1 : A.tmps.getD 13 undef = .pointer (some ⟨b, 0, none⟩) := (hA 13 (by decide)).trans (by kernel_rfl)
      have ca := fun i => blk_cell (hW.heap h.z id) i
      refine ⟨fun f _ => trivial, ?_⟩
      rw [Oper.semAt_eq _ _ _ (fun c h => by cases h)]
      simp [execOp, Act.eval, go_sem, r1, ca]
      exact hW
    · cases ho
      rw [if_pos (by kernel_rfl)]
      have r1 : A.tmps.getD 14 undef = .slice a L.length cap := (hA 14 (by decide)).trans (by kernel_rfl)
      refine ⟨fun f _ => trivial, ?_⟩
      rw [Oper.semAt_eq _ _ _ (fun c h => by cases h)]
      simp [execOp, Act.eval, go_sem, r1]
      exact hW
    · cases ho
      rw [if_pos (by kernel_rfl)]
      have r1 : A.tmps.getD 0 undef = .pointer (some ⟨b, 0, none⟩) := (hA 0 (by decide)).trans (by kernel_rfl)
      refine ⟨fun f _ => trivial, ?_⟩
      rw [Oper.semAt_eq _ _ _ (fun c h => by cases h)]
      simp [execOp, Act.eval, go_sem, r1]
      exact hW
    · cases ho
      rw [if_pos (by kernel_rfl)]
      have r1 : A.tmps.getD 16 undef = .pointer (some ⟨b, 0, none⟩) := (hA 16 (by decide)).trans (by kernel_rfl)
      refine ⟨fun f _ => trivial, ?_⟩
      rw [Oper.semAt_eq _ _ _ (fun c h => by cases h)]
      simp [execOp, Act.eval, go_sem, r1]
      exact hW
    · cases ho
      rw [if_pos (by kernel_rfl)]
      have r1 : A.tmps.getD 17 undef = .pointer (some ⟨b, 0, none⟩) := (hA 17 (by decide)).trans (by kernel_rfl)
      refine ⟨fun f _ => trivial, ?_⟩
      rw [Oper.semAt_eq _ _ _ (fun c h => by cases h)]
      simp [execOp, Act.eval, go_sem, r1]
      exact hW
    · cases ho
      rw [if_pos (by kernel_rfl)]
      have r1 : A.tmps.getD 18 undef = .pointer (some ⟨b, 2, none⟩) := (hA 18 (by decide)).trans (by kernel_rfl)
      have ca := fun i => blk_cell (hW.heap h.z id) i
      refine ⟨fun f _ => trivial, ?_⟩
      rw [Oper.semAt_eq _ _ _ (fun c h => by cases h)]
      simp [execOp, Act.eval, go_sem, r1, ca]
      exact hW
    · cases ho
      rw [if_pos (by kernel_rfl)]
      have r1 : A.tmps.getD 15 undef = .int .i64 (L.length) := (hA 15 (by decide)).trans (by kernel_rfl)
      have r2 : A.tmps.getD 19 undef = .int .i64 (safe) := (hA 19 (by decide)).trans (by kernel_rfl)
      refine ⟨fun f _ => trivial, ?_⟩
      rw [Oper.semAt_eq _ _ _ (fun c h => by cases h)]
      simp [execOp, Act.eval, go_sem, r1, r2, hw1]
      exact hW
    · cases ho
      rw [if_pos (by kernel_rfl)]
      have r1 : A.tmps.getD 10 undef = .int .i64 (mx) := (hA 10 (by decide)).trans (by kernel_rfl)
      have r2 : A.tmps.getD 20 undef = .int .i64 (L.length - safe) := (hA 20 (by decide)).trans (by kernel_rfl)
      refine ⟨fun f _ => trivial, ?_⟩
      rw [Oper.semAt_eq _ _ _ (fun c h => by cases h)]
      simp [execOp, Act.eval, go_sem, r1, r2, hmn]
      exact hW
    · cases ho
      rw [if_pos (by kernel_rfl)]
      have r1 : A.tmps.getD 8 undef = .int .i64 (safe) := (hA 8 (by decide)).trans (by kernel_rfl)
      have r2 : A.tmps.getD 21 undef = .int .i64 (mn) := (hA 21 (by decide)).trans (by kernel_rfl)
      refine ⟨fun f _ => trivial, ?_⟩
      rw [Oper.semAt_eq _ _ _ (fun c h => by cases h)]
      simp [execOp, Act.eval, go_sem, r1, r2, hw2]
      exact hW
    · cases ho
      rw [if_pos (by kernel_rfl)]
      have r1 : A.tmps.getD 22 undef = .int .i64 (safe + mn) := (hA 22 (by decide)).trans (by kernel_rfl)
      refine ⟨fun f _ => trivial, ?_⟩
      rw [Oper.semAt_eq _ _ _ (fun c h => by cases h)]
      simp [execOp, Act.eval, go_sem, r1]
      exact hW
    · cases ho
  · intro w1 hf1
    simp only [goV, Act.put, List.getD_cons_zero, List.getD_cons_succ, List.setIfInBounds_toArray, List.set_cons_succ, List.set_cons_zero]
    have hmm : safe + mn = (m : Int) := by
      rw [hm, ← hmn0, ← hmx0]; unfold crashN; split <;> split <;> split <;> omega
    have hmL : m ≤ L.length := by unfold crashN at hm; split at hm <;> (try split at hm) <;> omega
    rw [hmm]
    have hz1 := h.fr hf1 id (fun _ _ => id)
    have hF1 : Fr (Zf b (.slice a L.length cap)) w w1 := hf1.mono (fun _ _ h => h.elim)
    clear cg hmx hmn hw1 hw2 hmm hmx0 hmn0
    have hlen : (L.take m).length = m := by rw [List.length_take]; omega
    have HL := Lib.hid hlen
    clear hm hs0 hs1 hlen
    rcases hz1.row.2 with ⟨he, h0⟩ | ⟨g, cap', cur, he, hbg, hg, hle, hcm, hcs, htk⟩
    · simp only [Value.slice.injEq] at he
      obtain ⟨rfl, -, rfl⟩ := he
      have hL : L = [] := List.length_eq_zero_iff.1 h0
      subst hL
      have hm0 : m = 0 := by simpa using hmL
      subst hm0
      clear h0 hmL HL
      have c1 := fun i => blk_cell hz1.z i
      have f1 := fun i => blk_frozen hz1.z i
      have f1 := fun i => blk_frozen hz1.z i
      go_wp2_with fail
      refine (clone_nil _).mono ?_
      rintro e w2 ⟨rfl, rfl⟩
      have hrow2 : w2.ownsRow base 3 1 (.slice none 0 0) (List.take 0 ([] : List Value)).length (List.take 0 ([] : List Value)) := World.ownsRow_nil w2 base 3 1
      have hn2 : (Value.slice none 0 0).ownBlock ≠ some b := by simp [Value.ownBlock]
      have hz2 := hz1
      have hF2 := hF1
      have hown2 : ∀ k, (Value.slice none 0 0).ownBlock = some k → (Value.slice none 0 0).ownBlock = some k ∨ w.heap.size ≤ k := fun k hk => .inl hk
      clear hz1 hF1 c1 f1
      have hz3 := hz2.put0 hrow2 hn2
      have hz4 := hz3.put2 ((0 : Nat) : Int)
      have F4 : Fr (Zf b (.slice none 0 0)) w _ := (hF2.setCell (p := ⟨b, 0, none⟩) (.inl (.inl rfl)) (.slice none 0 0)).setCell (p := ⟨b, 2, none⟩) (.inl (.inl rfl)) (.int .i64 ((0 : Nat)))
      have c2 := fun i => blk_cell hz2.z i
      have f2 := fun i => blk_frozen hz2.z i
      have c3 := fun i => blk_cell hz3.z i
      have f3 := fun i => blk_frozen hz3.z i
      have c4 := fun i => blk_cell hz4.z i
      have f4 := fun i => blk_frozen hz4.z i
      by_cases q1 : 3 ≤ st
      · go_wp2_with fail
        go_end0
        exact ⟨⟨_, rfl⟩, _, by rw [crashSt, if_pos q1]; exact hz4, F4, hown2⟩
      · by_cases q2 : fin = true
        · subst q2
          go_wp2_with fail
          go_end0
          exact ⟨⟨_, rfl⟩, _, by rw [crashSt, if_neg (by omega), if_pos (.inl rfl)]; exact hz4.put3 2, F4.setCell (.inl (.inl rfl)) _, hown2⟩
        · obtain rfl : fin = false := by simpa using q2
          by_cases q3 : (((0 : Nat)) : Int) = size
          · subst q3
            go_wp2_with fail
            go_end0
            exact ⟨⟨_, rfl⟩, _, by rw [crashSt, if_neg (by omega), if_pos (.inr rfl)]; exact hz4.put3 2, F4.setCell (.inl (.inl rfl)) _, hown2⟩
          · by_cases q4 : (((0 : Nat)) : Int) = 0
            · go_wp2_with fail
              go_end0
              exact ⟨⟨_, rfl⟩, _, by rw [crashSt, if_neg (by omega), if_neg (by rintro (h | h); cases h; exact q3 h), if_pos q4]; exact hz4.put3 0, F4.setCell (.inl (.inl rfl)) _, hown2⟩
            · exact absurd rfl q4
    · simp only [Value.slice.injEq, true_and] at he
      obtain ⟨rfl, rfl⟩ := he
      have c1 := fun i => blk_cell hz1.z i
      have f1 := fun i => blk_frozen hz1.z i
      go_wp2_with fail
      have hb1 : base ≤ w1.heap.size := by have := hz1.lt; have := hz1.bb; omega
      refine (clone_at (base := base) hb1 (by omega) (L.take m) HL.out ?_ (fun u hu => h1 u (List.mem_of_mem_take hu))).mono ?_
      · intro j u hu
        rw [List.getElem?_take] at hu
        split at hu
        · obtain ⟨hj, rfl⟩ := List.getElem?_eq_some_iff.1 hu
          obtain ⟨g', cap', e, hc, -⟩ := row_cell hz1.row hj
          cases e
          exact hc
        · cases hu
      · rintro e w2 ⟨v2, rfl, hrow2, hf2, hown2⟩
        have hlt1 := hz1.lt
        have hn2 : v2.ownBlock ≠ some b := fun e => by have := hown2 b e; omega
        have hz2 := hz1.fr hf2 id (fun _ _ => id)
        have hF2 : Fr (Zf b (.slice (some ⟨g, 0, none⟩) L.length cap)) w w2 := hF1.trans hf2 (fun _ _ h => h.elim)
        replace hown2 : ∀ k, v2.ownBlock = some k → (Value.slice (some ⟨g, 0, none⟩) L.length cap).ownBlock = some k ∨ w.heap.size ≤ k := fun k hk => .inr (by have := hown2 k hk; have := hf1.size; omega)
        have hrow3 : w2.ownsRow base 3 1 v2 (L.take m).length (L.take m) := by rw [HL.out]; exact hrow2
        have hz3 := hz2.put0 hrow3 hn2
        have hz4 := hz3.put2 (m : Int)
        clear hz1 hF1 c1 f1 hf2 hlt1 hbg hg hcs hcm hle htk
        clear hrow3
        obtain ⟨a2, cap2, rfl⟩ := row_val hrow2
        have F4 : Fr (Zf b (.slice (some ⟨g, 0, none⟩) L.length cap)) w _ := (hF2.setCell (p := ⟨b, 0, none⟩) (.inl (.inl rfl)) (.slice a2 m cap2)).setCell (p := ⟨b, 2, none⟩) (.inl (.inl rfl)) (.int .i64 (m))
        have c2 := fun i => blk_cell hz2.z i
        have f2 := fun i => blk_frozen hz2.z i
        have c3 := fun i => blk_cell hz3.z i
        have f3 := fun i => blk_frozen hz3.z i
        have c4 := fun i => blk_cell hz4.z i
        have f4 := fun i => blk_frozen hz4.z i
        by_cases q1 : 3 ≤ st
        · go_wp2_with fail
          go_end0
          exact ⟨⟨_, rfl⟩, _, by rw [crashSt, if_pos q1]; exact hz4, F4, hown2⟩
        · by_cases q2 : fin = true
          · subst q2
            go_wp2_with fail
            go_end0
            exact ⟨⟨_, rfl⟩, _, by rw [crashSt, if_neg (by omega), if_pos (.inl rfl)]; exact hz4.put3 2, F4.setCell (.inl (.inl rfl)) _, hown2⟩
          · obtain rfl : fin = false := by simpa using q2
            by_cases q3 : ((m) : Int) = size
            · subst q3
              go_wp2_with fail
              go_end0
              exact ⟨⟨_, rfl⟩, _, by rw [crashSt, if_neg (by omega), if_pos (.inr rfl)]; exact hz4.put3 2, F4.setCell (.inl (.inl rfl)) _, hown2⟩
            · by_cases q4 : ((m) : Int) = 0
              · obtain rfl : m = 0 := by omega
                go_wp2_with fail
                go_end0
                exact ⟨⟨_, rfl⟩, _, by rw [crashSt, if_neg (by omega), if_neg (by rintro (h | h); cases h; exact q3 h), if_pos q4]; exact hz4.put3 0, F4.setCell (.inl (.inl rfl)) _, hown2⟩
              · go_wp2_with fail
                go_end0
                exact ⟨⟨_, rfl⟩, _, by rw [crashSt, if_neg (by omega), if_neg (by rintro (h | h); cases h; exact q3 h), if_neg q4]; exact hz4.put3 1, F4.setCell (.inl (.inl rfl)) _, hown2⟩
end
end Go.Proofs.Ytlffjkijjggpkaa

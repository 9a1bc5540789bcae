/- Clone of sectors, Crash of a zone. Conditions: fewer than 100 sectors. -/
import Derived.Test.YtkbagfpoegfcaaaD4
namespace Go.Proofs.Ytkbagfpoegfcaaa
open Go.RowKit Go.Conc

theorem eqNil46 (a : Option Addr) (l c : Nat) (w : World) : (binOp .eql 46 (.slice a l c) (.slice none 0 0)).run Try.prog w = .ok (.bool a.isNone) w := by
  simp only [binOp]
  simp [run_equal_slice_nil w 46 35 a l c Try.underlying46]
theorem made_row (w : World) (E : TypeId) (sz : Nat) : (w.alloc (.cells #[] E)).ownsRow 0 E sz (.slice (some ⟨w.heap.size, 0, none⟩) 0 0) 0 [] :=
  ⟨by simp, .inr ⟨w.heap.size, 0, #[], rfl, Nat.zero_le _, blk_new w _, Nat.le_refl _, by unfold maxLen; omega, by simp, by simp⟩⟩
/-- What Clone leaves. -/
def CloneQ (w : World) (E : TypeId) (sz n : Nat) (xs : List Value) (e : Ending) (w' : World) : Prop :=
  ∃ v', e = .returned v' ∧ w'.ownsRow 0 E sz v' n xs ∧ Fr (fun _ => False) w w' ∧ ∀ k, v'.ownBlock = some k → w.heap.size ≤ k
section
variable {w : World} {D : Nat → Prop} {v : Value} {n : Nat} {L : List Sec}
set_option maxHeartbeats 1000000 in
theorem cloneS (h : RdAt D w v n (secs L)) (hL : L.length = n) (hn : n < 90000) : Calls Try.prog 96 #[v] w (CloneQ w 35 64 n (secs L)) := by
  have hq := eqNil46
  obtain ⟨a, cap, rfl, hc, hnil, -⟩ := id h
  cases a with
  | none =>
    have hc0 := hnil rfl
    obtain rfl : n = 0 := by omega
    subst hc0
    have : L = [] := List.length_eq_zero_iff.1 hL
    subst this
    go_enter Try.func96, Try.ntmps96
    go_wp2
    go_ret
    exact ⟨_, rfl, World.ownsRow_nil _ _ _ _, Fr.refl _ _, fun k hk => by cases hk⟩
  | some p =>
    have F1 := (Fr.refl (fun _ => False) w).alloc (.cells #[] 35)
    have h1 := h.fr0 F1
    have hm := made_row w 35 64
    have hl : (secs L).length = n * 64 := by rw [secs_len, hL]
    go_enter Try.func96, Try.ntmps96
    go_wp2_with (at_builtin; refine wpList_app rfl s46 hm h1 _ _ rfl rfl rfl rfl hl (secs_one L) (by omega) (Nat.zero_le _) ?_; intro a1 c1 w1 hown1 hgrow1 hat1)
    rw [Nat.zero_add] at hown1 hat1
    have F2 : Fr (fun k => k = w.heap.size) (w.alloc (.cells #[] 35)) w1 := Fr.grown hgrow1 (fun k hk => by simpa [Value.ownBlock] using hk.symm)
    go_ret
    refine ⟨_, rfl, by simpa using hown1, (F1.mono (fun _ _ h => h)).trans F2 (fun i hi e => by omega), fun k hk => ?_⟩
    rcases hat1 with e | e
    · have e1 := hk.symm.trans e; simp [Value.ownBlock] at e1; omega
    · have e1 := hk.symm.trans e; simp at e1; omega
end
/-- How many sectors are left behind a crash. -/
def crashN (safe n : Nat) (x : Int) : Nat := safe + min x.toNat (n - safe)
def crashSt (st : Int) (n size : Nat) (fin : Bool) : Int := if 3 ≤ st then st else if fin = true ∨ n = size then 2 else if n = 0 then 0 else 1
section
variable {w : World} {b : Nat} {v : Value} {L : List Sec} {size safe : Nat} {st : Int} {fin : Bool}
set_option linter.unusedSimpArgs false in
set_option maxRecDepth 100000 in
set_option maxHeartbeats 4000000 in
theorem crashZ (h : ZAt w b v L size safe st fin) (hs : safe ≤ L.length) (hl : L.length < 100) (x : Int) (m : Nat) (hm : m = crashN safe L.length x) :
    Calls Try.prog 75 #[.pointer (some ⟨b, 0, none⟩), .int .i64 x] w fun e w' => (∃ u, e = .returned u) ∧ ∃ v', ZAt w' b v' (L.take m) size m (crashSt st m size fin) fin ∧ Fr (Zf b v) w w' ∧
      ∀ k, v'.ownBlock = some k → v.ownBlock = some k ∨ w.heap.size ≤ k := by
  obtain ⟨a, cap, rfl⟩ := row_val h.row
  have cg := fun i => blk_cell h.z i
  obtain ⟨mx, hmx⟩ : ∃ mx : Int, max x 0 = mx := ⟨_, rfl⟩
  obtain ⟨mn, hmn⟩ : ∃ mn : Int, min mx ((L.length : Int) - safe) = mn := ⟨_, rfl⟩
  have hb0 : 0 ≤ mn ∧ mn ≤ L.length := by omega
  have hmm : (safe : Int) + mn = (m : Int) := by
    rw [hm]; unfold crashN; omega
  have hmL : m ≤ L.length := by unfold crashN at hm; omega
  have hw1 : IntKind.i64.wrap ((L.length : Int) - safe) = L.length - safe := IntWalk.i64_in _ (by omega)
  have hw2 : IntKind.i64.wrap ((safe : Int) + mn) = m := by rw [hmm]; exact IntWalk.i64_in _ (by omega)
  clear hm
  go_enter Try.func75, Try.ntmps75
  go_wp2_with fail
  refine (wpIn_wide (n := 0)).1 ?_
  refine regionIn_seqC (fun _ V => Fr (fun _ => False) w V) rfl (by kernel_rfl) (by kernel_rfl) (by kernel_rfl) (fun _ => trivial) rfl ((Fr.refl _ _).drew) ?_
  iterate 19
    apply SeqC.step
    · rfl
    · intro d V hV ht hcl
      have ca := fun i => blk_cell (hV.heap h.z id) i
      simp [Oper.gives, execOp, Act.eval, go_sem, ca, hmx, hmn, hw1, hw2, hmm]
      exact ⟨rfl, hV⟩
    simp only [Act.put, List.setIfInBounds_toArray, List.set_cons_succ, List.set_cons_zero]
  refine SeqC.nil fun w1 hf1 => ?_
  have hz1 := h.fr0 hf1
  have hF1 : Fr (Zf b (.slice a L.length cap)) w w1 := hf1.mono (fun _ _ h => h.elim)
  clear cg hmx hmn hw1 hw2 hmm hb0
  have hlen : (L.take m).length = m := by rw [List.length_take]; omega
  have HL := Lib.hid hlen
  clear hlen
  have hrd : RdAt (fun k => (Value.slice a L.length cap).ownBlock = some k) w1 (.slice a m cap) m (secs (L.take m)) := by
    obtain ⟨a', c', e, hc, hnil, hne⟩ := row_rd hz1.row
    cases e
    refine ⟨a, cap, rfl, by omega, hnil, fun hn => ?_⟩
    have hn2 : secs L ≠ [] := fun e => hn (by
      have := secs_len L; rw [e] at this; simp at this
      have : L = [] := List.length_eq_zero_iff.1 (by omega)
      subst this; simp [secs, flat])
    obtain ⟨g, o, e1, hd, hr⟩ := hne hn2
    refine ⟨g, o, e1, hd, ?_⟩
    have := range_part hr 0 ((secs (L.take m)).length) (secs (L.take m)) (fun j hj => by
      rw [Nat.zero_add]
      unfold secs at hj ⊢
      rw [← flat_take secL_len] at hj ⊢
      rw [List.getElem?_take, if_pos]
      rw [List.length_take] at hj; omega) rfl
    rwa [Nat.add_zero] at this
  have hca := hz1.row
  have hcap : L.length ≤ cap := by
    obtain ⟨a', c', e, hc, -⟩ := row_rd hz1.row
    cases e; exact hc
  have hnz : a = none → cap = 0 := by
    obtain ⟨a', c', e, hc, hnil, -⟩ := row_rd hz1.row
    cases e; exact hnil
  have hcl := cloneS hrd HL.out (by omega)
  have HC := Lib.hid hcl
  clear hcl hrd hca
  have hform : (a = none ∧ cap = 0 ∧ m = 0 ∧ L.length = 0) ∨ ∃ g, a = some ⟨g, 0, none⟩ := by
    rcases hz1.row.2 with ⟨he, h0⟩ | ⟨g, cap', cur, he, -⟩
    · simp only [Value.slice.injEq] at he
      exact .inl ⟨he.1, he.2.2, by omega, h0⟩
    · simp only [Value.slice.injEq] at he
      exact .inr ⟨g, he.1⟩
  have hz1' := hz1
  have step2 : ∀ w2 v2, w2.ownsRow 0 35 64 v2 m (secs (L.take m)) → Fr (fun _ => False) w1 w2 → (∀ k, v2.ownBlock = some k → w1.heap.size ≤ k) → ∃ a2 c2, v2 = .slice a2 m c2 ∧
      ZAt w2 b (.slice a L.length cap) L size safe st fin ∧ ZAt (w2.setCell ⟨b, 0, none⟩ (.slice a2 m c2)) b (.slice a2 m c2) (L.take m) size safe st fin ∧
      ZAt ((w2.setCell ⟨b, 0, none⟩ (.slice a2 m c2)).setCell ⟨b, 2, none⟩ (.int .i64 m)) b (.slice a2 m c2) (L.take m) size m st fin ∧
      Fr (Zf b (.slice a L.length cap)) w ((w2.setCell ⟨b, 0, none⟩ (.slice a2 m c2)).setCell ⟨b, 2, none⟩ (.int .i64 m)) ∧ ∀ k, (Value.slice a2 m c2).ownBlock = some k → (Value.slice a L.length cap).ownBlock = some k ∨ w.heap.size ≤ k := by
    intro w2 v2 hr2 hf2 ho2
    obtain ⟨a2, c2, rfl⟩ := row_val hr2
    have hz2 := hz1.fr0 hf2
    have hr3 : w2.ownsRow 0 35 64 (.slice a2 m c2) (L.take m).length (secs (L.take m)) := by rw [HL.out]; exact hr2
    have hz3 := hz2.put0 hr3
    exact ⟨a2, c2, rfl, hz2, hz3, hz3.put2 _, ((hF1.trans hf2 (fun _ _ h => h.elim)).setCell (.inl (.inl rfl)) _).setCell (.inl (.inl rfl)) _, fun k hk => .inr (by have := ho2 k hk; have := hf1.size; omega)⟩
  have HS := Lib.hid step2
  clear step2
  rcases hform with ⟨rfl, rfl, rfl, h0⟩ | ⟨g, rfl⟩
  · have hL0 : L = [] := List.length_eq_zero_iff.1 h0
    subst hL0
    clear h0 hnz hcap
    have c1 := fun i => blk_cell hz1.z i
    have f1 := fun i => blk_frozen hz1.z i
    go_wp2_with fail
    refine HC.out.mono ?_
    rintro e w2 ⟨v2, rfl, hr2, hf2, ho2⟩
    obtain ⟨a2, cp2, rfl, hz2, hz3, hz4, F4, hown2⟩ := HS.out _ _ hr2 hf2 ho2
    clear hz1 hz1' hF1 c1 f1 hf2 hr2 ho2
    have c2 := fun i => blk_cell hz2.z i
    have f2 := fun i => blk_frozen hz2.z i
    have c3 := fun i => blk_cell hz3.z i
    have f3 := fun i => blk_frozen hz3.z i
    have c4 := fun i => blk_cell hz4.z i
    have f4 := fun i => blk_frozen hz4.z i
    by_cases q1 : 3 ≤ st
    · go_wp2_with fail
      go_end0
      exact ⟨⟨_, rfl⟩, _, by rw [crashSt, if_pos q1]; exact hz4, F4, hown2⟩
    · cases fin with
      | true =>
        go_wp2_with fail
        go_end0
        exact ⟨⟨_, rfl⟩, _, by rw [crashSt, if_neg (by omega), if_pos (.inl rfl)]; exact hz4.put3 2, F4.setCell (.inl (.inl rfl)) _, hown2⟩
      | false =>
        by_cases q3 : 0 = size
        · have e3 : ((0 : Int) == (size : Int)) = true := beq_iff_eq.2 (by omega)
          have e4 : crashSt st 0 size false = 2 := by rw [crashSt, if_neg q1, if_pos (.inr q3)]
          have E4 := Lib.hid e4
          clear e4 q3
          go_wp2_with fail
          go_end0
          exact ⟨⟨_, rfl⟩, _, by rw [E4.out]; exact hz4.put3 2, F4.setCell (.inl (.inl rfl)) _, hown2⟩
        · have e3 : ((0 : Int) == (size : Int)) = false := beq_eq_false_iff_ne.2 (by omega)
          by_cases q4 : 0 = 0
          · have e5 : ((0 : Int) == (0 : Int)) = true := beq_iff_eq.2 (by omega)
            have e4 : crashSt st 0 size false = 0 := by rw [crashSt, if_neg q1, if_neg (by rintro (h | h); cases h; exact q3 h), if_pos q4]
            have E4 := Lib.hid e4
            clear e4 q4
            go_wp2_with fail
            go_end0
            exact ⟨⟨_, rfl⟩, _, by rw [E4.out]; exact hz4.put3 0, F4.setCell (.inl (.inl rfl)) _, hown2⟩
          · have e5 : ((0 : Int) == (0 : Int)) = false := beq_eq_false_iff_ne.2 (by omega)
            have e4 : crashSt st 0 size false = 1 := by rw [crashSt, if_neg q1, if_neg (by rintro (h | h); cases h; exact q3 h), if_neg q4]
            have E4 := Lib.hid e4
            clear e4
            go_wp2_with fail
            all_goals go_end0
            all_goals exact ⟨⟨_, rfl⟩, _, by rw [E4.out]; exact hz4.put3 1, F4.setCell (.inl (.inl rfl)) _, hown2⟩
  · clear hnz
    have hm0 : (0 : Int) ≤ (m : Int) := by omega
    have hmc : (m : Int) ≤ (cap : Int) := by omega
    have c1 := fun i => blk_cell hz1.z i
    have f1 := fun i => blk_frozen hz1.z i
    go_wp2_with fail
    refine HC.out.mono ?_
    rintro e w2 ⟨v2, rfl, hr2, hf2, ho2⟩
    obtain ⟨a2, cp2, rfl, hz2, hz3, hz4, F4, hown2⟩ := HS.out _ _ hr2 hf2 ho2
    clear hz1 hz1' hF1 c1 f1 hf2 hr2 ho2
    have c2 := fun i => blk_cell hz2.z i
    have f2 := fun i => blk_frozen hz2.z i
    have c3 := fun i => blk_cell hz3.z i
    have f3 := fun i => blk_frozen hz3.z i
    have c4 := fun i => blk_cell hz4.z i
    have f4 := fun i => blk_frozen hz4.z i
    by_cases q1 : 3 ≤ st
    · go_wp2_with fail
      go_end0
      exact ⟨⟨_, rfl⟩, _, by rw [crashSt, if_pos q1]; exact hz4, F4, hown2⟩
    · cases fin with
      | true =>
        go_wp2_with fail
        go_end0
        exact ⟨⟨_, rfl⟩, _, by rw [crashSt, if_neg (by omega), if_pos (.inl rfl)]; exact hz4.put3 2, F4.setCell (.inl (.inl rfl)) _, hown2⟩
      | false =>
        by_cases q3 : m = size
        · have e3 : ((m : Int) == (size : Int)) = true := beq_iff_eq.2 (by omega)
          have e4 : crashSt st m size false = 2 := by rw [crashSt, if_neg q1, if_pos (.inr q3)]
          have E4 := Lib.hid e4
          clear e4 q3
          go_wp2_with fail
          go_end0
          exact ⟨⟨_, rfl⟩, _, by rw [E4.out]; exact hz4.put3 2, F4.setCell (.inl (.inl rfl)) _, hown2⟩
        · have e3 : ((m : Int) == (size : Int)) = false := beq_eq_false_iff_ne.2 (by omega)
          by_cases q4 : m = 0
          · have e5 : ((m : Int) == (0 : Int)) = true := beq_iff_eq.2 (by omega)
            have e4 : crashSt st m size false = 0 := by rw [crashSt, if_neg q1, if_neg (by rintro (h | h); cases h; exact q3 h), if_pos q4]
            have E4 := Lib.hid e4
            clear e4 q4
            go_wp2_with fail
            go_end0
            exact ⟨⟨_, rfl⟩, _, by rw [E4.out]; exact hz4.put3 0, F4.setCell (.inl (.inl rfl)) _, hown2⟩
          · have e5 : ((m : Int) == (0 : Int)) = false := beq_eq_false_iff_ne.2 (by omega)
            have e4 : crashSt st m size false = 1 := by rw [crashSt, if_neg q1, if_neg (by rintro (h | h); cases h; exact q3 h), if_neg q4]
            have E4 := Lib.hid e4
            clear e4
            go_wp2_with fail
            all_goals go_end0
            all_goals exact ⟨⟨_, rfl⟩, _, by rw [E4.out]; exact hz4.put3 1, F4.setCell (.inl (.inl rfl)) _, hown2⟩
end
end Go.Proofs.Ytkbagfpoegfcaaa

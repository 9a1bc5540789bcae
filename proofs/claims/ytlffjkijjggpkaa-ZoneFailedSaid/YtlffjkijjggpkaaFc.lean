/- The walk of the law on a zone that failed. No condition. -/
import Derived.Test.YtlffjkijjggpkaaZg
namespace Go.Proofs.Ytlffjkijjggpkaa
open Go.RowKit Go.Conc

theorem resC5 {tmps : Array Value} {w : World} {v : Bool} (h1 : tmps.getD 8 undef = .bool v) : (results Try.f5 tmps).run Try.prog w = .ok (.bool v) w := by
  rw [Array.getD_eq_getD_getElem?] at h1
  simp [results, Try.f5, go_sem, h1]
/-- The zone that failed, and the document's as it was. -/
structure Zff (w W : World) (b xb : Nat) (size : Int) (v x : Value) (L : List Int) (stz safex stx : Int) (finx : Bool) : Prop where
  zn : ∃ safe fin, ZAt 58 3 w.heap.size W b v (ints L) size safe stz fin
  row : W.ownsRow w.heap.size 3 1 x L.length (ints L)
  sep : ∀ k, x.ownBlock = some k → v.ownBlock ≠ some k
  xc : W.heap[xb]? = some (.cells #[x, .int .i64 size, .int .i64 safex, .int .i64 stx, .bool finx] 49 (0, 0))
  bl : Below w.heap.size w W
theorem Zff.turn {w W W' : World} {b xb : Nat} {size : Int} {v x : Value} {L : List Int} {stz safex stx : Int} {finx : Bool} (h : Zff w W b xb size v x L stz safex stx finx) (hz : ∃ safe fin, ZAt 58 3 w.heap.size W' b v (ints L) size safe stz fin) (hf : Fr (Zf b v) W W') :
    Zff w W' b xb size v x L stz safex stx finx := by
  obtain ⟨sa, fi, hz0⟩ := h.zn
  refine ⟨hz, row_fr h.row hf (fun k hk e => ?_), h.sep, hf.heap h.xc (zf_ne hz0 h.xc (by decide) (by decide)), h.bl.trans (hf.below h.bl.size (fun i hi e => ?_))⟩
  · rcases e with rfl | e
    · exact row_ne h.row hz0.z (by decide) hk rfl
    · exact h.sep k hk e
  · rcases e with rfl | e
    · have := hz0.bb; omega
    · have := (hz0.rlt e).1; omega
theorem Zff.fr0 {w W W' : World} {b xb : Nat} {size : Int} {v x : Value} {L : List Int} {stz safex stx : Int} {finx : Bool} (h : Zff w W b xb size v x L stz safex stx finx) (hf : Fr (fun _ => False) W W') :
    Zff w W' b xb size v x L stz safex stx finx := by
  obtain ⟨sa, fi, hz0⟩ := h.zn
  exact h.turn ⟨sa, fi, hz0.fr hf id (fun _ _ => id)⟩ (hf.mono (fun _ _ h => h.elim))

set_option linter.unusedSimpArgs false in
set_option linter.unusedVariables false in
set_option maxRecDepth 100000 in
set_option maxHeartbeats 8000000 in
theorem zoneFailed_walk (w : World) (size : Int) (v : Value) (ops : List (Int × Int × Int)) (_ : ops.length ≤ maxLen) (_ : ∀ z ∈ ops, Fits z.1 ∧ Fits z.2.1 ∧ Fits z.2.2) (hs : Sl3 w w.heap.size v ops) (state : Int)
    (v2 : Value) (more : List (Int × Int × Int)) (_ : more.length ≤ maxLen) (_ : ∀ z ∈ more, Fits z.1 ∧ Fits z.2.1 ∧ Fits z.2.2) (hs2 : Sl3 w w.heap.size v2 more) :
    Calls Try.prog 5 #[.int .i64 size, v, .int .i64 state, v2] w fun e w' => e = .returned (.bool true) ∧ Below w.heap.size w w' := by
  obtain ⟨a, cap, rfl, hc⟩ := hs
  obtain ⟨a2, cap2, rfl, hc2⟩ := hs2
  refine calls_of_marks Try.func5 rfl ?_
  simp only [Try.ntmps5, List.size_toArray, List.length_cons, List.length_nil, Nat.reduceAdd, Nat.reduceSub, Array.replicate_succ, Array.replicate_zero, List.push_toArray, List.append_toArray, List.nil_append, List.cons_append]
  go_wp2_with fail
  refine (anchor6 _).mono ?_
  rintro e w1 ⟨rfl, hb⟩
  go_wp2_with fail
  by_cases hsz : 1 ≤ size ∧ size ≤ 64
  · obtain ⟨s1, s2⟩ := hsz
    refine (newI_ok s1 s2 _).mono ?_
    rintro e w2 ⟨rfl, rfl⟩
    have hz := newI_at (base := w.heap.size) w1 size hb.size
    have b2 : Below w.heap.size w (w1.alloc (.cells #[.slice none 0 0, .int .i64 size, .int .i64 0, .int .i64 0, .bool false] 58)) := hb.alloc hb.size _
    obtain ⟨b, hbb⟩ : ∃ b, w1.heap.size = b := ⟨_, rfl⟩
    rw [hbb] at hz ⊢
    clear hbb
    generalize w1.alloc (.cells #[.slice none 0 0, .int .i64 size, .int .i64 0, .int .i64 0, .bool false] 58) = w2 at hz b2 ⊢
    clear hb w1
    by_cases hl : 80 < ops.length
    · go_wp2_with fail
      refine marks_all [] _ (Marks.nil _) ?_
      intro w9 hw9
      exact ⟨.bool true, resC5 rfl, rfl, b2.trans (hw9.below b2.size (by simp))⟩
    · by_cases hl2 : 80 < more.length
      · go_wp2_with fail
        refine marks_all [] _ (Marks.nil _) ?_
        intro w9 hw9
        exact ⟨.bool true, resC5 rfl, rfl, b2.trans (hw9.below b2.size (by simp))⟩
      · go_wp2_with fail
        have hq := Zall.start (w := w) hz b2 s1 s2
        obtain ⟨xb, hxb⟩ : ∃ xb, w2.heap.size = xb := ⟨_, rfl⟩
        rw [hxb] at hq ⊢
        clear hxb hz b2
        generalize w2.alloc (.cells #[.slice none 0 0, .int .i64 size, .int .i64 0, .int .i64 0, .bool false] 49) = w3 at hq ⊢
        clear w2
        refine wp_loop_P (ds0 := []) (fun t => (decide (13 ≤ t) && decide (t ≤ 13)) || (decide (47 ≤ t) && decide (t ≤ 58)))
          (fun u ds W => ∃ k : Nat, k ≤ ops.length ∧ u 47 = .int .i64 k ∧ ds = [] ∧ ∃ v x L safe st fin, Zall w W b xb size v x L safe st fin) (fun u _ => ops.length - (intOf (u 47)).toNat)
          ⟨0, by omega, rfl, rfl, _, _, [], 0, 0, false, hq⟩ ?_
        intro u ds W hrel
        clear hq
        obtain ⟨k, hk, h47, rfl, v, x, L, safe, st, fin, hq⟩ := hrel
        simp only [mixP, List.mapIdx_cons, List.mapIdx_nil, Nat.reduceLeDiff, decide_true, decide_false, Nat.reduceAdd, Nat.zero_add, Bool.and_true, Bool.and_false, Bool.true_and, Bool.false_and, Bool.or_false, Bool.or_true, Bool.false_or, Bool.true_or, if_true, if_false, Bool.false_eq_true, h47]
        clear h47
        by_cases hlt : k < ops.length
        · skip
          obtain ⟨bb, o, rfl, hbl, hcell⟩ := hc (List.ne_nil_of_length_pos (by omega))
          have hcc := hcell k hlt
          generalize ops[k] = kxy at hcc
          obtain ⟨K, X, Y⟩ := kxy
          obtain ⟨c1, c2, c3⟩ := hcc
          have hB := fun (j : Nat) (u : Value) (h : w.cell? ⟨bb, j, none⟩ = some u) => (World.cell?_of_block (a := ⟨bb, j, none⟩) (hq.bl.block bb hbl)).trans h
          replace c1 := hB _ _ c1
          replace c2 := hB _ _ c2
          replace c3 := hB _ _ c3
          clear hB hcell
          rw [← Nat.add_assoc] at c2 c3
          obtain ⟨ax, cx, rfl⟩ := row_val hq.zs.row
          have cx := fun o i => blk_cell (blk_alloc hq.xc o) i
          go_wp2_with fail
          have hq1 := hq.fr0 ((Fr.refl (fun _ => False) W).alloc (.cells #[.int .i64 K, .int .i64 X, .int .i64 Y] 41))
          generalize W.alloc (.cells #[.int .i64 K, .int .i64 X, .int .i64 Y] 41) = W1 at hq1 ⊢
          clear c1 c2 c3 cx hq
          refine (stepZ hq1.zs hq1.bl.size K X Y).mono ?_
          rintro e W2 ⟨v', x', L', safe', st', fin', rfl, hst⟩
          obtain ⟨ax', cx', rfl⟩ := row_val hst.1.row
          have hkp := hq1.kept hst
          have hq2 := hq1.step hst
          have ck := fun i => blk_cell hkp i
          have fk := fun i => blk_frozen hkp i
          go_wp2_with fail
          refine ⟨rfl, [], rfl, ⟨k + 1, by omega, by show Value.int IntKind.i64 ((k : Int) + 1) = _; simp, rfl, _, _, _, _, _, _, hq2⟩, ?_⟩
          show ops.length - (intOf (.int .i64 ((k : Int) + 1))).toNat < _
          simp only [intOf]
          omega
        · have hlk : ¬ k < ops.length := hlt
          by_cases hst : state = 3 ∨ state = 4
          · have hft : failTo st state = 3 ∨ failTo st state = 4 := by unfold failTo; have := hq.zs.good.t0; have := hq.zs.good.t1; split <;> omega
            have hfz : failedOf (failTo st state) ≠ 0 := by rcases hft with e | e <;> rw [e] <;> decide
            have hall : ∀ W2, ZAt 58 3 w.heap.size W2 b v (ints L) size safe (failTo st state) fin → Fr (Zf b v) W W2 → Zff w W2 b xb size v x L (failTo st state) safe st fin := fun W2 h1 h2 =>
              ⟨⟨_, _, h1⟩, row_fr hq.zs.row h2 (fun k hk e => by rcases e with rfl | e; exact row_ne hq.zs.row hq.zs.zn.z (by decide) hk rfl; exact hq.zs.sep k hk e), hq.zs.sep, h2.heap hq.xc (zf_ne hq.zs.zn hq.xc (by decide) (by decide)), hq.bl.trans (h2.below hq.bl.size (fun i hi e => by have := hq.zs.lt (k := i) (by rcases e with e | e; exact .inl e; exact .inr (.inl e)); omega))⟩
            have hL := hq.zs.good.n1
            have HA := Lib.hid hall
            have HZ := Lib.hid hfz
            have HF := Lib.hid hft
            clear hall hfz hft
            have hst1 : ((state != 3) && (state != 4)) = false := by rcases hst with rfl | rfl <;> rfl
            have hfail := failI hq.zs.zn state
            have HQ := Lib.hid hq
            clear hq
            have key : ∀ W2, Zff w W2 b xb size v x L (failTo st state) safe st fin → True := fun _ _ => trivial
            rcases hst with rfl | rfl
            · skip
              go_wp2_with fail
              refine hfail.mono ?_
              rintro e W2 ⟨⟨u9, rfl⟩, hz2, hf2⟩
              have hq2 := HA.out W2 hz2 hf2
              obtain ⟨stz, hstz⟩ : ∃ y, failTo st 3 = y := ⟨_, rfl⟩
              have hz2' := hz2
              rw [hstz] at hz2' hq2
              have HZ2 := Lib.hid (hstz ▸ HZ.out : failedOf stz ≠ 0)
              have HF2 := Lib.hid (hstz ▸ HF.out : stz = 3 ∨ stz = 4)
              clear hz2 hf2 hfail hstz HZ HF HA key
              go_wp2_with fail
              refine (stateI hz2').mono ?_
              rintro e W3 ⟨rfl, rfl⟩
              go_wp2_with fail
              refine (lenI hz2').mono ?_
              rintro e W4 ⟨rfl, rfl⟩
              rw [ints_length]
              clear hz2'
              go_wp2_with fail
              refine wp_loop_P (ds0 := []) (fun t => (decide (17 ≤ t) && decide (t ≤ 19)) || (decide (74 ≤ t) && decide (t ≤ 140)))
                (fun u ds W => ∃ k : Nat, k ≤ more.length ∧ u 74 = .int .i64 k ∧ ds = [] ∧ Zff w W b xb size v x L stz safe st fin) (fun u _ => more.length - (intOf (u 74)).toNat)
                ⟨0, by omega, rfl, rfl, hq2⟩ ?_
              clear hq2 hlk hlt hk
              intro u ds W hrel
              obtain ⟨k, hk, h74, rfl, hq⟩ := hrel
              simp only [mixP, List.mapIdx_cons, List.mapIdx_nil, Nat.reduceLeDiff, decide_true, decide_false, Nat.reduceAdd, Nat.zero_add, Bool.and_true, Bool.and_false, Bool.true_and, Bool.false_and, Bool.or_false, Bool.or_true, Bool.false_or, Bool.true_or, if_true, if_false, Bool.false_eq_true, h74]
              clear h74
              by_cases hlt : k < more.length
              · skip
                obtain ⟨bb, o, rfl, hbl, hcell⟩ := hc2 (List.ne_nil_of_length_pos (by omega))
                have hcc := hcell k hlt
                generalize more[k] = kxy at hcc
                obtain ⟨K, X, Y⟩ := kxy
                obtain ⟨c1, c2, c3⟩ := hcc
                have hB := fun (j : Nat) (u : Value) (h : w.cell? ⟨bb, j, none⟩ = some u) => (World.cell?_of_block (a := ⟨bb, j, none⟩) (hq.bl.block bb hbl)).trans h
                replace c1 := hB _ _ c1
                replace c2 := hB _ _ c2
                replace c3 := hB _ _ c3
                clear hB hcell
                rw [← Nat.add_assoc] at c2 c3
                have hq1 := hq.fr0 ((Fr.refl (fun _ => False) W).alloc (.cells #[.int .i64 K, .int .i64 X, .int .i64 Y] 41))
                have go := blk_new W (.cells #[.int .i64 K, .int .i64 X, .int .i64 Y] 41)
                have hob : ∀ j, Zf b v j → j < W.heap.size := by
                  obtain ⟨sa, fi, hz0⟩ := hq.zn
                  rintro j (rfl | e)
                  · exact hz0.lt
                  · exact (hz0.rlt e).2
                go_upto_region 20 with fail
                obtain ⟨ob, hob0⟩ : ∃ ob, W.heap.size = ob := ⟨_, rfl⟩
                rw [hob0] at go hob
                try rw [hob0]
                clear c1 c2 c3 hob0 hq
                generalize W.alloc (.cells #[.int .i64 K, .int .i64 X, .int .i64 Y] 41) = W1 at hq1 go ⊢
                clear W
                have co := fun i => blk_cell go i
                by_cases k678 : K = 6 ∨ K = 7 ∨ K = 8
                · rcases k678 with rfl | rfl | rfl <;>
                  (go_wp2_with fail
                   refine ⟨rfl, [], rfl, ⟨k + 1, by omega, by show Value.int IntKind.i64 ((k : Int) + 1) = _; simp, rfl, hq1⟩, ?_⟩
                   show more.length - (intOf (.int .i64 ((k : Int) + 1))).toNat < _
                   simp only [intOf]
                   omega)
                · have k6 : K ≠ 6 := fun e => k678 (.inl e)
                  have k7 : K ≠ 7 := fun e => k678 (.inr (.inl e))
                  have k8 : K ≠ 8 := fun e => k678 (.inr (.inr e))
                  have kb6 : (K == 6) = false := by simpa using k6
                  have kb7 : (K == 7) = false := by simpa using k7
                  have kb8 : (K == 8) = false := by simpa using k8
                  have K6 := Lib.hid k6
                  have K7 := Lib.hid k7
                  have K8 := Lib.hid k8
                  clear k678 k6 k7 k8
                  obtain ⟨sa, fi, hz0⟩ := hq1.zn
                  obtain ⟨ax, cx, rfl⟩ := row_val hq1.row
                  have hstep := stepF hz0 HZ2.out hq1.row hq1.sep (by omega) (safex := safe) (stx := st) (finx := fin) K X Y K6.out K7.out K8.out
                  have cq := fun i => blk_cell hq1.xc i
                  go_wp2_with fail
                  rcases HF2.out with rfl | rfl
                  · by_cases hx0 : X < 0
                    · refine (readI_no hz0 (by decide) X (.inl hx0)).mono ?_
                      rintro e W2 ⟨rfl, rfl⟩
                      have hd : decide ((0 : Int) ≤ X) = false := decide_eq_false (by omega)
                      go_wp2_with fail
                      refine hstep.mono ?_
                      rintro e W3 ⟨⟨r9, rfl⟩, hz3, hf3⟩
                      have hq3 := hq1.turn hz3 hf3
                      obtain ⟨sa3, fi3, hz3⟩ := hz3
                      go_wp2_with fail
                      refine (stateI hz3).mono ?_
                      rintro e W4 ⟨rfl, rfl⟩
                      have hb3 : ((3 : Int) != (3 : Int)) = false := by simp
                      have hb4 : ((L.length : Int) != (L.length : Int)) = false := by simp
                      go_wp2_with fail
                      refine (lenI hz3).mono ?_
                      rintro e W5 ⟨rfl, rfl⟩
                      rw [ints_length]
                      go_wp2_with fail
                      refine ⟨rfl, [], rfl, ⟨k + 1, by omega, by show Value.int IntKind.i64 ((k : Int) + 1) = _; simp, rfl, hq3⟩, ?_⟩
                      show more.length - (intOf (.int .i64 ((k : Int) + 1))).toNat < _
                      simp only [intOf]
                      omega
                    · have hd : decide ((0 : Int) ≤ X) = true := decide_eq_true (by omega)
                      by_cases hx1 : L.length ≤ X
                      · refine (readI_no hz0 (by decide) X (.inr (by rw [ints_length]; exact hx1))).mono ?_
                        rintro e W2 ⟨rfl, rfl⟩
                        have hd2 : decide (X < (L.length : Int)) = false := decide_eq_false (by omega)
                        go_wp2_with fail
                        refine hstep.mono ?_
                        rintro e W3 ⟨⟨r9, rfl⟩, hz3, hf3⟩
                        have hq3 := hq1.turn hz3 hf3
                        obtain ⟨sa3, fi3, hz3⟩ := hz3
                        go_wp2_with fail
                        refine (stateI hz3).mono ?_
                        rintro e W4 ⟨rfl, rfl⟩
                        have hb3 : ((3 : Int) != (3 : Int)) = false := by simp
                        have hb4 : ((L.length : Int) != (L.length : Int)) = false := by simp
                        go_wp2_with fail
                        refine (lenI hz3).mono ?_
                        rintro e W5 ⟨rfl, rfl⟩
                        rw [ints_length]
                        go_wp2_with fail
                        refine ⟨rfl, [], rfl, ⟨k + 1, by omega, by show Value.int IntKind.i64 ((k : Int) + 1) = _; simp, rfl, hq3⟩, ?_⟩
                        show more.length - (intOf (.int .i64 ((k : Int) + 1))).toNat < _
                        simp only [intOf]
                        omega
                      · have hd2 : decide (X < (L.length : Int)) = true := decide_eq_true (by omega)
                        have hrd : Calls Try.prog 26 #[.pointer (some ⟨b, 0, none⟩), .int .i64 X] W1 fun e w' => (∃ y : Int, e = .returned (.tuple #[.int .i64 y, .int .i64 0])) ∧ w' = W1 := by
                          obtain ⟨k, rfl⟩ : ∃ k : Nat, X = k := ⟨X.toNat, by omega⟩
                          have hk : k < (ints L).length := by rw [ints_length]; omega
                          have hye : (ints L)[k] = .int .i64 L[k] := by simp [ints]
                          have := readI_at hz0 (by decide) k hk
                          rw [hye] at this
                          exact this.mono fun e w' ⟨he, hw⟩ => ⟨⟨_, he⟩, hw⟩
                        refine hrd.mono ?_
                        rintro e W2 ⟨⟨y, rfl⟩, rfl⟩
                        clear hrd
                        go_wp2_with fail
                        refine hstep.mono ?_
                        rintro e W3 ⟨⟨r9, rfl⟩, hz3, hf3⟩
                        have hq3 := hq1.turn hz3 hf3
                        obtain ⟨sa3, fi3, hz3⟩ := hz3
                        go_wp2_with fail
                        refine (stateI hz3).mono ?_
                        rintro e W4 ⟨rfl, rfl⟩
                        have hb3 : ((3 : Int) != (3 : Int)) = false := by simp
                        have hb4 : ((L.length : Int) != (L.length : Int)) = false := by simp
                        go_wp2_with fail
                        refine (lenI hz3).mono ?_
                        rintro e W5 ⟨rfl, rfl⟩
                        rw [ints_length]
                        go_wp2_with fail
                        refine ⟨rfl, [], rfl, ⟨k + 1, by omega, by show Value.int IntKind.i64 ((k : Int) + 1) = _; simp, rfl, hq3⟩, ?_⟩
                        show more.length - (intOf (.int .i64 ((k : Int) + 1))).toNat < _
                        simp only [intOf]
                        omega
                  · refine (readI_off hz0 X).mono ?_
                    rintro e W2 ⟨rfl, rfl⟩
                    go_wp2_with fail
                    refine hstep.mono ?_
                    rintro e W3 ⟨⟨r9, rfl⟩, hz3, hf3⟩
                    have hq3 := hq1.turn hz3 hf3
                    obtain ⟨sa3, fi3, hz3⟩ := hz3
                    go_wp2_with fail
                    refine (stateI hz3).mono ?_
                    rintro e W4 ⟨rfl, rfl⟩
                    have hb3 : ((4 : Int) != (4 : Int)) = false := by simp
                    have hb4 : ((L.length : Int) != (L.length : Int)) = false := by simp
                    go_wp2_with fail
                    refine (lenI hz3).mono ?_
                    rintro e W5 ⟨rfl, rfl⟩
                    rw [ints_length]
                    go_wp2_with fail
                    refine ⟨rfl, [], rfl, ⟨k + 1, by omega, by show Value.int IntKind.i64 ((k : Int) + 1) = _; simp, rfl, hq3⟩, ?_⟩
                    show more.length - (intOf (.int .i64 ((k : Int) + 1))).toNat < _
                    simp only [intOf]
                    omega
              · have hb9 := hq.bl
                go_wp2_with fail
                refine marks_all [] _ (Marks.nil _) ?_
                intro w9 hw9
                exact ⟨.bool true, resC5 rfl, rfl, hb9.trans (hw9.below hb9.size (by simp))⟩
            · skip
              go_wp2_with fail
              refine hfail.mono ?_
              rintro e W2 ⟨⟨u9, rfl⟩, hz2, hf2⟩
              have hq2 := HA.out W2 hz2 hf2
              obtain ⟨stz, hstz⟩ : ∃ y, failTo st 4 = y := ⟨_, rfl⟩
              have hz2' := hz2
              rw [hstz] at hz2' hq2
              have HZ2 := Lib.hid (hstz ▸ HZ.out : failedOf stz ≠ 0)
              have HF2 := Lib.hid (hstz ▸ HF.out : stz = 3 ∨ stz = 4)
              clear hz2 hf2 hfail hstz HZ HF HA key
              go_wp2_with fail
              refine (stateI hz2').mono ?_
              rintro e W3 ⟨rfl, rfl⟩
              go_wp2_with fail
              refine (lenI hz2').mono ?_
              rintro e W4 ⟨rfl, rfl⟩
              rw [ints_length]
              clear hz2'
              go_wp2_with fail
              refine wp_loop_P (ds0 := []) (fun t => (decide (17 ≤ t) && decide (t ≤ 19)) || (decide (74 ≤ t) && decide (t ≤ 140)))
                (fun u ds W => ∃ k : Nat, k ≤ more.length ∧ u 74 = .int .i64 k ∧ ds = [] ∧ Zff w W b xb size v x L stz safe st fin) (fun u _ => more.length - (intOf (u 74)).toNat)
                ⟨0, by omega, rfl, rfl, hq2⟩ ?_
              clear hq2 hlk hlt hk
              intro u ds W hrel
              obtain ⟨k, hk, h74, rfl, hq⟩ := hrel
              simp only [mixP, List.mapIdx_cons, List.mapIdx_nil, Nat.reduceLeDiff, decide_true, decide_false, Nat.reduceAdd, Nat.zero_add, Bool.and_true, Bool.and_false, Bool.true_and, Bool.false_and, Bool.or_false, Bool.or_true, Bool.false_or, Bool.true_or, if_true, if_false, Bool.false_eq_true, h74]
              clear h74
              by_cases hlt : k < more.length
              · skip
                obtain ⟨bb, o, rfl, hbl, hcell⟩ := hc2 (List.ne_nil_of_length_pos (by omega))
                have hcc := hcell k hlt
                generalize more[k] = kxy at hcc
                obtain ⟨K, X, Y⟩ := kxy
                obtain ⟨c1, c2, c3⟩ := hcc
                have hB := fun (j : Nat) (u : Value) (h : w.cell? ⟨bb, j, none⟩ = some u) => (World.cell?_of_block (a := ⟨bb, j, none⟩) (hq.bl.block bb hbl)).trans h
                replace c1 := hB _ _ c1
                replace c2 := hB _ _ c2
                replace c3 := hB _ _ c3
                clear hB hcell
                rw [← Nat.add_assoc] at c2 c3
                have hq1 := hq.fr0 ((Fr.refl (fun _ => False) W).alloc (.cells #[.int .i64 K, .int .i64 X, .int .i64 Y] 41))
                have go := blk_new W (.cells #[.int .i64 K, .int .i64 X, .int .i64 Y] 41)
                have hob : ∀ j, Zf b v j → j < W.heap.size := by
                  obtain ⟨sa, fi, hz0⟩ := hq.zn
                  rintro j (rfl | e)
                  · exact hz0.lt
                  · exact (hz0.rlt e).2
                go_upto_region 20 with fail
                obtain ⟨ob, hob0⟩ : ∃ ob, W.heap.size = ob := ⟨_, rfl⟩
                rw [hob0] at go hob
                try rw [hob0]
                clear c1 c2 c3 hob0 hq
                generalize W.alloc (.cells #[.int .i64 K, .int .i64 X, .int .i64 Y] 41) = W1 at hq1 go ⊢
                clear W
                have co := fun i => blk_cell go i
                by_cases k678 : K = 6 ∨ K = 7 ∨ K = 8
                · rcases k678 with rfl | rfl | rfl <;>
                  (go_wp2_with fail
                   refine ⟨rfl, [], rfl, ⟨k + 1, by omega, by show Value.int IntKind.i64 ((k : Int) + 1) = _; simp, rfl, hq1⟩, ?_⟩
                   show more.length - (intOf (.int .i64 ((k : Int) + 1))).toNat < _
                   simp only [intOf]
                   omega)
                · have k6 : K ≠ 6 := fun e => k678 (.inl e)
                  have k7 : K ≠ 7 := fun e => k678 (.inr (.inl e))
                  have k8 : K ≠ 8 := fun e => k678 (.inr (.inr e))
                  have kb6 : (K == 6) = false := by simpa using k6
                  have kb7 : (K == 7) = false := by simpa using k7
                  have kb8 : (K == 8) = false := by simpa using k8
                  have K6 := Lib.hid k6
                  have K7 := Lib.hid k7
                  have K8 := Lib.hid k8
                  clear k678 k6 k7 k8
                  obtain ⟨sa, fi, hz0⟩ := hq1.zn
                  obtain ⟨ax, cx, rfl⟩ := row_val hq1.row
                  have hstep := stepF hz0 HZ2.out hq1.row hq1.sep (by omega) (safex := safe) (stx := st) (finx := fin) K X Y K6.out K7.out K8.out
                  have cq := fun i => blk_cell hq1.xc i
                  go_wp2_with fail
                  rcases HF2.out with rfl | rfl
                  · by_cases hx0 : X < 0
                    · refine (readI_no hz0 (by decide) X (.inl hx0)).mono ?_
                      rintro e W2 ⟨rfl, rfl⟩
                      have hd : decide ((0 : Int) ≤ X) = false := decide_eq_false (by omega)
                      go_wp2_with fail
                      refine hstep.mono ?_
                      rintro e W3 ⟨⟨r9, rfl⟩, hz3, hf3⟩
                      have hq3 := hq1.turn hz3 hf3
                      obtain ⟨sa3, fi3, hz3⟩ := hz3
                      go_wp2_with fail
                      refine (stateI hz3).mono ?_
                      rintro e W4 ⟨rfl, rfl⟩
                      have hb3 : ((3 : Int) != (3 : Int)) = false := by simp
                      have hb4 : ((L.length : Int) != (L.length : Int)) = false := by simp
                      go_wp2_with fail
                      refine (lenI hz3).mono ?_
                      rintro e W5 ⟨rfl, rfl⟩
                      rw [ints_length]
                      go_wp2_with fail
                      refine ⟨rfl, [], rfl, ⟨k + 1, by omega, by show Value.int IntKind.i64 ((k : Int) + 1) = _; simp, rfl, hq3⟩, ?_⟩
                      show more.length - (intOf (.int .i64 ((k : Int) + 1))).toNat < _
                      simp only [intOf]
                      omega
                    · have hd : decide ((0 : Int) ≤ X) = true := decide_eq_true (by omega)
                      by_cases hx1 : L.length ≤ X
                      · refine (readI_no hz0 (by decide) X (.inr (by rw [ints_length]; exact hx1))).mono ?_
                        rintro e W2 ⟨rfl, rfl⟩
                        have hd2 : decide (X < (L.length : Int)) = false := decide_eq_false (by omega)
                        go_wp2_with fail
                        refine hstep.mono ?_
                        rintro e W3 ⟨⟨r9, rfl⟩, hz3, hf3⟩
                        have hq3 := hq1.turn hz3 hf3
                        obtain ⟨sa3, fi3, hz3⟩ := hz3
                        go_wp2_with fail
                        refine (stateI hz3).mono ?_
                        rintro e W4 ⟨rfl, rfl⟩
                        have hb3 : ((3 : Int) != (3 : Int)) = false := by simp
                        have hb4 : ((L.length : Int) != (L.length : Int)) = false := by simp
                        go_wp2_with fail
                        refine (lenI hz3).mono ?_
                        rintro e W5 ⟨rfl, rfl⟩
                        rw [ints_length]
                        go_wp2_with fail
                        refine ⟨rfl, [], rfl, ⟨k + 1, by omega, by show Value.int IntKind.i64 ((k : Int) + 1) = _; simp, rfl, hq3⟩, ?_⟩
                        show more.length - (intOf (.int .i64 ((k : Int) + 1))).toNat < _
                        simp only [intOf]
                        omega
                      · have hd2 : decide (X < (L.length : Int)) = true := decide_eq_true (by omega)
                        have hrd : Calls Try.prog 26 #[.pointer (some ⟨b, 0, none⟩), .int .i64 X] W1 fun e w' => (∃ y : Int, e = .returned (.tuple #[.int .i64 y, .int .i64 0])) ∧ w' = W1 := by
                          obtain ⟨k, rfl⟩ : ∃ k : Nat, X = k := ⟨X.toNat, by omega⟩
                          have hk : k < (ints L).length := by rw [ints_length]; omega
                          have hye : (ints L)[k] = .int .i64 L[k] := by simp [ints]
                          have := readI_at hz0 (by decide) k hk
                          rw [hye] at this
                          exact this.mono fun e w' ⟨he, hw⟩ => ⟨⟨_, he⟩, hw⟩
                        refine hrd.mono ?_
                        rintro e W2 ⟨⟨y, rfl⟩, rfl⟩
                        clear hrd
                        go_wp2_with fail
                        refine hstep.mono ?_
                        rintro e W3 ⟨⟨r9, rfl⟩, hz3, hf3⟩
                        have hq3 := hq1.turn hz3 hf3
                        obtain ⟨sa3, fi3, hz3⟩ := hz3
                        go_wp2_with fail
                        refine (stateI hz3).mono ?_
                        rintro e W4 ⟨rfl, rfl⟩
                        have hb3 : ((3 : Int) != (3 : Int)) = false := by simp
                        have hb4 : ((L.length : Int) != (L.length : Int)) = false := by simp
                        go_wp2_with fail
                        refine (lenI hz3).mono ?_
                        rintro e W5 ⟨rfl, rfl⟩
                        rw [ints_length]
                        go_wp2_with fail
                        refine ⟨rfl, [], rfl, ⟨k + 1, by omega, by show Value.int IntKind.i64 ((k : Int) + 1) = _; simp, rfl, hq3⟩, ?_⟩
                        show more.length - (intOf (.int .i64 ((k : Int) + 1))).toNat < _
                        simp only [intOf]
                        omega
                  · refine (readI_off hz0 X).mono ?_
                    rintro e W2 ⟨rfl, rfl⟩
                    go_wp2_with fail
                    refine hstep.mono ?_
                    rintro e W3 ⟨⟨r9, rfl⟩, hz3, hf3⟩
                    have hq3 := hq1.turn hz3 hf3
                    obtain ⟨sa3, fi3, hz3⟩ := hz3
                    go_wp2_with fail
                    refine (stateI hz3).mono ?_
                    rintro e W4 ⟨rfl, rfl⟩
                    have hb3 : ((4 : Int) != (4 : Int)) = false := by simp
                    have hb4 : ((L.length : Int) != (L.length : Int)) = false := by simp
                    go_wp2_with fail
                    refine (lenI hz3).mono ?_
                    rintro e W5 ⟨rfl, rfl⟩
                    rw [ints_length]
                    go_wp2_with fail
                    refine ⟨rfl, [], rfl, ⟨k + 1, by omega, by show Value.int IntKind.i64 ((k : Int) + 1) = _; simp, rfl, hq3⟩, ?_⟩
                    show more.length - (intOf (.int .i64 ((k : Int) + 1))).toNat < _
                    simp only [intOf]
                    omega
              · have hb9 := hq.bl
                go_wp2_with fail
                refine marks_all [] _ (Marks.nil _) ?_
                intro w9 hw9
                exact ⟨.bool true, resC5 rfl, rfl, hb9.trans (hw9.below hb9.size (by simp))⟩
          · have h3 : state ≠ 3 := fun e => hst (.inl e)
            have h4 : state ≠ 4 := fun e => hst (.inr e)
            have h3' : (state != 3) = true := by simpa using h3
            have h4' : (state != 4) = true := by simpa using h4
            have hb9 := hq.bl
            go_wp2_with fail
            refine marks_all [] _ (Marks.nil _) ?_
            intro w9 hw9
            exact ⟨.bool true, resC5 rfl, rfl, hb9.trans (hw9.below hb9.size (by simp))⟩
  · refine (newI_no (by omega) _).mono ?_
    rintro e w2 ⟨rfl, rfl⟩
    go_wp2_with fail
    refine marks_all [] _ (Marks.nil _) ?_
    intro w9 hw9
    exact ⟨.bool true, resC5 rfl, rfl, hb.trans (hw9.below hb.size (by simp))⟩
end Go.Proofs.Ytlffjkijjggpkaa

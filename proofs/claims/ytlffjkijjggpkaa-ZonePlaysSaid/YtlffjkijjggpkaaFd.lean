/- The walk of the law on a zone's plays. No condition. -/
import Derived.Test.YtlffjkijjggpkaaFc0
namespace Go.Proofs.Ytlffjkijjggpkaa
open Go.RowKit Go.Conc

theorem resC6 {tmps : Array Value} {w : World} {v : Bool} (h1 : tmps.getD 6 undef = .bool v) : (results Try.f6 tmps).run Try.prog w = .ok (.bool v) w := by
  rw [Array.getD_eq_getD_getElem?] at h1
  simp [results, Try.f6, go_sem, h1]

set_option linter.unusedSimpArgs false in
set_option linter.unusedVariables false in
set_option maxRecDepth 100000 in
set_option maxHeartbeats 8000000 in
theorem zonePlays_walk (w : World) (size : Int) (v : Value) (ops : List (Int × Int × Int)) (_ : ops.length ≤ maxLen) (_ : ∀ z ∈ ops, Fits z.1 ∧ Fits z.2.1 ∧ Fits z.2.2) (hs : Sl3 w w.heap.size v ops) (stop : Int) :
    Calls Try.prog 6 #[.int .i64 size, v, .int .i64 stop] w fun e w' => e = .returned (.bool true) ∧ Below w.heap.size w w' := by
  obtain ⟨a, cap, rfl, hc⟩ := hs
  refine calls_of_marks Try.func6 rfl ?_
  simp only [Try.ntmps6, List.size_toArray, List.length_cons, List.length_nil, Nat.reduceAdd, Nat.reduceSub, Array.replicate_succ, Array.replicate_zero, List.push_toArray, List.append_toArray, List.nil_append, List.cons_append]
  go_wp2_with fail
  have gs := blk_new w (.cells #[.int .i64 stop] 3)
  have b0 : Below w.heap.size w (w.alloc (.cells #[.int .i64 stop] 3)) := (Below.refl _ w).alloc (Nat.le_refl _) _
  have hz0 : (w.alloc (.cells #[.int .i64 stop] 3)).heap.size = w.heap.size + 1 := by simp
  generalize w.alloc (.cells #[.int .i64 stop] 3) = w0 at gs b0 hz0 ⊢
  refine (anchor6 _).mono ?_
  rintro e w1 ⟨rfl, hb⟩
  go_wp2_with fail
  by_cases hsz : 1 ≤ size ∧ size ≤ 64
  · obtain ⟨s1, s2⟩ := hsz
    refine (newI_ok s1 s2 _).mono ?_
    rintro e w2 ⟨rfl, rfl⟩
    have hz := newI_at (base := w0.heap.size) w1 size hb.size
    have b2 : Below w0.heap.size w0 (w1.alloc (.cells #[.slice none 0 0, .int .i64 size, .int .i64 0, .int .i64 0, .bool false] 58)) := hb.alloc hb.size _
    obtain ⟨b, hbb⟩ : ∃ b, w1.heap.size = b := ⟨_, rfl⟩
    rw [hbb] at hz ⊢
    clear hbb
    generalize w1.alloc (.cells #[.slice none 0 0, .int .i64 size, .int .i64 0, .int .i64 0, .bool false] 58) = w2 at hz b2 ⊢
    clear hb w1
    by_cases hl : 80 < ops.length
    · go_wp2_with fail
      refine marks_all [] _ (Marks.nil _) ?_
      intro w9 hw9
      exact ⟨.bool true, resC6 rfl, rfl, (b0.trans (b2.mono (by omega))).trans (hw9.below (by have := b2.size; omega) (by simp))⟩
    · go_wp2_with fail
      have hq := Zall.start (w := w0) hz b2 s1 s2
      obtain ⟨xb, hxb⟩ : ∃ xb, w2.heap.size = xb := ⟨_, rfl⟩
      rw [hxb] at hq ⊢
      clear hxb hz b2
      generalize w2.alloc (.cells #[.slice none 0 0, .int .i64 size, .int .i64 0, .int .i64 0, .bool false] 49) = w3 at hq ⊢
      clear w2
      refine wp_loop_P (ds0 := []) (fun t => (decide (11 ≤ t) && decide (t ≤ 12)) || (decide (46 ≤ t) && decide (t ≤ 65)))
        (fun u ds W => ∃ k : Nat, k ≤ ops.length ∧ u 46 = .int .i64 k ∧ ds = [] ∧ ∃ v x L safe st fin, Zall w0 W b xb size v x L safe st fin) (fun u _ => ops.length - (intOf (u 46)).toNat)
        ⟨0, by omega, rfl, rfl, _, _, [], 0, 0, false, hq⟩ ?_
      intro u ds W hrel
      obtain ⟨k, hk, h46, rfl, v, x, L, safe, st, fin, hq⟩ := hrel
      simp only [mixP, List.mapIdx_cons, List.mapIdx_nil, Nat.reduceLeDiff, decide_true, decide_false, Nat.reduceAdd, Nat.zero_add, Bool.and_true, Bool.and_false, Bool.true_and, Bool.false_and, Bool.or_false, Bool.or_true, Bool.false_or, Bool.true_or, if_true, if_false, Bool.false_eq_true, h46]
      clear h46
      by_cases hlt : k < ops.length
      · obtain ⟨bb, o, rfl, hbl, hcell⟩ := hc (List.ne_nil_of_length_pos (by omega))
        have hcc := hcell k hlt
        generalize ops[k] = kxy at hcc
        obtain ⟨K, X, Y⟩ := kxy
        obtain ⟨c1, c2, c3⟩ := hcc
        have hB := fun (j : Nat) (u : Value) (h : w.cell? ⟨bb, j, none⟩ = some u) => (World.cell?_of_block (a := ⟨bb, j, none⟩) ((b0.trans (hq.bl.mono (by omega))).block bb hbl)).trans h
        replace c1 := hB _ _ c1
        replace c2 := hB _ _ c2
        replace c3 := hB _ _ c3
        clear hB hcell hc
        rw [← Nat.add_assoc] at c2 c3
        obtain ⟨ax, cx, rfl⟩ := row_val hq.zs.row
        have cx := fun o i => blk_cell (blk_alloc hq.xc o) i
        go_wp2_with fail
        have hq1 := hq.fr0 ((Fr.refl (fun _ => False) W).alloc (.cells #[.int .i64 K, .int .i64 X, .int .i64 Y] 41))
        generalize W.alloc (.cells #[.int .i64 K, .int .i64 X, .int .i64 Y] 41) = W1 at hq1 ⊢
        clear c1 c2 c3 cx hq
        refine (stepZ hq1.zs hq1.bl.size K X Y).mono ?_
        rintro e W2 ⟨v', x', L', safe', st', fin', rfl, hst⟩
        obtain ⟨ax', cx', rfl⟩ := row_val hst.1.row
        have hkp := hq1.kept hst
        have hq2 := hq1.step hst
        have ck := fun i => blk_cell hkp i
        have fk := fun i => blk_frozen hkp i
        have cy := fun i => blk_cell hq2.xc i
        go_wp2_with fail
        generalize ((((W2.setCell ⟨xb, 0, none⟩ (.slice ax' L'.length cx')).setCell ⟨xb, 1, none⟩ (.int .i64 size)).setCell ⟨xb, 2, none⟩ (.int .i64 safe')).setCell ⟨xb, 3, none⟩ (.int .i64 st')).setCell ⟨xb, 4, none⟩ (.bool fin') = W3 at hq2 ⊢
        clear hkp ck fk cy
        refine (sameZ hq2.zs.zn hq2.zs.row (by have := hq2.zs.good.n1; omega)).mono ?_
        rintro e W4 ⟨rfl, hf4⟩
        have hq4 := hq2.fr0 hf4
        go_wp2_with fail
        refine ⟨rfl, [], rfl, ⟨k + 1, by omega, by show Value.int IntKind.i64 ((k : Int) + 1) = _; simp, rfl, _, _, _, _, _, _, hq4⟩, ?_⟩
        show ops.length - (intOf (.int .i64 ((k : Int) + 1))).toNat < _
        simp only [intOf]
        omega
      · go_wp2_with fail
        have hq1 := hq.fr0 ((Fr.refl (fun _ => False) W).alloc (.cells #[.int .i64 0] 3))
        have gn := blk_new W (.cells #[.int .i64 0] 3)
        refine (allI hq1.zs.zn).mono ?_
        rintro e W' ⟨rfl, rfl⟩
        have hF := ((Fr.refl (fun _ => False) W).alloc (.cells #[.int .i64 0] 3)).alloc (.cells #[v] 39)
        have hq4 := hq.fr0 hF
        have hn4 := blk_alloc gn (.cells #[v] 39)
        have hx4 := blk_new (W.alloc (.cells #[.int .i64 0] 3)) (.cells #[v] 39)
        rw [World.size_alloc] at hx4
        have hS4 : ((W.alloc (.cells #[.int .i64 0] 3)).alloc (.cells #[v] 39)).heap.size = W.heap.size + 2 := by simp
        have hfl : ∀ j, Zfa b xb v x j → j < W.heap.size := fun j hj => (hq.lt hj).2
        have hbse : w0.heap.size ≤ W.heap.size := hq.bl.size
        have hsz1 : (W.alloc (.cells #[.int .i64 0] 3)).heap.size = W.heap.size + 1 := by simp
        obtain ⟨nb, hnb⟩ : ∃ nb, W.heap.size = nb := ⟨_, rfl⟩
        rw [hnb] at hn4 hx4 hS4 hfl hbse hsz1
        try rw [hsz1]
        try rw [hnb]
        clear hsz1 hF gn hq1
        generalize (W.alloc (.cells #[.int .i64 0] 3)).alloc (.cells #[v] 39) = W4 at hq4 hn4 hx4 hS4 ⊢
        clear hnb hq W
        have hn1 := hq4.zs.good.n1
        have gst : ∀ V, Fr (fun k => k = nb) W4 V → V.heap[w.heap.size]? = some (.cells #[.int .i64 stop] 3 (0, 0)) := fun V hV => hV.heap ((hq4.bl.block _ (by omega)).trans gs) (by omega)
        go_wp2_with fail
        refine wp_rangeFr (gf := 42) rfl (enters Try.func42 rfl (by decide)) (xs := pairs (ints L)) (St := Eq) (fun k => k = nb)
          (fun i W => W.heap[nb]? = some (.cells #[.int .i64 i] 3 (0, 0))) (fun c W => c = .exit 2 ∧ W.heap[nb]? = some (.cells #[.int .i64 stop] 3 (0, 0)) ∧ 1 ≤ stop ∧ stop ≤ L.length) ?_ ?_ ?_ ?_ ?_ ?_ ?_ ?_ ?_ ?_
        · intro x hx
          unfold pairs at hx
          obtain ⟨j, hj, rfl⟩ := List.mem_mapIdx.1 hx
          rfl
        · intro k hk; omega
        · intro i X Y h hk; exact (hk _ rfl).trans h
        · intro c X Y h hk; exact ⟨h.1, (hk _ rfl).trans h.2.1, h.2.2⟩
        · rintro X Y rfl; exact Fr.refl _ _
        · exact hn4
        · intro W hf hs
          rw [hS4] at hs
          have hi := all_iter (w := W) (base := w0.heap.size) (row_fr hq4.zs.zn.row hf (fun _ _ => id)) (by rw [ints_length]; omega) (hf.heap hx4 id)
          refine hi.weak fun X Y hXY k hk => ?_
          rcases hk with rfl | hk
          · exact hXY _ (by omega) (by omega)
          · have := hfl k (.inl (.inr (.inl hk)))
            exact hXY _ (by omega) (by omega)
        · intro i args W hx
          unfold pairs at hx
          rw [List.getElem?_mapIdx] at hx
          obtain ⟨y, hy, rfl⟩ := Option.map_eq_some_iff.1 hx
          obtain ⟨hi, rfl⟩ := List.getElem?_eq_some_iff.1 hy
          have hiL : i < L.length := by rwa [ints_length] at hi
          have hye : (ints L)[i] = .int .i64 L[i] := by simp [ints]
          rw [hye]
          clear hx hy hye
          rw [zip2]
          have hfn : ∀ f, (Fence.wide.inRound (W4.heap.size + 1)).fn f := fun _ => trivial
          have hdp : (Fence.wide.inRound (W4.heap.size + 1)).depth = none := rfl
          gi_wp2_with (rw [Oper.semAt_eq _ _ _ (fun c h => by cases h)]; go_simp; try go_bits)
          refine ⟨rfl, fun X hF hJ hs => ?_⟩
          rw [hS4] at hs hfn hdp ⊢
          have ca := fun i => blk_cell (gst X hF) i
          have h2 := blk_put hJ 0 (.int .i64 ((i : Int) + 1))
          have cb := fun i => blk_cell hJ i
          have fb := fun i => blk_frozen hJ i
          have cc := fun i => blk_cell h2 i
          have f3 := Fr.set1 X nb 0 (.int .i64 ((i : Int) + 1))
          have cd := fun i => blk_cell (f3.heap (gst X hF) (by omega)) i
          cases hst : ((i : Int) + 1 == stop) with
          | true =>
            gi_wp2_with (rw [Oper.semAt_eq _ _ _ (fun c h => by cases h)]; go_simp; try go_bits)
            have e : (i : Int) + 1 = stop := by simpa using hst
            exact ⟨f3, rfl, by rw [← e]; simpa using h2, by omega, by omega⟩
          | false =>
            gi_wp2_with (rw [Oper.semAt_eq _ _ _ (fun c h => by cases h)]; go_simp; try go_bits)
            exact ⟨f3, by simpa using h2⟩
        · intro W hf hJ hm
          rw [show (pairs (ints L)).length = L.length by simp [pairs, ints]] at hJ
          rw [hS4] at hm ⊢
          have hq5 := hq4.fr hf (fun k hk e => by have := hfl k hk; omega) (fun k hk => by omega)
          obtain ⟨ax, cx, rfl⟩ := row_val hq5.zs.row
          have ca := fun i => blk_cell hJ i
          have cb := fun i => blk_cell hq5.xc i
          have cd := fun i => blk_cell (gst W hf) i
          have cz := fun i => blk_frozen hJ i
          go_wp2_with fail
          refine marks_all [nb + 2] _ ((Marks.nil _).cons hm (by simp)) ?_
          intro w9 hw9
          have hb9 := b0.trans (hq5.bl.mono (by omega))
          exact ⟨.bool true, resC6 rfl, rfl, hb9.trans (hw9.below hb9.size (fun i hi e => by simp at e; have := hb9.size; omega))⟩
        · rintro c W hf ⟨rfl, hJ, hs1, hs2⟩ hm
          rw [hS4] at hm ⊢
          have hq5 := hq4.fr hf (fun k hk e => by have := hfl k hk; omega) (fun k hk => by omega)
          obtain ⟨ax, cx, rfl⟩ := row_val hq5.zs.row
          have ca := fun i => blk_cell hJ i
          have cb := fun i => blk_cell hq5.xc i
          have cd := fun i => blk_cell (gst W hf) i
          have cz := fun i => blk_frozen hJ i
          cases hsl : (stop == (L.length : Int)) with
          | true =>
            go_wp2_with fail
            refine marks_all [nb + 2] _ ((Marks.nil _).cons hm (by simp)) ?_
            intro w9 hw9
            have hb9 := b0.trans (hq5.bl.mono (by omega))
            exact ⟨.bool true, resC6 rfl, rfl, hb9.trans (hw9.below hb9.size (fun i hi e => by simp at e; have := hb9.size; omega))⟩
          | false =>
            have hlt2 : decide (stop < (L.length : Int)) = true := by
              have : stop ≠ (L.length : Int) := by simpa using hsl
              exact decide_eq_true (by omega)
            have hss : (stop == stop) = true := by simp
            go_wp2_with fail
            refine marks_all [nb + 2] _ ((Marks.nil _).cons hm (by simp)) ?_
            intro w9 hw9
            have hb9 := b0.trans (hq5.bl.mono (by omega))
            exact ⟨.bool true, resC6 rfl, rfl, hb9.trans (hw9.below hb9.size (fun i hi e => by simp at e; have := hb9.size; omega))⟩
  · refine (newI_no (by omega) _).mono ?_
    rintro e w2 ⟨rfl, rfl⟩
    have hbb := b0.trans (hb.mono (by omega))
    rcases (show size < 1 ∨ 64 < size by omega) with q | q
    · go_wp2_with fail
      refine marks_all [] _ (Marks.nil _) ?_
      intro w9 hw9
      exact ⟨.bool true, resC6 rfl, rfl, hbb.trans (hw9.below hbb.size (by simp))⟩
    · have q0 : 1 ≤ size := by omega
      go_wp2_with fail
      refine marks_all [] _ (Marks.nil _) ?_
      intro w9 hw9
      exact ⟨.bool true, resC6 rfl, rfl, hbb.trans (hw9.below hbb.size (by simp))⟩
end Go.Proofs.Ytlffjkijjggpkaa

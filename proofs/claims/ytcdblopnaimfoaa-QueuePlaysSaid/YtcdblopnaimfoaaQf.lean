/- The walk of the law on a queue's plays. No condition. -/
import Derived.Test.YtcdblopnaimfoaaQe
import Derived.Test.YtcdblopnaimfoaaQLa
import Derived.Test.YtcdblopnaimfoaaArgs2
namespace Go.Proofs.Ytcdblopnaimfoaa
open Go.RowKit Go.Conc

theorem resC9 {tmps : Array Value} {w : World} {v : Bool} (h1 : tmps.getD 6 undef = .bool v) : (results Try.f9 tmps).run Try.prog w = .ok (.bool v) w := by
  rw [Array.getD_eq_getD_getElem?] at h1
  simp [results, Try.f9, go_sem, h1]
/-- What the law keeps. -/
structure Qp (w0 W : World) (b c cap : Nat) (u : Value) (L : List Int) (ds : List Nat) : Prop where
  q : QAt 92 W b c cap (ints L)
  r : RdAt (fun g => w0.heap.size ≤ g) W u (ints L)
  bl : Below w0.heap.size w0 W
  cge : w0.heap.size ≤ c
  hcap : L.length ≤ cap
  m : Marks ds W
  mg : ∀ D ∈ ds, w0.heap.size ≤ D
section
variable {w0 W W' : World} {b c cap : Nat} {u u' : Value} {L L' : List Int} {ds : List Nat}
theorem Qp.fr0 (h : Qp w0 W b c cap u L ds) (hf : Fr (fun _ => False) W W') : Qp w0 W' b c cap u L ds :=
  ⟨h.q.fr hf id id, h.r.fr hf (fun _ _ => id), h.bl.trans (hf.below h.bl.size (fun _ _ => id)), h.cge, h.hcap, h.m.fr hf (fun _ _ => id), h.mg⟩
theorem Qp.turn (h : Qp w0 W b c cap u L ds) (hf : Fr (fun k => k = c) W W') (hq : QAt 92 W' b c cap (ints L')) (hr : RdAt (fun g => w0.heap.size ≤ g) W u' (ints L')) (hc : L'.length ≤ cap) : Qp w0 W' b c cap u' L' ds :=
  ⟨hq, hr.frc h.q hf, h.bl.trans (hf.below h.bl.size (fun i hi e => by have := h.cge; omega)), h.cge, hc, h.m.fr hf (fun D hD e => by obtain ⟨_, s, r, h4⟩ := h.q; exact ne_obj (h.m.2 D hD) h4 (by intro e; cases e) e), h.mg⟩
end

set_option linter.unusedSimpArgs false in
set_option linter.unusedVariables false in
set_option maxRecDepth 100000 in
set_option maxHeartbeats 8000000 in
theorem queuePlays_walk (w : World) (room : Int) (v : Value) (ops : List (Int × Int)) (_ : ops.length ≤ maxLen) (_ : ∀ z ∈ ops, Fits z.1 ∧ Fits z.2) (hs : Sl2 w w.heap.size v ops) (stop : Int) :
    Calls Try.prog 9 #[.int .i64 room, v, .int .i64 stop] w fun e w' => e = .returned (.bool true) ∧ Below w.heap.size w w' := by
  obtain ⟨a, cap0, rfl, hc⟩ := hs
  have HC := Lib.hid hc
  clear hc
  refine calls_of_marks Try.func9 rfl ?_
  simp only [Try.ntmps9, List.size_toArray, List.length_cons, List.length_nil, Nat.reduceAdd, Nat.reduceSub, Array.replicate_succ, Array.replicate_zero, List.push_toArray, List.append_toArray, List.nil_append, List.cons_append]
  go_wp2_with fail
  have gs := blk_new w (.cells #[.int .i64 stop] 3)
  have b0 : Below w.heap.size w (w.alloc (.cells #[.int .i64 stop] 3)) := (Below.refl _ w).alloc (Nat.le_refl _) _
  have hz0 : (w.alloc (.cells #[.int .i64 stop] 3)).heap.size = w.heap.size + 1 := by simp
  generalize w.alloc (.cells #[.int .i64 stop] 3) = w0 at gs b0 hz0 ⊢
  refine (anchor9 _).mono ?_
  rintro e w1 ⟨rfl, hb⟩
  go_wp2_with fail
  by_cases hrm : 1 ≤ room ∧ room ≤ 4096
  · obtain ⟨r1, r2⟩ := hrm
    obtain ⟨cap, rfl⟩ := Int.eq_ofNat_of_zero_le (by omega : 0 ≤ room)
    refine (newI_ok _ r1 r2 _).mono ?_
    rintro e w2 ⟨rfl, hq, hb2, hz2⟩
    rw [Int.toNat_natCast] at hq
    have b2 := hb.trans (hb2.mono hb.size)
    obtain ⟨c, hcd⟩ : ∃ c, w1.heap.size = c := ⟨_, rfl⟩
    have hcw : w0.heap.size ≤ c := by have := hb.size; omega
    rw [hcd] at hq ⊢
    clear hcd hb2 hz2 hb w1
    have hcap : cap ≤ 4096 := by omega
    by_cases hl : 80 < ops.length
    · go_wp2_with fail
      refine marks_all [] _ (Marks.nil _) ?_
      intro w9 hw9
      exact ⟨.bool true, resC9 rfl, rfl, (b0.trans (b2.mono (by omega))).trans (hw9.below (by have := b2.size; omega) (by simp))⟩
    · go_wp2_with fail
      refine wp_loop_P (ds0 := []) (fun t => (decide (9 ≤ t) && decide (t ≤ 17)) || decide (48 ≤ t))
        (fun u ds W => ∃ k : Nat, k ≤ ops.length ∧ u 48 = .int .i64 k ∧ ∃ L, L.length ≤ k ∧ Qp w0 W (c + 1) c cap (u 9) L ds) (fun u _ => ops.length - (intOf (u 48)).toNat)
        ⟨0, by omega, rfl, [], by simp, hq, RdAt.nil _ _, b2, hcw, by simp, Marks.nil _, by simp⟩ ?_
      clear hq b2
      intro u ds W hrel
      obtain ⟨k, hk, h48, L, hLk, hq⟩ := hrel
      simp only [mixP, List.mapIdx_cons, List.mapIdx_nil, Nat.reduceLeDiff, decide_true, decide_false, Nat.reduceAdd, Nat.zero_add, Bool.and_true, Bool.and_false, Bool.true_and, Bool.false_and, Bool.or_false, Bool.or_true, Bool.false_or, Bool.true_or, if_true, if_false, Bool.false_eq_true, h48]
      clear h48
      by_cases hlt : k < ops.length
      · obtain ⟨bb, o, rfl, hbl, hcell⟩ := HC.out (List.ne_nil_of_length_pos (by omega))
        have hcc := hcell k hlt
        generalize ops[k] = kxy at hcc
        obtain ⟨K, X⟩ := kxy
        obtain ⟨c1, c2⟩ := hcc
        have hB := fun (j : Nat) (u : Value) (h : w.cell? ⟨bb, j, none⟩ = some u) => (World.cell?_of_block (a := ⟨bb, j, none⟩) ((b0.trans (hq.bl.mono (by omega))).block bb hbl)).trans h
        replace c1 := hB _ _ c1
        replace c2 := hB _ _ c2
        clear hB hcell
        rw [← Nat.add_assoc] at c2
        generalize u 9 = u9 at hq ⊢
        obtain ⟨a9, n9, rfl⟩ := hq.r.val
        rw [ints_length] at hq ⊢
        go_upto_block 2 with fail
        have hq1 := hq.fr0 ((Fr.refl (fun _ => False) W).alloc (.cells #[.int .i64 K, .int .i64 X] 54))
        have ho := blk_new W (.cells #[.int .i64 K, .int .i64 X] 54)
        obtain ⟨ob, hob0⟩ : ∃ ob, W.heap.size = ob := ⟨_, rfl⟩
        rw [hob0] at ho
        try rw [hob0]
        clear hob0 c1 c2 hq
        generalize W.alloc (.cells #[.int .i64 K, .int .i64 X] 54) = W1 at hq1 ho ⊢
        clear W
        have co := fun i => blk_cell ho i
        refine wp_cut (ds := ds) (fun t => (decide (9 ≤ t) && decide (t ≤ 9)) || ((decide (12 ≤ t) && decide (t ≤ 16)) || (decide (52 ≤ t) && decide (t ≤ 103))))
          (fun u W' => ∃ L, L.length ≤ k + 1 ∧ Qp w0 W' (c + 1) c cap (u 9) L ds) ?_ ?_
        · simp only [mixP, List.mapIdx_cons, List.mapIdx_nil, Nat.reduceLeDiff, decide_true, decide_false, Nat.reduceAdd, Nat.zero_add, Bool.and_true, Bool.and_false, Bool.true_and, Bool.false_and, Bool.or_false, Bool.or_true, Bool.false_or, Bool.true_or, if_true, if_false, Bool.false_eq_true]
          by_cases k1 : K = 1
          · subst k1
            go_wp2_with fail
            by_cases hroom : L.length < cap
            · refine (refPut_room hq1.r (cap : Int) X (by omega) (by omega)).mono ?_
              rintro e W2 ⟨u2, rfl, hr2, hf2⟩
              obtain ⟨a2, n2, rfl⟩ := row_val hr2
              have hq2 := hq1.fr0 hf2
              have ho2 := hf2.heap ho id
              have co2 := fun i => blk_cell ho2 i
              go_wp2_with fail
              refine (putI_room _ c X cap _ _ hq2.q (by rw [ints_length]; exact hroom)).mono ?_
              rintro e W3 ⟨rfl, hq3, hf3⟩
              have e9 : ints L ++ [.int .i64 X] = ints (L ++ [X]) := by simp [ints]
              rw [e9] at hq3
              have hb2 := hq1.bl.size
              have hq4 := hq2.turn hf3 hq3 ((row_rd hr2).mono (fun g hg => by have := (hr2.lt g hg).1; omega)) (by simp; omega)
              go_wp2_with fail
              exact ⟨rfl, trivial, L ++ [X], by simp; omega, hq4⟩
            · refine (refPut_full hq1.r (cap : Int) X (by omega)).mono ?_
              rintro e W2 ⟨rfl, rfl⟩
              go_wp2_with fail
              refine (putI_full _ c X cap _ _ hq1.q (by rw [ints_length]; omega)).mono ?_
              rintro e W3 ⟨rfl, rfl⟩
              go_wp2_with fail
              exact ⟨rfl, trivial, L, by omega, hq1⟩
          by_cases k2 : K = 2
          · subst k2
            go_wp2_with fail
            cases L with
            | nil =>
              refine (refTake_none hq1.r).mono ?_
              rintro e W2 ⟨rfl, rfl⟩
              go_wp2_with fail
              refine (takeI_none _ c cap _ hq1.q).mono ?_
              rintro e W3 ⟨rfl, rfl⟩
              go_wp2_with fail
              exact ⟨rfl, trivial, [], by simp, hq1⟩
            | cons y t =>
              refine (refTake_some hq1.r (by simp at hLk; omega)).mono ?_
              rintro e W2 ⟨u2, rfl, hr2, hf2⟩
              obtain ⟨a2, n2, rfl⟩ := hr2.val
              have hq2 := hq1.fr0 hf2
              go_wp2_with fail
              refine (takeI_some _ c y cap (ints t) _ hq2.q).mono ?_
              rintro e W3 ⟨rfl, hq3, hf3⟩
              have hq4 := hq2.turn hf3 hq3 hr2 (by have := hq1.hcap; simp at this; omega)
              have hyy : (y != y) = false := by simp
              go_wp2_with fail
              exact ⟨rfl, trivial, t, by simp at hLk; omega, hq4⟩
          by_cases k3 : K = 3
          · subst k3
            go_wp2_with fail
            refine (refEven hq1.r (by omega)).mono ?_
            rintro e W2 ⟨u2, rfl, hr2, hf2⟩
            obtain ⟨a2, n2, rfl⟩ := row_val hr2
            have hq2 := hq1.fr0 hf2
            have hfl : (L.filter evenP).length ≤ L.length := List.length_filter_le _ _
            have hk3 := keepQ hq2.q (by have := hq1.hcap; omega) hq1.hcap 41 #[] evenP (enters Try.func41 rfl (by decide)) (fun x V _ => by simpa using evenC x V)
            obtain ⟨n, hn⟩ : ∃ n, (L.filter evenP).length = n := ⟨_, rfl⟩
            have HN := Lib.hid hn
            rw [hn] at hr2 hfl hk3 ⊢
            have hw : IntKind.i64.wrap ((L.length : Int) - (n : Int)) = (L.length : Int) - n := IntWalk.i64_in _ (by omega)
            have hsub : ((L.length - n : Nat) : Int) = (L.length : Int) - n := by omega
            rw [hsub] at hk3
            have hbq : ((L.length : Int) - n != (L.length : Int) - n) = false := by simp
            clear hn hsub
            go_wp2_with fail
            refine hk3.mono ?_
            rintro e W3 ⟨rfl, hq3, hf3⟩
            have hb2 := hq1.bl.size
            have hr3 := (row_rd hr2).mono (D' := fun g => w0.heap.size ≤ g) (fun g hg => by have := (hr2.lt g hg).1; omega)
            clear hk3
            go_wp2_with fail
            have hfc : (L.filter evenP).length ≤ cap := by rw [HN.out]; have := hq1.hcap; omega
            exact ⟨rfl, trivial, L.filter evenP, by rw [HN.out]; omega, hq2.turn hf3 hq3 hr3 hfc⟩
          · have kb1 : (K == 1) = false := by simpa using k1
            have kb2 : (K == 2) = false := by simpa using k2
            have kb3 : (K == 3) = false := by simpa using k3
            go_wp2_with fail
            exact ⟨rfl, trivial, L, by omega, hq1⟩
        · clear hq1 ho co hLk
          intro u2 W2 hR
          obtain ⟨L, hLk, h1⟩ := hR
          simp only [mixP, List.mapIdx_cons, List.mapIdx_nil, Nat.reduceLeDiff, decide_true, decide_false, Nat.reduceAdd, Nat.zero_add, Bool.and_true, Bool.and_false, Bool.true_and, Bool.false_and, Bool.or_false, Bool.or_true, Bool.false_or, Bool.true_or, if_true, if_false, Bool.false_eq_true]
          generalize u2 9 = u9 at h1 ⊢
          obtain ⟨a9, n9, rfl⟩ := h1.r.val
          rw [ints_length] at h1 ⊢
          go_wp2_with fail
          have hn2 := blk_new W2 (.cells #[.int .i64 0] 3)
          refine (allQ (c + 1) (W2.alloc (.cells #[.int .i64 0] 3))).mono ?_
          rintro e W' ⟨rfl, rfl⟩
          have hF := ((Fr.refl (fun _ => False) W2).alloc (.cells #[.int .i64 0] 3)).alloc (.cells #[.pointer (some ⟨c + 1, 0, none⟩)] 33)
          have hfl : ∀ D ∈ ds, D < W2.heap.size := fun D hD => h1.m.lt hD
          have hrs := h1.r.sharp h1.q
          have hlb := h1.q.bl
          have hlc := h1.q.cl
          have hbse : w0.heap.size ≤ W2.heap.size := h1.bl.size
          replace hrs := hrs.fr hF (fun _ _ => id)
          replace h1 := h1.fr0 hF
          have hn4 := blk_alloc hn2 (.cells #[.pointer (some ⟨c + 1, 0, none⟩)] 33)
          have hx4 := blk_new (W2.alloc (.cells #[.int .i64 0] 3)) (.cells #[.pointer (some ⟨c + 1, 0, none⟩)] 33)
          rw [World.size_alloc] at hx4
          have hS4 : ((W2.alloc (.cells #[.int .i64 0] 3)).alloc (.cells #[.pointer (some ⟨c + 1, 0, none⟩)] 33)).heap.size = W2.heap.size + 2 := by simp
          have hsz1 : (W2.alloc (.cells #[.int .i64 0] 3)).heap.size = W2.heap.size + 1 := by simp
          obtain ⟨nb, hnb⟩ : ∃ nb, W2.heap.size = nb := ⟨_, rfl⟩
          rw [hnb] at hn4 hx4 hS4 hfl hrs hlb hlc hbse hsz1
          try rw [hsz1]
          try rw [hnb]
          clear hsz1 hF hn2
          generalize (W2.alloc (.cells #[.int .i64 0] 3)).alloc (.cells #[.pointer (some ⟨c + 1, 0, none⟩)] 33) = W4 at h1 hrs hn4 hx4 hS4 ⊢
          clear hnb W2
          have gst : ∀ V, Fr (fun k => k = nb ∨ k = c) W4 V → V.heap[w.heap.size]? = some (.cells #[.int .i64 stop] 3 (0, 0)) := fun V hV => hV.heap ((h1.bl.block _ (by omega)).trans gs) (by omega)
          have hcc := h1.hcap
          have hcg := h1.cge
          go_wp2_with fail
          refine wp_rangeN (gf := 61) rfl (enters Try.func61 rfl (by decide)) (xs := pairs (ints L)) (St := StQ c) (fun k => k = nb ∨ k = c)
            (fun i W => W.heap[nb]? = some (.cells #[.int .i64 i] 3 (0, 0)) ∧ ∃ s r, W.heap[c]? = some (.chan cap (ints L).toArray false s r false)) (fun cd W => cd = .exit 3 ∧ ∃ s r, W.heap[c]? = some (.chan cap (ints L).toArray false s r false)) ?_ ?_ ?_ ?_ ?_ ?_ ?_ ?_ ?_ ?_ ?_ ?_
          · intro x hx
            unfold pairs at hx
            obtain ⟨j, hj, rfl⟩ := List.mem_mapIdx.1 hx
            rfl
          · intro k hk; omega
          · rintro i X Y ⟨h, s, r, hc⟩ hk; exact ⟨(hk _ (.inl rfl)).trans h, s, r, (hk _ (.inr rfl)).trans hc⟩
          · rintro cd X Y ⟨h, s, r, hc⟩ hk; exact ⟨h, s, r, (hk _ (.inr rfl)).trans hc⟩
          · rintro X Y h; exact h.1.mono (fun i _ e => .inl (.inr e))
          · rintro i X Y ⟨h, s, r, hc⟩ hst; exact ⟨hst.1.heap h (by omega), hst.2 _ _ _ _ hc⟩
          · rintro cd X Y ⟨h, s, r, hc⟩ hst; exact ⟨h, hst.2 _ _ _ _ hc⟩
          · exact ⟨hn4, h1.q.2⟩
          · intro W hf hs
            rw [hS4] at hs
            have hi := all_iterQ (w := W) (h1.q.fr hf id id) (by omega) h1.hcap (hf.heap hx4 id)
            refine hi.weak fun X Y hXY => ⟨hXY.1, fun k h1 h2 => hXY.2 k h2 ?_ ?_ ?_⟩ <;> omega
          · intro i args W hx
            unfold pairs at hx
            rw [List.getElem?_mapIdx] at hx
            obtain ⟨y, hy, rfl⟩ := Option.map_eq_some_iff.1 hx
            obtain ⟨hi, rfl⟩ := List.getElem?_eq_some_iff.1 hy
            have hiL : i < L.length := by rwa [ints_length] at hi
            rw [ints_get L hiL]
            clear hx hy
            rw [zip2]
            have hfn : ∀ f, (Fence.wide.inRound (W4.heap.size + 1)).fn f := fun _ => trivial
            have hdp : (Fence.wide.inRound (W4.heap.size + 1)).depth = none := rfl
            gi_wp2_with (rw [Oper.semAt_eq _ _ _ (fun c h => by cases h)]; go_simp; try go_bits)
            refine ⟨rfl, fun X hF hJ hs => ?_⟩
            rw [hS4] at hs hfn hdp ⊢
            obtain ⟨hJ, hJc⟩ := hJ
            have ca := fun i => blk_cell (gst X hF) i
            have h2 := blk_put hJ 0 (.int .i64 ((i : Int) + 1))
            have cb := fun i => blk_cell hJ i
            have fb := fun i => blk_frozen hJ i
            have cc := fun i => blk_cell h2 i
            have f3 := Fr.set1 X nb 0 (.int .i64 ((i : Int) + 1))
            have cd := fun i => blk_cell (f3.heap (gst X hF) (by omega)) i
            have hJc3 : ∃ s r, (X.setCell ⟨nb, 0, none⟩ (.int .i64 ((i : Int) + 1))).heap[c]? = some (.chan cap (ints L).toArray false s r false) := by
              obtain ⟨s, r, hJc⟩ := hJc
              exact ⟨s, r, f3.heap hJc (by omega)⟩
            have HJ := Lib.hid hJc3
            clear hJc3 hJc
            cases hst : ((i : Int) + 1 == stop) with
            | true =>
              gi_wp2_with (rw [Oper.semAt_eq _ _ _ (fun c h => by cases h)]; go_simp; try go_bits)
              exact ⟨f3.mono (fun _ _ e => .inl e), rfl, HJ.out⟩
            | false =>
              gi_wp2_with (rw [Oper.semAt_eq _ _ _ (fun c h => by cases h)]; go_simp; try go_bits)
              exact ⟨f3.mono (fun _ _ e => .inl e), by simpa using h2, HJ.out⟩
          · rintro W hf ⟨hJ, hJc⟩ hm
            rw [hS4] at hm ⊢
            have hq6 : QAt 92 W (c + 1) c cap (ints L) := ⟨hf.heap h1.q.1 (by omega), hJc⟩
            have hr6 := (hrs.fr hf (fun k hk => by omega)).mono (D' := fun g => w0.heap.size ≤ g) (fun g hg => hg.1)
            have hM6 : Marks ((nb + 2) :: ds) W := (h1.m.fr hf (fun D hD => by have := hfl D hD; have := ne_obj (h1.m.2 D hD) h1.q.2.choose_spec.choose_spec (by intro e; cases e); omega)).cons hm (fun h => by have := hfl _ h; omega)
            have hb6 := h1.bl.trans (hf.below h1.bl.size (fun i hi e => by omega))
            have HQ := Lib.hid hJc
            clear hJc
            go_wp2_with fail
            refine (sameQ hq6 hr6 (by omega) h1.hcap).mono ?_
            rintro e W7 ⟨rfl, hq7, hf7⟩
            have hr7 := hr6.frc hq6 hf7
            have hM7 : Marks ((nb + 2) :: ds) W7 := hM6.fr hf7 (fun D hD => ne_obj (hM6.2 D hD) hq6.2.choose_spec.choose_spec (by intro e; cases e))
            have hb7 := hb6.trans (hf7.below hb6.size (fun i hi e => by have := h1.cge; omega))
            go_wp2_with fail
            refine ⟨rfl, (nb + 2) :: ds, rfl, ⟨k + 1, by omega, by show Value.int IntKind.i64 ((k : Int) + 1) = _; simp, L, hLk, hq7, hr7, hb7, h1.cge, h1.hcap, hM7, fun D hD => ?_⟩, ?_⟩
            · rcases List.mem_cons.1 hD with rfl | hD
              · omega
              · exact h1.mg D hD
            · show ops.length - (intOf (.int .i64 ((k : Int) + 1))).toNat < _
              simp only [intOf]
              omega
          · rintro cd W hf ⟨rfl, hJc⟩ hm
            rw [hS4] at hm ⊢
            have hq6 : QAt 92 W (c + 1) c cap (ints L) := ⟨hf.heap h1.q.1 (by omega), hJc⟩
            have hr6 := (hrs.fr hf (fun k hk => by omega)).mono (D' := fun g => w0.heap.size ≤ g) (fun g hg => hg.1)
            have hM6 : Marks ((nb + 2) :: ds) W := (h1.m.fr hf (fun D hD => by have := hfl D hD; have := ne_obj (h1.m.2 D hD) h1.q.2.choose_spec.choose_spec (by intro e; cases e); omega)).cons hm (fun h => by have := hfl _ h; omega)
            have hb6 := h1.bl.trans (hf.below h1.bl.size (fun i hi e => by omega))
            have HQ := Lib.hid hJc
            clear hJc
            go_wp2_with fail
            refine (sameQ hq6 hr6 (by omega) h1.hcap).mono ?_
            rintro e W7 ⟨rfl, hq7, hf7⟩
            have hr7 := hr6.frc hq6 hf7
            have hM7 : Marks ((nb + 2) :: ds) W7 := hM6.fr hf7 (fun D hD => ne_obj (hM6.2 D hD) hq6.2.choose_spec.choose_spec (by intro e; cases e))
            have hb7 := hb6.trans (hf7.below hb6.size (fun i hi e => by have := h1.cge; omega))
            go_wp2_with fail
            refine ⟨rfl, (nb + 2) :: ds, rfl, ⟨k + 1, by omega, by show Value.int IntKind.i64 ((k : Int) + 1) = _; simp, L, hLk, hq7, hr7, hb7, h1.cge, h1.hcap, hM7, fun D hD => ?_⟩, ?_⟩
            · rcases List.mem_cons.1 hD with rfl | hD
              · omega
              · exact h1.mg D hD
            · show ops.length - (intOf (.int .i64 ((k : Int) + 1))).toNat < _
              simp only [intOf]
              omega
      · have hb9 := b0.trans (hq.bl.mono (by omega))
        go_wp2_with fail
        refine marks_all ds _ hq.m ?_
        intro w9 hw9
        exact ⟨.bool true, resC9 rfl, rfl, hb9.trans (hw9.below hb9.size (fun i hi e => by have := hq.mg i e; omega))⟩
  · refine (newI_no _ (by omega) _).mono ?_
    rintro e w2 ⟨rfl, rfl⟩
    have hbb := b0.trans (hb.mono (by omega))
    rcases (show room < 1 ∨ 4096 < room by omega) with q | q
    · go_wp2_with fail
      refine marks_all [] _ (Marks.nil _) ?_
      intro w9 hw9
      exact ⟨.bool true, resC9 rfl, rfl, hbb.trans (hw9.below hbb.size (by simp))⟩
    · have q0 : 1 ≤ room := by omega
      go_wp2_with fail
      refine marks_all [] _ (Marks.nil _) ?_
      intro w9 hw9
      exact ⟨.bool true, resC9 rfl, rfl, hbb.trans (hw9.below hbb.size (by simp))⟩
end Go.Proofs.Ytcdblopnaimfoaa

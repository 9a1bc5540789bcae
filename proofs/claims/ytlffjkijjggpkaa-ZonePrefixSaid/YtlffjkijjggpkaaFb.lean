/- The walk of the law on a zone's beginnings. No condition. -/
import Derived.Test.YtlffjkijjggpkaaFb1
import Derived.Deep.CutBlock
namespace Go.Proofs.Ytlffjkijjggpkaa
open Go.RowKit Go.Conc

theorem marks_zone {w W W' : World} {b t : Nat} {size : Int} {v vw : Value} {L Lw : List Int} {safe st : Int} {fin : Bool} {ds : List Nat} (hM : Marks ds W) (h : Zq w W b t size v vw L Lw safe st fin) (hf : Fr (Zf b v) W W') : Marks ds W' :=
  hM.fr hf fun D hD hk => by
    rcases hk with e | e
    · exact ne_obj (hM.2 D hD) h.zn.z (by intro e; cases e) e
    · obtain ⟨cur, hc⟩ := row_obj h.zn.row e
      exact ne_obj (hM.2 D hD) hc (by intro e; cases e) rfl
/-- On the way through 'was = was[:z.Len()]'. -/
structure S27 (W1 : World) (t b : Nat) (aw : Option Addr) (n m cw : Nat) (d : Nat → Bool) (vals : Nat → Value) (W : World) : Prop where
  fr : Fr (fun k => d 4 = true ∧ k = t) W1 W
  v0 : d 0 = true → vals 0 = .slice aw n cw
  v1 : d 1 = true → vals 1 = .pointer (some ⟨b, 0, none⟩)
  v2 : d 2 = true → vals 2 = .int .i64 (m : Int)
  v3 : d 3 = true → vals 3 = .slice aw m cw
  v4 : d 4 = true → W.heap[t]? = some (.cells #[.slice aw m cw] 39 (0, 0))
theorem row_take {W : World} {base : Nat} {a : Option Addr} {n m cap : Nat} {L : List Int} (h : W.ownsRow base 3 1 (.slice a n cap) n (ints L)) (hm : m ≤ n) : W.ownsRow base 3 1 (.slice a m cap) m (ints (L.take m)) := by
  have hl := row_len h
  rw [ints_length] at hl
  refine ⟨by rw [ints_length, List.length_take]; omega, ?_⟩
  rcases h.2 with ⟨he, h0⟩ | ⟨g, cap', cur, he, hb, hg, h1, h2, h3, h4⟩
  · cases he
    exact .inl ⟨by rw [show m = 0 by omega], by omega⟩
  · cases he
    refine .inr ⟨g, cap, cur, rfl, hb, hg, by omega, h2, h3, ?_⟩
    rw [Nat.mul_one] at h4 ⊢
    rw [ints, List.map_take, ← ints, ← h4, List.take_take, Nat.min_eq_left hm]
theorem resC4 {tmps : Array Value} {w : World} {b : Nat} {v : Bool} (h1 : tmps.getD 4 undef = .pointer (some ⟨b, 0, none⟩)) (h2 : w.cell? ⟨b, 0, none⟩ = some (.bool v)) : (results Try.f4 tmps).run Try.prog w = .ok (.bool v) w := by
  rw [Array.getD_eq_getD_getElem?] at h1
  simp [results, Try.f4, go_sem, h1, h2]

set_option linter.unusedSimpArgs false in
set_option maxRecDepth 100000 in
set_option maxHeartbeats 8000000 in
theorem zonePrefix_walk (w : World) (size : Int) (v : Value) (ops : List (Int × Int × Int)) (_ : ops.length ≤ maxLen) (_ : ∀ z ∈ ops, Fits z.1 ∧ Fits z.2.1 ∧ Fits z.2.2) (hs : Sl3 w w.heap.size v ops) :
    Calls Try.prog 4 #[.int .i64 size, v] w fun e w' => e = .returned (.bool true) ∧ Below w.heap.size w w' := by
  obtain ⟨a, cap, rfl, hc⟩ := hs
  refine calls_of_marks Try.func4 rfl ?_
  simp only [Try.ntmps4, List.size_toArray, List.length_cons, List.length_nil, Nat.reduceAdd, Nat.reduceSub, Array.replicate_succ, Array.replicate_zero, List.push_toArray, List.append_toArray, List.nil_append, List.cons_append]
  go_wp2_with fail
  refine (anchor6 _).mono ?_
  rintro e w1 ⟨rfl, hb⟩
  have g1 := (Fr.of_below (S := fun _ => False) hb).heap (blk_new w (.cells #[.bool false] 4)) id
  have b1 : Below w.heap.size w w1 := ((Below.refl _ w).alloc (Nat.le_refl _) _).trans (hb.mono (by simp))
  clear hb
  go_wp2_with fail
  by_cases hsz : 1 ≤ size ∧ size ≤ 64
  · obtain ⟨s1, s2⟩ := hsz
    refine (newI_ok s1 s2 _).mono ?_
    rintro e w2 ⟨rfl, rfl⟩
    have hz := newI_at (base := w.heap.size) w1 size b1.size
    have g2 := blk_alloc g1 (.cells #[.slice none 0 0, .int .i64 size, .int .i64 0, .int .i64 0, .bool false] 58)
    have b2 : Below w.heap.size w (w1.alloc (.cells #[.slice none 0 0, .int .i64 size, .int .i64 0, .int .i64 0, .bool false] 58)) := b1.alloc b1.size _
    obtain ⟨b, hbb⟩ : ∃ b, w1.heap.size = b := ⟨_, rfl⟩
    rw [hbb] at hz ⊢
    clear hbb
    generalize w1.alloc (.cells #[.slice none 0 0, .int .i64 size, .int .i64 0, .int .i64 0, .bool false] 58) = w2 at hz g2 b2 ⊢
    clear b1 g1 w1
    have cr := fun i => blk_cell g2 i
    have fr := fun i => blk_frozen g2 i
    by_cases hl : 80 < ops.length
    · go_wp2_with fail
      refine marks_all [] _ (Marks.nil _) ?_
      intro w9 hw9
      have hf9 := Fr.set1 w2 w.heap.size 0 (.bool true)
      exact ⟨.bool true, resC4 rfl (blk_cell (hw9.heap (blk_put g2 0 (.bool true)) (by simp)) 0), rfl, (b2.trans (hf9.below b2.size (fun i hi => by omega))).trans (hw9.below (Nat.le_trans b2.size hf9.size) (by simp))⟩
    · go_wp2_with fail
      have hq : Zq w (w2.alloc (.cells #[.slice none 0 0] 39)) b w2.heap.size size (.slice none 0 0) (.slice none 0 0) [] [] 0 0 false :=
        ⟨blk_alloc g2 _, hz.fr ((Fr.refl (fun _ => False) w2).alloc _) id (fun _ _ => id), blk_new _ _, World.ownsRow_nil _ _ _ _, by simp [Value.ownBlock], b2.alloc b2.size _, b2.size⟩
      obtain ⟨t, ht⟩ : ∃ t, w2.heap.size = t := ⟨_, rfl⟩
      rw [ht] at hq ⊢
      clear ht cr fr g2 b2 hz
      generalize w2.alloc (.cells #[.slice none 0 0] 39) = w3 at hq ⊢
      clear w2
      refine wp_loop_P (ds0 := []) (fun t => (decide (9 ≤ t) && decide (t ≤ 15)) || decide (36 ≤ t))
        (fun u ds W => ∃ k : Nat, k ≤ ops.length ∧ u 36 = .int .i64 k ∧ Marks ds W ∧ (∀ D ∈ ds, w.heap.size ≤ D) ∧ ∃ v vw L safe st fin, Zq w W b t size v vw L L safe st fin ∧ Good L.length size safe st) (fun u _ => ops.length - (intOf (u 36)).toNat)
        ⟨0, by omega, rfl, Marks.nil _, by simp, _, _, [], 0, 0, false, hq, ⟨by omega, by simp, by simp; omega, by omega, by omega, by simp; omega⟩⟩ ?_
      intro u ds W hrel
      obtain ⟨k, hk, h36, hM, hge, v, vw, L, safe, st, fin, hq, hg⟩ := hrel
      simp only [mixP, List.mapIdx_cons, List.mapIdx_nil, Nat.reduceLeDiff, decide_true, decide_false, Nat.reduceAdd, Nat.zero_add, Bool.and_true, Bool.and_false, Bool.or_false, Bool.or_true, if_true, if_false, Bool.false_eq_true, h36]
      by_cases hlt : k < ops.length
      · obtain ⟨bb, o, rfl, hbl, hcell⟩ := hc (List.ne_nil_of_length_pos (by omega))
        have hcc := hcell k hlt
        generalize ops[k] = kxy at hcc
        obtain ⟨K, X, Y⟩ := kxy
        obtain ⟨c1, c2, c3⟩ := hcc
        have hB := fun (j : Nat) (u : Value) (h : w.cell? ⟨bb, j, none⟩ = some u) => (World.cell?_of_block (a := ⟨bb, j, none⟩) (hq.bl.block bb hbl)).trans h
        replace c1 := hB _ _ c1
        replace c2 := hB _ _ c2
        replace c3 := hB _ _ c3
        clear hB hcell hc
        rw [← Nat.add_assoc] at c2 c3
        go_wp2_with fail
        have hq1 := hq.fr ((Fr.refl (fun _ => False) W).alloc (.cells #[.int .i64 K, .int .i64 X, .int .i64 Y] 41)) (fun _ _ => id) (fun _ h => h.elim)
        have hM1 := hM.fr ((Fr.refl (fun _ => False) W).alloc (.cells #[.int .i64 K, .int .i64 X, .int .i64 Y] 41)) (fun _ _ h => h)
        have ho := blk_new W (.cells #[.int .i64 K, .int .i64 X, .int .i64 Y] 41)
        have hob : ∀ j, Zfoot w b t v vw j → j < W.heap.size := fun j hj => (hq.lt hj).2
        obtain ⟨ob, hob0⟩ : ∃ ob, W.heap.size = ob := ⟨_, rfl⟩
        rw [hob0] at ho hob ⊢
        clear hob0 c1 c2 c3 hq hM
        generalize W.alloc (.cells #[.int .i64 K, .int .i64 X, .int .i64 Y] 41) = W1 at hq1 hM1 ho ⊢
        clear W
        refine (safeI hq1.zn).mono ?_
        rintro e W' ⟨rfl, rfl⟩
        have co := fun i => blk_cell ho i
        go_upto_block 2 with fail
        refine wp_cut (ds := ds) (fun t => (decide (10 ≤ t) && decide (t ≤ 12)) || (decide (44 ≤ t) && decide (t ≤ 118)))
          (fun u W' => ∃ v vw L safe st fin, Zq w W' b t size v vw L L safe st fin ∧ Good L.length size safe st ∧ Marks ds W') ?_ ?_
        · simp only [mixP, List.mapIdx_cons, List.mapIdx_nil, Nat.reduceLeDiff, decide_true, decide_false, Nat.reduceAdd, Nat.zero_add, Bool.and_true, Bool.and_false, Bool.or_false, Bool.or_true, Bool.false_or, if_true, if_false, Bool.false_eq_true]
          by_cases k1 : K = 1
          · subst k1
            go_wp2_with fail
            by_cases hfl : failedOf st = 0
            · by_cases h2 : st = 2
              · subst h2
                refine (appendI_full hq1.zn _).mono ?_
                rintro e W2 ⟨rfl, rfl⟩
                go_wp2_with fail
                exact ⟨rfl, trivial, _, _, _, _, _, _, hq1, hg, hM1⟩
              · have hlt2 : L.length < size := hg.op (by have := hg.t0; have := hg.t1; unfold failedOf at hfl; split at hfl; omega; split at hfl <;> omega)
                refine (appendI_room hq1.zn hfl h2 (by rw [ints_length]; omega) X).mono ?_
                rintro e W2 ⟨rfl, v2, hz2, hf2, ho2⟩
                rw [ints_length] at hz2 ⊢
                have hi2 : ints L ++ [.int .i64 X] = ints (L ++ [X]) := by simp [ints]
                rw [hi2] at hz2
                have hq2 := hq1.zone hz2 hf2 ho2
                have hM2 := marks_zone hM1 hq1 hf2
                have hoc := hf2.heap ho (fun h => by have := hob ob (by rcases h with e | e; exact .inr (.inl e); exact .inr (.inr (.inr (.inl e)))); omega)
                have htc := hq2.tc
                have hrow := hq2.row
                have hbW : w.heap.size ≤ W2.heap.size := hq2.bl.size
                have hL : L.length < 100 := by omega
                go_wp2_with fail
                refine (wpIn_wide (n := 0)).1 ?_
                refine regionIn_stated (P := Try.prog) (fun l vals W => S15 W2 w.heap.size t ob vw L X (fun j => l.getD j false) vals W) (fun _ => undef) rfl (by kernel_rfl) (by kernel_rfl) (by have := (S15.start (vals := fun _ => undef) (base := w.heap.size) (t := t) (ob := ob) (vw := vw) (Lw := L) (X := X) W2).more ((Fr.refl (fun _ => False) W2).drew); have e : ∀ n, (fun j => (Array.replicate n false).getD j false) = fun _ => false := fun n => funext fun j => rep_false n j; rw [e]; exact this) ?_ ?_
                · intro j o ho dd vals A Wx hsz hS hj hcl hdep hA hdf
                  have hsz2 : dd.size = 8 := hsz
                  rcases j with _ | _ | _ | _ | _ | _ | _ | _ | j
                  · cases ho
                    rw [if_pos (by kernel_rfl)]
                    refine ⟨fun f _ => trivial, ?_⟩
                    rw [Oper.semAt_eq _ _ _ (fun c h => by cases h)]
                    rw [show (execOp A.eval _).run Try.prog Wx = .ok (.value (.slice (some ⟨Wx.heap.size, 0, none⟩) 0 0)) (Wx.alloc (.cells #[] 3)) by simp [execOp, Act.eval, go_sem]]
                    refine ⟨.slice (some ⟨Wx.heap.size, 0, none⟩) 0 0, rfl, ?_⟩
                    rw [dset (by omega)]
                    exact hS.op0 (by have := hS.fr.size; have := hbW; omega)
                  · cases ho
                    rw [if_pos (by kernel_rfl)]
                    have r1 : A.tmps.getD 7 undef = .pointer (some ⟨t, 0, none⟩) := (hA 7 (by decide)).trans (by kernel_rfl)
                    have n7 : dd.getD 7 false = false := not_later hcl (j := 7) rfl (by kernel_rfl) hj
                    have ca := fun i => blk_cell (hS.fr.heap htc (fun ⟨e, _⟩ => by rw [n7] at e; cases e)) i
                    refine ⟨fun f _ => trivial, ?_⟩
                    rw [Oper.semAt_eq _ _ _ (fun c h => by cases h)]
                    rw [show (execOp A.eval _).run Try.prog Wx = .ok (.value (vw)) (Wx) by simp [execOp, Act.eval, go_sem, r1, ca]]
                    refine ⟨vw, rfl, ?_⟩
                    rw [dset (by omega)]
                    exact ⟨by simpa using hS.fr, by simpa [updV] using hS.v0, by simp [updV], by simpa [updV] using hS.v2, by simpa [updV] using hS.v3, by simpa [updV] using hS.v4, by simpa [updV] using hS.v5, by simpa [updV] using hS.v6, by simpa [updV] using hS.v7⟩
                  · cases ho
                    rw [if_pos (by kernel_rfl)]
                    have r1 : A.tmps.getD 55 undef = vals 0 := (hA 55 (by decide)).trans (by kernel_rfl)
                    have r2 : A.tmps.getD 56 undef = vals 1 := (hA 56 (by decide)).trans (by kernel_rfl)
                    have d0 : dd.getD 0 false = true := hdep 0 (by kernel_rfl)
                    have d1 : dd.getD 1 false = true := hdep 1 (by kernel_rfl)
                    have n6 : dd.getD 6 false = false := not_later hcl (j := 6) rfl (by kernel_rfl) hj
                    have n7 : dd.getD 7 false = false := not_later hcl (j := 7) rfl (by kernel_rfl) hj
                    obtain ⟨v1, w1, hrun, hS1⟩ := hS.op2 d0 d1 hj n6 n7 hrow hL hbW
                    refine ⟨fun f _ => trivial, ?_⟩
                    rw [Oper.semAt_eq _ _ _ (fun c h => by cases h)]
                    rw [show (execOp A.eval _).run Try.prog Wx = .ok (.value v1) w1 by simp [execOp, Act.eval, resolve, invoke, builtin, r1, r2, hrun, Result.andThen, Sem.run_bind]]
                    refine ⟨v1, rfl, ?_⟩
                    rw [dset (by omega)]
                    exact hS1
                  · cases ho
                    rw [if_pos (by kernel_rfl)]
                    have r1 : A.tmps.getD 9 undef = .pointer (some ⟨ob, 0, none⟩) := (hA 9 (by decide)).trans (by kernel_rfl)
                    refine ⟨fun f _ => trivial, ?_⟩
                    rw [Oper.semAt_eq _ _ _ (fun c h => by cases h)]
                    rw [show (execOp A.eval _).run Try.prog Wx = .ok (.value (.pointer (some ⟨ob, 1, none⟩))) (Wx) by simp [execOp, Act.eval, go_sem, r1]]
                    refine ⟨.pointer (some ⟨ob, 1, none⟩), rfl, ?_⟩
                    rw [dset (by omega)]
                    exact ⟨by simpa using hS.fr, by simpa [updV] using hS.v0, by simpa [updV] using hS.v1, by simpa [updV] using hS.v2, by simp [updV], by simpa [updV] using hS.v4, by simpa [updV] using hS.v5, by simpa [updV] using hS.v6, by simpa [updV] using hS.v7⟩
                  · cases ho
                    rw [if_pos (by kernel_rfl)]
                    have r1 : A.tmps.getD 58 undef = vals 3 := (hA 58 (by decide)).trans (by kernel_rfl)
                    have d3 : dd.getD 3 false = true := hdep 3 (by kernel_rfl)
                    have n7 : dd.getD 7 false = false := not_later hcl (j := 7) rfl (by kernel_rfl) hj
                    have e3 := hS.v3 d3
                    have ca := fun i => blk_cell (hS.fr.heap hoc (fun ⟨e, _⟩ => by rw [n7] at e; cases e)) i
                    refine ⟨fun f _ => trivial, ?_⟩
                    rw [Oper.semAt_eq _ _ _ (fun c h => by cases h)]
                    rw [show (execOp A.eval _).run Try.prog Wx = .ok (.value (.int .i64 X)) (Wx) by simp [execOp, Act.eval, go_sem, r1, ca, e3]]
                    refine ⟨.int .i64 X, rfl, ?_⟩
                    rw [dset (by omega)]
                    exact ⟨by simpa using hS.fr, by simpa [updV] using hS.v0, by simpa [updV] using hS.v1, by simpa [updV] using hS.v2, by simpa [updV] using hS.v3, by simp [updV], by simpa [updV] using hS.v5, by simpa [updV] using hS.v6, by simpa [updV] using hS.v7⟩
                  · cases ho
                    rw [if_pos (by kernel_rfl)]
                    have r1 : A.tmps.getD 59 undef = vals 4 := (hA 59 (by decide)).trans (by kernel_rfl)
                    have d4 : dd.getD 4 false = true := hdep 4 (by kernel_rfl)
                    have e4 := hS.v4 d4
                    have q1 : A.tmps[59]?.getD undef = vals 4 := by rw [← Array.getD_eq_getD_getElem?]; exact r1
                    refine ⟨fun f _ => trivial, ?_⟩
                    rw [Oper.semAt_eq _ _ _ (fun c h => by cases h)]
                    rw [show (execOp A.eval _).run Try.prog Wx = .ok (.value (.slice (some ⟨Wx.heap.size, 0, none⟩) 1 1)) (Wx.alloc (.cells #[.int .i64 X] 3)) by simp [execOp, Act.eval, go_sem, r1, e4, q1]]
                    refine ⟨.slice (some ⟨Wx.heap.size, 0, none⟩) 1 1, rfl, ?_⟩
                    rw [dset (by omega)]
                    exact hS.op5 (by have := hS.fr.size; have := hbW; omega)
                  · cases ho
                    rw [if_pos (by kernel_rfl)]
                    have r1 : A.tmps.getD 57 undef = vals 2 := (hA 57 (by decide)).trans (by kernel_rfl)
                    have r2 : A.tmps.getD 60 undef = vals 5 := (hA 60 (by decide)).trans (by kernel_rfl)
                    have d2 : dd.getD 2 false = true := hdep 2 (by kernel_rfl)
                    have d5 : dd.getD 5 false = true := hdep 5 (by kernel_rfl)
                    have n7 : dd.getD 7 false = false := not_later hcl (j := 7) rfl (by kernel_rfl) hj
                    obtain ⟨v1, w1, hrun, hS1⟩ := hS.op6 d2 d5 hj n7 hL hbW
                    refine ⟨fun f _ => trivial, ?_⟩
                    rw [Oper.semAt_eq _ _ _ (fun c h => by cases h)]
                    rw [show (execOp A.eval _).run Try.prog Wx = .ok (.value v1) w1 by simp [execOp, Act.eval, resolve, invoke, builtin, r1, r2, hrun, Result.andThen, Sem.run_bind]]
                    refine ⟨v1, rfl, ?_⟩
                    rw [dset (by omega)]
                    exact hS1
                  · cases ho
                    rw [if_pos (by kernel_rfl)]
                    have r1 : A.tmps.getD 7 undef = .pointer (some ⟨t, 0, none⟩) := (hA 7 (by decide)).trans (by kernel_rfl)
                    have r2 : A.tmps.getD 61 undef = vals 6 := (hA 61 (by decide)).trans (by kernel_rfl)
                    have d0 : dd.getD 0 false = true := hdep 0 (by kernel_rfl)
                    have d1 : dd.getD 1 false = true := hdep 1 (by kernel_rfl)
                    have d2 : dd.getD 2 false = true := hdep 2 (by kernel_rfl)
                    have d3 : dd.getD 3 false = true := hdep 3 (by kernel_rfl)
                    have d4 : dd.getD 4 false = true := hdep 4 (by kernel_rfl)
                    have d5 : dd.getD 5 false = true := hdep 5 (by kernel_rfl)
                    have d6 : dd.getD 6 false = true := hdep 6 (by kernel_rfl)
                    have hall : ∀ j, j < 7 → dd.getD j false = true := fun j hj7 => hdep j (by rcases j with _ | _ | _ | _ | _ | _ | _ | j <;> first | (exfalso; omega) | kernel_rfl)
                    have htt := hS.fr.heap htc (fun ⟨e, _⟩ => by rw [hj] at e; cases e)
                    have fa := fun i => blk_frozen htt i
                    have ca := fun i => blk_cell htt i
                    obtain ⟨aa, cc, hv6⟩ := row_val (hS.v6 d6 hj).1
                    rw [hv6] at r2
                    refine ⟨fun f _ => trivial, ?_⟩
                    rw [Oper.semAt_eq _ _ _ (fun c h => by cases h)]
                    rw [show (execOp A.eval _).run Try.prog Wx = .ok .skip (Wx.setCell ⟨t, 0, none⟩ (vals 6)) by simp [execOp, Act.eval, go_sem, r1, r2, fa, ca, hv6]]
                    refine ⟨undef, rfl, ?_⟩
                    rw [dset (by omega)]
                    exact hS.op7 d6 hj hall htc
                  · cases ho
                · intro vals1 W3 hS
                  have hS8 := hS.v7 (by simp)
                  obtain ⟨vw3, hr3, ho3, ht3⟩ := hS8
                  simp only [goV, Act.put, List.setIfInBounds_toArray, List.set_cons_succ, List.set_cons_zero]
                  go_wp2_with fail
                  have hf3 : Fr (fun k => k = t) W2 W3 := hS.fr.mono (fun i _ hi => hi.2)
                  have hq3 := hq2.was (Lw' := L ++ [X]) hf3 ht3 (by simpa using hr3) (fun k hk e => by have := ho3 k hk; have := (hq2.zn.rlt e).2; omega)
                  have hM3 := hM2.fr hf3 (fun D hD e => ne_obj (hM2.2 D hD) htc (by intro e; cases e) e)
                  refine ⟨rfl, trivial, _, _, _, _, _, _, hq3, ?_, hM3⟩
                  have hs0 := hg.s0
                  have hs1 := hg.s1
                  rw [List.length_append, List.length_singleton]
                  by_cases hful : (L.length : Int) + 1 = size
                  · rw [if_pos hful]; exact ⟨hs0, by push_cast; omega, by push_cast; omega, by omega, by omega, by omega⟩
                  · rw [if_neg hful]; exact ⟨hs0, by push_cast; omega, by push_cast; omega, by omega, by omega, by push_cast; omega⟩
            · have hfb : (failedOf st == 0) = false := by simpa using hfl
              refine (appendI_no hq1.zn hfl _).mono ?_
              rintro e W2 ⟨rfl, rfl⟩
              go_wp2_with fail
              exact ⟨rfl, trivial, _, _, _, _, _, _, hq1, hg, hM1⟩
          by_cases k3 : K = 3
          · subst k3
            go_wp2_with fail
            by_cases hfl : failedOf st = 0
            · refine (resetI_ok hq1.zn hfl).mono ?_
              rintro e W2 ⟨rfl, hz2, hf2⟩
              have hq2 := hq1.zone (L' := []) hz2 hf2 (by intro k hk; cases hk)
              have hM2 := marks_zone hM1 hq1 hf2
              have ct := fun i => blk_cell hq2.tc i
              have ft := fun i => blk_frozen hq2.tc i
              go_wp2_with fail
              have hf3 := Fr.set1 W2 t 0 (.slice none 0 0)
              have hq3 := hq2.was (Lw' := []) (vw' := .slice none 0 0) hf3 (by simpa using blk_put hq2.tc 0 (.slice none 0 0)) (World.ownsRow_nil _ _ _ _) (by intro k hk; cases hk)
              exact ⟨rfl, trivial, _, _, _, _, _, _, hq3, ⟨by omega, by simp, by simp; omega, by omega, by omega, by simp; omega⟩, hM2.fr hf3 (fun D hD e => ne_obj (hM2.2 D hD) hq2.tc (by intro e; cases e) e)⟩
            · have hfb : (failedOf st == 0) = false := by simpa using hfl
              refine (resetI_no hq1.zn hfl).mono ?_
              rintro e W2 ⟨rfl, rfl⟩
              go_wp2_with fail
              exact ⟨rfl, trivial, _, _, _, _, _, _, hq1, hg, hM1⟩
          by_cases k4 : K = 4
          · subst k4
            go_wp2_with fail
            by_cases hfl : failedOf st = 0
            · refine (finishI_ok hq1.zn hfl).mono ?_
              rintro e W2 ⟨rfl, hz2, hf2⟩
              go_wp2_with fail
              exact ⟨rfl, trivial, _, _, _, _, _, _, hq1.zone hz2 hf2 (fun k hk => .inl hk), ⟨hg.s0, hg.s1, hg.n1, by omega, by omega, by omega⟩, marks_zone hM1 hq1 hf2⟩
            · refine (finishI_no hq1.zn hfl).mono ?_
              rintro e W2 ⟨rfl, rfl⟩
              go_wp2_with fail
              exact ⟨rfl, trivial, _, _, _, _, _, _, hq1, hg, hM1⟩
          by_cases k5 : K = 5
          · subst k5
            go_wp2_with fail
            refine (flushI hq1.zn).mono ?_
            rintro e W2 ⟨⟨u9, rfl⟩, hz2, hf2⟩
            rw [ints_length] at hz2
            go_wp2_with fail
            exact ⟨rfl, trivial, _, _, _, _, _, _, hq1.zone hz2 hf2 (fun k hk => .inl hk), ⟨by omega, by omega, hg.n1, hg.t0, hg.t1, hg.op⟩, marks_zone hM1 hq1 hf2⟩
          by_cases k6 : K = 6
          · subst k6
            go_wp2_with fail
            obtain ⟨m, hm⟩ : ∃ m : Nat, (m : Int) = crashN safe L.length X := ⟨(crashN safe L.length X).toNat, by have := hg.s0; have := hg.s1; unfold crashN; split <;> (try split) <;> omega⟩
            refine (crashI hq1.zn hg.s0 (by rw [ints_length]; exact hg.s1) (by rw [ints_length]; have := hg.n1; omega) (ints_one L) X m (by rw [ints_length]; exact hm)).mono ?_
            rintro e W2 ⟨⟨u9, rfl⟩, v2, hz2, hf2, ho2⟩
            have htk : (ints L).take m = ints (L.take m) := by simp [ints, List.map_take]
            rw [htk] at hz2
            have hml : m ≤ L.length := by have := hg.s0; have := hg.s1; unfold crashN at hm; split at hm <;> (try split at hm) <;> omega
            have hsm : safe ≤ m := by have := hg.s0; have := hg.s1; unfold crashN at hm; split at hm <;> (try split at hm) <;> omega
            have hlm : (L.take m).length = m := by rw [List.length_take]; omega
            have hq2 := hq1.zone hz2 hf2 ho2
            have hM2 := marks_zone hM1 hq1 hf2
            have hoc := hf2.heap ho (fun h => by have := hob ob (by rcases h with e | e; exact .inr (.inl e); exact .inr (.inr (.inr (.inl e)))); omega)
            have hg2 : Good (L.take m).length size m (crashSt st m size fin) := by
              have h0 := hg.t0
              have h1 := hg.t1
              have h2 := hg.op
              have h3 := hg.n1
              rw [hlm]
              unfold crashSt
              split
              · exact ⟨by omega, by omega, by omega, by omega, by omega, by omega⟩
              · split
                · exact ⟨by omega, by omega, by omega, by omega, by omega, by omega⟩
                · rename_i hn
                  have : (m : Int) ≠ size := fun e => hn (.inr e)
                  split <;> exact ⟨by omega, by omega, by omega, by omega, by omega, by omega⟩
            obtain ⟨aw, cw, rfl⟩ := row_val hq2.row
            have g1 : decide ((m : Int) < safe) = false := decide_eq_false (by omega)
            have g2 : decide (L.length < m) = false := decide_eq_false (by omega)
            go_wp2_with fail
            by_cases hc3 : m < L.length
            · have g3 : decide (m < L.length) = true := decide_eq_true (by omega)
              obtain ⟨mx, hmx⟩ : ∃ mx : Int, (if X < 0 then 0 else X) = mx := ⟨_, rfl⟩
              have g4 := hmx
              have hsx : (m : Int) = safe + mx := by rw [hm, ← hmx]; unfold crashN at hm ⊢; split at hm <;> split <;> (try split at hm) <;> (try split) <;> omega
              have hn1 := hg.n1
              have g5 : IntKind.i64.wrap (safe + mx) = safe + mx := IntWalk.i64_in _ (by omega)
              have g6 : decide (safe + mx < (m : Int)) = false := decide_eq_false (by omega)
              refine (wpIn_wide (n := 0)).1 ?_
              refine regionIn_valued (P := Try.prog) (fun q => ([.pointer (some ⟨b, 0, none⟩), .int .i64 (m : Int), .int .i64 safe, .bool false, .bool false, .pointer (some ⟨b, 0, none⟩), .int .i64 (m : Int), .slice aw L.length cw, .int .i64 (L.length : Int), .bool false, .bool false, .bool false, .pointer (some ⟨b, 0, none⟩), .int .i64 (m : Int), .slice aw L.length cw, .int .i64 (L.length : Int), .bool true, .bool true, .pointer (some ⟨b, 0, none⟩), .int .i64 (m : Int), .int .i64 safe, .pointer (some ⟨ob, 1, none⟩), .int .i64 X, .int .i64 mx, .int .i64 (safe + mx), .bool false, .bool false, .bool false] : List Value).getD q undef) (Fr (fun _ => False) W2) rfl (by kernel_rfl) (by kernel_rfl) ((Fr.refl _ W2).drew) ?_ ?_
              · intro j o ho A Wx hW hA hdf
                rcases j with _ | _ | _ | _ | _ | _ | _ | _ | _ | _ | _ | _ | _ | _ | _ | _ | _ | _ | _ | _ | _ | _ | _ | _ | _ | _ | _ | _ | j
                · cases ho
                  rw [if_pos (by kernel_rfl)]
                  have r1 : A.tmps.getD 5 undef = .pointer (some ⟨b, 0, none⟩) := (hA 5 (by decide)).trans (by kernel_rfl)
                  refine ⟨fun f _ => trivial, ?_⟩
                  rw [Oper.semAt_eq _ _ _ (fun c h => by cases h)]
                  simp [execOp, Act.eval, go_sem, r1]
                  exact hW
                · cases ho
                  rw [if_pos (by kernel_rfl)]
                  have r1 : A.tmps.getD 81 undef = .pointer (some ⟨b, 0, none⟩) := (hA 81 (by decide)).trans (by kernel_rfl)
                  refine ⟨fun f _ => trivial, ?_⟩
                  rw [Oper.semAt_eq _ _ _ (fun c h => by cases h)]
                  simp [execOp, Act.eval, go_sem, r1]
                  exact ⟨rfl, callsIn_wide.2 ((lenI (hq2.zn.fr hW id (fun _ _ => id))).mono (by rintro e W9 ⟨rfl, rfl⟩; exact ⟨by rw [ints_length, hlm], hW⟩))⟩
                · cases ho
                  rw [if_pos (by kernel_rfl)]
                  have r1 : A.tmps.getD 10 undef = .int .i64 safe := (hA 10 (by decide)).trans (by kernel_rfl)
                  refine ⟨fun f _ => trivial, ?_⟩
                  rw [Oper.semAt_eq _ _ _ (fun c h => by cases h)]
                  simp [execOp, Act.eval, go_sem, r1]
                  exact hW
                · cases ho
                  rw [if_pos (by kernel_rfl)]
                  have r1 : A.tmps.getD 82 undef = .int .i64 (m : Int) := (hA 82 (by decide)).trans (by kernel_rfl)
                  have r2 : A.tmps.getD 83 undef = .int .i64 safe := (hA 83 (by decide)).trans (by kernel_rfl)
                  refine ⟨fun f _ => trivial, ?_⟩
                  rw [Oper.semAt_eq _ _ _ (fun c h => by cases h)]
                  simp [execOp, Act.eval, go_sem, r1, r2, g1]
                  exact hW
                · cases ho
                  rw [if_pos (by kernel_rfl)]
                  have r1 : A.tmps.getD 84 undef = .bool false := (hA 84 (by decide)).trans (by kernel_rfl)
                  refine ⟨fun f _ => trivial, ?_⟩
                  rw [Oper.semAt_eq _ _ _ (fun c h => by cases h)]
                  simp [execOp, Act.eval, go_sem, r1]
                  exact hW
                · cases ho
                  rw [if_pos (by kernel_rfl)]
                  have r1 : A.tmps.getD 5 undef = .pointer (some ⟨b, 0, none⟩) := (hA 5 (by decide)).trans (by kernel_rfl)
                  refine ⟨fun f _ => trivial, ?_⟩
                  rw [Oper.semAt_eq _ _ _ (fun c h => by cases h)]
                  simp [execOp, Act.eval, go_sem, r1]
                  exact hW
                · cases ho
                  rw [if_pos (by kernel_rfl)]
                  have r1 : A.tmps.getD 86 undef = .pointer (some ⟨b, 0, none⟩) := (hA 86 (by decide)).trans (by kernel_rfl)
                  refine ⟨fun f _ => trivial, ?_⟩
                  rw [Oper.semAt_eq _ _ _ (fun c h => by cases h)]
                  simp [execOp, Act.eval, go_sem, r1]
                  exact ⟨rfl, callsIn_wide.2 ((lenI (hq2.zn.fr hW id (fun _ _ => id))).mono (by rintro e W9 ⟨rfl, rfl⟩; exact ⟨by rw [ints_length, hlm], hW⟩))⟩
                · cases ho
                  rw [if_pos (by kernel_rfl)]
                  have r1 : A.tmps.getD 7 undef = .pointer (some ⟨t, 0, none⟩) := (hA 7 (by decide)).trans (by kernel_rfl)
                  have ca := fun i => blk_cell (hW.heap hq2.tc id) i
                  refine ⟨fun f _ => trivial, ?_⟩
                  rw [Oper.semAt_eq _ _ _ (fun c h => by cases h)]
                  simp [execOp, Act.eval, go_sem, r1, ca]
                  exact hW
                · cases ho
                  rw [if_pos (by kernel_rfl)]
                  have r1 : A.tmps.getD 88 undef = .slice aw L.length cw := (hA 88 (by decide)).trans (by kernel_rfl)
                  refine ⟨fun f _ => trivial, ?_⟩
                  rw [Oper.semAt_eq _ _ _ (fun c h => by cases h)]
                  simp [execOp, Act.eval, go_sem, r1]
                  exact hW
                · cases ho
                  rw [if_pos (by kernel_rfl)]
                  have r1 : A.tmps.getD 87 undef = .int .i64 (m : Int) := (hA 87 (by decide)).trans (by kernel_rfl)
                  have r2 : A.tmps.getD 89 undef = .int .i64 (L.length : Int) := (hA 89 (by decide)).trans (by kernel_rfl)
                  refine ⟨fun f _ => trivial, ?_⟩
                  rw [Oper.semAt_eq _ _ _ (fun c h => by cases h)]
                  simp [execOp, Act.eval, go_sem, r1, r2, g2]
                  exact hW
                · cases ho
                  rw [if_pos (by kernel_rfl)]
                  have r1 : A.tmps.getD 85 undef = .bool false := (hA 85 (by decide)).trans (by kernel_rfl)
                  have r2 : A.tmps.getD 90 undef = .bool false := (hA 90 (by decide)).trans (by kernel_rfl)
                  refine ⟨fun f _ => trivial, ?_⟩
                  rw [Oper.semAt_eq _ _ _ (fun c h => by cases h)]
                  simp [execOp, Act.eval, go_sem, r1, r2]
                  exact hW
                · cases ho
                  rw [if_pos (by kernel_rfl)]
                  have r1 : A.tmps.getD 91 undef = .bool false := (hA 91 (by decide)).trans (by kernel_rfl)
                  refine ⟨fun f _ => trivial, ?_⟩
                  rw [Oper.semAt_eq _ _ _ (fun c h => by cases h)]
                  simp [execOp, Act.eval, go_sem, r1]
                  exact hW
                · cases ho
                  rw [if_pos (by kernel_rfl)]
                  have r1 : A.tmps.getD 5 undef = .pointer (some ⟨b, 0, none⟩) := (hA 5 (by decide)).trans (by kernel_rfl)
                  refine ⟨fun f _ => trivial, ?_⟩
                  rw [Oper.semAt_eq _ _ _ (fun c h => by cases h)]
                  simp [execOp, Act.eval, go_sem, r1]
                  exact hW
                · cases ho
                  rw [if_pos (by kernel_rfl)]
                  have r1 : A.tmps.getD 93 undef = .pointer (some ⟨b, 0, none⟩) := (hA 93 (by decide)).trans (by kernel_rfl)
                  refine ⟨fun f _ => trivial, ?_⟩
                  rw [Oper.semAt_eq _ _ _ (fun c h => by cases h)]
                  simp [execOp, Act.eval, go_sem, r1]
                  exact ⟨rfl, callsIn_wide.2 ((lenI (hq2.zn.fr hW id (fun _ _ => id))).mono (by rintro e W9 ⟨rfl, rfl⟩; exact ⟨by rw [ints_length, hlm], hW⟩))⟩
                · cases ho
                  rw [if_pos (by kernel_rfl)]
                  have r1 : A.tmps.getD 7 undef = .pointer (some ⟨t, 0, none⟩) := (hA 7 (by decide)).trans (by kernel_rfl)
                  have ca := fun i => blk_cell (hW.heap hq2.tc id) i
                  refine ⟨fun f _ => trivial, ?_⟩
                  rw [Oper.semAt_eq _ _ _ (fun c h => by cases h)]
                  simp [execOp, Act.eval, go_sem, r1, ca]
                  exact hW
                · cases ho
                  rw [if_pos (by kernel_rfl)]
                  have r1 : A.tmps.getD 95 undef = .slice aw L.length cw := (hA 95 (by decide)).trans (by kernel_rfl)
                  refine ⟨fun f _ => trivial, ?_⟩
                  rw [Oper.semAt_eq _ _ _ (fun c h => by cases h)]
                  simp [execOp, Act.eval, go_sem, r1]
                  exact hW
                · cases ho
                  rw [if_pos (by kernel_rfl)]
                  have r1 : A.tmps.getD 94 undef = .int .i64 (m : Int) := (hA 94 (by decide)).trans (by kernel_rfl)
                  have r2 : A.tmps.getD 96 undef = .int .i64 (L.length : Int) := (hA 96 (by decide)).trans (by kernel_rfl)
                  refine ⟨fun f _ => trivial, ?_⟩
                  rw [Oper.semAt_eq _ _ _ (fun c h => by cases h)]
                  simp [execOp, Act.eval, go_sem, r1, r2, g3]
                  exact hW
                · cases ho
                  rw [if_pos (by kernel_rfl)]
                  have r1 : A.tmps.getD 97 undef = .bool true := (hA 97 (by decide)).trans (by kernel_rfl)
                  refine ⟨fun f _ => trivial, ?_⟩
                  rw [Oper.semAt_eq _ _ _ (fun c h => by cases h)]
                  simp [execOp, Act.eval, go_sem, r1]
                  exact hW
                · cases ho
                  rw [if_pos (by kernel_rfl)]
                  have r1 : A.tmps.getD 5 undef = .pointer (some ⟨b, 0, none⟩) := (hA 5 (by decide)).trans (by kernel_rfl)
                  refine ⟨fun f _ => trivial, ?_⟩
                  rw [Oper.semAt_eq _ _ _ (fun c h => by cases h)]
                  simp [execOp, Act.eval, go_sem, r1]
                  exact hW
                · cases ho
                  rw [if_pos (by kernel_rfl)]
                  have r1 : A.tmps.getD 99 undef = .pointer (some ⟨b, 0, none⟩) := (hA 99 (by decide)).trans (by kernel_rfl)
                  refine ⟨fun f _ => trivial, ?_⟩
                  rw [Oper.semAt_eq _ _ _ (fun c h => by cases h)]
                  simp [execOp, Act.eval, go_sem, r1]
                  exact ⟨rfl, callsIn_wide.2 ((lenI (hq2.zn.fr hW id (fun _ _ => id))).mono (by rintro e W9 ⟨rfl, rfl⟩; exact ⟨by rw [ints_length, hlm], hW⟩))⟩
                · cases ho
                  rw [if_pos (by kernel_rfl)]
                  have r1 : A.tmps.getD 10 undef = .int .i64 safe := (hA 10 (by decide)).trans (by kernel_rfl)
                  refine ⟨fun f _ => trivial, ?_⟩
                  rw [Oper.semAt_eq _ _ _ (fun c h => by cases h)]
                  simp [execOp, Act.eval, go_sem, r1]
                  exact hW
                · cases ho
                  rw [if_pos (by kernel_rfl)]
                  have r1 : A.tmps.getD 9 undef = .pointer (some ⟨ob, 0, none⟩) := (hA 9 (by decide)).trans (by kernel_rfl)
                  refine ⟨fun f _ => trivial, ?_⟩
                  rw [Oper.semAt_eq _ _ _ (fun c h => by cases h)]
                  simp [execOp, Act.eval, go_sem, r1]
                  exact hW
                · cases ho
                  rw [if_pos (by kernel_rfl)]
                  have r1 : A.tmps.getD 102 undef = .pointer (some ⟨ob, 1, none⟩) := (hA 102 (by decide)).trans (by kernel_rfl)
                  have ca := fun i => blk_cell (hW.heap hoc id) i
                  refine ⟨fun f _ => trivial, ?_⟩
                  rw [Oper.semAt_eq _ _ _ (fun c h => by cases h)]
                  simp [execOp, Act.eval, go_sem, r1, ca]
                  exact hW
                · cases ho
                  rw [if_pos (by kernel_rfl)]
                  have r1 : A.tmps.getD 103 undef = .int .i64 X := (hA 103 (by decide)).trans (by kernel_rfl)
                  refine ⟨fun f _ => trivial, ?_⟩
                  rw [Oper.semAt_eq _ _ _ (fun c h => by cases h)]
                  simp [execOp, Act.eval, go_sem, r1, g4]
                  exact hW
                · cases ho
                  rw [if_pos (by kernel_rfl)]
                  have r1 : A.tmps.getD 101 undef = .int .i64 safe := (hA 101 (by decide)).trans (by kernel_rfl)
                  have r2 : A.tmps.getD 104 undef = .int .i64 mx := (hA 104 (by decide)).trans (by kernel_rfl)
                  refine ⟨fun f _ => trivial, ?_⟩
                  rw [Oper.semAt_eq _ _ _ (fun c h => by cases h)]
                  simp [execOp, Act.eval, go_sem, r1, r2, g5]
                  exact hW
                · cases ho
                  rw [if_pos (by kernel_rfl)]
                  have r1 : A.tmps.getD 100 undef = .int .i64 (m : Int) := (hA 100 (by decide)).trans (by kernel_rfl)
                  have r2 : A.tmps.getD 105 undef = .int .i64 (safe + mx) := (hA 105 (by decide)).trans (by kernel_rfl)
                  refine ⟨fun f _ => trivial, ?_⟩
                  rw [Oper.semAt_eq _ _ _ (fun c h => by cases h)]
                  simp [execOp, Act.eval, go_sem, r1, r2, g6]
                  exact hW
                · cases ho
                  rw [if_pos (by kernel_rfl)]
                  have r1 : A.tmps.getD 98 undef = .bool true := (hA 98 (by decide)).trans (by kernel_rfl)
                  have r2 : A.tmps.getD 106 undef = .bool false := (hA 106 (by decide)).trans (by kernel_rfl)
                  refine ⟨fun f _ => trivial, ?_⟩
                  rw [Oper.semAt_eq _ _ _ (fun c h => by cases h)]
                  simp [execOp, Act.eval, go_sem, r1, r2]
                  exact hW
                · cases ho
                  rw [if_pos (by kernel_rfl)]
                  have r1 : A.tmps.getD 92 undef = .bool false := (hA 92 (by decide)).trans (by kernel_rfl)
                  have r2 : A.tmps.getD 107 undef = .bool false := (hA 107 (by decide)).trans (by kernel_rfl)
                  refine ⟨fun f _ => trivial, ?_⟩
                  rw [Oper.semAt_eq _ _ _ (fun c h => by cases h)]
                  simp [execOp, Act.eval, go_sem, r1, r2]
                  exact hW
                · cases ho
              · intro W3 hf3
                simp only [goV, Act.put, List.getD_cons_zero, List.getD_cons_succ, List.setIfInBounds_toArray, List.set_cons_succ, List.set_cons_zero]
                have hmc : m ≤ cw := by
                  rcases hq2.row.2 with ⟨he, h0⟩ | ⟨g, cap', cur, he, hb, hg, h1, h2, h3, h4⟩
                  · simp only [Value.slice.injEq] at he; omega
                  · simp only [Value.slice.injEq] at he; omega
                clear g1 g2 g3
                replace hM2 := hM2.fr hf3 (fun _ _ => id)
                replace hq2 := hq2.fr hf3 (fun _ _ => id) (fun _ h => h.elim)
                clear hz2 hf2 ho2 hoc
                go_wp2_with fail
                refine (wpIn_wide (n := 0)).1 ?_
                refine regionIn_stated (P := Try.prog) (fun l vals W => S27 W3 t b aw L.length m cw (fun j => l.getD j false) vals W) (fun _ => undef) rfl (by kernel_rfl) (by kernel_rfl) (by have e : ∀ n, (fun j => (Array.replicate n false).getD j false) = fun _ => false := fun n => funext fun j => rep_false n j; rw [e]; exact ⟨(Fr.refl _ W3).drew, by simp, by simp, by simp, by simp, by simp⟩) ?_ ?_
                · intro j o ho dd vals A Wx hsz hS hj hcl hdep hA hdf
                  have hsz2 : dd.size = 5 := hsz
                  rcases j with _ | _ | _ | _ | _ | j
                  · cases ho
                    rw [if_pos (by kernel_rfl)]
                    have r1 : A.tmps.getD 7 undef = .pointer (some ⟨t, 0, none⟩) := (hA 7 (by decide)).trans (by kernel_rfl)
                    have n4 : dd.getD 4 false = false := not_later hcl (j := 4) rfl (by kernel_rfl) hj
                    have ca := fun i => blk_cell (hS.fr.heap hq2.tc (fun ⟨e, _⟩ => by rw [n4] at e; cases e)) i
                    refine ⟨fun f _ => trivial, ?_⟩
                    rw [Oper.semAt_eq _ _ _ (fun c h => by cases h)]
                    rw [show (execOp A.eval _).run Try.prog Wx = .ok (.value (.slice aw L.length cw)) (Wx) by simp [execOp, Act.eval, go_sem, r1, ca]]
                    refine ⟨.slice aw L.length cw, rfl, ?_⟩
                    rw [dset (by omega)]
                    exact ⟨by simpa using hS.fr, by simp [updV], by simpa [updV] using hS.v1, by simpa [updV] using hS.v2, by simpa [updV] using hS.v3, by simpa using hS.v4⟩
                  · cases ho
                    rw [if_pos (by kernel_rfl)]
                    have r1 : A.tmps.getD 5 undef = .pointer (some ⟨b, 0, none⟩) := (hA 5 (by decide)).trans (by kernel_rfl)
                    refine ⟨fun f _ => trivial, ?_⟩
                    rw [Oper.semAt_eq _ _ _ (fun c h => by cases h)]
                    rw [show (execOp A.eval _).run Try.prog Wx = .ok (.value (.pointer (some ⟨b, 0, none⟩))) (Wx) by simp [execOp, Act.eval, go_sem, r1]]
                    refine ⟨.pointer (some ⟨b, 0, none⟩), rfl, ?_⟩
                    rw [dset (by omega)]
                    exact ⟨by simpa using hS.fr, by simpa [updV] using hS.v0, by simp [updV], by simpa [updV] using hS.v2, by simpa [updV] using hS.v3, by simpa using hS.v4⟩
                  · cases ho
                    rw [if_pos (by kernel_rfl)]
                    have r1 : A.tmps.getD 110 undef = vals 1 := (hA 110 (by decide)).trans (by kernel_rfl)
                    have d1 : dd.getD 1 false = true := hdep 1 (by kernel_rfl)
                    have n4 : dd.getD 4 false = false := not_later hcl (j := 4) rfl (by kernel_rfl) hj
                    have e1 := hS.v1 d1
                    refine ⟨fun f _ => trivial, ?_⟩
                    rw [Oper.semAt_eq _ _ _ (fun c h => by cases h)]
                    simp [execOp, Act.eval, go_sem, r1, e1]
                    have hz9 := hq2.zn.fr hS.fr (fun ⟨e, _⟩ => by rw [n4] at e; cases e) (fun k _ ⟨e, _⟩ => by rw [n4] at e; cases e)
                    refine ⟨rfl, callsIn_wide.2 ((lenI hz9).mono ?_)⟩
                    rintro e W9 ⟨rfl, rfl⟩
                    refine ⟨.int .i64 (m : Int), by rw [ints_length, hlm], ?_⟩
                    have hS9 : S27 W3 t b aw L.length m cw (fun j => (dd.setIfInBounds 2 true).getD j false) (updV vals 2 (.int .i64 (m : Int))) W9 := by
                      rw [dset (by omega)]
                      exact ⟨by simpa using hS.fr, by simpa [updV] using hS.v0, by simpa [updV] using hS.v1, by simp [updV], by simpa [updV] using hS.v3, by simpa using hS.v4⟩
                    simpa using hS9
                  · cases ho
                    rw [if_pos (by kernel_rfl)]
                    have r1 : A.tmps.getD 109 undef = vals 0 := (hA 109 (by decide)).trans (by kernel_rfl)
                    have r2 : A.tmps.getD 111 undef = vals 2 := (hA 111 (by decide)).trans (by kernel_rfl)
                    have d0 : dd.getD 0 false = true := hdep 0 (by kernel_rfl)
                    have d2 : dd.getD 2 false = true := hdep 2 (by kernel_rfl)
                    have e0 := hS.v0 d0
                    have e2 := hS.v2 d2
                    refine ⟨fun f _ => trivial, ?_⟩
                    rw [Oper.semAt_eq _ _ _ (fun c h => by cases h)]
                    rw [show (execOp A.eval _).run Try.prog Wx = .ok (.value (.slice aw m cw)) (Wx) by simp [execOp, Act.eval, go_sem, r1, r2, e0, e2, hmc]]
                    refine ⟨.slice aw m cw, rfl, ?_⟩
                    rw [dset (by omega)]
                    exact ⟨by simpa using hS.fr, by simpa [updV] using hS.v0, by simpa [updV] using hS.v1, by simpa [updV] using hS.v2, by simp [updV], by simpa using hS.v4⟩
                  · cases ho
                    rw [if_pos (by kernel_rfl)]
                    have r1 : A.tmps.getD 7 undef = .pointer (some ⟨t, 0, none⟩) := (hA 7 (by decide)).trans (by kernel_rfl)
                    have r2 : A.tmps.getD 112 undef = vals 3 := (hA 112 (by decide)).trans (by kernel_rfl)
                    have d3 : dd.getD 3 false = true := hdep 3 (by kernel_rfl)
                    have e3 := hS.v3 d3
                    have htt := hS.fr.heap hq2.tc (fun ⟨e, _⟩ => by rw [hj] at e; cases e)
                    have fa := fun i => blk_frozen htt i
                    have ca := fun i => blk_cell htt i
                    refine ⟨fun f _ => trivial, ?_⟩
                    rw [Oper.semAt_eq _ _ _ (fun c h => by cases h)]
                    rw [show (execOp A.eval _).run Try.prog Wx = .ok .skip (Wx.setCell ⟨t, 0, none⟩ (.slice aw m cw)) by simp [execOp, Act.eval, go_sem, r1, r2, fa, ca, e3]]
                    refine ⟨undef, rfl, ?_⟩
                    rw [dset (by omega)]
                    exact ⟨(hS.fr.mono (fun i _ hi => by rw [hj] at hi; exact absurd hi.1 (by simp))).trans (Fr.set1 Wx t 0 _) (fun i _ hk => by simpa using hk), by simpa [updV] using hS.v0, by simpa [updV] using hS.v1, by simpa [updV] using hS.v2, by simpa [updV] using hS.v3, fun _ => by simpa using blk_put htt 0 (.slice aw m cw)⟩
                  · cases ho
                · intro vals1 W4 hS
                  have ht4 := hS.v4 (by simp)
                  have hf4 : Fr (fun k => k = t) W3 W4 := hS.fr.mono (fun i _ hi => hi.2)
                  simp only [goV, Act.put, List.setIfInBounds_toArray, List.set_cons_succ, List.set_cons_zero]
                  go_wp2_with fail
                  have hrw := row_take (row_fr hq2.row hf4 (fun k hk e => by obtain ⟨cur, hc⟩ := row_obj hq2.row hk; exact ne_obj hc hq2.tc (by intro e; cases e) e)) hml
                  have hq4 := hq2.was (Lw' := L.take m) hf4 ht4 (by rw [hlm]; exact hrw) (fun k hk => hq2.sep k (by cases aw with | none => cases hk | some a => exact hk))
                  exact ⟨rfl, trivial, _, _, _, _, _, _, hq4, hg2, hM2.fr hf4 (fun D hD e => ne_obj (hM2.2 D hD) hq2.tc (by intro e; cases e) e)⟩
            · have g3 : decide (m < L.length) = false := decide_eq_false (by omega)
              refine (wpIn_wide (n := 0)).1 ?_
              refine regionIn_valued (P := Try.prog) (fun q => ([.pointer (some ⟨b, 0, none⟩), .int .i64 (m : Int), .int .i64 safe, .bool false, .bool false, .pointer (some ⟨b, 0, none⟩), .int .i64 (m : Int), .slice aw L.length cw, .int .i64 (L.length : Int), .bool false, .bool false, .bool false, .pointer (some ⟨b, 0, none⟩), .int .i64 (m : Int), .slice aw L.length cw, .int .i64 (L.length : Int), .bool false, .bool false, undef, undef, undef, undef, undef, undef, undef, undef, .bool false, .bool false] : List Value).getD q undef) (Fr (fun _ => False) W2) rfl (by kernel_rfl) (by kernel_rfl) ((Fr.refl _ W2).drew) ?_ ?_
              · intro j o ho A Wx hW hA hdf
                rcases j with _ | _ | _ | _ | _ | _ | _ | _ | _ | _ | _ | _ | _ | _ | _ | _ | _ | _ | _ | _ | _ | _ | _ | _ | _ | _ | _ | _ | j
                · cases ho
                  rw [if_pos (by kernel_rfl)]
                  have r1 : A.tmps.getD 5 undef = .pointer (some ⟨b, 0, none⟩) := (hA 5 (by decide)).trans (by kernel_rfl)
                  refine ⟨fun f _ => trivial, ?_⟩
                  rw [Oper.semAt_eq _ _ _ (fun c h => by cases h)]
                  simp [execOp, Act.eval, go_sem, r1]
                  exact hW
                · cases ho
                  rw [if_pos (by kernel_rfl)]
                  have r1 : A.tmps.getD 81 undef = .pointer (some ⟨b, 0, none⟩) := (hA 81 (by decide)).trans (by kernel_rfl)
                  refine ⟨fun f _ => trivial, ?_⟩
                  rw [Oper.semAt_eq _ _ _ (fun c h => by cases h)]
                  simp [execOp, Act.eval, go_sem, r1]
                  exact ⟨rfl, callsIn_wide.2 ((lenI (hq2.zn.fr hW id (fun _ _ => id))).mono (by rintro e W9 ⟨rfl, rfl⟩; exact ⟨by rw [ints_length, hlm], hW⟩))⟩
                · cases ho
                  rw [if_pos (by kernel_rfl)]
                  have r1 : A.tmps.getD 10 undef = .int .i64 safe := (hA 10 (by decide)).trans (by kernel_rfl)
                  refine ⟨fun f _ => trivial, ?_⟩
                  rw [Oper.semAt_eq _ _ _ (fun c h => by cases h)]
                  simp [execOp, Act.eval, go_sem, r1]
                  exact hW
                · cases ho
                  rw [if_pos (by kernel_rfl)]
                  have r1 : A.tmps.getD 82 undef = .int .i64 (m : Int) := (hA 82 (by decide)).trans (by kernel_rfl)
                  have r2 : A.tmps.getD 83 undef = .int .i64 safe := (hA 83 (by decide)).trans (by kernel_rfl)
                  refine ⟨fun f _ => trivial, ?_⟩
                  rw [Oper.semAt_eq _ _ _ (fun c h => by cases h)]
                  simp [execOp, Act.eval, go_sem, r1, r2, g1]
                  exact hW
                · cases ho
                  rw [if_pos (by kernel_rfl)]
                  have r1 : A.tmps.getD 84 undef = .bool false := (hA 84 (by decide)).trans (by kernel_rfl)
                  refine ⟨fun f _ => trivial, ?_⟩
                  rw [Oper.semAt_eq _ _ _ (fun c h => by cases h)]
                  simp [execOp, Act.eval, go_sem, r1]
                  exact hW
                · cases ho
                  rw [if_pos (by kernel_rfl)]
                  have r1 : A.tmps.getD 5 undef = .pointer (some ⟨b, 0, none⟩) := (hA 5 (by decide)).trans (by kernel_rfl)
                  refine ⟨fun f _ => trivial, ?_⟩
                  rw [Oper.semAt_eq _ _ _ (fun c h => by cases h)]
                  simp [execOp, Act.eval, go_sem, r1]
                  exact hW
                · cases ho
                  rw [if_pos (by kernel_rfl)]
                  have r1 : A.tmps.getD 86 undef = .pointer (some ⟨b, 0, none⟩) := (hA 86 (by decide)).trans (by kernel_rfl)
                  refine ⟨fun f _ => trivial, ?_⟩
                  rw [Oper.semAt_eq _ _ _ (fun c h => by cases h)]
                  simp [execOp, Act.eval, go_sem, r1]
                  exact ⟨rfl, callsIn_wide.2 ((lenI (hq2.zn.fr hW id (fun _ _ => id))).mono (by rintro e W9 ⟨rfl, rfl⟩; exact ⟨by rw [ints_length, hlm], hW⟩))⟩
                · cases ho
                  rw [if_pos (by kernel_rfl)]
                  have r1 : A.tmps.getD 7 undef = .pointer (some ⟨t, 0, none⟩) := (hA 7 (by decide)).trans (by kernel_rfl)
                  have ca := fun i => blk_cell (hW.heap hq2.tc id) i
                  refine ⟨fun f _ => trivial, ?_⟩
                  rw [Oper.semAt_eq _ _ _ (fun c h => by cases h)]
                  simp [execOp, Act.eval, go_sem, r1, ca]
                  exact hW
                · cases ho
                  rw [if_pos (by kernel_rfl)]
                  have r1 : A.tmps.getD 88 undef = .slice aw L.length cw := (hA 88 (by decide)).trans (by kernel_rfl)
                  refine ⟨fun f _ => trivial, ?_⟩
                  rw [Oper.semAt_eq _ _ _ (fun c h => by cases h)]
                  simp [execOp, Act.eval, go_sem, r1]
                  exact hW
                · cases ho
                  rw [if_pos (by kernel_rfl)]
                  have r1 : A.tmps.getD 87 undef = .int .i64 (m : Int) := (hA 87 (by decide)).trans (by kernel_rfl)
                  have r2 : A.tmps.getD 89 undef = .int .i64 (L.length : Int) := (hA 89 (by decide)).trans (by kernel_rfl)
                  refine ⟨fun f _ => trivial, ?_⟩
                  rw [Oper.semAt_eq _ _ _ (fun c h => by cases h)]
                  simp [execOp, Act.eval, go_sem, r1, r2, g2]
                  exact hW
                · cases ho
                  rw [if_pos (by kernel_rfl)]
                  have r1 : A.tmps.getD 85 undef = .bool false := (hA 85 (by decide)).trans (by kernel_rfl)
                  have r2 : A.tmps.getD 90 undef = .bool false := (hA 90 (by decide)).trans (by kernel_rfl)
                  refine ⟨fun f _ => trivial, ?_⟩
                  rw [Oper.semAt_eq _ _ _ (fun c h => by cases h)]
                  simp [execOp, Act.eval, go_sem, r1, r2]
                  exact hW
                · cases ho
                  rw [if_pos (by kernel_rfl)]
                  have r1 : A.tmps.getD 91 undef = .bool false := (hA 91 (by decide)).trans (by kernel_rfl)
                  refine ⟨fun f _ => trivial, ?_⟩
                  rw [Oper.semAt_eq _ _ _ (fun c h => by cases h)]
                  simp [execOp, Act.eval, go_sem, r1]
                  exact hW
                · cases ho
                  rw [if_pos (by kernel_rfl)]
                  have r1 : A.tmps.getD 5 undef = .pointer (some ⟨b, 0, none⟩) := (hA 5 (by decide)).trans (by kernel_rfl)
                  refine ⟨fun f _ => trivial, ?_⟩
                  rw [Oper.semAt_eq _ _ _ (fun c h => by cases h)]
                  simp [execOp, Act.eval, go_sem, r1]
                  exact hW
                · cases ho
                  rw [if_pos (by kernel_rfl)]
                  have r1 : A.tmps.getD 93 undef = .pointer (some ⟨b, 0, none⟩) := (hA 93 (by decide)).trans (by kernel_rfl)
                  refine ⟨fun f _ => trivial, ?_⟩
                  rw [Oper.semAt_eq _ _ _ (fun c h => by cases h)]
                  simp [execOp, Act.eval, go_sem, r1]
                  exact ⟨rfl, callsIn_wide.2 ((lenI (hq2.zn.fr hW id (fun _ _ => id))).mono (by rintro e W9 ⟨rfl, rfl⟩; exact ⟨by rw [ints_length, hlm], hW⟩))⟩
                · cases ho
                  rw [if_pos (by kernel_rfl)]
                  have r1 : A.tmps.getD 7 undef = .pointer (some ⟨t, 0, none⟩) := (hA 7 (by decide)).trans (by kernel_rfl)
                  have ca := fun i => blk_cell (hW.heap hq2.tc id) i
                  refine ⟨fun f _ => trivial, ?_⟩
                  rw [Oper.semAt_eq _ _ _ (fun c h => by cases h)]
                  simp [execOp, Act.eval, go_sem, r1, ca]
                  exact hW
                · cases ho
                  rw [if_pos (by kernel_rfl)]
                  have r1 : A.tmps.getD 95 undef = .slice aw L.length cw := (hA 95 (by decide)).trans (by kernel_rfl)
                  refine ⟨fun f _ => trivial, ?_⟩
                  rw [Oper.semAt_eq _ _ _ (fun c h => by cases h)]
                  simp [execOp, Act.eval, go_sem, r1]
                  exact hW
                · cases ho
                  rw [if_pos (by kernel_rfl)]
                  have r1 : A.tmps.getD 94 undef = .int .i64 (m : Int) := (hA 94 (by decide)).trans (by kernel_rfl)
                  have r2 : A.tmps.getD 96 undef = .int .i64 (L.length : Int) := (hA 96 (by decide)).trans (by kernel_rfl)
                  refine ⟨fun f _ => trivial, ?_⟩
                  rw [Oper.semAt_eq _ _ _ (fun c h => by cases h)]
                  simp [execOp, Act.eval, go_sem, r1, r2, g3]
                  exact hW
                · cases ho
                  rw [if_pos (by kernel_rfl)]
                  have r1 : A.tmps.getD 97 undef = .bool false := (hA 97 (by decide)).trans (by kernel_rfl)
                  refine ⟨fun f _ => trivial, ?_⟩
                  rw [Oper.semAt_eq _ _ _ (fun c h => by cases h)]
                  simp [execOp, Act.eval, go_sem, r1]
                  exact hW
                · cases ho
                  rw [if_neg (by rw [show wantedV _ _ _ = false by kernel_rfl]; decide)]
                  exact ⟨fun f _ => trivial, rfl⟩
                · cases ho
                  rw [if_neg (by rw [show wantedV _ _ _ = false by kernel_rfl]; decide)]
                  exact ⟨fun f _ => trivial, rfl⟩
                · cases ho
                  rw [if_neg (by rw [show wantedV _ _ _ = false by kernel_rfl]; decide)]
                  exact ⟨fun f _ => trivial, rfl⟩
                · cases ho
                  rw [if_neg (by rw [show wantedV _ _ _ = false by kernel_rfl]; decide)]
                  exact ⟨fun f _ => trivial, rfl⟩
                · cases ho
                  rw [if_neg (by rw [show wantedV _ _ _ = false by kernel_rfl]; decide)]
                  exact ⟨fun f _ => trivial, rfl⟩
                · cases ho
                  rw [if_neg (by rw [show wantedV _ _ _ = false by kernel_rfl]; decide)]
                  exact ⟨fun f _ => trivial, rfl⟩
                · cases ho
                  rw [if_neg (by rw [show wantedV _ _ _ = false by kernel_rfl]; decide)]
                  exact ⟨fun f _ => trivial, rfl⟩
                · cases ho
                  rw [if_neg (by rw [show wantedV _ _ _ = false by kernel_rfl]; decide)]
                  exact ⟨fun f _ => trivial, rfl⟩
                · cases ho
                  rw [if_pos (by kernel_rfl)]
                  have r1 : A.tmps.getD 98 undef = .bool false := (hA 98 (by decide)).trans (by kernel_rfl)
                  have r2 : A.tmps.getD 106 undef = undef := (hA 106 (by decide)).trans (by kernel_rfl)
                  refine ⟨fun f _ => trivial, ?_⟩
                  rw [Oper.semAt_eq _ _ _ (fun c h => by cases h)]
                  simp [execOp, Act.eval, go_sem, r1, r2]
                  exact hW
                · cases ho
                  rw [if_pos (by kernel_rfl)]
                  have r1 : A.tmps.getD 92 undef = .bool false := (hA 92 (by decide)).trans (by kernel_rfl)
                  have r2 : A.tmps.getD 107 undef = .bool false := (hA 107 (by decide)).trans (by kernel_rfl)
                  refine ⟨fun f _ => trivial, ?_⟩
                  rw [Oper.semAt_eq _ _ _ (fun c h => by cases h)]
                  simp [execOp, Act.eval, go_sem, r1, r2]
                  exact hW
                · cases ho
              · intro W3 hf3
                simp only [goV, Act.put, List.getD_cons_zero, List.getD_cons_succ, List.setIfInBounds_toArray, List.set_cons_succ, List.set_cons_zero]
                have hmc : m ≤ cw := by
                  rcases hq2.row.2 with ⟨he, h0⟩ | ⟨g, cap', cur, he, hb, hg, h1, h2, h3, h4⟩
                  · simp only [Value.slice.injEq] at he; omega
                  · simp only [Value.slice.injEq] at he; omega
                clear g1 g2 g3
                replace hM2 := hM2.fr hf3 (fun _ _ => id)
                replace hq2 := hq2.fr hf3 (fun _ _ => id) (fun _ h => h.elim)
                clear hz2 hf2 ho2 hoc
                go_wp2_with fail
                refine (wpIn_wide (n := 0)).1 ?_
                refine regionIn_stated (P := Try.prog) (fun l vals W => S27 W3 t b aw L.length m cw (fun j => l.getD j false) vals W) (fun _ => undef) rfl (by kernel_rfl) (by kernel_rfl) (by have e : ∀ n, (fun j => (Array.replicate n false).getD j false) = fun _ => false := fun n => funext fun j => rep_false n j; rw [e]; exact ⟨(Fr.refl _ W3).drew, by simp, by simp, by simp, by simp, by simp⟩) ?_ ?_
                · intro j o ho dd vals A Wx hsz hS hj hcl hdep hA hdf
                  have hsz2 : dd.size = 5 := hsz
                  rcases j with _ | _ | _ | _ | _ | j
                  · cases ho
                    rw [if_pos (by kernel_rfl)]
                    have r1 : A.tmps.getD 7 undef = .pointer (some ⟨t, 0, none⟩) := (hA 7 (by decide)).trans (by kernel_rfl)
                    have n4 : dd.getD 4 false = false := not_later hcl (j := 4) rfl (by kernel_rfl) hj
                    have ca := fun i => blk_cell (hS.fr.heap hq2.tc (fun ⟨e, _⟩ => by rw [n4] at e; cases e)) i
                    refine ⟨fun f _ => trivial, ?_⟩
                    rw [Oper.semAt_eq _ _ _ (fun c h => by cases h)]
                    rw [show (execOp A.eval _).run Try.prog Wx = .ok (.value (.slice aw L.length cw)) (Wx) by simp [execOp, Act.eval, go_sem, r1, ca]]
                    refine ⟨.slice aw L.length cw, rfl, ?_⟩
                    rw [dset (by omega)]
                    exact ⟨by simpa using hS.fr, by simp [updV], by simpa [updV] using hS.v1, by simpa [updV] using hS.v2, by simpa [updV] using hS.v3, by simpa using hS.v4⟩
                  · cases ho
                    rw [if_pos (by kernel_rfl)]
                    have r1 : A.tmps.getD 5 undef = .pointer (some ⟨b, 0, none⟩) := (hA 5 (by decide)).trans (by kernel_rfl)
                    refine ⟨fun f _ => trivial, ?_⟩
                    rw [Oper.semAt_eq _ _ _ (fun c h => by cases h)]
                    rw [show (execOp A.eval _).run Try.prog Wx = .ok (.value (.pointer (some ⟨b, 0, none⟩))) (Wx) by simp [execOp, Act.eval, go_sem, r1]]
                    refine ⟨.pointer (some ⟨b, 0, none⟩), rfl, ?_⟩
                    rw [dset (by omega)]
                    exact ⟨by simpa using hS.fr, by simpa [updV] using hS.v0, by simp [updV], by simpa [updV] using hS.v2, by simpa [updV] using hS.v3, by simpa using hS.v4⟩
                  · cases ho
                    rw [if_pos (by kernel_rfl)]
                    have r1 : A.tmps.getD 110 undef = vals 1 := (hA 110 (by decide)).trans (by kernel_rfl)
                    have d1 : dd.getD 1 false = true := hdep 1 (by kernel_rfl)
                    have n4 : dd.getD 4 false = false := not_later hcl (j := 4) rfl (by kernel_rfl) hj
                    have e1 := hS.v1 d1
                    refine ⟨fun f _ => trivial, ?_⟩
                    rw [Oper.semAt_eq _ _ _ (fun c h => by cases h)]
                    simp [execOp, Act.eval, go_sem, r1, e1]
                    have hz9 := hq2.zn.fr hS.fr (fun ⟨e, _⟩ => by rw [n4] at e; cases e) (fun k _ ⟨e, _⟩ => by rw [n4] at e; cases e)
                    refine ⟨rfl, callsIn_wide.2 ((lenI hz9).mono ?_)⟩
                    rintro e W9 ⟨rfl, rfl⟩
                    refine ⟨.int .i64 (m : Int), by rw [ints_length, hlm], ?_⟩
                    have hS9 : S27 W3 t b aw L.length m cw (fun j => (dd.setIfInBounds 2 true).getD j false) (updV vals 2 (.int .i64 (m : Int))) W9 := by
                      rw [dset (by omega)]
                      exact ⟨by simpa using hS.fr, by simpa [updV] using hS.v0, by simpa [updV] using hS.v1, by simp [updV], by simpa [updV] using hS.v3, by simpa using hS.v4⟩
                    simpa using hS9
                  · cases ho
                    rw [if_pos (by kernel_rfl)]
                    have r1 : A.tmps.getD 109 undef = vals 0 := (hA 109 (by decide)).trans (by kernel_rfl)
                    have r2 : A.tmps.getD 111 undef = vals 2 := (hA 111 (by decide)).trans (by kernel_rfl)
                    have d0 : dd.getD 0 false = true := hdep 0 (by kernel_rfl)
                    have d2 : dd.getD 2 false = true := hdep 2 (by kernel_rfl)
                    have e0 := hS.v0 d0
                    have e2 := hS.v2 d2
                    refine ⟨fun f _ => trivial, ?_⟩
                    rw [Oper.semAt_eq _ _ _ (fun c h => by cases h)]
                    rw [show (execOp A.eval _).run Try.prog Wx = .ok (.value (.slice aw m cw)) (Wx) by simp [execOp, Act.eval, go_sem, r1, r2, e0, e2, hmc]]
                    refine ⟨.slice aw m cw, rfl, ?_⟩
                    rw [dset (by omega)]
                    exact ⟨by simpa using hS.fr, by simpa [updV] using hS.v0, by simpa [updV] using hS.v1, by simpa [updV] using hS.v2, by simp [updV], by simpa using hS.v4⟩
                  · cases ho
                    rw [if_pos (by kernel_rfl)]
                    have r1 : A.tmps.getD 7 undef = .pointer (some ⟨t, 0, none⟩) := (hA 7 (by decide)).trans (by kernel_rfl)
                    have r2 : A.tmps.getD 112 undef = vals 3 := (hA 112 (by decide)).trans (by kernel_rfl)
                    have d3 : dd.getD 3 false = true := hdep 3 (by kernel_rfl)
                    have e3 := hS.v3 d3
                    have htt := hS.fr.heap hq2.tc (fun ⟨e, _⟩ => by rw [hj] at e; cases e)
                    have fa := fun i => blk_frozen htt i
                    have ca := fun i => blk_cell htt i
                    refine ⟨fun f _ => trivial, ?_⟩
                    rw [Oper.semAt_eq _ _ _ (fun c h => by cases h)]
                    rw [show (execOp A.eval _).run Try.prog Wx = .ok .skip (Wx.setCell ⟨t, 0, none⟩ (.slice aw m cw)) by simp [execOp, Act.eval, go_sem, r1, r2, fa, ca, e3]]
                    refine ⟨undef, rfl, ?_⟩
                    rw [dset (by omega)]
                    exact ⟨(hS.fr.mono (fun i _ hi => by rw [hj] at hi; exact absurd hi.1 (by simp))).trans (Fr.set1 Wx t 0 _) (fun i _ hk => by simpa using hk), by simpa [updV] using hS.v0, by simpa [updV] using hS.v1, by simpa [updV] using hS.v2, by simpa [updV] using hS.v3, fun _ => by simpa using blk_put htt 0 (.slice aw m cw)⟩
                  · cases ho
                · intro vals1 W4 hS
                  have ht4 := hS.v4 (by simp)
                  have hf4 : Fr (fun k => k = t) W3 W4 := hS.fr.mono (fun i _ hi => hi.2)
                  simp only [goV, Act.put, List.setIfInBounds_toArray, List.set_cons_succ, List.set_cons_zero]
                  go_wp2_with fail
                  have hrw := row_take (row_fr hq2.row hf4 (fun k hk e => by obtain ⟨cur, hc⟩ := row_obj hq2.row hk; exact ne_obj hc hq2.tc (by intro e; cases e) e)) hml
                  have hq4 := hq2.was (Lw' := L.take m) hf4 ht4 (by rw [hlm]; exact hrw) (fun k hk => hq2.sep k (by cases aw with | none => cases hk | some a => exact hk))
                  exact ⟨rfl, trivial, _, _, _, _, _, _, hq4, hg2, hM2.fr hf4 (fun D hD e => ne_obj (hM2.2 D hD) hq2.tc (by intro e; cases e) e)⟩
          by_cases k7 : K = 7
          · subst k7
            go_wp2_with fail
            refine (failI hq1.zn X).mono ?_
            rintro e W2 ⟨⟨u9, rfl⟩, hz2, hf2⟩
            go_wp2_with fail
            refine ⟨rfl, trivial, _, _, _, _, _, _, hq1.zone hz2 hf2 (fun k hk => .inl hk), ?_, marks_zone hM1 hq1 hf2⟩
            have h0 := hg.t0
            have h1 := hg.t1
            have h2 := hg.op
            unfold failTo
            split
            · exact ⟨hg.s0, hg.s1, hg.n1, by omega, by omega, by omega⟩
            · exact hg
          · go_wp2_with fail
            exact ⟨rfl, trivial, _, _, _, _, _, _, hq1, hg, hM1⟩
        · clear hq1 hM1 ho hob co hg
          intro u2 W2 hR
          obtain ⟨v, vw, L, safe, st, fin, hq, hg, hM⟩ := hR
          simp only [mixP, List.mapIdx_cons, List.mapIdx_nil, Nat.reduceLeDiff, decide_true, decide_false, Nat.reduceAdd, Nat.zero_add, Bool.and_true, Bool.and_false, Bool.or_false, Bool.or_true, Bool.false_or, if_true, if_false, Bool.false_eq_true]
          go_wp2_with fail
          have hq3 := hq.fr ((Fr.refl (fun _ => False) W2).alloc (.cells #[.int .i64 0] 3)) (fun _ _ => id) (fun _ h => h.elim)
          refine (allI hq3.zn).mono ?_
          rintro e W' ⟨rfl, rfl⟩
          go_wp2_with fail
          have hF := ((Fr.refl (fun _ => False) W2).alloc (.cells #[.int .i64 0] 3)).alloc (.cells #[v] 39)
          have hq4 := hq.fr hF (fun _ _ => id) (fun _ h => h.elim)
          have hM4 := hM.fr hF (fun _ _ => id)
          have hn4 := blk_alloc (blk_new W2 (.cells #[.int .i64 0] 3)) (.cells #[v] 39)
          have hx4 := blk_new (W2.alloc (.cells #[.int .i64 0] 3)) (.cells #[v] 39)
          rw [World.size_alloc] at hx4
          have hS4 : ((W2.alloc (.cells #[.int .i64 0] 3)).alloc (.cells #[v] 39)).heap.size = W2.heap.size + 2 := by simp
          have hMl : ∀ D ∈ ds, D < W2.heap.size := fun D hD => hM.lt hD
          have hfl : ∀ j, Zfoot w b t v vw j → j < W2.heap.size := fun j hj => (hq.lt hj).2
          have hbse : w.heap.size ≤ W2.heap.size := hq.bl.size
          obtain ⟨nb, hnb⟩ : ∃ nb, W2.heap.size = nb := ⟨_, rfl⟩
          rw [hnb] at hn4 hx4 hS4 hMl hfl hbse ⊢
          clear hnb hF hq hM hq3
          generalize (W2.alloc (.cells #[.int .i64 0] 3)).alloc (.cells #[v] 39) = W4 at hq4 hM4 hn4 hx4 hS4 ⊢
          clear W2
          have hn1 := hg.n1
          have hKl : ∀ j, (j = nb + 1 ∨ v.ownBlock = some j) → j < nb + 2 := by
            rintro j (rfl | h)
            · omega
            · have := hfl j (.inr (.inr (.inr (.inl h)))); omega
          refine wp_rangeIt (gf := 42) rfl (enters Try.func42 rfl (by decide)) (xs := pairs (ints L)) (St := Eq) (Kp := KpZ (nb + 1) v) ?_
            (fun i W => Zq w W b t size v vw L L safe st fin ∧ W.heap[nb]? = some (.cells #[.int .i64 i] 3 (0, 0)) ∧ W.heap[nb + 1]? = some (.cells #[v] 39 (0, 0)) ∧ Marks ds W) (fun _ _ => False) ?_ ?_ ?_ ?_ ?_ ?_ ?_ ?_ ?_ ?_ ?_ ?_
          · intro x hx
            unfold pairs at hx
            obtain ⟨j, hj, rfl⟩ := List.mem_mapIdx.1 hx
            rfl
          · rintro i X Y ⟨h1, h2, h3, h4⟩ hf
            rw [hS4] at hf
            exact ⟨h1.fr hf (by rintro k hk (h | h) <;> have := hfl k hk <;> omega) (by rintro k (h | h) <;> omega), hf.heap h2 (by rintro (h | h) <;> omega), hf.heap h3 (by rintro (h | h) <;> omega), h4.fr hf (by rintro k hk (h | h) <;> have := hMl k hk <;> omega)⟩
          · intro _ _ _ h; exact h.elim
          · rintro i X Y h rfl; exact h
          · intro _ _ _ h; exact h.elim
          · rintro X Y _ rfl; exact KeepBk.refl _ _
          · rintro X Y Z' h1 h2 k hk; exact (h2 k hk).trans (h1 k hk)
          · rintro X Y h1 hf k hk
            rw [hS4] at hf h1
            have := hKl k hk
            exact hf.block _ (by omega) (by rintro (h | h) <;> omega)
          · exact ⟨hq4, by simpa using hn4, hx4, hM4⟩
          · rintro X hf hX
            exact all_iter (base := w.heap.size) (by rw [ints_length]; exact row_fr (by have := hq4.zn.row; rwa [ints_length] at this) hf (fun _ _ => id)) (by rw [ints_length]; omega) (hf.heap hx4 id)
          · intro i args X hx hI hX
            obtain ⟨h1, h2, h3, h4⟩ := hI
            unfold pairs at hx
            rw [List.getElem?_mapIdx] at hx
            obtain ⟨y, hy, rfl⟩ := Option.map_eq_some_iff.1 hx
            obtain ⟨hi, rfl⟩ := List.getElem?_eq_some_iff.1 hy
            have hiL : i < L.length := by rwa [ints_length] at hi
            have hye : (ints L)[i] = .int .i64 L[i] := by simp [ints]
            rw [hye]
            clear hx hy
            rw [zip2]
            have hfn : ∀ f, (Fence.wide.inRound (W4.heap.size + 1)).fn f := fun _ => trivial
            have hdp : (Fence.wide.inRound (W4.heap.size + 1)).depth = none := rfl
            gi_wp2_with (rw [Oper.semAt_eq _ _ _ (fun c h => by cases h)]; go_simp; try go_bits)
            refine ⟨KeepBk.refl _ _, fun X2 hf2 hs2 => ?_⟩
            rw [hS4] at hf2 hX hfn hdp
            have h1' := h1.fr hf2 (by rintro k hk (h | h) <;> have := hfl k hk <;> omega) (by rintro k (h | h) <;> omega)
            have h2' := hf2.heap h2 (by rintro (h | h) <;> omega)
            have h3' := hf2.heap h3 (by rintro (h | h) <;> omega)
            have h4' := h4.fr hf2 (by rintro k hk (h | h) <;> have := hMl k hk <;> omega)
            have hrw := h1'.row
            obtain ⟨gw, cw, rfl, hcw, -⟩ := row_cell (L := ints L) (n := L.length) hrw hi
            rw [hye] at hcw
            have ct := fun i => blk_cell h1'.tc i
            have cn := fun i => blk_cell h2' i
            have fn' := fun i => blk_frozen h2' i
            have hbeq : ∀ x : Int, (x == x) = true := fun x => by simp
            gi_wp2_with (rw [Oper.semAt_eq _ _ _ (fun c h => by cases h)]; go_simp; try go_bits)
            have hf3 := Fr.set1 X2 nb 0 (.int .i64 ((i : Int) + 1))
            refine ⟨?_, ⟨h1'.fr hf3 (fun j hj e => by have := hfl j hj; omega) (fun j e => by omega), by simpa using blk_put h2' 0 (.int .i64 ((i : Int) + 1)), hf3.heap h3' (by omega), h4'.fr hf3 (fun j hj e => by have := hMl j hj; omega)⟩, ?_⟩
            · rw [hS4]
              rintro j (rfl | rfl)
              · exact hf3.block _ (by omega) (by omega)
              · exact hf3.block _ (by omega) (by omega)
            · intro j hj
              have := hKl j hj
              have hne : j ≠ nb := by
                rcases hj with rfl | h
                · omega
                · have := hfl j (.inr (.inr (.inr (.inl h)))); omega
              exact (hf3.block _ (by omega) hne).trans (hf2.block _ (by omega) (by rintro (h | h) <;> omega))
          · intro W5 hI hd5
            obtain ⟨hq5, hn5, -, hM5⟩ := hI
            rw [show (pairs (ints L)).length = L.length by simp [pairs, ints]] at hn5
            rw [hS4] at hd5 ⊢
            obtain ⟨aw, cw, rfl⟩ := row_val hq5.row
            have g1 : decide ((L.length : Int) < safe) = false := decide_eq_false (by have := hg.s1; omega)
            go_wp2_with fail
            refine (wpIn_wide (n := 0)).1 ?_
            refine regionIn_valued (P := Try.prog) (fun q => ([.int .i64 (L.length : Int), .slice aw L.length cw, .int .i64 (L.length : Int), .bool false, .bool false, .pointer (some ⟨b, 0, none⟩), .int .i64 safe, .int .i64 (L.length : Int), .bool false, .bool false] : List Value).getD q undef) (Fr (fun _ => False) W5) rfl (by kernel_rfl) (by kernel_rfl) ((Fr.refl _ W5).drew) ?_ ?_
            · intro j o ho A Wx hW hA hdf
              rcases j with _ | _ | _ | _ | _ | _ | _ | _ | _ | _ | j
              · cases ho
                rw [if_pos (by kernel_rfl)]
                have r1 : A.tmps.getD 13 undef = .pointer (some ⟨nb, 0, none⟩) := (hA 13 (by decide)).trans (by kernel_rfl)
                have ca := fun i => blk_cell (hW.heap hn5 id) i
                refine ⟨fun f _ => trivial, ?_⟩
                rw [Oper.semAt_eq _ _ _ (fun c h => by cases h)]
                simp [execOp, Act.eval, go_sem, r1, ca]
                exact hW
              · cases ho
                rw [if_pos (by kernel_rfl)]
                have r1 : A.tmps.getD 7 undef = .pointer (some ⟨t, 0, none⟩) := (hA 7 (by decide)).trans (by kernel_rfl)
                have ca := fun i => blk_cell (hW.heap hq5.tc id) i
                refine ⟨fun f _ => trivial, ?_⟩
                rw [Oper.semAt_eq _ _ _ (fun c h => by cases h)]
                simp [execOp, Act.eval, go_sem, r1, ca]
                exact hW
              · cases ho
                rw [if_pos (by kernel_rfl)]
                have r1 : A.tmps.getD 138 undef = .slice aw L.length cw := (hA 138 (by decide)).trans (by kernel_rfl)
                refine ⟨fun f _ => trivial, ?_⟩
                rw [Oper.semAt_eq _ _ _ (fun c h => by cases h)]
                simp [execOp, Act.eval, go_sem, r1]
                exact hW
              · cases ho
                rw [if_pos (by kernel_rfl)]
                have r1 : A.tmps.getD 137 undef = .int .i64 (L.length : Int) := (hA 137 (by decide)).trans (by kernel_rfl)
                have r2 : A.tmps.getD 139 undef = .int .i64 (L.length : Int) := (hA 139 (by decide)).trans (by kernel_rfl)
                refine ⟨fun f _ => trivial, ?_⟩
                rw [Oper.semAt_eq _ _ _ (fun c h => by cases h)]
                simp [execOp, Act.eval, go_sem, r1, r2]
                exact hW
              · cases ho
                rw [if_pos (by kernel_rfl)]
                have r1 : A.tmps.getD 140 undef = .bool false := (hA 140 (by decide)).trans (by kernel_rfl)
                refine ⟨fun f _ => trivial, ?_⟩
                rw [Oper.semAt_eq _ _ _ (fun c h => by cases h)]
                simp [execOp, Act.eval, go_sem, r1]
                exact hW
              · cases ho
                rw [if_pos (by kernel_rfl)]
                have r1 : A.tmps.getD 5 undef = .pointer (some ⟨b, 0, none⟩) := (hA 5 (by decide)).trans (by kernel_rfl)
                refine ⟨fun f _ => trivial, ?_⟩
                rw [Oper.semAt_eq _ _ _ (fun c h => by cases h)]
                simp [execOp, Act.eval, go_sem, r1]
                exact hW
              · cases ho
                rw [if_pos (by kernel_rfl)]
                have r1 : A.tmps.getD 142 undef = .pointer (some ⟨b, 0, none⟩) := (hA 142 (by decide)).trans (by kernel_rfl)
                refine ⟨fun f _ => trivial, ?_⟩
                rw [Oper.semAt_eq _ _ _ (fun c h => by cases h)]
                simp [execOp, Act.eval, go_sem, r1]
                exact ⟨rfl, callsIn_wide.2 ((safeI (hq5.zn.fr hW id (fun _ _ => id))).mono (by rintro e W9 ⟨rfl, rfl⟩; exact ⟨rfl, hW⟩))⟩
              · cases ho
                rw [if_pos (by kernel_rfl)]
                have r1 : A.tmps.getD 13 undef = .pointer (some ⟨nb, 0, none⟩) := (hA 13 (by decide)).trans (by kernel_rfl)
                have ca := fun i => blk_cell (hW.heap hn5 id) i
                refine ⟨fun f _ => trivial, ?_⟩
                rw [Oper.semAt_eq _ _ _ (fun c h => by cases h)]
                simp [execOp, Act.eval, go_sem, r1, ca]
                exact hW
              · cases ho
                rw [if_pos (by kernel_rfl)]
                have r1 : A.tmps.getD 143 undef = .int .i64 safe := (hA 143 (by decide)).trans (by kernel_rfl)
                have r2 : A.tmps.getD 144 undef = .int .i64 (L.length : Int) := (hA 144 (by decide)).trans (by kernel_rfl)
                refine ⟨fun f _ => trivial, ?_⟩
                rw [Oper.semAt_eq _ _ _ (fun c h => by cases h)]
                simp [execOp, Act.eval, go_sem, r1, r2, g1]
                exact hW
              · cases ho
                rw [if_pos (by kernel_rfl)]
                have r1 : A.tmps.getD 141 undef = .bool false := (hA 141 (by decide)).trans (by kernel_rfl)
                have r2 : A.tmps.getD 145 undef = .bool false := (hA 145 (by decide)).trans (by kernel_rfl)
                refine ⟨fun f _ => trivial, ?_⟩
                rw [Oper.semAt_eq _ _ _ (fun c h => by cases h)]
                simp [execOp, Act.eval, go_sem, r1, r2]
                exact hW
              · cases ho
            · intro W6 hf6
              simp only [goV, Act.put, List.getD_cons_zero, List.getD_cons_succ, List.setIfInBounds_toArray, List.set_cons_succ, List.set_cons_zero]
              go_wp2_with fail
              refine ⟨rfl, (nb + 2) :: ds, rfl, ⟨k + 1, by omega, by show Value.int IntKind.i64 ((k : Int) + 1) = _; simp, (hM5.cons hd5 (fun hk => by have := hMl _ hk; omega)).fr hf6 (fun _ _ => id), fun D hD => by rcases List.mem_cons.1 hD with rfl | hD; omega; exact hge D hD, _, _, _, _, _, _, hq5.fr hf6 (fun _ _ => id) (fun _ h => h.elim), hg⟩, ?_⟩
              show ops.length - (intOf (.int .i64 ((k : Int) + 1))).toNat < _
              simp only [intOf]
              omega
          · intro c X hI; exact hI.elim
      · have cr := fun i => blk_cell hq.rc i
        have fr := fun i => blk_frozen hq.rc i
        go_wp2_with fail
        have hf9 := Fr.set1 W w.heap.size 0 (.bool true)
        have hne : ∀ D ∈ ds, D ≠ w.heap.size := fun D hD e => ne_obj (hM.2 D hD) hq.rc (by intro e; cases e) e
        refine marks_all ds _ (hM.fr hf9 (fun D hD e => hne D hD e)) ?_
        intro w9 hw9
        exact ⟨.bool true, resC4 rfl (blk_cell (hw9.heap (blk_put hq.rc 0 (.bool true)) (fun hk => hne _ hk rfl)) 0), rfl, (hq.bl.trans (hf9.below hq.bl.size (fun i hi => by omega))).trans (hw9.below (Nat.le_trans hq.bl.size hf9.size) (fun i hi hk => by have := hge _ hk; omega))⟩
  · refine (newI_no (by omega) _).mono ?_
    rintro e w2 ⟨rfl, rfl⟩
    have cr := fun i => blk_cell g1 i
    have fr := fun i => blk_frozen g1 i
    go_wp2_with fail
    refine marks_all [] _ (Marks.nil _) ?_
    intro w9 hw9
    have hf9 := Fr.set1 w2 w.heap.size 0 (.bool true)
    exact ⟨.bool true, resC4 rfl (blk_cell (hw9.heap (blk_put g1 0 (.bool true)) (by simp)) 0), rfl, (b1.trans (hf9.below b1.size (fun i hi => by omega))).trans (hw9.below (Nat.le_trans b1.size hf9.size) (by simp))⟩
end Go.Proofs.Ytlffjkijjggpkaa

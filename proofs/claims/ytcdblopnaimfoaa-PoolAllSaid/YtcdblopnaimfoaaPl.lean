/- The walk of the law on all pairs of a pool. No condition. -/
import Derived.Test.YtcdblopnaimfoaaP2
import Derived.Test.YtcdblopnaimfoaaArgs
namespace Go.Proofs.Ytcdblopnaimfoaa
open Go.RowKit Go.Conc

theorem resC12 {tmps : Array Value} {w : World} {b : Nat} {v : Bool} (h1 : tmps.getD 4 undef = .pointer (some ⟨b, 0, none⟩)) (h2 : w.cell? ⟨b, 0, none⟩ = some (.bool v)) : (results Try.f12 tmps).run Try.prog w = .ok (.bool v) w := by
  rw [Array.getD_eq_getD_getElem?] at h1
  simp [results, Try.f12, go_sem, h1, h2]
/-- The domain that was last. -/
def lastOf (F : List (Nat × Int)) : Nat → Int
  | 0 => -1
  | i + 1 => (F.getD i (0, 0)).1
/-- What the law keeps. -/
structure Pk (w w1 W : World) (p Dn Zn : Nat) (S B P O : Int) (l : Value) (qb qc : Nat → Nat) (C : Nat → List Int) : Prop where
  po : PoolAt w1.heap.size W p Dn Zn S B P O l qb qc C
  gg : W.heap[w.heap.size]? = some (.cells #[.int .i64 Dn, .int .i64 Zn, .int .i64 S, .int .i64 B, .int .i64 P, .int .i64 O] 42 (0, 0))
  rc : W.heap[w.heap.size + 1]? = some (.cells #[.bool false] 4 (0, 0))
  bl : Below w.heap.size w W
  ws : w.heap.size + 2 ≤ w1.heap.size
section
variable {w w1 W W' : World} {p Dn Zn : Nat} {S B P O : Int} {l : Value} {qb qc : Nat → Nat} {C C' : Nat → List Int}
theorem Pk.turn (h : Pk w w1 W p Dn Zn S B P O l qb qc C) (hp : PoolAt w1.heap.size W' p Dn Zn S B P O l qb qc C') (hf : Fr (Chs Dn qc) W W') : Pk w w1 W' p Dn Zn S B P O l qb qc C' :=
  ⟨hp, hf.heap h.gg (h.po.nch h.gg), hf.heap h.rc (h.po.nch h.rc), h.bl.trans (hf.below h.bl.size (fun i hi hk => by obtain ⟨d, hd, rfl⟩ := hk; have := (h.po.bq d hd).2; have := h.ws; omega)), h.ws⟩
theorem Pk.fr0 (h : Pk w w1 W p Dn Zn S B P O l qb qc C) (hf : Fr (fun _ => False) W W') : Pk w w1 W' p Dn Zn S B P O l qb qc C := h.turn (h.po.fr0 hf) (hf.mono (fun _ _ h => h.elim))
end

set_option linter.unusedSimpArgs false in
set_option linter.unusedVariables false in
set_option maxRecDepth 100000 in
set_option maxHeartbeats 8000000 in
theorem poolAll_walk (w : World) (D Z S B P O : Int) (v : Value) (zs : List Int) (hm : zs.length ≤ maxLen) (hs : Sl1 w w.heap.size v (zs.map (.int .i64))) :
    Calls Try.prog 12 #[.agg #[.int .i64 D, .int .i64 Z, .int .i64 S, .int .i64 B, .int .i64 P, .int .i64 O], v] w fun e w' => e = .returned (.bool true) ∧ Below w.heap.size w w' := by
  obtain ⟨a, cap0, rfl, hc⟩ := hs
  rw [List.length_map]
  have HC := Lib.hid hc
  clear hc
  have hF0 := ((Fr.refl (fun _ => False) w).alloc (.cells #[.int .i64 D, .int .i64 Z, .int .i64 S, .int .i64 B, .int .i64 P, .int .i64 O] 42)).alloc (.cells #[.bool false] 4)
  have g0 := blk_alloc (blk_new w (.cells #[.int .i64 D, .int .i64 Z, .int .i64 S, .int .i64 B, .int .i64 P, .int .i64 O] 42)) (.cells #[.bool false] 4)
  have r0 := blk_new (w.alloc (.cells #[.int .i64 D, .int .i64 Z, .int .i64 S, .int .i64 B, .int .i64 P, .int .i64 O] 42)) (.cells #[.bool false] 4)
  rw [World.size_alloc] at r0
  have hs0 : ((w.alloc (.cells #[.int .i64 D, .int .i64 Z, .int .i64 S, .int .i64 B, .int .i64 P, .int .i64 O] 42)).alloc (.cells #[.bool false] 4)).heap.size = w.heap.size + 2 := by simp
  refine calls_of_marks Try.func12 rfl ?_
  simp only [Try.ntmps12, List.size_toArray, List.length_cons, List.length_nil, Nat.reduceAdd, Nat.reduceSub, Array.replicate_succ, Array.replicate_zero, List.push_toArray, List.append_toArray, List.nil_append, List.cons_append]
  go_wp2_with fail
  generalize (w.alloc (.cells #[.int .i64 D, .int .i64 Z, .int .i64 S, .int .i64 B, .int .i64 P, .int .i64 O] 42)).alloc (.cells #[.bool false] 4) = w0 at hF0 g0 r0 hs0 ⊢
  refine (anchor10 w0).mono ?_
  rintro e w1 ⟨rfl, hb⟩
  have f1 := Fr.of_below (S := fun _ => False) hb
  have g1 := f1.heap g0 id
  have r1 := f1.heap r0 id
  have b1 := (hF0.below (Nat.le_refl _) (fun _ _ => id)).trans (hb.mono (by omega))
  have hs1 : w.heap.size + 2 ≤ w1.heap.size := by have := hb.size; omega
  clear hb f1 hF0 g0 r0 hs0 w0
  have c1 := fun i => blk_cell g1 i
  cases hr : rightB D Z S B P O with
  | false =>
    have hst := fun V => started_no hr V
    have hR := fun V => PGeomRight.geom_Geom_Right.calls D Z S B P O false V (by rw [right_eq, hr])
    have HST := Lib.hid hst
    have HR := Lib.hid hR
    clear hst hR hr
    go_wp2_with fail
    refine (HST.out w1).mono ?_
    rintro e w2 ⟨rfl, f2⟩
    have g2 := f2.heap g1 id
    have r2 := f2.heap r1 id
    have c2 := fun o i => blk_cell (blk_alloc g2 o) i
    go_wp2_with fail
    refine (HR.out _).mono ?_
    rintro e w3 ⟨rfl, b3⟩
    have F3 := (f2.alloc (.cells #[.int .i64 0, .int .i64 0, .slice none 0 0] 70)).trans (Fr.of_below (S := fun _ => False) b3) (fun _ _ h => h)
    have r3 := F3.heap r1 id
    have cr := fun i => blk_cell r3 i
    have fr := fun i => blk_frozen r3 i
    go_wp2_with fail
    have F4 := Fr.set1 w3 (w.heap.size + 1) 0 (.bool true)
    have bb := (b1.trans (F3.below b1.size (fun _ _ => id))).trans (F4.below (Nat.le_trans b1.size F3.size) (fun i hi e => by omega))
    refine marks_all [] _ (Marks.nil _) ?_
    intro w9 hw9
    exact ⟨.bool true, resC12 rfl (blk_cell (hw9.heap (by simpa using blk_put r3 0 (.bool true)) (by simp)) 0), rfl, bb.trans (hw9.below bb.size (by simp))⟩
  | true =>
    have hSm := (rightB_iff.1 hr).1
    obtain ⟨Dn, rfl⟩ := Int.eq_ofNat_of_zero_le (by have := hSm.d0; omega : 0 ≤ D)
    obtain ⟨Zn, rfl⟩ := Int.eq_ofNat_of_zero_le (by have := hSm.z0; omega : 0 ≤ Z)
    have hst := fun V => started_ok hSm hr V
    have hR := fun V => PGeomRight.geom_Geom_Right.calls Dn Zn S B P O true V (by rw [right_eq, hr])
    have hdi := fun z V => domainI hSm z V
    have HST := Lib.hid hst
    have HR := Lib.hid hR
    have HDI := Lib.hid hdi
    clear hst hR hdi hr
    go_wp2_with fail
    refine (HST.out w1).mono ?_
    rintro e w2 ⟨p, l, qb, qc, rfl, h2, b2⟩
    have f2 := Fr.of_below (S := fun _ => False) b2
    have g2 := f2.heap g1 id
    have r2 := f2.heap r1 id
    have c2 := fun o i => blk_cell (blk_alloc g2 o) i
    have bb2 := b1.trans (b2.mono (by omega))
    have hs2 := b2.size
    by_cases hl : 100 < zs.length
    · go_wp2_with fail
      refine (HR.out _).mono ?_
      rintro e w3 ⟨rfl, b3⟩
      have F3 := ((Fr.refl (fun _ => False) w2).alloc (.cells #[.int .i64 Dn, .int .i64 Zn, .slice none 0 0] 70)).trans (Fr.of_below (S := fun _ => False) b3) (fun _ _ h => h)
      have r3 := F3.heap r2 id
      have cr := fun i => blk_cell r3 i
      have fr := fun i => blk_frozen r3 i
      go_wp2_with fail
      have F4 := Fr.set1 w3 (w.heap.size + 1) 0 (.bool true)
      have bb := (bb2.trans (F3.below bb2.size (fun _ _ => id))).trans (F4.below (Nat.le_trans bb2.size F3.size) (fun i hi e => by omega))
      refine marks_all [] _ (Marks.nil _) ?_
      intro w9 hw9
      exact ⟨.bool true, resC12 rfl (blk_cell (hw9.heap (by simpa using blk_put r3 0 (.bool true)) (by simp)) 0), rfl, bb.trans (hw9.below bb.size (by simp))⟩
    · go_wp2_with fail
      have hpk : Pk w w1 (w2.alloc (.cells #[.int .i64 Dn, .int .i64 Zn, .slice none 0 0] 70)) p Dn Zn S B P O l qb qc (fun _ => []) :=
        ⟨h2.fr0 ((Fr.refl (fun _ => False) w2).alloc _), blk_alloc g2 _, blk_alloc r2 _, bb2.alloc bb2.size _, hs1⟩
      generalize w2.alloc (.cells #[.int .i64 Dn, .int .i64 Zn, .slice none 0 0] 70) = w3 at hpk ⊢
      clear c1 c2 g1 g2 r1 r2 f2 h2 bb2 hs2 b2 b1
      refine wp_loop_P (ds0 := []) (fun t => (decide (8 ≤ t) && decide (t ≤ 10)) || (decide (46 ≤ t) && decide (t ≤ 56)))
        (fun u ds W => ∃ (k : Nat) (C : Nat → List Int), k ≤ zs.length ∧ u 46 = .int .i64 k ∧ u 8 = .int .i64 (sumP C Dn) ∧ ds = [] ∧ Pk w w1 W p Dn Zn S B P O l qb qc C ∧ sumP C Dn ≤ k) (fun u _ => zs.length - (intOf (u 46)).toNat)
        ⟨0, _, by omega, rfl, by rw [show sumP (fun _ => []) Dn = 0 from by have := sumP_only (fun _ => []) (a := Dn) Dn (fun _ _ _ => rfl); rw [this]; simp]; rfl, rfl, hpk, by rw [show sumP (fun _ => []) Dn = 0 from by have := sumP_only (fun _ => []) (a := Dn) Dn (fun _ _ _ => rfl); rw [this]; simp]; simp⟩ ?_
      clear hpk
      intro u ds W hrel
      obtain ⟨k, C, hk, h46, h8, rfl, hq, hsk⟩ := hrel
      simp only [mixP, List.mapIdx_cons, List.mapIdx_nil, Nat.reduceLeDiff, decide_true, decide_false, Nat.reduceAdd, Nat.zero_add, Bool.and_true, Bool.and_false, Bool.true_and, Bool.false_and, Bool.or_false, Bool.or_true, Bool.false_or, Bool.true_or, if_true, if_false, Bool.false_eq_true, h46, h8]
      clear h46 h8
      have hdz := hq.po.dz
      have hs0 := sumP_nonneg C Dn
      by_cases hlt : k < zs.length
      · obtain ⟨bb, o, rfl, hbl, hcell⟩ := HC.out (List.ne_nil_of_length_pos (by rw [List.length_map]; omega))
        have hcc : W.cell? ⟨bb, o + k, none⟩ = some (.int .i64 zs[k]) := (World.cell?_of_block (hq.bl.block bb hbl)).trans (by have := hcell k (by simpa using hlt); simpa using this)
        clear hcell
        generalize zs[k] = z at hcc
        obtain ⟨n, hn⟩ : ∃ n, sumP C Dn = n := ⟨_, rfl⟩
        rw [hn] at hs0 hsk
        try rw [hn]
        have HN := Lib.hid hn
        clear hn
        go_wp2_with fail
        by_cases hdn : domP Dn Zn z < 0
        · refine (give_out hq.po hdn).mono ?_
          rintro e w4 ⟨rfl, f4⟩
          have hq4 := hq.fr0 f4
          go_wp2_with fail
          refine ⟨rfl, [], rfl, ⟨k + 1, C, by omega, by show Value.int IntKind.i64 ((k : Int) + 1) = _; simp, by rw [HN.out]; rfl, rfl, hq4, by rw [HN.out]; omega⟩, ?_⟩
          show zs.length - (intOf (.int .i64 ((k : Int) + 1))).toNat < _
          simp only [intOf]
          omega
        · obtain ⟨d, hd, hdd, hz1, hz2⟩ := dom_of hq.po (z := z) (by omega)
          cases ht : hasB C Dn z with
          | true =>
            refine (give_twice hq.po hdd ht).mono ?_
            rintro e w4 ⟨rfl, hp4, f4⟩
            have hq4 := hq.turn hp4 f4
            clear hdd ht
            go_wp2_with fail
            refine ⟨rfl, [], rfl, ⟨k + 1, C, by omega, by show Value.int IntKind.i64 ((k : Int) + 1) = _; simp, by rw [HN.out]; rfl, rfl, hq4, by rw [HN.out]; omega⟩, ?_⟩
            show zs.length - (intOf (.int .i64 ((k : Int) + 1))).toNat < _
            simp only [intOf]
            omega
          | false =>
            refine (give_ok hq.po hd hdd hz1 hz2 ht).mono ?_
            rintro e w4 ⟨rfl, hp4, f4⟩
            have hq4 := hq.turn hp4 f4
            have e1 : sumP (setC C d (C d ++ [z])) Dn = n + 1 := by rw [sumP_set, if_pos hd, HN.out]; simp; omega
            have E1 := Lib.hid e1
            clear hdd ht e1
            go_wp2_with fail
            refine ⟨rfl, [], rfl, ⟨k + 1, _, by omega, by show Value.int IntKind.i64 ((k : Int) + 1) = _; simp, by rw [E1.out]; rfl, rfl, hq4, by rw [E1.out]; omega⟩, ?_⟩
            show zs.length - (intOf (.int .i64 ((k : Int) + 1))).toNat < _
            simp only [intOf]
            omega
      · have hpc := pairs_calls hq.po
        have hp0 : 0 ≤ pairsP Dn C ∧ pairsP Dn C ≤ 600 := by
          have := cntP_b hq.po (fullP C (-1) Dn)
          have h3 := sumP_b hq.po Dn (Nat.le_refl _)
          have h4 : cntP Dn C (fullP C (-1) Dn) ≤ sumP C Dn := by
            rcases fullP_max C (-1) Dn with ⟨g1, g2⟩ | ⟨a, g1, g2, g3, g4, g5⟩
            · rw [g1, cntP, if_neg (by omega)]; omega
            · rw [g1, cntP, if_pos (by omega), Int.toNat_natCast]; exact sumP_one C Dn g2
          unfold pairsP
          split <;> omega
        obtain ⟨m, hm2⟩ := Int.eq_ofNat_of_zero_le hp0.1
        rw [hm2] at hpc hp0
        have HM := Lib.hid hm2
        clear hm2
        obtain ⟨n, hn⟩ : ∃ n, sumP C Dn = n := ⟨_, rfl⟩
        rw [hn] at hs0 hsk
        try rw [hn]
        have HN := Lib.hid hn
        clear hn
        go_wp2_with fail
        refine hpc.mono ?_
        rintro e w4 ⟨rfl, f4⟩
        have hq4 := hq.fr0 f4
        clear hpc f4 hq
        go_wp2_with fail
        refine wp_loop_P (ds0 := []) (fun t => (decide (8 ≤ t) && decide (t ≤ 8)) || ((decide (12 ≤ t) && decide (t ≤ 14)) || (decide (60 ≤ t) && decide (t ≤ 91))))
          (fun u ds W => ∃ (j : Nat) (C : Nat → List Int), j ≤ m ∧ u 60 = .int .i64 j ∧ u 8 = .int .i64 (sumP C Dn) ∧ ds = [] ∧ Pk w w1 W p Dn Zn S B P O l qb qc C ∧ pairsP Dn C = (m : Int) - j) (fun u _ => m - (intOf (u 60)).toNat)
          ⟨0, C, by omega, rfl, by rw [HN.out]; rfl, rfl, hq4, by rw [HM.out]; simp⟩ ?_
        clear hq4 HN HM hs0 hsk w4
        intro u ds W hrel
        obtain ⟨j, C, hj, h60, h8, rfl, hq, hpm⟩ := hrel
        simp only [mixP, List.mapIdx_cons, List.mapIdx_nil, Nat.reduceLeDiff, decide_true, decide_false, Nat.reduceAdd, Nat.zero_add, Bool.and_true, Bool.and_false, Bool.true_and, Bool.false_and, Bool.or_false, Bool.or_true, Bool.false_or, Bool.true_or, if_true, if_false, Bool.false_eq_true, h60, h8]
        clear h60 h8
        have hsb := sumP_b hq.po Dn (Nat.le_refl _)
        by_cases hjm : j < m
        · obtain ⟨a2, b2, ha, hb, hba, hfa, hfb, hna, hnb, hm1, hm2⟩ := pairs_two C (n := Dn) (by omega)
          obtain ⟨x, ta, hca⟩ : ∃ x ta, C a2 = x :: ta := by
            cases h : C a2 with
            | nil => exact absurd h hna
            | cons x t => exact ⟨x, t, rfl⟩
          obtain ⟨y, tb, hcb⟩ : ∃ y tb, C b2 = y :: tb := by
            cases h : C b2 with
            | nil => exact absurd h hnb
            | cons x t => exact ⟨x, t, rfl⟩
          have hless := pairs_less C ha hb hba hm1 hm2 hca hcb
          have hpr := pair_some hq.po (by omega) ha hb hba hfa hfb hca hcb
          have za := hq.po.zn a2 ha
          have zb := hq.po.zn b2 hb
          rw [hca] at za
          rw [hcb] at zb
          have dx := dom_at hq.po ha (za.2 x (by simp)).1 (za.2 x (by simp)).2
          have dy := dom_at hq.po hb (zb.2 y (by simp)).1 (zb.2 y (by simp)).2
          have hdx := fun V => HDI.out x V
          have hdy := fun V => HDI.out y V
          rw [dx] at hdx
          rw [dy] at hdy
          have nx : x ∉ setC (setC C a2 ta) b2 tb a2 := by rw [setC_other _ _ (Ne.symm hba), setC_same]; exact (List.nodup_cons.1 za.1).1
          have ny : y ∉ setC (setC C a2 ta) b2 tb b2 := by rw [setC_same]; exact (List.nodup_cons.1 zb.1).1
          have HL := Lib.hid hless
          have HPM := Lib.hid hpm
          have DX := Lib.hid dx
          have DY := Lib.hid dy
          have NX := Lib.hid nx
          have NY := Lib.hid ny
          have HDX := Lib.hid hdx
          have HDY := Lib.hid hdy
          obtain ⟨n, hn⟩ : ∃ n, sumP C Dn = n := ⟨_, rfl⟩
          rw [hn] at hsb
          try rw [hn]
          have HN := Lib.hid hn
          clear hless hpm hfa hfb hna hnb hm1 hm2 hca hcb za zb dx dy nx ny hdx hdy hn
          have hw : IntKind.i64.wrap (n - 2) = n - 2 := IntWalk.i64_in _ (by omega)
          go_wp2_with fail
          refine hpr.mono ?_
          rintro e w5 ⟨rfl, hp5, f5⟩
          have hq5 := hq.turn hp5 f5
          have hx5 : hasB (setC (setC C a2 ta) b2 tb) Dn x = false := by
            cases h : hasB (setC (setC C a2 ta) b2 tb) Dn x with
            | false => rfl
            | true => exact absurd ((hasB_at hp5 ha DX.out).1 h) NX.out
          have hy5 : hasB (setC (setC C a2 ta) b2 tb) Dn y = false := by
            cases h : hasB (setC (setC C a2 ta) b2 tb) Dn y with
            | false => rfl
            | true => exact absurd ((hasB_at hp5 hb DY.out).1 h) NY.out
          clear hpr f5 hq
          have HX5 := Lib.hid hx5
          have HY5 := Lib.hid hy5
          clear hx5 hy5
          have hab : ((a2 : Int) == (b2 : Int)) = false := by simp; omega
          have hab2 : ¬ ((a2 : Int) = (b2 : Int)) := by omega
          have hab3 : ¬ (a2 = b2) := by omega
          go_wp2_with fail
          refine (wpIn_wide (n := 0)).1 ?_
          refine regionIn_seq (fun _ V => Pk w w1 V p Dn Zn S B P O l qb qc (setC (setC C a2 ta) b2 tb)) rfl (by kernel_rfl) (by kernel_rfl) (by kernel_rfl) (fun _ => trivial) rfl (hq5.fr0 (Fr.refl _ _).drew) ?_
          iterate 5
            apply SeqR.step
            · rfl
            · intro d V hV ht
              have cg := fun i => blk_cell hV.gg i
              simp [Oper.gives, execOp, Act.eval, go_sem, cg, hab, hab2, hab3]
              exact ⟨rfl, hV⟩
            simp only [Act.put, List.setIfInBounds_toArray, List.set_cons_succ, List.set_cons_zero]
          iterate 1
            apply SeqR.step
            · rfl
            · intro d V hV ht
              have cg := fun i => blk_cell hV.gg i
              have hc := HDX.out V
              simp [Oper.gives, execOp, Act.eval, go_sem, cg, hab, hab2, hab3]
              refine callsIn_wide.2 (hc.mono ?_); rintro e W9 ⟨rfl, hb⟩; exact ⟨_, rfl, rfl, hV.fr0 (Fr.of_below (S := fun _ => False) hb)⟩
            simp only [Act.put, List.setIfInBounds_toArray, List.set_cons_succ, List.set_cons_zero]
          iterate 2
            apply SeqR.step
            · rfl
            · intro d V hV ht
              have cg := fun i => blk_cell hV.gg i
              simp [Oper.gives, execOp, Act.eval, go_sem, cg, hab, hab2, hab3]
              exact ⟨rfl, hV⟩
            simp only [Act.put, List.setIfInBounds_toArray, List.set_cons_succ, List.set_cons_zero]
          iterate 1
            apply SeqR.step
            · rfl
            · intro d V hV ht
              have cg := fun i => blk_cell hV.gg i
              have hc := HDY.out V
              simp [Oper.gives, execOp, Act.eval, go_sem, cg, hab, hab2, hab3]
              refine callsIn_wide.2 (hc.mono ?_); rintro e W9 ⟨rfl, hb⟩; exact ⟨_, rfl, rfl, hV.fr0 (Fr.of_below (S := fun _ => False) hb)⟩
            simp only [Act.put, List.setIfInBounds_toArray, List.set_cons_succ, List.set_cons_zero]
          iterate 5
            apply SeqR.step
            · rfl
            · intro d V hV ht
              have cg := fun i => blk_cell hV.gg i
              simp [Oper.gives, execOp, Act.eval, go_sem, cg, hab, hab2, hab3]
              exact ⟨rfl, hV⟩
            simp only [Act.put, List.setIfInBounds_toArray, List.set_cons_succ, List.set_cons_zero]
          iterate 1
            apply SeqR.step
            · rfl
            · intro d V hV ht
              have cg := fun i => blk_cell hV.gg i
              have hc := has_calls hV.po x
              rw [HX5.out] at hc
              simp [Oper.gives, execOp, Act.eval, go_sem, cg, hab, hab2, hab3]
              refine callsIn_wide.2 (hc.mono ?_); rintro e W9 ⟨rfl, hp9, hf9⟩; exact ⟨_, rfl, rfl, hV.turn hp9 hf9⟩
            simp only [Act.put, List.setIfInBounds_toArray, List.set_cons_succ, List.set_cons_zero]
          iterate 4
            apply SeqR.step
            · rfl
            · intro d V hV ht
              have cg := fun i => blk_cell hV.gg i
              simp [Oper.gives, execOp, Act.eval, go_sem, cg, hab, hab2, hab3]
              exact ⟨rfl, hV⟩
            simp only [Act.put, List.setIfInBounds_toArray, List.set_cons_succ, List.set_cons_zero]
          iterate 1
            apply SeqR.step
            · rfl
            · intro d V hV ht
              have cg := fun i => blk_cell hV.gg i
              have hc := has_calls hV.po y
              rw [HY5.out] at hc
              simp [Oper.gives, execOp, Act.eval, go_sem, cg, hab, hab2, hab3]
              refine callsIn_wide.2 (hc.mono ?_); rintro e W9 ⟨rfl, hp9, hf9⟩; exact ⟨_, rfl, rfl, hV.turn hp9 hf9⟩
            simp only [Act.put, List.setIfInBounds_toArray, List.set_cons_succ, List.set_cons_zero]
          iterate 1
            apply SeqR.step
            · rfl
            · intro d V hV ht
              have cg := fun i => blk_cell hV.gg i
              simp [Oper.gives, execOp, Act.eval, go_sem, cg, hab, hab2, hab3]
              exact ⟨rfl, hV⟩
            simp only [Act.put, List.setIfInBounds_toArray, List.set_cons_succ, List.set_cons_zero]
          refine SeqR.nil fun V hV => ?_
          go_wp2_with fail
          refine ⟨rfl, [], rfl, ⟨j + 1, _, by omega, by show Value.int IntKind.i64 ((j : Int) + 1) = _; simp, by rw [HL.out.2, HN.out]; rfl, rfl, hV, by rw [HL.out.1, HPM.out]; omega⟩, ?_⟩
          show m - (intOf (.int .i64 ((j : Int) + 1))).toNat < _
          simp only [intOf]
          omega
        · have hp0 : pairsP Dn C = 0 := by omega
          have HP0 := Lib.hid hp0
          obtain ⟨n, hn⟩ : ∃ n, sumP C Dn = n := ⟨_, rfl⟩
          rw [hn] at hsb
          try rw [hn]
          have HN := Lib.hid hn
          clear hpm hp0 hn
          go_wp2_with fail
          have hF := ((Fr.refl (fun _ => False) W).alloc (.cells #[.int .i64 0] 3)).alloc (.cells #[.int .i64 (-1)] 3)
          have gl := blk_alloc (blk_new W (.cells #[.int .i64 0] 3)) (.cells #[.int .i64 (-1)] 3)
          have gk := blk_new (W.alloc (.cells #[.int .i64 0] 3)) (.cells #[.int .i64 (-1)] 3)
          rw [World.size_alloc] at gk
          have hS : ((W.alloc (.cells #[.int .i64 0] 3)).alloc (.cells #[.int .i64 (-1)] 3)).heap.size = W.heap.size + 2 := by simp
          have hq4 := hq.fr0 hF
          have hfl : ∀ k, PFoot p Dn l qb qc k → k < W.heap.size := fun k hk => (hq.po.lt hk).2
          have hw2 : w.heap.size + 2 ≤ W.heap.size := by have := blk_lt hq.rc; have := hq.po.lt (k := p) (.inl rfl); have := hq.ws; omega
          obtain ⟨nb, hnb⟩ : ∃ nb, W.heap.size = nb := ⟨_, rfl⟩
          rw [hnb] at gl gk hS hfl hw2
          try rw [hnb]
          generalize (W.alloc (.cells #[.int .i64 0] 3)).alloc (.cells #[.int .i64 (-1)] 3) = W4 at hq4 gl gk hS ⊢
          clear hnb hF hq W
          refine (allP p W4).mono ?_
          rintro e W5 ⟨rfl, rfl⟩
          have hF5 := (Fr.refl (fun _ => False) W4).alloc (.cells #[.pointer (some ⟨p, 0, none⟩)] 68)
          have gx := blk_new W4 (.cells #[.pointer (some ⟨p, 0, none⟩)] 68)
          replace gl := hF5.heap gl id
          replace gk := hF5.heap gk id
          have hq5 := hq4.fr0 hF5
          have hS5 : (W4.alloc (.cells #[.pointer (some ⟨p, 0, none⟩)] 68)).heap.size = nb + 3 := by rw [World.size_alloc, hS]
          rw [hS] at gx ⊢
          generalize W4.alloc (.cells #[.pointer (some ⟨p, 0, none⟩)] 68) = W5 at hq5 gl gk gx hS5 ⊢
          clear hF5 hq4 hS W4
          have hch : ∀ k, Chs Dn qc k → k < nb := by rintro k ⟨d, hd, rfl⟩; exact hfl _ (.inr (.inr ⟨d, hd, .inr rfl⟩))
          have hone : ∀ i (hi : i < (flat C Dn).length), ∀ j2 (hj2 : j2 < (flat C Dn).length), (flat C Dn)[i].1 = (flat C Dn)[j2].1 := fun i hi j2 hj2 => by
            have m1 := (mem_flat C _ Dn).1 (List.getElem_mem hi)
            have m2 := (mem_flat C _ Dn).1 (List.getElem_mem hj2)
            exact pairs_zero C HP0.out m1.1 m2.1 (List.ne_nil_of_mem m1.2) (List.ne_nil_of_mem m2.2)
          have HO := Lib.hid hone
          clear hone
          go_wp2_with fail
          refine wp_rangeM2 (gf := 65) rfl (enters Try.func65 rfl (by decide)) (xs := pre C Dn) (St := StP (nb + 5) Dn qc) (fun k => k = nb ∨ k = nb + 1) (Chs Dn qc)
            (fun i W => W.heap[nb]? = some (.cells #[.int .i64 i] 3 (0, 0)) ∧ W.heap[nb + 1]? = some (.cells #[.int .i64 (lastOf (flat C Dn) i)] 3 (0, 0)) ∧ Waits W Dn Zn qc C)
            (fun c W => False) ?_ ?_ ?_ ?_ ?_ ?_ ?_ ?_ ?_ ?_ ?_ ?_ ?_
          · intro x hx
            rw [pre_eq] at hx
            obtain ⟨q, hq, rfl⟩ := List.mem_map.1 hx
            rfl
          · intro k hk; omega
          · intro k hk; have := hch k hk; omega
          · rintro i X Y ⟨a1, a2, a3⟩ hk
            exact ⟨(hk _ (.inl (.inl rfl))).trans a1, (hk _ (.inl (.inr rfl))).trans a2, a3.same (fun k h => hk k (.inr h))⟩
          · intro _ _ _ h; exact h.elim
          · rintro X Y hst
            exact hst.1.mono (fun k _ e => by rcases e with ⟨d, hd, e⟩ | e; exact .inl ⟨d, hd, e⟩; exact .inr (by omega))
          · rintro i X Y ⟨a1, a2, a3⟩ hst
            exact ⟨hst.1.heap a1 (by rintro (e | e); have := hch _ e; omega; omega), hst.1.heap a2 (by rintro (e | e); have := hch _ e; omega; omega), a3.st hst⟩
          · intro _ _ _ h; exact h.elim
          · exact ⟨gl, gk, hq5.po.waits⟩
          · intro X hf hs
            rw [hS5] at hs ⊢
            exact all_iterP (hq5.po.fr0 hf) (hf.heap gx id) (by omega) (fun d hd => by have := hch _ ⟨d, hd, rfl⟩; omega) _ (fun k hk => by
              refine ⟨by rcases hk with (hk | hk) | hk | hk <;> omega, fun h => ?_⟩
              have := hfl k h
              rcases hk with (hk | hk) | hk | hk <;> omega)
          · intro i args X hx
            rw [pre_eq, List.getElem?_map] at hx
            obtain ⟨q, hq, rfl⟩ := Option.map_eq_some_iff.1 hx
            obtain ⟨hi, hqe⟩ := List.getElem?_eq_some_iff.1 hq
            unfold encP
            rw [zip2]
            clear hx hq
            have hfn : ∀ f, (Fence.wide.inRound (W5.heap.size + 1)).fn f := fun _ => trivial
            have hdp : (Fence.wide.inRound (W5.heap.size + 1)).depth = none := rfl
            gi_wp2_with (rw [Oper.semAt_eq _ _ _ (fun c h => by cases h)]; go_simp; try go_bits)
            refine ⟨rfl, fun X2 hF hJ hs => ?_⟩
            rw [hS5] at hs hfn hdp ⊢
            obtain ⟨a1, a2, a3⟩ := hJ
            have A3 := Lib.hid a3
            have HQ := Lib.hid hqe
            clear a3 hqe
            have e1 : lastOf (flat C Dn) (i + 1) = q.1 := by
              show (((flat C Dn).getD i (0, 0)).1 : Int) = q.1
              rw [List.getD_eq_getElem?_getD, List.getElem?_eq_getElem hi, HQ.out]; rfl
            have E1 := Lib.hid e1
            clear e1
            have fin : ∀ (act : Act), rPostF (fun k => k = nb ∨ k = nb + 1) (fun i W => W.heap[nb]? = some (.cells #[.int .i64 i] 3 (0, 0)) ∧ W.heap[nb + 1]? = some (.cells #[.int .i64 (lastOf (flat C Dn) i)] 3 (0, 0)) ∧ Waits W Dn Zn qc C) (fun c W => False) i X2 .normal act ((X2.setCell ⟨nb + 1, 0, none⟩ (.int .i64 (q.1 : Int))).setCell ⟨nb, 0, none⟩ (.int .i64 ((i : Int) + 1))) := fun _ => by
              have f1 := Fr.set1 X2 (nb + 1) 0 (.int .i64 (q.1 : Int))
              have f2 := Fr.set1 (X2.setCell ⟨nb + 1, 0, none⟩ (.int .i64 (q.1 : Int))) nb 0 (.int .i64 ((i : Int) + 1))
              refine ⟨(f1.mono (fun _ _ e => .inr e)).trans f2 (fun _ _ e => .inl e), by simpa using blk_put (f1.heap a1 (by omega)) 0 (.int .i64 ((i : Int) + 1)), ?_, A3.out.same (fun k hk => ?_)⟩
              · rw [E1.out]
                exact f2.heap (by simpa using blk_put a2 0 (.int .i64 (q.1 : Int))) (by omega)
              · have := hch k hk
                exact (f2.block k (by have := f1.size; omega) (by omega)).trans (f1.block k (by omega) (by omega))
            have hwi : wrap64 ((i : Int) + 1) = (i : Int) + 1 := by
              have h1 := flat_len C Dn
              rw [HN.out] at h1
              unfold wrap64
              omega
            have HWI := Lib.hid hwi
            clear hwi
            have FIN := Lib.hid fin
            clear fin
            have ca := fun i => blk_cell a1 i
            have cb := fun i => blk_cell a2 i
            have fa := fun i => blk_frozen a1 i
            have fb := fun i => blk_frozen a2 i
            have f1 := Fr.set1 X2 (nb + 1) 0 (.int .i64 (q.1 : Int))
            have a1' := f1.heap a1 (by omega)
            have ca' := fun i => blk_cell a1' i
            have fa' := fun i => blk_frozen a1' i
            by_cases hi0 : i = 0
            · subst hi0
              gi_wp2_with (rw [Oper.semAt_eq _ _ _ (fun c h => by cases h)]; go_simp; try go_bits)
              exact FIN.out _
            · have e2 : lastOf (flat C Dn) i = q.1 := by
                obtain ⟨i', rfl⟩ : ∃ i', i = i' + 1 := ⟨i - 1, by omega⟩
                show (((flat C Dn).getD i' (0, 0)).1 : Int) = q.1
                rw [List.getD_eq_getElem?_getD, List.getElem?_eq_getElem (show i' < (flat C Dn).length by omega), ← HQ.out]
                show (((flat C Dn)[i']).1 : Int) = _
                rw [HO.out i' (by omega) (i' + 1) hi]
              rw [e2] at cb
              clear e2
              have hi1 : 0 < i := by omega
              have hqq : ((q.1 : Int) != (q.1 : Int)) = false := by simp
              gi_wp2_with (rw [Oper.semAt_eq _ _ _ (fun c h => by cases h)]; go_simp; try go_bits)
              rw [HWI.out]; exact FIN.out _
          · rintro X hF ⟨a1, a2, a3⟩ hm9
            rw [show (pre C Dn).length = (flat C Dn).length by rw [pre_eq, List.length_map], flat_len] at a1
            rw [hS5] at hm9 ⊢
            have hpo : PoolAt w1.heap.size X p Dn Zn S B P O l qb qc C := hq5.po.ofch hF (fun k e => by
              rcases e with e | e
              · exact .inr (fun h => by have := hfl k h; omega)
              · exact .inl e) a3
            have hqX : Pk w w1 X p Dn Zn S B P O l qb qc C := ⟨hpo, hF.heap hq5.gg (by rintro (e | e); omega; exact hq5.po.nch hq5.gg e), hF.heap hq5.rc (by rintro (e | e); omega; exact hq5.po.nch hq5.rc e),
              hq5.bl.trans (hF.below hq5.bl.size (fun i hi e => by rcases e with e | e; omega; obtain ⟨d, hd, rfl⟩ := e; have := (hq5.po.bq d hd).2; have := hq5.ws; omega)), hq5.ws⟩
            rw [HN.out] at a1
            have hpn := pair_none hpo HP0.out
            have hpz := pairs_calls hpo
            rw [HP0.out] at hpz
            clear a2 a3 hpo hpz
            go_wp2_with fail
            refine hpn.mono ?_
            rintro e Y ⟨rfl, fY⟩
            have hqY := hqX.fr0 fY
            have a1Y := fY.heap a1 id
            have hmY := fY.heap hm9 id
            have hpz := pairs_calls hqY.po
            rw [HP0.out] at hpz
            have ca := fun i => blk_cell a1Y i
            have hnn : (n == n) = true := by simp
            clear hpn
            go_wp2_with fail
            refine hpz.mono ?_
            rintro e Y2 ⟨rfl, fY2⟩
            have hqY2 := hqY.fr0 fY2
            have hmY2 := fY2.heap hmY id
            have cr := fun i => blk_cell hqY2.rc i
            have fr := fun i => blk_frozen hqY2.rc i
            clear hpz
            go_wp2_with fail
            have F9 := Fr.set1 Y2 (w.heap.size + 1) 0 (.bool true)
            have bb := hqY2.bl.trans (F9.below hqY2.bl.size (fun i hi e => by omega))
            refine marks_all [nb + 3] _ ((Marks.nil _).cons (F9.heap hmY2 (by omega)) (by simp)) ?_
            intro w9 hw9
            exact ⟨.bool true, resC12 rfl (blk_cell (hw9.heap (by simpa using blk_put hqY2.rc 0 (.bool true)) (by simp; omega)) 0), rfl, bb.trans (hw9.below bb.size (fun i hi e => by simp at e; omega))⟩
          · intro _ _ _ h; exact h.elim
end Go.Proofs.Ytcdblopnaimfoaa

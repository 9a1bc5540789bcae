/- The walk of the law on a pool's pairs. No condition. -/
import Derived.Test.YtcdblopnaimfoaaP5
import Derived.Test.YtcdblopnaimfoaaArgs
namespace Go.Proofs.Ytcdblopnaimfoaa
open Go.RowKit Go.Conc

/-- On the way through the last statement: two are given. -/
def Sg (base p Dn Zn : Nat) (S B P O : Int) (l : Value) (qb qc : Nat → Nat) (C C1 C2 : Nat → List Int) (W : World) (d : Nat → Bool) (V : World) : Prop :=
  PoolAt base V p Dn Zn S B P O l qb qc (if d 28 = true then C2 else if d 22 = true then C1 else C) ∧ Fr (Chs Dn qc) W V
section
variable {w w' W V V' : World} {p Dn Zn base : Nat} {S B P O : Int} {l : Value} {qb qc : Nat → Nat} {C C0 C1 C2 : Nat → List Int} {d : Nat → Bool}
theorem Sg.keep (h : Sg base p Dn Zn S B P O l qb qc C C1 C2 W d V) {i : Nat} (hi : i ≠ 22) (hj : i ≠ 28) : Sg base p Dn Zn S B P O l qb qc C C1 C2 W (more d i) V := by
  unfold Sg
  rw [more_other _ (Ne.symm hi), more_other _ (Ne.symm hj)]; exact h
theorem Sg.fr0 (h : Sg base p Dn Zn S B P O l qb qc C C1 C2 W d V) (hf : Fr (fun _ => False) V V') : Sg base p Dn Zn S B P O l qb qc C C1 C2 W d V' :=
  ⟨h.1.fr0 hf, h.2.trans hf (fun _ _ h => h.elim)⟩
theorem Sg.any (h : Sg base p Dn Zn S B P O l qb qc C C C W d V) (d' : Nat → Bool) : Sg base p Dn Zn S B P O l qb qc C C C W d' V := by
  unfold Sg at h ⊢
  have e : ∀ e : Nat → Bool, (if e 28 = true then C else if e 22 = true then C else C) = C := fun e => by split; rfl; split <;> rfl
  rw [e] at h ⊢; exact h
theorem Sg.pass28 (h : Sg base p Dn Zn S B P O l qb qc C C1 C1 W d V) (h22 : d 22 = true) : Sg base p Dn Zn S B P O l qb qc C C1 C1 W (more d 28) V := by
  unfold Sg at h ⊢
  rw [more_same, if_pos rfl]
  rw [h22] at h
  have e : (if d 28 = true then C1 else if true = true then C1 else C) = C1 := by split; rfl; rfl
  rw [e] at h; exact h
theorem pg_twice (_h : PoolAt base w p Dn Zn S B P O l qb qc C) {z : Int} {d : Nat} (hdd : domP Dn Zn z = d) (ht : hasB C Dn z = true) : PDoes base p Dn Zn S B P O l qb qc C C 47 #[.int .i64 z] (.int .i64 16) :=
  fun w hw => (give_twice hw hdd ht).mono (by rintro e w' ⟨rfl, h2, hf⟩; exact ⟨rfl, h2, hf⟩)
theorem pg_ok (h : PoolAt base w p Dn Zn S B P O l qb qc C0) {z : Int} {d : Nat} (hd : d < Dn) (hdd : domP Dn Zn z = d) (ht : hasB C Dn z = false) : PDoes base p Dn Zn S B P O l qb qc C (setC C d (C d ++ [z])) 47 #[.int .i64 z] (.int .i64 0) := by
  have hn : ¬ domP Dn Zn z < 0 := by omega
  obtain ⟨d', hd', hdd', h1, h2⟩ := dom_of h (z := z) (by omega)
  obtain rfl : d = d' := by omega
  exact fun w hw => (give_ok hw hd hdd h1 h2 ht).mono (by rintro e w' ⟨rfl, h2, hf⟩; exact ⟨rfl, h2, hf⟩)
end
set_option linter.unusedSimpArgs false in
set_option linter.unusedVariables false in
set_option maxRecDepth 100000 in
set_option maxHeartbeats 8000000 in
theorem poolPairs_walk (w : World) (D Z S B P O : Int) (v : Value) (ops : List (Int × Int)) (_ : ops.length ≤ maxLen) (_ : ∀ z ∈ ops, Fits z.1 ∧ Fits z.2) (hs : Sl2 w w.heap.size v ops) (xa xb : Int) :
    Calls Try.prog 14 #[.agg #[.int .i64 D, .int .i64 Z, .int .i64 S, .int .i64 B, .int .i64 P, .int .i64 O], v, .int .i64 xa, .int .i64 xb] w fun e w' => e = .returned (.bool true) ∧ Below w.heap.size w w' := by
  obtain ⟨a, cap0, rfl, hc⟩ := hs
  have HC := Lib.hid hc
  clear hc
  have g0 := blk_new w (.cells #[.int .i64 D, .int .i64 Z, .int .i64 S, .int .i64 B, .int .i64 P, .int .i64 O] 42)
  have b0 : Below w.heap.size w (w.alloc (.cells #[.int .i64 D, .int .i64 Z, .int .i64 S, .int .i64 B, .int .i64 P, .int .i64 O] 42)) := (Below.refl _ w).alloc (Nat.le_refl _) _
  have hs0 : (w.alloc (.cells #[.int .i64 D, .int .i64 Z, .int .i64 S, .int .i64 B, .int .i64 P, .int .i64 O] 42)).heap.size = w.heap.size + 1 := by simp
  go_enter Try.func14, Try.ntmps14
  go_wp2_with fail
  generalize w.alloc (.cells #[.int .i64 D, .int .i64 Z, .int .i64 S, .int .i64 B, .int .i64 P, .int .i64 O] 42) = w0 at g0 b0 hs0 ⊢
  refine (anchor10 w0).mono ?_
  rintro e w1 ⟨rfl, hb⟩
  have f1 := Fr.of_below (S := fun _ => False) hb
  have g1 := f1.heap g0 id
  have b1 := b0.trans (hb.mono (by omega))
  have hs1 : w.heap.size + 1 ≤ w1.heap.size := by have := hb.size; omega
  clear hb f1 b0 g0 hs0
  have c1 := fun i => blk_cell g1 i
  by_cases hl : 60 < ops.length
  · go_wp2
    go_ret
    exact ⟨rfl, b1⟩
  cases hr : rightB D Z S B P O with
  | false =>
    have hst := fun V => started_no hr V
    have HST := Lib.hid hst
    clear hst
    have hR := fun V => PGeomRight.geom_Geom_Right.calls D Z S B P O false V (by rw [right_eq, hr])
    have HR := Lib.hid hR
    clear hR hr
    go_wp2_with fail
    refine (HST.out w1).mono ?_
    rintro e w2 ⟨rfl, f2⟩
    have g2 := f2.heap g1 id
    have c2 := fun o i => blk_cell (blk_alloc g2 o) i
    go_wp2_with fail
    refine (HR.out _).mono ?_
    rintro e w3 ⟨rfl, b3⟩
    have F3 := (f2.alloc (.cells #[.int .i64 0, .int .i64 0, .slice none 0 0] 70)).trans (Fr.of_below (S := fun _ => False) b3) (fun _ _ h => h)
    go_wp2
    go_ret
    exact ⟨rfl, b1.trans (F3.below b1.size (fun _ _ => id))⟩
  | true =>
    have hSm := (rightB_iff.1 hr).1
    obtain ⟨Dn, rfl⟩ := Int.eq_ofNat_of_zero_le (by have := hSm.d0; omega : 0 ≤ D)
    obtain ⟨Zn, rfl⟩ := Int.eq_ofNat_of_zero_le (by have := hSm.z0; omega : 0 ≤ Z)
    have hst := fun V => started_ok hSm hr V
    have hdi := fun z V => domainI hSm z V
    have HST := Lib.hid hst
    have HDI := Lib.hid hdi
    clear hst hdi hr
    go_wp2_with fail
    refine (HST.out w1).mono ?_
    rintro e w2 ⟨p, l, qb, qc, rfl, h2, b2⟩
    have hfl : ∀ k, PFoot p Dn l qb qc k → k < w2.heap.size := fun k hk => (h2.lt hk).2
    have f2 := Fr.of_below (S := fun _ => False) b2
    have g2 := f2.heap g1 id
    have bb2 := b1.trans (b2.mono (by omega))
    have hs2 := b2.size
    have hdz := h2.dz
    have hmul : (Dn : Int) * Zn ≤ 512 ∧ 0 ≤ (Dn : Int) * Zn := by
      have h1 : Dn * Zn ≤ 8 * 64 := Nat.mul_le_mul hdz.2.1 hdz.2.2.2
      have h2 : ((Dn * Zn : Nat) : Int) = (Dn : Int) * Zn := by push_cast; rfl
      omega
    go_wp2_with fail
    have hq : Pp w w1 (w2.alloc (.cells #[.int .i64 Dn, .int .i64 Zn, .slice none 0 0] 70)) p Dn Zn S B P O l qb qc (fun _ => []) w2.heap.size (.slice none 0 0) [] :=
      ⟨h2.fr0 ((Fr.refl (fun _ => False) w2).alloc _), ⟨rfl, RdAt.nil _ _, Lk.nil, ⟨by omega, by omega⟩, by omega, hmul⟩, blk_new w2 _, blk_alloc g2 _, bb2.alloc bb2.size _, hfl, hs1⟩
    generalize w2.alloc (.cells #[.int .i64 Dn, .int .i64 Zn, .slice none 0 0] 70) = w3 at hq ⊢
    obtain ⟨nb, hnb⟩ : ∃ nb, w2.heap.size = nb := ⟨_, rfl⟩
    rw [hnb] at hq
    try rw [hnb]
    clear c1 g1 g2 f2 h2 bb2 hs2 b2 b1 hnb hfl w2
    go_loopw [36] (fun i W => ∃ (k : Nat) (C : Nat → List Int) (u : Value) (L : List Int), k ≤ ops.length ∧ i = .int .i64 k ∧ Pp w w1 W p Dn Zn S B P O l qb qc C nb u L) (fun i _ => ops.length - (intOf i).toNat)
    case atStart => exact ⟨0, _, _, _, by omega, rfl, hq⟩
    case round =>
      clear hq
      obtain ⟨k, C, u, L, hk, rfl, hq⟩ := hrel
      have hn := hq.nb1
      by_cases hlt : k < ops.length
      · obtain ⟨bb, o, rfl, hbl, hcell⟩ := HC.out (List.ne_nil_of_length_pos (by omega))
        have hcc := hcell k hlt
        generalize ops[k] = kxy at hcc
        obtain ⟨K, X⟩ := kxy
        obtain ⟨d1, d2⟩ := hcc
        have hB := fun (j : Nat) (u : Value) (h : w.cell? ⟨bb, j, none⟩ = some u) => (World.cell?_of_block (a := ⟨bb, j, none⟩) (hq.bl.block bb hbl)).trans h
        replace d1 := hB _ _ d1
        replace d2 := hB _ _ d2
        clear hB hcell
        rw [← Nat.add_assoc] at d2
        obtain ⟨a9, n9, rfl⟩ := hq.rp.rd.val
        obtain ⟨m9, hm9⟩ : ∃ m9, (ints L).length = m9 := ⟨_, rfl⟩
        rw [hm9] at hq
        clear hm9
        have hq1 := hq.fr0 ((Fr.refl (fun _ => False) wr).alloc (.cells #[.int .i64 K, .int .i64 X] 81))
        have ho := blk_new wr (.cells #[.int .i64 K, .int .i64 X] 81)
        go_upto_region 11 with fail
        obtain ⟨ob, hob⟩ : ∃ ob, wr.heap.size = ob := ⟨_, rfl⟩
        rw [hob] at ho hn
        try rw [hob]
        generalize wr.alloc (.cells #[.int .i64 K, .int .i64 X] 81) = W1 at hq1 ho ⊢
        clear hob d1 d2 hq wr
        have co := fun i => blk_cell ho i
        have cx := fun i => blk_cell hq1.xb i
        have hst := step_calls hq1.po hq1.rp K X
        go_wp2_with fail
        refine hst.mono ?_
        rintro e W2 ⟨C', u', L', rfl, hp2, hr2, hf2⟩
        obtain ⟨a8, n8, rfl⟩ := hr2.rd.val
        obtain ⟨m8, hm8⟩ : ∃ m8, (ints L').length = m8 := ⟨_, rfl⟩
        rw [hm8] at hr2 ⊢
        clear hm8 hst
        have hq2 := hq1.step hp2 hr2 hf2
        have hxb := hf2.heap hq1.xb (fun e => by have := hq1.chw e; omega)
        clear co cx
        have cx := fun i => blk_cell hxb i
        have ex := fun i => blk_frozen hxb i
        go_wp2_with fail
        go_roundw
        case rel => exact ⟨k + 1, _, _, _, by omega, by go_num, hq2⟩
        case measure => simp [intOf]; omega
      · obtain rfl : k = ops.length := by omega
        have po := hq.po
        have gg := hq.gg
        have bl := hq.bl
        clear hq hlt hk
        have hpb := pairsP_b C Dn
        have hsb := sumP_b po Dn (Nat.le_refl _)
        obtain ⟨m, hm⟩ := Int.eq_ofNat_of_zero_le hpb.1
        rw [hm] at hpb
        have hpc := pairs_calls po
        rw [hm] at hpc
        have HM := Lib.hid hm
        have hm512 : m ≤ 512 := by omega
        clear hm hpb hsb
        go_wp2_with fail
        refine hpc.mono ?_
        rintro e W2 ⟨rfl, f2⟩
        replace po := po.fr0 f2
        replace gg := f2.heap gg id
        replace bl := bl.trans (f2.below bl.size (fun _ _ => id))
        clear hpc f2
        by_cases hm0 : m = 0
        · have hmb : ((m : Int) != 0) = false := by simp [hm0]
          have hmi : (m : Int) = 0 := by omega
          have hpn := pair_none po (by rw [HM.out, hm0]; rfl)
          go_wp2_with fail
          refine hpn.mono ?_
          rintro e WT ⟨rfl, f3⟩
          replace po := po.fr0 f3
          replace gg := f3.heap gg id
          replace bl := bl.trans (f3.below bl.size (fun _ _ => id))
          clear hpn f3
          go_upto_region 26 with fail
          have hch : ∀ k, Chs Dn qc k → w1.heap.size ≤ k := by rintro k ⟨d, hd, rfl⟩; exact (po.bq d hd).2
          obtain ⟨da, hda⟩ : ∃ da, domP Dn Zn xa = da := ⟨_, rfl⟩
          obtain ⟨db, hdb⟩ : ∃ db, domP Dn Zn xb = db := ⟨_, rfl⟩
          have ha0 := fun V => HDI.out xa V
          have hb0 := fun V => HDI.out xb V
          rw [hda] at ha0
          rw [hdb] at hb0
          have HA := Lib.hid ha0
          have HB := Lib.hid hb0
          have HDA := Lib.hid hda
          have HDB := Lib.hid hdb
          clear ha0 hb0 hda hdb
          by_cases h1 : da < 0
          · have e1 : decide (da < 0) = true := decide_eq_true h1
            refine (wpIn_wide (n := 0)).1 ?_
            refine regionIn_seqC (Sg w1.heap.size p Dn Zn S B P O l qb qc C C C WT) rfl (by kernel_rfl) (by kernel_rfl) (by kernel_rfl) (fun _ => trivial) rfl ⟨by simpa using po.fr0 (Fr.refl _ _).drew, (Fr.refl _ _).drew⟩ ?_
            iterate 2
              first
              | (apply SeqC.step
                 · rfl
                 · intro d V hV ht hcl
                   have cg := fun i => blk_cell (hV.2.heap gg (fun e => by have := hch _ e; omega)) i
                   simp [Oper.gives, execOp, Act.eval, go_sem, cg, e1]
                   exact ⟨rfl, hV.any _⟩)
              | (apply SeqC.pass
                 · rfl
                 · exact fun d V hV _ _ => hV.any _)
              simp only [Act.put, List.setIfInBounds_toArray, List.set_cons_succ, List.set_cons_zero]
            iterate 1
              first
              | (apply SeqC.step
                 · rfl
                 · intro d V hV ht hcl
                   have hc := HA.out V
                   simp [Oper.gives, execOp, Act.eval, go_sem, e1]
                   refine callsIn_wide.2 (hc.mono ?_); rintro e W9 ⟨rfl, hb⟩; exact ⟨_, rfl, rfl, (hV.fr0 (Fr.of_below (S := fun _ => False) hb)).any _⟩)
              | (apply SeqC.pass
                 · rfl
                 · exact fun d V hV _ _ => hV.any _)
              simp only [Act.put, List.setIfInBounds_toArray, List.set_cons_succ, List.set_cons_zero]
            iterate 28
              first
              | (apply SeqC.step
                 · rfl
                 · intro d V hV ht hcl
                   have cg := fun i => blk_cell (hV.2.heap gg (fun e => by have := hch _ e; omega)) i
                   simp [Oper.gives, execOp, Act.eval, go_sem, cg, e1]
                   exact ⟨rfl, hV.any _⟩)
              | (apply SeqC.pass
                 · rfl
                 · exact fun d V hV _ _ => hV.any _)
              simp only [Act.put, List.setIfInBounds_toArray, List.set_cons_succ, List.set_cons_zero]
            refine SeqC.nil fun V hV => ?_
            go_wp2_with fail
            go_ret
            exact ⟨rfl, bl.trans (hV.2.below bl.size (fun i hi e => by have := hch _ e; omega))⟩

          · have e1 : decide (da < 0) = false := decide_eq_false h1
            by_cases h2 : db < 0
            · have e2 : decide (db < 0) = true := decide_eq_true h2
              refine (wpIn_wide (n := 0)).1 ?_
              refine regionIn_seqC (Sg w1.heap.size p Dn Zn S B P O l qb qc C C C WT) rfl (by kernel_rfl) (by kernel_rfl) (by kernel_rfl) (fun _ => trivial) rfl ⟨by simpa using po.fr0 (Fr.refl _ _).drew, (Fr.refl _ _).drew⟩ ?_
              iterate 2
                first
                | (apply SeqC.step
                   · rfl
                   · intro d V hV ht hcl
                     have cg := fun i => blk_cell (hV.2.heap gg (fun e => by have := hch _ e; omega)) i
                     simp [Oper.gives, execOp, Act.eval, go_sem, cg, e1, e2]
                     exact ⟨rfl, hV.any _⟩)
                | (apply SeqC.pass
                   · rfl
                   · exact fun d V hV _ _ => hV.any _)
                simp only [Act.put, List.setIfInBounds_toArray, List.set_cons_succ, List.set_cons_zero]
              iterate 1
                first
                | (apply SeqC.step
                   · rfl
                   · intro d V hV ht hcl
                     have hc := HA.out V
                     simp [Oper.gives, execOp, Act.eval, go_sem, e1, e2]
                     refine callsIn_wide.2 (hc.mono ?_); rintro e W9 ⟨rfl, hb⟩; exact ⟨_, rfl, rfl, (hV.fr0 (Fr.of_below (S := fun _ => False) hb)).any _⟩)
                | (apply SeqC.pass
                   · rfl
                   · exact fun d V hV _ _ => hV.any _)
                simp only [Act.put, List.setIfInBounds_toArray, List.set_cons_succ, List.set_cons_zero]
              iterate 4
                first
                | (apply SeqC.step
                   · rfl
                   · intro d V hV ht hcl
                     have cg := fun i => blk_cell (hV.2.heap gg (fun e => by have := hch _ e; omega)) i
                     simp [Oper.gives, execOp, Act.eval, go_sem, cg, e1, e2]
                     exact ⟨rfl, hV.any _⟩)
                | (apply SeqC.pass
                   · rfl
                   · exact fun d V hV _ _ => hV.any _)
                simp only [Act.put, List.setIfInBounds_toArray, List.set_cons_succ, List.set_cons_zero]
              iterate 1
                first
                | (apply SeqC.step
                   · rfl
                   · intro d V hV ht hcl
                     have hc := HB.out V
                     simp [Oper.gives, execOp, Act.eval, go_sem, e1, e2]
                     refine callsIn_wide.2 (hc.mono ?_); rintro e W9 ⟨rfl, hb⟩; exact ⟨_, rfl, rfl, (hV.fr0 (Fr.of_below (S := fun _ => False) hb)).any _⟩)
                | (apply SeqC.pass
                   · rfl
                   · exact fun d V hV _ _ => hV.any _)
                simp only [Act.put, List.setIfInBounds_toArray, List.set_cons_succ, List.set_cons_zero]
              iterate 23
                first
                | (apply SeqC.step
                   · rfl
                   · intro d V hV ht hcl
                     have cg := fun i => blk_cell (hV.2.heap gg (fun e => by have := hch _ e; omega)) i
                     simp [Oper.gives, execOp, Act.eval, go_sem, cg, e1, e2]
                     exact ⟨rfl, hV.any _⟩)
                | (apply SeqC.pass
                   · rfl
                   · exact fun d V hV _ _ => hV.any _)
                simp only [Act.put, List.setIfInBounds_toArray, List.set_cons_succ, List.set_cons_zero]
              refine SeqC.nil fun V hV => ?_
              go_wp2_with fail
              go_ret
              exact ⟨rfl, bl.trans (hV.2.below bl.size (fun i hi e => by have := hch _ e; omega))⟩

            · have e2 : decide (db < 0) = false := decide_eq_false h2
              by_cases h3 : da = db
              · have e3 : (da == db) = true := by simpa using h3
                refine (wpIn_wide (n := 0)).1 ?_
                refine regionIn_seqC (Sg w1.heap.size p Dn Zn S B P O l qb qc C C C WT) rfl (by kernel_rfl) (by kernel_rfl) (by kernel_rfl) (fun _ => trivial) rfl ⟨by simpa using po.fr0 (Fr.refl _ _).drew, (Fr.refl _ _).drew⟩ ?_
                iterate 2
                  first
                  | (apply SeqC.step
                     · rfl
                     · intro d V hV ht hcl
                       have cg := fun i => blk_cell (hV.2.heap gg (fun e => by have := hch _ e; omega)) i
                       simp [Oper.gives, execOp, Act.eval, go_sem, cg, e1, e2, e3]
                       exact ⟨rfl, hV.any _⟩)
                  | (apply SeqC.pass
                     · rfl
                     · exact fun d V hV _ _ => hV.any _)
                  simp only [Act.put, List.setIfInBounds_toArray, List.set_cons_succ, List.set_cons_zero]
                iterate 1
                  first
                  | (apply SeqC.step
                     · rfl
                     · intro d V hV ht hcl
                       have hc := HA.out V
                       simp [Oper.gives, execOp, Act.eval, go_sem, e1, e2, e3]
                       refine callsIn_wide.2 (hc.mono ?_); rintro e W9 ⟨rfl, hb⟩; exact ⟨_, rfl, rfl, (hV.fr0 (Fr.of_below (S := fun _ => False) hb)).any _⟩)
                  | (apply SeqC.pass
                     · rfl
                     · exact fun d V hV _ _ => hV.any _)
                  simp only [Act.put, List.setIfInBounds_toArray, List.set_cons_succ, List.set_cons_zero]
                iterate 4
                  first
                  | (apply SeqC.step
                     · rfl
                     · intro d V hV ht hcl
                       have cg := fun i => blk_cell (hV.2.heap gg (fun e => by have := hch _ e; omega)) i
                       simp [Oper.gives, execOp, Act.eval, go_sem, cg, e1, e2, e3]
                       exact ⟨rfl, hV.any _⟩)
                  | (apply SeqC.pass
                     · rfl
                     · exact fun d V hV _ _ => hV.any _)
                  simp only [Act.put, List.setIfInBounds_toArray, List.set_cons_succ, List.set_cons_zero]
                iterate 1
                  first
                  | (apply SeqC.step
                     · rfl
                     · intro d V hV ht hcl
                       have hc := HB.out V
                       simp [Oper.gives, execOp, Act.eval, go_sem, e1, e2, e3]
                       refine callsIn_wide.2 (hc.mono ?_); rintro e W9 ⟨rfl, hb⟩; exact ⟨_, rfl, rfl, (hV.fr0 (Fr.of_below (S := fun _ => False) hb)).any _⟩)
                  | (apply SeqC.pass
                     · rfl
                     · exact fun d V hV _ _ => hV.any _)
                  simp only [Act.put, List.setIfInBounds_toArray, List.set_cons_succ, List.set_cons_zero]
                iterate 5
                  first
                  | (apply SeqC.step
                     · rfl
                     · intro d V hV ht hcl
                       have cg := fun i => blk_cell (hV.2.heap gg (fun e => by have := hch _ e; omega)) i
                       simp [Oper.gives, execOp, Act.eval, go_sem, cg, e1, e2, e3]
                       exact ⟨rfl, hV.any _⟩)
                  | (apply SeqC.pass
                     · rfl
                     · exact fun d V hV _ _ => hV.any _)
                  simp only [Act.put, List.setIfInBounds_toArray, List.set_cons_succ, List.set_cons_zero]
                iterate 1
                  first
                  | (apply SeqC.step
                     · rfl
                     · intro d V hV ht hcl
                       have hc := HA.out V
                       simp [Oper.gives, execOp, Act.eval, go_sem, e1, e2, e3]
                       refine callsIn_wide.2 (hc.mono ?_); rintro e W9 ⟨rfl, hb⟩; exact ⟨_, rfl, rfl, (hV.fr0 (Fr.of_below (S := fun _ => False) hb)).any _⟩)
                  | (apply SeqC.pass
                     · rfl
                     · exact fun d V hV _ _ => hV.any _)
                  simp only [Act.put, List.setIfInBounds_toArray, List.set_cons_succ, List.set_cons_zero]
                iterate 2
                  first
                  | (apply SeqC.step
                     · rfl
                     · intro d V hV ht hcl
                       have cg := fun i => blk_cell (hV.2.heap gg (fun e => by have := hch _ e; omega)) i
                       simp [Oper.gives, execOp, Act.eval, go_sem, cg, e1, e2, e3]
                       exact ⟨rfl, hV.any _⟩)
                  | (apply SeqC.pass
                     · rfl
                     · exact fun d V hV _ _ => hV.any _)
                  simp only [Act.put, List.setIfInBounds_toArray, List.set_cons_succ, List.set_cons_zero]
                iterate 1
                  first
                  | (apply SeqC.step
                     · rfl
                     · intro d V hV ht hcl
                       have hc := HB.out V
                       simp [Oper.gives, execOp, Act.eval, go_sem, e1, e2, e3]
                       refine callsIn_wide.2 (hc.mono ?_); rintro e W9 ⟨rfl, hb⟩; exact ⟨_, rfl, rfl, (hV.fr0 (Fr.of_below (S := fun _ => False) hb)).any _⟩)
                  | (apply SeqC.pass
                     · rfl
                     · exact fun d V hV _ _ => hV.any _)
                  simp only [Act.put, List.setIfInBounds_toArray, List.set_cons_succ, List.set_cons_zero]
                iterate 14
                  first
                  | (apply SeqC.step
                     · rfl
                     · intro d V hV ht hcl
                       have cg := fun i => blk_cell (hV.2.heap gg (fun e => by have := hch _ e; omega)) i
                       simp [Oper.gives, execOp, Act.eval, go_sem, cg, e1, e2, e3]
                       exact ⟨rfl, hV.any _⟩)
                  | (apply SeqC.pass
                     · rfl
                     · exact fun d V hV _ _ => hV.any _)
                  simp only [Act.put, List.setIfInBounds_toArray, List.set_cons_succ, List.set_cons_zero]
                refine SeqC.nil fun V hV => ?_
                go_wp2_with fail
                go_ret
                exact ⟨rfl, bl.trans (hV.2.below bl.size (fun i hi e => by have := hch _ e; omega))⟩

              · have e3 : (da == db) = false := by simpa using h3
                obtain ⟨d1, hd1, hdd1, _, _⟩ := dom_of po (z := xa) (by rw [HDA.out]; omega)
                obtain ⟨d2, hd2, hdd2, _, _⟩ := dom_of po (z := xb) (by rw [HDB.out]; omega)
                have hdd : d1 ≠ d2 := by rintro rfl; rw [HDA.out] at hdd1; rw [HDB.out] at hdd2; omega
                cases ha : hasB C Dn xa with
                | true =>
                  have HGA := pg_twice po hdd1 ha
                  clear hdd1 hdd2 ha
                  refine (wpIn_wide (n := 0)).1 ?_
                  refine regionIn_seqC (Sg w1.heap.size p Dn Zn S B P O l qb qc C C C WT) rfl (by kernel_rfl) (by kernel_rfl) (by kernel_rfl) (fun _ => trivial) rfl ⟨by simpa using po.fr0 (Fr.refl _ _).drew, (Fr.refl _ _).drew⟩ ?_
                  iterate 2
                    first
                    | (apply SeqC.step
                       · rfl
                       · intro d V hV ht hcl
                         have cg := fun i => blk_cell (hV.2.heap gg (fun e => by have := hch _ e; omega)) i
                         simp [Oper.gives, execOp, Act.eval, go_sem, cg, e1, e2, e3]
                         exact ⟨rfl, hV.keep (by decide) (by decide)⟩)
                    | (apply SeqC.pass
                       · rfl
                       · intro d V hV ht hcl
                         first
                         | exact hV.keep (by decide) (by decide)
                         | (have h25 := ht.dep 25 (by kernel_rfl)
                            have h24 := hcl 25 _ rfl h25 24 (by kernel_rfl)
                            have h23 := hcl 24 _ rfl h24 23 (by kernel_rfl)
                            have h22 := hcl 23 _ rfl h23 22 (by kernel_rfl)
                            exact hV.pass28 h22))
                    simp only [Act.put, List.setIfInBounds_toArray, List.set_cons_succ, List.set_cons_zero]
                  iterate 1
                    first
                    | (apply SeqC.step
                       · rfl
                       · intro d V hV ht hcl
                         have hc := HA.out V
                         simp [Oper.gives, execOp, Act.eval, go_sem, e1, e2, e3]
                         refine callsIn_wide.2 (hc.mono ?_); rintro e W9 ⟨rfl, hb⟩; exact ⟨_, rfl, rfl, (hV.fr0 (Fr.of_below (S := fun _ => False) hb)).keep (by decide) (by decide)⟩)
                    | (apply SeqC.pass
                       · rfl
                       · intro d V hV ht hcl
                         first
                         | exact hV.keep (by decide) (by decide)
                         | (have h25 := ht.dep 25 (by kernel_rfl)
                            have h24 := hcl 25 _ rfl h25 24 (by kernel_rfl)
                            have h23 := hcl 24 _ rfl h24 23 (by kernel_rfl)
                            have h22 := hcl 23 _ rfl h23 22 (by kernel_rfl)
                            exact hV.pass28 h22))
                    simp only [Act.put, List.setIfInBounds_toArray, List.set_cons_succ, List.set_cons_zero]
                  iterate 4
                    first
                    | (apply SeqC.step
                       · rfl
                       · intro d V hV ht hcl
                         have cg := fun i => blk_cell (hV.2.heap gg (fun e => by have := hch _ e; omega)) i
                         simp [Oper.gives, execOp, Act.eval, go_sem, cg, e1, e2, e3]
                         exact ⟨rfl, hV.keep (by decide) (by decide)⟩)
                    | (apply SeqC.pass
                       · rfl
                       · intro d V hV ht hcl
                         first
                         | exact hV.keep (by decide) (by decide)
                         | (have h25 := ht.dep 25 (by kernel_rfl)
                            have h24 := hcl 25 _ rfl h25 24 (by kernel_rfl)
                            have h23 := hcl 24 _ rfl h24 23 (by kernel_rfl)
                            have h22 := hcl 23 _ rfl h23 22 (by kernel_rfl)
                            exact hV.pass28 h22))
                    simp only [Act.put, List.setIfInBounds_toArray, List.set_cons_succ, List.set_cons_zero]
                  iterate 1
                    first
                    | (apply SeqC.step
                       · rfl
                       · intro d V hV ht hcl
                         have hc := HB.out V
                         simp [Oper.gives, execOp, Act.eval, go_sem, e1, e2, e3]
                         refine callsIn_wide.2 (hc.mono ?_); rintro e W9 ⟨rfl, hb⟩; exact ⟨_, rfl, rfl, (hV.fr0 (Fr.of_below (S := fun _ => False) hb)).keep (by decide) (by decide)⟩)
                    | (apply SeqC.pass
                       · rfl
                       · intro d V hV ht hcl
                         first
                         | exact hV.keep (by decide) (by decide)
                         | (have h25 := ht.dep 25 (by kernel_rfl)
                            have h24 := hcl 25 _ rfl h25 24 (by kernel_rfl)
                            have h23 := hcl 24 _ rfl h24 23 (by kernel_rfl)
                            have h22 := hcl 23 _ rfl h23 22 (by kernel_rfl)
                            exact hV.pass28 h22))
                    simp only [Act.put, List.setIfInBounds_toArray, List.set_cons_succ, List.set_cons_zero]
                  iterate 5
                    first
                    | (apply SeqC.step
                       · rfl
                       · intro d V hV ht hcl
                         have cg := fun i => blk_cell (hV.2.heap gg (fun e => by have := hch _ e; omega)) i
                         simp [Oper.gives, execOp, Act.eval, go_sem, cg, e1, e2, e3]
                         exact ⟨rfl, hV.keep (by decide) (by decide)⟩)
                    | (apply SeqC.pass
                       · rfl
                       · intro d V hV ht hcl
                         first
                         | exact hV.keep (by decide) (by decide)
                         | (have h25 := ht.dep 25 (by kernel_rfl)
                            have h24 := hcl 25 _ rfl h25 24 (by kernel_rfl)
                            have h23 := hcl 24 _ rfl h24 23 (by kernel_rfl)
                            have h22 := hcl 23 _ rfl h23 22 (by kernel_rfl)
                            exact hV.pass28 h22))
                    simp only [Act.put, List.setIfInBounds_toArray, List.set_cons_succ, List.set_cons_zero]
                  iterate 1
                    first
                    | (apply SeqC.step
                       · rfl
                       · intro d V hV ht hcl
                         have hc := HA.out V
                         simp [Oper.gives, execOp, Act.eval, go_sem, e1, e2, e3]
                         refine callsIn_wide.2 (hc.mono ?_); rintro e W9 ⟨rfl, hb⟩; exact ⟨_, rfl, rfl, (hV.fr0 (Fr.of_below (S := fun _ => False) hb)).keep (by decide) (by decide)⟩)
                    | (apply SeqC.pass
                       · rfl
                       · intro d V hV ht hcl
                         first
                         | exact hV.keep (by decide) (by decide)
                         | (have h25 := ht.dep 25 (by kernel_rfl)
                            have h24 := hcl 25 _ rfl h25 24 (by kernel_rfl)
                            have h23 := hcl 24 _ rfl h24 23 (by kernel_rfl)
                            have h22 := hcl 23 _ rfl h23 22 (by kernel_rfl)
                            exact hV.pass28 h22))
                    simp only [Act.put, List.setIfInBounds_toArray, List.set_cons_succ, List.set_cons_zero]
                  iterate 2
                    first
                    | (apply SeqC.step
                       · rfl
                       · intro d V hV ht hcl
                         have cg := fun i => blk_cell (hV.2.heap gg (fun e => by have := hch _ e; omega)) i
                         simp [Oper.gives, execOp, Act.eval, go_sem, cg, e1, e2, e3]
                         exact ⟨rfl, hV.keep (by decide) (by decide)⟩)
                    | (apply SeqC.pass
                       · rfl
                       · intro d V hV ht hcl
                         first
                         | exact hV.keep (by decide) (by decide)
                         | (have h25 := ht.dep 25 (by kernel_rfl)
                            have h24 := hcl 25 _ rfl h25 24 (by kernel_rfl)
                            have h23 := hcl 24 _ rfl h24 23 (by kernel_rfl)
                            have h22 := hcl 23 _ rfl h23 22 (by kernel_rfl)
                            exact hV.pass28 h22))
                    simp only [Act.put, List.setIfInBounds_toArray, List.set_cons_succ, List.set_cons_zero]
                  iterate 1
                    first
                    | (apply SeqC.step
                       · rfl
                       · intro d V hV ht hcl
                         have hc := HB.out V
                         simp [Oper.gives, execOp, Act.eval, go_sem, e1, e2, e3]
                         refine callsIn_wide.2 (hc.mono ?_); rintro e W9 ⟨rfl, hb⟩; exact ⟨_, rfl, rfl, (hV.fr0 (Fr.of_below (S := fun _ => False) hb)).keep (by decide) (by decide)⟩)
                    | (apply SeqC.pass
                       · rfl
                       · intro d V hV ht hcl
                         first
                         | exact hV.keep (by decide) (by decide)
                         | (have h25 := ht.dep 25 (by kernel_rfl)
                            have h24 := hcl 25 _ rfl h25 24 (by kernel_rfl)
                            have h23 := hcl 24 _ rfl h24 23 (by kernel_rfl)
                            have h22 := hcl 23 _ rfl h23 22 (by kernel_rfl)
                            exact hV.pass28 h22))
                    simp only [Act.put, List.setIfInBounds_toArray, List.set_cons_succ, List.set_cons_zero]
                  iterate 5
                    first
                    | (apply SeqC.step
                       · rfl
                       · intro d V hV ht hcl
                         have cg := fun i => blk_cell (hV.2.heap gg (fun e => by have := hch _ e; omega)) i
                         simp [Oper.gives, execOp, Act.eval, go_sem, cg, e1, e2, e3]
                         exact ⟨rfl, hV.keep (by decide) (by decide)⟩)
                    | (apply SeqC.pass
                       · rfl
                       · intro d V hV ht hcl
                         first
                         | exact hV.keep (by decide) (by decide)
                         | (have h25 := ht.dep 25 (by kernel_rfl)
                            have h24 := hcl 25 _ rfl h25 24 (by kernel_rfl)
                            have h23 := hcl 24 _ rfl h24 23 (by kernel_rfl)
                            have h22 := hcl 23 _ rfl h23 22 (by kernel_rfl)
                            exact hV.pass28 h22))
                    simp only [Act.put, List.setIfInBounds_toArray, List.set_cons_succ, List.set_cons_zero]
                  iterate 1
                    first
                    | (apply SeqC.step
                       · rfl
                       · intro d V hV ht hcl
                         have h22 : d 22 = false := ht.not
                         have h28 : d 28 = false := by
                           cases h : d 28 with
                           | false => rfl
                           | true =>
                             have h25 := hcl 28 _ rfl h 25 (by kernel_rfl)
                             have h24 := hcl 25 _ rfl h25 24 (by kernel_rfl)
                             have h23 := hcl 24 _ rfl h24 23 (by kernel_rfl)
                             have h22' := hcl 23 _ rfl h23 22 (by kernel_rfl)
                             rw [h22] at h22'; cases h22'
                         have hV1 := hV.1
                         rw [h28, h22, if_neg (by decide), if_neg (by decide)] at hV1
                         have hc := HGA V hV1
                         simp [Oper.gives, execOp, Act.eval, go_sem, e1, e2, e3]
                         refine callsIn_wide.2 (hc.mono ?_); rintro e W9 ⟨rfl, hp9, hf9⟩; refine ⟨_, rfl, rfl, ?_, hV.2.trans hf9 (fun _ _ h => h)⟩
                         rw [more_same, more_other _ (by decide), h28, if_neg (by decide), if_pos rfl]; exact hp9)
                    | (apply SeqC.pass
                       · rfl
                       · intro d V hV ht hcl
                         first
                         | exact hV.keep (by decide) (by decide)
                         | (have h25 := ht.dep 25 (by kernel_rfl)
                            have h24 := hcl 25 _ rfl h25 24 (by kernel_rfl)
                            have h23 := hcl 24 _ rfl h24 23 (by kernel_rfl)
                            have h22 := hcl 23 _ rfl h23 22 (by kernel_rfl)
                            exact hV.pass28 h22))
                    simp only [Act.put, List.setIfInBounds_toArray, List.set_cons_succ, List.set_cons_zero]
                  iterate 8
                    first
                    | (apply SeqC.step
                       · rfl
                       · intro d V hV ht hcl
                         have cg := fun i => blk_cell (hV.2.heap gg (fun e => by have := hch _ e; omega)) i
                         simp [Oper.gives, execOp, Act.eval, go_sem, cg, e1, e2, e3]
                         exact ⟨rfl, hV.keep (by decide) (by decide)⟩)
                    | (apply SeqC.pass
                       · rfl
                       · intro d V hV ht hcl
                         first
                         | exact hV.keep (by decide) (by decide)
                         | (have h25 := ht.dep 25 (by kernel_rfl)
                            have h24 := hcl 25 _ rfl h25 24 (by kernel_rfl)
                            have h23 := hcl 24 _ rfl h24 23 (by kernel_rfl)
                            have h22 := hcl 23 _ rfl h23 22 (by kernel_rfl)
                            exact hV.pass28 h22))
                    simp only [Act.put, List.setIfInBounds_toArray, List.set_cons_succ, List.set_cons_zero]
                  refine SeqC.nil fun V hV => ?_
                  go_wp2_with fail
                  go_ret
                  exact ⟨rfl, bl.trans (hV.2.below bl.size (fun i hi e => by have := hch _ e; omega))⟩

                | false =>
                  have HGA := pg_ok po hd1 hdd1 ha
                  have hn1 : xa ∉ C d1 := fun hm => by rw [(hasB_at po hd1 hdd1).2 hm] at ha; cases ha
                  cases hb : hasB (setC C d1 (C d1 ++ [xa])) Dn xb with
                  | true =>
                    have HGB : PDoes w1.heap.size p Dn Zn S B P O l qb qc (setC C d1 (C d1 ++ [xa])) (setC C d1 (C d1 ++ [xa])) 47 #[.int .i64 xb] (.int .i64 16) := fun w hw => (give_twice hw hdd2 hb).mono (by rintro e w' ⟨rfl, h2, hf⟩; exact ⟨rfl, h2, hf⟩)
                    clear hdd1 hdd2 ha hb hn1
                    refine (wpIn_wide (n := 0)).1 ?_
                    refine regionIn_seqC (Sg w1.heap.size p Dn Zn S B P O l qb qc C (setC C d1 (C d1 ++ [xa])) (setC C d1 (C d1 ++ [xa])) WT) rfl (by kernel_rfl) (by kernel_rfl) (by kernel_rfl) (fun _ => trivial) rfl ⟨by simpa using po.fr0 (Fr.refl _ _).drew, (Fr.refl _ _).drew⟩ ?_
                    iterate 2
                      first
                      | (apply SeqC.step
                         · rfl
                         · intro d V hV ht hcl
                           have cg := fun i => blk_cell (hV.2.heap gg (fun e => by have := hch _ e; omega)) i
                           simp [Oper.gives, execOp, Act.eval, go_sem, cg, e1, e2, e3]
                           exact ⟨rfl, hV.keep (by decide) (by decide)⟩)
                      | (apply SeqC.pass
                         · rfl
                         · intro d V hV ht hcl
                           first
                           | exact hV.keep (by decide) (by decide)
                           | (have h25 := ht.dep 25 (by kernel_rfl)
                              have h24 := hcl 25 _ rfl h25 24 (by kernel_rfl)
                              have h23 := hcl 24 _ rfl h24 23 (by kernel_rfl)
                              have h22 := hcl 23 _ rfl h23 22 (by kernel_rfl)
                              exact hV.pass28 h22))
                      simp only [Act.put, List.setIfInBounds_toArray, List.set_cons_succ, List.set_cons_zero]
                    iterate 1
                      first
                      | (apply SeqC.step
                         · rfl
                         · intro d V hV ht hcl
                           have hc := HA.out V
                           simp [Oper.gives, execOp, Act.eval, go_sem, e1, e2, e3]
                           refine callsIn_wide.2 (hc.mono ?_); rintro e W9 ⟨rfl, hb⟩; exact ⟨_, rfl, rfl, (hV.fr0 (Fr.of_below (S := fun _ => False) hb)).keep (by decide) (by decide)⟩)
                      | (apply SeqC.pass
                         · rfl
                         · intro d V hV ht hcl
                           first
                           | exact hV.keep (by decide) (by decide)
                           | (have h25 := ht.dep 25 (by kernel_rfl)
                              have h24 := hcl 25 _ rfl h25 24 (by kernel_rfl)
                              have h23 := hcl 24 _ rfl h24 23 (by kernel_rfl)
                              have h22 := hcl 23 _ rfl h23 22 (by kernel_rfl)
                              exact hV.pass28 h22))
                      simp only [Act.put, List.setIfInBounds_toArray, List.set_cons_succ, List.set_cons_zero]
                    iterate 4
                      first
                      | (apply SeqC.step
                         · rfl
                         · intro d V hV ht hcl
                           have cg := fun i => blk_cell (hV.2.heap gg (fun e => by have := hch _ e; omega)) i
                           simp [Oper.gives, execOp, Act.eval, go_sem, cg, e1, e2, e3]
                           exact ⟨rfl, hV.keep (by decide) (by decide)⟩)
                      | (apply SeqC.pass
                         · rfl
                         · intro d V hV ht hcl
                           first
                           | exact hV.keep (by decide) (by decide)
                           | (have h25 := ht.dep 25 (by kernel_rfl)
                              have h24 := hcl 25 _ rfl h25 24 (by kernel_rfl)
                              have h23 := hcl 24 _ rfl h24 23 (by kernel_rfl)
                              have h22 := hcl 23 _ rfl h23 22 (by kernel_rfl)
                              exact hV.pass28 h22))
                      simp only [Act.put, List.setIfInBounds_toArray, List.set_cons_succ, List.set_cons_zero]
                    iterate 1
                      first
                      | (apply SeqC.step
                         · rfl
                         · intro d V hV ht hcl
                           have hc := HB.out V
                           simp [Oper.gives, execOp, Act.eval, go_sem, e1, e2, e3]
                           refine callsIn_wide.2 (hc.mono ?_); rintro e W9 ⟨rfl, hb⟩; exact ⟨_, rfl, rfl, (hV.fr0 (Fr.of_below (S := fun _ => False) hb)).keep (by decide) (by decide)⟩)
                      | (apply SeqC.pass
                         · rfl
                         · intro d V hV ht hcl
                           first
                           | exact hV.keep (by decide) (by decide)
                           | (have h25 := ht.dep 25 (by kernel_rfl)
                              have h24 := hcl 25 _ rfl h25 24 (by kernel_rfl)
                              have h23 := hcl 24 _ rfl h24 23 (by kernel_rfl)
                              have h22 := hcl 23 _ rfl h23 22 (by kernel_rfl)
                              exact hV.pass28 h22))
                      simp only [Act.put, List.setIfInBounds_toArray, List.set_cons_succ, List.set_cons_zero]
                    iterate 5
                      first
                      | (apply SeqC.step
                         · rfl
                         · intro d V hV ht hcl
                           have cg := fun i => blk_cell (hV.2.heap gg (fun e => by have := hch _ e; omega)) i
                           simp [Oper.gives, execOp, Act.eval, go_sem, cg, e1, e2, e3]
                           exact ⟨rfl, hV.keep (by decide) (by decide)⟩)
                      | (apply SeqC.pass
                         · rfl
                         · intro d V hV ht hcl
                           first
                           | exact hV.keep (by decide) (by decide)
                           | (have h25 := ht.dep 25 (by kernel_rfl)
                              have h24 := hcl 25 _ rfl h25 24 (by kernel_rfl)
                              have h23 := hcl 24 _ rfl h24 23 (by kernel_rfl)
                              have h22 := hcl 23 _ rfl h23 22 (by kernel_rfl)
                              exact hV.pass28 h22))
                      simp only [Act.put, List.setIfInBounds_toArray, List.set_cons_succ, List.set_cons_zero]
                    iterate 1
                      first
                      | (apply SeqC.step
                         · rfl
                         · intro d V hV ht hcl
                           have hc := HA.out V
                           simp [Oper.gives, execOp, Act.eval, go_sem, e1, e2, e3]
                           refine callsIn_wide.2 (hc.mono ?_); rintro e W9 ⟨rfl, hb⟩; exact ⟨_, rfl, rfl, (hV.fr0 (Fr.of_below (S := fun _ => False) hb)).keep (by decide) (by decide)⟩)
                      | (apply SeqC.pass
                         · rfl
                         · intro d V hV ht hcl
                           first
                           | exact hV.keep (by decide) (by decide)
                           | (have h25 := ht.dep 25 (by kernel_rfl)
                              have h24 := hcl 25 _ rfl h25 24 (by kernel_rfl)
                              have h23 := hcl 24 _ rfl h24 23 (by kernel_rfl)
                              have h22 := hcl 23 _ rfl h23 22 (by kernel_rfl)
                              exact hV.pass28 h22))
                      simp only [Act.put, List.setIfInBounds_toArray, List.set_cons_succ, List.set_cons_zero]
                    iterate 2
                      first
                      | (apply SeqC.step
                         · rfl
                         · intro d V hV ht hcl
                           have cg := fun i => blk_cell (hV.2.heap gg (fun e => by have := hch _ e; omega)) i
                           simp [Oper.gives, execOp, Act.eval, go_sem, cg, e1, e2, e3]
                           exact ⟨rfl, hV.keep (by decide) (by decide)⟩)
                      | (apply SeqC.pass
                         · rfl
                         · intro d V hV ht hcl
                           first
                           | exact hV.keep (by decide) (by decide)
                           | (have h25 := ht.dep 25 (by kernel_rfl)
                              have h24 := hcl 25 _ rfl h25 24 (by kernel_rfl)
                              have h23 := hcl 24 _ rfl h24 23 (by kernel_rfl)
                              have h22 := hcl 23 _ rfl h23 22 (by kernel_rfl)
                              exact hV.pass28 h22))
                      simp only [Act.put, List.setIfInBounds_toArray, List.set_cons_succ, List.set_cons_zero]
                    iterate 1
                      first
                      | (apply SeqC.step
                         · rfl
                         · intro d V hV ht hcl
                           have hc := HB.out V
                           simp [Oper.gives, execOp, Act.eval, go_sem, e1, e2, e3]
                           refine callsIn_wide.2 (hc.mono ?_); rintro e W9 ⟨rfl, hb⟩; exact ⟨_, rfl, rfl, (hV.fr0 (Fr.of_below (S := fun _ => False) hb)).keep (by decide) (by decide)⟩)
                      | (apply SeqC.pass
                         · rfl
                         · intro d V hV ht hcl
                           first
                           | exact hV.keep (by decide) (by decide)
                           | (have h25 := ht.dep 25 (by kernel_rfl)
                              have h24 := hcl 25 _ rfl h25 24 (by kernel_rfl)
                              have h23 := hcl 24 _ rfl h24 23 (by kernel_rfl)
                              have h22 := hcl 23 _ rfl h23 22 (by kernel_rfl)
                              exact hV.pass28 h22))
                      simp only [Act.put, List.setIfInBounds_toArray, List.set_cons_succ, List.set_cons_zero]
                    iterate 5
                      first
                      | (apply SeqC.step
                         · rfl
                         · intro d V hV ht hcl
                           have cg := fun i => blk_cell (hV.2.heap gg (fun e => by have := hch _ e; omega)) i
                           simp [Oper.gives, execOp, Act.eval, go_sem, cg, e1, e2, e3]
                           exact ⟨rfl, hV.keep (by decide) (by decide)⟩)
                      | (apply SeqC.pass
                         · rfl
                         · intro d V hV ht hcl
                           first
                           | exact hV.keep (by decide) (by decide)
                           | (have h25 := ht.dep 25 (by kernel_rfl)
                              have h24 := hcl 25 _ rfl h25 24 (by kernel_rfl)
                              have h23 := hcl 24 _ rfl h24 23 (by kernel_rfl)
                              have h22 := hcl 23 _ rfl h23 22 (by kernel_rfl)
                              exact hV.pass28 h22))
                      simp only [Act.put, List.setIfInBounds_toArray, List.set_cons_succ, List.set_cons_zero]
                    iterate 1
                      first
                      | (apply SeqC.step
                         · rfl
                         · intro d V hV ht hcl
                           have h22 : d 22 = false := ht.not
                           have h28 : d 28 = false := by
                             cases h : d 28 with
                             | false => rfl
                             | true =>
                               have h25 := hcl 28 _ rfl h 25 (by kernel_rfl)
                               have h24 := hcl 25 _ rfl h25 24 (by kernel_rfl)
                               have h23 := hcl 24 _ rfl h24 23 (by kernel_rfl)
                               have h22' := hcl 23 _ rfl h23 22 (by kernel_rfl)
                               rw [h22] at h22'; cases h22'
                           have hV1 := hV.1
                           rw [h28, h22, if_neg (by decide), if_neg (by decide)] at hV1
                           have hc := HGA V hV1
                           simp [Oper.gives, execOp, Act.eval, go_sem, e1, e2, e3]
                           refine callsIn_wide.2 (hc.mono ?_); rintro e W9 ⟨rfl, hp9, hf9⟩; refine ⟨_, rfl, rfl, ?_, hV.2.trans hf9 (fun _ _ h => h)⟩
                           rw [more_same, more_other _ (by decide), h28, if_neg (by decide), if_pos rfl]; exact hp9)
                      | (apply SeqC.pass
                         · rfl
                         · intro d V hV ht hcl
                           first
                           | exact hV.keep (by decide) (by decide)
                           | (have h25 := ht.dep 25 (by kernel_rfl)
                              have h24 := hcl 25 _ rfl h25 24 (by kernel_rfl)
                              have h23 := hcl 24 _ rfl h24 23 (by kernel_rfl)
                              have h22 := hcl 23 _ rfl h23 22 (by kernel_rfl)
                              exact hV.pass28 h22))
                      simp only [Act.put, List.setIfInBounds_toArray, List.set_cons_succ, List.set_cons_zero]
                    iterate 5
                      first
                      | (apply SeqC.step
                         · rfl
                         · intro d V hV ht hcl
                           have cg := fun i => blk_cell (hV.2.heap gg (fun e => by have := hch _ e; omega)) i
                           simp [Oper.gives, execOp, Act.eval, go_sem, cg, e1, e2, e3]
                           exact ⟨rfl, hV.keep (by decide) (by decide)⟩)
                      | (apply SeqC.pass
                         · rfl
                         · intro d V hV ht hcl
                           first
                           | exact hV.keep (by decide) (by decide)
                           | (have h25 := ht.dep 25 (by kernel_rfl)
                              have h24 := hcl 25 _ rfl h25 24 (by kernel_rfl)
                              have h23 := hcl 24 _ rfl h24 23 (by kernel_rfl)
                              have h22 := hcl 23 _ rfl h23 22 (by kernel_rfl)
                              exact hV.pass28 h22))
                      simp only [Act.put, List.setIfInBounds_toArray, List.set_cons_succ, List.set_cons_zero]
                    iterate 1
                      first
                      | (apply SeqC.step
                         · rfl
                         · intro d V hV ht hcl
                           have h28 : d 28 = false := ht.not
                           have h25 := ht.dep 25 (by kernel_rfl)
                           have h24 := hcl 25 _ rfl h25 24 (by kernel_rfl)
                           have h23 := hcl 24 _ rfl h24 23 (by kernel_rfl)
                           have h22 := hcl 23 _ rfl h23 22 (by kernel_rfl)
                           have hV1 := hV.1
                           rw [h28, h22, if_neg (by decide), if_pos rfl] at hV1
                           have hc := HGB V hV1
                           simp [Oper.gives, execOp, Act.eval, go_sem, e1, e2, e3]
                           refine callsIn_wide.2 (hc.mono ?_); rintro e W9 ⟨rfl, hp9, hf9⟩; refine ⟨_, rfl, rfl, ?_, hV.2.trans hf9 (fun _ _ h => h)⟩
                           rw [more_same, if_pos rfl]; exact hp9)
                      | (apply SeqC.pass
                         · rfl
                         · intro d V hV ht hcl
                           first
                           | exact hV.keep (by decide) (by decide)
                           | (have h25 := ht.dep 25 (by kernel_rfl)
                              have h24 := hcl 25 _ rfl h25 24 (by kernel_rfl)
                              have h23 := hcl 24 _ rfl h24 23 (by kernel_rfl)
                              have h22 := hcl 23 _ rfl h23 22 (by kernel_rfl)
                              exact hV.pass28 h22))
                      simp only [Act.put, List.setIfInBounds_toArray, List.set_cons_succ, List.set_cons_zero]
                    iterate 2
                      first
                      | (apply SeqC.step
                         · rfl
                         · intro d V hV ht hcl
                           have cg := fun i => blk_cell (hV.2.heap gg (fun e => by have := hch _ e; omega)) i
                           simp [Oper.gives, execOp, Act.eval, go_sem, cg, e1, e2, e3]
                           exact ⟨rfl, hV.keep (by decide) (by decide)⟩)
                      | (apply SeqC.pass
                         · rfl
                         · intro d V hV ht hcl
                           first
                           | exact hV.keep (by decide) (by decide)
                           | (have h25 := ht.dep 25 (by kernel_rfl)
                              have h24 := hcl 25 _ rfl h25 24 (by kernel_rfl)
                              have h23 := hcl 24 _ rfl h24 23 (by kernel_rfl)
                              have h22 := hcl 23 _ rfl h23 22 (by kernel_rfl)
                              exact hV.pass28 h22))
                      simp only [Act.put, List.setIfInBounds_toArray, List.set_cons_succ, List.set_cons_zero]
                    refine SeqC.nil fun V hV => ?_
                    go_wp2_with fail
                    go_ret
                    exact ⟨rfl, bl.trans (hV.2.below bl.size (fun i hi e => by have := hch _ e; omega))⟩

                  | false =>
                    have HGB := pg_ok po hd2 hdd2 hb
                    have hmore := pairs_more C (setC (setC C d1 (C d1 ++ [xa])) d2 (setC C d1 (C d1 ++ [xa]) d2 ++ [xb])) (n := Dn) (by omega) (by
                      rw [sumP_set, sumP_set, if_pos hd1, if_pos hd2, setC_other _ _ (Ne.symm hdd)]; simp; omega) (fun i hi => by
                      unfold setC
                      split
                      · rename_i e; subst e; rw [if_neg (Ne.symm hdd)]; simp
                      · split
                        · rename_i e; subst e; simp
                        · omega)
                    rw [HM.out] at hmore
                    have HMO := Lib.hid hmore
                    clear hdd1 hdd2 ha hb hn1 hmore
                    refine (wpIn_wide (n := 0)).1 ?_
                    refine regionIn_seqC (Sg w1.heap.size p Dn Zn S B P O l qb qc C (setC C d1 (C d1 ++ [xa])) (setC (setC C d1 (C d1 ++ [xa])) d2 (setC C d1 (C d1 ++ [xa]) d2 ++ [xb])) WT) rfl (by kernel_rfl) (by kernel_rfl) (by kernel_rfl) (fun _ => trivial) rfl ⟨by simpa using po.fr0 (Fr.refl _ _).drew, (Fr.refl _ _).drew⟩ ?_
                    iterate 2
                      first
                      | (apply SeqC.step
                         · rfl
                         · intro d V hV ht hcl
                           have cg := fun i => blk_cell (hV.2.heap gg (fun e => by have := hch _ e; omega)) i
                           simp [Oper.gives, execOp, Act.eval, go_sem, cg, e1, e2, e3]
                           exact ⟨rfl, hV.keep (by decide) (by decide)⟩)
                      | (apply SeqC.pass
                         · rfl
                         · intro d V hV ht hcl
                           first
                           | exact hV.keep (by decide) (by decide)
                           | (have h25 := ht.dep 25 (by kernel_rfl)
                              have h24 := hcl 25 _ rfl h25 24 (by kernel_rfl)
                              have h23 := hcl 24 _ rfl h24 23 (by kernel_rfl)
                              have h22 := hcl 23 _ rfl h23 22 (by kernel_rfl)
                              exact hV.pass28 h22))
                      simp only [Act.put, List.setIfInBounds_toArray, List.set_cons_succ, List.set_cons_zero]
                    iterate 1
                      first
                      | (apply SeqC.step
                         · rfl
                         · intro d V hV ht hcl
                           have hc := HA.out V
                           simp [Oper.gives, execOp, Act.eval, go_sem, e1, e2, e3]
                           refine callsIn_wide.2 (hc.mono ?_); rintro e W9 ⟨rfl, hb⟩; exact ⟨_, rfl, rfl, (hV.fr0 (Fr.of_below (S := fun _ => False) hb)).keep (by decide) (by decide)⟩)
                      | (apply SeqC.pass
                         · rfl
                         · intro d V hV ht hcl
                           first
                           | exact hV.keep (by decide) (by decide)
                           | (have h25 := ht.dep 25 (by kernel_rfl)
                              have h24 := hcl 25 _ rfl h25 24 (by kernel_rfl)
                              have h23 := hcl 24 _ rfl h24 23 (by kernel_rfl)
                              have h22 := hcl 23 _ rfl h23 22 (by kernel_rfl)
                              exact hV.pass28 h22))
                      simp only [Act.put, List.setIfInBounds_toArray, List.set_cons_succ, List.set_cons_zero]
                    iterate 4
                      first
                      | (apply SeqC.step
                         · rfl
                         · intro d V hV ht hcl
                           have cg := fun i => blk_cell (hV.2.heap gg (fun e => by have := hch _ e; omega)) i
                           simp [Oper.gives, execOp, Act.eval, go_sem, cg, e1, e2, e3]
                           exact ⟨rfl, hV.keep (by decide) (by decide)⟩)
                      | (apply SeqC.pass
                         · rfl
                         · intro d V hV ht hcl
                           first
                           | exact hV.keep (by decide) (by decide)
                           | (have h25 := ht.dep 25 (by kernel_rfl)
                              have h24 := hcl 25 _ rfl h25 24 (by kernel_rfl)
                              have h23 := hcl 24 _ rfl h24 23 (by kernel_rfl)
                              have h22 := hcl 23 _ rfl h23 22 (by kernel_rfl)
                              exact hV.pass28 h22))
                      simp only [Act.put, List.setIfInBounds_toArray, List.set_cons_succ, List.set_cons_zero]
                    iterate 1
                      first
                      | (apply SeqC.step
                         · rfl
                         · intro d V hV ht hcl
                           have hc := HB.out V
                           simp [Oper.gives, execOp, Act.eval, go_sem, e1, e2, e3]
                           refine callsIn_wide.2 (hc.mono ?_); rintro e W9 ⟨rfl, hb⟩; exact ⟨_, rfl, rfl, (hV.fr0 (Fr.of_below (S := fun _ => False) hb)).keep (by decide) (by decide)⟩)
                      | (apply SeqC.pass
                         · rfl
                         · intro d V hV ht hcl
                           first
                           | exact hV.keep (by decide) (by decide)
                           | (have h25 := ht.dep 25 (by kernel_rfl)
                              have h24 := hcl 25 _ rfl h25 24 (by kernel_rfl)
                              have h23 := hcl 24 _ rfl h24 23 (by kernel_rfl)
                              have h22 := hcl 23 _ rfl h23 22 (by kernel_rfl)
                              exact hV.pass28 h22))
                      simp only [Act.put, List.setIfInBounds_toArray, List.set_cons_succ, List.set_cons_zero]
                    iterate 5
                      first
                      | (apply SeqC.step
                         · rfl
                         · intro d V hV ht hcl
                           have cg := fun i => blk_cell (hV.2.heap gg (fun e => by have := hch _ e; omega)) i
                           simp [Oper.gives, execOp, Act.eval, go_sem, cg, e1, e2, e3]
                           exact ⟨rfl, hV.keep (by decide) (by decide)⟩)
                      | (apply SeqC.pass
                         · rfl
                         · intro d V hV ht hcl
                           first
                           | exact hV.keep (by decide) (by decide)
                           | (have h25 := ht.dep 25 (by kernel_rfl)
                              have h24 := hcl 25 _ rfl h25 24 (by kernel_rfl)
                              have h23 := hcl 24 _ rfl h24 23 (by kernel_rfl)
                              have h22 := hcl 23 _ rfl h23 22 (by kernel_rfl)
                              exact hV.pass28 h22))
                      simp only [Act.put, List.setIfInBounds_toArray, List.set_cons_succ, List.set_cons_zero]
                    iterate 1
                      first
                      | (apply SeqC.step
                         · rfl
                         · intro d V hV ht hcl
                           have hc := HA.out V
                           simp [Oper.gives, execOp, Act.eval, go_sem, e1, e2, e3]
                           refine callsIn_wide.2 (hc.mono ?_); rintro e W9 ⟨rfl, hb⟩; exact ⟨_, rfl, rfl, (hV.fr0 (Fr.of_below (S := fun _ => False) hb)).keep (by decide) (by decide)⟩)
                      | (apply SeqC.pass
                         · rfl
                         · intro d V hV ht hcl
                           first
                           | exact hV.keep (by decide) (by decide)
                           | (have h25 := ht.dep 25 (by kernel_rfl)
                              have h24 := hcl 25 _ rfl h25 24 (by kernel_rfl)
                              have h23 := hcl 24 _ rfl h24 23 (by kernel_rfl)
                              have h22 := hcl 23 _ rfl h23 22 (by kernel_rfl)
                              exact hV.pass28 h22))
                      simp only [Act.put, List.setIfInBounds_toArray, List.set_cons_succ, List.set_cons_zero]
                    iterate 2
                      first
                      | (apply SeqC.step
                         · rfl
                         · intro d V hV ht hcl
                           have cg := fun i => blk_cell (hV.2.heap gg (fun e => by have := hch _ e; omega)) i
                           simp [Oper.gives, execOp, Act.eval, go_sem, cg, e1, e2, e3]
                           exact ⟨rfl, hV.keep (by decide) (by decide)⟩)
                      | (apply SeqC.pass
                         · rfl
                         · intro d V hV ht hcl
                           first
                           | exact hV.keep (by decide) (by decide)
                           | (have h25 := ht.dep 25 (by kernel_rfl)
                              have h24 := hcl 25 _ rfl h25 24 (by kernel_rfl)
                              have h23 := hcl 24 _ rfl h24 23 (by kernel_rfl)
                              have h22 := hcl 23 _ rfl h23 22 (by kernel_rfl)
                              exact hV.pass28 h22))
                      simp only [Act.put, List.setIfInBounds_toArray, List.set_cons_succ, List.set_cons_zero]
                    iterate 1
                      first
                      | (apply SeqC.step
                         · rfl
                         · intro d V hV ht hcl
                           have hc := HB.out V
                           simp [Oper.gives, execOp, Act.eval, go_sem, e1, e2, e3]
                           refine callsIn_wide.2 (hc.mono ?_); rintro e W9 ⟨rfl, hb⟩; exact ⟨_, rfl, rfl, (hV.fr0 (Fr.of_below (S := fun _ => False) hb)).keep (by decide) (by decide)⟩)
                      | (apply SeqC.pass
                         · rfl
                         · intro d V hV ht hcl
                           first
                           | exact hV.keep (by decide) (by decide)
                           | (have h25 := ht.dep 25 (by kernel_rfl)
                              have h24 := hcl 25 _ rfl h25 24 (by kernel_rfl)
                              have h23 := hcl 24 _ rfl h24 23 (by kernel_rfl)
                              have h22 := hcl 23 _ rfl h23 22 (by kernel_rfl)
                              exact hV.pass28 h22))
                      simp only [Act.put, List.setIfInBounds_toArray, List.set_cons_succ, List.set_cons_zero]
                    iterate 5
                      first
                      | (apply SeqC.step
                         · rfl
                         · intro d V hV ht hcl
                           have cg := fun i => blk_cell (hV.2.heap gg (fun e => by have := hch _ e; omega)) i
                           simp [Oper.gives, execOp, Act.eval, go_sem, cg, e1, e2, e3]
                           exact ⟨rfl, hV.keep (by decide) (by decide)⟩)
                      | (apply SeqC.pass
                         · rfl
                         · intro d V hV ht hcl
                           first
                           | exact hV.keep (by decide) (by decide)
                           | (have h25 := ht.dep 25 (by kernel_rfl)
                              have h24 := hcl 25 _ rfl h25 24 (by kernel_rfl)
                              have h23 := hcl 24 _ rfl h24 23 (by kernel_rfl)
                              have h22 := hcl 23 _ rfl h23 22 (by kernel_rfl)
                              exact hV.pass28 h22))
                      simp only [Act.put, List.setIfInBounds_toArray, List.set_cons_succ, List.set_cons_zero]
                    iterate 1
                      first
                      | (apply SeqC.step
                         · rfl
                         · intro d V hV ht hcl
                           have h22 : d 22 = false := ht.not
                           have h28 : d 28 = false := by
                             cases h : d 28 with
                             | false => rfl
                             | true =>
                               have h25 := hcl 28 _ rfl h 25 (by kernel_rfl)
                               have h24 := hcl 25 _ rfl h25 24 (by kernel_rfl)
                               have h23 := hcl 24 _ rfl h24 23 (by kernel_rfl)
                               have h22' := hcl 23 _ rfl h23 22 (by kernel_rfl)
                               rw [h22] at h22'; cases h22'
                           have hV1 := hV.1
                           rw [h28, h22, if_neg (by decide), if_neg (by decide)] at hV1
                           have hc := HGA V hV1
                           simp [Oper.gives, execOp, Act.eval, go_sem, e1, e2, e3]
                           refine callsIn_wide.2 (hc.mono ?_); rintro e W9 ⟨rfl, hp9, hf9⟩; refine ⟨_, rfl, rfl, ?_, hV.2.trans hf9 (fun _ _ h => h)⟩
                           rw [more_same, more_other _ (by decide), h28, if_neg (by decide), if_pos rfl]; exact hp9)
                      | (apply SeqC.pass
                         · rfl
                         · intro d V hV ht hcl
                           first
                           | exact hV.keep (by decide) (by decide)
                           | (have h25 := ht.dep 25 (by kernel_rfl)
                              have h24 := hcl 25 _ rfl h25 24 (by kernel_rfl)
                              have h23 := hcl 24 _ rfl h24 23 (by kernel_rfl)
                              have h22 := hcl 23 _ rfl h23 22 (by kernel_rfl)
                              exact hV.pass28 h22))
                      simp only [Act.put, List.setIfInBounds_toArray, List.set_cons_succ, List.set_cons_zero]
                    iterate 5
                      first
                      | (apply SeqC.step
                         · rfl
                         · intro d V hV ht hcl
                           have cg := fun i => blk_cell (hV.2.heap gg (fun e => by have := hch _ e; omega)) i
                           simp [Oper.gives, execOp, Act.eval, go_sem, cg, e1, e2, e3]
                           exact ⟨rfl, hV.keep (by decide) (by decide)⟩)
                      | (apply SeqC.pass
                         · rfl
                         · intro d V hV ht hcl
                           first
                           | exact hV.keep (by decide) (by decide)
                           | (have h25 := ht.dep 25 (by kernel_rfl)
                              have h24 := hcl 25 _ rfl h25 24 (by kernel_rfl)
                              have h23 := hcl 24 _ rfl h24 23 (by kernel_rfl)
                              have h22 := hcl 23 _ rfl h23 22 (by kernel_rfl)
                              exact hV.pass28 h22))
                      simp only [Act.put, List.setIfInBounds_toArray, List.set_cons_succ, List.set_cons_zero]
                    iterate 1
                      first
                      | (apply SeqC.step
                         · rfl
                         · intro d V hV ht hcl
                           have h28 : d 28 = false := ht.not
                           have h25 := ht.dep 25 (by kernel_rfl)
                           have h24 := hcl 25 _ rfl h25 24 (by kernel_rfl)
                           have h23 := hcl 24 _ rfl h24 23 (by kernel_rfl)
                           have h22 := hcl 23 _ rfl h23 22 (by kernel_rfl)
                           have hV1 := hV.1
                           rw [h28, h22, if_neg (by decide), if_pos rfl] at hV1
                           have hc := HGB V hV1
                           simp [Oper.gives, execOp, Act.eval, go_sem, e1, e2, e3]
                           refine callsIn_wide.2 (hc.mono ?_); rintro e W9 ⟨rfl, hp9, hf9⟩; refine ⟨_, rfl, rfl, ?_, hV.2.trans hf9 (fun _ _ h => h)⟩
                           rw [more_same, if_pos rfl]; exact hp9)
                      | (apply SeqC.pass
                         · rfl
                         · intro d V hV ht hcl
                           first
                           | exact hV.keep (by decide) (by decide)
                           | (have h25 := ht.dep 25 (by kernel_rfl)
                              have h24 := hcl 25 _ rfl h25 24 (by kernel_rfl)
                              have h23 := hcl 24 _ rfl h24 23 (by kernel_rfl)
                              have h22 := hcl 23 _ rfl h23 22 (by kernel_rfl)
                              exact hV.pass28 h22))
                      simp only [Act.put, List.setIfInBounds_toArray, List.set_cons_succ, List.set_cons_zero]
                    iterate 2
                      first
                      | (apply SeqC.step
                         · rfl
                         · intro d V hV ht hcl
                           have cg := fun i => blk_cell (hV.2.heap gg (fun e => by have := hch _ e; omega)) i
                           simp [Oper.gives, execOp, Act.eval, go_sem, cg, e1, e2, e3]
                           exact ⟨rfl, hV.keep (by decide) (by decide)⟩)
                      | (apply SeqC.pass
                         · rfl
                         · intro d V hV ht hcl
                           first
                           | exact hV.keep (by decide) (by decide)
                           | (have h25 := ht.dep 25 (by kernel_rfl)
                              have h24 := hcl 25 _ rfl h25 24 (by kernel_rfl)
                              have h23 := hcl 24 _ rfl h24 23 (by kernel_rfl)
                              have h22 := hcl 23 _ rfl h23 22 (by kernel_rfl)
                              exact hV.pass28 h22))
                      simp only [Act.put, List.setIfInBounds_toArray, List.set_cons_succ, List.set_cons_zero]
                    refine SeqC.nil fun V hV => ?_

                    have hV1 := hV.1
                    rw [if_pos (by decide)] at hV1
                    have hpc := pairs_calls hV1
                    obtain ⟨n2, hn2⟩ : ∃ n2, pairsP Dn (setC (setC C d1 (C d1 ++ [xa])) d2 (setC C d1 (C d1 ++ [xa]) d2 ++ [xb])) = n2 := ⟨_, rfl⟩
                    rw [hn2] at hpc
                    have hlt := HMO.out
                    rw [hn2] at hlt
                    have hltd : decide ((m : Int) < n2) = true := decide_eq_true hlt
                    clear hn2
                    go_wp2_with fail
                    refine hpc.mono ?_
                    rintro e W9 ⟨rfl, hf9⟩
                    clear hpc
                    go_wp2_with fail
                    go_ret
                    exact ⟨by first | rfl | (rw [hltd]; rfl) | (simp; omega), (bl.trans (hV.2.below bl.size (fun i hi e => by have := hch _ e; omega))).trans (hf9.below (by have := bl.size; have := hV.2.size; omega) (fun _ _ => id))⟩

        · obtain ⟨A, Bd, ha, hb, hab, hfa, hfb, hna, hnb, hm1, hm2⟩ := pairs_two C (n := Dn) (by rw [HM.out]; omega)
          obtain ⟨x, ta, hca⟩ : ∃ x ta, C A = x :: ta := by
            cases h : C A with
            | nil => exact absurd h hna
            | cons x t => exact ⟨x, t, rfl⟩
          obtain ⟨y, tb, hcb⟩ : ∃ y tb, C Bd = y :: tb := by
            cases h : C Bd with
            | nil => exact absurd h hnb
            | cons x t => exact ⟨x, t, rfl⟩
          have hless := (pairs_less C ha hb hab hm1 hm2 hca hcb).1
          rw [HM.out] at hless
          have hps := pair_some po (by rw [HM.out]; omega) ha hb hab hfa hfb hca hcb
          have za := po.zn A ha
          have zb := po.zn Bd hb
          rw [hca] at za
          rw [hcb] at zb
          have dx := dom_at po ha (za.2 x (by simp)).1 (za.2 x (by simp)).2
          have dy := dom_at po hb (zb.2 y (by simp)).1 (zb.2 y (by simp)).2
          have nx : x ∉ ta := (List.nodup_cons.1 za.1).1
          have ny : y ∉ tb := (List.nodup_cons.1 zb.1).1
          have hdx := fun V => HDI.out x V
          have hdy := fun V => HDI.out y V
          rw [dx] at hdx
          rw [dy] at hdy
          have HL := Lib.hid hless
          have DX := Lib.hid dx
          have DY := Lib.hid dy
          have NX := Lib.hid nx
          have NY := Lib.hid ny
          have HDX := Lib.hid hdx
          have HDY := Lib.hid hdy
          have HCA := Lib.hid hca
          have HCB := Lib.hid hcb
          have hmb : ((m : Int) != 0) = true := by simpa using hm0
          clear hless dx dy nx ny hdx hdy hca hcb za zb hm1 hm2 hna hnb hfa hfb
          go_wp2_with fail
          refine hps.mono ?_
          rintro e W3 ⟨rfl, po3, f3⟩
          have hch0 : ∀ k, Chs Dn qc k → w1.heap.size ≤ k := by rintro k ⟨d, hd, rfl⟩; exact (po.bq d hd).2
          replace gg := f3.heap gg (fun e => by have := hch0 _ e; omega)
          replace bl := bl.trans (f3.below bl.size (fun i hi e => by have := hch0 _ e; omega))
          clear hps f3 po
          have hab2 : ((A : Int) == (Bd : Int)) = false := by simp; omega
          have hab3 : ¬ (A = Bd) := by omega
          have hm1 : ((m : Int) - 1 != (m : Int) - 1) = false := by simp
          have hwm : IntKind.i64.wrap ((m : Int) - 1) = (m : Int) - 1 := IntWalk.i64_in _ (by omega)
          go_wp2_with fail
          refine (wpIn_wide (n := 0)).1 ?_
          refine regionIn_seq (fun _ V => Fr (fun _ => False) W3 V) rfl (by kernel_rfl) (by kernel_rfl) (by kernel_rfl) (fun _ => trivial) rfl (Fr.refl _ _).drew ?_
          iterate 1
            first
            | (apply SeqR.step
               · rfl
               · intro d V hV ht
                 have cg := fun i => blk_cell (hV.heap gg id) i
                 simp [Oper.gives, execOp, Act.eval, go_sem, cg, hab2, hab3, hm1, hwm]
                 exact ⟨rfl, hV⟩)
            | (apply SeqR.pass
               · rfl
               · exact fun d V hV _ => hV)
            simp only [Act.put, List.setIfInBounds_toArray, List.set_cons_succ, List.set_cons_zero]
          iterate 1
            first
            | (apply SeqR.step
               · rfl
               · intro d V hV ht
                 have hc := pairs_calls (po3.fr0 hV)
                 rw [HL.out] at hc
                 simp [Oper.gives, execOp, Act.eval, go_sem]
                 refine callsIn_wide.2 (hc.mono ?_); rintro e W9 ⟨rfl, hf9⟩; exact ⟨_, rfl, rfl, hV.trans hf9 (fun _ _ h => h)⟩)
            | (apply SeqR.pass
               · rfl
               · exact fun d V hV _ => hV)
            simp only [Act.put, List.setIfInBounds_toArray, List.set_cons_succ, List.set_cons_zero]
          iterate 6
            first
            | (apply SeqR.step
               · rfl
               · intro d V hV ht
                 have cg := fun i => blk_cell (hV.heap gg id) i
                 simp [Oper.gives, execOp, Act.eval, go_sem, cg, hab2, hab3, hm1, hwm]
                 exact ⟨rfl, hV⟩)
            | (apply SeqR.pass
               · rfl
               · exact fun d V hV _ => hV)
            simp only [Act.put, List.setIfInBounds_toArray, List.set_cons_succ, List.set_cons_zero]
          iterate 1
            first
            | (apply SeqR.step
               · rfl
               · intro d V hV ht
                 have hc := HDX.out V
                 simp [Oper.gives, execOp, Act.eval, go_sem]
                 refine callsIn_wide.2 (hc.mono ?_); rintro e W9 ⟨rfl, hb⟩; exact ⟨_, rfl, rfl, hV.trans (Fr.of_below (S := fun _ => False) hb) (fun _ _ h => h)⟩)
            | (apply SeqR.pass
               · rfl
               · exact fun d V hV _ => hV)
            simp only [Act.put, List.setIfInBounds_toArray, List.set_cons_succ, List.set_cons_zero]
          iterate 2
            first
            | (apply SeqR.step
               · rfl
               · intro d V hV ht
                 have cg := fun i => blk_cell (hV.heap gg id) i
                 simp [Oper.gives, execOp, Act.eval, go_sem, cg, hab2, hab3, hm1, hwm]
                 exact ⟨rfl, hV⟩)
            | (apply SeqR.pass
               · rfl
               · exact fun d V hV _ => hV)
            simp only [Act.put, List.setIfInBounds_toArray, List.set_cons_succ, List.set_cons_zero]
          iterate 1
            first
            | (apply SeqR.step
               · rfl
               · intro d V hV ht
                 have hc := HDY.out V
                 simp [Oper.gives, execOp, Act.eval, go_sem]
                 refine callsIn_wide.2 (hc.mono ?_); rintro e W9 ⟨rfl, hb⟩; exact ⟨_, rfl, rfl, hV.trans (Fr.of_below (S := fun _ => False) hb) (fun _ _ h => h)⟩)
            | (apply SeqR.pass
               · rfl
               · exact fun d V hV _ => hV)
            simp only [Act.put, List.setIfInBounds_toArray, List.set_cons_succ, List.set_cons_zero]
          iterate 2
            first
            | (apply SeqR.step
               · rfl
               · intro d V hV ht
                 have cg := fun i => blk_cell (hV.heap gg id) i
                 simp [Oper.gives, execOp, Act.eval, go_sem, cg, hab2, hab3, hm1, hwm]
                 exact ⟨rfl, hV⟩)
            | (apply SeqR.pass
               · rfl
               · exact fun d V hV _ => hV)
            simp only [Act.put, List.setIfInBounds_toArray, List.set_cons_succ, List.set_cons_zero]
          refine SeqR.nil fun V hV => ?_
          replace po3 := po3.fr0 hV
          replace gg := hV.heap gg id
          replace bl := bl.trans (hV.below bl.size (fun _ _ => id))
          clear hV W3 hwm
          have hgx := pg_ok po3 ha DX.out (by
            cases h : hasB (setC (setC C A ta) Bd tb) Dn x with
            | false => rfl
            | true =>
              have := (hasB_at po3 ha DX.out).1 h
              rw [setC_other _ _ (Ne.symm hab), setC_same] at this
              exact absurd this NX.out) V po3
          go_wp2_with fail
          refine hgx.mono ?_
          rintro e W4 ⟨rfl, po4, f4⟩
          replace gg := f4.heap gg (fun e => by have := hch0 _ e; omega)
          replace bl := bl.trans (f4.below bl.size (fun i hi e => by have := hch0 _ e; omega))
          clear hgx f4 po3
          have hgy := pg_ok po4 hb DY.out (by
            cases h : hasB (setC (setC (setC C A ta) Bd tb) A (setC (setC C A ta) Bd tb A ++ [x])) Dn y with
            | false => rfl
            | true =>
              have := (hasB_at po4 hb DY.out).1 h
              rw [setC_other _ _ hab, setC_same] at this
              exact absurd this NY.out) W4 po4
          go_wp2_with fail
          refine hgy.mono ?_
          rintro e WT ⟨rfl, po5, f5⟩
          replace gg := f5.heap gg (fun e => by have := hch0 _ e; omega)
          replace bl := bl.trans (f5.below bl.size (fun i hi e => by have := hch0 _ e; omega))
          clear hgy f5 po4
          have hlen : ∀ i, i < Dn → (setC (setC (setC (setC C A ta) Bd tb) A (setC (setC C A ta) Bd tb A ++ [x])) Bd (setC (setC (setC C A ta) Bd tb) A (setC (setC C A ta) Bd tb A ++ [x]) Bd ++ [y]) i).length = (C i).length := fun i hi => by
            by_cases e1 : i = Bd
            · subst e1
              rw [setC_same, setC_other _ _ hab, setC_same, HCB.out]; simp
            · rw [setC_other _ _ e1]
              by_cases e2 : i = A
              · subst e2
                rw [setC_same, setC_other _ _ e1, setC_same, HCA.out]; simp
              · rw [setC_other _ _ e2, setC_other _ _ e1, setC_other _ _ e2]
          have hm4 := (pairsP_len hlen).trans HM.out
          clear HM HCA HCB HL NX NY DX DY HDX HDY hlen
          generalize setC (setC (setC (setC C A ta) Bd tb) A (setC (setC C A ta) Bd tb A ++ [x])) Bd (setC (setC (setC C A ta) Bd tb) A (setC (setC C A ta) Bd tb A ++ [x]) Bd ++ [y]) = C4 at po5 hm4
          clear C
          obtain ⟨C, hC4⟩ : ∃ C' : Nat → List Int, C' = C4 := ⟨_, rfl⟩
          subst hC4
          have po := po5
          clear po5
          have HM := Lib.hid hm4
          have hpc := pairs_calls po
          rw [hm4] at hpc
          clear hm4
          have hmm : ((m : Int) != (m : Int)) = false := by simp
          go_wp2_with fail
          refine hpc.mono ?_
          rintro e WT2 ⟨rfl, f6⟩
          replace po := po.fr0 f6
          replace gg := f6.heap gg id
          replace bl := bl.trans (f6.below bl.size (fun _ _ => id))
          clear hpc f6 WT hmm
          obtain ⟨WT, hWT⟩ : ∃ WT' : World, WT' = WT2 := ⟨_, rfl⟩
          subst hWT
          go_upto_region 26 with fail
          have hch : ∀ k, Chs Dn qc k → w1.heap.size ≤ k := by rintro k ⟨d, hd, rfl⟩; exact (po.bq d hd).2
          obtain ⟨da, hda⟩ : ∃ da, domP Dn Zn xa = da := ⟨_, rfl⟩
          obtain ⟨db, hdb⟩ : ∃ db, domP Dn Zn xb = db := ⟨_, rfl⟩
          have ha0 := fun V => HDI.out xa V
          have hb0 := fun V => HDI.out xb V
          rw [hda] at ha0
          rw [hdb] at hb0
          have HA := Lib.hid ha0
          have HB := Lib.hid hb0
          have HDA := Lib.hid hda
          have HDB := Lib.hid hdb
          clear ha0 hb0 hda hdb
          by_cases h1 : da < 0
          · have e1 : decide (da < 0) = true := decide_eq_true h1
            refine (wpIn_wide (n := 0)).1 ?_
            refine regionIn_seqC (Sg w1.heap.size p Dn Zn S B P O l qb qc C C C WT) rfl (by kernel_rfl) (by kernel_rfl) (by kernel_rfl) (fun _ => trivial) rfl ⟨by simpa using po.fr0 (Fr.refl _ _).drew, (Fr.refl _ _).drew⟩ ?_
            iterate 2
              first
              | (apply SeqC.step
                 · rfl
                 · intro d V hV ht hcl
                   have cg := fun i => blk_cell (hV.2.heap gg (fun e => by have := hch _ e; omega)) i
                   simp [Oper.gives, execOp, Act.eval, go_sem, cg, e1]
                   exact ⟨rfl, hV.any _⟩)
              | (apply SeqC.pass
                 · rfl
                 · exact fun d V hV _ _ => hV.any _)
              simp only [Act.put, List.setIfInBounds_toArray, List.set_cons_succ, List.set_cons_zero]
            iterate 1
              first
              | (apply SeqC.step
                 · rfl
                 · intro d V hV ht hcl
                   have hc := HA.out V
                   simp [Oper.gives, execOp, Act.eval, go_sem, e1]
                   refine callsIn_wide.2 (hc.mono ?_); rintro e W9 ⟨rfl, hb⟩; exact ⟨_, rfl, rfl, (hV.fr0 (Fr.of_below (S := fun _ => False) hb)).any _⟩)
              | (apply SeqC.pass
                 · rfl
                 · exact fun d V hV _ _ => hV.any _)
              simp only [Act.put, List.setIfInBounds_toArray, List.set_cons_succ, List.set_cons_zero]
            iterate 28
              first
              | (apply SeqC.step
                 · rfl
                 · intro d V hV ht hcl
                   have cg := fun i => blk_cell (hV.2.heap gg (fun e => by have := hch _ e; omega)) i
                   simp [Oper.gives, execOp, Act.eval, go_sem, cg, e1]
                   exact ⟨rfl, hV.any _⟩)
              | (apply SeqC.pass
                 · rfl
                 · exact fun d V hV _ _ => hV.any _)
              simp only [Act.put, List.setIfInBounds_toArray, List.set_cons_succ, List.set_cons_zero]
            refine SeqC.nil fun V hV => ?_
            go_wp2_with fail
            go_ret
            exact ⟨rfl, bl.trans (hV.2.below bl.size (fun i hi e => by have := hch _ e; omega))⟩

          · have e1 : decide (da < 0) = false := decide_eq_false h1
            by_cases h2 : db < 0
            · have e2 : decide (db < 0) = true := decide_eq_true h2
              refine (wpIn_wide (n := 0)).1 ?_
              refine regionIn_seqC (Sg w1.heap.size p Dn Zn S B P O l qb qc C C C WT) rfl (by kernel_rfl) (by kernel_rfl) (by kernel_rfl) (fun _ => trivial) rfl ⟨by simpa using po.fr0 (Fr.refl _ _).drew, (Fr.refl _ _).drew⟩ ?_
              iterate 2
                first
                | (apply SeqC.step
                   · rfl
                   · intro d V hV ht hcl
                     have cg := fun i => blk_cell (hV.2.heap gg (fun e => by have := hch _ e; omega)) i
                     simp [Oper.gives, execOp, Act.eval, go_sem, cg, e1, e2]
                     exact ⟨rfl, hV.any _⟩)
                | (apply SeqC.pass
                   · rfl
                   · exact fun d V hV _ _ => hV.any _)
                simp only [Act.put, List.setIfInBounds_toArray, List.set_cons_succ, List.set_cons_zero]
              iterate 1
                first
                | (apply SeqC.step
                   · rfl
                   · intro d V hV ht hcl
                     have hc := HA.out V
                     simp [Oper.gives, execOp, Act.eval, go_sem, e1, e2]
                     refine callsIn_wide.2 (hc.mono ?_); rintro e W9 ⟨rfl, hb⟩; exact ⟨_, rfl, rfl, (hV.fr0 (Fr.of_below (S := fun _ => False) hb)).any _⟩)
                | (apply SeqC.pass
                   · rfl
                   · exact fun d V hV _ _ => hV.any _)
                simp only [Act.put, List.setIfInBounds_toArray, List.set_cons_succ, List.set_cons_zero]
              iterate 4
                first
                | (apply SeqC.step
                   · rfl
                   · intro d V hV ht hcl
                     have cg := fun i => blk_cell (hV.2.heap gg (fun e => by have := hch _ e; omega)) i
                     simp [Oper.gives, execOp, Act.eval, go_sem, cg, e1, e2]
                     exact ⟨rfl, hV.any _⟩)
                | (apply SeqC.pass
                   · rfl
                   · exact fun d V hV _ _ => hV.any _)
                simp only [Act.put, List.setIfInBounds_toArray, List.set_cons_succ, List.set_cons_zero]
              iterate 1
                first
                | (apply SeqC.step
                   · rfl
                   · intro d V hV ht hcl
                     have hc := HB.out V
                     simp [Oper.gives, execOp, Act.eval, go_sem, e1, e2]
                     refine callsIn_wide.2 (hc.mono ?_); rintro e W9 ⟨rfl, hb⟩; exact ⟨_, rfl, rfl, (hV.fr0 (Fr.of_below (S := fun _ => False) hb)).any _⟩)
                | (apply SeqC.pass
                   · rfl
                   · exact fun d V hV _ _ => hV.any _)
                simp only [Act.put, List.setIfInBounds_toArray, List.set_cons_succ, List.set_cons_zero]
              iterate 23
                first
                | (apply SeqC.step
                   · rfl
                   · intro d V hV ht hcl
                     have cg := fun i => blk_cell (hV.2.heap gg (fun e => by have := hch _ e; omega)) i
                     simp [Oper.gives, execOp, Act.eval, go_sem, cg, e1, e2]
                     exact ⟨rfl, hV.any _⟩)
                | (apply SeqC.pass
                   · rfl
                   · exact fun d V hV _ _ => hV.any _)
                simp only [Act.put, List.setIfInBounds_toArray, List.set_cons_succ, List.set_cons_zero]
              refine SeqC.nil fun V hV => ?_
              go_wp2_with fail
              go_ret
              exact ⟨rfl, bl.trans (hV.2.below bl.size (fun i hi e => by have := hch _ e; omega))⟩

            · have e2 : decide (db < 0) = false := decide_eq_false h2
              by_cases h3 : da = db
              · have e3 : (da == db) = true := by simpa using h3
                refine (wpIn_wide (n := 0)).1 ?_
                refine regionIn_seqC (Sg w1.heap.size p Dn Zn S B P O l qb qc C C C WT) rfl (by kernel_rfl) (by kernel_rfl) (by kernel_rfl) (fun _ => trivial) rfl ⟨by simpa using po.fr0 (Fr.refl _ _).drew, (Fr.refl _ _).drew⟩ ?_
                iterate 2
                  first
                  | (apply SeqC.step
                     · rfl
                     · intro d V hV ht hcl
                       have cg := fun i => blk_cell (hV.2.heap gg (fun e => by have := hch _ e; omega)) i
                       simp [Oper.gives, execOp, Act.eval, go_sem, cg, e1, e2, e3]
                       exact ⟨rfl, hV.any _⟩)
                  | (apply SeqC.pass
                     · rfl
                     · exact fun d V hV _ _ => hV.any _)
                  simp only [Act.put, List.setIfInBounds_toArray, List.set_cons_succ, List.set_cons_zero]
                iterate 1
                  first
                  | (apply SeqC.step
                     · rfl
                     · intro d V hV ht hcl
                       have hc := HA.out V
                       simp [Oper.gives, execOp, Act.eval, go_sem, e1, e2, e3]
                       refine callsIn_wide.2 (hc.mono ?_); rintro e W9 ⟨rfl, hb⟩; exact ⟨_, rfl, rfl, (hV.fr0 (Fr.of_below (S := fun _ => False) hb)).any _⟩)
                  | (apply SeqC.pass
                     · rfl
                     · exact fun d V hV _ _ => hV.any _)
                  simp only [Act.put, List.setIfInBounds_toArray, List.set_cons_succ, List.set_cons_zero]
                iterate 4
                  first
                  | (apply SeqC.step
                     · rfl
                     · intro d V hV ht hcl
                       have cg := fun i => blk_cell (hV.2.heap gg (fun e => by have := hch _ e; omega)) i
                       simp [Oper.gives, execOp, Act.eval, go_sem, cg, e1, e2, e3]
                       exact ⟨rfl, hV.any _⟩)
                  | (apply SeqC.pass
                     · rfl
                     · exact fun d V hV _ _ => hV.any _)
                  simp only [Act.put, List.setIfInBounds_toArray, List.set_cons_succ, List.set_cons_zero]
                iterate 1
                  first
                  | (apply SeqC.step
                     · rfl
                     · intro d V hV ht hcl
                       have hc := HB.out V
                       simp [Oper.gives, execOp, Act.eval, go_sem, e1, e2, e3]
                       refine callsIn_wide.2 (hc.mono ?_); rintro e W9 ⟨rfl, hb⟩; exact ⟨_, rfl, rfl, (hV.fr0 (Fr.of_below (S := fun _ => False) hb)).any _⟩)
                  | (apply SeqC.pass
                     · rfl
                     · exact fun d V hV _ _ => hV.any _)
                  simp only [Act.put, List.setIfInBounds_toArray, List.set_cons_succ, List.set_cons_zero]
                iterate 5
                  first
                  | (apply SeqC.step
                     · rfl
                     · intro d V hV ht hcl
                       have cg := fun i => blk_cell (hV.2.heap gg (fun e => by have := hch _ e; omega)) i
                       simp [Oper.gives, execOp, Act.eval, go_sem, cg, e1, e2, e3]
                       exact ⟨rfl, hV.any _⟩)
                  | (apply SeqC.pass
                     · rfl
                     · exact fun d V hV _ _ => hV.any _)
                  simp only [Act.put, List.setIfInBounds_toArray, List.set_cons_succ, List.set_cons_zero]
                iterate 1
                  first
                  | (apply SeqC.step
                     · rfl
                     · intro d V hV ht hcl
                       have hc := HA.out V
                       simp [Oper.gives, execOp, Act.eval, go_sem, e1, e2, e3]
                       refine callsIn_wide.2 (hc.mono ?_); rintro e W9 ⟨rfl, hb⟩; exact ⟨_, rfl, rfl, (hV.fr0 (Fr.of_below (S := fun _ => False) hb)).any _⟩)
                  | (apply SeqC.pass
                     · rfl
                     · exact fun d V hV _ _ => hV.any _)
                  simp only [Act.put, List.setIfInBounds_toArray, List.set_cons_succ, List.set_cons_zero]
                iterate 2
                  first
                  | (apply SeqC.step
                     · rfl
                     · intro d V hV ht hcl
                       have cg := fun i => blk_cell (hV.2.heap gg (fun e => by have := hch _ e; omega)) i
                       simp [Oper.gives, execOp, Act.eval, go_sem, cg, e1, e2, e3]
                       exact ⟨rfl, hV.any _⟩)
                  | (apply SeqC.pass
                     · rfl
                     · exact fun d V hV _ _ => hV.any _)
                  simp only [Act.put, List.setIfInBounds_toArray, List.set_cons_succ, List.set_cons_zero]
                iterate 1
                  first
                  | (apply SeqC.step
                     · rfl
                     · intro d V hV ht hcl
                       have hc := HB.out V
                       simp [Oper.gives, execOp, Act.eval, go_sem, e1, e2, e3]
                       refine callsIn_wide.2 (hc.mono ?_); rintro e W9 ⟨rfl, hb⟩; exact ⟨_, rfl, rfl, (hV.fr0 (Fr.of_below (S := fun _ => False) hb)).any _⟩)
                  | (apply SeqC.pass
                     · rfl
                     · exact fun d V hV _ _ => hV.any _)
                  simp only [Act.put, List.setIfInBounds_toArray, List.set_cons_succ, List.set_cons_zero]
                iterate 14
                  first
                  | (apply SeqC.step
                     · rfl
                     · intro d V hV ht hcl
                       have cg := fun i => blk_cell (hV.2.heap gg (fun e => by have := hch _ e; omega)) i
                       simp [Oper.gives, execOp, Act.eval, go_sem, cg, e1, e2, e3]
                       exact ⟨rfl, hV.any _⟩)
                  | (apply SeqC.pass
                     · rfl
                     · exact fun d V hV _ _ => hV.any _)
                  simp only [Act.put, List.setIfInBounds_toArray, List.set_cons_succ, List.set_cons_zero]
                refine SeqC.nil fun V hV => ?_
                go_wp2_with fail
                go_ret
                exact ⟨rfl, bl.trans (hV.2.below bl.size (fun i hi e => by have := hch _ e; omega))⟩

              · have e3 : (da == db) = false := by simpa using h3
                obtain ⟨d1, hd1, hdd1, _, _⟩ := dom_of po (z := xa) (by rw [HDA.out]; omega)
                obtain ⟨d2, hd2, hdd2, _, _⟩ := dom_of po (z := xb) (by rw [HDB.out]; omega)
                have hdd : d1 ≠ d2 := by rintro rfl; rw [HDA.out] at hdd1; rw [HDB.out] at hdd2; omega
                cases ha : hasB C Dn xa with
                | true =>
                  have HGA := pg_twice po hdd1 ha
                  clear hdd1 hdd2 ha
                  refine (wpIn_wide (n := 0)).1 ?_
                  refine regionIn_seqC (Sg w1.heap.size p Dn Zn S B P O l qb qc C C C WT) rfl (by kernel_rfl) (by kernel_rfl) (by kernel_rfl) (fun _ => trivial) rfl ⟨by simpa using po.fr0 (Fr.refl _ _).drew, (Fr.refl _ _).drew⟩ ?_
                  iterate 2
                    first
                    | (apply SeqC.step
                       · rfl
                       · intro d V hV ht hcl
                         have cg := fun i => blk_cell (hV.2.heap gg (fun e => by have := hch _ e; omega)) i
                         simp [Oper.gives, execOp, Act.eval, go_sem, cg, e1, e2, e3]
                         exact ⟨rfl, hV.keep (by decide) (by decide)⟩)
                    | (apply SeqC.pass
                       · rfl
                       · intro d V hV ht hcl
                         first
                         | exact hV.keep (by decide) (by decide)
                         | (have h25 := ht.dep 25 (by kernel_rfl)
                            have h24 := hcl 25 _ rfl h25 24 (by kernel_rfl)
                            have h23 := hcl 24 _ rfl h24 23 (by kernel_rfl)
                            have h22 := hcl 23 _ rfl h23 22 (by kernel_rfl)
                            exact hV.pass28 h22))
                    simp only [Act.put, List.setIfInBounds_toArray, List.set_cons_succ, List.set_cons_zero]
                  iterate 1
                    first
                    | (apply SeqC.step
                       · rfl
                       · intro d V hV ht hcl
                         have hc := HA.out V
                         simp [Oper.gives, execOp, Act.eval, go_sem, e1, e2, e3]
                         refine callsIn_wide.2 (hc.mono ?_); rintro e W9 ⟨rfl, hb⟩; exact ⟨_, rfl, rfl, (hV.fr0 (Fr.of_below (S := fun _ => False) hb)).keep (by decide) (by decide)⟩)
                    | (apply SeqC.pass
                       · rfl
                       · intro d V hV ht hcl
                         first
                         | exact hV.keep (by decide) (by decide)
                         | (have h25 := ht.dep 25 (by kernel_rfl)
                            have h24 := hcl 25 _ rfl h25 24 (by kernel_rfl)
                            have h23 := hcl 24 _ rfl h24 23 (by kernel_rfl)
                            have h22 := hcl 23 _ rfl h23 22 (by kernel_rfl)
                            exact hV.pass28 h22))
                    simp only [Act.put, List.setIfInBounds_toArray, List.set_cons_succ, List.set_cons_zero]
                  iterate 4
                    first
                    | (apply SeqC.step
                       · rfl
                       · intro d V hV ht hcl
                         have cg := fun i => blk_cell (hV.2.heap gg (fun e => by have := hch _ e; omega)) i
                         simp [Oper.gives, execOp, Act.eval, go_sem, cg, e1, e2, e3]
                         exact ⟨rfl, hV.keep (by decide) (by decide)⟩)
                    | (apply SeqC.pass
                       · rfl
                       · intro d V hV ht hcl
                         first
                         | exact hV.keep (by decide) (by decide)
                         | (have h25 := ht.dep 25 (by kernel_rfl)
                            have h24 := hcl 25 _ rfl h25 24 (by kernel_rfl)
                            have h23 := hcl 24 _ rfl h24 23 (by kernel_rfl)
                            have h22 := hcl 23 _ rfl h23 22 (by kernel_rfl)
                            exact hV.pass28 h22))
                    simp only [Act.put, List.setIfInBounds_toArray, List.set_cons_succ, List.set_cons_zero]
                  iterate 1
                    first
                    | (apply SeqC.step
                       · rfl
                       · intro d V hV ht hcl
                         have hc := HB.out V
                         simp [Oper.gives, execOp, Act.eval, go_sem, e1, e2, e3]
                         refine callsIn_wide.2 (hc.mono ?_); rintro e W9 ⟨rfl, hb⟩; exact ⟨_, rfl, rfl, (hV.fr0 (Fr.of_below (S := fun _ => False) hb)).keep (by decide) (by decide)⟩)
                    | (apply SeqC.pass
                       · rfl
                       · intro d V hV ht hcl
                         first
                         | exact hV.keep (by decide) (by decide)
                         | (have h25 := ht.dep 25 (by kernel_rfl)
                            have h24 := hcl 25 _ rfl h25 24 (by kernel_rfl)
                            have h23 := hcl 24 _ rfl h24 23 (by kernel_rfl)
                            have h22 := hcl 23 _ rfl h23 22 (by kernel_rfl)
                            exact hV.pass28 h22))
                    simp only [Act.put, List.setIfInBounds_toArray, List.set_cons_succ, List.set_cons_zero]
                  iterate 5
                    first
                    | (apply SeqC.step
                       · rfl
                       · intro d V hV ht hcl
                         have cg := fun i => blk_cell (hV.2.heap gg (fun e => by have := hch _ e; omega)) i
                         simp [Oper.gives, execOp, Act.eval, go_sem, cg, e1, e2, e3]
                         exact ⟨rfl, hV.keep (by decide) (by decide)⟩)
                    | (apply SeqC.pass
                       · rfl
                       · intro d V hV ht hcl
                         first
                         | exact hV.keep (by decide) (by decide)
                         | (have h25 := ht.dep 25 (by kernel_rfl)
                            have h24 := hcl 25 _ rfl h25 24 (by kernel_rfl)
                            have h23 := hcl 24 _ rfl h24 23 (by kernel_rfl)
                            have h22 := hcl 23 _ rfl h23 22 (by kernel_rfl)
                            exact hV.pass28 h22))
                    simp only [Act.put, List.setIfInBounds_toArray, List.set_cons_succ, List.set_cons_zero]
                  iterate 1
                    first
                    | (apply SeqC.step
                       · rfl
                       · intro d V hV ht hcl
                         have hc := HA.out V
                         simp [Oper.gives, execOp, Act.eval, go_sem, e1, e2, e3]
                         refine callsIn_wide.2 (hc.mono ?_); rintro e W9 ⟨rfl, hb⟩; exact ⟨_, rfl, rfl, (hV.fr0 (Fr.of_below (S := fun _ => False) hb)).keep (by decide) (by decide)⟩)
                    | (apply SeqC.pass
                       · rfl
                       · intro d V hV ht hcl
                         first
                         | exact hV.keep (by decide) (by decide)
                         | (have h25 := ht.dep 25 (by kernel_rfl)
                            have h24 := hcl 25 _ rfl h25 24 (by kernel_rfl)
                            have h23 := hcl 24 _ rfl h24 23 (by kernel_rfl)
                            have h22 := hcl 23 _ rfl h23 22 (by kernel_rfl)
                            exact hV.pass28 h22))
                    simp only [Act.put, List.setIfInBounds_toArray, List.set_cons_succ, List.set_cons_zero]
                  iterate 2
                    first
                    | (apply SeqC.step
                       · rfl
                       · intro d V hV ht hcl
                         have cg := fun i => blk_cell (hV.2.heap gg (fun e => by have := hch _ e; omega)) i
                         simp [Oper.gives, execOp, Act.eval, go_sem, cg, e1, e2, e3]
                         exact ⟨rfl, hV.keep (by decide) (by decide)⟩)
                    | (apply SeqC.pass
                       · rfl
                       · intro d V hV ht hcl
                         first
                         | exact hV.keep (by decide) (by decide)
                         | (have h25 := ht.dep 25 (by kernel_rfl)
                            have h24 := hcl 25 _ rfl h25 24 (by kernel_rfl)
                            have h23 := hcl 24 _ rfl h24 23 (by kernel_rfl)
                            have h22 := hcl 23 _ rfl h23 22 (by kernel_rfl)
                            exact hV.pass28 h22))
                    simp only [Act.put, List.setIfInBounds_toArray, List.set_cons_succ, List.set_cons_zero]
                  iterate 1
                    first
                    | (apply SeqC.step
                       · rfl
                       · intro d V hV ht hcl
                         have hc := HB.out V
                         simp [Oper.gives, execOp, Act.eval, go_sem, e1, e2, e3]
                         refine callsIn_wide.2 (hc.mono ?_); rintro e W9 ⟨rfl, hb⟩; exact ⟨_, rfl, rfl, (hV.fr0 (Fr.of_below (S := fun _ => False) hb)).keep (by decide) (by decide)⟩)
                    | (apply SeqC.pass
                       · rfl
                       · intro d V hV ht hcl
                         first
                         | exact hV.keep (by decide) (by decide)
                         | (have h25 := ht.dep 25 (by kernel_rfl)
                            have h24 := hcl 25 _ rfl h25 24 (by kernel_rfl)
                            have h23 := hcl 24 _ rfl h24 23 (by kernel_rfl)
                            have h22 := hcl 23 _ rfl h23 22 (by kernel_rfl)
                            exact hV.pass28 h22))
                    simp only [Act.put, List.setIfInBounds_toArray, List.set_cons_succ, List.set_cons_zero]
                  iterate 5
                    first
                    | (apply SeqC.step
                       · rfl
                       · intro d V hV ht hcl
                         have cg := fun i => blk_cell (hV.2.heap gg (fun e => by have := hch _ e; omega)) i
                         simp [Oper.gives, execOp, Act.eval, go_sem, cg, e1, e2, e3]
                         exact ⟨rfl, hV.keep (by decide) (by decide)⟩)
                    | (apply SeqC.pass
                       · rfl
                       · intro d V hV ht hcl
                         first
                         | exact hV.keep (by decide) (by decide)
                         | (have h25 := ht.dep 25 (by kernel_rfl)
                            have h24 := hcl 25 _ rfl h25 24 (by kernel_rfl)
                            have h23 := hcl 24 _ rfl h24 23 (by kernel_rfl)
                            have h22 := hcl 23 _ rfl h23 22 (by kernel_rfl)
                            exact hV.pass28 h22))
                    simp only [Act.put, List.setIfInBounds_toArray, List.set_cons_succ, List.set_cons_zero]
                  iterate 1
                    first
                    | (apply SeqC.step
                       · rfl
                       · intro d V hV ht hcl
                         have h22 : d 22 = false := ht.not
                         have h28 : d 28 = false := by
                           cases h : d 28 with
                           | false => rfl
                           | true =>
                             have h25 := hcl 28 _ rfl h 25 (by kernel_rfl)
                             have h24 := hcl 25 _ rfl h25 24 (by kernel_rfl)
                             have h23 := hcl 24 _ rfl h24 23 (by kernel_rfl)
                             have h22' := hcl 23 _ rfl h23 22 (by kernel_rfl)
                             rw [h22] at h22'; cases h22'
                         have hV1 := hV.1
                         rw [h28, h22, if_neg (by decide), if_neg (by decide)] at hV1
                         have hc := HGA V hV1
                         simp [Oper.gives, execOp, Act.eval, go_sem, e1, e2, e3]
                         refine callsIn_wide.2 (hc.mono ?_); rintro e W9 ⟨rfl, hp9, hf9⟩; refine ⟨_, rfl, rfl, ?_, hV.2.trans hf9 (fun _ _ h => h)⟩
                         rw [more_same, more_other _ (by decide), h28, if_neg (by decide), if_pos rfl]; exact hp9)
                    | (apply SeqC.pass
                       · rfl
                       · intro d V hV ht hcl
                         first
                         | exact hV.keep (by decide) (by decide)
                         | (have h25 := ht.dep 25 (by kernel_rfl)
                            have h24 := hcl 25 _ rfl h25 24 (by kernel_rfl)
                            have h23 := hcl 24 _ rfl h24 23 (by kernel_rfl)
                            have h22 := hcl 23 _ rfl h23 22 (by kernel_rfl)
                            exact hV.pass28 h22))
                    simp only [Act.put, List.setIfInBounds_toArray, List.set_cons_succ, List.set_cons_zero]
                  iterate 8
                    first
                    | (apply SeqC.step
                       · rfl
                       · intro d V hV ht hcl
                         have cg := fun i => blk_cell (hV.2.heap gg (fun e => by have := hch _ e; omega)) i
                         simp [Oper.gives, execOp, Act.eval, go_sem, cg, e1, e2, e3]
                         exact ⟨rfl, hV.keep (by decide) (by decide)⟩)
                    | (apply SeqC.pass
                       · rfl
                       · intro d V hV ht hcl
                         first
                         | exact hV.keep (by decide) (by decide)
                         | (have h25 := ht.dep 25 (by kernel_rfl)
                            have h24 := hcl 25 _ rfl h25 24 (by kernel_rfl)
                            have h23 := hcl 24 _ rfl h24 23 (by kernel_rfl)
                            have h22 := hcl 23 _ rfl h23 22 (by kernel_rfl)
                            exact hV.pass28 h22))
                    simp only [Act.put, List.setIfInBounds_toArray, List.set_cons_succ, List.set_cons_zero]
                  refine SeqC.nil fun V hV => ?_
                  go_wp2_with fail
                  go_ret
                  exact ⟨rfl, bl.trans (hV.2.below bl.size (fun i hi e => by have := hch _ e; omega))⟩

                | false =>
                  have HGA := pg_ok po hd1 hdd1 ha
                  have hn1 : xa ∉ C d1 := fun hm => by rw [(hasB_at po hd1 hdd1).2 hm] at ha; cases ha
                  cases hb : hasB (setC C d1 (C d1 ++ [xa])) Dn xb with
                  | true =>
                    have HGB : PDoes w1.heap.size p Dn Zn S B P O l qb qc (setC C d1 (C d1 ++ [xa])) (setC C d1 (C d1 ++ [xa])) 47 #[.int .i64 xb] (.int .i64 16) := fun w hw => (give_twice hw hdd2 hb).mono (by rintro e w' ⟨rfl, h2, hf⟩; exact ⟨rfl, h2, hf⟩)
                    clear hdd1 hdd2 ha hb hn1
                    refine (wpIn_wide (n := 0)).1 ?_
                    refine regionIn_seqC (Sg w1.heap.size p Dn Zn S B P O l qb qc C (setC C d1 (C d1 ++ [xa])) (setC C d1 (C d1 ++ [xa])) WT) rfl (by kernel_rfl) (by kernel_rfl) (by kernel_rfl) (fun _ => trivial) rfl ⟨by simpa using po.fr0 (Fr.refl _ _).drew, (Fr.refl _ _).drew⟩ ?_
                    iterate 2
                      first
                      | (apply SeqC.step
                         · rfl
                         · intro d V hV ht hcl
                           have cg := fun i => blk_cell (hV.2.heap gg (fun e => by have := hch _ e; omega)) i
                           simp [Oper.gives, execOp, Act.eval, go_sem, cg, e1, e2, e3]
                           exact ⟨rfl, hV.keep (by decide) (by decide)⟩)
                      | (apply SeqC.pass
                         · rfl
                         · intro d V hV ht hcl
                           first
                           | exact hV.keep (by decide) (by decide)
                           | (have h25 := ht.dep 25 (by kernel_rfl)
                              have h24 := hcl 25 _ rfl h25 24 (by kernel_rfl)
                              have h23 := hcl 24 _ rfl h24 23 (by kernel_rfl)
                              have h22 := hcl 23 _ rfl h23 22 (by kernel_rfl)
                              exact hV.pass28 h22))
                      simp only [Act.put, List.setIfInBounds_toArray, List.set_cons_succ, List.set_cons_zero]
                    iterate 1
                      first
                      | (apply SeqC.step
                         · rfl
                         · intro d V hV ht hcl
                           have hc := HA.out V
                           simp [Oper.gives, execOp, Act.eval, go_sem, e1, e2, e3]
                           refine callsIn_wide.2 (hc.mono ?_); rintro e W9 ⟨rfl, hb⟩; exact ⟨_, rfl, rfl, (hV.fr0 (Fr.of_below (S := fun _ => False) hb)).keep (by decide) (by decide)⟩)
                      | (apply SeqC.pass
                         · rfl
                         · intro d V hV ht hcl
                           first
                           | exact hV.keep (by decide) (by decide)
                           | (have h25 := ht.dep 25 (by kernel_rfl)
                              have h24 := hcl 25 _ rfl h25 24 (by kernel_rfl)
                              have h23 := hcl 24 _ rfl h24 23 (by kernel_rfl)
                              have h22 := hcl 23 _ rfl h23 22 (by kernel_rfl)
                              exact hV.pass28 h22))
                      simp only [Act.put, List.setIfInBounds_toArray, List.set_cons_succ, List.set_cons_zero]
                    iterate 4
                      first
                      | (apply SeqC.step
                         · rfl
                         · intro d V hV ht hcl
                           have cg := fun i => blk_cell (hV.2.heap gg (fun e => by have := hch _ e; omega)) i
                           simp [Oper.gives, execOp, Act.eval, go_sem, cg, e1, e2, e3]
                           exact ⟨rfl, hV.keep (by decide) (by decide)⟩)
                      | (apply SeqC.pass
                         · rfl
                         · intro d V hV ht hcl
                           first
                           | exact hV.keep (by decide) (by decide)
                           | (have h25 := ht.dep 25 (by kernel_rfl)
                              have h24 := hcl 25 _ rfl h25 24 (by kernel_rfl)
                              have h23 := hcl 24 _ rfl h24 23 (by kernel_rfl)
                              have h22 := hcl 23 _ rfl h23 22 (by kernel_rfl)
                              exact hV.pass28 h22))
                      simp only [Act.put, List.setIfInBounds_toArray, List.set_cons_succ, List.set_cons_zero]
                    iterate 1
                      first
                      | (apply SeqC.step
                         · rfl
                         · intro d V hV ht hcl
                           have hc := HB.out V
                           simp [Oper.gives, execOp, Act.eval, go_sem, e1, e2, e3]
                           refine callsIn_wide.2 (hc.mono ?_); rintro e W9 ⟨rfl, hb⟩; exact ⟨_, rfl, rfl, (hV.fr0 (Fr.of_below (S := fun _ => False) hb)).keep (by decide) (by decide)⟩)
                      | (apply SeqC.pass
                         · rfl
                         · intro d V hV ht hcl
                           first
                           | exact hV.keep (by decide) (by decide)
                           | (have h25 := ht.dep 25 (by kernel_rfl)
                              have h24 := hcl 25 _ rfl h25 24 (by kernel_rfl)
                              have h23 := hcl 24 _ rfl h24 23 (by kernel_rfl)
                              have h22 := hcl 23 _ rfl h23 22 (by kernel_rfl)
                              exact hV.pass28 h22))
                      simp only [Act.put, List.setIfInBounds_toArray, List.set_cons_succ, List.set_cons_zero]
                    iterate 5
                      first
                      | (apply SeqC.step
                         · rfl
                         · intro d V hV ht hcl
                           have cg := fun i => blk_cell (hV.2.heap gg (fun e => by have := hch _ e; omega)) i
                           simp [Oper.gives, execOp, Act.eval, go_sem, cg, e1, e2, e3]
                           exact ⟨rfl, hV.keep (by decide) (by decide)⟩)
                      | (apply SeqC.pass
                         · rfl
                         · intro d V hV ht hcl
                           first
                           | exact hV.keep (by decide) (by decide)
                           | (have h25 := ht.dep 25 (by kernel_rfl)
                              have h24 := hcl 25 _ rfl h25 24 (by kernel_rfl)
                              have h23 := hcl 24 _ rfl h24 23 (by kernel_rfl)
                              have h22 := hcl 23 _ rfl h23 22 (by kernel_rfl)
                              exact hV.pass28 h22))
                      simp only [Act.put, List.setIfInBounds_toArray, List.set_cons_succ, List.set_cons_zero]
                    iterate 1
                      first
                      | (apply SeqC.step
                         · rfl
                         · intro d V hV ht hcl
                           have hc := HA.out V
                           simp [Oper.gives, execOp, Act.eval, go_sem, e1, e2, e3]
                           refine callsIn_wide.2 (hc.mono ?_); rintro e W9 ⟨rfl, hb⟩; exact ⟨_, rfl, rfl, (hV.fr0 (Fr.of_below (S := fun _ => False) hb)).keep (by decide) (by decide)⟩)
                      | (apply SeqC.pass
                         · rfl
                         · intro d V hV ht hcl
                           first
                           | exact hV.keep (by decide) (by decide)
                           | (have h25 := ht.dep 25 (by kernel_rfl)
                              have h24 := hcl 25 _ rfl h25 24 (by kernel_rfl)
                              have h23 := hcl 24 _ rfl h24 23 (by kernel_rfl)
                              have h22 := hcl 23 _ rfl h23 22 (by kernel_rfl)
                              exact hV.pass28 h22))
                      simp only [Act.put, List.setIfInBounds_toArray, List.set_cons_succ, List.set_cons_zero]
                    iterate 2
                      first
                      | (apply SeqC.step
                         · rfl
                         · intro d V hV ht hcl
                           have cg := fun i => blk_cell (hV.2.heap gg (fun e => by have := hch _ e; omega)) i
                           simp [Oper.gives, execOp, Act.eval, go_sem, cg, e1, e2, e3]
                           exact ⟨rfl, hV.keep (by decide) (by decide)⟩)
                      | (apply SeqC.pass
                         · rfl
                         · intro d V hV ht hcl
                           first
                           | exact hV.keep (by decide) (by decide)
                           | (have h25 := ht.dep 25 (by kernel_rfl)
                              have h24 := hcl 25 _ rfl h25 24 (by kernel_rfl)
                              have h23 := hcl 24 _ rfl h24 23 (by kernel_rfl)
                              have h22 := hcl 23 _ rfl h23 22 (by kernel_rfl)
                              exact hV.pass28 h22))
                      simp only [Act.put, List.setIfInBounds_toArray, List.set_cons_succ, List.set_cons_zero]
                    iterate 1
                      first
                      | (apply SeqC.step
                         · rfl
                         · intro d V hV ht hcl
                           have hc := HB.out V
                           simp [Oper.gives, execOp, Act.eval, go_sem, e1, e2, e3]
                           refine callsIn_wide.2 (hc.mono ?_); rintro e W9 ⟨rfl, hb⟩; exact ⟨_, rfl, rfl, (hV.fr0 (Fr.of_below (S := fun _ => False) hb)).keep (by decide) (by decide)⟩)
                      | (apply SeqC.pass
                         · rfl
                         · intro d V hV ht hcl
                           first
                           | exact hV.keep (by decide) (by decide)
                           | (have h25 := ht.dep 25 (by kernel_rfl)
                              have h24 := hcl 25 _ rfl h25 24 (by kernel_rfl)
                              have h23 := hcl 24 _ rfl h24 23 (by kernel_rfl)
                              have h22 := hcl 23 _ rfl h23 22 (by kernel_rfl)
                              exact hV.pass28 h22))
                      simp only [Act.put, List.setIfInBounds_toArray, List.set_cons_succ, List.set_cons_zero]
                    iterate 5
                      first
                      | (apply SeqC.step
                         · rfl
                         · intro d V hV ht hcl
                           have cg := fun i => blk_cell (hV.2.heap gg (fun e => by have := hch _ e; omega)) i
                           simp [Oper.gives, execOp, Act.eval, go_sem, cg, e1, e2, e3]
                           exact ⟨rfl, hV.keep (by decide) (by decide)⟩)
                      | (apply SeqC.pass
                         · rfl
                         · intro d V hV ht hcl
                           first
                           | exact hV.keep (by decide) (by decide)
                           | (have h25 := ht.dep 25 (by kernel_rfl)
                              have h24 := hcl 25 _ rfl h25 24 (by kernel_rfl)
                              have h23 := hcl 24 _ rfl h24 23 (by kernel_rfl)
                              have h22 := hcl 23 _ rfl h23 22 (by kernel_rfl)
                              exact hV.pass28 h22))
                      simp only [Act.put, List.setIfInBounds_toArray, List.set_cons_succ, List.set_cons_zero]
                    iterate 1
                      first
                      | (apply SeqC.step
                         · rfl
                         · intro d V hV ht hcl
                           have h22 : d 22 = false := ht.not
                           have h28 : d 28 = false := by
                             cases h : d 28 with
                             | false => rfl
                             | true =>
                               have h25 := hcl 28 _ rfl h 25 (by kernel_rfl)
                               have h24 := hcl 25 _ rfl h25 24 (by kernel_rfl)
                               have h23 := hcl 24 _ rfl h24 23 (by kernel_rfl)
                               have h22' := hcl 23 _ rfl h23 22 (by kernel_rfl)
                               rw [h22] at h22'; cases h22'
                           have hV1 := hV.1
                           rw [h28, h22, if_neg (by decide), if_neg (by decide)] at hV1
                           have hc := HGA V hV1
                           simp [Oper.gives, execOp, Act.eval, go_sem, e1, e2, e3]
                           refine callsIn_wide.2 (hc.mono ?_); rintro e W9 ⟨rfl, hp9, hf9⟩; refine ⟨_, rfl, rfl, ?_, hV.2.trans hf9 (fun _ _ h => h)⟩
                           rw [more_same, more_other _ (by decide), h28, if_neg (by decide), if_pos rfl]; exact hp9)
                      | (apply SeqC.pass
                         · rfl
                         · intro d V hV ht hcl
                           first
                           | exact hV.keep (by decide) (by decide)
                           | (have h25 := ht.dep 25 (by kernel_rfl)
                              have h24 := hcl 25 _ rfl h25 24 (by kernel_rfl)
                              have h23 := hcl 24 _ rfl h24 23 (by kernel_rfl)
                              have h22 := hcl 23 _ rfl h23 22 (by kernel_rfl)
                              exact hV.pass28 h22))
                      simp only [Act.put, List.setIfInBounds_toArray, List.set_cons_succ, List.set_cons_zero]
                    iterate 5
                      first
                      | (apply SeqC.step
                         · rfl
                         · intro d V hV ht hcl
                           have cg := fun i => blk_cell (hV.2.heap gg (fun e => by have := hch _ e; omega)) i
                           simp [Oper.gives, execOp, Act.eval, go_sem, cg, e1, e2, e3]
                           exact ⟨rfl, hV.keep (by decide) (by decide)⟩)
                      | (apply SeqC.pass
                         · rfl
                         · intro d V hV ht hcl
                           first
                           | exact hV.keep (by decide) (by decide)
                           | (have h25 := ht.dep 25 (by kernel_rfl)
                              have h24 := hcl 25 _ rfl h25 24 (by kernel_rfl)
                              have h23 := hcl 24 _ rfl h24 23 (by kernel_rfl)
                              have h22 := hcl 23 _ rfl h23 22 (by kernel_rfl)
                              exact hV.pass28 h22))
                      simp only [Act.put, List.setIfInBounds_toArray, List.set_cons_succ, List.set_cons_zero]
                    iterate 1
                      first
                      | (apply SeqC.step
                         · rfl
                         · intro d V hV ht hcl
                           have h28 : d 28 = false := ht.not
                           have h25 := ht.dep 25 (by kernel_rfl)
                           have h24 := hcl 25 _ rfl h25 24 (by kernel_rfl)
                           have h23 := hcl 24 _ rfl h24 23 (by kernel_rfl)
                           have h22 := hcl 23 _ rfl h23 22 (by kernel_rfl)
                           have hV1 := hV.1
                           rw [h28, h22, if_neg (by decide), if_pos rfl] at hV1
                           have hc := HGB V hV1
                           simp [Oper.gives, execOp, Act.eval, go_sem, e1, e2, e3]
                           refine callsIn_wide.2 (hc.mono ?_); rintro e W9 ⟨rfl, hp9, hf9⟩; refine ⟨_, rfl, rfl, ?_, hV.2.trans hf9 (fun _ _ h => h)⟩
                           rw [more_same, if_pos rfl]; exact hp9)
                      | (apply SeqC.pass
                         · rfl
                         · intro d V hV ht hcl
                           first
                           | exact hV.keep (by decide) (by decide)
                           | (have h25 := ht.dep 25 (by kernel_rfl)
                              have h24 := hcl 25 _ rfl h25 24 (by kernel_rfl)
                              have h23 := hcl 24 _ rfl h24 23 (by kernel_rfl)
                              have h22 := hcl 23 _ rfl h23 22 (by kernel_rfl)
                              exact hV.pass28 h22))
                      simp only [Act.put, List.setIfInBounds_toArray, List.set_cons_succ, List.set_cons_zero]
                    iterate 2
                      first
                      | (apply SeqC.step
                         · rfl
                         · intro d V hV ht hcl
                           have cg := fun i => blk_cell (hV.2.heap gg (fun e => by have := hch _ e; omega)) i
                           simp [Oper.gives, execOp, Act.eval, go_sem, cg, e1, e2, e3]
                           exact ⟨rfl, hV.keep (by decide) (by decide)⟩)
                      | (apply SeqC.pass
                         · rfl
                         · intro d V hV ht hcl
                           first
                           | exact hV.keep (by decide) (by decide)
                           | (have h25 := ht.dep 25 (by kernel_rfl)
                              have h24 := hcl 25 _ rfl h25 24 (by kernel_rfl)
                              have h23 := hcl 24 _ rfl h24 23 (by kernel_rfl)
                              have h22 := hcl 23 _ rfl h23 22 (by kernel_rfl)
                              exact hV.pass28 h22))
                      simp only [Act.put, List.setIfInBounds_toArray, List.set_cons_succ, List.set_cons_zero]
                    refine SeqC.nil fun V hV => ?_
                    go_wp2_with fail
                    go_ret
                    exact ⟨rfl, bl.trans (hV.2.below bl.size (fun i hi e => by have := hch _ e; omega))⟩

                  | false =>
                    have HGB := pg_ok po hd2 hdd2 hb
                    have hmore := pairs_more C (setC (setC C d1 (C d1 ++ [xa])) d2 (setC C d1 (C d1 ++ [xa]) d2 ++ [xb])) (n := Dn) (by omega) (by
                      rw [sumP_set, sumP_set, if_pos hd1, if_pos hd2, setC_other _ _ (Ne.symm hdd)]; simp; omega) (fun i hi => by
                      unfold setC
                      split
                      · rename_i e; subst e; rw [if_neg (Ne.symm hdd)]; simp
                      · split
                        · rename_i e; subst e; simp
                        · omega)
                    rw [HM.out] at hmore
                    have HMO := Lib.hid hmore
                    clear hdd1 hdd2 ha hb hn1 hmore
                    refine (wpIn_wide (n := 0)).1 ?_
                    refine regionIn_seqC (Sg w1.heap.size p Dn Zn S B P O l qb qc C (setC C d1 (C d1 ++ [xa])) (setC (setC C d1 (C d1 ++ [xa])) d2 (setC C d1 (C d1 ++ [xa]) d2 ++ [xb])) WT) rfl (by kernel_rfl) (by kernel_rfl) (by kernel_rfl) (fun _ => trivial) rfl ⟨by simpa using po.fr0 (Fr.refl _ _).drew, (Fr.refl _ _).drew⟩ ?_
                    iterate 2
                      first
                      | (apply SeqC.step
                         · rfl
                         · intro d V hV ht hcl
                           have cg := fun i => blk_cell (hV.2.heap gg (fun e => by have := hch _ e; omega)) i
                           simp [Oper.gives, execOp, Act.eval, go_sem, cg, e1, e2, e3]
                           exact ⟨rfl, hV.keep (by decide) (by decide)⟩)
                      | (apply SeqC.pass
                         · rfl
                         · intro d V hV ht hcl
                           first
                           | exact hV.keep (by decide) (by decide)
                           | (have h25 := ht.dep 25 (by kernel_rfl)
                              have h24 := hcl 25 _ rfl h25 24 (by kernel_rfl)
                              have h23 := hcl 24 _ rfl h24 23 (by kernel_rfl)
                              have h22 := hcl 23 _ rfl h23 22 (by kernel_rfl)
                              exact hV.pass28 h22))
                      simp only [Act.put, List.setIfInBounds_toArray, List.set_cons_succ, List.set_cons_zero]
                    iterate 1
                      first
                      | (apply SeqC.step
                         · rfl
                         · intro d V hV ht hcl
                           have hc := HA.out V
                           simp [Oper.gives, execOp, Act.eval, go_sem, e1, e2, e3]
                           refine callsIn_wide.2 (hc.mono ?_); rintro e W9 ⟨rfl, hb⟩; exact ⟨_, rfl, rfl, (hV.fr0 (Fr.of_below (S := fun _ => False) hb)).keep (by decide) (by decide)⟩)
                      | (apply SeqC.pass
                         · rfl
                         · intro d V hV ht hcl
                           first
                           | exact hV.keep (by decide) (by decide)
                           | (have h25 := ht.dep 25 (by kernel_rfl)
                              have h24 := hcl 25 _ rfl h25 24 (by kernel_rfl)
                              have h23 := hcl 24 _ rfl h24 23 (by kernel_rfl)
                              have h22 := hcl 23 _ rfl h23 22 (by kernel_rfl)
                              exact hV.pass28 h22))
                      simp only [Act.put, List.setIfInBounds_toArray, List.set_cons_succ, List.set_cons_zero]
                    iterate 4
                      first
                      | (apply SeqC.step
                         · rfl
                         · intro d V hV ht hcl
                           have cg := fun i => blk_cell (hV.2.heap gg (fun e => by have := hch _ e; omega)) i
                           simp [Oper.gives, execOp, Act.eval, go_sem, cg, e1, e2, e3]
                           exact ⟨rfl, hV.keep (by decide) (by decide)⟩)
                      | (apply SeqC.pass
                         · rfl
                         · intro d V hV ht hcl
                           first
                           | exact hV.keep (by decide) (by decide)
                           | (have h25 := ht.dep 25 (by kernel_rfl)
                              have h24 := hcl 25 _ rfl h25 24 (by kernel_rfl)
                              have h23 := hcl 24 _ rfl h24 23 (by kernel_rfl)
                              have h22 := hcl 23 _ rfl h23 22 (by kernel_rfl)
                              exact hV.pass28 h22))
                      simp only [Act.put, List.setIfInBounds_toArray, List.set_cons_succ, List.set_cons_zero]
                    iterate 1
                      first
                      | (apply SeqC.step
                         · rfl
                         · intro d V hV ht hcl
                           have hc := HB.out V
                           simp [Oper.gives, execOp, Act.eval, go_sem, e1, e2, e3]
                           refine callsIn_wide.2 (hc.mono ?_); rintro e W9 ⟨rfl, hb⟩; exact ⟨_, rfl, rfl, (hV.fr0 (Fr.of_below (S := fun _ => False) hb)).keep (by decide) (by decide)⟩)
                      | (apply SeqC.pass
                         · rfl
                         · intro d V hV ht hcl
                           first
                           | exact hV.keep (by decide) (by decide)
                           | (have h25 := ht.dep 25 (by kernel_rfl)
                              have h24 := hcl 25 _ rfl h25 24 (by kernel_rfl)
                              have h23 := hcl 24 _ rfl h24 23 (by kernel_rfl)
                              have h22 := hcl 23 _ rfl h23 22 (by kernel_rfl)
                              exact hV.pass28 h22))
                      simp only [Act.put, List.setIfInBounds_toArray, List.set_cons_succ, List.set_cons_zero]
                    iterate 5
                      first
                      | (apply SeqC.step
                         · rfl
                         · intro d V hV ht hcl
                           have cg := fun i => blk_cell (hV.2.heap gg (fun e => by have := hch _ e; omega)) i
                           simp [Oper.gives, execOp, Act.eval, go_sem, cg, e1, e2, e3]
                           exact ⟨rfl, hV.keep (by decide) (by decide)⟩)
                      | (apply SeqC.pass
                         · rfl
                         · intro d V hV ht hcl
                           first
                           | exact hV.keep (by decide) (by decide)
                           | (have h25 := ht.dep 25 (by kernel_rfl)
                              have h24 := hcl 25 _ rfl h25 24 (by kernel_rfl)
                              have h23 := hcl 24 _ rfl h24 23 (by kernel_rfl)
                              have h22 := hcl 23 _ rfl h23 22 (by kernel_rfl)
                              exact hV.pass28 h22))
                      simp only [Act.put, List.setIfInBounds_toArray, List.set_cons_succ, List.set_cons_zero]
                    iterate 1
                      first
                      | (apply SeqC.step
                         · rfl
                         · intro d V hV ht hcl
                           have hc := HA.out V
                           simp [Oper.gives, execOp, Act.eval, go_sem, e1, e2, e3]
                           refine callsIn_wide.2 (hc.mono ?_); rintro e W9 ⟨rfl, hb⟩; exact ⟨_, rfl, rfl, (hV.fr0 (Fr.of_below (S := fun _ => False) hb)).keep (by decide) (by decide)⟩)
                      | (apply SeqC.pass
                         · rfl
                         · intro d V hV ht hcl
                           first
                           | exact hV.keep (by decide) (by decide)
                           | (have h25 := ht.dep 25 (by kernel_rfl)
                              have h24 := hcl 25 _ rfl h25 24 (by kernel_rfl)
                              have h23 := hcl 24 _ rfl h24 23 (by kernel_rfl)
                              have h22 := hcl 23 _ rfl h23 22 (by kernel_rfl)
                              exact hV.pass28 h22))
                      simp only [Act.put, List.setIfInBounds_toArray, List.set_cons_succ, List.set_cons_zero]
                    iterate 2
                      first
                      | (apply SeqC.step
                         · rfl
                         · intro d V hV ht hcl
                           have cg := fun i => blk_cell (hV.2.heap gg (fun e => by have := hch _ e; omega)) i
                           simp [Oper.gives, execOp, Act.eval, go_sem, cg, e1, e2, e3]
                           exact ⟨rfl, hV.keep (by decide) (by decide)⟩)
                      | (apply SeqC.pass
                         · rfl
                         · intro d V hV ht hcl
                           first
                           | exact hV.keep (by decide) (by decide)
                           | (have h25 := ht.dep 25 (by kernel_rfl)
                              have h24 := hcl 25 _ rfl h25 24 (by kernel_rfl)
                              have h23 := hcl 24 _ rfl h24 23 (by kernel_rfl)
                              have h22 := hcl 23 _ rfl h23 22 (by kernel_rfl)
                              exact hV.pass28 h22))
                      simp only [Act.put, List.setIfInBounds_toArray, List.set_cons_succ, List.set_cons_zero]
                    iterate 1
                      first
                      | (apply SeqC.step
                         · rfl
                         · intro d V hV ht hcl
                           have hc := HB.out V
                           simp [Oper.gives, execOp, Act.eval, go_sem, e1, e2, e3]
                           refine callsIn_wide.2 (hc.mono ?_); rintro e W9 ⟨rfl, hb⟩; exact ⟨_, rfl, rfl, (hV.fr0 (Fr.of_below (S := fun _ => False) hb)).keep (by decide) (by decide)⟩)
                      | (apply SeqC.pass
                         · rfl
                         · intro d V hV ht hcl
                           first
                           | exact hV.keep (by decide) (by decide)
                           | (have h25 := ht.dep 25 (by kernel_rfl)
                              have h24 := hcl 25 _ rfl h25 24 (by kernel_rfl)
                              have h23 := hcl 24 _ rfl h24 23 (by kernel_rfl)
                              have h22 := hcl 23 _ rfl h23 22 (by kernel_rfl)
                              exact hV.pass28 h22))
                      simp only [Act.put, List.setIfInBounds_toArray, List.set_cons_succ, List.set_cons_zero]
                    iterate 5
                      first
                      | (apply SeqC.step
                         · rfl
                         · intro d V hV ht hcl
                           have cg := fun i => blk_cell (hV.2.heap gg (fun e => by have := hch _ e; omega)) i
                           simp [Oper.gives, execOp, Act.eval, go_sem, cg, e1, e2, e3]
                           exact ⟨rfl, hV.keep (by decide) (by decide)⟩)
                      | (apply SeqC.pass
                         · rfl
                         · intro d V hV ht hcl
                           first
                           | exact hV.keep (by decide) (by decide)
                           | (have h25 := ht.dep 25 (by kernel_rfl)
                              have h24 := hcl 25 _ rfl h25 24 (by kernel_rfl)
                              have h23 := hcl 24 _ rfl h24 23 (by kernel_rfl)
                              have h22 := hcl 23 _ rfl h23 22 (by kernel_rfl)
                              exact hV.pass28 h22))
                      simp only [Act.put, List.setIfInBounds_toArray, List.set_cons_succ, List.set_cons_zero]
                    iterate 1
                      first
                      | (apply SeqC.step
                         · rfl
                         · intro d V hV ht hcl
                           have h22 : d 22 = false := ht.not
                           have h28 : d 28 = false := by
                             cases h : d 28 with
                             | false => rfl
                             | true =>
                               have h25 := hcl 28 _ rfl h 25 (by kernel_rfl)
                               have h24 := hcl 25 _ rfl h25 24 (by kernel_rfl)
                               have h23 := hcl 24 _ rfl h24 23 (by kernel_rfl)
                               have h22' := hcl 23 _ rfl h23 22 (by kernel_rfl)
                               rw [h22] at h22'; cases h22'
                           have hV1 := hV.1
                           rw [h28, h22, if_neg (by decide), if_neg (by decide)] at hV1
                           have hc := HGA V hV1
                           simp [Oper.gives, execOp, Act.eval, go_sem, e1, e2, e3]
                           refine callsIn_wide.2 (hc.mono ?_); rintro e W9 ⟨rfl, hp9, hf9⟩; refine ⟨_, rfl, rfl, ?_, hV.2.trans hf9 (fun _ _ h => h)⟩
                           rw [more_same, more_other _ (by decide), h28, if_neg (by decide), if_pos rfl]; exact hp9)
                      | (apply SeqC.pass
                         · rfl
                         · intro d V hV ht hcl
                           first
                           | exact hV.keep (by decide) (by decide)
                           | (have h25 := ht.dep 25 (by kernel_rfl)
                              have h24 := hcl 25 _ rfl h25 24 (by kernel_rfl)
                              have h23 := hcl 24 _ rfl h24 23 (by kernel_rfl)
                              have h22 := hcl 23 _ rfl h23 22 (by kernel_rfl)
                              exact hV.pass28 h22))
                      simp only [Act.put, List.setIfInBounds_toArray, List.set_cons_succ, List.set_cons_zero]
                    iterate 5
                      first
                      | (apply SeqC.step
                         · rfl
                         · intro d V hV ht hcl
                           have cg := fun i => blk_cell (hV.2.heap gg (fun e => by have := hch _ e; omega)) i
                           simp [Oper.gives, execOp, Act.eval, go_sem, cg, e1, e2, e3]
                           exact ⟨rfl, hV.keep (by decide) (by decide)⟩)
                      | (apply SeqC.pass
                         · rfl
                         · intro d V hV ht hcl
                           first
                           | exact hV.keep (by decide) (by decide)
                           | (have h25 := ht.dep 25 (by kernel_rfl)
                              have h24 := hcl 25 _ rfl h25 24 (by kernel_rfl)
                              have h23 := hcl 24 _ rfl h24 23 (by kernel_rfl)
                              have h22 := hcl 23 _ rfl h23 22 (by kernel_rfl)
                              exact hV.pass28 h22))
                      simp only [Act.put, List.setIfInBounds_toArray, List.set_cons_succ, List.set_cons_zero]
                    iterate 1
                      first
                      | (apply SeqC.step
                         · rfl
                         · intro d V hV ht hcl
                           have h28 : d 28 = false := ht.not
                           have h25 := ht.dep 25 (by kernel_rfl)
                           have h24 := hcl 25 _ rfl h25 24 (by kernel_rfl)
                           have h23 := hcl 24 _ rfl h24 23 (by kernel_rfl)
                           have h22 := hcl 23 _ rfl h23 22 (by kernel_rfl)
                           have hV1 := hV.1
                           rw [h28, h22, if_neg (by decide), if_pos rfl] at hV1
                           have hc := HGB V hV1
                           simp [Oper.gives, execOp, Act.eval, go_sem, e1, e2, e3]
                           refine callsIn_wide.2 (hc.mono ?_); rintro e W9 ⟨rfl, hp9, hf9⟩; refine ⟨_, rfl, rfl, ?_, hV.2.trans hf9 (fun _ _ h => h)⟩
                           rw [more_same, if_pos rfl]; exact hp9)
                      | (apply SeqC.pass
                         · rfl
                         · intro d V hV ht hcl
                           first
                           | exact hV.keep (by decide) (by decide)
                           | (have h25 := ht.dep 25 (by kernel_rfl)
                              have h24 := hcl 25 _ rfl h25 24 (by kernel_rfl)
                              have h23 := hcl 24 _ rfl h24 23 (by kernel_rfl)
                              have h22 := hcl 23 _ rfl h23 22 (by kernel_rfl)
                              exact hV.pass28 h22))
                      simp only [Act.put, List.setIfInBounds_toArray, List.set_cons_succ, List.set_cons_zero]
                    iterate 2
                      first
                      | (apply SeqC.step
                         · rfl
                         · intro d V hV ht hcl
                           have cg := fun i => blk_cell (hV.2.heap gg (fun e => by have := hch _ e; omega)) i
                           simp [Oper.gives, execOp, Act.eval, go_sem, cg, e1, e2, e3]
                           exact ⟨rfl, hV.keep (by decide) (by decide)⟩)
                      | (apply SeqC.pass
                         · rfl
                         · intro d V hV ht hcl
                           first
                           | exact hV.keep (by decide) (by decide)
                           | (have h25 := ht.dep 25 (by kernel_rfl)
                              have h24 := hcl 25 _ rfl h25 24 (by kernel_rfl)
                              have h23 := hcl 24 _ rfl h24 23 (by kernel_rfl)
                              have h22 := hcl 23 _ rfl h23 22 (by kernel_rfl)
                              exact hV.pass28 h22))
                      simp only [Act.put, List.setIfInBounds_toArray, List.set_cons_succ, List.set_cons_zero]
                    refine SeqC.nil fun V hV => ?_

                    have hV1 := hV.1
                    rw [if_pos (by decide)] at hV1
                    have hpc := pairs_calls hV1
                    obtain ⟨n2, hn2⟩ : ∃ n2, pairsP Dn (setC (setC C d1 (C d1 ++ [xa])) d2 (setC C d1 (C d1 ++ [xa]) d2 ++ [xb])) = n2 := ⟨_, rfl⟩
                    rw [hn2] at hpc
                    have hlt := HMO.out
                    rw [hn2] at hlt
                    have hltd : decide ((m : Int) < n2) = true := decide_eq_true hlt
                    clear hn2
                    go_wp2_with fail
                    refine hpc.mono ?_
                    rintro e W9 ⟨rfl, hf9⟩
                    clear hpc
                    go_wp2_with fail
                    go_ret
                    exact ⟨by first | rfl | (rw [hltd]; rfl) | (simp; omega), (bl.trans (hV.2.below bl.size (fun i hi e => by have := hch _ e; omega))).trans (hf9.below (by have := bl.size; have := hV.2.size; omega) (fun _ _ => id))⟩

end Go.Proofs.Ytcdblopnaimfoaa

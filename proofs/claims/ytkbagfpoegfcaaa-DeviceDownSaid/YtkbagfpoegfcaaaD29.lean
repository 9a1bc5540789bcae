/- The document's device: Spoil. Conditions: a device is small. -/
import Derived.Test.YtkbagfpoegfcaaaD28
namespace Go.Proofs.Ytkbagfpoegfcaaa
open Go.RowKit Go.Conc

section
variable {w w' : World} {D S : Nat → Prop} {v : Value} {X Y : DS} {e0 a0 : Int} {s : Sec}
set_option linter.unusedSimpArgs false
set_option maxRecDepth 100000 in
set_option maxHeartbeats 8000000 in
theorem rspoil_ok (h : RfS D w v X) (hok : X.Ok) {k : Nat} (hk : k < X.zs.length) {j : Nat} (hj : j < X.zs[k].L.length) : Calls Try.prog 70 #[v, .int .i64 k, .int .i64 j, .agg (secA s)] w (Rf2 D w (X.set k { X.zs[k] with L := X.zs[k].L.set j (X.zs[k].L[j].xor s) }) (.int .i64 0)) := by
  have hj0 : (0 : Int) ≤ (j : Int) := by omega
  have hj1 : ¬ (X.zs[k].L.length : Int) ≤ (j : Int) := by omega
  have hj2 : (j : Int) < (X.zs[k].L.length : Int) := by omega
  have hj3 : ¬ X.zs[k].L.length ≤ j := by omega
  have hl64 : X.zs[k].L.length ≤ 64 := by have := (hok.at hk).len; have := hok.s2; omega
  obtain ⟨g, o, cap, rfl, hr⟩ := h.sharp.op hok.l1
  have h3w := three w (.cells #[.slice (some ⟨g, o, none⟩) X.zs.length cap, .int .i64 X.size, .int .i64 X.op, .int .i64 X.n, .bool X.down] 27) (.cells (secA s) 34) (.cells #[.slice none 0 0, .int .i64 0, .int .i64 0, .int .i64 0, .bool false] 27)
  go_enter Try.func70, Try.ntmps70
  go_upto_region 1 with (first | ((with_reducible refine is_alloc 35 rfl ?_); refine wpList_allocB rfl 35 rfl b35 ?_) | ((with_reducible refine is_alloc 34 rfl ?_); refine wpList_allocB rfl 34 rfl b34 ?_) | ((with_reducible refine is_load 35 rfl ?_); (first | refine wpList_loadBw rfl 35 _ rfl b35 _ _ _ rfl (by assumption) (secA_size _) ?_ | refine wpList_loadB rfl 35 _ rfl b35 _ _ _ rfl (by assumption) (secA_size _) ?_)) | ((with_reducible refine is_load 34 rfl ?_); (first | refine wpList_loadBw rfl 34 _ rfl b34 _ _ _ rfl (by assumption) (secA_size _) ?_ | refine wpList_loadB rfl 34 _ rfl b34 _ _ _ rfl (by assumption) (secA_size _) ?_)) | ((with_reducible refine is_store 35 rfl ?_); refine wpList_storeBw rfl 35 _ _ rfl b35 _ _ _ _ rfl rfl (by assumption) (secA_size _) (secA_bx _) ?_) | ((with_reducible refine is_store 34 rfl ?_); refine wpList_storeBw rfl 34 _ _ rfl b34 _ _ _ _ rfl rfl (by assumption) (secA_size _) (secA_bx _) ?_) | ((with_reducible refine is_build 34 rfl ?_); refine wpList_buildZ34 rfl rfl ?_) | ((with_reducible refine is_build 35 rfl ?_); refine wpList_buildZ35 rfl rfl ?_))
  generalize ((w.alloc (.cells #[.slice (some ⟨g, o, none⟩) X.zs.length cap, .int .i64 X.size, .int .i64 X.op, .int .i64 X.n, .bool X.down] 27)).alloc (.cells (secA s) 34)).alloc (.cells #[.slice none 0 0, .int .i64 0, .int .i64 0, .int .i64 0, .bool false] 27) = w2 at *
  obtain ⟨F2, g0, g1, g2, hsz⟩ := h3w
  have hr2 := hr.fr0 F2
  have HSZ := Lib.hid hsz
  clear hsz hr
  have h1 : (k : Int) < (X.zs.length : Int) := by omega
  have h2 : (0 : Int) ≤ (k : Int) := by omega
  have hk' : ¬ X.zs.length ≤ k := by omega
  obtain ⟨la, lc, hrz, hsz, hDg⟩ := hr2.at hk
  have c4 := fun i => blk_cell g0 i
  have g04 := g0
  have g14 := g1
  have hr4 := hr2
  have hsz4 : w.heap.size + 2 ≤ w2.heap.size := by rw [HSZ.out]; omega
  clear g0 g1 hr2
  have gz5 := setRow_blk #[.slice la X.zs[k].L.length lc, .int .i64 X.zs[k].safe, .int .i64 X.zs[k].st, .bool X.zs[k].fin] (blk_new w2 (.cells #[.slice none 0 0, .int .i64 0, .int .i64 0, .bool false] 117))
  have F5 : Fr (fun _ => False) w2 _ := ((Fr.refl (fun _ => False) w2).alloc (.cells #[.slice none 0 0, .int .i64 0, .int .i64 0, .bool false] 117)).trans (setRow_fr (w2.alloc (.cells #[.slice none 0 0, .int .i64 0, .int .i64 0, .bool false] 117)) w2.heap.size #[.slice la X.zs[k].L.length lc, .int .i64 X.zs[k].safe, .int .i64 X.zs[k].st, .bool X.zs[k].fin]) (fun i hi e => by omega)
  go_upto_region 4 with (first | ((with_reducible refine is_load 27 rfl ?_); refine wpList_loadBw rfl 27 _ rfl b27 _ _ _ rfl (by first | assumption | exact blk_new _ _) rfl ?_) | ((with_reducible refine is_store 27 rfl ?_); refine wpList_storeBw rfl 27 _ _ rfl b27 _ _ _ _ rfl rfl (by first | assumption | exact blk_new _ _) rfl (bx27 _ _ _ _ _ _ _) ?_) | ((with_reducible refine is_load 117 rfl ?_); (first | refine wpList_loadBw rfl 117 _ rfl b117 _ _ _ rfl (by first | assumption | exact blk_new _ _) rfl ?_ | refine wpList_loadB rfl 117 _ rfl b117 _ _ _ rfl (by assumption) rfl ?_)) | ((with_reducible refine is_store 117 rfl ?_); (first | refine wpList_storeBw rfl 117 _ _ rfl b117 _ _ _ _ rfl rfl (by first | assumption | exact blk_new _ _) rfl (bx117 _ _ _ _ _ _) ?_ | refine wpList_storeBm rfl 117 _ _ rfl b117 _ _ _ rfl rfl (by assumption) (bx117 _ _ _ _ _ _) ?_)))
  generalize (w2.alloc (.cells #[.slice none 0 0, .int .i64 0, .int .i64 0, .bool false] 117)).setRow w2.heap.size #[.slice la X.zs[k].L.length lc, .int .i64 X.zs[k].safe, .int .i64 X.zs[k].st, .bool X.zs[k].fin] = w5 at *
  have g05 := F5.heap g04 id
  have g15 := F5.heap g14 id
  have hr5 := hr4.sharp.fr0 F5
  have hz5 := RdAt.fr0 (RdAt.sharp hsz) F5
  obtain ⟨bz, hbz⟩ : ∃ bz, w2.heap.size = bz := ⟨_, rfl⟩
  rw [hbz] at hsz4 gz5 hr5 hz5
  try rw [hbz]
  have HBZ := Lib.hid hbz
  clear g04 g14 hr4 hsz hrz c4 hbz
  have g25 := F5.heap g2 id
  have hsz2 := HSZ.out
  have hbz3 : w.heap.size + 2 < bz := by have h2 := HBZ.out; omega
  have cz := fun i => blk_cell gz5 i
  replace hz5 : RdAt _ w5 (.slice la X.zs[k].L.length lc) X.zs[k].L.length (secs X.zs[k].L) := hz5
  have hnil := World.ownsRow_nil w5 0 34 64
  have hbz5 : bz < w5.heap.size := blk_lt gz5
  go_upto_region 8 with (first | ((with_reducible refine is_load 27 rfl ?_); refine wpList_loadBw rfl 27 _ rfl b27 _ _ _ rfl (by first | assumption | exact blk_new _ _) rfl ?_) | ((with_reducible refine is_store 27 rfl ?_); refine wpList_storeBw rfl 27 _ _ rfl b27 _ _ _ _ rfl rfl (by first | assumption | exact blk_new _ _) rfl (bx27 _ _ _ _ _ _ _) ?_) | ((with_reducible refine is_load 117 rfl ?_); (first | refine wpList_loadBw rfl 117 _ rfl b117 _ _ _ rfl (by first | assumption | exact blk_new _ _) rfl ?_ | refine wpList_loadB rfl 117 _ rfl b117 _ _ _ rfl (by assumption) rfl ?_)) | ((with_reducible refine is_store 117 rfl ?_); (first | refine wpList_storeBw rfl 117 _ _ rfl b117 _ _ _ _ rfl rfl (by first | assumption | exact blk_new _ _) rfl (bx117 _ _ _ _ _ _) ?_ | refine wpList_storeBm rfl 117 _ _ rfl b117 _ _ _ rfl rfl (by assumption) (bx117 _ _ _ _ _ _) ?_)) | (at_builtin; refine wpList_app rfl s115 hnil hz5 _ _ rfl rfl rfl rfl (secs_len _) (secs_one _) (by omega) (Nat.zero_le _) ?_; intro a1 c1 w6 hr6 hg6 ho6))
  rw [Nat.zero_add, List.nil_append] at hr6
  rw [Nat.zero_add] at ho6
  have F6 : Fr (fun _ => False) w5 w6 := Fr.grown hg6 (fun _ h => by cases h)
  have hown : ∀ i, (Value.slice a1 X.zs[k].L.length c1).ownBlock = some i → w5.heap.size ≤ i := by
    intro i hi
    rcases ho6 with e | e
    · rw [hi] at e; cases e
    · rw [hi] at e; simp at e; omega
  obtain ⟨gr, cr, evr, -⟩ := row_put1 hr6 (i := 0) (by omega) undef
  simp only [Value.slice.injEq, true_and] at evr
  obtain ⟨rfl, rfl⟩ := evr
  have hgr : w5.heap.size ≤ gr := hown gr rfl
  rw [← mixS_zero hj s] at hr6
  have g16 := F6.heap g15 id
  clear cz hnil hg6 ho6 hown
  go_wp2_with fail
  go_loopw [12] (fun i W => ∃ q : Nat, q ≤ 64 ∧ i = .int .i64 q ∧ W.ownsRow 0 34 64 (.slice (some ⟨gr, 0, none⟩) X.zs[k].L.length c1) X.zs[k].L.length (mixS X.zs[k].L j q X.zs[k].L[j] s) ∧ Fr (fun i => i = gr) w6 W) (fun i _ => 64 - (intOf i).toNat)
  case atStart => exact ⟨0, by omega, rfl, hr6, Fr.refl _ _⟩
  case round =>
    obtain ⟨q, hq, rfl, hrow, hf⟩ := hrel
    by_cases hlt : q < 64
    · have hq0 : (0 : Int) ≤ (q : Int) := by omega
      have hq1 : (q : Int) < 64 := by omega
      have hrowd := row_fr hrow ((Fr.refl (fun _ => False) wr).drew) (fun _ _ => id)
      have hix : j * 64 + q < X.zs[k].L.length * 64 := by
        have : (j + 1) * 64 ≤ X.zs[k].L.length * 64 := Nat.mul_le_mul_right _ hj
        omega
      obtain ⟨g', c', e', p1, p2, p3⟩ := row_put1 hrowd hix (.int .u8 ((X.zs[k].L[j].1.getD q 0 ^^^ s.1.getD q 0).toNat : Int))
      simp only [Value.slice.injEq, Option.some.injEq, Addr.mk.injEq, true_and, and_true] at e'
      obtain ⟨rfl, rfl⟩ := e'
      rw [mixS_get hj hlt] at p1
      rw [mixS_set hj hlt] at p3
      have gp := hf.drew.heap g16 (by omega)
      have e2 := secA_get q s hlt
      have c2 : wr.drew.cell? ⟨w.heap.size + 1, q, none⟩ = some (.int .u8 ((s.1.getD q 0).toNat : Int)) := (blk_cell gp q).trans e2
      have hx := bits_xor (X.zs[k].L[j].1.getD q 0) (s.1.getD q 0)
      have hf2 := hf.drew.setCell (p := ⟨gr, j * 64 + q, none⟩) (.inl rfl) (.int .u8 ((X.zs[k].L[j].1.getD q 0 ^^^ s.1.getD q 0).toNat : Int))
      generalize X.zs[k].L[j].1.getD q 0 = x at *
      generalize s.1.getD q 0 = y at *
      clear e2 hrow hrowd
      go_wp2_with fail
      refine (wpIn_wide (n := 0)).1 ?_
      refine regionIn_seqC (fun d V => V = Ch wr.drew [(15, wr.drew.setCell ⟨gr, j * 64 + q, none⟩ (.int .u8 ((x ^^^ y).toNat : Int)))] d) rfl (by kernel_rfl) (by kernel_rfl) (by kernel_rfl) (fun _ => trivial) rfl (rfl) ?_
      iterate 13
        apply SeqC.step
        · rfl
        · intro d V hV ht hcl
          have h8 := ht.later 15 _ rfl (by kernel_rfl)
          have gV : V = wr.drew := by rw [hV, Ch, h8, if_neg (by decide)]; rfl
          subst gV
          simp [Oper.gives, execOp, Act.eval, go_sem, p1, c2, hq0, hq1, hj0, hj2, hj, hx, hlt]
          exact ⟨rfl, hV.trans (Ch.keep rfl).symm⟩
        simp only [Act.put, List.setIfInBounds_toArray, List.set_cons_succ, List.set_cons_zero]
      apply SeqC.step
      · rfl
      · intro d V hV ht hcl
        have h8 := off_of hcl (j := 15) rfl (by kernel_rfl) (ht.later 14 _ rfl (by kernel_rfl))
        have gV : V = wr.drew := by rw [hV, Ch, h8, if_neg (by decide)]; rfl
        subst gV
        simp [Oper.gives, execOp, Act.eval, go_sem, p1, c2, hq0, hq1, hj0, hj2, hj, hx, hlt]
        exact ⟨rfl, hV.trans (Ch.keep rfl).symm⟩
      simp only [Act.put, List.setIfInBounds_toArray, List.set_cons_succ, List.set_cons_zero]
      apply SeqC.step
      · rfl
      · intro d V hV ht hcl
        have h8 := ht.later 15 _ rfl (by kernel_rfl)
        have gV : V = wr.drew := by rw [hV, Ch, h8, if_neg (by decide)]; rfl
        subst gV
        simp [Oper.gives, execOp, Act.eval, go_sem, p1, c2, hq0, hq1, hj0, hj2, hj, hx, hlt]
        exact ⟨rfl, hV.trans (Ch.keep rfl).symm⟩
      simp only [Act.put, List.setIfInBounds_toArray, List.set_cons_succ, List.set_cons_zero]
      apply SeqC.step
      · rfl
      · intro d V hV ht hcl
        have h8 := ht.not
        have gV : V = wr.drew := by rw [hV, Ch, h8, if_neg (by decide)]; rfl
        subst gV
        simp [Oper.gives, execOp, Act.eval, go_sem, p1, p2]
        exact ⟨rfl, by rw [Ch, more_same, if_pos rfl]⟩
      simp only [Act.put, List.setIfInBounds_toArray, List.set_cons_succ, List.set_cons_zero]
      refine SeqC.nil fun V hV => ?_
      obtain rfl : V = wr.drew.setCell ⟨gr, j * 64 + q, none⟩ (.int .u8 ((x ^^^ y).toNat : Int)) := hV
      generalize wr.drew.setCell ⟨gr, j * 64 + q, none⟩ (.int .u8 ((x ^^^ y).toNat : Int)) = w8 at p3 hf2 ⊢
      clear p1 p2 c2 hx
      go_wp2_with fail
      go_roundw
      case rel => exact ⟨q + 1, by omega, by go_num, p3, hf2⟩
      case measure => simp [intOf]; omega
    · obtain rfl : q = 64 := by omega
      rw [mixS_end hj] at hrow
      have F56 : Fr (fun i => i = gr) w5 wr := (F6.mono (fun _ _ h => h.elim)).trans hf (fun _ _ h => h)
      have g0r := F56.heap g05 (by omega)
      have g2r := F56.heap g25 (by omega)
      have gzr := F56.heap gz5 (by omega)
      have hr9 := hr5.fr F56 (fun i hi e => by rcases hi with ⟨h, h2⟩; omega)
      have czr := fun i => blk_cell gzr i
      have fzr := fun i => blk_frozen gzr i
      have gz9 := blk_put gzr 0 (.slice (some ⟨gr, 0, none⟩) X.zs[k].L.length c1)
      simp only [List.setIfInBounds_toArray, List.set_cons_succ, List.set_cons_zero] at gz9
      have F9 := Fr.set1 wr bz 0 (.slice (some ⟨gr, 0, none⟩) X.zs[k].L.length c1)
      go_upto_region 13 with fail
      clear czr fzr
      generalize wr.setCell ⟨bz, 0, none⟩ (.slice (some ⟨gr, 0, none⟩) X.zs[k].L.length c1) = w9 at *
      have g09 := F9.heap g0r (by omega)
      have g29 := F9.heap g2r (by omega)
      have hr10 := (hr9.fr F9 (fun i hi e => by rcases hi with ⟨h, h2⟩; omega)).mono (D' := fun i => ((D i ∧ i < w.heap.size) ∧ i < bz) ∨ w5.heap.size ≤ i) (fun i hi => .inl hi)
      have hrow9 := row_fr hrow F9 (fun i hi e => by simp [Value.ownBlock] at hi; omega)
      have hz9 : RdS (fun i => ((D i ∧ i < w.heap.size) ∧ i < bz) ∨ w5.heap.size ≤ i) w9 (.slice (some ⟨gr, 0, none⟩) X.zs[k].L.length c1, { X.zs[k] with L := X.zs[k].L.set j (X.zs[k].L[j].xor s) }) := by
        unfold RdS
        simp only [List.length_set]
        exact (row_rd hrow9).mono (fun i hi => .inr (by simp [Value.ownBlock] at hi; omega))
      have hp := rput (k := k) hr10.rf hk hok.l2 hz9
      have FW9 := ((F2.trans F5 (fun _ _ h => h)).trans F56 (fun i hi e => by have := F5.size; have := F2.size; omega)).trans F9 (fun i hi e => by omega)
      have hs9 : w5.heap.size ≤ w9.heap.size := by have h1 := F56.size; have h2 := F9.size; omega
      clear hrow hrow9 hz9 hr9 hr5 hz5 F9 F56
      go_wp2_with (first | ((with_reducible refine is_load 27 rfl ?_); refine wpList_loadBw rfl 27 _ rfl b27 _ _ _ rfl (by first | assumption | exact blk_new _ _) rfl ?_) | ((with_reducible refine is_store 27 rfl ?_); refine wpList_storeBw rfl 27 _ _ rfl b27 _ _ _ _ rfl rfl (by first | assumption | exact blk_new _ _) rfl (bx27 _ _ _ _ _ _ _) ?_) | ((with_reducible refine is_load 117 rfl ?_); (first | refine wpList_loadBw rfl 117 _ rfl b117 _ _ _ rfl (by first | assumption | exact blk_new _ _) rfl ?_ | refine wpList_loadB rfl 117 _ rfl b117 _ _ _ rfl (by assumption) rfl ?_)) | ((with_reducible refine is_store 117 rfl ?_); (first | refine wpList_storeBw rfl 117 _ _ rfl b117 _ _ _ _ rfl rfl (by first | assumption | exact blk_new _ _) rfl (bx117 _ _ _ _ _ _) ?_ | refine wpList_storeBm rfl 117 _ _ rfl b117 _ _ _ rfl rfl (by assumption) (bx117 _ _ _ _ _ _) ?_)))
      refine hp.mono ?_
      rintro e w10 ⟨v10, rfl, hq10⟩
      obtain ⟨g10, o10, cap10, rfl, hr11, F10⟩ := hq10.op (by simpa [DS.set] using hok.l1)
      have g20 := F10.heap g29 id
      go_wp2_with (first | ((with_reducible refine is_load 27 rfl ?_); refine wpList_loadBw rfl 27 _ rfl b27 _ _ _ rfl (by first | assumption | exact blk_new _ _) rfl ?_) | ((with_reducible refine is_store 27 rfl ?_); refine wpList_storeBw rfl 27 _ _ rfl b27 _ _ _ _ rfl rfl (by first | assumption | exact blk_new _ _) rfl (bx27 _ _ _ _ _ _ _) ?_) | ((with_reducible refine is_load 117 rfl ?_); (first | refine wpList_loadBw rfl 117 _ rfl b117 _ _ _ rfl (by first | assumption | exact blk_new _ _) rfl ?_ | refine wpList_loadB rfl 117 _ rfl b117 _ _ _ rfl (by assumption) rfl ?_)) | ((with_reducible refine is_store 117 rfl ?_); (first | refine wpList_storeBw rfl 117 _ _ rfl b117 _ _ _ _ rfl rfl (by first | assumption | exact blk_new _ _) rfl (bx117 _ _ _ _ _ _) ?_ | refine wpList_storeBm rfl 117 _ _ rfl b117 _ _ _ rfl rfl (by assumption) (bx117 _ _ _ _ _ _) ?_)))
      exact bodyPost_ret (res70 rfl rfl (setRow_blk _ g20) rfl) rfl ⟨_, rfl, (hr11.fr (setRow_fr _ _ _) (fun i hi e => by rcases hi with (⟨h, h2⟩ | h) | h <;> omega)).q rfl rfl rfl rfl ((FW9.trans F10 (fun _ _ h => h)).trans (setRow_fr _ _ _) (fun k hk e => by omega)) (fun i hi => by rcases hi with (⟨h, h2⟩ | h) | h; exact .inl h.1; exact .inr (by omega); exact .inr (by omega)) rfl⟩
theorem rspoil (h : RfS D w v X) (hok : X.Ok) {x off : Int} (hr : SpR X x off s Y e0) : Calls Try.prog 70 #[v, .int .i64 x, .int .i64 off, .agg (secA s)] w (Rf2 D w Y (.int .i64 e0)) := by
  cases hr with
  | out hx => exact rspoil_out h hok hx
  | no k hk e1 ho => subst e1; exact rspoil_no h hok hk ho
  | ok k hk o ho e1 e2 => subst e1; subst e2; exact rspoil_ok h hok hk ho
end
end Go.Proofs.Ytkbagfpoegfcaaa

/- The document's device: Append to a zone that failed or is full. Conditions: a device is small. -/
import Derived.Test.YtkbagfpoegfcaaaD24
namespace Go.Proofs.Ytkbagfpoegfcaaa
open Go.RowKit Go.Conc

section
variable {w w' : World} {D S : Nat → Prop} {v : Value} {X Y : DS} {e0 : Int} {s : Sec}
set_option linter.unusedSimpArgs false
set_option maxRecDepth 100000 in
set_option maxHeartbeats 4000000 in
theorem rappend_failed (h : RfS D w v X) (hok : X.Ok) (hn : X.n < 1000000) {k : Nat} (hk : k < X.zs.length) (hdn : X.down = false) (hf : failedOf X.zs[k].st ≠ 0) : Calls Try.prog 47 #[v, .int .i64 k, .agg (secA s)] w (Rf3 D w X.tick (.int .i64 0) (.int .i64 (failedOf X.zs[k].st))) := by
  have e0 : (X.zs[k].st == 0) = false := beq_eq_false_iff_ne.2 (fun h => hf (failed_of0 h))
  have b5 : (failedOf X.zs[k].st != 0) = true := by simpa using hf
  clear hf
  have HDN := Lib.hid hdn
  clear hdn
  obtain ⟨g, o, cap, rfl, hr⟩ := h.sharp.op hok.l1
  have h3w := three w (.cells #[.slice (some ⟨g, o, none⟩) X.zs.length cap, .int .i64 X.size, .int .i64 X.op, .int .i64 X.n, .bool X.down] 27) (.cells (secA s) 34) (.cells #[.slice none 0 0, .int .i64 0, .int .i64 0, .int .i64 0, .bool false] 27)
  go_enter Try.func47, Try.ntmps47
  go_upto_region 1 with (first | ((with_reducible refine is_alloc 35 rfl ?_); refine wpList_allocB rfl 35 rfl b35 ?_) | ((with_reducible refine is_alloc 34 rfl ?_); refine wpList_allocB rfl 34 rfl b34 ?_) | ((with_reducible refine is_load 35 rfl ?_); (first | refine wpList_loadBw rfl 35 _ rfl b35 _ _ _ rfl (by assumption) (secA_size _) ?_ | refine wpList_loadB rfl 35 _ rfl b35 _ _ _ rfl (by assumption) (secA_size _) ?_)) | ((with_reducible refine is_load 34 rfl ?_); (first | refine wpList_loadBw rfl 34 _ rfl b34 _ _ _ rfl (by assumption) (secA_size _) ?_ | refine wpList_loadB rfl 34 _ rfl b34 _ _ _ rfl (by assumption) (secA_size _) ?_)) | ((with_reducible refine is_store 35 rfl ?_); refine wpList_storeBw rfl 35 _ _ rfl b35 _ _ _ _ rfl rfl (by assumption) (secA_size _) (secA_bx _) ?_) | ((with_reducible refine is_store 34 rfl ?_); refine wpList_storeBw rfl 34 _ _ rfl b34 _ _ _ _ rfl rfl (by assumption) (secA_size _) (secA_bx _) ?_) | ((with_reducible refine is_build 34 rfl ?_); refine wpList_buildZ34 rfl rfl ?_) | ((with_reducible refine is_build 35 rfl ?_); refine wpList_buildZ35 rfl rfl ?_))
  generalize ((w.alloc (.cells #[.slice (some ⟨g, o, none⟩) X.zs.length cap, .int .i64 X.size, .int .i64 X.op, .int .i64 X.n, .bool X.down] 27)).alloc (.cells (secA s) 34)).alloc (.cells #[.slice none 0 0, .int .i64 0, .int .i64 0, .int .i64 0, .bool false] 27) = w2 at *
  obtain ⟨F2, g0, g1, g2, hsz⟩ := h3w
  have hr2 := hr.fr0 F2
  have HSZ := Lib.hid hsz
  clear hsz hr
  have hc := rbeg_ok hr2.rf HDN.out hn hk
  go_wp2_with (first | ((with_reducible refine is_load 27 rfl ?_); refine wpList_loadBw rfl 27 _ rfl b27 _ _ _ rfl (by first | assumption | exact blk_new _ _) rfl ?_) | ((with_reducible refine is_store 27 rfl ?_); refine wpList_storeBw rfl 27 _ _ rfl b27 _ _ _ _ rfl rfl (by first | assumption | exact blk_new _ _) rfl (bx27 _ _ _ _ _ _ _) ?_) | ((with_reducible refine is_load 117 rfl ?_); (first | refine wpList_loadBw rfl 117 _ rfl b117 _ _ _ rfl (by first | assumption | exact blk_new _ _) rfl ?_ | refine wpList_loadB rfl 117 _ rfl b117 _ _ _ rfl (by assumption) rfl ?_)) | ((with_reducible refine is_store 117 rfl ?_); (first | refine wpList_storeBw rfl 117 _ _ rfl b117 _ _ _ _ rfl rfl (by first | assumption | exact blk_new _ _) rfl (bx117 _ _ _ _ _ _) ?_ | refine wpList_storeBm rfl 117 _ _ rfl b117 _ _ _ rfl rfl (by assumption) (bx117 _ _ _ _ _ _) ?_)))
  refine hc.mono ?_
  rintro e w3 ⟨v3, rfl, hq⟩
  obtain ⟨g3, o3, cap3, rfl, hr3, F3⟩ := hq.op_tick hok.l1
  have g03 := F3.heap g0 id
  have g13 := F3.heap g1 id
  have hszl : w.heap.size + 2 ≤ w2.heap.size := by have := HSZ.out; omega
  have g04 := setRow_blk #[.slice (some ⟨g3, o3, none⟩) X.zs.length cap3, .int .i64 X.size, .int .i64 X.op, .int .i64 ((X.n : Int) + 1), .bool X.down] g03
  have f4 := setRow_fr w3 w.heap.size #[.slice (some ⟨g3, o3, none⟩) X.zs.length cap3, .int .i64 X.size, .int .i64 X.op, .int .i64 ((X.n : Int) + 1), .bool X.down]
  have g14 := f4.heap g13 (by omega)
  have hr4 := hr3.fr f4 (fun k hk e => by rcases hk with h | h <;> omega)
  have F4 := ((F2.trans F3 (fun _ _ h => h)).mono (fun _ _ h => h.elim)).trans f4 (fun _ _ h => h) |>.mono (fun k hk e => (by omega : False))
  have c4 := fun i => blk_cell g04 i
  have hsz4 : w.heap.size + 2 ≤ (w3.setRow w.heap.size #[.slice (some ⟨g3, o3, none⟩) X.zs.length cap3, .int .i64 X.size, .int .i64 X.op, .int .i64 ((X.n : Int) + 1), .bool X.down]).heap.size := by have h1 := F3.size; have h2 := f4.size; omega
  have h1 : (k : Int) < (X.zs.length : Int) := by omega
  have h2 : (0 : Int) ≤ (k : Int) := by omega
  obtain ⟨la, lc, hrz, hsz, hDg⟩ := (hr4.same (Y := X) rfl).at hk
  clear hc g0 g1 hr3 hr2
  have g24 := f4.heap (F3.heap g2 id) (by omega)
  go_upto_region 2 with (first | ((with_reducible refine is_load 27 rfl ?_); refine wpList_loadBw rfl 27 _ rfl b27 _ _ _ rfl (by first | assumption | exact blk_new _ _) rfl ?_) | ((with_reducible refine is_store 27 rfl ?_); refine wpList_storeBw rfl 27 _ _ rfl b27 _ _ _ _ rfl rfl (by first | assumption | exact blk_new _ _) rfl (bx27 _ _ _ _ _ _ _) ?_) | ((with_reducible refine is_load 117 rfl ?_); (first | refine wpList_loadBw rfl 117 _ rfl b117 _ _ _ rfl (by first | assumption | exact blk_new _ _) rfl ?_ | refine wpList_loadB rfl 117 _ rfl b117 _ _ _ rfl (by assumption) rfl ?_)) | ((with_reducible refine is_store 117 rfl ?_); (first | refine wpList_storeBw rfl 117 _ _ rfl b117 _ _ _ _ rfl rfl (by first | assumption | exact blk_new _ _) rfl (bx117 _ _ _ _ _ _) ?_ | refine wpList_storeBm rfl 117 _ _ rfl b117 _ _ _ rfl rfl (by assumption) (bx117 _ _ _ _ _ _) ?_)))
  clear g03 c4
  generalize w3.setRow w.heap.size #[.slice (some ⟨g3, o3, none⟩) X.zs.length cap3, .int .i64 X.size, .int .i64 X.op, .int .i64 ((X.n : Int) + 1), .bool X.down] = w4 at *
  have c4 := fun i => blk_cell g04 i
  clear f4 F3
  have gz5 := setRow_blk #[.slice la X.zs[k].L.length lc, .int .i64 X.zs[k].safe, .int .i64 X.zs[k].st, .bool X.zs[k].fin] (blk_new w4 (.cells #[.slice none 0 0, .int .i64 0, .int .i64 0, .bool false] 117))
  have F5 : Fr (fun _ => False) w4 _ := ((Fr.refl (fun _ => False) w4).alloc (.cells #[.slice none 0 0, .int .i64 0, .int .i64 0, .bool false] 117)).trans (setRow_fr (w4.alloc (.cells #[.slice none 0 0, .int .i64 0, .int .i64 0, .bool false] 117)) w4.heap.size #[.slice la X.zs[k].L.length lc, .int .i64 X.zs[k].safe, .int .i64 X.zs[k].st, .bool X.zs[k].fin]) (fun i hi e => by omega)
  go_upto_region 5 with (first | ((with_reducible refine is_load 27 rfl ?_); refine wpList_loadBw rfl 27 _ rfl b27 _ _ _ rfl (by first | assumption | exact blk_new _ _) rfl ?_) | ((with_reducible refine is_store 27 rfl ?_); refine wpList_storeBw rfl 27 _ _ rfl b27 _ _ _ _ rfl rfl (by first | assumption | exact blk_new _ _) rfl (bx27 _ _ _ _ _ _ _) ?_) | ((with_reducible refine is_load 117 rfl ?_); (first | refine wpList_loadBw rfl 117 _ rfl b117 _ _ _ rfl (by first | assumption | exact blk_new _ _) rfl ?_ | refine wpList_loadB rfl 117 _ rfl b117 _ _ _ rfl (by assumption) rfl ?_)) | ((with_reducible refine is_store 117 rfl ?_); (first | refine wpList_storeBw rfl 117 _ _ rfl b117 _ _ _ _ rfl rfl (by first | assumption | exact blk_new _ _) rfl (bx117 _ _ _ _ _ _) ?_ | refine wpList_storeBm rfl 117 _ _ rfl b117 _ _ _ rfl rfl (by assumption) (bx117 _ _ _ _ _ _) ?_)))
  generalize (w4.alloc (.cells #[.slice none 0 0, .int .i64 0, .int .i64 0, .bool false] 117)).setRow w4.heap.size #[.slice la X.zs[k].L.length lc, .int .i64 X.zs[k].safe, .int .i64 X.zs[k].st, .bool X.zs[k].fin] = w5 at *
  have g05 := F5.heap g04 id
  have g15 := F5.heap g14 id
  have hr5 := hr4.sharp.fr0 F5
  have hz5 := RdAt.fr0 (RdAt.sharp hsz) F5
  obtain ⟨bz, hbz⟩ : ∃ bz, w4.heap.size = bz := ⟨_, rfl⟩
  rw [hbz] at hsz4 gz5 hr5 hz5
  try rw [hbz]
  have HBZ := Lib.hid hbz
  clear g04 g14 hr4 hsz hrz c4 hbz
  have g25 := F5.heap g24 id
  have hsz2 := HSZ.out
  have hbz3 : w.heap.size + 2 < bz := by have h1 := blk_lt g24; have h2 := HBZ.out; omega
  have cz := fun i => blk_cell gz5 i
  have hfd := fun W => rfailed (w := W) (z := X.zs[k]) (l := .slice la X.zs[k].L.length lc) ⟨_, _, _, rfl⟩
  clear g24
  go_wp2_with fail
  refine (wpIn_wide (n := 0)).1 ?_
  refine regionIn_seqC (fun _ V => Fr (fun _ => False) w5 V) rfl (by kernel_rfl) (by kernel_rfl) (by kernel_rfl) (fun _ => trivial) rfl ((Fr.refl _ _).drew) ?_
  iterate 4
    apply SeqC.step
    · rfl
    · intro dn V hV ht hcl
      have cV := fun i => blk_cell (hV.heap gz5 id) i
      simp [Oper.gives, execOp, Act.eval, go_sem, cV, e0]
      exact ⟨rfl, hV⟩
    simp only [Act.put, List.setIfInBounds_toArray, List.set_cons_succ, List.set_cons_zero]
  iterate 5
    apply SeqC.pass
    · rfl
    · exact fun _ V hV _ _ => hV
    simp only [Act.put, List.setIfInBounds_toArray, List.set_cons_succ, List.set_cons_zero]
  apply SeqC.step
  · rfl
  · intro dn V hV ht hcl
    skip
    simp [Oper.gives, execOp, Act.eval, go_sem, e0]
    exact ⟨rfl, hV⟩
  simp only [Act.put, List.setIfInBounds_toArray, List.set_cons_succ, List.set_cons_zero]
  refine SeqC.nil fun w6 F6 => ?_
  have g06 := F6.heap g05 id
  have g16 := F6.heap g15 id
  have g26 := F6.heap g25 id
  have gz6 := F6.heap gz5 id
  have hr6 := hr5.fr0 F6
  have hz6 := RdAt.fr0 hz5 F6
  have FW6 : Fr (fun _ => False) w w6 := (F4.trans F5 (fun _ _ h => h)).trans F6 (fun _ _ h => h)
  clear cz g05 g15 g25 gz5 hr5 hz5 F4 F5 F6
  go_wp2_with (first | ((with_reducible refine is_load 27 rfl ?_); refine wpList_loadBw rfl 27 _ rfl b27 _ _ _ rfl (by first | assumption | exact blk_new _ _) rfl ?_) | ((with_reducible refine is_store 27 rfl ?_); refine wpList_storeBw rfl 27 _ _ rfl b27 _ _ _ _ rfl rfl (by first | assumption | exact blk_new _ _) rfl (bx27 _ _ _ _ _ _ _) ?_) | ((with_reducible refine is_load 117 rfl ?_); (first | refine wpList_loadBw rfl 117 _ rfl b117 _ _ _ rfl (by first | assumption | exact blk_new _ _) rfl ?_ | refine wpList_loadB rfl 117 _ rfl b117 _ _ _ rfl (by assumption) rfl ?_)) | ((with_reducible refine is_store 117 rfl ?_); (first | refine wpList_storeBw rfl 117 _ _ rfl b117 _ _ _ _ rfl rfl (by first | assumption | exact blk_new _ _) rfl (bx117 _ _ _ _ _ _) ?_ | refine wpList_storeBm rfl 117 _ _ rfl b117 _ _ _ rfl rfl (by assumption) (bx117 _ _ _ _ _ _) ?_)))
  refine (hfd _).mono ?_
  rintro e w7 ⟨rfl, F7⟩
  have g07 := F7.heap g06 id
  have g27 := F7.heap g26 id
  have gz7 := F7.heap gz6 id
  have hr7 := hr6.fr0 F7
  have hB2 : w.heap.size + 2 < w7.heap.size := blk_lt g27
  clear g06 g16 g26 gz6 hr6 hz6
  go_wp2_with (first | ((with_reducible refine is_load 27 rfl ?_); refine wpList_loadBw rfl 27 _ rfl b27 _ _ _ rfl (by first | assumption | exact blk_new _ _) rfl ?_) | ((with_reducible refine is_store 27 rfl ?_); refine wpList_storeBw rfl 27 _ _ rfl b27 _ _ _ _ rfl rfl (by first | assumption | exact blk_new _ _) rfl (bx27 _ _ _ _ _ _ _) ?_) | ((with_reducible refine is_load 117 rfl ?_); (first | refine wpList_loadBw rfl 117 _ rfl b117 _ _ _ rfl (by first | assumption | exact blk_new _ _) rfl ?_ | refine wpList_loadB rfl 117 _ rfl b117 _ _ _ rfl (by assumption) rfl ?_)) | ((with_reducible refine is_store 117 rfl ?_); (first | refine wpList_storeBw rfl 117 _ _ rfl b117 _ _ _ _ rfl rfl (by first | assumption | exact blk_new _ _) rfl (bx117 _ _ _ _ _ _) ?_ | refine wpList_storeBm rfl 117 _ _ rfl b117 _ _ _ rfl rfl (by assumption) (bx117 _ _ _ _ _ _) ?_)))
  refine (wpIn_wide (n := 0)).1 ?_
  refine regionIn_seqC (Sres w7 (w.heap.size + 2) 3 #[.slice (some ⟨g3, o3, none⟩) X.zs.length cap3, .int .i64 X.size, .int .i64 X.op, .int .i64 ((X.n : Int) + 1), .bool X.down] 27) rfl (by kernel_rfl) (by kernel_rfl) (by kernel_rfl) (fun _ => trivial) rfl (Sres.start _ _ _ _ _) ?_
  apply SeqC.step
  · rfl
  · intro dn V hV ht hcl
    have cV := fun i => blk_cell (hV.1.heap g07 (by omega)) i
    simp [Oper.gives, execOp, Act.eval, go_sem, cV]
    exact ⟨rfl, hV.keep (by decide)⟩
  simp only [Act.put, List.setIfInBounds_toArray, List.set_cons_succ, List.set_cons_zero]
  apply SeqC.step
  · rfl
  · intro dn V hV ht hcl
    have cV := fun i => blk_cell (hV.1.heap gz7 (by omega)) i
    simp [Oper.gives, execOp, Act.eval, go_sem, cV]
    exact ⟨rfl, hV.keep (by decide)⟩
  simp only [Act.put, List.setIfInBounds_toArray, List.set_cons_succ, List.set_cons_zero]
  apply SeqC.step
  · rfl
  · intro dn V hV ht hcl
    skip
    simp [Oper.gives, execOp, Act.eval, go_sem]
    refine callsIn_wide.2 ((hfd V).mono ?_); rintro e W9 ⟨rfl, hb⟩; exact ⟨_, rfl, rfl, hV.call (by decide) hb hB2⟩
  simp only [Act.put, List.setIfInBounds_toArray, List.set_cons_succ, List.set_cons_zero]
  apply SeqC.step
  · rfl
  · intro dn V hV ht hcl
    obtain ⟨p1, p2⟩ := hV.put ht.not g27
    exact gives_storeBw rfl b27 rfl rfl p1 rfl (bx27 _ _ _ _ _ _ _) ⟨rfl, p2⟩
  simp only [Act.put, List.setIfInBounds_toArray, List.set_cons_succ, List.set_cons_zero]
  iterate 2
    apply SeqC.step
    · rfl
    · intro dn V hV ht hcl
      skip
      simp [Oper.gives, execOp, Act.eval, go_sem, ]
      exact ⟨rfl, hV.keep (by decide)⟩
    simp only [Act.put, List.setIfInBounds_toArray, List.set_cons_succ, List.set_cons_zero]
  refine SeqC.nil fun w8 hV => ?_
  have hV1 := hV.1
  have hg8 := hV.fin rfl
  clear hV
  go_wp2_with fail
  exact bodyPost_ret (res47 rfl rfl rfl hg8 rfl) rfl ⟨_, rfl, (hr7.fr hV1 (fun k hk e => by rcases hk with ⟨h | h, h2⟩ <;> omega)).q rfl rfl rfl rfl ((FW6.trans F7 (fun _ _ h => h)).trans hV1 (fun k hk e => by omega)) (fun k hk => by rcases hk with ⟨h | h, h2⟩; exact .inl h.1; exact .inr (by omega)) rfl⟩
set_option maxRecDepth 100000 in
set_option maxHeartbeats 4000000 in
theorem rappend_full (h : RfS D w v X) (hok : X.Ok) (hn : X.n < 1000000) {k : Nat} (hk : k < X.zs.length) (hdn : X.down = false) (h2' : X.zs[k].st = 2) : Calls Try.prog 47 #[v, .int .i64 k, .agg (secA s)] w (Rf3 D w X.tick (.int .i64 0) (.int .i64 17)) := by
  have e0 : (X.zs[k].st == 0) = false := beq_eq_false_iff_ne.2 (by omega)
  have e2 : (X.zs[k].st == 2) = true := by rw [h2']; rfl
  have b5 : (failedOf X.zs[k].st != 0) = false := by rw [h2']; rfl
  clear h2'
  have HDN := Lib.hid hdn
  clear hdn
  obtain ⟨g, o, cap, rfl, hr⟩ := h.sharp.op hok.l1
  have h3w := three w (.cells #[.slice (some ⟨g, o, none⟩) X.zs.length cap, .int .i64 X.size, .int .i64 X.op, .int .i64 X.n, .bool X.down] 27) (.cells (secA s) 34) (.cells #[.slice none 0 0, .int .i64 0, .int .i64 0, .int .i64 0, .bool false] 27)
  go_enter Try.func47, Try.ntmps47
  go_upto_region 1 with (first | ((with_reducible refine is_alloc 35 rfl ?_); refine wpList_allocB rfl 35 rfl b35 ?_) | ((with_reducible refine is_alloc 34 rfl ?_); refine wpList_allocB rfl 34 rfl b34 ?_) | ((with_reducible refine is_load 35 rfl ?_); (first | refine wpList_loadBw rfl 35 _ rfl b35 _ _ _ rfl (by assumption) (secA_size _) ?_ | refine wpList_loadB rfl 35 _ rfl b35 _ _ _ rfl (by assumption) (secA_size _) ?_)) | ((with_reducible refine is_load 34 rfl ?_); (first | refine wpList_loadBw rfl 34 _ rfl b34 _ _ _ rfl (by assumption) (secA_size _) ?_ | refine wpList_loadB rfl 34 _ rfl b34 _ _ _ rfl (by assumption) (secA_size _) ?_)) | ((with_reducible refine is_store 35 rfl ?_); refine wpList_storeBw rfl 35 _ _ rfl b35 _ _ _ _ rfl rfl (by assumption) (secA_size _) (secA_bx _) ?_) | ((with_reducible refine is_store 34 rfl ?_); refine wpList_storeBw rfl 34 _ _ rfl b34 _ _ _ _ rfl rfl (by assumption) (secA_size _) (secA_bx _) ?_) | ((with_reducible refine is_build 34 rfl ?_); refine wpList_buildZ34 rfl rfl ?_) | ((with_reducible refine is_build 35 rfl ?_); refine wpList_buildZ35 rfl rfl ?_))
  generalize ((w.alloc (.cells #[.slice (some ⟨g, o, none⟩) X.zs.length cap, .int .i64 X.size, .int .i64 X.op, .int .i64 X.n, .bool X.down] 27)).alloc (.cells (secA s) 34)).alloc (.cells #[.slice none 0 0, .int .i64 0, .int .i64 0, .int .i64 0, .bool false] 27) = w2 at *
  obtain ⟨F2, g0, g1, g2, hsz⟩ := h3w
  have hr2 := hr.fr0 F2
  have HSZ := Lib.hid hsz
  clear hsz hr
  have hc := rbeg_ok hr2.rf HDN.out hn hk
  go_wp2_with (first | ((with_reducible refine is_load 27 rfl ?_); refine wpList_loadBw rfl 27 _ rfl b27 _ _ _ rfl (by first | assumption | exact blk_new _ _) rfl ?_) | ((with_reducible refine is_store 27 rfl ?_); refine wpList_storeBw rfl 27 _ _ rfl b27 _ _ _ _ rfl rfl (by first | assumption | exact blk_new _ _) rfl (bx27 _ _ _ _ _ _ _) ?_) | ((with_reducible refine is_load 117 rfl ?_); (first | refine wpList_loadBw rfl 117 _ rfl b117 _ _ _ rfl (by first | assumption | exact blk_new _ _) rfl ?_ | refine wpList_loadB rfl 117 _ rfl b117 _ _ _ rfl (by assumption) rfl ?_)) | ((with_reducible refine is_store 117 rfl ?_); (first | refine wpList_storeBw rfl 117 _ _ rfl b117 _ _ _ _ rfl rfl (by first | assumption | exact blk_new _ _) rfl (bx117 _ _ _ _ _ _) ?_ | refine wpList_storeBm rfl 117 _ _ rfl b117 _ _ _ rfl rfl (by assumption) (bx117 _ _ _ _ _ _) ?_)))
  refine hc.mono ?_
  rintro e w3 ⟨v3, rfl, hq⟩
  obtain ⟨g3, o3, cap3, rfl, hr3, F3⟩ := hq.op_tick hok.l1
  have g03 := F3.heap g0 id
  have g13 := F3.heap g1 id
  have hszl : w.heap.size + 2 ≤ w2.heap.size := by have := HSZ.out; omega
  have g04 := setRow_blk #[.slice (some ⟨g3, o3, none⟩) X.zs.length cap3, .int .i64 X.size, .int .i64 X.op, .int .i64 ((X.n : Int) + 1), .bool X.down] g03
  have f4 := setRow_fr w3 w.heap.size #[.slice (some ⟨g3, o3, none⟩) X.zs.length cap3, .int .i64 X.size, .int .i64 X.op, .int .i64 ((X.n : Int) + 1), .bool X.down]
  have g14 := f4.heap g13 (by omega)
  have hr4 := hr3.fr f4 (fun k hk e => by rcases hk with h | h <;> omega)
  have F4 := ((F2.trans F3 (fun _ _ h => h)).mono (fun _ _ h => h.elim)).trans f4 (fun _ _ h => h) |>.mono (fun k hk e => (by omega : False))
  have c4 := fun i => blk_cell g04 i
  have hsz4 : w.heap.size + 2 ≤ (w3.setRow w.heap.size #[.slice (some ⟨g3, o3, none⟩) X.zs.length cap3, .int .i64 X.size, .int .i64 X.op, .int .i64 ((X.n : Int) + 1), .bool X.down]).heap.size := by have h1 := F3.size; have h2 := f4.size; omega
  have h1 : (k : Int) < (X.zs.length : Int) := by omega
  have h2 : (0 : Int) ≤ (k : Int) := by omega
  obtain ⟨la, lc, hrz, hsz, hDg⟩ := (hr4.same (Y := X) rfl).at hk
  clear hc g0 g1 hr3 hr2
  have g24 := f4.heap (F3.heap g2 id) (by omega)
  go_upto_region 2 with (first | ((with_reducible refine is_load 27 rfl ?_); refine wpList_loadBw rfl 27 _ rfl b27 _ _ _ rfl (by first | assumption | exact blk_new _ _) rfl ?_) | ((with_reducible refine is_store 27 rfl ?_); refine wpList_storeBw rfl 27 _ _ rfl b27 _ _ _ _ rfl rfl (by first | assumption | exact blk_new _ _) rfl (bx27 _ _ _ _ _ _ _) ?_) | ((with_reducible refine is_load 117 rfl ?_); (first | refine wpList_loadBw rfl 117 _ rfl b117 _ _ _ rfl (by first | assumption | exact blk_new _ _) rfl ?_ | refine wpList_loadB rfl 117 _ rfl b117 _ _ _ rfl (by assumption) rfl ?_)) | ((with_reducible refine is_store 117 rfl ?_); (first | refine wpList_storeBw rfl 117 _ _ rfl b117 _ _ _ _ rfl rfl (by first | assumption | exact blk_new _ _) rfl (bx117 _ _ _ _ _ _) ?_ | refine wpList_storeBm rfl 117 _ _ rfl b117 _ _ _ rfl rfl (by assumption) (bx117 _ _ _ _ _ _) ?_)))
  clear g03 c4
  generalize w3.setRow w.heap.size #[.slice (some ⟨g3, o3, none⟩) X.zs.length cap3, .int .i64 X.size, .int .i64 X.op, .int .i64 ((X.n : Int) + 1), .bool X.down] = w4 at *
  have c4 := fun i => blk_cell g04 i
  clear f4 F3
  have gz5 := setRow_blk #[.slice la X.zs[k].L.length lc, .int .i64 X.zs[k].safe, .int .i64 X.zs[k].st, .bool X.zs[k].fin] (blk_new w4 (.cells #[.slice none 0 0, .int .i64 0, .int .i64 0, .bool false] 117))
  have F5 : Fr (fun _ => False) w4 _ := ((Fr.refl (fun _ => False) w4).alloc (.cells #[.slice none 0 0, .int .i64 0, .int .i64 0, .bool false] 117)).trans (setRow_fr (w4.alloc (.cells #[.slice none 0 0, .int .i64 0, .int .i64 0, .bool false] 117)) w4.heap.size #[.slice la X.zs[k].L.length lc, .int .i64 X.zs[k].safe, .int .i64 X.zs[k].st, .bool X.zs[k].fin]) (fun i hi e => by omega)
  go_upto_region 5 with (first | ((with_reducible refine is_load 27 rfl ?_); refine wpList_loadBw rfl 27 _ rfl b27 _ _ _ rfl (by first | assumption | exact blk_new _ _) rfl ?_) | ((with_reducible refine is_store 27 rfl ?_); refine wpList_storeBw rfl 27 _ _ rfl b27 _ _ _ _ rfl rfl (by first | assumption | exact blk_new _ _) rfl (bx27 _ _ _ _ _ _ _) ?_) | ((with_reducible refine is_load 117 rfl ?_); (first | refine wpList_loadBw rfl 117 _ rfl b117 _ _ _ rfl (by first | assumption | exact blk_new _ _) rfl ?_ | refine wpList_loadB rfl 117 _ rfl b117 _ _ _ rfl (by assumption) rfl ?_)) | ((with_reducible refine is_store 117 rfl ?_); (first | refine wpList_storeBw rfl 117 _ _ rfl b117 _ _ _ _ rfl rfl (by first | assumption | exact blk_new _ _) rfl (bx117 _ _ _ _ _ _) ?_ | refine wpList_storeBm rfl 117 _ _ rfl b117 _ _ _ rfl rfl (by assumption) (bx117 _ _ _ _ _ _) ?_)))
  generalize (w4.alloc (.cells #[.slice none 0 0, .int .i64 0, .int .i64 0, .bool false] 117)).setRow w4.heap.size #[.slice la X.zs[k].L.length lc, .int .i64 X.zs[k].safe, .int .i64 X.zs[k].st, .bool X.zs[k].fin] = w5 at *
  have g05 := F5.heap g04 id
  have g15 := F5.heap g14 id
  have hr5 := hr4.sharp.fr0 F5
  have hz5 := RdAt.fr0 (RdAt.sharp hsz) F5
  obtain ⟨bz, hbz⟩ : ∃ bz, w4.heap.size = bz := ⟨_, rfl⟩
  rw [hbz] at hsz4 gz5 hr5 hz5
  try rw [hbz]
  have HBZ := Lib.hid hbz
  clear g04 g14 hr4 hsz hrz c4 hbz
  have g25 := F5.heap g24 id
  have hsz2 := HSZ.out
  have hbz3 : w.heap.size + 2 < bz := by have h1 := blk_lt g24; have h2 := HBZ.out; omega
  have cz := fun i => blk_cell gz5 i
  have hfd := fun W => rfailed (w := W) (z := X.zs[k]) (l := .slice la X.zs[k].L.length lc) ⟨_, _, _, rfl⟩
  clear g24
  go_wp2_with fail
  refine (wpIn_wide (n := 0)).1 ?_
  refine regionIn_seqC (fun _ V => Fr (fun _ => False) w5 V) rfl (by kernel_rfl) (by kernel_rfl) (by kernel_rfl) (fun _ => trivial) rfl ((Fr.refl _ _).drew) ?_
  iterate 4
    apply SeqC.step
    · rfl
    · intro dn V hV ht hcl
      have cV := fun i => blk_cell (hV.heap gz5 id) i
      simp [Oper.gives, execOp, Act.eval, go_sem, cV, e0]
      exact ⟨rfl, hV⟩
    simp only [Act.put, List.setIfInBounds_toArray, List.set_cons_succ, List.set_cons_zero]
  iterate 5
    apply SeqC.pass
    · rfl
    · exact fun _ V hV _ _ => hV
    simp only [Act.put, List.setIfInBounds_toArray, List.set_cons_succ, List.set_cons_zero]
  apply SeqC.step
  · rfl
  · intro dn V hV ht hcl
    skip
    simp [Oper.gives, execOp, Act.eval, go_sem, e0]
    exact ⟨rfl, hV⟩
  simp only [Act.put, List.setIfInBounds_toArray, List.set_cons_succ, List.set_cons_zero]
  refine SeqC.nil fun w6 F6 => ?_
  have g06 := F6.heap g05 id
  have g16 := F6.heap g15 id
  have g26 := F6.heap g25 id
  have gz6 := F6.heap gz5 id
  have hr6 := hr5.fr0 F6
  have hz6 := RdAt.fr0 hz5 F6
  have FW6 : Fr (fun _ => False) w w6 := (F4.trans F5 (fun _ _ h => h)).trans F6 (fun _ _ h => h)
  clear cz g05 g15 g25 gz5 hr5 hz5 F4 F5 F6
  go_wp2_with (first | ((with_reducible refine is_load 27 rfl ?_); refine wpList_loadBw rfl 27 _ rfl b27 _ _ _ rfl (by first | assumption | exact blk_new _ _) rfl ?_) | ((with_reducible refine is_store 27 rfl ?_); refine wpList_storeBw rfl 27 _ _ rfl b27 _ _ _ _ rfl rfl (by first | assumption | exact blk_new _ _) rfl (bx27 _ _ _ _ _ _ _) ?_) | ((with_reducible refine is_load 117 rfl ?_); (first | refine wpList_loadBw rfl 117 _ rfl b117 _ _ _ rfl (by first | assumption | exact blk_new _ _) rfl ?_ | refine wpList_loadB rfl 117 _ rfl b117 _ _ _ rfl (by assumption) rfl ?_)) | ((with_reducible refine is_store 117 rfl ?_); (first | refine wpList_storeBw rfl 117 _ _ rfl b117 _ _ _ _ rfl rfl (by first | assumption | exact blk_new _ _) rfl (bx117 _ _ _ _ _ _) ?_ | refine wpList_storeBm rfl 117 _ _ rfl b117 _ _ _ rfl rfl (by assumption) (bx117 _ _ _ _ _ _) ?_)))
  refine (hfd _).mono ?_
  rintro e w7 ⟨rfl, F7⟩
  have g07 := F7.heap g06 id
  have g27 := F7.heap g26 id
  have gz7 := F7.heap gz6 id
  have hr7 := hr6.fr0 F7
  have cz := fun i => blk_cell gz7 i
  clear g06 g16 g26 gz6 hr6 hz6
  go_wp2_with (first | ((with_reducible refine is_load 27 rfl ?_); refine wpList_loadBw rfl 27 _ rfl b27 _ _ _ rfl (by first | assumption | exact blk_new _ _) rfl ?_) | ((with_reducible refine is_store 27 rfl ?_); refine wpList_storeBw rfl 27 _ _ rfl b27 _ _ _ _ rfl rfl (by first | assumption | exact blk_new _ _) rfl (bx27 _ _ _ _ _ _ _) ?_) | ((with_reducible refine is_load 117 rfl ?_); (first | refine wpList_loadBw rfl 117 _ rfl b117 _ _ _ rfl (by first | assumption | exact blk_new _ _) rfl ?_ | refine wpList_loadB rfl 117 _ rfl b117 _ _ _ rfl (by assumption) rfl ?_)) | ((with_reducible refine is_store 117 rfl ?_); (first | refine wpList_storeBw rfl 117 _ _ rfl b117 _ _ _ _ rfl rfl (by first | assumption | exact blk_new _ _) rfl (bx117 _ _ _ _ _ _) ?_ | refine wpList_storeBm rfl 117 _ _ rfl b117 _ _ _ rfl rfl (by assumption) (bx117 _ _ _ _ _ _) ?_)))
  exact bodyPost_ret (res47 rfl rfl rfl (setRow_blk _ g27) rfl) rfl ⟨_, rfl, (hr7.fr (setRow_fr _ _ _) (fun k hk e => by rcases hk with ⟨h | h, h2⟩ <;> omega)).q rfl rfl rfl rfl ((FW6.trans F7 (fun _ _ h => h)).trans (setRow_fr _ _ _) (fun k hk e => by omega)) (fun k hk => by rcases hk with ⟨h | h, h2⟩; exact .inl h.1; exact .inr (by omega)) rfl⟩
end
end Go.Proofs.Ytkbagfpoegfcaaa

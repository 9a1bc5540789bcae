/- The document's device: Append. Conditions: a device is small. -/
import Derived.Test.YtkbagfpoegfcaaaD25
namespace Go.Proofs.Ytkbagfpoegfcaaa
open Go.RowKit Go.Conc

theorem SN.fr {W V : World} {i j k : Nat} {Pi Pj : Value → World → Prop} {Post : World → Prop} {vs : Nat → Value} {d : Nat → Bool} {S : Nat → Prop} (h : SN W i j k Pi Pj Post vs d V) (hp : ∀ V, Post V → Fr S W V) : Fr S W V := by
  cases hk : d k with
  | true => exact hp _ (h.hi hk)
  | false => exact (h.lo hk).1.mono (fun _ _ h => h.elim)
section
variable {w w' : World} {D S : Nat → Prop} {v : Value} {X Y : DS} {e0 a0 : Int} {s : Sec}
theorem len_set (X : DS) (k : Nat) (z : ZS) : X.zs.length = (X.tick.set k z).zs.length := by simp [DS.set, DS.tick]
theorem RfQ.op_set {k : Nat} {z : ZS} (h : RfQ D w (X.tick.set k z) w' v) (h1 : 1 ≤ X.zs.length) : ∃ g o cap, v = .agg #[.slice (some ⟨g, o, none⟩) X.zs.length cap, .int .i64 X.size, .int .i64 X.op, .int .i64 ((X.n : Int) + 1), .bool X.down] ∧ RdO (fun k => D k ∨ w.heap.size ≤ k) w' g o cap (X.tick.set k z) ∧ Fr (fun _ => False) w w' := by
  have hl : (X.tick.set k z).zs.length = X.zs.length := by simp [DS.set, DS.tick]
  obtain ⟨g, o, cap, e, h2, h3⟩ := h.op (by rw [hl]; exact h1)
  rw [hl] at e
  exact ⟨g, o, cap, e, h2, h3⟩
set_option linter.unusedSimpArgs false
set_option maxRecDepth 100000 in
set_option maxHeartbeats 8000000 in
theorem rappend_ok (h : RfS D w v X) (hok : X.Ok) (hn : X.n < 1000000) {k : Nat} (hk : k < X.zs.length) (hdn : X.down = false) (hf : failedOf X.zs[k].st = 0) (h2' : X.zs[k].st ≠ 2) (h0 : X.zs[k].st ≠ 0) : Calls Try.prog 47 #[v, .int .i64 k, .agg (secA s)] w (Rf3 D w (X.tick.set k (X.zs[k].app X.size s)) (.int .i64 X.zs[k].L.length) (.int .i64 0)) := by
  have e0 : (X.zs[k].st == 0) = false := beq_eq_false_iff_ne.2 h0
  have e2 : (X.zs[k].st == 2) = false := beq_eq_false_iff_ne.2 h2'
  have b5 : (failedOf X.zs[k].st != 0) = false := by simpa using hf
  have hl64 : X.zs[k].L.length ≤ 64 := by have := (hok.at hk).len; have := hok.s2; omega
  clear h0 h2' hf
  have HDN := Lib.hid hdn
  clear hdn
  obtain ⟨g, o, cap, rfl, hr⟩ := h.sharp.op hok.l1
  have h3w := three w (.cells #[.slice (some ⟨g, o, none⟩) X.zs.length cap, .int .i64 X.size, .int .i64 X.op, .int .i64 X.n, .bool X.down] 27) (.cells (secA s) 34) (.cells #[.slice none 0 0, .int .i64 0, .int .i64 0, .int .i64 0, .bool false] 27)
  go_enter Try.func47, Try.ntmps47
  go_upto_region 1 with (first | ((with_reducible refine is_alloc 35 rfl ?_); refine wpList_allocB rfl 35 rfl b35 ?_) | ((with_reducible refine is_alloc 34 rfl ?_); refine wpList_allocB rfl 34 rfl b34 ?_) | ((with_reducible refine is_load 35 rfl ?_); (first | refine wpList_loadBw rfl 35 _ rfl b35 _ _ _ rfl (by assumption) (secA_size _) ?_ | refine wpList_loadB rfl 35 _ rfl b35 _ _ _ rfl (by assumption) (secA_size _) ?_)) | ((with_reducible refine is_load 34 rfl ?_); (first | refine wpList_loadBw rfl 34 _ rfl b34 _ _ _ rfl (by assumption) (secA_size _) ?_ | refine wpList_loadB rfl 34 _ rfl b34 _ _ _ rfl (by assumption) (secA_size _) ?_)) | ((with_reducible refine is_store 35 rfl ?_); refine wpList_storeBw rfl 35 _ _ rfl b35 _ _ _ _ rfl rfl (by assumption) (secA_size _) (secA_bx _) ?_) | ((with_reducible refine is_store 34 rfl ?_); refine wpList_storeBw rfl 34 _ _ rfl b34 _ _ _ _ rfl rfl (by assumption) (secA_size _) (secA_bx _) ?_) | ((with_reducible refine is_build 34 rfl ?_); refine wpList_buildZ34 rfl rfl ?_) | ((with_reducible refine is_build 35 rfl ?_); refine wpList_buildZ35 rfl rfl ?_))
  generalize ((w.alloc (.cells #[.slice (some ⟨g, o, none⟩) X.zs.length cap, .int .i64 X.size, .int .i64 X.op, .int .i64 X.n, .bool X.down] 27)).alloc (.cells (secA s) 34)).alloc (.cells #[.slice none 0 0, .int .i64 0, .int .i64 0, .int .i64 0, .bool false] 27) = w2 at *
  obtain ⟨F2, g0, g1, g2, hsz⟩ := h3w
  have hr2 := hr.fr0 F2
  have HSZ := Lib.hid hsz
  clear hsz hr
  have hc := rbeg_ok hr2.rf HDN.out hn hk
  go_wp2_with (first | ((with_reducible refine is_load 27 rfl ?_); refine wpList_loadBw rfl 27 _ rfl b27 _ _ _ rfl (by first | assumption | exact blk_new _ _) rfl ?_) | ((with_reducible refine is_store 27 rfl ?_); refine wpList_storeBw rfl 27 _ _ rfl b27 _ _ _ _ rfl rfl (by first | assumption | exact blk_new _ _) rfl (bx27 _ _ _ _ _ _ _) ?_) | ((with_reducible refine is_load 117 rfl ?_); (first | refine wpList_loadBw rfl 117 _ rfl b117 _ _ _ rfl (by first | assumption | exact blk_new _ _) rfl ?_ | refine wpList_loadB rfl 117 _ rfl b117 _ _ _ rfl (by assumption) rfl ?_)) | ((with_reducible refine is_store 117 rfl ?_); (first | refine wpList_storeBw rfl 117 _ _ rfl b117 _ _ _ _ rfl rfl (by first | assumption | exact blk_new _ _) rfl (bx117 _ _ _ _ _ _) ?_ | refine wpList_storeBm rfl 117 _ _ rfl b117 _ _ _ rfl rfl (by assumption) (bx117 _ _ _ _ _ _) ?_)))
  refine hc.mono ?_
  rintro e w3 ⟨v3, rfl, hq⟩
  obtain ⟨g3, o3, cap3, rfl, hr3, F3⟩ := hq.op_tick hok.l1
  have g03 := F3.heap g0 id
  have g13 := F3.heap g1 id
  have hszl : w.heap.size + 2 ≤ w2.heap.size := by have := HSZ.out; omega
  have g04 := setRow_blk #[.slice (some ⟨g3, o3, none⟩) X.zs.length cap3, .int .i64 X.size, .int .i64 X.op, .int .i64 ((X.n : Int) + 1), .bool X.down] g03
  have f4 := setRow_fr w3 w.heap.size #[.slice (some ⟨g3, o3, none⟩) X.zs.length cap3, .int .i64 X.size, .int .i64 X.op, .int .i64 ((X.n : Int) + 1), .bool X.down]
  have g14 := f4.heap g13 (by omega)
  have hr4 := hr3.fr f4 (fun k hk e => by rcases hk with h | h <;> omega)
  have F4 := ((F2.trans F3 (fun _ _ h => h)).mono (fun _ _ h => h.elim)).trans f4 (fun _ _ h => h) |>.mono (fun k hk e => (by omega : False))
  have c4 := fun i => blk_cell g04 i
  have hsz4 : w.heap.size + 2 ≤ (w3.setRow w.heap.size #[.slice (some ⟨g3, o3, none⟩) X.zs.length cap3, .int .i64 X.size, .int .i64 X.op, .int .i64 ((X.n : Int) + 1), .bool X.down]).heap.size := by have h1 := F3.size; have h2 := f4.size; omega
  have h1 : (k : Int) < (X.zs.length : Int) := by omega
  have h2 : (0 : Int) ≤ (k : Int) := by omega
  obtain ⟨la, lc, hrz, hsz, hDg⟩ := (hr4.same (Y := X) rfl).at hk
  clear hc g0 g1 hr3 hr2
  have g24 := f4.heap (F3.heap g2 id) (by omega)
  go_upto_region 2 with (first | ((with_reducible refine is_load 27 rfl ?_); refine wpList_loadBw rfl 27 _ rfl b27 _ _ _ rfl (by first | assumption | exact blk_new _ _) rfl ?_) | ((with_reducible refine is_store 27 rfl ?_); refine wpList_storeBw rfl 27 _ _ rfl b27 _ _ _ _ rfl rfl (by first | assumption | exact blk_new _ _) rfl (bx27 _ _ _ _ _ _ _) ?_) | ((with_reducible refine is_load 117 rfl ?_); (first | refine wpList_loadBw rfl 117 _ rfl b117 _ _ _ rfl (by first | assumption | exact blk_new _ _) rfl ?_ | refine wpList_loadB rfl 117 _ rfl b117 _ _ _ rfl (by assumption) rfl ?_)) | ((with_reducible refine is_store 117 rfl ?_); (first | refine wpList_storeBw rfl 117 _ _ rfl b117 _ _ _ _ rfl rfl (by first | assumption | exact blk_new _ _) rfl (bx117 _ _ _ _ _ _) ?_ | refine wpList_storeBm rfl 117 _ _ rfl b117 _ _ _ rfl rfl (by assumption) (bx117 _ _ _ _ _ _) ?_)))
  clear g03 c4
  generalize w3.setRow w.heap.size #[.slice (some ⟨g3, o3, none⟩) X.zs.length cap3, .int .i64 X.size, .int .i64 X.op, .int .i64 ((X.n : Int) + 1), .bool X.down] = w4 at *
  have c4 := fun i => blk_cell g04 i
  clear f4 F3
  have gz5 := setRow_blk #[.slice la X.zs[k].L.length lc, .int .i64 X.zs[k].safe, .int .i64 X.zs[k].st, .bool X.zs[k].fin] (blk_new w4 (.cells #[.slice none 0 0, .int .i64 0, .int .i64 0, .bool false] 117))
  have F5 : Fr (fun _ => False) w4 _ := ((Fr.refl (fun _ => False) w4).alloc (.cells #[.slice none 0 0, .int .i64 0, .int .i64 0, .bool false] 117)).trans (setRow_fr (w4.alloc (.cells #[.slice none 0 0, .int .i64 0, .int .i64 0, .bool false] 117)) w4.heap.size #[.slice la X.zs[k].L.length lc, .int .i64 X.zs[k].safe, .int .i64 X.zs[k].st, .bool X.zs[k].fin]) (fun i hi e => by omega)
  go_upto_region 5 with (first | ((with_reducible refine is_load 27 rfl ?_); refine wpList_loadBw rfl 27 _ rfl b27 _ _ _ rfl (by first | assumption | exact blk_new _ _) rfl ?_) | ((with_reducible refine is_store 27 rfl ?_); refine wpList_storeBw rfl 27 _ _ rfl b27 _ _ _ _ rfl rfl (by first | assumption | exact blk_new _ _) rfl (bx27 _ _ _ _ _ _ _) ?_) | ((with_reducible refine is_load 117 rfl ?_); (first | refine wpList_loadBw rfl 117 _ rfl b117 _ _ _ rfl (by first | assumption | exact blk_new _ _) rfl ?_ | refine wpList_loadB rfl 117 _ rfl b117 _ _ _ rfl (by assumption) rfl ?_)) | ((with_reducible refine is_store 117 rfl ?_); (first | refine wpList_storeBw rfl 117 _ _ rfl b117 _ _ _ _ rfl rfl (by first | assumption | exact blk_new _ _) rfl (bx117 _ _ _ _ _ _) ?_ | refine wpList_storeBm rfl 117 _ _ rfl b117 _ _ _ rfl rfl (by assumption) (bx117 _ _ _ _ _ _) ?_)))
  generalize (w4.alloc (.cells #[.slice none 0 0, .int .i64 0, .int .i64 0, .bool false] 117)).setRow w4.heap.size #[.slice la X.zs[k].L.length lc, .int .i64 X.zs[k].safe, .int .i64 X.zs[k].st, .bool X.zs[k].fin] = w5 at *
  have g05 := F5.heap g04 id
  have g15 := F5.heap g14 id
  have hr5 := hr4.sharp.fr0 F5
  have hz5 := RdAt.fr0 (RdAt.sharp hsz) F5
  obtain ⟨bz, hbz⟩ : ∃ bz, w4.heap.size = bz := ⟨_, rfl⟩
  rw [hbz] at hsz4 gz5 hr5 hz5
  try rw [hbz]
  have HBZ := Lib.hid hbz
  clear g04 g14 hr4 hsz hrz c4 hbz
  have g25 := F5.heap g24 id
  have hsz2 := HSZ.out
  have hbz3 : w.heap.size + 2 < bz := by have h1 := blk_lt g24; have h2 := HBZ.out; omega
  have cz := fun i => blk_cell gz5 i
  have hfd := fun W => rfailed (w := W) (z := X.zs[k]) (l := .slice la X.zs[k].L.length lc) ⟨_, _, _, rfl⟩
  clear g24
  go_wp2_with fail
  refine (wpIn_wide (n := 0)).1 ?_
  refine regionIn_seqC (fun _ V => Fr (fun _ => False) w5 V) rfl (by kernel_rfl) (by kernel_rfl) (by kernel_rfl) (fun _ => trivial) rfl ((Fr.refl _ _).drew) ?_
  iterate 4
    apply SeqC.step
    · rfl
    · intro dn V hV ht hcl
      have cV := fun i => blk_cell (hV.heap gz5 id) i
      simp [Oper.gives, execOp, Act.eval, go_sem, cV, e0]
      exact ⟨rfl, hV⟩
    simp only [Act.put, List.setIfInBounds_toArray, List.set_cons_succ, List.set_cons_zero]
  iterate 5
    apply SeqC.pass
    · rfl
    · exact fun _ V hV _ _ => hV
    simp only [Act.put, List.setIfInBounds_toArray, List.set_cons_succ, List.set_cons_zero]
  apply SeqC.step
  · rfl
  · intro dn V hV ht hcl
    skip
    simp [Oper.gives, execOp, Act.eval, go_sem, e0]
    exact ⟨rfl, hV⟩
  simp only [Act.put, List.setIfInBounds_toArray, List.set_cons_succ, List.set_cons_zero]
  refine SeqC.nil fun w6 F6 => ?_
  have g06 := F6.heap g05 id
  have g16 := F6.heap g15 id
  have g26 := F6.heap g25 id
  have gz6 := F6.heap gz5 id
  have hr6 := hr5.fr0 F6
  have hz6 := RdAt.fr0 hz5 F6
  have FW6 : Fr (fun _ => False) w w6 := (F4.trans F5 (fun _ _ h => h)).trans F6 (fun _ _ h => h)
  clear cz g05 g15 g25 gz5 hr5 hz5 F4 F5 F6
  go_wp2_with (first | ((with_reducible refine is_load 27 rfl ?_); refine wpList_loadBw rfl 27 _ rfl b27 _ _ _ rfl (by first | assumption | exact blk_new _ _) rfl ?_) | ((with_reducible refine is_store 27 rfl ?_); refine wpList_storeBw rfl 27 _ _ rfl b27 _ _ _ _ rfl rfl (by first | assumption | exact blk_new _ _) rfl (bx27 _ _ _ _ _ _ _) ?_) | ((with_reducible refine is_load 117 rfl ?_); (first | refine wpList_loadBw rfl 117 _ rfl b117 _ _ _ rfl (by first | assumption | exact blk_new _ _) rfl ?_ | refine wpList_loadB rfl 117 _ rfl b117 _ _ _ rfl (by assumption) rfl ?_)) | ((with_reducible refine is_store 117 rfl ?_); (first | refine wpList_storeBw rfl 117 _ _ rfl b117 _ _ _ _ rfl rfl (by first | assumption | exact blk_new _ _) rfl (bx117 _ _ _ _ _ _) ?_ | refine wpList_storeBm rfl 117 _ _ rfl b117 _ _ _ rfl rfl (by assumption) (bx117 _ _ _ _ _ _) ?_)))
  refine (hfd _).mono ?_
  rintro e w7 ⟨rfl, F7⟩
  have g07 := F7.heap g06 id
  have g17 := F7.heap g16 id
  have g27 := F7.heap g26 id
  have gz7 := F7.heap gz6 id
  have hr7 := hr6.fr0 F7
  have hz7 := RdAt.fr0 hz6 F7
  have FW7 := FW6.trans F7 (fun _ _ h => h)
  have cz := fun i => blk_cell gz7 i
  have hnil := World.ownsRow_nil w7 0 34 64
  have hbz7 : bz < w7.heap.size := blk_lt gz7
  clear g06 g16 g26 gz6 hr6 hz6 FW6 F7
  go_upto_region 13 with (first | ((with_reducible refine is_load 27 rfl ?_); refine wpList_loadBw rfl 27 _ rfl b27 _ _ _ rfl (by first | assumption | exact blk_new _ _) rfl ?_) | ((with_reducible refine is_store 27 rfl ?_); refine wpList_storeBw rfl 27 _ _ rfl b27 _ _ _ _ rfl rfl (by first | assumption | exact blk_new _ _) rfl (bx27 _ _ _ _ _ _ _) ?_) | ((with_reducible refine is_load 117 rfl ?_); (first | refine wpList_loadBw rfl 117 _ rfl b117 _ _ _ rfl (by first | assumption | exact blk_new _ _) rfl ?_ | refine wpList_loadB rfl 117 _ rfl b117 _ _ _ rfl (by assumption) rfl ?_)) | ((with_reducible refine is_store 117 rfl ?_); (first | refine wpList_storeBw rfl 117 _ _ rfl b117 _ _ _ _ rfl rfl (by first | assumption | exact blk_new _ _) rfl (bx117 _ _ _ _ _ _) ?_ | refine wpList_storeBm rfl 117 _ _ rfl b117 _ _ _ rfl rfl (by assumption) (bx117 _ _ _ _ _ _) ?_)) | (at_builtin; refine wpList_app rfl s115 hnil hz7 _ _ rfl rfl rfl rfl (secs_len _) (secs_one _) (by omega) (Nat.zero_le _) ?_; intro a1 c1 w8 hr8 hg8 ho8))
  rw [Nat.zero_add, List.nil_append] at hr8
  rw [Nat.zero_add] at ho8
  have F8 : Fr (fun _ => False) w7 w8 := Fr.grown hg8 (fun _ h => by cases h)
  have hown : ∀ j, (Value.slice a1 X.zs[k].L.length c1).ownBlock = some j → w7.heap.size ≤ j := by
    intro j hj
    rcases ho8 with e | e
    · rw [hj] at e; cases e
    · rw [hj] at e; simp at e; omega
  have FA := (Fr.refl (fun _ => False) w8).alloc (.cells (secA s) 34)
  have FB := F8.trans FA (fun _ _ h => h)
  have g18 := F8.heap g17 id
  have hrowA := row_fr hr8 FA (fun _ _ => id)
  have rdA := one_rd w8 (secA s) 34
  have gzA := FB.heap gz7 id
  have g0A := FB.heap g07 id
  have hsz8 := F8.size
  clear cz hnil hg8 ho8 hr8 hz7 g17
  go_upto_region 14 with (first | ((with_reducible refine is_load 34 rfl ?_); refine wpList_loadBw rfl 34 _ rfl b34 _ _ _ rfl (by assumption) (secA_size _) ?_) | ((with_reducible refine is_slice 115 rfl ?_); refine wpList_one rfl 115 34 _ rfl Try.underlying115 b34 (by omega) _ rfl (secA_size _) ?_) | (at_builtin; refine wpList_app rfl s115 hrowA rdA _ _ rfl rfl rfl rfl (secL_len _) (secL_one _) (by omega) (Nat.zero_le _) ?_; intro a9 c9 w9 hr9 hg9 ho9; have F9 := Fr.grown (S := fun j => (Value.slice a1 X.zs[k].L.length c1).ownBlock = some j) hg9 (fun _ h => h); have gz9 := F9.heap gzA (fun e => by have := hown _ e; omega); have cz9 := fun i => blk_cell gz9 i; have fz9 := fun i => blk_frozen gz9 i))
  have hown2 : ∀ j, (Value.slice a9 (X.zs[k].L.length + 1) c9).ownBlock = some j → w7.heap.size ≤ j := by
    intro j hj
    rcases ho9 with e | e
    · exact hown j (e ▸ hj)
    · rw [hj] at e; simp at e; omega
  have F79 : Fr (fun _ => False) w7 w9 := FB.trans F9 (fun j hj e => by have := hown j e; omega)
  have gz10 := blk_put gz9 0 (.slice a9 (X.zs[k].L.length + 1) c9)
  have F10 : Fr (fun j => j = bz) w9 _ := Fr.set1 w9 bz 0 (.slice a9 (X.zs[k].L.length + 1) c9)
  simp only [List.setIfInBounds_toArray, List.set_cons_succ, List.set_cons_zero] at gz10
  have fz10 := fun i => blk_frozen gz10 i
  have cz10 := fun i => blk_cell gz10 i
  have gz11 := blk_put gz10 2 (.int .i64 1)
  simp only [List.setIfInBounds_toArray, List.set_cons_succ, List.set_cons_zero] at gz11
  have F11 : Fr (fun j => j = bz) w9 _ := F10.trans (Fr.set1 _ bz 2 (.int .i64 1)) (fun _ _ h => h)
  clear hrowA rdA gzA g0A g18 FA FB F8 hg9 ho9 hown cz9 fz9
  go_upto_region 15 with fail
  clear fz10 cz10 gz10 F10 gz9 F9
  generalize ((w9.setCell ⟨bz, 0, none⟩ (.slice a9 (X.zs[k].L.length + 1) c9)).setCell ⟨bz, 2, none⟩ (.int .i64 1)) = w11 at *
  by_cases hzf : X.zs[k].L.length + 1 = X.size
  · have b6 : (((X.zs[k].L.length : Int) + 1) == (X.size : Int)) = true := beq_iff_eq.2 (by omega)
    have happ : X.zs[k].app X.size s = ⟨X.zs[k].L ++ [s], X.zs[k].safe, 2, X.zs[k].fin⟩ := by simp only [ZS.app]; rw [if_pos hzf]
    have HA := Lib.hid happ
    clear hzf happ
    have c0_11 := fun i => blk_cell (F11.heap (F79.heap g07 id) (by omega)) i
    have cz11 := fun i => blk_cell gz11 i
    have fz11 := fun i => blk_frozen gz11 i
    have gz12 := blk_put gz11 2 (.int .i64 2)
    simp only [List.setIfInBounds_toArray, List.set_cons_succ, List.set_cons_zero] at gz12
    have F12' := F11.trans (Fr.set1 w11 bz 2 (.int .i64 2)) (fun _ _ h => h)
    go_upto_region 17 with fail
    clear c0_11 cz11 fz11 gz11
    generalize w11.setCell ⟨bz, 2, none⟩ (.int .i64 2) = w12 at *
    have EZ : X.zs[k].app X.size s = ⟨X.zs[k].L ++ [s], X.zs[k].safe, 2, X.zs[k].fin⟩ := HA.out
    have HEZ := Lib.hid EZ
    clear EZ
    have F12 : Fr (fun j => j = bz) w9 w12 := F12'
    have g0_12 := F12.heap (F79.heap g07 id) (by omega)
    have g2_12 := F12.heap (F79.heap g27 id) (by omega)
    have hr12 := (hr7.fr0 F79).fr F12 (fun j hj e => by rcases hj with ⟨h, h2⟩; omega)
    have hrow12 := row_fr hr9 F12 (fun j hj e => by have := hown2 j hj; omega)
    have FW12 := (FW7.trans F79 (fun _ _ h => h)).trans F12 (fun j hj e => by omega)
    have hs12 : w7.heap.size ≤ w12.heap.size := by have h1 := F79.size; have h2 := F12.size; omega
    have hz12 : RdS (fun j => ((((D j ∧ j < w.heap.size) ∨ w2.heap.size ≤ j) ∧ j < bz) ∨ w7.heap.size ≤ j)) w12 (.slice a9 (X.zs[k].L.length + 1) c9, X.zs[k].app X.size s) := by
      unfold RdS
      rw [HEZ.out]
      simp only [List.length_append, List.length_cons, List.length_nil, Nat.zero_add]
      rw [secs, flat_app, flat_one]
      exact (row_rd hrow12).mono (fun j hj => .inr (hown2 j hj))
    have hr12' := hr12.mono (D' := fun j => ((((D j ∧ j < w.heap.size) ∨ w2.heap.size ≤ j) ∧ j < bz) ∨ w7.heap.size ≤ j)) (fun j hj => .inl hj)
    have hput : ∀ V, Fr (fun _ => False) w12 V → Calls Try.prog 89 #[.agg #[.slice (some ⟨g3, o3, none⟩) X.zs.length cap3, .int .i64 X.size, .int .i64 X.op, .int .i64 ((X.n : Int) + 1), .bool X.down], .int .i64 k, .agg #[.slice a9 (X.zs[k].L.length + 1) c9, .int .i64 X.zs[k].safe, .int .i64 2, .bool X.zs[k].fin]] V (Rf1 (fun j => ((((D j ∧ j < w.heap.size) ∨ w2.heap.size ≤ j) ∧ j < bz) ∨ w7.heap.size ≤ j)) V (X.tick.set k (X.zs[k].app X.size s))) := by
      intro V hV
      have := rput (k := k) (hr12'.fr0 hV).rf hk hok.l2 (RdAt.fr0 hz12 hV)
      have e1 : (X.zs[k].app X.size s).safe = X.zs[k].safe := rfl
      have e2 : (X.zs[k].app X.size s).st = 2 := by rw [HEZ.out]
      have e3 : (X.zs[k].app X.size s).fin = X.zs[k].fin := rfl
      rw [e1, e2, e3] at this
      exact this
    have HP := Lib.hid hput
    clear hput hz12 hr12 hr12' hrow12 hr9 F12 F79 F11 FW7 g07 g27 gz7 hr7
    have hw1 : IntKind.i64.wrap ((X.zs[k].L.length : Int) + 1 - 1) = X.zs[k].L.length := by rw [show ((X.zs[k].L.length : Int) + 1 - 1) = X.zs[k].L.length by omega]; exact IntWalk.i64_in _ (by omega)
    have hw2 : ((X.zs[k].L.length : Int) + 1 - 1) = X.zs[k].L.length := by omega
    have hw3 : IntKind.i64.wrap ((X.zs[k].L.length : Int)) = X.zs[k].L.length := IntWalk.i64_in _ (by omega)
    have HW := Lib.hid (And.intro hw1 (And.intro hw2 hw3))
    clear hw1 hw2 hw3
    refine (wpIn_wide (n := 0)).1 ?_
    refine regionIn_seqN (fun j => j == 3 || j == 100) (SN w12 3 100 8
      (fun u V => ∃ g9 o9 cap9, u = .agg #[.slice (some ⟨g9, o9, none⟩) X.zs.length cap9, .int .i64 X.size, .int .i64 X.op, .int .i64 ((X.n : Int) + 1), .bool X.down] ∧ RdO (fun j => ((((D j ∧ j < w.heap.size) ∨ w2.heap.size ≤ j) ∧ j < bz) ∨ w7.heap.size ≤ j)) V g9 o9 cap9 (X.tick.set k (X.zs[k].app X.size s)))
      (fun _ _ => True)
      (fun V => (∃ g9 o9 cap9, V.heap[w.heap.size + 2]? = some (.cells #[.slice (some ⟨g9, o9, none⟩) X.zs.length cap9, .int .i64 X.size, .int .i64 X.op, .int .i64 ((X.n : Int) + 1), .bool X.down] 27 (0, 0)) ∧ RdO (fun j => ((((D j ∧ j < w.heap.size) ∨ w2.heap.size ≤ j) ∧ j < bz) ∨ w7.heap.size ≤ j)) V g9 o9 cap9 (X.tick.set k (X.zs[k].app X.size s))) ∧ Fr (fun j => j = w.heap.size + 2) w12 V)) rfl (by kernel_rfl) (by kernel_rfl) (by kernel_rfl) (fun _ => trivial) rfl (SN.loc rfl rfl) (fun vs => SN.start (Fr.refl _ _).drew) ?_
    iterate 2
      apply SeqN.step
      · rfl
      · exact fun _ => rfl
      · intro vs dn V hV ht hcl
        have hf := (hV.lo (ht.later 8 _ rfl (by kernel_rfl))).1; have cV := fun i => blk_cell (hf.heap g0_12 id) i
        simp [Oper.gives, execOp, Act.eval, go_sem, cV]
        exact ⟨rfl, hV.keep (by decide) (by decide) (by decide)⟩
      simp only [Act.put, List.setIfInBounds_toArray, List.set_cons_succ, List.set_cons_zero]
    apply SeqN.step
    · rfl
    · exact fun _ => rfl
    · intro vs dn V hV ht hcl
      have hf := (hV.lo (ht.later 8 _ rfl (by kernel_rfl))).1; have cV := fun i => blk_cell (hf.heap gz12 id) i
      simp [Oper.gives, execOp, Act.eval, go_sem, cV]
      exact ⟨rfl, hV.keep (by decide) (by decide) (by decide)⟩
    simp only [Act.put, List.setIfInBounds_toArray, List.set_cons_succ, List.set_cons_zero]
    apply SeqN.any
    · rfl
    · exact fun _ => rfl
    · intro vs dn V hV ht hcl
      have h8 := ht.later 8 _ rfl (by kernel_rfl)
      have hf := (hV.lo h8).1
      have hc := HP.out V hf
      simp [Oper.gives, execOp, Act.eval, go_sem]
      refine callsIn_wide.2 (hc.mono ?_)
      rintro e W9 ⟨v9, rfl, hq9⟩
      obtain ⟨g9, o9, cap9, rfl, hr9, F9⟩ := hq9.op_set hok.l1
      have hfs := hf.size
      exact ⟨_, rfl, hV.puti h8 (by decide) (by decide) F9 ⟨g9, o9, cap9, rfl, hr9.mono (fun j hj => by rcases hj with h | h; exact h; exact .inr (by omega))⟩ (fun _ _ => trivial)⟩
    simp only [Act.put, List.setIfInBounds_toArray, List.set_cons_succ, List.set_cons_zero]
    iterate 4
      apply SeqN.step
      · rfl
      · exact fun _ => rfl
      · intro vs dn V hV ht hcl
        have hF : Fr (fun j => j = w.heap.size + 2) w12 V := hV.fr (fun _ h => h.2); have cV := fun i => blk_cell (hF.heap gz12 (by omega)) i; have hwr := HW.out.1; have hwr2 := HW.out.2.1; have hwr3 := HW.out.2.2
        simp [Oper.gives, execOp, Act.eval, go_sem, cV, hwr, hwr2, hwr3]
        exact ⟨rfl, hV.keep (by decide) (by decide) (by decide)⟩
      simp only [Act.put, List.setIfInBounds_toArray, List.set_cons_succ, List.set_cons_zero]
    apply SeqN.step
    · rfl
    · exact fun _ => rfl
    · intro vs dn V hV ht hcl
      obtain ⟨hf, p3, -⟩ := hV.lo ht.not
      obtain ⟨g9, o9, cap9, e3, hr9⟩ := p3 (ht.dep 3 (by kernel_rfl))
      have hg := hf.heap g2_12 id
      have f9 := setRow_fr V (w.heap.size + 2) #[.slice (some ⟨g9, o9, none⟩) X.zs.length cap9, .int .i64 X.size, .int .i64 X.op, .int .i64 ((X.n : Int) + 1), .bool X.down]
      exact gives_storeBw rfl b27 rfl e3 hg rfl (bx27 _ _ _ _ _ _ _) ⟨rfl, SN.putk ⟨⟨g9, o9, cap9, setRow_blk _ hg, hr9.fr f9 (fun j hj e => by rcases hj with ⟨h | h, h2⟩ | h <;> omega)⟩, (hf.mono (fun _ _ h => h.elim)).trans f9 (fun _ _ e => e)⟩⟩
    simp only [Act.put, List.setIfInBounds_toArray, List.set_cons_succ, List.set_cons_zero]
    iterate 2
      apply SeqN.step
      · rfl
      · exact fun _ => rfl
      · intro vs dn V hV ht hcl
        skip
        simp [Oper.gives, execOp, Act.eval, go_sem, ]
        exact ⟨rfl, hV.keep (by decide) (by decide) (by decide)⟩
      simp only [Act.put, List.setIfInBounds_toArray, List.set_cons_succ, List.set_cons_zero]
    refine SeqN.nil fun vs V hV => ?_
    obtain ⟨⟨g9, o9, cap9, hg9, hr9⟩, hV1⟩ := hV.hi rfl
    clear hV
    go_wp2_with fail
    exact bodyPost_ret (res47 rfl rfl rfl hg9 rfl) rfl ⟨_, rfl, hr9.q rfl rfl rfl rfl (FW12.trans hV1 (fun k hk e => by omega)) (fun k hk => by rcases hk with ⟨h | h, h2⟩ | h; exact .inl h.1; exact .inr (by omega); exact .inr (by omega)) (len_set X k _)⟩
  · have b6 : (((X.zs[k].L.length : Int) + 1) == (X.size : Int)) = false := beq_eq_false_iff_ne.2 (by omega)
    have happ : X.zs[k].app X.size s = ⟨X.zs[k].L ++ [s], X.zs[k].safe, 1, X.zs[k].fin⟩ := by simp only [ZS.app]; rw [if_neg hzf]
    have HA := Lib.hid happ
    clear hzf happ
    have c0_11 := fun i => blk_cell (F11.heap (F79.heap g07 id) (by omega)) i
    have cz11 := fun i => blk_cell gz11 i
    go_upto_region 17 with fail
    clear c0_11 cz11
    have F12' := F11
    have gz12 := gz11
    clear gz11
    generalize w11 = w12 at *
    have EZ : X.zs[k].app X.size s = ⟨X.zs[k].L ++ [s], X.zs[k].safe, 1, X.zs[k].fin⟩ := HA.out
    have HEZ := Lib.hid EZ
    clear EZ
    have F12 : Fr (fun j => j = bz) w9 w12 := F12'
    have g0_12 := F12.heap (F79.heap g07 id) (by omega)
    have g2_12 := F12.heap (F79.heap g27 id) (by omega)
    have hr12 := (hr7.fr0 F79).fr F12 (fun j hj e => by rcases hj with ⟨h, h2⟩; omega)
    have hrow12 := row_fr hr9 F12 (fun j hj e => by have := hown2 j hj; omega)
    have FW12 := (FW7.trans F79 (fun _ _ h => h)).trans F12 (fun j hj e => by omega)
    have hs12 : w7.heap.size ≤ w12.heap.size := by have h1 := F79.size; have h2 := F12.size; omega
    have hz12 : RdS (fun j => ((((D j ∧ j < w.heap.size) ∨ w2.heap.size ≤ j) ∧ j < bz) ∨ w7.heap.size ≤ j)) w12 (.slice a9 (X.zs[k].L.length + 1) c9, X.zs[k].app X.size s) := by
      unfold RdS
      rw [HEZ.out]
      simp only [List.length_append, List.length_cons, List.length_nil, Nat.zero_add]
      rw [secs, flat_app, flat_one]
      exact (row_rd hrow12).mono (fun j hj => .inr (hown2 j hj))
    have hr12' := hr12.mono (D' := fun j => ((((D j ∧ j < w.heap.size) ∨ w2.heap.size ≤ j) ∧ j < bz) ∨ w7.heap.size ≤ j)) (fun j hj => .inl hj)
    have hput : ∀ V, Fr (fun _ => False) w12 V → Calls Try.prog 89 #[.agg #[.slice (some ⟨g3, o3, none⟩) X.zs.length cap3, .int .i64 X.size, .int .i64 X.op, .int .i64 ((X.n : Int) + 1), .bool X.down], .int .i64 k, .agg #[.slice a9 (X.zs[k].L.length + 1) c9, .int .i64 X.zs[k].safe, .int .i64 1, .bool X.zs[k].fin]] V (Rf1 (fun j => ((((D j ∧ j < w.heap.size) ∨ w2.heap.size ≤ j) ∧ j < bz) ∨ w7.heap.size ≤ j)) V (X.tick.set k (X.zs[k].app X.size s))) := by
      intro V hV
      have := rput (k := k) (hr12'.fr0 hV).rf hk hok.l2 (RdAt.fr0 hz12 hV)
      have e1 : (X.zs[k].app X.size s).safe = X.zs[k].safe := rfl
      have e2 : (X.zs[k].app X.size s).st = 1 := by rw [HEZ.out]
      have e3 : (X.zs[k].app X.size s).fin = X.zs[k].fin := rfl
      rw [e1, e2, e3] at this
      exact this
    have HP := Lib.hid hput
    clear hput hz12 hr12 hr12' hrow12 hr9 F12 F79 F11 FW7 g07 g27 gz7 hr7
    have hw1 : IntKind.i64.wrap ((X.zs[k].L.length : Int) + 1 - 1) = X.zs[k].L.length := by rw [show ((X.zs[k].L.length : Int) + 1 - 1) = X.zs[k].L.length by omega]; exact IntWalk.i64_in _ (by omega)
    have hw2 : ((X.zs[k].L.length : Int) + 1 - 1) = X.zs[k].L.length := by omega
    have hw3 : IntKind.i64.wrap ((X.zs[k].L.length : Int)) = X.zs[k].L.length := IntWalk.i64_in _ (by omega)
    have HW := Lib.hid (And.intro hw1 (And.intro hw2 hw3))
    clear hw1 hw2 hw3
    refine (wpIn_wide (n := 0)).1 ?_
    refine regionIn_seqN (fun j => j == 3 || j == 100) (SN w12 3 100 8
      (fun u V => ∃ g9 o9 cap9, u = .agg #[.slice (some ⟨g9, o9, none⟩) X.zs.length cap9, .int .i64 X.size, .int .i64 X.op, .int .i64 ((X.n : Int) + 1), .bool X.down] ∧ RdO (fun j => ((((D j ∧ j < w.heap.size) ∨ w2.heap.size ≤ j) ∧ j < bz) ∨ w7.heap.size ≤ j)) V g9 o9 cap9 (X.tick.set k (X.zs[k].app X.size s)))
      (fun _ _ => True)
      (fun V => (∃ g9 o9 cap9, V.heap[w.heap.size + 2]? = some (.cells #[.slice (some ⟨g9, o9, none⟩) X.zs.length cap9, .int .i64 X.size, .int .i64 X.op, .int .i64 ((X.n : Int) + 1), .bool X.down] 27 (0, 0)) ∧ RdO (fun j => ((((D j ∧ j < w.heap.size) ∨ w2.heap.size ≤ j) ∧ j < bz) ∨ w7.heap.size ≤ j)) V g9 o9 cap9 (X.tick.set k (X.zs[k].app X.size s))) ∧ Fr (fun j => j = w.heap.size + 2) w12 V)) rfl (by kernel_rfl) (by kernel_rfl) (by kernel_rfl) (fun _ => trivial) rfl (SN.loc rfl rfl) (fun vs => SN.start (Fr.refl _ _).drew) ?_
    iterate 2
      apply SeqN.step
      · rfl
      · exact fun _ => rfl
      · intro vs dn V hV ht hcl
        have hf := (hV.lo (ht.later 8 _ rfl (by kernel_rfl))).1; have cV := fun i => blk_cell (hf.heap g0_12 id) i
        simp [Oper.gives, execOp, Act.eval, go_sem, cV]
        exact ⟨rfl, hV.keep (by decide) (by decide) (by decide)⟩
      simp only [Act.put, List.setIfInBounds_toArray, List.set_cons_succ, List.set_cons_zero]
    apply SeqN.step
    · rfl
    · exact fun _ => rfl
    · intro vs dn V hV ht hcl
      have hf := (hV.lo (ht.later 8 _ rfl (by kernel_rfl))).1; have cV := fun i => blk_cell (hf.heap gz12 id) i
      simp [Oper.gives, execOp, Act.eval, go_sem, cV]
      exact ⟨rfl, hV.keep (by decide) (by decide) (by decide)⟩
    simp only [Act.put, List.setIfInBounds_toArray, List.set_cons_succ, List.set_cons_zero]
    apply SeqN.any
    · rfl
    · exact fun _ => rfl
    · intro vs dn V hV ht hcl
      have h8 := ht.later 8 _ rfl (by kernel_rfl)
      have hf := (hV.lo h8).1
      have hc := HP.out V hf
      simp [Oper.gives, execOp, Act.eval, go_sem]
      refine callsIn_wide.2 (hc.mono ?_)
      rintro e W9 ⟨v9, rfl, hq9⟩
      obtain ⟨g9, o9, cap9, rfl, hr9, F9⟩ := hq9.op_set hok.l1
      have hfs := hf.size
      exact ⟨_, rfl, hV.puti h8 (by decide) (by decide) F9 ⟨g9, o9, cap9, rfl, hr9.mono (fun j hj => by rcases hj with h | h; exact h; exact .inr (by omega))⟩ (fun _ _ => trivial)⟩
    simp only [Act.put, List.setIfInBounds_toArray, List.set_cons_succ, List.set_cons_zero]
    iterate 4
      apply SeqN.step
      · rfl
      · exact fun _ => rfl
      · intro vs dn V hV ht hcl
        have hF : Fr (fun j => j = w.heap.size + 2) w12 V := hV.fr (fun _ h => h.2); have cV := fun i => blk_cell (hF.heap gz12 (by omega)) i; have hwr := HW.out.1; have hwr2 := HW.out.2.1; have hwr3 := HW.out.2.2
        simp [Oper.gives, execOp, Act.eval, go_sem, cV, hwr, hwr2, hwr3]
        exact ⟨rfl, hV.keep (by decide) (by decide) (by decide)⟩
      simp only [Act.put, List.setIfInBounds_toArray, List.set_cons_succ, List.set_cons_zero]
    apply SeqN.step
    · rfl
    · exact fun _ => rfl
    · intro vs dn V hV ht hcl
      obtain ⟨hf, p3, -⟩ := hV.lo ht.not
      obtain ⟨g9, o9, cap9, e3, hr9⟩ := p3 (ht.dep 3 (by kernel_rfl))
      have hg := hf.heap g2_12 id
      have f9 := setRow_fr V (w.heap.size + 2) #[.slice (some ⟨g9, o9, none⟩) X.zs.length cap9, .int .i64 X.size, .int .i64 X.op, .int .i64 ((X.n : Int) + 1), .bool X.down]
      exact gives_storeBw rfl b27 rfl e3 hg rfl (bx27 _ _ _ _ _ _ _) ⟨rfl, SN.putk ⟨⟨g9, o9, cap9, setRow_blk _ hg, hr9.fr f9 (fun j hj e => by rcases hj with ⟨h | h, h2⟩ | h <;> omega)⟩, (hf.mono (fun _ _ h => h.elim)).trans f9 (fun _ _ e => e)⟩⟩
    simp only [Act.put, List.setIfInBounds_toArray, List.set_cons_succ, List.set_cons_zero]
    iterate 2
      apply SeqN.step
      · rfl
      · exact fun _ => rfl
      · intro vs dn V hV ht hcl
        skip
        simp [Oper.gives, execOp, Act.eval, go_sem, ]
        exact ⟨rfl, hV.keep (by decide) (by decide) (by decide)⟩
      simp only [Act.put, List.setIfInBounds_toArray, List.set_cons_succ, List.set_cons_zero]
    refine SeqN.nil fun vs V hV => ?_
    obtain ⟨⟨g9, o9, cap9, hg9, hr9⟩, hV1⟩ := hV.hi rfl
    clear hV
    go_wp2_with fail
    exact bodyPost_ret (res47 rfl rfl rfl hg9 rfl) rfl ⟨_, rfl, hr9.q rfl rfl rfl rfl (FW12.trans hV1 (fun k hk e => by omega)) (fun k hk => by rcases hk with ⟨h | h, h2⟩ | h; exact .inl h.1; exact .inr (by omega); exact .inr (by omega)) (len_set X k _)⟩
end
end Go.Proofs.Ytkbagfpoegfcaaa

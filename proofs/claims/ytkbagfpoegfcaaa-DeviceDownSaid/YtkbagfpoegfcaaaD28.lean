/- The document's device: Spoil. Conditions: a device is small. -/
import Derived.Test.YtkbagfpoegfcaaaD27
namespace Go.Proofs.Ytkbagfpoegfcaaa
open Go.RowKit Go.Conc

section
variable {w w' : World} {D S : Nat → Prop} {v : Value} {X Y : DS} {e0 a0 : Int} {s : Sec}
theorem res70 {tmps : Array Value} {W : World} {g : Nat} {u : Value} {S : Array Value} (h1 : tmps.getD 8 undef = .pointer (some ⟨g, 0, none⟩)) (h3 : tmps.getD 9 undef = u) (h2 : W.heap[g]? = some (.cells S 27 (0, 0))) (h4 : S.size = 5) :
    (results Try.f70 tmps).run Try.prog W = .ok (.tuple #[.agg S, u]) W := by
  rw [← h3]
  exact res_ct rfl h1 (run_loadBw b27 h2 h4)
/-- A cell put into a row. -/
theorem row_put1 {base : Nat} {E : TypeId} {sz n : Nat} {xs : List Value} (h : w.ownsRow base E sz v n xs) {i : Nat} (hi : i < n * sz) (u : Value) : ∃ g cap, v = .slice (some ⟨g, 0, none⟩) n cap ∧ w.cell? ⟨g, i, none⟩ = xs[i]? ∧ w.frozen? ⟨g, i, none⟩ = false ∧ (w.setCell ⟨g, i, none⟩ u).ownsRow base E sz v n (xs.set i u) := by
  rcases h.2 with ⟨rfl, rfl⟩ | ⟨g, cap, cur, rfl, hb, hg, h1, h2, h3, h4⟩
  · simp at hi
  · have hle2 : n * sz ≤ cap * sz := Nat.mul_le_mul_right _ h1
    refine ⟨g, cap, rfl, ?_, blk_frozen hg i, ⟨by simpa using h.1, .inr ⟨g, cap, _, rfl, hb, blk_put hg i u, h1, h2, by simpa using h3, ?_⟩⟩⟩
    · rw [blk_cell hg, ← h4, List.getElem?_take, if_pos hi]; simp
    · rw [Array.toList_setIfInBounds, List.take_set, h4]
/-- The cells while one sector is turned. -/
def mixS (L : List Sec) (j k : Nat) (t s : Sec) : List Value := (secs L).take (j * 64) ++ (xorA k t s).toList ++ (secs L).drop (j * 64 + 64)
theorem mixS_get {L : List Sec} {j k : Nat} (hj : j < L.length) (hk : k < 64) (t s : Sec) : (mixS L j k t s)[j * 64 + k]? = some (.int .u8 ((t.1.getD k 0).toNat : Int)) := by
  have hl : ((secs L).take (j * 64)).length = j * 64 := by rw [List.length_take, secs_len]; have : j * 64 ≤ L.length * 64 := Nat.mul_le_mul_right _ (by omega); omega
  unfold mixS
  rw [List.append_assoc, List.getElem?_append_right (by omega), hl, Nat.add_sub_cancel_left, List.getElem?_append_left (by rw [Array.length_toList, xorA_size k t s (by omega)]; exact hk)]
  have := xorA_get k t s hk
  simpa using this
theorem mixS_set {L : List Sec} {j k : Nat} (hj : j < L.length) (hk : k < 64) (t s : Sec) : (mixS L j k t s).set (j * 64 + k) (.int .u8 ((t.1.getD k 0 ^^^ s.1.getD k 0).toNat : Int)) = mixS L j (k + 1) t s := by
  have hl : ((secs L).take (j * 64)).length = j * 64 := by rw [List.length_take, secs_len]; have : j * 64 ≤ L.length * 64 := Nat.mul_le_mul_right _ (by omega); omega
  unfold mixS
  rw [List.append_assoc, List.set_append, if_neg (by omega), hl, Nat.add_sub_cancel_left, List.set_append, if_pos (by rw [Array.length_toList, xorA_size k t s (by omega)]; exact hk), ← xorA_set k t s hk, Array.toList_setIfInBounds, List.append_assoc]
theorem mixS_zero {L : List Sec} {j : Nat} (hj : j < L.length) (s : Sec) : mixS L j 0 L[j] s = secs L := by
  unfold mixS
  rw [xorA_zero]
  have := flat_set secL_len L j hj L[j]
  rw [List.set_getElem_self] at this
  exact this
theorem mixS_end {L : List Sec} {j : Nat} (hj : j < L.length) (s : Sec) : mixS L j 64 L[j] s = secs (L.set j (L[j].xor s)) := by
  unfold mixS
  rw [xorA_end]
  exact flat_set secL_len L j hj (L[j].xor s)
set_option linter.unusedSimpArgs false
set_option maxRecDepth 100000 in
set_option maxHeartbeats 2000000 in
theorem rspoil_out (h : RfS D w v X) (hok : X.Ok) {x off : Int} (hx : x < 0 ∨ X.zs.length ≤ x) : Calls Try.prog 70 #[v, .int .i64 x, .int .i64 off, .agg (secA s)] w (Rf2 D w X (.int .i64 13)) := by
  rcases hx with hx | hx
  · obtain ⟨g, o, cap, rfl, hr⟩ := h.sharp.op hok.l1
    have h3w := three w (.cells #[.slice (some ⟨g, o, none⟩) X.zs.length cap, .int .i64 X.size, .int .i64 X.op, .int .i64 X.n, .bool X.down] 27) (.cells (secA s) 34) (.cells #[.slice none 0 0, .int .i64 0, .int .i64 0, .int .i64 0, .bool false] 27)
    go_enter Try.func70, Try.ntmps70
    go_upto_region 1 with (first | ((with_reducible refine is_alloc 35 rfl ?_); refine wpList_allocB rfl 35 rfl b35 ?_) | ((with_reducible refine is_alloc 34 rfl ?_); refine wpList_allocB rfl 34 rfl b34 ?_) | ((with_reducible refine is_load 35 rfl ?_); (first | refine wpList_loadBw rfl 35 _ rfl b35 _ _ _ rfl (by assumption) (secA_size _) ?_ | refine wpList_loadB rfl 35 _ rfl b35 _ _ _ rfl (by assumption) (secA_size _) ?_)) | ((with_reducible refine is_load 34 rfl ?_); (first | refine wpList_loadBw rfl 34 _ rfl b34 _ _ _ rfl (by assumption) (secA_size _) ?_ | refine wpList_loadB rfl 34 _ rfl b34 _ _ _ rfl (by assumption) (secA_size _) ?_)) | ((with_reducible refine is_store 35 rfl ?_); refine wpList_storeBw rfl 35 _ _ rfl b35 _ _ _ _ rfl rfl (by assumption) (secA_size _) (secA_bx _) ?_) | ((with_reducible refine is_store 34 rfl ?_); refine wpList_storeBw rfl 34 _ _ rfl b34 _ _ _ _ rfl rfl (by assumption) (secA_size _) (secA_bx _) ?_) | ((with_reducible refine is_build 34 rfl ?_); refine wpList_buildZ34 rfl rfl ?_) | ((with_reducible refine is_build 35 rfl ?_); refine wpList_buildZ35 rfl rfl ?_))
    generalize ((w.alloc (.cells #[.slice (some ⟨g, o, none⟩) X.zs.length cap, .int .i64 X.size, .int .i64 X.op, .int .i64 X.n, .bool X.down] 27)).alloc (.cells (secA s) 34)).alloc (.cells #[.slice none 0 0, .int .i64 0, .int .i64 0, .int .i64 0, .bool false] 27) = w2 at *
    obtain ⟨F2, g0, g1, g2, hsz⟩ := h3w
    have hr2 := hr.fr0 F2
    have HSZ := Lib.hid hsz
    clear hsz hr
    have c0 := fun i => blk_cell g0 i
    have hsz2 := HSZ.out
    go_wp2_with (first | ((with_reducible refine is_load 27 rfl ?_); refine wpList_loadBw rfl 27 _ rfl b27 _ _ _ rfl (by first | assumption | exact blk_new _ _) rfl ?_) | ((with_reducible refine is_store 27 rfl ?_); refine wpList_storeBw rfl 27 _ _ rfl b27 _ _ _ _ rfl rfl (by first | assumption | exact blk_new _ _) rfl (bx27 _ _ _ _ _ _ _) ?_) | ((with_reducible refine is_load 117 rfl ?_); (first | refine wpList_loadBw rfl 117 _ rfl b117 _ _ _ rfl (by first | assumption | exact blk_new _ _) rfl ?_ | refine wpList_loadB rfl 117 _ rfl b117 _ _ _ rfl (by assumption) rfl ?_)) | ((with_reducible refine is_store 117 rfl ?_); (first | refine wpList_storeBw rfl 117 _ _ rfl b117 _ _ _ _ rfl rfl (by first | assumption | exact blk_new _ _) rfl (bx117 _ _ _ _ _ _) ?_ | refine wpList_storeBm rfl 117 _ _ rfl b117 _ _ _ rfl rfl (by assumption) (bx117 _ _ _ _ _ _) ?_)))
    exact bodyPost_ret (res70 rfl rfl (setRow_blk _ g2) rfl) rfl ⟨_, rfl, (hr2.fr (setRow_fr _ _ _) (fun k hk e => by omega)).q rfl rfl rfl rfl (F2.trans (setRow_fr _ _ _) (fun k hk e => by omega)) (fun k hk => .inl hk.1) rfl⟩
  · have h0 : 0 ≤ x := by omega
    obtain ⟨g, o, cap, rfl, hr⟩ := h.sharp.op hok.l1
    have h3w := three w (.cells #[.slice (some ⟨g, o, none⟩) X.zs.length cap, .int .i64 X.size, .int .i64 X.op, .int .i64 X.n, .bool X.down] 27) (.cells (secA s) 34) (.cells #[.slice none 0 0, .int .i64 0, .int .i64 0, .int .i64 0, .bool false] 27)
    go_enter Try.func70, Try.ntmps70
    go_upto_region 1 with (first | ((with_reducible refine is_alloc 35 rfl ?_); refine wpList_allocB rfl 35 rfl b35 ?_) | ((with_reducible refine is_alloc 34 rfl ?_); refine wpList_allocB rfl 34 rfl b34 ?_) | ((with_reducible refine is_load 35 rfl ?_); (first | refine wpList_loadBw rfl 35 _ rfl b35 _ _ _ rfl (by assumption) (secA_size _) ?_ | refine wpList_loadB rfl 35 _ rfl b35 _ _ _ rfl (by assumption) (secA_size _) ?_)) | ((with_reducible refine is_load 34 rfl ?_); (first | refine wpList_loadBw rfl 34 _ rfl b34 _ _ _ rfl (by assumption) (secA_size _) ?_ | refine wpList_loadB rfl 34 _ rfl b34 _ _ _ rfl (by assumption) (secA_size _) ?_)) | ((with_reducible refine is_store 35 rfl ?_); refine wpList_storeBw rfl 35 _ _ rfl b35 _ _ _ _ rfl rfl (by assumption) (secA_size _) (secA_bx _) ?_) | ((with_reducible refine is_store 34 rfl ?_); refine wpList_storeBw rfl 34 _ _ rfl b34 _ _ _ _ rfl rfl (by assumption) (secA_size _) (secA_bx _) ?_) | ((with_reducible refine is_build 34 rfl ?_); refine wpList_buildZ34 rfl rfl ?_) | ((with_reducible refine is_build 35 rfl ?_); refine wpList_buildZ35 rfl rfl ?_))
    generalize ((w.alloc (.cells #[.slice (some ⟨g, o, none⟩) X.zs.length cap, .int .i64 X.size, .int .i64 X.op, .int .i64 X.n, .bool X.down] 27)).alloc (.cells (secA s) 34)).alloc (.cells #[.slice none 0 0, .int .i64 0, .int .i64 0, .int .i64 0, .bool false] 27) = w2 at *
    obtain ⟨F2, g0, g1, g2, hsz⟩ := h3w
    have hr2 := hr.fr0 F2
    have HSZ := Lib.hid hsz
    clear hsz hr
    have c0 := fun i => blk_cell g0 i
    have hsz2 := HSZ.out
    go_wp2_with (first | ((with_reducible refine is_load 27 rfl ?_); refine wpList_loadBw rfl 27 _ rfl b27 _ _ _ rfl (by first | assumption | exact blk_new _ _) rfl ?_) | ((with_reducible refine is_store 27 rfl ?_); refine wpList_storeBw rfl 27 _ _ rfl b27 _ _ _ _ rfl rfl (by first | assumption | exact blk_new _ _) rfl (bx27 _ _ _ _ _ _ _) ?_) | ((with_reducible refine is_load 117 rfl ?_); (first | refine wpList_loadBw rfl 117 _ rfl b117 _ _ _ rfl (by first | assumption | exact blk_new _ _) rfl ?_ | refine wpList_loadB rfl 117 _ rfl b117 _ _ _ rfl (by assumption) rfl ?_)) | ((with_reducible refine is_store 117 rfl ?_); (first | refine wpList_storeBw rfl 117 _ _ rfl b117 _ _ _ _ rfl rfl (by first | assumption | exact blk_new _ _) rfl (bx117 _ _ _ _ _ _) ?_ | refine wpList_storeBm rfl 117 _ _ rfl b117 _ _ _ rfl rfl (by assumption) (bx117 _ _ _ _ _ _) ?_)))
    exact bodyPost_ret (res70 rfl rfl (setRow_blk _ g2) rfl) rfl ⟨_, rfl, (hr2.fr (setRow_fr _ _ _) (fun k hk e => by omega)).q rfl rfl rfl rfl (F2.trans (setRow_fr _ _ _) (fun k hk e => by omega)) (fun k hk => .inl hk.1) rfl⟩
set_option maxRecDepth 100000 in
set_option maxHeartbeats 4000000 in
theorem rspoil_no (h : RfS D w v X) (hok : X.Ok) {k : Nat} (hk : k < X.zs.length) {off : Int} (ho : off < 0 ∨ X.zs[k].L.length ≤ off) : Calls Try.prog 70 #[v, .int .i64 k, .int .i64 off, .agg (secA s)] w (Rf2 D w X (.int .i64 31)) := by
  rcases ho with ho | ho
  · obtain ⟨g, o, cap, rfl, hr⟩ := h.sharp.op hok.l1
    have h3w := three w (.cells #[.slice (some ⟨g, o, none⟩) X.zs.length cap, .int .i64 X.size, .int .i64 X.op, .int .i64 X.n, .bool X.down] 27) (.cells (secA s) 34) (.cells #[.slice none 0 0, .int .i64 0, .int .i64 0, .int .i64 0, .bool false] 27)
    go_enter Try.func70, Try.ntmps70
    go_upto_region 1 with (first | ((with_reducible refine is_alloc 35 rfl ?_); refine wpList_allocB rfl 35 rfl b35 ?_) | ((with_reducible refine is_alloc 34 rfl ?_); refine wpList_allocB rfl 34 rfl b34 ?_) | ((with_reducible refine is_load 35 rfl ?_); (first | refine wpList_loadBw rfl 35 _ rfl b35 _ _ _ rfl (by assumption) (secA_size _) ?_ | refine wpList_loadB rfl 35 _ rfl b35 _ _ _ rfl (by assumption) (secA_size _) ?_)) | ((with_reducible refine is_load 34 rfl ?_); (first | refine wpList_loadBw rfl 34 _ rfl b34 _ _ _ rfl (by assumption) (secA_size _) ?_ | refine wpList_loadB rfl 34 _ rfl b34 _ _ _ rfl (by assumption) (secA_size _) ?_)) | ((with_reducible refine is_store 35 rfl ?_); refine wpList_storeBw rfl 35 _ _ rfl b35 _ _ _ _ rfl rfl (by assumption) (secA_size _) (secA_bx _) ?_) | ((with_reducible refine is_store 34 rfl ?_); refine wpList_storeBw rfl 34 _ _ rfl b34 _ _ _ _ rfl rfl (by assumption) (secA_size _) (secA_bx _) ?_) | ((with_reducible refine is_build 34 rfl ?_); refine wpList_buildZ34 rfl rfl ?_) | ((with_reducible refine is_build 35 rfl ?_); refine wpList_buildZ35 rfl rfl ?_))
    generalize ((w.alloc (.cells #[.slice (some ⟨g, o, none⟩) X.zs.length cap, .int .i64 X.size, .int .i64 X.op, .int .i64 X.n, .bool X.down] 27)).alloc (.cells (secA s) 34)).alloc (.cells #[.slice none 0 0, .int .i64 0, .int .i64 0, .int .i64 0, .bool false] 27) = w2 at *
    obtain ⟨F2, g0, g1, g2, hsz⟩ := h3w
    have hr2 := hr.fr0 F2
    have HSZ := Lib.hid hsz
    clear hsz hr
    have h1 : (k : Int) < (X.zs.length : Int) := by omega
    have h2 : (0 : Int) ≤ (k : Int) := by omega
    have hk' : ¬ X.zs.length ≤ k := by omega
    obtain ⟨la, lc, hrz, hsz, hDg⟩ := hr2.at hk
    have c4 := fun i => blk_cell g0 i
    have g04 := g0
    have g14 := g1
    have hr4 := hr2
    have hsz4 : w.heap.size + 2 ≤ w2.heap.size := by rw [HSZ.out]; omega
    clear g0 g1 hr2
    have gz5 := setRow_blk #[.slice la X.zs[k].L.length lc, .int .i64 X.zs[k].safe, .int .i64 X.zs[k].st, .bool X.zs[k].fin] (blk_new w2 (.cells #[.slice none 0 0, .int .i64 0, .int .i64 0, .bool false] 117))
    have F5 : Fr (fun _ => False) w2 _ := ((Fr.refl (fun _ => False) w2).alloc (.cells #[.slice none 0 0, .int .i64 0, .int .i64 0, .bool false] 117)).trans (setRow_fr (w2.alloc (.cells #[.slice none 0 0, .int .i64 0, .int .i64 0, .bool false] 117)) w2.heap.size #[.slice la X.zs[k].L.length lc, .int .i64 X.zs[k].safe, .int .i64 X.zs[k].st, .bool X.zs[k].fin]) (fun i hi e => by omega)
    go_upto_region 4 with (first | ((with_reducible refine is_load 27 rfl ?_); refine wpList_loadBw rfl 27 _ rfl b27 _ _ _ rfl (by first | assumption | exact blk_new _ _) rfl ?_) | ((with_reducible refine is_store 27 rfl ?_); refine wpList_storeBw rfl 27 _ _ rfl b27 _ _ _ _ rfl rfl (by first | assumption | exact blk_new _ _) rfl (bx27 _ _ _ _ _ _ _) ?_) | ((with_reducible refine is_load 117 rfl ?_); (first | refine wpList_loadBw rfl 117 _ rfl b117 _ _ _ rfl (by first | assumption | exact blk_new _ _) rfl ?_ | refine wpList_loadB rfl 117 _ rfl b117 _ _ _ rfl (by assumption) rfl ?_)) | ((with_reducible refine is_store 117 rfl ?_); (first | refine wpList_storeBw rfl 117 _ _ rfl b117 _ _ _ _ rfl rfl (by first | assumption | exact blk_new _ _) rfl (bx117 _ _ _ _ _ _) ?_ | refine wpList_storeBm rfl 117 _ _ rfl b117 _ _ _ rfl rfl (by assumption) (bx117 _ _ _ _ _ _) ?_)))
    generalize (w2.alloc (.cells #[.slice none 0 0, .int .i64 0, .int .i64 0, .bool false] 117)).setRow w2.heap.size #[.slice la X.zs[k].L.length lc, .int .i64 X.zs[k].safe, .int .i64 X.zs[k].st, .bool X.zs[k].fin] = w5 at *
    have g05 := F5.heap g04 id
    have g15 := F5.heap g14 id
    have hr5 := hr4.sharp.fr0 F5
    have hz5 := RdAt.fr0 (RdAt.sharp hsz) F5
    obtain ⟨bz, hbz⟩ : ∃ bz, w2.heap.size = bz := ⟨_, rfl⟩
    rw [hbz] at hsz4 gz5 hr5 hz5
    try rw [hbz]
    have HBZ := Lib.hid hbz
    clear g04 g14 hr4 hsz hrz c4 hbz
    have g25 := F5.heap g2 id
    have hsz2 := HSZ.out
    have hbz3 : w.heap.size + 2 < bz := by have h2 := HBZ.out; omega
    have cz := fun i => blk_cell gz5 i
    go_wp2_with (first | ((with_reducible refine is_load 27 rfl ?_); refine wpList_loadBw rfl 27 _ rfl b27 _ _ _ rfl (by first | assumption | exact blk_new _ _) rfl ?_) | ((with_reducible refine is_store 27 rfl ?_); refine wpList_storeBw rfl 27 _ _ rfl b27 _ _ _ _ rfl rfl (by first | assumption | exact blk_new _ _) rfl (bx27 _ _ _ _ _ _ _) ?_) | ((with_reducible refine is_load 117 rfl ?_); (first | refine wpList_loadBw rfl 117 _ rfl b117 _ _ _ rfl (by first | assumption | exact blk_new _ _) rfl ?_ | refine wpList_loadB rfl 117 _ rfl b117 _ _ _ rfl (by assumption) rfl ?_)) | ((with_reducible refine is_store 117 rfl ?_); (first | refine wpList_storeBw rfl 117 _ _ rfl b117 _ _ _ _ rfl rfl (by first | assumption | exact blk_new _ _) rfl (bx117 _ _ _ _ _ _) ?_ | refine wpList_storeBm rfl 117 _ _ rfl b117 _ _ _ rfl rfl (by assumption) (bx117 _ _ _ _ _ _) ?_)))
    exact bodyPost_ret (res70 rfl rfl (setRow_blk _ g25) rfl) rfl ⟨_, rfl, (hr5.fr (setRow_fr _ _ _) (fun k hk e => by rcases hk with ⟨h, h2⟩; omega)).q rfl rfl rfl rfl ((F2.trans F5 (fun _ _ h => h)).trans (setRow_fr _ _ _) (fun k hk e => by omega)) (fun k hk => .inl hk.1.1) rfl⟩
  · have h0 : 0 ≤ off := by omega
    obtain ⟨g, o, cap, rfl, hr⟩ := h.sharp.op hok.l1
    have h3w := three w (.cells #[.slice (some ⟨g, o, none⟩) X.zs.length cap, .int .i64 X.size, .int .i64 X.op, .int .i64 X.n, .bool X.down] 27) (.cells (secA s) 34) (.cells #[.slice none 0 0, .int .i64 0, .int .i64 0, .int .i64 0, .bool false] 27)
    go_enter Try.func70, Try.ntmps70
    go_upto_region 1 with (first | ((with_reducible refine is_alloc 35 rfl ?_); refine wpList_allocB rfl 35 rfl b35 ?_) | ((with_reducible refine is_alloc 34 rfl ?_); refine wpList_allocB rfl 34 rfl b34 ?_) | ((with_reducible refine is_load 35 rfl ?_); (first | refine wpList_loadBw rfl 35 _ rfl b35 _ _ _ rfl (by assumption) (secA_size _) ?_ | refine wpList_loadB rfl 35 _ rfl b35 _ _ _ rfl (by assumption) (secA_size _) ?_)) | ((with_reducible refine is_load 34 rfl ?_); (first | refine wpList_loadBw rfl 34 _ rfl b34 _ _ _ rfl (by assumption) (secA_size _) ?_ | refine wpList_loadB rfl 34 _ rfl b34 _ _ _ rfl (by assumption) (secA_size _) ?_)) | ((with_reducible refine is_store 35 rfl ?_); refine wpList_storeBw rfl 35 _ _ rfl b35 _ _ _ _ rfl rfl (by assumption) (secA_size _) (secA_bx _) ?_) | ((with_reducible refine is_store 34 rfl ?_); refine wpList_storeBw rfl 34 _ _ rfl b34 _ _ _ _ rfl rfl (by assumption) (secA_size _) (secA_bx _) ?_) | ((with_reducible refine is_build 34 rfl ?_); refine wpList_buildZ34 rfl rfl ?_) | ((with_reducible refine is_build 35 rfl ?_); refine wpList_buildZ35 rfl rfl ?_))
    generalize ((w.alloc (.cells #[.slice (some ⟨g, o, none⟩) X.zs.length cap, .int .i64 X.size, .int .i64 X.op, .int .i64 X.n, .bool X.down] 27)).alloc (.cells (secA s) 34)).alloc (.cells #[.slice none 0 0, .int .i64 0, .int .i64 0, .int .i64 0, .bool false] 27) = w2 at *
    obtain ⟨F2, g0, g1, g2, hsz⟩ := h3w
    have hr2 := hr.fr0 F2
    have HSZ := Lib.hid hsz
    clear hsz hr
    have h1 : (k : Int) < (X.zs.length : Int) := by omega
    have h2 : (0 : Int) ≤ (k : Int) := by omega
    have hk' : ¬ X.zs.length ≤ k := by omega
    obtain ⟨la, lc, hrz, hsz, hDg⟩ := hr2.at hk
    have c4 := fun i => blk_cell g0 i
    have g04 := g0
    have g14 := g1
    have hr4 := hr2
    have hsz4 : w.heap.size + 2 ≤ w2.heap.size := by rw [HSZ.out]; omega
    clear g0 g1 hr2
    have gz5 := setRow_blk #[.slice la X.zs[k].L.length lc, .int .i64 X.zs[k].safe, .int .i64 X.zs[k].st, .bool X.zs[k].fin] (blk_new w2 (.cells #[.slice none 0 0, .int .i64 0, .int .i64 0, .bool false] 117))
    have F5 : Fr (fun _ => False) w2 _ := ((Fr.refl (fun _ => False) w2).alloc (.cells #[.slice none 0 0, .int .i64 0, .int .i64 0, .bool false] 117)).trans (setRow_fr (w2.alloc (.cells #[.slice none 0 0, .int .i64 0, .int .i64 0, .bool false] 117)) w2.heap.size #[.slice la X.zs[k].L.length lc, .int .i64 X.zs[k].safe, .int .i64 X.zs[k].st, .bool X.zs[k].fin]) (fun i hi e => by omega)
    go_upto_region 4 with (first | ((with_reducible refine is_load 27 rfl ?_); refine wpList_loadBw rfl 27 _ rfl b27 _ _ _ rfl (by first | assumption | exact blk_new _ _) rfl ?_) | ((with_reducible refine is_store 27 rfl ?_); refine wpList_storeBw rfl 27 _ _ rfl b27 _ _ _ _ rfl rfl (by first | assumption | exact blk_new _ _) rfl (bx27 _ _ _ _ _ _ _) ?_) | ((with_reducible refine is_load 117 rfl ?_); (first | refine wpList_loadBw rfl 117 _ rfl b117 _ _ _ rfl (by first | assumption | exact blk_new _ _) rfl ?_ | refine wpList_loadB rfl 117 _ rfl b117 _ _ _ rfl (by assumption) rfl ?_)) | ((with_reducible refine is_store 117 rfl ?_); (first | refine wpList_storeBw rfl 117 _ _ rfl b117 _ _ _ _ rfl rfl (by first | assumption | exact blk_new _ _) rfl (bx117 _ _ _ _ _ _) ?_ | refine wpList_storeBm rfl 117 _ _ rfl b117 _ _ _ rfl rfl (by assumption) (bx117 _ _ _ _ _ _) ?_)))
    generalize (w2.alloc (.cells #[.slice none 0 0, .int .i64 0, .int .i64 0, .bool false] 117)).setRow w2.heap.size #[.slice la X.zs[k].L.length lc, .int .i64 X.zs[k].safe, .int .i64 X.zs[k].st, .bool X.zs[k].fin] = w5 at *
    have g05 := F5.heap g04 id
    have g15 := F5.heap g14 id
    have hr5 := hr4.sharp.fr0 F5
    have hz5 := RdAt.fr0 (RdAt.sharp hsz) F5
    obtain ⟨bz, hbz⟩ : ∃ bz, w2.heap.size = bz := ⟨_, rfl⟩
    rw [hbz] at hsz4 gz5 hr5 hz5
    try rw [hbz]
    have HBZ := Lib.hid hbz
    clear g04 g14 hr4 hsz hrz c4 hbz
    have g25 := F5.heap g2 id
    have hsz2 := HSZ.out
    have hbz3 : w.heap.size + 2 < bz := by have h2 := HBZ.out; omega
    have cz := fun i => blk_cell gz5 i
    go_wp2_with (first | ((with_reducible refine is_load 27 rfl ?_); refine wpList_loadBw rfl 27 _ rfl b27 _ _ _ rfl (by first | assumption | exact blk_new _ _) rfl ?_) | ((with_reducible refine is_store 27 rfl ?_); refine wpList_storeBw rfl 27 _ _ rfl b27 _ _ _ _ rfl rfl (by first | assumption | exact blk_new _ _) rfl (bx27 _ _ _ _ _ _ _) ?_) | ((with_reducible refine is_load 117 rfl ?_); (first | refine wpList_loadBw rfl 117 _ rfl b117 _ _ _ rfl (by first | assumption | exact blk_new _ _) rfl ?_ | refine wpList_loadB rfl 117 _ rfl b117 _ _ _ rfl (by assumption) rfl ?_)) | ((with_reducible refine is_store 117 rfl ?_); (first | refine wpList_storeBw rfl 117 _ _ rfl b117 _ _ _ _ rfl rfl (by first | assumption | exact blk_new _ _) rfl (bx117 _ _ _ _ _ _) ?_ | refine wpList_storeBm rfl 117 _ _ rfl b117 _ _ _ rfl rfl (by assumption) (bx117 _ _ _ _ _ _) ?_)))
    exact bodyPost_ret (res70 rfl rfl (setRow_blk _ g25) rfl) rfl ⟨_, rfl, (hr5.fr (setRow_fr _ _ _) (fun k hk e => by rcases hk with ⟨h, h2⟩; omega)).q rfl rfl rfl rfl ((F2.trans F5 (fun _ _ h => h)).trans (setRow_fr _ _ _) (fun k hk e => by omega)) (fun k hk => .inl hk.1.1) rfl⟩
end
end Go.Proofs.Ytkbagfpoegfcaaa

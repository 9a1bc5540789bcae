/- The document's device: Fail. Conditions: a device is small. -/
import Derived.Test.YtkbagfpoegfcaaaD17
namespace Go.Proofs.Ytkbagfpoegfcaaa
open Go.RowKit Go.Conc

section
variable {w w' : World} {D S : Nat → Prop} {v : Value} {X Y : DS} {e0 : Int}
theorem res68 {tmps : Array Value} {W : World} {g : Nat} {u : Value} {S : Array Value} (h1 : tmps.getD 6 undef = .pointer (some ⟨g, 0, none⟩)) (h3 : tmps.getD 7 undef = u) (h2 : W.heap[g]? = some (.cells S 27 (0, 0))) (h4 : S.size = 5) :
    (results Try.f68 tmps).run Try.prog W = .ok (.tuple #[.agg S, u]) W := by
  rw [← h3]
  exact res_ct rfl h1 (run_loadBw b27 h2 h4)
set_option linter.unusedSimpArgs false
set_option maxRecDepth 100000 in
set_option maxHeartbeats 2000000 in
theorem rfail_out (h : RfS D w v X) (hok : X.Ok) {x st : Int} (hx : x < 0 ∨ X.zs.length ≤ x) : Calls Try.prog 68 #[v, .int .i64 x, .int .i64 st] w (Rf2 D w X (.int .i64 13)) := by
  rcases hx with hx | hx
  · obtain ⟨g, o, cap, rfl, hr⟩ := h.sharp.op hok.l1
    have h2w := two w (.cells #[.slice (some ⟨g, o, none⟩) X.zs.length cap, .int .i64 X.size, .int .i64 X.op, .int .i64 X.n, .bool X.down] 27) (.cells #[.slice none 0 0, .int .i64 0, .int .i64 0, .int .i64 0, .bool false] 27)
    go_enter Try.func68, Try.ntmps68
    go_upto_region 1 with fail
    generalize (w.alloc (.cells #[.slice (some ⟨g, o, none⟩) X.zs.length cap, .int .i64 X.size, .int .i64 X.op, .int .i64 X.n, .bool X.down] 27)).alloc (.cells #[.slice none 0 0, .int .i64 0, .int .i64 0, .int .i64 0, .bool false] 27) = w2 at *
    obtain ⟨F2, g0, g1, hsz⟩ := h2w
    have hr2 := hr.fr0 F2
    have HSZ := Lib.hid hsz
    clear hsz hr
    have c0 := fun i => blk_cell g0 i
    go_wp2_with (first | ((with_reducible refine is_load 27 rfl ?_); refine wpList_loadBw rfl 27 _ rfl b27 _ _ _ rfl (by first | assumption | exact blk_new _ _) rfl ?_) | ((with_reducible refine is_store 27 rfl ?_); refine wpList_storeBw rfl 27 _ _ rfl b27 _ _ _ _ rfl rfl (by first | assumption | exact blk_new _ _) rfl (bx27 _ _ _ _ _ _ _) ?_) | ((with_reducible refine is_load 117 rfl ?_); (first | refine wpList_loadBw rfl 117 _ rfl b117 _ _ _ rfl (by first | assumption | exact blk_new _ _) rfl ?_ | refine wpList_loadB rfl 117 _ rfl b117 _ _ _ rfl (by assumption) rfl ?_)) | ((with_reducible refine is_store 117 rfl ?_); (first | refine wpList_storeBw rfl 117 _ _ rfl b117 _ _ _ _ rfl rfl (by first | assumption | exact blk_new _ _) rfl (bx117 _ _ _ _ _ _) ?_ | refine wpList_storeBm rfl 117 _ _ rfl b117 _ _ _ rfl rfl (by assumption) (bx117 _ _ _ _ _ _) ?_)))
    exact bodyPost_ret (res68 rfl rfl (setRow_blk _ g1) rfl) rfl ⟨_, rfl, (hr2.fr (setRow_fr _ _ _) (fun k hk e => by omega)).q rfl rfl rfl rfl (F2.trans (setRow_fr _ _ _) (fun k hk e => by omega)) (fun k hk => .inl hk.1) rfl⟩
  · have h0 : 0 ≤ x := by omega
    obtain ⟨g, o, cap, rfl, hr⟩ := h.sharp.op hok.l1
    have h2w := two w (.cells #[.slice (some ⟨g, o, none⟩) X.zs.length cap, .int .i64 X.size, .int .i64 X.op, .int .i64 X.n, .bool X.down] 27) (.cells #[.slice none 0 0, .int .i64 0, .int .i64 0, .int .i64 0, .bool false] 27)
    go_enter Try.func68, Try.ntmps68
    go_upto_region 1 with fail
    generalize (w.alloc (.cells #[.slice (some ⟨g, o, none⟩) X.zs.length cap, .int .i64 X.size, .int .i64 X.op, .int .i64 X.n, .bool X.down] 27)).alloc (.cells #[.slice none 0 0, .int .i64 0, .int .i64 0, .int .i64 0, .bool false] 27) = w2 at *
    obtain ⟨F2, g0, g1, hsz⟩ := h2w
    have hr2 := hr.fr0 F2
    have HSZ := Lib.hid hsz
    clear hsz hr
    have c0 := fun i => blk_cell g0 i
    go_wp2_with (first | ((with_reducible refine is_load 27 rfl ?_); refine wpList_loadBw rfl 27 _ rfl b27 _ _ _ rfl (by first | assumption | exact blk_new _ _) rfl ?_) | ((with_reducible refine is_store 27 rfl ?_); refine wpList_storeBw rfl 27 _ _ rfl b27 _ _ _ _ rfl rfl (by first | assumption | exact blk_new _ _) rfl (bx27 _ _ _ _ _ _ _) ?_) | ((with_reducible refine is_load 117 rfl ?_); (first | refine wpList_loadBw rfl 117 _ rfl b117 _ _ _ rfl (by first | assumption | exact blk_new _ _) rfl ?_ | refine wpList_loadB rfl 117 _ rfl b117 _ _ _ rfl (by assumption) rfl ?_)) | ((with_reducible refine is_store 117 rfl ?_); (first | refine wpList_storeBw rfl 117 _ _ rfl b117 _ _ _ _ rfl rfl (by first | assumption | exact blk_new _ _) rfl (bx117 _ _ _ _ _ _) ?_ | refine wpList_storeBm rfl 117 _ _ rfl b117 _ _ _ rfl rfl (by assumption) (bx117 _ _ _ _ _ _) ?_)))
    exact bodyPost_ret (res68 rfl rfl (setRow_blk _ g1) rfl) rfl ⟨_, rfl, (hr2.fr (setRow_fr _ _ _) (fun k hk e => by omega)).q rfl rfl rfl rfl (F2.trans (setRow_fr _ _ _) (fun k hk e => by omega)) (fun k hk => .inl hk.1) rfl⟩
set_option maxRecDepth 100000 in
set_option maxHeartbeats 4000000 in
theorem rfail_in (h : RfS D w v X) (hok : X.Ok) {k : Nat} (hk : k < X.zs.length) (st : Int) : Calls Try.prog 68 #[v, .int .i64 k, .int .i64 st] w (Rf2 D w (X.set k { X.zs[k] with st := failTo X.zs[k].st st }) (.int .i64 0)) := by
  obtain ⟨g, o, cap, rfl, hr⟩ := h.sharp.op hok.l1
  have h2w := two w (.cells #[.slice (some ⟨g, o, none⟩) X.zs.length cap, .int .i64 X.size, .int .i64 X.op, .int .i64 X.n, .bool X.down] 27) (.cells #[.slice none 0 0, .int .i64 0, .int .i64 0, .int .i64 0, .bool false] 27)
  go_enter Try.func68, Try.ntmps68
  go_upto_region 1 with fail
  generalize (w.alloc (.cells #[.slice (some ⟨g, o, none⟩) X.zs.length cap, .int .i64 X.size, .int .i64 X.op, .int .i64 X.n, .bool X.down] 27)).alloc (.cells #[.slice none 0 0, .int .i64 0, .int .i64 0, .int .i64 0, .bool false] 27) = w2 at *
  obtain ⟨F2, g0, g1, hsz⟩ := h2w
  have hr2 := hr.fr0 F2
  have HSZ := Lib.hid hsz
  clear hsz hr
  have h1 : (k : Int) < (X.zs.length : Int) := by omega
  have h2 : (0 : Int) ≤ (k : Int) := by omega
  have hk' : ¬ X.zs.length ≤ k := by omega
  have h1' : ¬ (X.zs.length : Int) ≤ (k : Int) := by omega
  obtain ⟨la, lc, hrz, hsz, hDg⟩ := hr2.at hk
  have c4 := fun i => blk_cell g0 i
  have g04 := g0
  have g14 := g1
  have hr4 := hr2
  have hsz4 : w.heap.size + 2 ≤ w2.heap.size := by rw [HSZ.out]; exact Nat.le_refl _
  clear g0 g1 hr2
  have gz5 := setRow_blk #[.slice la X.zs[k].L.length lc, .int .i64 X.zs[k].safe, .int .i64 X.zs[k].st, .bool X.zs[k].fin] (blk_new w2 (.cells #[.slice none 0 0, .int .i64 0, .int .i64 0, .bool false] 117))
  have F5 : Fr (fun _ => False) w2 _ := ((Fr.refl (fun _ => False) w2).alloc (.cells #[.slice none 0 0, .int .i64 0, .int .i64 0, .bool false] 117)).trans (setRow_fr (w2.alloc (.cells #[.slice none 0 0, .int .i64 0, .int .i64 0, .bool false] 117)) w2.heap.size #[.slice la X.zs[k].L.length lc, .int .i64 X.zs[k].safe, .int .i64 X.zs[k].st, .bool X.zs[k].fin]) (fun i hi e => by omega)
  go_upto_region 4 with (first | ((with_reducible refine is_load 27 rfl ?_); refine wpList_loadBw rfl 27 _ rfl b27 _ _ _ rfl (by first | assumption | exact blk_new _ _) rfl ?_) | ((with_reducible refine is_store 27 rfl ?_); refine wpList_storeBw rfl 27 _ _ rfl b27 _ _ _ _ rfl rfl (by first | assumption | exact blk_new _ _) rfl (bx27 _ _ _ _ _ _ _) ?_) | ((with_reducible refine is_load 117 rfl ?_); (first | refine wpList_loadBw rfl 117 _ rfl b117 _ _ _ rfl (by first | assumption | exact blk_new _ _) rfl ?_ | refine wpList_loadB rfl 117 _ rfl b117 _ _ _ rfl (by assumption) rfl ?_)) | ((with_reducible refine is_store 117 rfl ?_); (first | refine wpList_storeBw rfl 117 _ _ rfl b117 _ _ _ _ rfl rfl (by first | assumption | exact blk_new _ _) rfl (bx117 _ _ _ _ _ _) ?_ | refine wpList_storeBm rfl 117 _ _ rfl b117 _ _ _ rfl rfl (by assumption) (bx117 _ _ _ _ _ _) ?_)))
  generalize (w2.alloc (.cells #[.slice none 0 0, .int .i64 0, .int .i64 0, .bool false] 117)).setRow w2.heap.size #[.slice la X.zs[k].L.length lc, .int .i64 X.zs[k].safe, .int .i64 X.zs[k].st, .bool X.zs[k].fin] = w5 at *
  have g05 := F5.heap g04 id
  have g15 := F5.heap g14 id
  have hr5 := hr4.sharp.fr0 F5
  have hz5 := RdAt.fr0 (RdAt.sharp hsz) F5
  obtain ⟨bz, hbz⟩ : ∃ bz, w2.heap.size = bz := ⟨_, rfl⟩
  rw [hbz] at hsz4 gz5 hr5 hz5
  try rw [hbz]
  have HBZ := Lib.hid hbz
  clear g04 g14 hr4 hsz hrz c4 hbz
  have cz := fun i => blk_cell gz5 i
  have fz := fun i => blk_frozen gz5 i
  have F6 : Fr (fun j => j = bz) w5 (w5.setCell ⟨bz, 2, none⟩ (.int .i64 st)) := Fr.set1 w5 bz 2 (.int .i64 st)
  have gz6 := blk_put gz5 2 (.int .i64 st)
  simp only [List.setIfInBounds_toArray, List.set_cons_succ, List.set_cons_zero] at gz6
  by_cases h4 : st = 4
  · have ef : failTo X.zs[k].st st = st := if_pos (.inl h4)
    have EF := Lib.hid ef
    clear ef
    have b4 : (st == 4) = true := by simpa using h4
    clear h4
    have hm5 := F5.size
    go_upto_region 6 with (first | ((with_reducible refine is_load 27 rfl ?_); refine wpList_loadBw rfl 27 _ rfl b27 _ _ _ rfl (by first | assumption | exact blk_new _ _) rfl ?_) | ((with_reducible refine is_store 27 rfl ?_); refine wpList_storeBw rfl 27 _ _ rfl b27 _ _ _ _ rfl rfl (by first | assumption | exact blk_new _ _) rfl (bx27 _ _ _ _ _ _ _) ?_) | ((with_reducible refine is_load 117 rfl ?_); (first | refine wpList_loadBw rfl 117 _ rfl b117 _ _ _ rfl (by first | assumption | exact blk_new _ _) rfl ?_ | refine wpList_loadB rfl 117 _ rfl b117 _ _ _ rfl (by assumption) rfl ?_)) | ((with_reducible refine is_store 117 rfl ?_); (first | refine wpList_storeBw rfl 117 _ _ rfl b117 _ _ _ _ rfl rfl (by first | assumption | exact blk_new _ _) rfl (bx117 _ _ _ _ _ _) ?_ | refine wpList_storeBm rfl 117 _ _ rfl b117 _ _ _ rfl rfl (by assumption) (bx117 _ _ _ _ _ _) ?_)))
    generalize w5.setCell ⟨bz, 2, none⟩ (.int .i64 st) = w8 at *; have F8 := F6; have gz8 := gz6; clear cz fz gz5 F6 gz6
    have hm8 := F8.size
    have g08 := F8.heap g05 (by omega)
    have g18 := F8.heap g15 (by omega)
    have hr8 := hr5.fr F8 (fun j hj e => by rcases hj with ⟨h, h2⟩; omega)
    have hz8 := RdAt.fr hz5 F8 (fun j hj e => by rcases hj with ⟨h, h2⟩; omega)
    have hb1 : w.heap.size + 1 < w8.heap.size := blk_lt g18
    have hp : Calls Try.prog 89 #[.agg #[.slice (some ⟨g, o, none⟩) X.zs.length cap, .int .i64 X.size, .int .i64 X.op, .int .i64 X.n, .bool X.down], .int .i64 k, .agg #[.slice la X.zs[k].L.length lc, .int .i64 X.zs[k].safe, .int .i64 st, .bool X.zs[k].fin]] w8 (Rf1 _ w8 (X.set k { X.zs[k] with st := st })) := rput (z := { X.zs[k] with st := st }) hr8.rf hk hok.l2 hz8
    clear g05 g15 hr5 hz5
    go_wp2_with (first | ((with_reducible refine is_load 27 rfl ?_); refine wpList_loadBw rfl 27 _ rfl b27 _ _ _ rfl (by first | assumption | exact blk_new _ _) rfl ?_) | ((with_reducible refine is_store 27 rfl ?_); refine wpList_storeBw rfl 27 _ _ rfl b27 _ _ _ _ rfl rfl (by first | assumption | exact blk_new _ _) rfl (bx27 _ _ _ _ _ _ _) ?_) | ((with_reducible refine is_load 117 rfl ?_); (first | refine wpList_loadBw rfl 117 _ rfl b117 _ _ _ rfl (by first | assumption | exact blk_new _ _) rfl ?_ | refine wpList_loadB rfl 117 _ rfl b117 _ _ _ rfl (by assumption) rfl ?_)) | ((with_reducible refine is_store 117 rfl ?_); (first | refine wpList_storeBw rfl 117 _ _ rfl b117 _ _ _ _ rfl rfl (by first | assumption | exact blk_new _ _) rfl (bx117 _ _ _ _ _ _) ?_ | refine wpList_storeBm rfl 117 _ _ rfl b117 _ _ _ rfl rfl (by assumption) (bx117 _ _ _ _ _ _) ?_)))
    refine hp.mono ?_
    rintro e w9 ⟨v9, rfl, hq9⟩
    obtain ⟨g9, o9, cap9, rfl, hr9, F9⟩ := hq9.op (by simpa [DS.set, DS.tick] using hok.l1)
    have g19 := F9.heap g18 id
    have hsz2 := HSZ.out
    go_wp2_with (first | ((with_reducible refine is_load 27 rfl ?_); refine wpList_loadBw rfl 27 _ rfl b27 _ _ _ rfl (by first | assumption | exact blk_new _ _) rfl ?_) | ((with_reducible refine is_store 27 rfl ?_); refine wpList_storeBw rfl 27 _ _ rfl b27 _ _ _ _ rfl rfl (by first | assumption | exact blk_new _ _) rfl (bx27 _ _ _ _ _ _ _) ?_) | ((with_reducible refine is_load 117 rfl ?_); (first | refine wpList_loadBw rfl 117 _ rfl b117 _ _ _ rfl (by first | assumption | exact blk_new _ _) rfl ?_ | refine wpList_loadB rfl 117 _ rfl b117 _ _ _ rfl (by assumption) rfl ?_)) | ((with_reducible refine is_store 117 rfl ?_); (first | refine wpList_storeBw rfl 117 _ _ rfl b117 _ _ _ _ rfl rfl (by first | assumption | exact blk_new _ _) rfl (bx117 _ _ _ _ _ _) ?_ | refine wpList_storeBm rfl 117 _ _ rfl b117 _ _ _ rfl rfl (by assumption) (bx117 _ _ _ _ _ _) ?_)))
    have hfin := fun S => (hr9.fr (setRow_fr w9 (w.heap.size + 1) S) (fun k hk e => by rcases hk with ⟨h, h2⟩ | h <;> omega)).q (D := D) (w := w) rfl rfl rfl rfl
          ((((F2.trans F5 (fun _ _ h => h)).trans F8 (fun k hk e => by omega)).trans F9 (fun _ _ h => h)).trans (setRow_fr _ _ _) (fun k hk e => by omega)) (fun k hk => by rcases hk with ⟨h, h2⟩ | h; exact .inl h.1; exact .inr (by omega)) rfl
    rw [EF.out]
    exact bodyPost_ret (res68 rfl rfl (setRow_blk _ g19) rfl) rfl ⟨_, rfl, hfin _⟩
  · have b4 : (st == 4) = false := by simpa using h4
    by_cases h3 : st = 3
    · have b3 : (st == 3) = true := by simpa using h3
      by_cases hz : X.zs[k].st = 4
      · have ef : failTo X.zs[k].st st = X.zs[k].st := if_neg (by rintro (h | ⟨_, h⟩); exact h4 h; exact h hz)
        have EF := Lib.hid ef
        have bz4 : (X.zs[k].st != 4) = false := by simpa using hz
        clear ef h4 h3 hz
        have hm5 := F5.size
        go_upto_region 6 with (first | ((with_reducible refine is_load 27 rfl ?_); refine wpList_loadBw rfl 27 _ rfl b27 _ _ _ rfl (by first | assumption | exact blk_new _ _) rfl ?_) | ((with_reducible refine is_store 27 rfl ?_); refine wpList_storeBw rfl 27 _ _ rfl b27 _ _ _ _ rfl rfl (by first | assumption | exact blk_new _ _) rfl (bx27 _ _ _ _ _ _ _) ?_) | ((with_reducible refine is_load 117 rfl ?_); (first | refine wpList_loadBw rfl 117 _ rfl b117 _ _ _ rfl (by first | assumption | exact blk_new _ _) rfl ?_ | refine wpList_loadB rfl 117 _ rfl b117 _ _ _ rfl (by assumption) rfl ?_)) | ((with_reducible refine is_store 117 rfl ?_); (first | refine wpList_storeBw rfl 117 _ _ rfl b117 _ _ _ _ rfl rfl (by first | assumption | exact blk_new _ _) rfl (bx117 _ _ _ _ _ _) ?_ | refine wpList_storeBm rfl 117 _ _ rfl b117 _ _ _ rfl rfl (by assumption) (bx117 _ _ _ _ _ _) ?_)))
        have F8 : Fr (fun j => j = bz) w5 w5 := Fr.refl _ _; obtain ⟨w8, hw8⟩ : ∃ w8, w5 = w8 := ⟨_, rfl⟩; rw [hw8] at F8; have gz8 : w8.heap[bz]? = _ := hw8 ▸ gz5; rw [hw8] at F5 hr5 hz5 g05 g15 hm5; rw [hw8]; clear cz fz gz5 F6 gz6 hw8
        have hm8 := F8.size
        have g08 := F8.heap g05 (by omega)
        have g18 := F8.heap g15 (by omega)
        have hr8 := hr5.fr F8 (fun j hj e => by rcases hj with ⟨h, h2⟩; omega)
        have hz8 := RdAt.fr hz5 F8 (fun j hj e => by rcases hj with ⟨h, h2⟩; omega)
        have hb1 : w.heap.size + 1 < w8.heap.size := blk_lt g18
        have hp : Calls Try.prog 89 #[.agg #[.slice (some ⟨g, o, none⟩) X.zs.length cap, .int .i64 X.size, .int .i64 X.op, .int .i64 X.n, .bool X.down], .int .i64 k, .agg #[.slice la X.zs[k].L.length lc, .int .i64 X.zs[k].safe, .int .i64 X.zs[k].st, .bool X.zs[k].fin]] w8 (Rf1 _ w8 (X.set k { X.zs[k] with st := X.zs[k].st })) := rput (z := { X.zs[k] with st := X.zs[k].st }) hr8.rf hk hok.l2 hz8
        clear g05 g15 hr5 hz5
        go_wp2_with (first | ((with_reducible refine is_load 27 rfl ?_); refine wpList_loadBw rfl 27 _ rfl b27 _ _ _ rfl (by first | assumption | exact blk_new _ _) rfl ?_) | ((with_reducible refine is_store 27 rfl ?_); refine wpList_storeBw rfl 27 _ _ rfl b27 _ _ _ _ rfl rfl (by first | assumption | exact blk_new _ _) rfl (bx27 _ _ _ _ _ _ _) ?_) | ((with_reducible refine is_load 117 rfl ?_); (first | refine wpList_loadBw rfl 117 _ rfl b117 _ _ _ rfl (by first | assumption | exact blk_new _ _) rfl ?_ | refine wpList_loadB rfl 117 _ rfl b117 _ _ _ rfl (by assumption) rfl ?_)) | ((with_reducible refine is_store 117 rfl ?_); (first | refine wpList_storeBw rfl 117 _ _ rfl b117 _ _ _ _ rfl rfl (by first | assumption | exact blk_new _ _) rfl (bx117 _ _ _ _ _ _) ?_ | refine wpList_storeBm rfl 117 _ _ rfl b117 _ _ _ rfl rfl (by assumption) (bx117 _ _ _ _ _ _) ?_)))
        refine hp.mono ?_
        rintro e w9 ⟨v9, rfl, hq9⟩
        obtain ⟨g9, o9, cap9, rfl, hr9, F9⟩ := hq9.op (by simpa [DS.set, DS.tick] using hok.l1)
        have g19 := F9.heap g18 id
        have hsz2 := HSZ.out
        go_wp2_with (first | ((with_reducible refine is_load 27 rfl ?_); refine wpList_loadBw rfl 27 _ rfl b27 _ _ _ rfl (by first | assumption | exact blk_new _ _) rfl ?_) | ((with_reducible refine is_store 27 rfl ?_); refine wpList_storeBw rfl 27 _ _ rfl b27 _ _ _ _ rfl rfl (by first | assumption | exact blk_new _ _) rfl (bx27 _ _ _ _ _ _ _) ?_) | ((with_reducible refine is_load 117 rfl ?_); (first | refine wpList_loadBw rfl 117 _ rfl b117 _ _ _ rfl (by first | assumption | exact blk_new _ _) rfl ?_ | refine wpList_loadB rfl 117 _ rfl b117 _ _ _ rfl (by assumption) rfl ?_)) | ((with_reducible refine is_store 117 rfl ?_); (first | refine wpList_storeBw rfl 117 _ _ rfl b117 _ _ _ _ rfl rfl (by first | assumption | exact blk_new _ _) rfl (bx117 _ _ _ _ _ _) ?_ | refine wpList_storeBm rfl 117 _ _ rfl b117 _ _ _ rfl rfl (by assumption) (bx117 _ _ _ _ _ _) ?_)))
        have hfin := fun S => (hr9.fr (setRow_fr w9 (w.heap.size + 1) S) (fun k hk e => by rcases hk with ⟨h, h2⟩ | h <;> omega)).q (D := D) (w := w) rfl rfl rfl rfl
              ((((F2.trans F5 (fun _ _ h => h)).trans F8 (fun k hk e => by omega)).trans F9 (fun _ _ h => h)).trans (setRow_fr _ _ _) (fun k hk e => by omega)) (fun k hk => by rcases hk with ⟨h, h2⟩ | h; exact .inl h.1; exact .inr (by omega)) rfl
        rw [EF.out]
        exact bodyPost_ret (res68 rfl rfl (setRow_blk _ g19) rfl) rfl ⟨_, rfl, hfin _⟩
      · have ef : failTo X.zs[k].st st = st := if_pos (.inr ⟨h3, hz⟩)
        have EF := Lib.hid ef
        have bz4 : (X.zs[k].st != 4) = true := by simpa using hz
        clear ef h4 h3 hz
        have hm5 := F5.size
        go_upto_region 6 with (first | ((with_reducible refine is_load 27 rfl ?_); refine wpList_loadBw rfl 27 _ rfl b27 _ _ _ rfl (by first | assumption | exact blk_new _ _) rfl ?_) | ((with_reducible refine is_store 27 rfl ?_); refine wpList_storeBw rfl 27 _ _ rfl b27 _ _ _ _ rfl rfl (by first | assumption | exact blk_new _ _) rfl (bx27 _ _ _ _ _ _ _) ?_) | ((with_reducible refine is_load 117 rfl ?_); (first | refine wpList_loadBw rfl 117 _ rfl b117 _ _ _ rfl (by first | assumption | exact blk_new _ _) rfl ?_ | refine wpList_loadB rfl 117 _ rfl b117 _ _ _ rfl (by assumption) rfl ?_)) | ((with_reducible refine is_store 117 rfl ?_); (first | refine wpList_storeBw rfl 117 _ _ rfl b117 _ _ _ _ rfl rfl (by first | assumption | exact blk_new _ _) rfl (bx117 _ _ _ _ _ _) ?_ | refine wpList_storeBm rfl 117 _ _ rfl b117 _ _ _ rfl rfl (by assumption) (bx117 _ _ _ _ _ _) ?_)))
        generalize w5.setCell ⟨bz, 2, none⟩ (.int .i64 st) = w8 at *; have F8 := F6; have gz8 := gz6; clear cz fz gz5 F6 gz6
        have hm8 := F8.size
        have g08 := F8.heap g05 (by omega)
        have g18 := F8.heap g15 (by omega)
        have hr8 := hr5.fr F8 (fun j hj e => by rcases hj with ⟨h, h2⟩; omega)
        have hz8 := RdAt.fr hz5 F8 (fun j hj e => by rcases hj with ⟨h, h2⟩; omega)
        have hb1 : w.heap.size + 1 < w8.heap.size := blk_lt g18
        have hp : Calls Try.prog 89 #[.agg #[.slice (some ⟨g, o, none⟩) X.zs.length cap, .int .i64 X.size, .int .i64 X.op, .int .i64 X.n, .bool X.down], .int .i64 k, .agg #[.slice la X.zs[k].L.length lc, .int .i64 X.zs[k].safe, .int .i64 st, .bool X.zs[k].fin]] w8 (Rf1 _ w8 (X.set k { X.zs[k] with st := st })) := rput (z := { X.zs[k] with st := st }) hr8.rf hk hok.l2 hz8
        clear g05 g15 hr5 hz5
        go_wp2_with (first | ((with_reducible refine is_load 27 rfl ?_); refine wpList_loadBw rfl 27 _ rfl b27 _ _ _ rfl (by first | assumption | exact blk_new _ _) rfl ?_) | ((with_reducible refine is_store 27 rfl ?_); refine wpList_storeBw rfl 27 _ _ rfl b27 _ _ _ _ rfl rfl (by first | assumption | exact blk_new _ _) rfl (bx27 _ _ _ _ _ _ _) ?_) | ((with_reducible refine is_load 117 rfl ?_); (first | refine wpList_loadBw rfl 117 _ rfl b117 _ _ _ rfl (by first | assumption | exact blk_new _ _) rfl ?_ | refine wpList_loadB rfl 117 _ rfl b117 _ _ _ rfl (by assumption) rfl ?_)) | ((with_reducible refine is_store 117 rfl ?_); (first | refine wpList_storeBw rfl 117 _ _ rfl b117 _ _ _ _ rfl rfl (by first | assumption | exact blk_new _ _) rfl (bx117 _ _ _ _ _ _) ?_ | refine wpList_storeBm rfl 117 _ _ rfl b117 _ _ _ rfl rfl (by assumption) (bx117 _ _ _ _ _ _) ?_)))
        refine hp.mono ?_
        rintro e w9 ⟨v9, rfl, hq9⟩
        obtain ⟨g9, o9, cap9, rfl, hr9, F9⟩ := hq9.op (by simpa [DS.set, DS.tick] using hok.l1)
        have g19 := F9.heap g18 id
        have hsz2 := HSZ.out
        go_wp2_with (first | ((with_reducible refine is_load 27 rfl ?_); refine wpList_loadBw rfl 27 _ rfl b27 _ _ _ rfl (by first | assumption | exact blk_new _ _) rfl ?_) | ((with_reducible refine is_store 27 rfl ?_); refine wpList_storeBw rfl 27 _ _ rfl b27 _ _ _ _ rfl rfl (by first | assumption | exact blk_new _ _) rfl (bx27 _ _ _ _ _ _ _) ?_) | ((with_reducible refine is_load 117 rfl ?_); (first | refine wpList_loadBw rfl 117 _ rfl b117 _ _ _ rfl (by first | assumption | exact blk_new _ _) rfl ?_ | refine wpList_loadB rfl 117 _ rfl b117 _ _ _ rfl (by assumption) rfl ?_)) | ((with_reducible refine is_store 117 rfl ?_); (first | refine wpList_storeBw rfl 117 _ _ rfl b117 _ _ _ _ rfl rfl (by first | assumption | exact blk_new _ _) rfl (bx117 _ _ _ _ _ _) ?_ | refine wpList_storeBm rfl 117 _ _ rfl b117 _ _ _ rfl rfl (by assumption) (bx117 _ _ _ _ _ _) ?_)))
        have hfin := fun S => (hr9.fr (setRow_fr w9 (w.heap.size + 1) S) (fun k hk e => by rcases hk with ⟨h, h2⟩ | h <;> omega)).q (D := D) (w := w) rfl rfl rfl rfl
              ((((F2.trans F5 (fun _ _ h => h)).trans F8 (fun k hk e => by omega)).trans F9 (fun _ _ h => h)).trans (setRow_fr _ _ _) (fun k hk e => by omega)) (fun k hk => by rcases hk with ⟨h, h2⟩ | h; exact .inl h.1; exact .inr (by omega)) rfl
        rw [EF.out]
        exact bodyPost_ret (res68 rfl rfl (setRow_blk _ g19) rfl) rfl ⟨_, rfl, hfin _⟩
    · have ef : failTo X.zs[k].st st = X.zs[k].st := if_neg (by rintro (h | ⟨h, _⟩); exact h4 h; exact h3 h)
      have EF := Lib.hid ef
      have b3 : (st == 3) = false := by simpa using h3
      clear ef h4 h3
      have hm5 := F5.size
      go_upto_region 6 with (first | ((with_reducible refine is_load 27 rfl ?_); refine wpList_loadBw rfl 27 _ rfl b27 _ _ _ rfl (by first | assumption | exact blk_new _ _) rfl ?_) | ((with_reducible refine is_store 27 rfl ?_); refine wpList_storeBw rfl 27 _ _ rfl b27 _ _ _ _ rfl rfl (by first | assumption | exact blk_new _ _) rfl (bx27 _ _ _ _ _ _ _) ?_) | ((with_reducible refine is_load 117 rfl ?_); (first | refine wpList_loadBw rfl 117 _ rfl b117 _ _ _ rfl (by first | assumption | exact blk_new _ _) rfl ?_ | refine wpList_loadB rfl 117 _ rfl b117 _ _ _ rfl (by assumption) rfl ?_)) | ((with_reducible refine is_store 117 rfl ?_); (first | refine wpList_storeBw rfl 117 _ _ rfl b117 _ _ _ _ rfl rfl (by first | assumption | exact blk_new _ _) rfl (bx117 _ _ _ _ _ _) ?_ | refine wpList_storeBm rfl 117 _ _ rfl b117 _ _ _ rfl rfl (by assumption) (bx117 _ _ _ _ _ _) ?_)))
      have F8 : Fr (fun j => j = bz) w5 w5 := Fr.refl _ _; obtain ⟨w8, hw8⟩ : ∃ w8, w5 = w8 := ⟨_, rfl⟩; rw [hw8] at F8; have gz8 : w8.heap[bz]? = _ := hw8 ▸ gz5; rw [hw8] at F5 hr5 hz5 g05 g15 hm5; rw [hw8]; clear cz fz gz5 F6 gz6 hw8
      have hm8 := F8.size
      have g08 := F8.heap g05 (by omega)
      have g18 := F8.heap g15 (by omega)
      have hr8 := hr5.fr F8 (fun j hj e => by rcases hj with ⟨h, h2⟩; omega)
      have hz8 := RdAt.fr hz5 F8 (fun j hj e => by rcases hj with ⟨h, h2⟩; omega)
      have hb1 : w.heap.size + 1 < w8.heap.size := blk_lt g18
      have hp : Calls Try.prog 89 #[.agg #[.slice (some ⟨g, o, none⟩) X.zs.length cap, .int .i64 X.size, .int .i64 X.op, .int .i64 X.n, .bool X.down], .int .i64 k, .agg #[.slice la X.zs[k].L.length lc, .int .i64 X.zs[k].safe, .int .i64 X.zs[k].st, .bool X.zs[k].fin]] w8 (Rf1 _ w8 (X.set k { X.zs[k] with st := X.zs[k].st })) := rput (z := { X.zs[k] with st := X.zs[k].st }) hr8.rf hk hok.l2 hz8
      clear g05 g15 hr5 hz5
      go_wp2_with (first | ((with_reducible refine is_load 27 rfl ?_); refine wpList_loadBw rfl 27 _ rfl b27 _ _ _ rfl (by first | assumption | exact blk_new _ _) rfl ?_) | ((with_reducible refine is_store 27 rfl ?_); refine wpList_storeBw rfl 27 _ _ rfl b27 _ _ _ _ rfl rfl (by first | assumption | exact blk_new _ _) rfl (bx27 _ _ _ _ _ _ _) ?_) | ((with_reducible refine is_load 117 rfl ?_); (first | refine wpList_loadBw rfl 117 _ rfl b117 _ _ _ rfl (by first | assumption | exact blk_new _ _) rfl ?_ | refine wpList_loadB rfl 117 _ rfl b117 _ _ _ rfl (by assumption) rfl ?_)) | ((with_reducible refine is_store 117 rfl ?_); (first | refine wpList_storeBw rfl 117 _ _ rfl b117 _ _ _ _ rfl rfl (by first | assumption | exact blk_new _ _) rfl (bx117 _ _ _ _ _ _) ?_ | refine wpList_storeBm rfl 117 _ _ rfl b117 _ _ _ rfl rfl (by assumption) (bx117 _ _ _ _ _ _) ?_)))
      refine hp.mono ?_
      rintro e w9 ⟨v9, rfl, hq9⟩
      obtain ⟨g9, o9, cap9, rfl, hr9, F9⟩ := hq9.op (by simpa [DS.set, DS.tick] using hok.l1)
      have g19 := F9.heap g18 id
      have hsz2 := HSZ.out
      go_wp2_with (first | ((with_reducible refine is_load 27 rfl ?_); refine wpList_loadBw rfl 27 _ rfl b27 _ _ _ rfl (by first | assumption | exact blk_new _ _) rfl ?_) | ((with_reducible refine is_store 27 rfl ?_); refine wpList_storeBw rfl 27 _ _ rfl b27 _ _ _ _ rfl rfl (by first | assumption | exact blk_new _ _) rfl (bx27 _ _ _ _ _ _ _) ?_) | ((with_reducible refine is_load 117 rfl ?_); (first | refine wpList_loadBw rfl 117 _ rfl b117 _ _ _ rfl (by first | assumption | exact blk_new _ _) rfl ?_ | refine wpList_loadB rfl 117 _ rfl b117 _ _ _ rfl (by assumption) rfl ?_)) | ((with_reducible refine is_store 117 rfl ?_); (first | refine wpList_storeBw rfl 117 _ _ rfl b117 _ _ _ _ rfl rfl (by first | assumption | exact blk_new _ _) rfl (bx117 _ _ _ _ _ _) ?_ | refine wpList_storeBm rfl 117 _ _ rfl b117 _ _ _ rfl rfl (by assumption) (bx117 _ _ _ _ _ _) ?_)))
      have hfin := fun S => (hr9.fr (setRow_fr w9 (w.heap.size + 1) S) (fun k hk e => by rcases hk with ⟨h, h2⟩ | h <;> omega)).q (D := D) (w := w) rfl rfl rfl rfl
            ((((F2.trans F5 (fun _ _ h => h)).trans F8 (fun k hk e => by omega)).trans F9 (fun _ _ h => h)).trans (setRow_fr _ _ _) (fun k hk e => by omega)) (fun k hk => by rcases hk with ⟨h, h2⟩ | h; exact .inl h.1; exact .inr (by omega)) rfl
      rw [EF.out]
      exact bodyPost_ret (res68 rfl rfl (setRow_blk _ g19) rfl) rfl ⟨_, rfl, hfin _⟩
theorem rfail (h : RfS D w v X) (hok : X.Ok) {x st : Int} (hr : FailR X x st Y e0) : Calls Try.prog 68 #[v, .int .i64 x, .int .i64 st] w (Rf2 D w Y (.int .i64 e0)) := by
  cases hr with
  | out hx => exact rfail_out h hok hx
  | ok k hk e1 => subst e1; exact rfail_in h hok hk st
end
end Go.Proofs.Ytkbagfpoegfcaaa

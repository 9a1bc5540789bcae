/- The document's device: Flush. Conditions: a device is small. -/
import Derived.Test.YtkbagfpoegfcaaaD20
namespace Go.Proofs.Ytkbagfpoegfcaaa
open Go.RowKit Go.Conc

section
variable {w w' : World} {D S : Nat → Prop} {v : Value} {X Y : DS} {e0 : Int}
theorem res54 {tmps : Array Value} {W : World} {g : Nat} {u : Value} {S : Array Value} (h1 : tmps.getD 2 undef = .pointer (some ⟨g, 0, none⟩)) (h3 : tmps.getD 3 undef = u) (h2 : W.heap[g]? = some (.cells S 27 (0, 0))) (h4 : S.size = 5) :
    (results Try.f54 tmps).run Try.prog W = .ok (.tuple #[.agg S, u]) W := by
  rw [← h3]
  exact res_ct rfl h1 (run_loadBw b27 h2 h4)
/-- A document's device in the midst of a loop over its zones: its box b, what may be read. -/
def RMid (D : Nat → Prop) (w : World) (b : Nat) (X Y : DS) (W : World) : Prop :=
  ∃ g o cap, W.heap[b]? = some (.cells #[.slice (some ⟨g, o, none⟩) X.zs.length cap, .int .i64 Y.size, .int .i64 Y.op, .int .i64 Y.n, .bool Y.down] 27 (0, 0)) ∧ W.heap[b + 1]? = some (.cells #[.slice none 0 0, .int .i64 0, .int .i64 0, .int .i64 0, .bool false] 27 (0, 0)) ∧ RdO D W g o cap Y ∧ Fr (fun _ => False) w W
set_option linter.unusedSimpArgs false
set_option maxRecDepth 100000 in
set_option maxHeartbeats 4000000 in
theorem rflush (h : RfS D w v X) (hok : X.Ok) (hn : X.n < 1000000) (hr : FlushR X Y e0) : Calls Try.prog 54 #[v] w (Rf2 D w Y (.int .i64 e0)) := by
  cases hr with
  | down hdn =>
    have HDN := Lib.hid hdn
    clear hdn
    obtain ⟨g, o, cap, rfl, hr⟩ := h.sharp.op hok.l1
    have h2w := two w (.cells #[.slice (some ⟨g, o, none⟩) X.zs.length cap, .int .i64 X.size, .int .i64 X.op, .int .i64 X.n, .bool X.down] 27) (.cells #[.slice none 0 0, .int .i64 0, .int .i64 0, .int .i64 0, .bool false] 27)
    go_enter Try.func54, Try.ntmps54
    go_upto_region 1 with fail
    generalize (w.alloc (.cells #[.slice (some ⟨g, o, none⟩) X.zs.length cap, .int .i64 X.size, .int .i64 X.op, .int .i64 X.n, .bool X.down] 27)).alloc (.cells #[.slice none 0 0, .int .i64 0, .int .i64 0, .int .i64 0, .bool false] 27) = w2 at *
    obtain ⟨F2, g0, g1, hsz⟩ := h2w
    have hr2 := hr.fr0 F2
    have HSZ := Lib.hid hsz
    clear hsz hr
    have c0 := fun i => blk_cell g0 i
    rw [HDN.out] at c0
    go_wp2_with (first | ((with_reducible refine is_load 27 rfl ?_); refine wpList_loadBw rfl 27 _ rfl b27 _ _ _ rfl (by first | assumption | exact blk_new _ _) rfl ?_) | ((with_reducible refine is_store 27 rfl ?_); refine wpList_storeBw rfl 27 _ _ rfl b27 _ _ _ _ rfl rfl (by first | assumption | exact blk_new _ _) rfl (bx27 _ _ _ _ _ _ _) ?_) | ((with_reducible refine is_load 117 rfl ?_); (first | refine wpList_loadBw rfl 117 _ rfl b117 _ _ _ rfl (by first | assumption | exact blk_new _ _) rfl ?_ | refine wpList_loadB rfl 117 _ rfl b117 _ _ _ rfl (by assumption) rfl ?_)) | ((with_reducible refine is_store 117 rfl ?_); (first | refine wpList_storeBw rfl 117 _ _ rfl b117 _ _ _ _ rfl rfl (by first | assumption | exact blk_new _ _) rfl (bx117 _ _ _ _ _ _) ?_ | refine wpList_storeBm rfl 117 _ _ rfl b117 _ _ _ rfl rfl (by assumption) (bx117 _ _ _ _ _ _) ?_)))
    exact bodyPost_ret (res54 rfl rfl (setRow_blk _ g1) rfl) rfl ⟨_, rfl, (hr2.fr (setRow_fr _ _ _) (fun k hk e => by omega)).q rfl rfl rfl rfl (F2.trans (setRow_fr _ _ _) (fun k hk e => by omega)) (fun k hk => .inl hk.1) rfl⟩
  | ok hdn =>
    have HDN := Lib.hid hdn
    clear hdn
    obtain ⟨g, o, cap, rfl, hr⟩ := h.sharp.op hok.l1
    have h2w := two w (.cells #[.slice (some ⟨g, o, none⟩) X.zs.length cap, .int .i64 X.size, .int .i64 X.op, .int .i64 X.n, .bool X.down] 27) (.cells #[.slice none 0 0, .int .i64 0, .int .i64 0, .int .i64 0, .bool false] 27)
    go_enter Try.func54, Try.ntmps54
    go_upto_region 1 with fail
    generalize (w.alloc (.cells #[.slice (some ⟨g, o, none⟩) X.zs.length cap, .int .i64 X.size, .int .i64 X.op, .int .i64 X.n, .bool X.down] 27)).alloc (.cells #[.slice none 0 0, .int .i64 0, .int .i64 0, .int .i64 0, .bool false] 27) = w2 at *
    obtain ⟨F2, g0, g1, hsz⟩ := h2w
    have hr2 := hr.fr0 F2
    have HSZ := Lib.hid hsz
    clear hsz hr
    have c0 := fun i => blk_cell g0 i
    have f0 := fun i => blk_frozen g0 i
    rw [HDN.out] at c0
    have g03 := blk_put g0 3 (.int .i64 ((X.n : Int) + 1))
    simp only [List.setIfInBounds_toArray, List.set_cons_succ, List.set_cons_zero] at g03
    have f3 := Fr.set1 w2 w.heap.size 3 (.int .i64 ((X.n : Int) + 1))
    have g13 := f3.heap g1 (by omega)
    have hm0 : RMid (fun j => (D j ∧ j < w.heap.size) ∨ w.heap.size + 2 ≤ j) w w.heap.size X { X.tick with zs := preMap (fun _ => ZS.flush) 0 X.zs } (w2.setCell ⟨w.heap.size, 3, none⟩ (.int .i64 ((X.n : Int) + 1))) := by
      rw [preMap_zero]
      exact ⟨g, o, cap, g03, g13, (((hr2.same (Y := X.tick) rfl).fr f3 (fun k hk e => by omega)).mono (fun _ h => .inl h)), F2.trans f3 (fun k hk e => by omega)⟩
    have HM := Lib.hid hm0
    have hzl := hok.l2
    clear hm0
    go_upto_region 4 with fail
    clear c0 f0 g03 g13 g0 g1 hr2
    generalize w2.setCell ⟨w.heap.size, 3, none⟩ (.int .i64 ((X.n : Int) + 1)) = w3 at *
    go_wp2_with fail
    go_loopw [4, 5] (fun i _ W => ∃ k : Nat, k ≤ X.zs.length ∧ i = .int .i64 k ∧ RMid (fun j => (D j ∧ j < w.heap.size) ∨ w.heap.size + 2 ≤ j) w w.heap.size X { X.tick with zs := preMap (fun _ => ZS.flush) k X.zs } W) (fun i _ _ => X.zs.length - (intOf i).toNat)
    case atStart => exact ⟨0, by omega, rfl, HM.out⟩
    case round =>
      obtain ⟨k, hk, rfl, hm⟩ := hrel
      obtain ⟨g3, o3, cap3, g04, g14, hr4, F4⟩ := hm
      have c4 := fun i => blk_cell g04 i
      by_cases hlt : k < X.zs.length
      · have hl : (preMap (fun _ => ZS.flush) k X.zs).length = X.zs.length := preMap_len
        have hi : k < ({ X.tick with zs := preMap (fun _ => ZS.flush) k X.zs } : DS).zs.length := by rw [hl]; exact hlt
        obtain ⟨la, lc, hrz, hsz, hDg⟩ := hr4.at hi
        rw [preMap_get hlt (Nat.le_refl _)] at hrz hsz
        have h1 : (k : Int) < (X.zs.length : Int) := by omega
        have h2 : (0 : Int) ≤ (k : Int) := by omega
        have hsz4 : w.heap.size + 2 ≤ wr.heap.size := by have := blk_lt g14; omega
        have hpre : X.tick.set k X.zs[k].flush = X.tick.set k X.zs[k].flush := rfl
        clear hl hpre
        have gz5 := setRow_blk #[.slice la X.zs[k].L.length lc, .int .i64 X.zs[k].safe, .int .i64 X.zs[k].st, .bool X.zs[k].fin] (blk_new wr (.cells #[.slice none 0 0, .int .i64 0, .int .i64 0, .bool false] 117))
        have F5 : Fr (fun _ => False) wr _ := ((Fr.refl (fun _ => False) wr).alloc (.cells #[.slice none 0 0, .int .i64 0, .int .i64 0, .bool false] 117)).trans (setRow_fr (wr.alloc (.cells #[.slice none 0 0, .int .i64 0, .int .i64 0, .bool false] 117)) wr.heap.size #[.slice la X.zs[k].L.length lc, .int .i64 X.zs[k].safe, .int .i64 X.zs[k].st, .bool X.zs[k].fin]) (fun i hi e => by omega)
        go_upto_region 8 with (first | ((with_reducible refine is_load 27 rfl ?_); refine wpList_loadBw rfl 27 _ rfl b27 _ _ _ rfl (by first | assumption | exact blk_new _ _) rfl ?_) | ((with_reducible refine is_store 27 rfl ?_); refine wpList_storeBw rfl 27 _ _ rfl b27 _ _ _ _ rfl rfl (by first | assumption | exact blk_new _ _) rfl (bx27 _ _ _ _ _ _ _) ?_) | ((with_reducible refine is_load 117 rfl ?_); (first | refine wpList_loadBw rfl 117 _ rfl b117 _ _ _ rfl (by first | assumption | exact blk_new _ _) rfl ?_ | refine wpList_loadB rfl 117 _ rfl b117 _ _ _ rfl (by assumption) rfl ?_)) | ((with_reducible refine is_store 117 rfl ?_); (first | refine wpList_storeBw rfl 117 _ _ rfl b117 _ _ _ _ rfl rfl (by first | assumption | exact blk_new _ _) rfl (bx117 _ _ _ _ _ _) ?_ | refine wpList_storeBm rfl 117 _ _ rfl b117 _ _ _ rfl rfl (by assumption) (bx117 _ _ _ _ _ _) ?_)))
        generalize (wr.alloc (.cells #[.slice none 0 0, .int .i64 0, .int .i64 0, .bool false] 117)).setRow wr.heap.size #[.slice la X.zs[k].L.length lc, .int .i64 X.zs[k].safe, .int .i64 X.zs[k].st, .bool X.zs[k].fin] = w5 at *
        have g05 := F5.heap g04 id
        have g15 := F5.heap g14 id
        have hr5 := hr4.sharp.fr0 F5
        have hz5 := RdAt.fr0 (RdAt.sharp hsz) F5
        obtain ⟨bz, hbz⟩ : ∃ bz, wr.heap.size = bz := ⟨_, rfl⟩
        rw [hbz] at hsz4 gz5 hr5 hz5
        try rw [hbz]
        have HBZ := Lib.hid hbz
        clear g04 g14 hr4 hsz hrz c4 hbz
        have hm5 := F5.size
        have cz := fun i => blk_cell gz5 i
        have fz := fun i => blk_frozen gz5 i
        have gz6 := blk_put gz5 1 (.int .i64 X.zs[k].L.length)
        simp only [List.setIfInBounds_toArray, List.set_cons_succ, List.set_cons_zero] at gz6
        have F8 : Fr (fun j => j = bz) w5 _ := Fr.set1 w5 bz 1 (.int .i64 X.zs[k].L.length)
        go_upto_region 9 with (first | ((with_reducible refine is_load 27 rfl ?_); refine wpList_loadBw rfl 27 _ rfl b27 _ _ _ rfl (by first | assumption | exact blk_new _ _) rfl ?_) | ((with_reducible refine is_store 27 rfl ?_); refine wpList_storeBw rfl 27 _ _ rfl b27 _ _ _ _ rfl rfl (by first | assumption | exact blk_new _ _) rfl (bx27 _ _ _ _ _ _ _) ?_) | ((with_reducible refine is_load 117 rfl ?_); (first | refine wpList_loadBw rfl 117 _ rfl b117 _ _ _ rfl (by first | assumption | exact blk_new _ _) rfl ?_ | refine wpList_loadB rfl 117 _ rfl b117 _ _ _ rfl (by assumption) rfl ?_)) | ((with_reducible refine is_store 117 rfl ?_); (first | refine wpList_storeBw rfl 117 _ _ rfl b117 _ _ _ _ rfl rfl (by first | assumption | exact blk_new _ _) rfl (bx117 _ _ _ _ _ _) ?_ | refine wpList_storeBm rfl 117 _ _ rfl b117 _ _ _ rfl rfl (by assumption) (bx117 _ _ _ _ _ _) ?_)))
        clear cz fz gz5
        generalize w5.setCell ⟨bz, 1, none⟩ (.int .i64 X.zs[k].L.length) = w8 at *
        have hm8 := F8.size
        have g08 := F8.heap g05 (by omega)
        have g18 := F8.heap g15 (by omega)
        have hr8 := hr5.fr F8 (fun j hj e => by rcases hj with ⟨h | h, h2⟩ <;> omega)
        have hz8 := RdAt.fr hz5 F8 (fun j hj e => by rcases hj with ⟨h | h, h2⟩ <;> omega)
        have hb1 : w.heap.size + 1 < w8.heap.size := blk_lt g18
        have hp := rput (k := k) (z := X.zs[k].flush) hr8.rf hi (by show (preMap _ k X.zs).length ≤ 512; rw [preMap_len]; exact hok.l2) hz8
        have hp2 : Calls Try.prog 89 #[.agg #[.slice (some ⟨g3, o3, none⟩) X.zs.length cap3, .int .i64 X.size, .int .i64 X.op, .int .i64 ((X.n : Int) + 1), .bool X.down], .int .i64 k, .agg #[.slice la X.zs[k].L.length lc, .int .i64 X.zs[k].L.length, .int .i64 X.zs[k].st, .bool X.zs[k].fin]] w8 (Rf1 (fun j => ((D j ∧ j < w.heap.size) ∨ w.heap.size + 2 ≤ j) ∧ j < bz) w8 { X.tick with zs := preMap (fun _ => ZS.flush) (k + 1) X.zs }) := by
          have e1 : ({ X.tick with zs := preMap (fun _ => ZS.flush) k X.zs } : DS).set k X.zs[k].flush = { X.tick with zs := preMap (fun _ => ZS.flush) (k + 1) X.zs } := by rw [preMap_succ hlt]; rfl
          rw [e1] at hp
          have e2 : ({ X.tick with zs := preMap (fun _ => ZS.flush) k X.zs } : DS).zs.length = X.zs.length := preMap_len
          rw [e2] at hp
          exact hp
        clear hp g05 g15 hr5 hz5
        go_wp2_with (first | ((with_reducible refine is_load 27 rfl ?_); refine wpList_loadBw rfl 27 _ rfl b27 _ _ _ rfl (by first | assumption | exact blk_new _ _) rfl ?_) | ((with_reducible refine is_store 27 rfl ?_); refine wpList_storeBw rfl 27 _ _ rfl b27 _ _ _ _ rfl rfl (by first | assumption | exact blk_new _ _) rfl (bx27 _ _ _ _ _ _ _) ?_) | ((with_reducible refine is_load 117 rfl ?_); (first | refine wpList_loadBw rfl 117 _ rfl b117 _ _ _ rfl (by first | assumption | exact blk_new _ _) rfl ?_ | refine wpList_loadB rfl 117 _ rfl b117 _ _ _ rfl (by assumption) rfl ?_)) | ((with_reducible refine is_store 117 rfl ?_); (first | refine wpList_storeBw rfl 117 _ _ rfl b117 _ _ _ _ rfl rfl (by first | assumption | exact blk_new _ _) rfl (bx117 _ _ _ _ _ _) ?_ | refine wpList_storeBm rfl 117 _ _ rfl b117 _ _ _ rfl rfl (by assumption) (bx117 _ _ _ _ _ _) ?_)))
        refine hp2.mono ?_
        rintro e w9 ⟨v9, rfl, hq9⟩
        have hl9 : ({ X.tick with zs := preMap (fun _ => ZS.flush) (k + 1) X.zs } : DS).zs.length = X.zs.length := preMap_len
        obtain ⟨g9, o9, cap9, rfl, hr9, F9⟩ := hq9.op (by rw [hl9]; exact hok.l1)
        rw [hl9]
        have g09 := F9.heap g08 id
        have g19 := F9.heap g18 id
        have F10 := fun S => setRow_fr w9 w.heap.size S
        have HM2 := Lib.hid (fun W (g0W : W.heap[w.heap.size]? = some (.cells #[.slice (some ⟨g9, o9, none⟩) X.zs.length cap9, .int .i64 X.size, .int .i64 X.op, .int .i64 ((X.n : Int) + 1), .bool X.down] 27 (0, 0))) (FW : Fr (fun j => j = w.heap.size) w9 W) => (⟨g9, o9, cap9, g0W, FW.heap g19 (by omega), (hr9.fr FW (fun j hj e => by rcases hj with ⟨h | h, h2⟩ | h <;> omega)).mono (fun j hj => by
          rcases hj with ⟨h, h2⟩ | h
          · exact h
          · exact .inr (by omega)), (((F4.trans F5 (fun _ _ h => h)).trans F8 (fun j hj e => by omega)).trans F9 (fun _ _ h => h)).trans FW (fun j hj e => by omega)⟩ : RMid (fun j => (D j ∧ j < w.heap.size) ∨ w.heap.size + 2 ≤ j) w w.heap.size X { X.tick with zs := preMap (fun _ => ZS.flush) (k + 1) X.zs } W))
        clear hr9 hq9 hr8 hz8 F9 F8 F5 F4 g18 g08 g19 gz6 hp2 hl9
        go_wp2_with (first | ((with_reducible refine is_load 27 rfl ?_); refine wpList_loadBw rfl 27 _ rfl b27 _ _ _ rfl (by first | assumption | exact blk_new _ _) rfl ?_) | ((with_reducible refine is_store 27 rfl ?_); refine wpList_storeBw rfl 27 _ _ rfl b27 _ _ _ _ rfl rfl (by first | assumption | exact blk_new _ _) rfl (bx27 _ _ _ _ _ _ _) ?_) | ((with_reducible refine is_load 117 rfl ?_); (first | refine wpList_loadBw rfl 117 _ rfl b117 _ _ _ rfl (by first | assumption | exact blk_new _ _) rfl ?_ | refine wpList_loadB rfl 117 _ rfl b117 _ _ _ rfl (by assumption) rfl ?_)) | ((with_reducible refine is_store 117 rfl ?_); (first | refine wpList_storeBw rfl 117 _ _ rfl b117 _ _ _ _ rfl rfl (by first | assumption | exact blk_new _ _) rfl (bx117 _ _ _ _ _ _) ?_ | refine wpList_storeBm rfl 117 _ _ rfl b117 _ _ _ rfl rfl (by assumption) (bx117 _ _ _ _ _ _) ?_)))
        go_roundw
        case rel => exact ⟨k + 1, by omega, by go_num, HM2.out _ (setRow_blk _ g09) (F10 _)⟩
        case measure => simp [intOf]; omega
      · obtain rfl : k = X.zs.length := by omega
        have e1 : ({ X.tick with zs := preMap (fun _ => ZS.flush) X.zs.length X.zs } : DS) = X.flush := by
          have e : X.zs.mapIdx (fun _ => ZS.flush) = X.zs.map ZS.flush := by
            apply List.ext_getElem
            · simp
            · intro i h1 h2; simp
          rw [preMap_all, e]; rfl
        rw [e1] at hr4
        have hfl : X.zs.length = X.flush.zs.length := by simp [DS.flush]
        have HFL := Lib.hid hfl
        clear hfl e1
        go_wp2_with (first | ((with_reducible refine is_load 27 rfl ?_); refine wpList_loadBw rfl 27 _ rfl b27 _ _ _ rfl (by first | assumption | exact blk_new _ _) rfl ?_) | ((with_reducible refine is_store 27 rfl ?_); refine wpList_storeBw rfl 27 _ _ rfl b27 _ _ _ _ rfl rfl (by first | assumption | exact blk_new _ _) rfl (bx27 _ _ _ _ _ _ _) ?_) | ((with_reducible refine is_load 117 rfl ?_); (first | refine wpList_loadBw rfl 117 _ rfl b117 _ _ _ rfl (by first | assumption | exact blk_new _ _) rfl ?_ | refine wpList_loadB rfl 117 _ rfl b117 _ _ _ rfl (by assumption) rfl ?_)) | ((with_reducible refine is_store 117 rfl ?_); (first | refine wpList_storeBw rfl 117 _ _ rfl b117 _ _ _ _ rfl rfl (by first | assumption | exact blk_new _ _) rfl (bx117 _ _ _ _ _ _) ?_ | refine wpList_storeBm rfl 117 _ _ rfl b117 _ _ _ rfl rfl (by assumption) (bx117 _ _ _ _ _ _) ?_)))
        exact bodyPost_ret (res54 rfl rfl (setRow_blk _ g14) rfl) rfl ⟨_, rfl, (hr4.fr (setRow_fr _ _ _) (fun k hk e => by rcases hk with h | h <;> omega)).q rfl rfl rfl rfl (F4.trans (setRow_fr _ _ _) (fun k hk e => by omega)) (fun k hk => by rcases hk with h | h; exact .inl h.1; exact .inr (by omega)) HFL.out⟩
end
end Go.Proofs.Ytkbagfpoegfcaaa

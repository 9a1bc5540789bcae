/- The document's device: Read. Conditions: a device is small. -/
import Derived.Test.YtkbagfpoegfcaaaD19
namespace Go.Proofs.Ytkbagfpoegfcaaa
open Go.RowKit Go.Conc

section
variable {w w' : World} {D S : Nat → Prop} {v : Value} {X Y : DS} {e0 : Int} {s : Sec}
set_option linter.unusedSimpArgs false
set_option maxRecDepth 100000 in
set_option maxHeartbeats 4000000 in
theorem rread (h : RfS D w v X) (hok : X.Ok) (hn : X.n < 1000000) {x off : Int} (hr : ReadR X x off Y s e0) : Calls Try.prog 49 #[v, .int .i64 x, .int .i64 off] w (Rf3 D w Y (.agg (secA s)) (.int .i64 e0)) := by
  cases hr with
  | down hdn => exact rread_early h hok (fun D w v h => rbeg_down h hdn x) (by decide)
  | out hdn hx => exact rread_early h hok (fun D w v h => rbeg_out h hdn hx) (by decide)
  | offline k hk hdn e1 h4 =>
    have b4 : (X.zs[k].st == 4) = true := by simpa using h4
    clear h4
    subst e1
    have HDN := Lib.hid hdn
    clear hdn
    obtain ⟨g, o, cap, rfl, hr⟩ := h.sharp.op hok.l1
    have h3w := three w (.cells #[.slice (some ⟨g, o, none⟩) X.zs.length cap, .int .i64 X.size, .int .i64 X.op, .int .i64 X.n, .bool X.down] 27) (.cells #[.slice none 0 0, .int .i64 0, .int .i64 0, .int .i64 0, .bool false] 27) (.cells (secA Sec.zero) 34)
    go_enter Try.func49, Try.ntmps49
    go_upto_region 1 with (first | ((with_reducible refine is_alloc 35 rfl ?_); refine wpList_allocB rfl 35 rfl b35 ?_) | ((with_reducible refine is_alloc 34 rfl ?_); refine wpList_allocB rfl 34 rfl b34 ?_) | ((with_reducible refine is_load 35 rfl ?_); (first | refine wpList_loadBw rfl 35 _ rfl b35 _ _ _ rfl (by assumption) (secA_size _) ?_ | refine wpList_loadB rfl 35 _ rfl b35 _ _ _ rfl (by assumption) (secA_size _) ?_)) | ((with_reducible refine is_load 34 rfl ?_); (first | refine wpList_loadBw rfl 34 _ rfl b34 _ _ _ rfl (by assumption) (secA_size _) ?_ | refine wpList_loadB rfl 34 _ rfl b34 _ _ _ rfl (by assumption) (secA_size _) ?_)) | ((with_reducible refine is_store 35 rfl ?_); refine wpList_storeBw rfl 35 _ _ rfl b35 _ _ _ _ rfl rfl (by assumption) (secA_size _) (secA_bx _) ?_) | ((with_reducible refine is_store 34 rfl ?_); refine wpList_storeBw rfl 34 _ _ rfl b34 _ _ _ _ rfl rfl (by assumption) (secA_size _) (secA_bx _) ?_) | ((with_reducible refine is_build 34 rfl ?_); refine wpList_buildZ34 rfl rfl ?_) | ((with_reducible refine is_build 35 rfl ?_); refine wpList_buildZ35 rfl rfl ?_))
    generalize ((w.alloc (.cells #[.slice (some ⟨g, o, none⟩) X.zs.length cap, .int .i64 X.size, .int .i64 X.op, .int .i64 X.n, .bool X.down] 27)).alloc (.cells #[.slice none 0 0, .int .i64 0, .int .i64 0, .int .i64 0, .bool false] 27)).alloc (.cells (secA Sec.zero) 34) = w2 at *
    obtain ⟨F2, g0, g1, g2, hsz⟩ := h3w
    have hr2 := hr.fr0 F2
    have HSZ := Lib.hid hsz
    clear hsz hr
    have hc := rbeg_ok hr2.rf HDN.out hn hk
    go_wp2_with (first | ((with_reducible refine is_load 27 rfl ?_); refine wpList_loadBw rfl 27 _ rfl b27 _ _ _ rfl (by first | assumption | exact blk_new _ _) rfl ?_) | ((with_reducible refine is_store 27 rfl ?_); refine wpList_storeBw rfl 27 _ _ rfl b27 _ _ _ _ rfl rfl (by first | assumption | exact blk_new _ _) rfl (bx27 _ _ _ _ _ _ _) ?_) | ((with_reducible refine is_load 117 rfl ?_); (first | refine wpList_loadBw rfl 117 _ rfl b117 _ _ _ rfl (by first | assumption | exact blk_new _ _) rfl ?_ | refine wpList_loadB rfl 117 _ rfl b117 _ _ _ rfl (by assumption) rfl ?_)) | ((with_reducible refine is_store 117 rfl ?_); (first | refine wpList_storeBw rfl 117 _ _ rfl b117 _ _ _ _ rfl rfl (by first | assumption | exact blk_new _ _) rfl (bx117 _ _ _ _ _ _) ?_ | refine wpList_storeBm rfl 117 _ _ rfl b117 _ _ _ rfl rfl (by assumption) (bx117 _ _ _ _ _ _) ?_)))
    refine hc.mono ?_
    rintro e w3 ⟨v3, rfl, hq⟩
    obtain ⟨g3, o3, cap3, rfl, hr3, F3⟩ := hq.op_tick hok.l1
    have g03 := F3.heap g0 id
    have g13 := F3.heap g1 id
    have hszl : w.heap.size + 2 ≤ w2.heap.size := by have := HSZ.out; omega
    have g04 := setRow_blk #[.slice (some ⟨g3, o3, none⟩) X.zs.length cap3, .int .i64 X.size, .int .i64 X.op, .int .i64 ((X.n : Int) + 1), .bool X.down] g03
    have f4 := setRow_fr w3 w.heap.size #[.slice (some ⟨g3, o3, none⟩) X.zs.length cap3, .int .i64 X.size, .int .i64 X.op, .int .i64 ((X.n : Int) + 1), .bool X.down]
    have g14 := f4.heap g13 (by omega)
    have hr4 := hr3.fr f4 (fun k hk e => by rcases hk with h | h <;> omega)
    have F4 := ((F2.trans F3 (fun _ _ h => h)).mono (fun _ _ h => h.elim)).trans f4 (fun _ _ h => h) |>.mono (fun k hk e => (by omega : False))
    have c4 := fun i => blk_cell g04 i
    have hsz4 : w.heap.size + 2 ≤ (w3.setRow w.heap.size #[.slice (some ⟨g3, o3, none⟩) X.zs.length cap3, .int .i64 X.size, .int .i64 X.op, .int .i64 ((X.n : Int) + 1), .bool X.down]).heap.size := by have h1 := F3.size; have h2 := f4.size; omega
    have h1 : (k : Int) < (X.zs.length : Int) := by omega
    have h2 : (0 : Int) ≤ (k : Int) := by omega
    obtain ⟨la, lc, hrz, hsz, hDg⟩ := (hr4.same (Y := X) rfl).at hk
    clear hc g0 g1 hr3 hr2
    have g24 := f4.heap (F3.heap g2 id) (by omega)
    go_upto_region 2 with (first | ((with_reducible refine is_load 27 rfl ?_); refine wpList_loadBw rfl 27 _ rfl b27 _ _ _ rfl (by first | assumption | exact blk_new _ _) rfl ?_) | ((with_reducible refine is_store 27 rfl ?_); refine wpList_storeBw rfl 27 _ _ rfl b27 _ _ _ _ rfl rfl (by first | assumption | exact blk_new _ _) rfl (bx27 _ _ _ _ _ _ _) ?_) | ((with_reducible refine is_load 117 rfl ?_); (first | refine wpList_loadBw rfl 117 _ rfl b117 _ _ _ rfl (by first | assumption | exact blk_new _ _) rfl ?_ | refine wpList_loadB rfl 117 _ rfl b117 _ _ _ rfl (by assumption) rfl ?_)) | ((with_reducible refine is_store 117 rfl ?_); (first | refine wpList_storeBw rfl 117 _ _ rfl b117 _ _ _ _ rfl rfl (by first | assumption | exact blk_new _ _) rfl (bx117 _ _ _ _ _ _) ?_ | refine wpList_storeBm rfl 117 _ _ rfl b117 _ _ _ rfl rfl (by assumption) (bx117 _ _ _ _ _ _) ?_)))
    clear g03 c4
    generalize w3.setRow w.heap.size #[.slice (some ⟨g3, o3, none⟩) X.zs.length cap3, .int .i64 X.size, .int .i64 X.op, .int .i64 ((X.n : Int) + 1), .bool X.down] = w4 at *
    have c4 := fun i => blk_cell g04 i
    clear f4 F3
    have gz5 := setRow_blk #[.slice la X.zs[k].L.length lc, .int .i64 X.zs[k].safe, .int .i64 X.zs[k].st, .bool X.zs[k].fin] (blk_new w4 (.cells #[.slice none 0 0, .int .i64 0, .int .i64 0, .bool false] 117))
    have F5 : Fr (fun _ => False) w4 _ := ((Fr.refl (fun _ => False) w4).alloc (.cells #[.slice none 0 0, .int .i64 0, .int .i64 0, .bool false] 117)).trans (setRow_fr (w4.alloc (.cells #[.slice none 0 0, .int .i64 0, .int .i64 0, .bool false] 117)) w4.heap.size #[.slice la X.zs[k].L.length lc, .int .i64 X.zs[k].safe, .int .i64 X.zs[k].st, .bool X.zs[k].fin]) (fun i hi e => by omega)
    go_upto_region 5 with (first | ((with_reducible refine is_load 27 rfl ?_); refine wpList_loadBw rfl 27 _ rfl b27 _ _ _ rfl (by first | assumption | exact blk_new _ _) rfl ?_) | ((with_reducible refine is_store 27 rfl ?_); refine wpList_storeBw rfl 27 _ _ rfl b27 _ _ _ _ rfl rfl (by first | assumption | exact blk_new _ _) rfl (bx27 _ _ _ _ _ _ _) ?_) | ((with_reducible refine is_load 117 rfl ?_); (first | refine wpList_loadBw rfl 117 _ rfl b117 _ _ _ rfl (by first | assumption | exact blk_new _ _) rfl ?_ | refine wpList_loadB rfl 117 _ rfl b117 _ _ _ rfl (by assumption) rfl ?_)) | ((with_reducible refine is_store 117 rfl ?_); (first | refine wpList_storeBw rfl 117 _ _ rfl b117 _ _ _ _ rfl rfl (by first | assumption | exact blk_new _ _) rfl (bx117 _ _ _ _ _ _) ?_ | refine wpList_storeBm rfl 117 _ _ rfl b117 _ _ _ rfl rfl (by assumption) (bx117 _ _ _ _ _ _) ?_)))
    generalize (w4.alloc (.cells #[.slice none 0 0, .int .i64 0, .int .i64 0, .bool false] 117)).setRow w4.heap.size #[.slice la X.zs[k].L.length lc, .int .i64 X.zs[k].safe, .int .i64 X.zs[k].st, .bool X.zs[k].fin] = w5 at *
    have g05 := F5.heap g04 id
    have g15 := F5.heap g14 id
    have hr5 := hr4.sharp.fr0 F5
    have hz5 := RdAt.fr0 (RdAt.sharp hsz) F5
    obtain ⟨bz, hbz⟩ : ∃ bz, w4.heap.size = bz := ⟨_, rfl⟩
    rw [hbz] at hsz4 gz5 hr5 hz5
    try rw [hbz]
    have HBZ := Lib.hid hbz
    clear g04 g14 hr4 hsz hrz c4 hbz
    have g25 := F5.heap g24 id
    have hsz2 := HSZ.out
    have hbz3 : w.heap.size + 2 < bz := by have h1 := blk_lt g24; have h2 := HBZ.out; omega
    have cz := fun i => blk_cell gz5 i
    have f6 := setRow_fr w5 (w.heap.size + 1) #[.slice (some ⟨g3, o3, none⟩) X.zs.length cap3, .int .i64 X.size, .int .i64 X.op, .int .i64 ((X.n : Int) + 1), .bool X.down]
    have g26 := f6.heap g25 (by omega)
    have g16 := setRow_blk #[.slice (some ⟨g3, o3, none⟩) X.zs.length cap3, .int .i64 X.size, .int .i64 X.op, .int .i64 ((X.n : Int) + 1), .bool X.down] g15
    go_wp2_with (first | ((with_reducible refine is_load 27 rfl ?_); refine wpList_loadBw rfl 27 _ rfl b27 _ _ _ rfl (by first | assumption | exact blk_new _ _) rfl ?_) | ((with_reducible refine is_store 27 rfl ?_); refine wpList_storeBw rfl 27 _ _ rfl b27 _ _ _ _ rfl rfl (by first | assumption | exact blk_new _ _) rfl (bx27 _ _ _ _ _ _ _) ?_) | ((with_reducible refine is_load 117 rfl ?_); (first | refine wpList_loadBw rfl 117 _ rfl b117 _ _ _ rfl (by first | assumption | exact blk_new _ _) rfl ?_ | refine wpList_loadB rfl 117 _ rfl b117 _ _ _ rfl (by assumption) rfl ?_)) | ((with_reducible refine is_store 117 rfl ?_); (first | refine wpList_storeBw rfl 117 _ _ rfl b117 _ _ _ _ rfl rfl (by first | assumption | exact blk_new _ _) rfl (bx117 _ _ _ _ _ _) ?_ | refine wpList_storeBm rfl 117 _ _ rfl b117 _ _ _ rfl rfl (by assumption) (bx117 _ _ _ _ _ _) ?_)) | ((with_reducible refine is_alloc 35 rfl ?_); refine wpList_allocB rfl 35 rfl b35 ?_) | ((with_reducible refine is_alloc 34 rfl ?_); refine wpList_allocB rfl 34 rfl b34 ?_) | ((with_reducible refine is_load 35 rfl ?_); (first | refine wpList_loadBw rfl 35 _ rfl b35 _ _ _ rfl (by assumption) (secA_size _) ?_ | refine wpList_loadB rfl 35 _ rfl b35 _ _ _ rfl (by assumption) (secA_size _) ?_)) | ((with_reducible refine is_load 34 rfl ?_); (first | refine wpList_loadBw rfl 34 _ rfl b34 _ _ _ rfl (by assumption) (secA_size _) ?_ | refine wpList_loadB rfl 34 _ rfl b34 _ _ _ rfl (by assumption) (secA_size _) ?_)) | ((with_reducible refine is_store 35 rfl ?_); refine wpList_storeBw rfl 35 _ _ rfl b35 _ _ _ _ rfl rfl (by assumption) (secA_size _) (secA_bx _) ?_) | ((with_reducible refine is_store 34 rfl ?_); refine wpList_storeBw rfl 34 _ _ rfl b34 _ _ _ _ rfl rfl (by assumption) (secA_size _) (secA_bx _) ?_) | ((with_reducible refine is_build 34 rfl ?_); refine wpList_buildZ34 rfl rfl ?_) | ((with_reducible refine is_build 35 rfl ?_); refine wpList_buildZ35 rfl rfl ?_))
    have f7 := fun S => setRow_fr (w5.setRow (w.heap.size + 1) #[.slice (some ⟨g3, o3, none⟩) X.zs.length cap3, .int .i64 X.size, .int .i64 X.op, .int .i64 ((X.n : Int) + 1), .bool X.down]) (w.heap.size + 2) S
    exact bodyPost_ret (res49 rfl rfl rfl ((f7 _).heap g16 (by omega)) rfl (setRow_blk _ g26)) rfl ⟨_, rfl, ((hr5.fr f6 (fun k hk e => by rcases hk with ⟨h | h, h2⟩ <;> omega)).fr (f7 _) (fun k hk e => by rcases hk with ⟨h | h, h2⟩ <;> omega)).q rfl rfl rfl rfl (((F4.trans F5 (fun _ _ h => h)).trans f6 (fun k hk e => by omega)).trans (f7 _) (fun k hk e => by omega)) (fun k hk => by rcases hk with ⟨h | h, h2⟩; exact .inl h.1; exact .inr (by omega)) rfl⟩
  | no k hk hdn e1 h4 ho =>
    have b4 : (X.zs[k].st == 4) = false := by simpa using h4
    clear h4
    rcases ho with ho | ho
    · subst e1
      have HDN := Lib.hid hdn
      clear hdn
      obtain ⟨g, o, cap, rfl, hr⟩ := h.sharp.op hok.l1
      have h3w := three w (.cells #[.slice (some ⟨g, o, none⟩) X.zs.length cap, .int .i64 X.size, .int .i64 X.op, .int .i64 X.n, .bool X.down] 27) (.cells #[.slice none 0 0, .int .i64 0, .int .i64 0, .int .i64 0, .bool false] 27) (.cells (secA Sec.zero) 34)
      go_enter Try.func49, Try.ntmps49
      go_upto_region 1 with (first | ((with_reducible refine is_alloc 35 rfl ?_); refine wpList_allocB rfl 35 rfl b35 ?_) | ((with_reducible refine is_alloc 34 rfl ?_); refine wpList_allocB rfl 34 rfl b34 ?_) | ((with_reducible refine is_load 35 rfl ?_); (first | refine wpList_loadBw rfl 35 _ rfl b35 _ _ _ rfl (by assumption) (secA_size _) ?_ | refine wpList_loadB rfl 35 _ rfl b35 _ _ _ rfl (by assumption) (secA_size _) ?_)) | ((with_reducible refine is_load 34 rfl ?_); (first | refine wpList_loadBw rfl 34 _ rfl b34 _ _ _ rfl (by assumption) (secA_size _) ?_ | refine wpList_loadB rfl 34 _ rfl b34 _ _ _ rfl (by assumption) (secA_size _) ?_)) | ((with_reducible refine is_store 35 rfl ?_); refine wpList_storeBw rfl 35 _ _ rfl b35 _ _ _ _ rfl rfl (by assumption) (secA_size _) (secA_bx _) ?_) | ((with_reducible refine is_store 34 rfl ?_); refine wpList_storeBw rfl 34 _ _ rfl b34 _ _ _ _ rfl rfl (by assumption) (secA_size _) (secA_bx _) ?_) | ((with_reducible refine is_build 34 rfl ?_); refine wpList_buildZ34 rfl rfl ?_) | ((with_reducible refine is_build 35 rfl ?_); refine wpList_buildZ35 rfl rfl ?_))
      generalize ((w.alloc (.cells #[.slice (some ⟨g, o, none⟩) X.zs.length cap, .int .i64 X.size, .int .i64 X.op, .int .i64 X.n, .bool X.down] 27)).alloc (.cells #[.slice none 0 0, .int .i64 0, .int .i64 0, .int .i64 0, .bool false] 27)).alloc (.cells (secA Sec.zero) 34) = w2 at *
      obtain ⟨F2, g0, g1, g2, hsz⟩ := h3w
      have hr2 := hr.fr0 F2
      have HSZ := Lib.hid hsz
      clear hsz hr
      have hc := rbeg_ok hr2.rf HDN.out hn hk
      go_wp2_with (first | ((with_reducible refine is_load 27 rfl ?_); refine wpList_loadBw rfl 27 _ rfl b27 _ _ _ rfl (by first | assumption | exact blk_new _ _) rfl ?_) | ((with_reducible refine is_store 27 rfl ?_); refine wpList_storeBw rfl 27 _ _ rfl b27 _ _ _ _ rfl rfl (by first | assumption | exact blk_new _ _) rfl (bx27 _ _ _ _ _ _ _) ?_) | ((with_reducible refine is_load 117 rfl ?_); (first | refine wpList_loadBw rfl 117 _ rfl b117 _ _ _ rfl (by first | assumption | exact blk_new _ _) rfl ?_ | refine wpList_loadB rfl 117 _ rfl b117 _ _ _ rfl (by assumption) rfl ?_)) | ((with_reducible refine is_store 117 rfl ?_); (first | refine wpList_storeBw rfl 117 _ _ rfl b117 _ _ _ _ rfl rfl (by first | assumption | exact blk_new _ _) rfl (bx117 _ _ _ _ _ _) ?_ | refine wpList_storeBm rfl 117 _ _ rfl b117 _ _ _ rfl rfl (by assumption) (bx117 _ _ _ _ _ _) ?_)))
      refine hc.mono ?_
      rintro e w3 ⟨v3, rfl, hq⟩
      obtain ⟨g3, o3, cap3, rfl, hr3, F3⟩ := hq.op_tick hok.l1
      have g03 := F3.heap g0 id
      have g13 := F3.heap g1 id
      have hszl : w.heap.size + 2 ≤ w2.heap.size := by have := HSZ.out; omega
      have g04 := setRow_blk #[.slice (some ⟨g3, o3, none⟩) X.zs.length cap3, .int .i64 X.size, .int .i64 X.op, .int .i64 ((X.n : Int) + 1), .bool X.down] g03
      have f4 := setRow_fr w3 w.heap.size #[.slice (some ⟨g3, o3, none⟩) X.zs.length cap3, .int .i64 X.size, .int .i64 X.op, .int .i64 ((X.n : Int) + 1), .bool X.down]
      have g14 := f4.heap g13 (by omega)
      have hr4 := hr3.fr f4 (fun k hk e => by rcases hk with h | h <;> omega)
      have F4 := ((F2.trans F3 (fun _ _ h => h)).mono (fun _ _ h => h.elim)).trans f4 (fun _ _ h => h) |>.mono (fun k hk e => (by omega : False))
      have c4 := fun i => blk_cell g04 i
      have hsz4 : w.heap.size + 2 ≤ (w3.setRow w.heap.size #[.slice (some ⟨g3, o3, none⟩) X.zs.length cap3, .int .i64 X.size, .int .i64 X.op, .int .i64 ((X.n : Int) + 1), .bool X.down]).heap.size := by have h1 := F3.size; have h2 := f4.size; omega
      have h1 : (k : Int) < (X.zs.length : Int) := by omega
      have h2 : (0 : Int) ≤ (k : Int) := by omega
      obtain ⟨la, lc, hrz, hsz, hDg⟩ := (hr4.same (Y := X) rfl).at hk
      clear hc g0 g1 hr3 hr2
      have g24 := f4.heap (F3.heap g2 id) (by omega)
      go_upto_region 2 with (first | ((with_reducible refine is_load 27 rfl ?_); refine wpList_loadBw rfl 27 _ rfl b27 _ _ _ rfl (by first | assumption | exact blk_new _ _) rfl ?_) | ((with_reducible refine is_store 27 rfl ?_); refine wpList_storeBw rfl 27 _ _ rfl b27 _ _ _ _ rfl rfl (by first | assumption | exact blk_new _ _) rfl (bx27 _ _ _ _ _ _ _) ?_) | ((with_reducible refine is_load 117 rfl ?_); (first | refine wpList_loadBw rfl 117 _ rfl b117 _ _ _ rfl (by first | assumption | exact blk_new _ _) rfl ?_ | refine wpList_loadB rfl 117 _ rfl b117 _ _ _ rfl (by assumption) rfl ?_)) | ((with_reducible refine is_store 117 rfl ?_); (first | refine wpList_storeBw rfl 117 _ _ rfl b117 _ _ _ _ rfl rfl (by first | assumption | exact blk_new _ _) rfl (bx117 _ _ _ _ _ _) ?_ | refine wpList_storeBm rfl 117 _ _ rfl b117 _ _ _ rfl rfl (by assumption) (bx117 _ _ _ _ _ _) ?_)))
      clear g03 c4
      generalize w3.setRow w.heap.size #[.slice (some ⟨g3, o3, none⟩) X.zs.length cap3, .int .i64 X.size, .int .i64 X.op, .int .i64 ((X.n : Int) + 1), .bool X.down] = w4 at *
      have c4 := fun i => blk_cell g04 i
      clear f4 F3
      have gz5 := setRow_blk #[.slice la X.zs[k].L.length lc, .int .i64 X.zs[k].safe, .int .i64 X.zs[k].st, .bool X.zs[k].fin] (blk_new w4 (.cells #[.slice none 0 0, .int .i64 0, .int .i64 0, .bool false] 117))
      have F5 : Fr (fun _ => False) w4 _ := ((Fr.refl (fun _ => False) w4).alloc (.cells #[.slice none 0 0, .int .i64 0, .int .i64 0, .bool false] 117)).trans (setRow_fr (w4.alloc (.cells #[.slice none 0 0, .int .i64 0, .int .i64 0, .bool false] 117)) w4.heap.size #[.slice la X.zs[k].L.length lc, .int .i64 X.zs[k].safe, .int .i64 X.zs[k].st, .bool X.zs[k].fin]) (fun i hi e => by omega)
      go_upto_region 5 with (first | ((with_reducible refine is_load 27 rfl ?_); refine wpList_loadBw rfl 27 _ rfl b27 _ _ _ rfl (by first | assumption | exact blk_new _ _) rfl ?_) | ((with_reducible refine is_store 27 rfl ?_); refine wpList_storeBw rfl 27 _ _ rfl b27 _ _ _ _ rfl rfl (by first | assumption | exact blk_new _ _) rfl (bx27 _ _ _ _ _ _ _) ?_) | ((with_reducible refine is_load 117 rfl ?_); (first | refine wpList_loadBw rfl 117 _ rfl b117 _ _ _ rfl (by first | assumption | exact blk_new _ _) rfl ?_ | refine wpList_loadB rfl 117 _ rfl b117 _ _ _ rfl (by assumption) rfl ?_)) | ((with_reducible refine is_store 117 rfl ?_); (first | refine wpList_storeBw rfl 117 _ _ rfl b117 _ _ _ _ rfl rfl (by first | assumption | exact blk_new _ _) rfl (bx117 _ _ _ _ _ _) ?_ | refine wpList_storeBm rfl 117 _ _ rfl b117 _ _ _ rfl rfl (by assumption) (bx117 _ _ _ _ _ _) ?_)))
      generalize (w4.alloc (.cells #[.slice none 0 0, .int .i64 0, .int .i64 0, .bool false] 117)).setRow w4.heap.size #[.slice la X.zs[k].L.length lc, .int .i64 X.zs[k].safe, .int .i64 X.zs[k].st, .bool X.zs[k].fin] = w5 at *
      have g05 := F5.heap g04 id
      have g15 := F5.heap g14 id
      have hr5 := hr4.sharp.fr0 F5
      have hz5 := RdAt.fr0 (RdAt.sharp hsz) F5
      obtain ⟨bz, hbz⟩ : ∃ bz, w4.heap.size = bz := ⟨_, rfl⟩
      rw [hbz] at hsz4 gz5 hr5 hz5
      try rw [hbz]
      have HBZ := Lib.hid hbz
      clear g04 g14 hr4 hsz hrz c4 hbz
      have g25 := F5.heap g24 id
      have hsz2 := HSZ.out
      have hbz3 : w.heap.size + 2 < bz := by have h1 := blk_lt g24; have h2 := HBZ.out; omega
      have cz := fun i => blk_cell gz5 i
      have f6 := setRow_fr w5 (w.heap.size + 1) #[.slice (some ⟨g3, o3, none⟩) X.zs.length cap3, .int .i64 X.size, .int .i64 X.op, .int .i64 ((X.n : Int) + 1), .bool X.down]
      have g26 := f6.heap g25 (by omega)
      have g16 := setRow_blk #[.slice (some ⟨g3, o3, none⟩) X.zs.length cap3, .int .i64 X.size, .int .i64 X.op, .int .i64 ((X.n : Int) + 1), .bool X.down] g15
      go_wp2_with (first | ((with_reducible refine is_load 27 rfl ?_); refine wpList_loadBw rfl 27 _ rfl b27 _ _ _ rfl (by first | assumption | exact blk_new _ _) rfl ?_) | ((with_reducible refine is_store 27 rfl ?_); refine wpList_storeBw rfl 27 _ _ rfl b27 _ _ _ _ rfl rfl (by first | assumption | exact blk_new _ _) rfl (bx27 _ _ _ _ _ _ _) ?_) | ((with_reducible refine is_load 117 rfl ?_); (first | refine wpList_loadBw rfl 117 _ rfl b117 _ _ _ rfl (by first | assumption | exact blk_new _ _) rfl ?_ | refine wpList_loadB rfl 117 _ rfl b117 _ _ _ rfl (by assumption) rfl ?_)) | ((with_reducible refine is_store 117 rfl ?_); (first | refine wpList_storeBw rfl 117 _ _ rfl b117 _ _ _ _ rfl rfl (by first | assumption | exact blk_new _ _) rfl (bx117 _ _ _ _ _ _) ?_ | refine wpList_storeBm rfl 117 _ _ rfl b117 _ _ _ rfl rfl (by assumption) (bx117 _ _ _ _ _ _) ?_)) | ((with_reducible refine is_alloc 35 rfl ?_); refine wpList_allocB rfl 35 rfl b35 ?_) | ((with_reducible refine is_alloc 34 rfl ?_); refine wpList_allocB rfl 34 rfl b34 ?_) | ((with_reducible refine is_load 35 rfl ?_); (first | refine wpList_loadBw rfl 35 _ rfl b35 _ _ _ rfl (by assumption) (secA_size _) ?_ | refine wpList_loadB rfl 35 _ rfl b35 _ _ _ rfl (by assumption) (secA_size _) ?_)) | ((with_reducible refine is_load 34 rfl ?_); (first | refine wpList_loadBw rfl 34 _ rfl b34 _ _ _ rfl (by assumption) (secA_size _) ?_ | refine wpList_loadB rfl 34 _ rfl b34 _ _ _ rfl (by assumption) (secA_size _) ?_)) | ((with_reducible refine is_store 35 rfl ?_); refine wpList_storeBw rfl 35 _ _ rfl b35 _ _ _ _ rfl rfl (by assumption) (secA_size _) (secA_bx _) ?_) | ((with_reducible refine is_store 34 rfl ?_); refine wpList_storeBw rfl 34 _ _ rfl b34 _ _ _ _ rfl rfl (by assumption) (secA_size _) (secA_bx _) ?_) | ((with_reducible refine is_build 34 rfl ?_); refine wpList_buildZ34 rfl rfl ?_) | ((with_reducible refine is_build 35 rfl ?_); refine wpList_buildZ35 rfl rfl ?_))
      have f7 := fun S => setRow_fr (w5.setRow (w.heap.size + 1) #[.slice (some ⟨g3, o3, none⟩) X.zs.length cap3, .int .i64 X.size, .int .i64 X.op, .int .i64 ((X.n : Int) + 1), .bool X.down]) (w.heap.size + 2) S
      exact bodyPost_ret (res49 rfl rfl rfl ((f7 _).heap g16 (by omega)) rfl (setRow_blk _ g26)) rfl ⟨_, rfl, ((hr5.fr f6 (fun k hk e => by rcases hk with ⟨h | h, h2⟩ <;> omega)).fr (f7 _) (fun k hk e => by rcases hk with ⟨h | h, h2⟩ <;> omega)).q rfl rfl rfl rfl (((F4.trans F5 (fun _ _ h => h)).trans f6 (fun k hk e => by omega)).trans (f7 _) (fun k hk e => by omega)) (fun k hk => by rcases hk with ⟨h | h, h2⟩; exact .inl h.1; exact .inr (by omega)) rfl⟩
    · have ho' : 0 ≤ off := by omega
      subst e1
      have HDN := Lib.hid hdn
      clear hdn
      obtain ⟨g, o, cap, rfl, hr⟩ := h.sharp.op hok.l1
      have h3w := three w (.cells #[.slice (some ⟨g, o, none⟩) X.zs.length cap, .int .i64 X.size, .int .i64 X.op, .int .i64 X.n, .bool X.down] 27) (.cells #[.slice none 0 0, .int .i64 0, .int .i64 0, .int .i64 0, .bool false] 27) (.cells (secA Sec.zero) 34)
      go_enter Try.func49, Try.ntmps49
      go_upto_region 1 with (first | ((with_reducible refine is_alloc 35 rfl ?_); refine wpList_allocB rfl 35 rfl b35 ?_) | ((with_reducible refine is_alloc 34 rfl ?_); refine wpList_allocB rfl 34 rfl b34 ?_) | ((with_reducible refine is_load 35 rfl ?_); (first | refine wpList_loadBw rfl 35 _ rfl b35 _ _ _ rfl (by assumption) (secA_size _) ?_ | refine wpList_loadB rfl 35 _ rfl b35 _ _ _ rfl (by assumption) (secA_size _) ?_)) | ((with_reducible refine is_load 34 rfl ?_); (first | refine wpList_loadBw rfl 34 _ rfl b34 _ _ _ rfl (by assumption) (secA_size _) ?_ | refine wpList_loadB rfl 34 _ rfl b34 _ _ _ rfl (by assumption) (secA_size _) ?_)) | ((with_reducible refine is_store 35 rfl ?_); refine wpList_storeBw rfl 35 _ _ rfl b35 _ _ _ _ rfl rfl (by assumption) (secA_size _) (secA_bx _) ?_) | ((with_reducible refine is_store 34 rfl ?_); refine wpList_storeBw rfl 34 _ _ rfl b34 _ _ _ _ rfl rfl (by assumption) (secA_size _) (secA_bx _) ?_) | ((with_reducible refine is_build 34 rfl ?_); refine wpList_buildZ34 rfl rfl ?_) | ((with_reducible refine is_build 35 rfl ?_); refine wpList_buildZ35 rfl rfl ?_))
      generalize ((w.alloc (.cells #[.slice (some ⟨g, o, none⟩) X.zs.length cap, .int .i64 X.size, .int .i64 X.op, .int .i64 X.n, .bool X.down] 27)).alloc (.cells #[.slice none 0 0, .int .i64 0, .int .i64 0, .int .i64 0, .bool false] 27)).alloc (.cells (secA Sec.zero) 34) = w2 at *
      obtain ⟨F2, g0, g1, g2, hsz⟩ := h3w
      have hr2 := hr.fr0 F2
      have HSZ := Lib.hid hsz
      clear hsz hr
      have hc := rbeg_ok hr2.rf HDN.out hn hk
      go_wp2_with (first | ((with_reducible refine is_load 27 rfl ?_); refine wpList_loadBw rfl 27 _ rfl b27 _ _ _ rfl (by first | assumption | exact blk_new _ _) rfl ?_) | ((with_reducible refine is_store 27 rfl ?_); refine wpList_storeBw rfl 27 _ _ rfl b27 _ _ _ _ rfl rfl (by first | assumption | exact blk_new _ _) rfl (bx27 _ _ _ _ _ _ _) ?_) | ((with_reducible refine is_load 117 rfl ?_); (first | refine wpList_loadBw rfl 117 _ rfl b117 _ _ _ rfl (by first | assumption | exact blk_new _ _) rfl ?_ | refine wpList_loadB rfl 117 _ rfl b117 _ _ _ rfl (by assumption) rfl ?_)) | ((with_reducible refine is_store 117 rfl ?_); (first | refine wpList_storeBw rfl 117 _ _ rfl b117 _ _ _ _ rfl rfl (by first | assumption | exact blk_new _ _) rfl (bx117 _ _ _ _ _ _) ?_ | refine wpList_storeBm rfl 117 _ _ rfl b117 _ _ _ rfl rfl (by assumption) (bx117 _ _ _ _ _ _) ?_)))
      refine hc.mono ?_
      rintro e w3 ⟨v3, rfl, hq⟩
      obtain ⟨g3, o3, cap3, rfl, hr3, F3⟩ := hq.op_tick hok.l1
      have g03 := F3.heap g0 id
      have g13 := F3.heap g1 id
      have hszl : w.heap.size + 2 ≤ w2.heap.size := by have := HSZ.out; omega
      have g04 := setRow_blk #[.slice (some ⟨g3, o3, none⟩) X.zs.length cap3, .int .i64 X.size, .int .i64 X.op, .int .i64 ((X.n : Int) + 1), .bool X.down] g03
      have f4 := setRow_fr w3 w.heap.size #[.slice (some ⟨g3, o3, none⟩) X.zs.length cap3, .int .i64 X.size, .int .i64 X.op, .int .i64 ((X.n : Int) + 1), .bool X.down]
      have g14 := f4.heap g13 (by omega)
      have hr4 := hr3.fr f4 (fun k hk e => by rcases hk with h | h <;> omega)
      have F4 := ((F2.trans F3 (fun _ _ h => h)).mono (fun _ _ h => h.elim)).trans f4 (fun _ _ h => h) |>.mono (fun k hk e => (by omega : False))
      have c4 := fun i => blk_cell g04 i
      have hsz4 : w.heap.size + 2 ≤ (w3.setRow w.heap.size #[.slice (some ⟨g3, o3, none⟩) X.zs.length cap3, .int .i64 X.size, .int .i64 X.op, .int .i64 ((X.n : Int) + 1), .bool X.down]).heap.size := by have h1 := F3.size; have h2 := f4.size; omega
      have h1 : (k : Int) < (X.zs.length : Int) := by omega
      have h2 : (0 : Int) ≤ (k : Int) := by omega
      obtain ⟨la, lc, hrz, hsz, hDg⟩ := (hr4.same (Y := X) rfl).at hk
      clear hc g0 g1 hr3 hr2
      have g24 := f4.heap (F3.heap g2 id) (by omega)
      go_upto_region 2 with (first | ((with_reducible refine is_load 27 rfl ?_); refine wpList_loadBw rfl 27 _ rfl b27 _ _ _ rfl (by first | assumption | exact blk_new _ _) rfl ?_) | ((with_reducible refine is_store 27 rfl ?_); refine wpList_storeBw rfl 27 _ _ rfl b27 _ _ _ _ rfl rfl (by first | assumption | exact blk_new _ _) rfl (bx27 _ _ _ _ _ _ _) ?_) | ((with_reducible refine is_load 117 rfl ?_); (first | refine wpList_loadBw rfl 117 _ rfl b117 _ _ _ rfl (by first | assumption | exact blk_new _ _) rfl ?_ | refine wpList_loadB rfl 117 _ rfl b117 _ _ _ rfl (by assumption) rfl ?_)) | ((with_reducible refine is_store 117 rfl ?_); (first | refine wpList_storeBw rfl 117 _ _ rfl b117 _ _ _ _ rfl rfl (by first | assumption | exact blk_new _ _) rfl (bx117 _ _ _ _ _ _) ?_ | refine wpList_storeBm rfl 117 _ _ rfl b117 _ _ _ rfl rfl (by assumption) (bx117 _ _ _ _ _ _) ?_)))
      clear g03 c4
      generalize w3.setRow w.heap.size #[.slice (some ⟨g3, o3, none⟩) X.zs.length cap3, .int .i64 X.size, .int .i64 X.op, .int .i64 ((X.n : Int) + 1), .bool X.down] = w4 at *
      have c4 := fun i => blk_cell g04 i
      clear f4 F3
      have gz5 := setRow_blk #[.slice la X.zs[k].L.length lc, .int .i64 X.zs[k].safe, .int .i64 X.zs[k].st, .bool X.zs[k].fin] (blk_new w4 (.cells #[.slice none 0 0, .int .i64 0, .int .i64 0, .bool false] 117))
      have F5 : Fr (fun _ => False) w4 _ := ((Fr.refl (fun _ => False) w4).alloc (.cells #[.slice none 0 0, .int .i64 0, .int .i64 0, .bool false] 117)).trans (setRow_fr (w4.alloc (.cells #[.slice none 0 0, .int .i64 0, .int .i64 0, .bool false] 117)) w4.heap.size #[.slice la X.zs[k].L.length lc, .int .i64 X.zs[k].safe, .int .i64 X.zs[k].st, .bool X.zs[k].fin]) (fun i hi e => by omega)
      go_upto_region 5 with (first | ((with_reducible refine is_load 27 rfl ?_); refine wpList_loadBw rfl 27 _ rfl b27 _ _ _ rfl (by first | assumption | exact blk_new _ _) rfl ?_) | ((with_reducible refine is_store 27 rfl ?_); refine wpList_storeBw rfl 27 _ _ rfl b27 _ _ _ _ rfl rfl (by first | assumption | exact blk_new _ _) rfl (bx27 _ _ _ _ _ _ _) ?_) | ((with_reducible refine is_load 117 rfl ?_); (first | refine wpList_loadBw rfl 117 _ rfl b117 _ _ _ rfl (by first | assumption | exact blk_new _ _) rfl ?_ | refine wpList_loadB rfl 117 _ rfl b117 _ _ _ rfl (by assumption) rfl ?_)) | ((with_reducible refine is_store 117 rfl ?_); (first | refine wpList_storeBw rfl 117 _ _ rfl b117 _ _ _ _ rfl rfl (by first | assumption | exact blk_new _ _) rfl (bx117 _ _ _ _ _ _) ?_ | refine wpList_storeBm rfl 117 _ _ rfl b117 _ _ _ rfl rfl (by assumption) (bx117 _ _ _ _ _ _) ?_)))
      generalize (w4.alloc (.cells #[.slice none 0 0, .int .i64 0, .int .i64 0, .bool false] 117)).setRow w4.heap.size #[.slice la X.zs[k].L.length lc, .int .i64 X.zs[k].safe, .int .i64 X.zs[k].st, .bool X.zs[k].fin] = w5 at *
      have g05 := F5.heap g04 id
      have g15 := F5.heap g14 id
      have hr5 := hr4.sharp.fr0 F5
      have hz5 := RdAt.fr0 (RdAt.sharp hsz) F5
      obtain ⟨bz, hbz⟩ : ∃ bz, w4.heap.size = bz := ⟨_, rfl⟩
      rw [hbz] at hsz4 gz5 hr5 hz5
      try rw [hbz]
      have HBZ := Lib.hid hbz
      clear g04 g14 hr4 hsz hrz c4 hbz
      have g25 := F5.heap g24 id
      have hsz2 := HSZ.out
      have hbz3 : w.heap.size + 2 < bz := by have h1 := blk_lt g24; have h2 := HBZ.out; omega
      have cz := fun i => blk_cell gz5 i
      have f6 := setRow_fr w5 (w.heap.size + 1) #[.slice (some ⟨g3, o3, none⟩) X.zs.length cap3, .int .i64 X.size, .int .i64 X.op, .int .i64 ((X.n : Int) + 1), .bool X.down]
      have g26 := f6.heap g25 (by omega)
      have g16 := setRow_blk #[.slice (some ⟨g3, o3, none⟩) X.zs.length cap3, .int .i64 X.size, .int .i64 X.op, .int .i64 ((X.n : Int) + 1), .bool X.down] g15
      go_wp2_with (first | ((with_reducible refine is_load 27 rfl ?_); refine wpList_loadBw rfl 27 _ rfl b27 _ _ _ rfl (by first | assumption | exact blk_new _ _) rfl ?_) | ((with_reducible refine is_store 27 rfl ?_); refine wpList_storeBw rfl 27 _ _ rfl b27 _ _ _ _ rfl rfl (by first | assumption | exact blk_new _ _) rfl (bx27 _ _ _ _ _ _ _) ?_) | ((with_reducible refine is_load 117 rfl ?_); (first | refine wpList_loadBw rfl 117 _ rfl b117 _ _ _ rfl (by first | assumption | exact blk_new _ _) rfl ?_ | refine wpList_loadB rfl 117 _ rfl b117 _ _ _ rfl (by assumption) rfl ?_)) | ((with_reducible refine is_store 117 rfl ?_); (first | refine wpList_storeBw rfl 117 _ _ rfl b117 _ _ _ _ rfl rfl (by first | assumption | exact blk_new _ _) rfl (bx117 _ _ _ _ _ _) ?_ | refine wpList_storeBm rfl 117 _ _ rfl b117 _ _ _ rfl rfl (by assumption) (bx117 _ _ _ _ _ _) ?_)) | ((with_reducible refine is_alloc 35 rfl ?_); refine wpList_allocB rfl 35 rfl b35 ?_) | ((with_reducible refine is_alloc 34 rfl ?_); refine wpList_allocB rfl 34 rfl b34 ?_) | ((with_reducible refine is_load 35 rfl ?_); (first | refine wpList_loadBw rfl 35 _ rfl b35 _ _ _ rfl (by assumption) (secA_size _) ?_ | refine wpList_loadB rfl 35 _ rfl b35 _ _ _ rfl (by assumption) (secA_size _) ?_)) | ((with_reducible refine is_load 34 rfl ?_); (first | refine wpList_loadBw rfl 34 _ rfl b34 _ _ _ rfl (by assumption) (secA_size _) ?_ | refine wpList_loadB rfl 34 _ rfl b34 _ _ _ rfl (by assumption) (secA_size _) ?_)) | ((with_reducible refine is_store 35 rfl ?_); refine wpList_storeBw rfl 35 _ _ rfl b35 _ _ _ _ rfl rfl (by assumption) (secA_size _) (secA_bx _) ?_) | ((with_reducible refine is_store 34 rfl ?_); refine wpList_storeBw rfl 34 _ _ rfl b34 _ _ _ _ rfl rfl (by assumption) (secA_size _) (secA_bx _) ?_) | ((with_reducible refine is_build 34 rfl ?_); refine wpList_buildZ34 rfl rfl ?_) | ((with_reducible refine is_build 35 rfl ?_); refine wpList_buildZ35 rfl rfl ?_))
      have f7 := fun S => setRow_fr (w5.setRow (w.heap.size + 1) #[.slice (some ⟨g3, o3, none⟩) X.zs.length cap3, .int .i64 X.size, .int .i64 X.op, .int .i64 ((X.n : Int) + 1), .bool X.down]) (w.heap.size + 2) S
      exact bodyPost_ret (res49 rfl rfl rfl ((f7 _).heap g16 (by omega)) rfl (setRow_blk _ g26)) rfl ⟨_, rfl, ((hr5.fr f6 (fun k hk e => by rcases hk with ⟨h | h, h2⟩ <;> omega)).fr (f7 _) (fun k hk e => by rcases hk with ⟨h | h, h2⟩ <;> omega)).q rfl rfl rfl rfl (((F4.trans F5 (fun _ _ h => h)).trans f6 (fun k hk e => by omega)).trans (f7 _) (fun k hk e => by omega)) (fun k hk => by rcases hk with ⟨h | h, h2⟩; exact .inl h.1; exact .inr (by omega)) rfl⟩
  | ok k hk j hj hdn e1 h4 e2 =>
    have b4 : (X.zs[k].st == 4) = false := by simpa using h4
    subst e2
    have hj0 : (0 : Int) ≤ (j : Int) := by omega
    have hj1 : ¬ (X.zs[k].L.length : Int) ≤ (j : Int) := by omega
    have hj2 : (j : Int) < (X.zs[k].L.length : Int) := by omega
    have hj3 : ¬ X.zs[k].L.length ≤ j := by omega
    clear h4
    subst e1
    have HDN := Lib.hid hdn
    clear hdn
    obtain ⟨g, o, cap, rfl, hr⟩ := h.sharp.op hok.l1
    have h3w := three w (.cells #[.slice (some ⟨g, o, none⟩) X.zs.length cap, .int .i64 X.size, .int .i64 X.op, .int .i64 X.n, .bool X.down] 27) (.cells #[.slice none 0 0, .int .i64 0, .int .i64 0, .int .i64 0, .bool false] 27) (.cells (secA Sec.zero) 34)
    go_enter Try.func49, Try.ntmps49
    go_upto_region 1 with (first | ((with_reducible refine is_alloc 35 rfl ?_); refine wpList_allocB rfl 35 rfl b35 ?_) | ((with_reducible refine is_alloc 34 rfl ?_); refine wpList_allocB rfl 34 rfl b34 ?_) | ((with_reducible refine is_load 35 rfl ?_); (first | refine wpList_loadBw rfl 35 _ rfl b35 _ _ _ rfl (by assumption) (secA_size _) ?_ | refine wpList_loadB rfl 35 _ rfl b35 _ _ _ rfl (by assumption) (secA_size _) ?_)) | ((with_reducible refine is_load 34 rfl ?_); (first | refine wpList_loadBw rfl 34 _ rfl b34 _ _ _ rfl (by assumption) (secA_size _) ?_ | refine wpList_loadB rfl 34 _ rfl b34 _ _ _ rfl (by assumption) (secA_size _) ?_)) | ((with_reducible refine is_store 35 rfl ?_); refine wpList_storeBw rfl 35 _ _ rfl b35 _ _ _ _ rfl rfl (by assumption) (secA_size _) (secA_bx _) ?_) | ((with_reducible refine is_store 34 rfl ?_); refine wpList_storeBw rfl 34 _ _ rfl b34 _ _ _ _ rfl rfl (by assumption) (secA_size _) (secA_bx _) ?_) | ((with_reducible refine is_build 34 rfl ?_); refine wpList_buildZ34 rfl rfl ?_) | ((with_reducible refine is_build 35 rfl ?_); refine wpList_buildZ35 rfl rfl ?_))
    generalize ((w.alloc (.cells #[.slice (some ⟨g, o, none⟩) X.zs.length cap, .int .i64 X.size, .int .i64 X.op, .int .i64 X.n, .bool X.down] 27)).alloc (.cells #[.slice none 0 0, .int .i64 0, .int .i64 0, .int .i64 0, .bool false] 27)).alloc (.cells (secA Sec.zero) 34) = w2 at *
    obtain ⟨F2, g0, g1, g2, hsz⟩ := h3w
    have hr2 := hr.fr0 F2
    have HSZ := Lib.hid hsz
    clear hsz hr
    have hc := rbeg_ok hr2.rf HDN.out hn hk
    go_wp2_with (first | ((with_reducible refine is_load 27 rfl ?_); refine wpList_loadBw rfl 27 _ rfl b27 _ _ _ rfl (by first | assumption | exact blk_new _ _) rfl ?_) | ((with_reducible refine is_store 27 rfl ?_); refine wpList_storeBw rfl 27 _ _ rfl b27 _ _ _ _ rfl rfl (by first | assumption | exact blk_new _ _) rfl (bx27 _ _ _ _ _ _ _) ?_) | ((with_reducible refine is_load 117 rfl ?_); (first | refine wpList_loadBw rfl 117 _ rfl b117 _ _ _ rfl (by first | assumption | exact blk_new _ _) rfl ?_ | refine wpList_loadB rfl 117 _ rfl b117 _ _ _ rfl (by assumption) rfl ?_)) | ((with_reducible refine is_store 117 rfl ?_); (first | refine wpList_storeBw rfl 117 _ _ rfl b117 _ _ _ _ rfl rfl (by first | assumption | exact blk_new _ _) rfl (bx117 _ _ _ _ _ _) ?_ | refine wpList_storeBm rfl 117 _ _ rfl b117 _ _ _ rfl rfl (by assumption) (bx117 _ _ _ _ _ _) ?_)))
    refine hc.mono ?_
    rintro e w3 ⟨v3, rfl, hq⟩
    obtain ⟨g3, o3, cap3, rfl, hr3, F3⟩ := hq.op_tick hok.l1
    have g03 := F3.heap g0 id
    have g13 := F3.heap g1 id
    have hszl : w.heap.size + 2 ≤ w2.heap.size := by have := HSZ.out; omega
    have g04 := setRow_blk #[.slice (some ⟨g3, o3, none⟩) X.zs.length cap3, .int .i64 X.size, .int .i64 X.op, .int .i64 ((X.n : Int) + 1), .bool X.down] g03
    have f4 := setRow_fr w3 w.heap.size #[.slice (some ⟨g3, o3, none⟩) X.zs.length cap3, .int .i64 X.size, .int .i64 X.op, .int .i64 ((X.n : Int) + 1), .bool X.down]
    have g14 := f4.heap g13 (by omega)
    have hr4 := hr3.fr f4 (fun k hk e => by rcases hk with h | h <;> omega)
    have F4 := ((F2.trans F3 (fun _ _ h => h)).mono (fun _ _ h => h.elim)).trans f4 (fun _ _ h => h) |>.mono (fun k hk e => (by omega : False))
    have c4 := fun i => blk_cell g04 i
    have hsz4 : w.heap.size + 2 ≤ (w3.setRow w.heap.size #[.slice (some ⟨g3, o3, none⟩) X.zs.length cap3, .int .i64 X.size, .int .i64 X.op, .int .i64 ((X.n : Int) + 1), .bool X.down]).heap.size := by have h1 := F3.size; have h2 := f4.size; omega
    have h1 : (k : Int) < (X.zs.length : Int) := by omega
    have h2 : (0 : Int) ≤ (k : Int) := by omega
    obtain ⟨la, lc, hrz, hsz, hDg⟩ := (hr4.same (Y := X) rfl).at hk
    clear hc g0 g1 hr3 hr2
    have g24 := f4.heap (F3.heap g2 id) (by omega)
    go_upto_region 2 with (first | ((with_reducible refine is_load 27 rfl ?_); refine wpList_loadBw rfl 27 _ rfl b27 _ _ _ rfl (by first | assumption | exact blk_new _ _) rfl ?_) | ((with_reducible refine is_store 27 rfl ?_); refine wpList_storeBw rfl 27 _ _ rfl b27 _ _ _ _ rfl rfl (by first | assumption | exact blk_new _ _) rfl (bx27 _ _ _ _ _ _ _) ?_) | ((with_reducible refine is_load 117 rfl ?_); (first | refine wpList_loadBw rfl 117 _ rfl b117 _ _ _ rfl (by first | assumption | exact blk_new _ _) rfl ?_ | refine wpList_loadB rfl 117 _ rfl b117 _ _ _ rfl (by assumption) rfl ?_)) | ((with_reducible refine is_store 117 rfl ?_); (first | refine wpList_storeBw rfl 117 _ _ rfl b117 _ _ _ _ rfl rfl (by first | assumption | exact blk_new _ _) rfl (bx117 _ _ _ _ _ _) ?_ | refine wpList_storeBm rfl 117 _ _ rfl b117 _ _ _ rfl rfl (by assumption) (bx117 _ _ _ _ _ _) ?_)))
    clear g03 c4
    generalize w3.setRow w.heap.size #[.slice (some ⟨g3, o3, none⟩) X.zs.length cap3, .int .i64 X.size, .int .i64 X.op, .int .i64 ((X.n : Int) + 1), .bool X.down] = w4 at *
    have c4 := fun i => blk_cell g04 i
    clear f4 F3
    have gz5 := setRow_blk #[.slice la X.zs[k].L.length lc, .int .i64 X.zs[k].safe, .int .i64 X.zs[k].st, .bool X.zs[k].fin] (blk_new w4 (.cells #[.slice none 0 0, .int .i64 0, .int .i64 0, .bool false] 117))
    have F5 : Fr (fun _ => False) w4 _ := ((Fr.refl (fun _ => False) w4).alloc (.cells #[.slice none 0 0, .int .i64 0, .int .i64 0, .bool false] 117)).trans (setRow_fr (w4.alloc (.cells #[.slice none 0 0, .int .i64 0, .int .i64 0, .bool false] 117)) w4.heap.size #[.slice la X.zs[k].L.length lc, .int .i64 X.zs[k].safe, .int .i64 X.zs[k].st, .bool X.zs[k].fin]) (fun i hi e => by omega)
    go_upto_region 5 with (first | ((with_reducible refine is_load 27 rfl ?_); refine wpList_loadBw rfl 27 _ rfl b27 _ _ _ rfl (by first | assumption | exact blk_new _ _) rfl ?_) | ((with_reducible refine is_store 27 rfl ?_); refine wpList_storeBw rfl 27 _ _ rfl b27 _ _ _ _ rfl rfl (by first | assumption | exact blk_new _ _) rfl (bx27 _ _ _ _ _ _ _) ?_) | ((with_reducible refine is_load 117 rfl ?_); (first | refine wpList_loadBw rfl 117 _ rfl b117 _ _ _ rfl (by first | assumption | exact blk_new _ _) rfl ?_ | refine wpList_loadB rfl 117 _ rfl b117 _ _ _ rfl (by assumption) rfl ?_)) | ((with_reducible refine is_store 117 rfl ?_); (first | refine wpList_storeBw rfl 117 _ _ rfl b117 _ _ _ _ rfl rfl (by first | assumption | exact blk_new _ _) rfl (bx117 _ _ _ _ _ _) ?_ | refine wpList_storeBm rfl 117 _ _ rfl b117 _ _ _ rfl rfl (by assumption) (bx117 _ _ _ _ _ _) ?_)))
    generalize (w4.alloc (.cells #[.slice none 0 0, .int .i64 0, .int .i64 0, .bool false] 117)).setRow w4.heap.size #[.slice la X.zs[k].L.length lc, .int .i64 X.zs[k].safe, .int .i64 X.zs[k].st, .bool X.zs[k].fin] = w5 at *
    have g05 := F5.heap g04 id
    have g15 := F5.heap g14 id
    have hr5 := hr4.sharp.fr0 F5
    have hz5 := RdAt.fr0 (RdAt.sharp hsz) F5
    obtain ⟨bz, hbz⟩ : ∃ bz, w4.heap.size = bz := ⟨_, rfl⟩
    rw [hbz] at hsz4 gz5 hr5 hz5
    try rw [hbz]
    have HBZ := Lib.hid hbz
    clear g04 g14 hr4 hsz hrz c4 hbz
    have g25 := F5.heap g24 id
    have hsz2 := HSZ.out
    have hbz3 : w.heap.size + 2 < bz := by have h1 := blk_lt g24; have h2 := HBZ.out; omega
    have cz := fun i => blk_cell gz5 i
    have f6 := setRow_fr w5 (w.heap.size + 1) #[.slice (some ⟨g3, o3, none⟩) X.zs.length cap3, .int .i64 X.size, .int .i64 X.op, .int .i64 ((X.n : Int) + 1), .bool X.down]
    have g26 := f6.heap g25 (by omega)
    have g16 := setRow_blk #[.slice (some ⟨g3, o3, none⟩) X.zs.length cap3, .int .i64 X.size, .int .i64 X.op, .int .i64 ((X.n : Int) + 1), .bool X.down] g15
    obtain ⟨gs, os, rfl, hDs, hrs⟩ := hz5.sec hj
    have hnes : gs ≠ w.heap.size + 1 ∧ gs ≠ w.heap.size + 2 := by rcases hDs with ⟨h | h, h2⟩ <;> omega
    go_wp2_with (first | ((with_reducible refine is_load 27 rfl ?_); refine wpList_loadBw rfl 27 _ rfl b27 _ _ _ rfl (by first | assumption | exact blk_new _ _) rfl ?_) | ((with_reducible refine is_store 27 rfl ?_); refine wpList_storeBw rfl 27 _ _ rfl b27 _ _ _ _ rfl rfl (by first | assumption | exact blk_new _ _) rfl (bx27 _ _ _ _ _ _ _) ?_) | ((with_reducible refine is_load 117 rfl ?_); (first | refine wpList_loadBw rfl 117 _ rfl b117 _ _ _ rfl (by first | assumption | exact blk_new _ _) rfl ?_ | refine wpList_loadB rfl 117 _ rfl b117 _ _ _ rfl (by assumption) rfl ?_)) | ((with_reducible refine is_store 117 rfl ?_); (first | refine wpList_storeBw rfl 117 _ _ rfl b117 _ _ _ _ rfl rfl (by first | assumption | exact blk_new _ _) rfl (bx117 _ _ _ _ _ _) ?_ | refine wpList_storeBm rfl 117 _ _ rfl b117 _ _ _ rfl rfl (by assumption) (bx117 _ _ _ _ _ _) ?_)))
    refine (wpIn_wide (n := 0)).1 ?_
    refine regionIn_seqC (Sres2 w5 (w.heap.size + 1) 6 #[.slice (some ⟨g3, o3, none⟩) X.zs.length cap3, .int .i64 X.size, .int .i64 X.op, .int .i64 ((X.n : Int) + 1), .bool X.down] 27 (w.heap.size + 2) 7 (secA X.zs[k].L[j]) 34) rfl (by kernel_rfl) (by kernel_rfl) (by kernel_rfl) (fun _ => trivial) rfl (Sres2.start _ _ _ _ _ _ _ _ _) ?_
    apply SeqC.step
    · rfl
    · intro dn V hV ht hcl
      have cV := fun i => blk_cell (hV.1.heap g05 (by omega)) i
      simp [Oper.gives, execOp, Act.eval, go_sem, cV]
      exact ⟨rfl, hV.keep (by decide) (by decide)⟩
    simp only [Act.put, List.setIfInBounds_toArray, List.set_cons_succ, List.set_cons_zero]
    iterate 4
      apply SeqC.step
      · rfl
      · intro dn V hV ht hcl
        have cV := fun i => blk_cell (hV.1.heap gz5 (by omega)) i
        simp [Oper.gives, execOp, Act.eval, go_sem, cV, hj0, hj2, hj]
        exact ⟨rfl, hV.keep (by decide) (by decide)⟩
      simp only [Act.put, List.setIfInBounds_toArray, List.set_cons_succ, List.set_cons_zero]
    apply SeqC.step
    · rfl
    · intro dn V hV ht hcl
      (exact gives_loadB rfl b34 rfl (rangeAt_fr hrs hV.1 (by omega)) (secA_size _) ⟨rfl, hV.keep (by decide) (by decide)⟩)
    simp only [Act.put, List.setIfInBounds_toArray, List.set_cons_succ, List.set_cons_zero]
    apply SeqC.step
    · rfl
    · intro dn V hV ht hcl
      obtain ⟨p1, p2⟩ := hV.put1 ht.not (by decide) (by omega) g15
      exact gives_storeBw rfl b27 rfl rfl p1 rfl (bx27 _ _ _ _ _ _ _) ⟨rfl, p2⟩
    simp only [Act.put, List.setIfInBounds_toArray, List.set_cons_succ, List.set_cons_zero]
    apply SeqC.step
    · rfl
    · intro dn V hV ht hcl
      obtain ⟨p1, p2⟩ := hV.put2 ht.not (by decide) (by omega) g25
      exact gives_storeBw rfl b34 rfl rfl p1 (secA_size _) (secA_bx _) ⟨rfl, p2⟩
    simp only [Act.put, List.setIfInBounds_toArray, List.set_cons_succ, List.set_cons_zero]
    apply SeqC.step
    · rfl
    · intro dn V hV ht hcl
      skip
      simp [Oper.gives, execOp, Act.eval, go_sem, ]
      exact ⟨rfl, hV.keep (by decide) (by decide)⟩
    simp only [Act.put, List.setIfInBounds_toArray, List.set_cons_succ, List.set_cons_zero]
    refine SeqC.nil fun w7 hV => ?_
    have hV1 := hV.1
    obtain ⟨hg7, hg8⟩ := hV.fin rfl rfl
    clear hV
    go_wp2_with fail
    exact bodyPost_ret (res49 rfl rfl rfl hg7 rfl hg8) rfl ⟨_, rfl, (hr5.fr hV1 (fun k hk e => by rcases hk with ⟨h | h, h2⟩ <;> omega)).q rfl rfl rfl rfl ((F4.trans F5 (fun _ _ h => h)).trans hV1 (fun k hk e => by omega)) (fun k hk => by rcases hk with ⟨h | h, h2⟩; exact .inl h.1; exact .inr (by omega)) rfl⟩
end
end Go.Proofs.Ytkbagfpoegfcaaa

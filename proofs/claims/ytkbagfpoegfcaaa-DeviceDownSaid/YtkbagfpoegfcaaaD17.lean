/- The document's device: Finish. Conditions: a device is small. -/
import Derived.Test.YtkbagfpoegfcaaaD16
namespace Go.Proofs.Ytkbagfpoegfcaaa
open Go.RowKit Go.Conc

section
variable {w w' : World} {D S : Nat → Prop} {v : Value} {X Y : DS} {e0 : Int}
theorem res52 {tmps : Array Value} {W : World} {g : Nat} {u : Value} {S : Array Value} (h1 : tmps.getD 4 undef = .pointer (some ⟨g, 0, none⟩)) (h3 : tmps.getD 5 undef = u) (h2 : W.heap[g]? = some (.cells S 27 (0, 0))) (h4 : S.size = 5) :
    (results Try.f52 tmps).run Try.prog W = .ok (.tuple #[.agg S, u]) W := by
  rw [← h3]
  exact res_ct rfl h1 (run_loadBw b27 h2 h4)
set_option linter.unusedSimpArgs false
set_option maxRecDepth 100000 in
theorem rfinish_early (h : RfS D w v X) (hok : X.Ok) {x e1 : Int} (hb : ∀ D w v, RfS D w v X → Calls Try.prog 86 #[v, .int .i64 x] w (Rf2 D w X (.int .i64 e1))) (he : (e1 != 0) = true) : Calls Try.prog 52 #[v, .int .i64 x] w (Rf2 D w X (.int .i64 e1)) := by
  obtain ⟨g, o, cap, rfl, hr⟩ := h.sharp.op hok.l1
  have h2w := two w (.cells #[.slice (some ⟨g, o, none⟩) X.zs.length cap, .int .i64 X.size, .int .i64 X.op, .int .i64 X.n, .bool X.down] 27) (.cells #[.slice none 0 0, .int .i64 0, .int .i64 0, .int .i64 0, .bool false] 27)
  go_enter Try.func52, Try.ntmps52
  go_upto_region 1 with fail
  generalize (w.alloc (.cells #[.slice (some ⟨g, o, none⟩) X.zs.length cap, .int .i64 X.size, .int .i64 X.op, .int .i64 X.n, .bool X.down] 27)).alloc (.cells #[.slice none 0 0, .int .i64 0, .int .i64 0, .int .i64 0, .bool false] 27) = w2 at *
  obtain ⟨F2, g0, g1, hsz⟩ := h2w
  have hr2 := hr.fr0 F2
  have HSZ := Lib.hid hsz
  clear hsz hr
  have hc := hb _ w2 _ hr2.rf
  go_wp2_with (first | ((with_reducible refine is_load 27 rfl ?_); refine wpList_loadBw rfl 27 _ rfl b27 _ _ _ rfl (by first | assumption | exact blk_new _ _) rfl ?_) | ((with_reducible refine is_store 27 rfl ?_); refine wpList_storeBw rfl 27 _ _ rfl b27 _ _ _ _ rfl rfl (by first | assumption | exact blk_new _ _) rfl (bx27 _ _ _ _ _ _ _) ?_) | ((with_reducible refine is_load 117 rfl ?_); (first | refine wpList_loadBw rfl 117 _ rfl b117 _ _ _ rfl (by first | assumption | exact blk_new _ _) rfl ?_ | refine wpList_loadB rfl 117 _ rfl b117 _ _ _ rfl (by assumption) rfl ?_)) | ((with_reducible refine is_store 117 rfl ?_); (first | refine wpList_storeBw rfl 117 _ _ rfl b117 _ _ _ _ rfl rfl (by first | assumption | exact blk_new _ _) rfl (bx117 _ _ _ _ _ _) ?_ | refine wpList_storeBm rfl 117 _ _ rfl b117 _ _ _ rfl rfl (by assumption) (bx117 _ _ _ _ _ _) ?_)))
  refine hc.mono ?_
  rintro e w3 ⟨v3, rfl, hq⟩
  obtain ⟨g3, o3, cap3, rfl, hr3, F3⟩ := hq.op hok.l1
  have g03 := F3.heap g0 id
  have g13 := F3.heap g1 id
  have hszl : w.heap.size + 2 ≤ w2.heap.size := by have := HSZ.out; omega
  have g04 := setRow_blk #[.slice (some ⟨g3, o3, none⟩) (X).zs.length cap3, .int .i64 (X).size, .int .i64 (X).op, .int .i64 (X).n, .bool (X).down] g03
  have f4 := setRow_fr w3 w.heap.size #[.slice (some ⟨g3, o3, none⟩) (X).zs.length cap3, .int .i64 (X).size, .int .i64 (X).op, .int .i64 (X).n, .bool (X).down]
  have g14 := f4.heap g13 (by omega)
  have hr4 := hr3.fr f4 (fun k hk e => by rcases hk with h | h <;> omega)
  have F4 := ((F2.trans F3 (fun _ _ h => h)).mono (fun _ _ h => h.elim)).trans f4 (fun _ _ h => h) |>.mono (fun k hk e => (by omega : False))
  clear hc g0 g1 hr3 hr2
  go_wp2_with (first | ((with_reducible refine is_load 27 rfl ?_); refine wpList_loadBw rfl 27 _ rfl b27 _ _ _ rfl (by first | assumption | exact blk_new _ _) rfl ?_) | ((with_reducible refine is_store 27 rfl ?_); refine wpList_storeBw rfl 27 _ _ rfl b27 _ _ _ _ rfl rfl (by first | assumption | exact blk_new _ _) rfl (bx27 _ _ _ _ _ _ _) ?_) | ((with_reducible refine is_load 117 rfl ?_); (first | refine wpList_loadBw rfl 117 _ rfl b117 _ _ _ rfl (by first | assumption | exact blk_new _ _) rfl ?_ | refine wpList_loadB rfl 117 _ rfl b117 _ _ _ rfl (by assumption) rfl ?_)) | ((with_reducible refine is_store 117 rfl ?_); (first | refine wpList_storeBw rfl 117 _ _ rfl b117 _ _ _ _ rfl rfl (by first | assumption | exact blk_new _ _) rfl (bx117 _ _ _ _ _ _) ?_ | refine wpList_storeBm rfl 117 _ _ rfl b117 _ _ _ rfl rfl (by assumption) (bx117 _ _ _ _ _ _) ?_)))
  exact bodyPost_ret (res52 rfl rfl (setRow_blk _ g14) rfl) rfl ⟨_, rfl, (hr4.fr (setRow_fr _ _ _) (fun k hk e => by omega)).q rfl rfl rfl rfl (F4.trans (setRow_fr _ _ _) (fun k hk e => by omega)) (fun k hk => by rcases hk with h | h; exact .inl h.1; exact .inr (by omega)) rfl⟩
set_option maxRecDepth 100000 in
set_option maxHeartbeats 2000000 in
theorem rfinish (h : RfS D w v X) (hok : X.Ok) (hn : X.n < 1000000) {x : Int} (hr : RstR X x ZS.finish Y e0) : Calls Try.prog 52 #[v, .int .i64 x] w (Rf2 D w Y (.int .i64 e0)) := by
  cases hr with
  | down hdn => exact rfinish_early h hok (fun D w v h => rbeg_down h hdn x) (by decide)
  | out hdn hx => exact rfinish_early h hok (fun D w v h => rbeg_out h hdn hx) (by decide)
  | failed k hk hdn e1 hf =>
    subst e1
    have HDN := Lib.hid hdn
    clear hdn
    obtain ⟨g, o, cap, rfl, hr⟩ := h.sharp.op hok.l1
    have h2w := two w (.cells #[.slice (some ⟨g, o, none⟩) X.zs.length cap, .int .i64 X.size, .int .i64 X.op, .int .i64 X.n, .bool X.down] 27) (.cells #[.slice none 0 0, .int .i64 0, .int .i64 0, .int .i64 0, .bool false] 27)
    go_enter Try.func52, Try.ntmps52
    go_upto_region 1 with fail
    generalize (w.alloc (.cells #[.slice (some ⟨g, o, none⟩) X.zs.length cap, .int .i64 X.size, .int .i64 X.op, .int .i64 X.n, .bool X.down] 27)).alloc (.cells #[.slice none 0 0, .int .i64 0, .int .i64 0, .int .i64 0, .bool false] 27) = w2 at *
    obtain ⟨F2, g0, g1, hsz⟩ := h2w
    have hr2 := hr.fr0 F2
    have HSZ := Lib.hid hsz
    clear hsz hr
    have hc := rbeg_ok hr2.rf HDN.out hn hk
    go_wp2_with (first | ((with_reducible refine is_load 27 rfl ?_); refine wpList_loadBw rfl 27 _ rfl b27 _ _ _ rfl (by first | assumption | exact blk_new _ _) rfl ?_) | ((with_reducible refine is_store 27 rfl ?_); refine wpList_storeBw rfl 27 _ _ rfl b27 _ _ _ _ rfl rfl (by first | assumption | exact blk_new _ _) rfl (bx27 _ _ _ _ _ _ _) ?_) | ((with_reducible refine is_load 117 rfl ?_); (first | refine wpList_loadBw rfl 117 _ rfl b117 _ _ _ rfl (by first | assumption | exact blk_new _ _) rfl ?_ | refine wpList_loadB rfl 117 _ rfl b117 _ _ _ rfl (by assumption) rfl ?_)) | ((with_reducible refine is_store 117 rfl ?_); (first | refine wpList_storeBw rfl 117 _ _ rfl b117 _ _ _ _ rfl rfl (by first | assumption | exact blk_new _ _) rfl (bx117 _ _ _ _ _ _) ?_ | refine wpList_storeBm rfl 117 _ _ rfl b117 _ _ _ rfl rfl (by assumption) (bx117 _ _ _ _ _ _) ?_)))
    refine hc.mono ?_
    rintro e w3 ⟨v3, rfl, hq⟩
    obtain ⟨g3, o3, cap3, rfl, hr3, F3⟩ := hq.op_tick hok.l1
    have g03 := F3.heap g0 id
    have g13 := F3.heap g1 id
    have hszl : w.heap.size + 2 ≤ w2.heap.size := by have := HSZ.out; omega
    have g04 := setRow_blk #[.slice (some ⟨g3, o3, none⟩) X.zs.length cap3, .int .i64 X.size, .int .i64 X.op, .int .i64 ((X.n : Int) + 1), .bool X.down] g03
    have f4 := setRow_fr w3 w.heap.size #[.slice (some ⟨g3, o3, none⟩) X.zs.length cap3, .int .i64 X.size, .int .i64 X.op, .int .i64 ((X.n : Int) + 1), .bool X.down]
    have g14 := f4.heap g13 (by omega)
    have hr4 := hr3.fr f4 (fun k hk e => by rcases hk with h | h <;> omega)
    have F4 := ((F2.trans F3 (fun _ _ h => h)).mono (fun _ _ h => h.elim)).trans f4 (fun _ _ h => h) |>.mono (fun k hk e => (by omega : False))
    have c4 := fun i => blk_cell g04 i
    have hsz4 : w.heap.size + 2 ≤ (w3.setRow w.heap.size #[.slice (some ⟨g3, o3, none⟩) X.zs.length cap3, .int .i64 X.size, .int .i64 X.op, .int .i64 ((X.n : Int) + 1), .bool X.down]).heap.size := by have h1 := F3.size; have h2 := f4.size; omega
    have h1 : (k : Int) < (X.zs.length : Int) := by omega
    have h2 : (0 : Int) ≤ (k : Int) := by omega
    obtain ⟨la, lc, hrz, hsz, hDg⟩ := (hr4.same (Y := X) rfl).at hk
    clear hc g0 g1 hr3 hr2
    have hfd := fun W => rfailed (w := W) (z := X.zs[k]) (l := .slice la X.zs[k].L.length lc) ⟨_, _, _, rfl⟩
    have b5 : (failedOf X.zs[k].st != 0) = true := by simpa using hf
    go_upto_region 2 with (first | ((with_reducible refine is_load 27 rfl ?_); refine wpList_loadBw rfl 27 _ rfl b27 _ _ _ rfl (by first | assumption | exact blk_new _ _) rfl ?_) | ((with_reducible refine is_store 27 rfl ?_); refine wpList_storeBw rfl 27 _ _ rfl b27 _ _ _ _ rfl rfl (by first | assumption | exact blk_new _ _) rfl (bx27 _ _ _ _ _ _ _) ?_) | ((with_reducible refine is_load 117 rfl ?_); (first | refine wpList_loadBw rfl 117 _ rfl b117 _ _ _ rfl (by first | assumption | exact blk_new _ _) rfl ?_ | refine wpList_loadB rfl 117 _ rfl b117 _ _ _ rfl (by assumption) rfl ?_)) | ((with_reducible refine is_store 117 rfl ?_); (first | refine wpList_storeBw rfl 117 _ _ rfl b117 _ _ _ _ rfl rfl (by first | assumption | exact blk_new _ _) rfl (bx117 _ _ _ _ _ _) ?_ | refine wpList_storeBm rfl 117 _ _ rfl b117 _ _ _ rfl rfl (by assumption) (bx117 _ _ _ _ _ _) ?_)))
    clear g03 c4
    generalize w3.setRow w.heap.size #[.slice (some ⟨g3, o3, none⟩) X.zs.length cap3, .int .i64 X.size, .int .i64 X.op, .int .i64 ((X.n : Int) + 1), .bool X.down] = w4 at *
    have c4 := fun i => blk_cell g04 i
    clear f4 F3
    have gz5 := setRow_blk #[.slice la X.zs[k].L.length lc, .int .i64 X.zs[k].safe, .int .i64 X.zs[k].st, .bool X.zs[k].fin] (blk_new w4 (.cells #[.slice none 0 0, .int .i64 0, .int .i64 0, .bool false] 117))
    have F5 : Fr (fun _ => False) w4 _ := ((Fr.refl (fun _ => False) w4).alloc (.cells #[.slice none 0 0, .int .i64 0, .int .i64 0, .bool false] 117)).trans (setRow_fr (w4.alloc (.cells #[.slice none 0 0, .int .i64 0, .int .i64 0, .bool false] 117)) w4.heap.size #[.slice la X.zs[k].L.length lc, .int .i64 X.zs[k].safe, .int .i64 X.zs[k].st, .bool X.zs[k].fin]) (fun i hi e => by omega)
    go_upto_region 5 with (first | ((with_reducible refine is_load 27 rfl ?_); refine wpList_loadBw rfl 27 _ rfl b27 _ _ _ rfl (by first | assumption | exact blk_new _ _) rfl ?_) | ((with_reducible refine is_store 27 rfl ?_); refine wpList_storeBw rfl 27 _ _ rfl b27 _ _ _ _ rfl rfl (by first | assumption | exact blk_new _ _) rfl (bx27 _ _ _ _ _ _ _) ?_) | ((with_reducible refine is_load 117 rfl ?_); (first | refine wpList_loadBw rfl 117 _ rfl b117 _ _ _ rfl (by first | assumption | exact blk_new _ _) rfl ?_ | refine wpList_loadB rfl 117 _ rfl b117 _ _ _ rfl (by assumption) rfl ?_)) | ((with_reducible refine is_store 117 rfl ?_); (first | refine wpList_storeBw rfl 117 _ _ rfl b117 _ _ _ _ rfl rfl (by first | assumption | exact blk_new _ _) rfl (bx117 _ _ _ _ _ _) ?_ | refine wpList_storeBm rfl 117 _ _ rfl b117 _ _ _ rfl rfl (by assumption) (bx117 _ _ _ _ _ _) ?_)))
    generalize (w4.alloc (.cells #[.slice none 0 0, .int .i64 0, .int .i64 0, .bool false] 117)).setRow w4.heap.size #[.slice la X.zs[k].L.length lc, .int .i64 X.zs[k].safe, .int .i64 X.zs[k].st, .bool X.zs[k].fin] = w5 at *
    have g05 := F5.heap g04 id
    have g15 := F5.heap g14 id
    have hr5 := hr4.sharp.fr0 F5
    have hz5 := RdAt.fr0 (RdAt.sharp hsz) F5
    obtain ⟨bz, hbz⟩ : ∃ bz, w4.heap.size = bz := ⟨_, rfl⟩
    rw [hbz] at hsz4 gz5 hr5 hz5
    try rw [hbz]
    have HBZ := Lib.hid hbz
    clear g04 g14 hr4 hsz hrz c4 hbz
    go_wp2_with (first | ((with_reducible refine is_load 27 rfl ?_); refine wpList_loadBw rfl 27 _ rfl b27 _ _ _ rfl (by first | assumption | exact blk_new _ _) rfl ?_) | ((with_reducible refine is_store 27 rfl ?_); refine wpList_storeBw rfl 27 _ _ rfl b27 _ _ _ _ rfl rfl (by first | assumption | exact blk_new _ _) rfl (bx27 _ _ _ _ _ _ _) ?_) | ((with_reducible refine is_load 117 rfl ?_); (first | refine wpList_loadBw rfl 117 _ rfl b117 _ _ _ rfl (by first | assumption | exact blk_new _ _) rfl ?_ | refine wpList_loadB rfl 117 _ rfl b117 _ _ _ rfl (by assumption) rfl ?_)) | ((with_reducible refine is_store 117 rfl ?_); (first | refine wpList_storeBw rfl 117 _ _ rfl b117 _ _ _ _ rfl rfl (by first | assumption | exact blk_new _ _) rfl (bx117 _ _ _ _ _ _) ?_ | refine wpList_storeBm rfl 117 _ _ rfl b117 _ _ _ rfl rfl (by assumption) (bx117 _ _ _ _ _ _) ?_)))
    refine (hfd _).mono ?_
    rintro e w6 ⟨rfl, F6⟩
    have g06 := F6.heap g05 id
    have g16 := F6.heap g15 id
    have gz6 := F6.heap gz5 id
    have hB1 : w.heap.size + 1 < w6.heap.size := blk_lt g16
    have hr6 := hr5.fr0 F6
    clear g05 g15 gz5 hr5
    go_wp2_with (first | ((with_reducible refine is_load 27 rfl ?_); refine wpList_loadBw rfl 27 _ rfl b27 _ _ _ rfl (by first | assumption | exact blk_new _ _) rfl ?_) | ((with_reducible refine is_store 27 rfl ?_); refine wpList_storeBw rfl 27 _ _ rfl b27 _ _ _ _ rfl rfl (by first | assumption | exact blk_new _ _) rfl (bx27 _ _ _ _ _ _ _) ?_) | ((with_reducible refine is_load 117 rfl ?_); (first | refine wpList_loadBw rfl 117 _ rfl b117 _ _ _ rfl (by first | assumption | exact blk_new _ _) rfl ?_ | refine wpList_loadB rfl 117 _ rfl b117 _ _ _ rfl (by assumption) rfl ?_)) | ((with_reducible refine is_store 117 rfl ?_); (first | refine wpList_storeBw rfl 117 _ _ rfl b117 _ _ _ _ rfl rfl (by first | assumption | exact blk_new _ _) rfl (bx117 _ _ _ _ _ _) ?_ | refine wpList_storeBm rfl 117 _ _ rfl b117 _ _ _ rfl rfl (by assumption) (bx117 _ _ _ _ _ _) ?_)))
    refine (wpIn_wide (n := 0)).1 ?_
    refine regionIn_seqC (Sres w6 (w.heap.size + 1) 3 #[.slice (some ⟨g3, o3, none⟩) X.zs.length cap3, .int .i64 X.size, .int .i64 X.op, .int .i64 ((X.n : Int) + 1), .bool X.down] 27) rfl (by kernel_rfl) (by kernel_rfl) (by kernel_rfl) (fun _ => trivial) rfl (Sres.start _ _ _ _ _) ?_
    apply SeqC.step
    · rfl
    · intro dn V hV ht hcl
      have cV := fun i => blk_cell (hV.1.heap g06 (by omega)) i
      simp [Oper.gives, execOp, Act.eval, go_sem, cV]
      exact ⟨rfl, hV.keep (by decide)⟩
    simp only [Act.put, List.setIfInBounds_toArray, List.set_cons_succ, List.set_cons_zero]
    apply SeqC.step
    · rfl
    · intro dn V hV ht hcl
      have cV := fun i => blk_cell (hV.1.heap gz6 (by omega)) i
      simp [Oper.gives, execOp, Act.eval, go_sem, cV]
      exact ⟨rfl, hV.keep (by decide)⟩
    simp only [Act.put, List.setIfInBounds_toArray, List.set_cons_succ, List.set_cons_zero]
    apply SeqC.step
    · rfl
    · intro dn V hV ht hcl
      skip
      simp [Oper.gives, execOp, Act.eval, go_sem]
      refine callsIn_wide.2 ((hfd V).mono ?_); rintro e W9 ⟨rfl, hb⟩; exact ⟨_, rfl, rfl, hV.call (by decide) hb hB1⟩
    simp only [Act.put, List.setIfInBounds_toArray, List.set_cons_succ, List.set_cons_zero]
    apply SeqC.step
    · rfl
    · intro dn V hV ht hcl
      obtain ⟨p1, p2⟩ := hV.put ht.not g16
      exact gives_storeBw rfl b27 rfl rfl p1 rfl (bx27 _ _ _ _ _ _ _) ⟨rfl, p2⟩
    simp only [Act.put, List.setIfInBounds_toArray, List.set_cons_succ, List.set_cons_zero]
    apply SeqC.step
    · rfl
    · intro dn V hV ht hcl
      skip
      simp [Oper.gives, execOp, Act.eval, go_sem, ]
      exact ⟨rfl, hV.keep (by decide)⟩
    simp only [Act.put, List.setIfInBounds_toArray, List.set_cons_succ, List.set_cons_zero]
    refine SeqC.nil fun w7 hV => ?_
    have hV1 := hV.1
    have hg7 := hV.fin rfl
    clear hV
    go_wp2_with fail
    exact bodyPost_ret (res52 rfl rfl hg7 rfl) rfl ⟨_, rfl, (hr6.fr hV1 (fun k hk e => by rcases hk with ⟨h | h, h2⟩ <;> omega)).q rfl rfl rfl rfl (((F4.trans F5 (fun _ _ h => h)).trans F6 (fun _ _ h => h)).trans hV1 (fun k hk e => by omega)) (fun k hk => by rcases hk with ⟨h | h, h2⟩; exact .inl h.1; exact .inr (by omega)) rfl⟩
  | ok k hk hdn e1 hf =>
    subst e1
    have HDN := Lib.hid hdn
    clear hdn
    obtain ⟨g, o, cap, rfl, hr⟩ := h.sharp.op hok.l1
    have h2w := two w (.cells #[.slice (some ⟨g, o, none⟩) X.zs.length cap, .int .i64 X.size, .int .i64 X.op, .int .i64 X.n, .bool X.down] 27) (.cells #[.slice none 0 0, .int .i64 0, .int .i64 0, .int .i64 0, .bool false] 27)
    go_enter Try.func52, Try.ntmps52
    go_upto_region 1 with fail
    generalize (w.alloc (.cells #[.slice (some ⟨g, o, none⟩) X.zs.length cap, .int .i64 X.size, .int .i64 X.op, .int .i64 X.n, .bool X.down] 27)).alloc (.cells #[.slice none 0 0, .int .i64 0, .int .i64 0, .int .i64 0, .bool false] 27) = w2 at *
    obtain ⟨F2, g0, g1, hsz⟩ := h2w
    have hr2 := hr.fr0 F2
    have HSZ := Lib.hid hsz
    clear hsz hr
    have hc := rbeg_ok hr2.rf HDN.out hn hk
    go_wp2_with (first | ((with_reducible refine is_load 27 rfl ?_); refine wpList_loadBw rfl 27 _ rfl b27 _ _ _ rfl (by first | assumption | exact blk_new _ _) rfl ?_) | ((with_reducible refine is_store 27 rfl ?_); refine wpList_storeBw rfl 27 _ _ rfl b27 _ _ _ _ rfl rfl (by first | assumption | exact blk_new _ _) rfl (bx27 _ _ _ _ _ _ _) ?_) | ((with_reducible refine is_load 117 rfl ?_); (first | refine wpList_loadBw rfl 117 _ rfl b117 _ _ _ rfl (by first | assumption | exact blk_new _ _) rfl ?_ | refine wpList_loadB rfl 117 _ rfl b117 _ _ _ rfl (by assumption) rfl ?_)) | ((with_reducible refine is_store 117 rfl ?_); (first | refine wpList_storeBw rfl 117 _ _ rfl b117 _ _ _ _ rfl rfl (by first | assumption | exact blk_new _ _) rfl (bx117 _ _ _ _ _ _) ?_ | refine wpList_storeBm rfl 117 _ _ rfl b117 _ _ _ rfl rfl (by assumption) (bx117 _ _ _ _ _ _) ?_)))
    refine hc.mono ?_
    rintro e w3 ⟨v3, rfl, hq⟩
    obtain ⟨g3, o3, cap3, rfl, hr3, F3⟩ := hq.op_tick hok.l1
    have g03 := F3.heap g0 id
    have g13 := F3.heap g1 id
    have hszl : w.heap.size + 2 ≤ w2.heap.size := by have := HSZ.out; omega
    have g04 := setRow_blk #[.slice (some ⟨g3, o3, none⟩) X.zs.length cap3, .int .i64 X.size, .int .i64 X.op, .int .i64 ((X.n : Int) + 1), .bool X.down] g03
    have f4 := setRow_fr w3 w.heap.size #[.slice (some ⟨g3, o3, none⟩) X.zs.length cap3, .int .i64 X.size, .int .i64 X.op, .int .i64 ((X.n : Int) + 1), .bool X.down]
    have g14 := f4.heap g13 (by omega)
    have hr4 := hr3.fr f4 (fun k hk e => by rcases hk with h | h <;> omega)
    have F4 := ((F2.trans F3 (fun _ _ h => h)).mono (fun _ _ h => h.elim)).trans f4 (fun _ _ h => h) |>.mono (fun k hk e => (by omega : False))
    have c4 := fun i => blk_cell g04 i
    have hsz4 : w.heap.size + 2 ≤ (w3.setRow w.heap.size #[.slice (some ⟨g3, o3, none⟩) X.zs.length cap3, .int .i64 X.size, .int .i64 X.op, .int .i64 ((X.n : Int) + 1), .bool X.down]).heap.size := by have h1 := F3.size; have h2 := f4.size; omega
    have h1 : (k : Int) < (X.zs.length : Int) := by omega
    have h2 : (0 : Int) ≤ (k : Int) := by omega
    obtain ⟨la, lc, hrz, hsz, hDg⟩ := (hr4.same (Y := X) rfl).at hk
    clear hc g0 g1 hr3 hr2
    have hfd := fun W => rfailed (w := W) (z := X.zs[k]) (l := .slice la X.zs[k].L.length lc) ⟨_, _, _, rfl⟩
    have b5 : (failedOf X.zs[k].st != 0) = false := by simpa using hf
    go_upto_region 2 with (first | ((with_reducible refine is_load 27 rfl ?_); refine wpList_loadBw rfl 27 _ rfl b27 _ _ _ rfl (by first | assumption | exact blk_new _ _) rfl ?_) | ((with_reducible refine is_store 27 rfl ?_); refine wpList_storeBw rfl 27 _ _ rfl b27 _ _ _ _ rfl rfl (by first | assumption | exact blk_new _ _) rfl (bx27 _ _ _ _ _ _ _) ?_) | ((with_reducible refine is_load 117 rfl ?_); (first | refine wpList_loadBw rfl 117 _ rfl b117 _ _ _ rfl (by first | assumption | exact blk_new _ _) rfl ?_ | refine wpList_loadB rfl 117 _ rfl b117 _ _ _ rfl (by assumption) rfl ?_)) | ((with_reducible refine is_store 117 rfl ?_); (first | refine wpList_storeBw rfl 117 _ _ rfl b117 _ _ _ _ rfl rfl (by first | assumption | exact blk_new _ _) rfl (bx117 _ _ _ _ _ _) ?_ | refine wpList_storeBm rfl 117 _ _ rfl b117 _ _ _ rfl rfl (by assumption) (bx117 _ _ _ _ _ _) ?_)))
    clear g03 c4
    generalize w3.setRow w.heap.size #[.slice (some ⟨g3, o3, none⟩) X.zs.length cap3, .int .i64 X.size, .int .i64 X.op, .int .i64 ((X.n : Int) + 1), .bool X.down] = w4 at *
    have c4 := fun i => blk_cell g04 i
    clear f4 F3
    have gz5 := setRow_blk #[.slice la X.zs[k].L.length lc, .int .i64 X.zs[k].safe, .int .i64 X.zs[k].st, .bool X.zs[k].fin] (blk_new w4 (.cells #[.slice none 0 0, .int .i64 0, .int .i64 0, .bool false] 117))
    have F5 : Fr (fun _ => False) w4 _ := ((Fr.refl (fun _ => False) w4).alloc (.cells #[.slice none 0 0, .int .i64 0, .int .i64 0, .bool false] 117)).trans (setRow_fr (w4.alloc (.cells #[.slice none 0 0, .int .i64 0, .int .i64 0, .bool false] 117)) w4.heap.size #[.slice la X.zs[k].L.length lc, .int .i64 X.zs[k].safe, .int .i64 X.zs[k].st, .bool X.zs[k].fin]) (fun i hi e => by omega)
    go_upto_region 5 with (first | ((with_reducible refine is_load 27 rfl ?_); refine wpList_loadBw rfl 27 _ rfl b27 _ _ _ rfl (by first | assumption | exact blk_new _ _) rfl ?_) | ((with_reducible refine is_store 27 rfl ?_); refine wpList_storeBw rfl 27 _ _ rfl b27 _ _ _ _ rfl rfl (by first | assumption | exact blk_new _ _) rfl (bx27 _ _ _ _ _ _ _) ?_) | ((with_reducible refine is_load 117 rfl ?_); (first | refine wpList_loadBw rfl 117 _ rfl b117 _ _ _ rfl (by first | assumption | exact blk_new _ _) rfl ?_ | refine wpList_loadB rfl 117 _ rfl b117 _ _ _ rfl (by assumption) rfl ?_)) | ((with_reducible refine is_store 117 rfl ?_); (first | refine wpList_storeBw rfl 117 _ _ rfl b117 _ _ _ _ rfl rfl (by first | assumption | exact blk_new _ _) rfl (bx117 _ _ _ _ _ _) ?_ | refine wpList_storeBm rfl 117 _ _ rfl b117 _ _ _ rfl rfl (by assumption) (bx117 _ _ _ _ _ _) ?_)))
    generalize (w4.alloc (.cells #[.slice none 0 0, .int .i64 0, .int .i64 0, .bool false] 117)).setRow w4.heap.size #[.slice la X.zs[k].L.length lc, .int .i64 X.zs[k].safe, .int .i64 X.zs[k].st, .bool X.zs[k].fin] = w5 at *
    have g05 := F5.heap g04 id
    have g15 := F5.heap g14 id
    have hr5 := hr4.sharp.fr0 F5
    have hz5 := RdAt.fr0 (RdAt.sharp hsz) F5
    obtain ⟨bz, hbz⟩ : ∃ bz, w4.heap.size = bz := ⟨_, rfl⟩
    rw [hbz] at hsz4 gz5 hr5 hz5
    try rw [hbz]
    have HBZ := Lib.hid hbz
    clear g04 g14 hr4 hsz hrz c4 hbz
    go_wp2_with (first | ((with_reducible refine is_load 27 rfl ?_); refine wpList_loadBw rfl 27 _ rfl b27 _ _ _ rfl (by first | assumption | exact blk_new _ _) rfl ?_) | ((with_reducible refine is_store 27 rfl ?_); refine wpList_storeBw rfl 27 _ _ rfl b27 _ _ _ _ rfl rfl (by first | assumption | exact blk_new _ _) rfl (bx27 _ _ _ _ _ _ _) ?_) | ((with_reducible refine is_load 117 rfl ?_); (first | refine wpList_loadBw rfl 117 _ rfl b117 _ _ _ rfl (by first | assumption | exact blk_new _ _) rfl ?_ | refine wpList_loadB rfl 117 _ rfl b117 _ _ _ rfl (by assumption) rfl ?_)) | ((with_reducible refine is_store 117 rfl ?_); (first | refine wpList_storeBw rfl 117 _ _ rfl b117 _ _ _ _ rfl rfl (by first | assumption | exact blk_new _ _) rfl (bx117 _ _ _ _ _ _) ?_ | refine wpList_storeBm rfl 117 _ _ rfl b117 _ _ _ rfl rfl (by assumption) (bx117 _ _ _ _ _ _) ?_)))
    refine (hfd _).mono ?_
    rintro e w6 ⟨rfl, F6⟩
    have g06 := F6.heap g05 id
    have g16 := F6.heap g15 id
    have gz6 := F6.heap gz5 id
    have hr6 := hr5.fr0 F6
    have hz6 := RdAt.fr0 hz5 F6
    clear g05 g15 gz5 hr5 hz5
    have cz := fun i => blk_cell gz6 i
    have fz := fun i => blk_frozen gz6 i
    have gz7 := blk_put gz6 2 (.int .i64 2)
    have cz7 := fun i => blk_cell gz7 i
    have fz7 := fun i => blk_frozen gz7 i
    have gz8 := blk_put gz7 3 (.bool true)
    simp only [List.setIfInBounds_toArray, List.set_cons_succ, List.set_cons_zero] at gz8 gz7 cz7
    have F8 : Fr (fun j => j = bz) w6 _ := (Fr.set1 w6 bz 2 (.int .i64 2)).trans (Fr.set1 _ bz 3 (.bool true)) (fun _ _ h => h)
    have hbz2 : w.heap.size + 2 ≤ bz := by omega
    have hm5 := F5.size
    have hm6 := F6.size
    go_upto_region 9 with (first | ((with_reducible refine is_load 27 rfl ?_); refine wpList_loadBw rfl 27 _ rfl b27 _ _ _ rfl (by first | assumption | exact blk_new _ _) rfl ?_) | ((with_reducible refine is_store 27 rfl ?_); refine wpList_storeBw rfl 27 _ _ rfl b27 _ _ _ _ rfl rfl (by first | assumption | exact blk_new _ _) rfl (bx27 _ _ _ _ _ _ _) ?_) | ((with_reducible refine is_load 117 rfl ?_); (first | refine wpList_loadBw rfl 117 _ rfl b117 _ _ _ rfl (by first | assumption | exact blk_new _ _) rfl ?_ | refine wpList_loadB rfl 117 _ rfl b117 _ _ _ rfl (by assumption) rfl ?_)) | ((with_reducible refine is_store 117 rfl ?_); (first | refine wpList_storeBw rfl 117 _ _ rfl b117 _ _ _ _ rfl rfl (by first | assumption | exact blk_new _ _) rfl (bx117 _ _ _ _ _ _) ?_ | refine wpList_storeBm rfl 117 _ _ rfl b117 _ _ _ rfl rfl (by assumption) (bx117 _ _ _ _ _ _) ?_)))
    clear cz fz cz7 fz7 gz7
    generalize (w6.setCell ⟨bz, 2, none⟩ (.int .i64 2)).setCell ⟨bz, 3, none⟩ (.bool true) = w8 at *
    have g08 := F8.heap g06 (by omega)
    have g18 := F8.heap g16 (by omega)
    have hr8 := hr6.fr F8 (fun j hj e => by rcases hj with ⟨h | h, h2⟩ <;> omega)
    have hz8 := RdAt.fr hz6 F8 (fun j hj e => by rcases hj with ⟨h | h, h2⟩ <;> omega)
    have hp : Calls Try.prog 89 #[.agg #[.slice (some ⟨g3, o3, none⟩) X.zs.length cap3, .int .i64 X.size, .int .i64 X.op, .int .i64 ((X.n : Int) + 1), .bool X.down], .int .i64 k, .agg #[.slice la X.zs[k].L.length lc, .int .i64 X.zs[k].safe, .int .i64 2, .bool true]] w8 (Rf1 _ w8 (X.tick.set k X.zs[k].finish)) := rput (z := X.zs[k].finish) hr8.rf hk hok.l2 hz8
    clear hfd g06 g16 gz6 hr6 hz6
    go_wp2_with (first | ((with_reducible refine is_load 27 rfl ?_); refine wpList_loadBw rfl 27 _ rfl b27 _ _ _ rfl (by first | assumption | exact blk_new _ _) rfl ?_) | ((with_reducible refine is_store 27 rfl ?_); refine wpList_storeBw rfl 27 _ _ rfl b27 _ _ _ _ rfl rfl (by first | assumption | exact blk_new _ _) rfl (bx27 _ _ _ _ _ _ _) ?_) | ((with_reducible refine is_load 117 rfl ?_); (first | refine wpList_loadBw rfl 117 _ rfl b117 _ _ _ rfl (by first | assumption | exact blk_new _ _) rfl ?_ | refine wpList_loadB rfl 117 _ rfl b117 _ _ _ rfl (by assumption) rfl ?_)) | ((with_reducible refine is_store 117 rfl ?_); (first | refine wpList_storeBw rfl 117 _ _ rfl b117 _ _ _ _ rfl rfl (by first | assumption | exact blk_new _ _) rfl (bx117 _ _ _ _ _ _) ?_ | refine wpList_storeBm rfl 117 _ _ rfl b117 _ _ _ rfl rfl (by assumption) (bx117 _ _ _ _ _ _) ?_)))
    refine hp.mono ?_
    rintro e w9 ⟨v9, rfl, hq9⟩
    obtain ⟨g9, o9, cap9, rfl, hr9, F9⟩ := hq9.op (by simpa [DS.set, DS.tick] using hok.l1)
    have g19 := F9.heap g18 id
    have hm8 := F8.size
    have hb1 : w.heap.size + 1 < w8.heap.size := blk_lt g18
    go_wp2_with (first | ((with_reducible refine is_load 27 rfl ?_); refine wpList_loadBw rfl 27 _ rfl b27 _ _ _ rfl (by first | assumption | exact blk_new _ _) rfl ?_) | ((with_reducible refine is_store 27 rfl ?_); refine wpList_storeBw rfl 27 _ _ rfl b27 _ _ _ _ rfl rfl (by first | assumption | exact blk_new _ _) rfl (bx27 _ _ _ _ _ _ _) ?_) | ((with_reducible refine is_load 117 rfl ?_); (first | refine wpList_loadBw rfl 117 _ rfl b117 _ _ _ rfl (by first | assumption | exact blk_new _ _) rfl ?_ | refine wpList_loadB rfl 117 _ rfl b117 _ _ _ rfl (by assumption) rfl ?_)) | ((with_reducible refine is_store 117 rfl ?_); (first | refine wpList_storeBw rfl 117 _ _ rfl b117 _ _ _ _ rfl rfl (by first | assumption | exact blk_new _ _) rfl (bx117 _ _ _ _ _ _) ?_ | refine wpList_storeBm rfl 117 _ _ rfl b117 _ _ _ rfl rfl (by assumption) (bx117 _ _ _ _ _ _) ?_)))
    exact bodyPost_ret (res52 rfl rfl (setRow_blk _ g19) rfl) rfl ⟨_, rfl, (hr9.fr (setRow_fr _ _ _) (fun k hk e => by rcases hk with ⟨h | h, h2⟩ | h <;> omega)).q rfl rfl rfl rfl
      (((((F4.trans F5 (fun _ _ h => h)).trans F6 (fun _ _ h => h)).trans F8 (fun k hk e => by omega)).trans F9 (fun _ _ h => h)).trans (setRow_fr _ _ _) (fun k hk e => by omega)) (fun k hk => by rcases hk with ⟨h | h, h2⟩ | h; exact .inl h.1; exact .inr (by omega); exact .inr (by omega)) rfl⟩
end
end Go.Proofs.Ytkbagfpoegfcaaa

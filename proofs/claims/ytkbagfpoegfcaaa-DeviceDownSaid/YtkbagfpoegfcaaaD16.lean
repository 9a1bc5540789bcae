/- The document's device: Reset, Finish. Conditions: a device is small. -/
import Derived.Test.YtkbagfpoegfcaaaD15
namespace Go.Proofs.Ytkbagfpoegfcaaa
open Go.RowKit Go.Conc

section
variable {w w' : World} {D S : Nat → Prop} {v : Value} {X Y : DS} {e0 : Int}
theorem RfQ.op_tick (h : RfQ D w X.tick w' v) (h1 : 1 ≤ X.zs.length) : ∃ g o cap, v = .agg #[.slice (some ⟨g, o, none⟩) X.zs.length cap, .int .i64 X.size, .int .i64 X.op, .int .i64 ((X.n : Int) + 1), .bool X.down] ∧ RdO (fun k => D k ∨ w.heap.size ≤ k) w' g o cap X.tick ∧ Fr (fun _ => False) w w' := h.op h1
theorem RfS.zero (D : Nat → Prop) (w : World) : RdS D w (.slice none 0 0, ZS.zero) := RdAt.nil D w
/-- One store into block t. -/
def Sres (W : World) (t i : Nat) (S : Array Value) (T : TypeId) (d : Nat → Bool) (V : World) : Prop := Fr (fun k => k = t) W V ∧ (if d i = true then V.heap[t]? = some (.cells S T (0, 0)) else V.heap[t]? = W.heap[t]?)
theorem Sres.start (W : World) (t i : Nat) (S : Array Value) (T : TypeId) : Sres W t i S T (fun _ => false) W.drew := ⟨(Fr.refl _ _).drew, by rw [if_neg (by simp)]; rfl⟩
section
variable {W V V' : World} {t i m : Nat} {A : Array Value} {T : TypeId} {d : Nat → Bool}
theorem Sres.keep (h : Sres W t i A T d V) (hm : m ≠ i) : Sres W t i A T (more d m) V := ⟨h.1, by rw [more_other _ (Ne.symm hm)]; exact h.2⟩
theorem Sres.call (h : Sres W t i A T d V) (hm : m ≠ i) (hf : Fr (fun _ => False) V V') (ht : t < W.heap.size) : Sres W t i A T (more d m) V' := by
  refine ⟨h.1.trans hf (fun _ _ h => h.elim), ?_⟩
  rw [more_other _ (Ne.symm hm), hf.block t (by have := h.1.size; omega) id]
  exact h.2
theorem Sres.put {old : Array Value} (h : Sres W t i A T d V) (hd : d i = false) (ho : W.heap[t]? = some (.cells old T (0, 0))) : V.heap[t]? = some (.cells old T (0, 0)) ∧ Sres W t i A T (more d i) (V.setRow t A) := by
  have h2 := h.2
  rw [hd, if_neg (by decide)] at h2
  have h3 := h2.trans ho
  exact ⟨h3, h.1.trans (setRow_fr _ _ _) (fun _ _ h => h), by rw [more_same, if_pos rfl]; exact setRow_blk _ h3⟩
theorem Sres.fin (h : Sres W t i A T d V) (hd : d i = true) : V.heap[t]? = some (.cells A T (0, 0)) := by have := h.2; rwa [hd, if_pos rfl] at this
end
set_option linter.unusedSimpArgs false
set_option maxRecDepth 100000 in
set_option maxHeartbeats 2000000 in
theorem rreset (h : RfS D w v X) (hok : X.Ok) (hn : X.n < 1000000) {x : Int} (hr : RstR X x (fun _ => .zero) Y e0) : Calls Try.prog 50 #[v, .int .i64 x] w (Rf2 D w Y (.int .i64 e0)) := by
  cases hr with
  | down hdn => exact rreset_early h hok (fun D w v h => rbeg_down h hdn x) (by decide)
  | out hdn hx => exact rreset_early h hok (fun D w v h => rbeg_out h hdn hx) (by decide)
  | failed k hk hdn e1 hf =>
    subst e1
    have HDN := Lib.hid hdn
    clear hdn
    obtain ⟨g, o, cap, rfl, hr⟩ := h.sharp.op hok.l1
    have h2w := two w (.cells #[.slice (some ⟨g, o, none⟩) X.zs.length cap, .int .i64 X.size, .int .i64 X.op, .int .i64 X.n, .bool X.down] 27) (.cells #[.slice none 0 0, .int .i64 0, .int .i64 0, .int .i64 0, .bool false] 27)
    go_enter Try.func50, Try.ntmps50
    go_upto_region 1 with fail
    generalize (w.alloc (.cells #[.slice (some ⟨g, o, none⟩) X.zs.length cap, .int .i64 X.size, .int .i64 X.op, .int .i64 X.n, .bool X.down] 27)).alloc (.cells #[.slice none 0 0, .int .i64 0, .int .i64 0, .int .i64 0, .bool false] 27) = w2 at *
    obtain ⟨F2, g0, g1, hsz⟩ := h2w
    have hr2 := hr.fr0 F2
    have HSZ := Lib.hid hsz
    clear hsz hr
    have hc := rbeg_ok hr2.rf HDN.out hn hk
    go_wp2_with (first | ((with_reducible refine is_load 27 rfl ?_); refine wpList_loadBw rfl 27 _ rfl b27 _ _ _ rfl (by first | assumption | exact blk_new _ _) rfl ?_) | ((with_reducible refine is_store 27 rfl ?_); refine wpList_storeBw rfl 27 _ _ rfl b27 _ _ _ _ rfl rfl (by first | assumption | exact blk_new _ _) rfl (bx27 _ _ _ _ _ _ _) ?_) | ((with_reducible refine is_load 117 rfl ?_); (first | refine wpList_loadBw rfl 117 _ rfl b117 _ _ _ rfl (by first | assumption | exact blk_new _ _) rfl ?_ | refine wpList_loadB rfl 117 _ rfl b117 _ _ _ rfl (by assumption) rfl ?_)) | ((with_reducible refine is_store 117 rfl ?_); (first | refine wpList_storeBw rfl 117 _ _ rfl b117 _ _ _ _ rfl rfl (by first | assumption | exact blk_new _ _) rfl (bx117 _ _ _ _ _ _) ?_ | refine wpList_storeBm rfl 117 _ _ rfl b117 _ _ _ rfl rfl (by assumption) (bx117 _ _ _ _ _ _) ?_)))
    refine hc.mono ?_
    rintro e w3 ⟨v3, rfl, hq⟩
    obtain ⟨g3, o3, cap3, rfl, hr3, F3⟩ := hq.op_tick hok.l1
    have g03 := F3.heap g0 id
    have g13 := F3.heap g1 id
    have hszl : w.heap.size + 2 ≤ w2.heap.size := by have := HSZ.out; omega
    have g04 := setRow_blk #[.slice (some ⟨g3, o3, none⟩) X.zs.length cap3, .int .i64 X.size, .int .i64 X.op, .int .i64 ((X.n : Int) + 1), .bool X.down] g03
    have f4 := setRow_fr w3 w.heap.size #[.slice (some ⟨g3, o3, none⟩) X.zs.length cap3, .int .i64 X.size, .int .i64 X.op, .int .i64 ((X.n : Int) + 1), .bool X.down]
    have g14 := f4.heap g13 (by omega)
    have hr4 := hr3.fr f4 (fun k hk e => by rcases hk with h | h <;> omega)
    have F4 := ((F2.trans F3 (fun _ _ h => h)).mono (fun _ _ h => h.elim)).trans f4 (fun _ _ h => h) |>.mono (fun k hk e => (by omega : False))
    have c4 := fun i => blk_cell g04 i
    have hsz4 : w.heap.size + 2 ≤ (w3.setRow w.heap.size #[.slice (some ⟨g3, o3, none⟩) X.zs.length cap3, .int .i64 X.size, .int .i64 X.op, .int .i64 ((X.n : Int) + 1), .bool X.down]).heap.size := by have h1 := F3.size; have h2 := f4.size; omega
    have h1 : (k : Int) < (X.zs.length : Int) := by omega
    have h2 : (0 : Int) ≤ (k : Int) := by omega
    obtain ⟨la, lc, hrz, hsz, hDg⟩ := (hr4.same (Y := X) rfl).at hk
    clear hc g0 g1 hr3 hr2
    have hfd := fun W => rfailed (w := W) (z := X.zs[k]) (l := .slice la X.zs[k].L.length lc) ⟨_, _, _, rfl⟩
    go_wp2_with (first | ((with_reducible refine is_load 27 rfl ?_); refine wpList_loadBw rfl 27 _ rfl b27 _ _ _ rfl (by first | assumption | exact blk_new _ _) rfl ?_) | ((with_reducible refine is_store 27 rfl ?_); refine wpList_storeBw rfl 27 _ _ rfl b27 _ _ _ _ rfl rfl (by first | assumption | exact blk_new _ _) rfl (bx27 _ _ _ _ _ _ _) ?_) | ((with_reducible refine is_load 117 rfl ?_); (first | refine wpList_loadBw rfl 117 _ rfl b117 _ _ _ rfl (by first | assumption | exact blk_new _ _) rfl ?_ | refine wpList_loadB rfl 117 _ rfl b117 _ _ _ rfl (by assumption) rfl ?_)) | ((with_reducible refine is_store 117 rfl ?_); (first | refine wpList_storeBw rfl 117 _ _ rfl b117 _ _ _ _ rfl rfl (by first | assumption | exact blk_new _ _) rfl (bx117 _ _ _ _ _ _) ?_ | refine wpList_storeBm rfl 117 _ _ rfl b117 _ _ _ rfl rfl (by assumption) (bx117 _ _ _ _ _ _) ?_)))
    refine (hfd _).mono ?_
    rintro e w5 ⟨rfl, F5⟩
    have g05 := F5.heap g04 id
    have g15 := F5.heap g14 id
    have hr5 := hr4.fr0 F5
    have hrz5 := rangeAt_fr hrz F5 id
    have c5 := fun i => blk_cell g05 i
    have b5 : (failedOf X.zs[k].st != 0) = true := by simpa using hf
    have hB1 : w.heap.size + 1 < w5.heap.size := blk_lt g15
    have hne : g3 ≠ w.heap.size + 1 := by rcases hDg with h | h <;> omega
    go_wp2_with (first | ((with_reducible refine is_load 27 rfl ?_); refine wpList_loadBw rfl 27 _ rfl b27 _ _ _ rfl (by first | assumption | exact blk_new _ _) rfl ?_) | ((with_reducible refine is_store 27 rfl ?_); refine wpList_storeBw rfl 27 _ _ rfl b27 _ _ _ _ rfl rfl (by first | assumption | exact blk_new _ _) rfl (bx27 _ _ _ _ _ _ _) ?_) | ((with_reducible refine is_load 117 rfl ?_); (first | refine wpList_loadBw rfl 117 _ rfl b117 _ _ _ rfl (by first | assumption | exact blk_new _ _) rfl ?_ | refine wpList_loadB rfl 117 _ rfl b117 _ _ _ rfl (by assumption) rfl ?_)) | ((with_reducible refine is_store 117 rfl ?_); (first | refine wpList_storeBw rfl 117 _ _ rfl b117 _ _ _ _ rfl rfl (by first | assumption | exact blk_new _ _) rfl (bx117 _ _ _ _ _ _) ?_ | refine wpList_storeBm rfl 117 _ _ rfl b117 _ _ _ rfl rfl (by assumption) (bx117 _ _ _ _ _ _) ?_)))
    refine (wpIn_wide (n := 0)).1 ?_
    refine regionIn_seqC (Sres w5 (w.heap.size + 1) 7 #[.slice (some ⟨g3, o3, none⟩) X.zs.length cap3, .int .i64 X.size, .int .i64 X.op, .int .i64 ((X.n : Int) + 1), .bool X.down] 27) rfl (by kernel_rfl) (by kernel_rfl) (by kernel_rfl) (fun _ => trivial) rfl (Sres.start _ _ _ _ _) ?_
    iterate 5
      apply SeqC.step
      · rfl
      · intro dn V hV ht hcl
        have cV := fun i => blk_cell (hV.1.heap g05 (by omega)) i
        simp [Oper.gives, execOp, Act.eval, go_sem, cV, h1, h2, hk]
        exact ⟨rfl, hV.keep (by decide)⟩
      simp only [Act.put, List.setIfInBounds_toArray, List.set_cons_succ, List.set_cons_zero]
    apply SeqC.step
    · rfl
    · intro dn V hV ht hcl
      (exact gives_loadB rfl b117 rfl (rangeAt_fr hrz5 hV.1 hne) rfl ⟨rfl, hV.keep (by decide)⟩)
    simp only [Act.put, List.setIfInBounds_toArray, List.set_cons_succ, List.set_cons_zero]
    apply SeqC.step
    · rfl
    · intro dn V hV ht hcl
      skip
      simp [Oper.gives, execOp, Act.eval, go_sem]
      refine callsIn_wide.2 ((hfd V).mono ?_); rintro e W9 ⟨rfl, hb⟩; exact ⟨_, rfl, rfl, hV.call (by decide) hb hB1⟩
    simp only [Act.put, List.setIfInBounds_toArray, List.set_cons_succ, List.set_cons_zero]
    apply SeqC.step
    · rfl
    · intro dn V hV ht hcl
      obtain ⟨p1, p2⟩ := hV.put ht.not g15
      exact gives_storeBw rfl b27 rfl rfl p1 rfl (bx27 _ _ _ _ _ _ _) ⟨rfl, p2⟩
    simp only [Act.put, List.setIfInBounds_toArray, List.set_cons_succ, List.set_cons_zero]
    apply SeqC.step
    · rfl
    · intro dn V hV ht hcl
      skip
      simp [Oper.gives, execOp, Act.eval, go_sem, ]
      exact ⟨rfl, hV.keep (by decide)⟩
    simp only [Act.put, List.setIfInBounds_toArray, List.set_cons_succ, List.set_cons_zero]
    refine SeqC.nil fun w6 hV => ?_
    have hV1 := hV.1
    have hg6 := hV.fin rfl
    clear hV
    go_wp2_with fail
    exact bodyPost_ret (res50 rfl rfl hg6 rfl) rfl ⟨_, rfl, (hr5.fr hV1 (fun k hk e => by rcases hk with h | h <;> omega)).q rfl rfl rfl rfl ((F4.trans F5 (fun _ _ h => h)).trans hV1 (fun k hk e => by omega)) (fun k hk => by rcases hk with h | h; exact .inl h.1; exact .inr (by omega)) rfl⟩
  | ok k hk hdn e1 hf =>
    subst e1
    have HDN := Lib.hid hdn
    clear hdn
    obtain ⟨g, o, cap, rfl, hr⟩ := h.sharp.op hok.l1
    have h2w := two w (.cells #[.slice (some ⟨g, o, none⟩) X.zs.length cap, .int .i64 X.size, .int .i64 X.op, .int .i64 X.n, .bool X.down] 27) (.cells #[.slice none 0 0, .int .i64 0, .int .i64 0, .int .i64 0, .bool false] 27)
    go_enter Try.func50, Try.ntmps50
    go_upto_region 1 with fail
    generalize (w.alloc (.cells #[.slice (some ⟨g, o, none⟩) X.zs.length cap, .int .i64 X.size, .int .i64 X.op, .int .i64 X.n, .bool X.down] 27)).alloc (.cells #[.slice none 0 0, .int .i64 0, .int .i64 0, .int .i64 0, .bool false] 27) = w2 at *
    obtain ⟨F2, g0, g1, hsz⟩ := h2w
    have hr2 := hr.fr0 F2
    have HSZ := Lib.hid hsz
    clear hsz hr
    have hc := rbeg_ok hr2.rf HDN.out hn hk
    go_wp2_with (first | ((with_reducible refine is_load 27 rfl ?_); refine wpList_loadBw rfl 27 _ rfl b27 _ _ _ rfl (by first | assumption | exact blk_new _ _) rfl ?_) | ((with_reducible refine is_store 27 rfl ?_); refine wpList_storeBw rfl 27 _ _ rfl b27 _ _ _ _ rfl rfl (by first | assumption | exact blk_new _ _) rfl (bx27 _ _ _ _ _ _ _) ?_) | ((with_reducible refine is_load 117 rfl ?_); (first | refine wpList_loadBw rfl 117 _ rfl b117 _ _ _ rfl (by first | assumption | exact blk_new _ _) rfl ?_ | refine wpList_loadB rfl 117 _ rfl b117 _ _ _ rfl (by assumption) rfl ?_)) | ((with_reducible refine is_store 117 rfl ?_); (first | refine wpList_storeBw rfl 117 _ _ rfl b117 _ _ _ _ rfl rfl (by first | assumption | exact blk_new _ _) rfl (bx117 _ _ _ _ _ _) ?_ | refine wpList_storeBm rfl 117 _ _ rfl b117 _ _ _ rfl rfl (by assumption) (bx117 _ _ _ _ _ _) ?_)))
    refine hc.mono ?_
    rintro e w3 ⟨v3, rfl, hq⟩
    obtain ⟨g3, o3, cap3, rfl, hr3, F3⟩ := hq.op_tick hok.l1
    have g03 := F3.heap g0 id
    have g13 := F3.heap g1 id
    have hszl : w.heap.size + 2 ≤ w2.heap.size := by have := HSZ.out; omega
    have g04 := setRow_blk #[.slice (some ⟨g3, o3, none⟩) X.zs.length cap3, .int .i64 X.size, .int .i64 X.op, .int .i64 ((X.n : Int) + 1), .bool X.down] g03
    have f4 := setRow_fr w3 w.heap.size #[.slice (some ⟨g3, o3, none⟩) X.zs.length cap3, .int .i64 X.size, .int .i64 X.op, .int .i64 ((X.n : Int) + 1), .bool X.down]
    have g14 := f4.heap g13 (by omega)
    have hr4 := hr3.fr f4 (fun k hk e => by rcases hk with h | h <;> omega)
    have F4 := ((F2.trans F3 (fun _ _ h => h)).mono (fun _ _ h => h.elim)).trans f4 (fun _ _ h => h) |>.mono (fun k hk e => (by omega : False))
    have c4 := fun i => blk_cell g04 i
    have hsz4 : w.heap.size + 2 ≤ (w3.setRow w.heap.size #[.slice (some ⟨g3, o3, none⟩) X.zs.length cap3, .int .i64 X.size, .int .i64 X.op, .int .i64 ((X.n : Int) + 1), .bool X.down]).heap.size := by have h1 := F3.size; have h2 := f4.size; omega
    have h1 : (k : Int) < (X.zs.length : Int) := by omega
    have h2 : (0 : Int) ≤ (k : Int) := by omega
    obtain ⟨la, lc, hrz, hsz, hDg⟩ := (hr4.same (Y := X) rfl).at hk
    clear hc g0 g1 hr3 hr2
    have hfd := fun W => rfailed (w := W) (z := X.zs[k]) (l := .slice la X.zs[k].L.length lc) ⟨_, _, _, rfl⟩
    go_wp2_with (first | ((with_reducible refine is_load 27 rfl ?_); refine wpList_loadBw rfl 27 _ rfl b27 _ _ _ rfl (by first | assumption | exact blk_new _ _) rfl ?_) | ((with_reducible refine is_store 27 rfl ?_); refine wpList_storeBw rfl 27 _ _ rfl b27 _ _ _ _ rfl rfl (by first | assumption | exact blk_new _ _) rfl (bx27 _ _ _ _ _ _ _) ?_) | ((with_reducible refine is_load 117 rfl ?_); (first | refine wpList_loadBw rfl 117 _ rfl b117 _ _ _ rfl (by first | assumption | exact blk_new _ _) rfl ?_ | refine wpList_loadB rfl 117 _ rfl b117 _ _ _ rfl (by assumption) rfl ?_)) | ((with_reducible refine is_store 117 rfl ?_); (first | refine wpList_storeBw rfl 117 _ _ rfl b117 _ _ _ _ rfl rfl (by first | assumption | exact blk_new _ _) rfl (bx117 _ _ _ _ _ _) ?_ | refine wpList_storeBm rfl 117 _ _ rfl b117 _ _ _ rfl rfl (by assumption) (bx117 _ _ _ _ _ _) ?_)))
    refine (hfd _).mono ?_
    rintro e w5 ⟨rfl, F5⟩
    have g05 := F5.heap g04 id
    have g15 := F5.heap g14 id
    have hr5 := hr4.fr0 F5
    have b5 : (failedOf X.zs[k].st != 0) = false := by simpa using hf
    have hp := rput (k := k) hr5.rf hk hok.l2 (RfS.zero _ w5)
    go_wp2_with (first | ((with_reducible refine is_load 27 rfl ?_); refine wpList_loadBw rfl 27 _ rfl b27 _ _ _ rfl (by first | assumption | exact blk_new _ _) rfl ?_) | ((with_reducible refine is_store 27 rfl ?_); refine wpList_storeBw rfl 27 _ _ rfl b27 _ _ _ _ rfl rfl (by first | assumption | exact blk_new _ _) rfl (bx27 _ _ _ _ _ _ _) ?_) | ((with_reducible refine is_load 117 rfl ?_); (first | refine wpList_loadBw rfl 117 _ rfl b117 _ _ _ rfl (by first | assumption | exact blk_new _ _) rfl ?_ | refine wpList_loadB rfl 117 _ rfl b117 _ _ _ rfl (by assumption) rfl ?_)) | ((with_reducible refine is_store 117 rfl ?_); (first | refine wpList_storeBw rfl 117 _ _ rfl b117 _ _ _ _ rfl rfl (by first | assumption | exact blk_new _ _) rfl (bx117 _ _ _ _ _ _) ?_ | refine wpList_storeBm rfl 117 _ _ rfl b117 _ _ _ rfl rfl (by assumption) (bx117 _ _ _ _ _ _) ?_)))
    refine hp.mono ?_
    rintro e w6 ⟨v6, rfl, hq6⟩
    obtain ⟨g6, o6, cap6, rfl, hr6, F6⟩ := hq6.op (by simpa [DS.set, DS.tick] using hok.l1)
    have g16 := F6.heap g15 id
    go_wp2_with (first | ((with_reducible refine is_load 27 rfl ?_); refine wpList_loadBw rfl 27 _ rfl b27 _ _ _ rfl (by first | assumption | exact blk_new _ _) rfl ?_) | ((with_reducible refine is_store 27 rfl ?_); refine wpList_storeBw rfl 27 _ _ rfl b27 _ _ _ _ rfl rfl (by first | assumption | exact blk_new _ _) rfl (bx27 _ _ _ _ _ _ _) ?_) | ((with_reducible refine is_load 117 rfl ?_); (first | refine wpList_loadBw rfl 117 _ rfl b117 _ _ _ rfl (by first | assumption | exact blk_new _ _) rfl ?_ | refine wpList_loadB rfl 117 _ rfl b117 _ _ _ rfl (by assumption) rfl ?_)) | ((with_reducible refine is_store 117 rfl ?_); (first | refine wpList_storeBw rfl 117 _ _ rfl b117 _ _ _ _ rfl rfl (by first | assumption | exact blk_new _ _) rfl (bx117 _ _ _ _ _ _) ?_ | refine wpList_storeBm rfl 117 _ _ rfl b117 _ _ _ rfl rfl (by assumption) (bx117 _ _ _ _ _ _) ?_)))
    exact bodyPost_ret (res50 rfl rfl (setRow_blk _ g16) rfl) rfl ⟨_, rfl, (hr6.fr (setRow_fr _ _ _) (fun k hk e => by have := F5.size; rcases hk with (h | h) | h <;> omega)).q rfl rfl rfl rfl (((F4.trans F5 (fun _ _ h => h)).trans F6 (fun _ _ h => h)).trans (setRow_fr _ _ _) (fun k hk e => by omega)) (fun k hk => by have := F5.size; rcases hk with (h | h) | h; exact .inl h.1; exact .inr (by omega); exact .inr (by omega)) rfl⟩
end
end Go.Proofs.Ytkbagfpoegfcaaa

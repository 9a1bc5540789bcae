/- The document's device: Read. Conditions: a device is small. -/
import Derived.Test.YtkbagfpoegfcaaaD18
namespace Go.Proofs.Ytkbagfpoegfcaaa
open Go.RowKit Go.Conc

/-- Two stores, into blocks t and u. -/
def Sres2 (W : World) (t i : Nat) (S : Array Value) (T : TypeId) (u j : Nat) (S' : Array Value) (T' : TypeId) (d : Nat → Bool) (V : World) : Prop := Fr (fun k => k = t ∨ k = u) W V ∧ (if d i = true then V.heap[t]? = some (.cells S T (0, 0)) else V.heap[t]? = W.heap[t]?) ∧ (if d j = true then V.heap[u]? = some (.cells S' T' (0, 0)) else V.heap[u]? = W.heap[u]?)
theorem Sres2.start (W : World) (t i : Nat) (S : Array Value) (T : TypeId) (u j : Nat) (S' : Array Value) (T' : TypeId) : Sres2 W t i S T u j S' T' (fun _ => false) W.drew := ⟨(Fr.refl _ _).drew, by rw [if_neg (by simp)]; rfl, by rw [if_neg (by simp)]; rfl⟩
section
variable {W V V' : World} {t i u j m : Nat} {A B : Array Value} {T U : TypeId} {d : Nat → Bool}
theorem Sres2.keep (h : Sres2 W t i A T u j B U d V) (hm : m ≠ i) (hn : m ≠ j) : Sres2 W t i A T u j B U (more d m) V := ⟨h.1, by rw [more_other _ (Ne.symm hm)]; exact h.2.1, by rw [more_other _ (Ne.symm hn)]; exact h.2.2⟩
theorem Sres2.call (h : Sres2 W t i A T u j B U d V) (hm : m ≠ i) (hn : m ≠ j) (hf : Fr (fun _ => False) V V') (ht : t < W.heap.size) (hu : u < W.heap.size) : Sres2 W t i A T u j B U (more d m) V' := by
  have hs := h.1.size
  refine ⟨h.1.trans hf (fun _ _ h => h.elim), ?_, ?_⟩
  · rw [more_other _ (Ne.symm hm), hf.block t (by omega) id]; exact h.2.1
  · rw [more_other _ (Ne.symm hn), hf.block u (by omega) id]; exact h.2.2
theorem Sres2.put1 {old : Array Value} (h : Sres2 W t i A T u j B U d V) (hd : d i = false) (hij : i ≠ j) (htu : t ≠ u) (ho : W.heap[t]? = some (.cells old T (0, 0))) : V.heap[t]? = some (.cells old T (0, 0)) ∧ Sres2 W t i A T u j B U (more d i) (V.setRow t A) := by
  have h2 := h.2.1
  rw [hd, if_neg (by decide)] at h2
  have h3 := h2.trans ho
  have hf := setRow_fr V t A
  refine ⟨h3, h.1.trans hf (fun _ _ h => .inl h), by rw [more_same, if_pos rfl]; exact setRow_blk _ h3, ?_⟩
  rw [more_other _ (Ne.symm hij)]
  have e : (V.setRow t A).heap[u]? = V.heap[u]? := by simp [World.setRow, Array.getElem?_modify, htu]
  rw [e]
  exact h.2.2
theorem Sres2.put2 {old : Array Value} (h : Sres2 W t i A T u j B U d V) (hd : d j = false) (hij : i ≠ j) (htu : t ≠ u) (ho : W.heap[u]? = some (.cells old U (0, 0))) : V.heap[u]? = some (.cells old U (0, 0)) ∧ Sres2 W t i A T u j B U (more d j) (V.setRow u B) := by
  have h2 := h.2.2
  rw [hd, if_neg (by decide)] at h2
  have h3 := h2.trans ho
  have hf := setRow_fr V u B
  refine ⟨h3, h.1.trans hf (fun _ _ h => .inr h), ?_, by rw [more_same, if_pos rfl]; exact setRow_blk _ h3⟩
  rw [more_other _ hij]
  have e : (V.setRow u B).heap[t]? = V.heap[t]? := by simp [World.setRow, Array.getElem?_modify, Ne.symm htu]
  rw [e]
  exact h.2.1
theorem Sres2.fin (h : Sres2 W t i A T u j B U d V) (hd : d i = true) (he : d j = true) : V.heap[t]? = some (.cells A T (0, 0)) ∧ V.heap[u]? = some (.cells B U (0, 0)) := by
  have h1 := h.2.1; have h2 := h.2.2
  rw [hd, if_pos rfl] at h1
  rw [he, if_pos rfl] at h2
  exact ⟨h1, h2⟩
end
section
variable {w w' : World} {D S : Nat → Prop} {v : Value} {X Y : DS} {e0 : Int}
theorem RdAt.sec {L : List Sec} {la : Option Addr} {lc : Nat} (h : RdAt D w (.slice la L.length lc) L.length (secs L)) {j : Nat} (hj : j < L.length) : ∃ g o, la = some ⟨g, o, none⟩ ∧ D g ∧ w.rangeAt g (o + j * 64) (secA L[j]).toList := by
  obtain ⟨a, cap, e, h1, h2, h3⟩ := h
  simp only [Value.slice.injEq, true_and] at e
  obtain ⟨rfl, rfl⟩ := e
  obtain ⟨g, o, e1, hD, hr⟩ := h3 (by intro e; have := secs_len L; rw [e] at this; simp at this; omega)
  refine ⟨g, o, e1, hD, ?_⟩
  exact range_part hr (j * 64) 64 (secA L[j]).toList (fun i hi => (flat_get secL_len L j hj i hi).symm) (secL_len _)
theorem res49 {tmps : Array Value} {W : World} {g g' : Nat} {u : Value} {S : Array Value} {s : Sec} (h1 : tmps.getD 6 undef = .pointer (some ⟨g, 0, none⟩)) (h5 : tmps.getD 7 undef = .pointer (some ⟨g', 0, none⟩)) (h3 : tmps.getD 8 undef = u) (h2 : W.heap[g]? = some (.cells S 27 (0, 0))) (h4 : S.size = 5) (h6 : W.heap[g']? = some (.cells (secA s) 34 (0, 0))) :
    (results Try.f49 tmps).run Try.prog W = .ok (.tuple #[.agg S, .agg (secA s), u]) W := by
  rw [← h3]
  unfold results
  have hr : Try.f49.results = #[.cell 6 27, .cell 7 34, .tmp 8] := rfl
  rw [hr]
  rw [Array.getD_eq_getD_getElem?] at h1 h5
  simp [asAddr, h1, h5, run_loadBw b27 h2 h4, run_loadBw b34 h6 (secA_size _)]
set_option linter.unusedSimpArgs false
set_option maxRecDepth 100000 in
theorem rread_early (h : RfS D w v X) (hok : X.Ok) {x off e1 : Int} (hb : ∀ D w v, RfS D w v X → Calls Try.prog 86 #[v, .int .i64 x] w (Rf2 D w X (.int .i64 e1))) (he : (e1 != 0) = true) : Calls Try.prog 49 #[v, .int .i64 x, .int .i64 off] w (Rf3 D w X (.agg (secA Sec.zero)) (.int .i64 e1)) := by
  obtain ⟨g, o, cap, rfl, hr⟩ := h.sharp.op hok.l1
  have h3w := three w (.cells #[.slice (some ⟨g, o, none⟩) X.zs.length cap, .int .i64 X.size, .int .i64 X.op, .int .i64 X.n, .bool X.down] 27) (.cells #[.slice none 0 0, .int .i64 0, .int .i64 0, .int .i64 0, .bool false] 27) (.cells (secA Sec.zero) 34)
  go_enter Try.func49, Try.ntmps49
  go_upto_region 1 with (first | ((with_reducible refine is_alloc 35 rfl ?_); refine wpList_allocB rfl 35 rfl b35 ?_) | ((with_reducible refine is_alloc 34 rfl ?_); refine wpList_allocB rfl 34 rfl b34 ?_) | ((with_reducible refine is_load 35 rfl ?_); (first | refine wpList_loadBw rfl 35 _ rfl b35 _ _ _ rfl (by assumption) (secA_size _) ?_ | refine wpList_loadB rfl 35 _ rfl b35 _ _ _ rfl (by assumption) (secA_size _) ?_)) | ((with_reducible refine is_load 34 rfl ?_); (first | refine wpList_loadBw rfl 34 _ rfl b34 _ _ _ rfl (by assumption) (secA_size _) ?_ | refine wpList_loadB rfl 34 _ rfl b34 _ _ _ rfl (by assumption) (secA_size _) ?_)) | ((with_reducible refine is_store 35 rfl ?_); refine wpList_storeBw rfl 35 _ _ rfl b35 _ _ _ _ rfl rfl (by assumption) (secA_size _) (secA_bx _) ?_) | ((with_reducible refine is_store 34 rfl ?_); refine wpList_storeBw rfl 34 _ _ rfl b34 _ _ _ _ rfl rfl (by assumption) (secA_size _) (secA_bx _) ?_) | ((with_reducible refine is_build 34 rfl ?_); refine wpList_buildZ34 rfl rfl ?_) | ((with_reducible refine is_build 35 rfl ?_); refine wpList_buildZ35 rfl rfl ?_))
  generalize ((w.alloc (.cells #[.slice (some ⟨g, o, none⟩) X.zs.length cap, .int .i64 X.size, .int .i64 X.op, .int .i64 X.n, .bool X.down] 27)).alloc (.cells #[.slice none 0 0, .int .i64 0, .int .i64 0, .int .i64 0, .bool false] 27)).alloc (.cells (secA Sec.zero) 34) = w2 at *
  obtain ⟨F2, g0, g1, g2, hsz⟩ := h3w
  have hr2 := hr.fr0 F2
  have HSZ := Lib.hid hsz
  clear hsz hr
  have hc := hb _ w2 _ hr2.rf
  go_wp2_with (first | ((with_reducible refine is_load 27 rfl ?_); refine wpList_loadBw rfl 27 _ rfl b27 _ _ _ rfl (by first | assumption | exact blk_new _ _) rfl ?_) | ((with_reducible refine is_store 27 rfl ?_); refine wpList_storeBw rfl 27 _ _ rfl b27 _ _ _ _ rfl rfl (by first | assumption | exact blk_new _ _) rfl (bx27 _ _ _ _ _ _ _) ?_) | ((with_reducible refine is_load 117 rfl ?_); (first | refine wpList_loadBw rfl 117 _ rfl b117 _ _ _ rfl (by first | assumption | exact blk_new _ _) rfl ?_ | refine wpList_loadB rfl 117 _ rfl b117 _ _ _ rfl (by assumption) rfl ?_)) | ((with_reducible refine is_store 117 rfl ?_); (first | refine wpList_storeBw rfl 117 _ _ rfl b117 _ _ _ _ rfl rfl (by first | assumption | exact blk_new _ _) rfl (bx117 _ _ _ _ _ _) ?_ | refine wpList_storeBm rfl 117 _ _ rfl b117 _ _ _ rfl rfl (by assumption) (bx117 _ _ _ _ _ _) ?_)))
  refine hc.mono ?_
  rintro e w3 ⟨v3, rfl, hq⟩
  obtain ⟨g3, o3, cap3, rfl, hr3, F3⟩ := hq.op hok.l1
  have g03 := F3.heap g0 id
  have g13 := F3.heap g1 id
  have hszl : w.heap.size + 2 ≤ w2.heap.size := by have := HSZ.out; omega
  have g04 := setRow_blk #[.slice (some ⟨g3, o3, none⟩) (X).zs.length cap3, .int .i64 (X).size, .int .i64 (X).op, .int .i64 (X).n, .bool (X).down] g03
  have f4 := setRow_fr w3 w.heap.size #[.slice (some ⟨g3, o3, none⟩) (X).zs.length cap3, .int .i64 (X).size, .int .i64 (X).op, .int .i64 (X).n, .bool (X).down]
  have g14 := f4.heap g13 (by omega)
  have hr4 := hr3.fr f4 (fun k hk e => by rcases hk with h | h <;> omega)
  have F4 := ((F2.trans F3 (fun _ _ h => h)).mono (fun _ _ h => h.elim)).trans f4 (fun _ _ h => h) |>.mono (fun k hk e => (by omega : False))
  clear hc g0 g1 hr3 hr2
  have g24 := f4.heap (F3.heap g2 id) (by omega)
  go_upto_region 2 with (first | ((with_reducible refine is_load 27 rfl ?_); refine wpList_loadBw rfl 27 _ rfl b27 _ _ _ rfl (by first | assumption | exact blk_new _ _) rfl ?_) | ((with_reducible refine is_store 27 rfl ?_); refine wpList_storeBw rfl 27 _ _ rfl b27 _ _ _ _ rfl rfl (by first | assumption | exact blk_new _ _) rfl (bx27 _ _ _ _ _ _ _) ?_) | ((with_reducible refine is_load 117 rfl ?_); (first | refine wpList_loadBw rfl 117 _ rfl b117 _ _ _ rfl (by first | assumption | exact blk_new _ _) rfl ?_ | refine wpList_loadB rfl 117 _ rfl b117 _ _ _ rfl (by assumption) rfl ?_)) | ((with_reducible refine is_store 117 rfl ?_); (first | refine wpList_storeBw rfl 117 _ _ rfl b117 _ _ _ _ rfl rfl (by first | assumption | exact blk_new _ _) rfl (bx117 _ _ _ _ _ _) ?_ | refine wpList_storeBm rfl 117 _ _ rfl b117 _ _ _ rfl rfl (by assumption) (bx117 _ _ _ _ _ _) ?_)))
  generalize w3.setRow w.heap.size #[.slice (some ⟨g3, o3, none⟩) X.zs.length cap3, .int .i64 X.size, .int .i64 X.op, .int .i64 X.n, .bool X.down] = w4 at *
  have f5 := setRow_fr w4 (w.heap.size + 1) #[.slice (some ⟨g3, o3, none⟩) X.zs.length cap3, .int .i64 X.size, .int .i64 X.op, .int .i64 X.n, .bool X.down]
  have g25 := f5.heap g24 (by omega)
  have g15 := setRow_blk #[.slice (some ⟨g3, o3, none⟩) X.zs.length cap3, .int .i64 X.size, .int .i64 X.op, .int .i64 X.n, .bool X.down] g14
  have hsz2 := HSZ.out
  go_wp2_with (first | ((with_reducible refine is_load 27 rfl ?_); refine wpList_loadBw rfl 27 _ rfl b27 _ _ _ rfl (by first | assumption | exact blk_new _ _) rfl ?_) | ((with_reducible refine is_store 27 rfl ?_); refine wpList_storeBw rfl 27 _ _ rfl b27 _ _ _ _ rfl rfl (by first | assumption | exact blk_new _ _) rfl (bx27 _ _ _ _ _ _ _) ?_) | ((with_reducible refine is_load 117 rfl ?_); (first | refine wpList_loadBw rfl 117 _ rfl b117 _ _ _ rfl (by first | assumption | exact blk_new _ _) rfl ?_ | refine wpList_loadB rfl 117 _ rfl b117 _ _ _ rfl (by assumption) rfl ?_)) | ((with_reducible refine is_store 117 rfl ?_); (first | refine wpList_storeBw rfl 117 _ _ rfl b117 _ _ _ _ rfl rfl (by first | assumption | exact blk_new _ _) rfl (bx117 _ _ _ _ _ _) ?_ | refine wpList_storeBm rfl 117 _ _ rfl b117 _ _ _ rfl rfl (by assumption) (bx117 _ _ _ _ _ _) ?_)) | ((with_reducible refine is_alloc 35 rfl ?_); refine wpList_allocB rfl 35 rfl b35 ?_) | ((with_reducible refine is_alloc 34 rfl ?_); refine wpList_allocB rfl 34 rfl b34 ?_) | ((with_reducible refine is_load 35 rfl ?_); (first | refine wpList_loadBw rfl 35 _ rfl b35 _ _ _ rfl (by assumption) (secA_size _) ?_ | refine wpList_loadB rfl 35 _ rfl b35 _ _ _ rfl (by assumption) (secA_size _) ?_)) | ((with_reducible refine is_load 34 rfl ?_); (first | refine wpList_loadBw rfl 34 _ rfl b34 _ _ _ rfl (by assumption) (secA_size _) ?_ | refine wpList_loadB rfl 34 _ rfl b34 _ _ _ rfl (by assumption) (secA_size _) ?_)) | ((with_reducible refine is_store 35 rfl ?_); refine wpList_storeBw rfl 35 _ _ rfl b35 _ _ _ _ rfl rfl (by assumption) (secA_size _) (secA_bx _) ?_) | ((with_reducible refine is_store 34 rfl ?_); refine wpList_storeBw rfl 34 _ _ rfl b34 _ _ _ _ rfl rfl (by assumption) (secA_size _) (secA_bx _) ?_) | ((with_reducible refine is_build 34 rfl ?_); refine wpList_buildZ34 rfl rfl ?_) | ((with_reducible refine is_build 35 rfl ?_); refine wpList_buildZ35 rfl rfl ?_))
  have f6 := fun S => setRow_fr (w4.setRow (w.heap.size + 1) #[.slice (some ⟨g3, o3, none⟩) X.zs.length cap3, .int .i64 X.size, .int .i64 X.op, .int .i64 X.n, .bool X.down]) (w.heap.size + 2) S
  exact bodyPost_ret (res49 rfl rfl rfl ((f6 _).heap g15 (by omega)) rfl (setRow_blk _ g25)) rfl ⟨_, rfl, ((hr4.fr f5 (fun k hk e => by omega)).fr (f6 _) (fun k hk e => by omega)).q rfl rfl rfl rfl ((F4.trans f5 (fun k hk e => by omega)).trans (f6 _) (fun k hk e => by omega)) (fun k hk => by rcases hk with h | h; exact .inl h.1; exact .inr (by omega)) rfl⟩
end
end Go.Proofs.Ytkbagfpoegfcaaa

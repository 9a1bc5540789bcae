/- The document's example of a geometry, walked. No condition. -/
import Derived.Test.YtcdblopnaimfoaaGa
import Derived.Test.YtcdblopnaimfoaaPGeomRightx
namespace Go.Proofs.Ytcdblopnaimfoaa
open Go.RowKit Go.Conc

def sumTo : Nat → Int | 0 => 0 | i + 1 => sumTo i + (16 + i)
theorem sumTo_b : ∀ i, i ≤ 8 → 0 ≤ sumTo i ∧ sumTo i ≤ 24 * i
  | 0, _ => by simp [sumTo]
  | i + 1, h => by have := sumTo_b i (by omega); simp only [sumTo]; omega

set_option maxRecDepth 100000 in
set_option maxHeartbeats 1000000 in
theorem anchor5 (w : World) : Calls Try.prog 23 #[] w fun e w' => e = .returned (.bool true) ∧ Below w.heap.size w w' := by
  refine calls_of_marks Try.func23 rfl ?_
  simp only [Try.ntmps23, List.size_toArray, List.length_nil, Nat.reduceSub, Array.replicate_succ, Array.replicate_zero, List.push_toArray, List.append_toArray, List.nil_append, List.cons_append]
  go_wp2_with fail
  refine (PGeomRight.geom_Geom_Right.calls 3 8 8 12 0 4 true _ (by decide +kernel)).mono ?_
  rintro e w1 ⟨rfl, hb1⟩
  have bg0 := blk_alloc (blk_new w (.cells #[.int .i64 3, .int .i64 8, .int .i64 8, .int .i64 12, .int .i64 0, .int .i64 4] 42)) (.cells #[.int .i64 0] 3)
  have bn0 := blk_new (w.alloc (.cells #[.int .i64 3, .int .i64 8, .int .i64 8, .int .i64 12, .int .i64 0, .int .i64 4] 42)) (.cells #[.int .i64 0] 3)
  have bg1 := (Fr.of_below (S := fun _ => False) hb1).heap bg0 id
  have bn1 := (Fr.of_below (S := fun _ => False) hb1).heap bn0 id
  have hF1 : Fr (fun _ => False) w w1 := (((Fr.refl _ w).alloc _).alloc _).trans (Fr.of_below (S := fun _ => False) hb1) (fun _ _ h => h)
  rw [World.size_alloc] at bn1
  clear bg0 bn0 hb1
  have cg := fun i => blk_cell bg1 i
  go_wp2_with fail
  refine (geomIn 3 8 8 12 0 4 2 _).mono ?_
  rintro e w2 ⟨rfl, rfl⟩
  go_wp2_with fail
  have hsz1 := hF1.size
  have bB := blk_new w1 (.cells #[.int .i64 3, .int .i64 8, .int .i64 8, .int .i64 12, .int .i64 0, .int .i64 4] 42)
  have bC := blk_new (w1.alloc (.cells #[.int .i64 3, .int .i64 8, .int .i64 8, .int .i64 12, .int .i64 0, .int .i64 4] 42)) (.cells #[.int .i64 2] 3)
  have bB := blk_alloc bB (.cells #[.int .i64 2] 3)
  have bg2 := blk_alloc (blk_alloc bg1 (.cells #[.int .i64 3, .int .i64 8, .int .i64 8, .int .i64 12, .int .i64 0, .int .i64 4] 42)) (.cells #[.int .i64 2] 3)
  have bn2 := blk_alloc (blk_alloc bn1 (.cells #[.int .i64 3, .int .i64 8, .int .i64 8, .int .i64 12, .int .i64 0, .int .i64 4] 42)) (.cells #[.int .i64 2] 3)
  have hF2 : Fr (fun _ => False) w ((w1.alloc (.cells #[.int .i64 3, .int .i64 8, .int .i64 8, .int .i64 12, .int .i64 0, .int .i64 4] 42)).alloc (.cells #[.int .i64 2] 3)) := (hF1.alloc _).alloc _
  rw [World.size_alloc] at bC
  obtain ⟨m, hm⟩ : ∃ m, w1.heap.size = m := ⟨_, rfl⟩
  have hs2 : ((w1.alloc (.cells #[.int .i64 3, .int .i64 8, .int .i64 8, .int .i64 12, .int .i64 0, .int .i64 4] 42)).alloc (.cells #[.int .i64 2] 3)).heap.size = m + 2 := by simp [hm]
  rw [hm] at bB bC ⊢
  have hm2 : w.heap.size + 1 < m := by have := blk_lt bn1; omega
  clear hm hF1 bg1 bn1 cg
  generalize hw2 : (w1.alloc (.cells #[.int .i64 3, .int .i64 8, .int .i64 8, .int .i64 12, .int .i64 0, .int .i64 4] 42)).alloc (.cells #[.int .i64 2] 3) = w2 at *
  clear hw2
  refine wp_rangeIt (xs := inList 3 8 2) (St := Eq) (Kp := Two (m + 1) m) rfl (enters Try.func60 rfl (by decide)) ?hps
    (fun i W => W.heap[w.heap.size]? = some (.cells #[.int .i64 3, .int .i64 8, .int .i64 8, .int .i64 12, .int .i64 0, .int .i64 4] 42 (0, 0)) ∧ W.heap[w.heap.size + 1]? = some (.cells #[.int .i64 (sumTo i)] 3 (0, 0)) ∧ Fr (fun _ => False) w W)
    (fun _ _ => False) ?hI ?hIx (fun i X Y h e => e ▸ h) (fun c X Y h _ => h) (fun X Y _ e => by subst e; exact KeepBk.refl _ _) ?hKt ?hKb ⟨bg2, bn2, hF2⟩ ?hseq ?hbody ?hdone ?hstop
  case hps => intro x hx; simp [inList] at hx; obtain ⟨z, _, rfl⟩ := hx; rfl
  case hI => rintro i X Y ⟨h1, h2, h3⟩ hf; exact ⟨hf.heap h1 (by unfold Bk; omega), hf.heap h2 (by unfold Bk; omega), h3.trans hf (by unfold Bk; intro j hj hk; omega)⟩
  case hIx => rintro c X Y h _; exact h
  case hKt => rintro X Y Z ⟨h1, h2⟩ ⟨h3, h4⟩; exact ⟨h3.trans h1, h4.trans h2⟩
  case hKb => intro X Y hX hf; rw [hs2] at hX; exact ⟨hf.block _ (by omega) (by unfold Bk; omega), hf.block _ (by omega) (by unfold Bk; omega)⟩
  case hseq => intro W hf hW; exact geomIn_iter 3 8 8 12 0 4 2 (by omega) (by omega) (m + 1) m W (hf.heap bC id) (hf.heap bB id)
  case hbody =>
    rintro i args W hi ⟨h1, h2, h3⟩ hW
    have hi8 : i < 8 := by have := (List.getElem?_eq_some_iff.1 hi).1; simpa [inList] using this
    obtain rfl : args = #[.int .i64 (16 + i)] := by simp [inList, hi8] at hi; exact hi.symm
    clear hi
    have cn := blk_cell h2 0
    gi_wp2_with (rw [Oper.semAt_eq _ _ _ (fun c h => by cases h)]; go_simp; try go_bits)
    refine ⟨KeepBk.refl _ _, fun w₂ hf hsz => ?_⟩
    have h1' := hf.heap h1 (by unfold Bk; omega)
    have h2' := hf.heap h2 (by unfold Bk; omega)
    have h3' : Fr (fun _ => False) w w₂ := h3.trans hf (by unfold Bk; intro j hj hk; omega)
    have cn2 := blk_cell h2' 0
    have fn2 := blk_frozen h2' 0
    have hb := sumTo_b i (by omega)
    clear cn
    gi_wp2_with (rw [Oper.semAt_eq _ _ _ (fun c h => by cases h)]; go_simp; try go_bits)
    have hfs : Fr (fun k => k = w.heap.size + 1) w₂ (w₂.setCell ⟨w.heap.size + 1, 0, none⟩ (.int .i64 (sumTo i + (16 + i)))) := Fr.set1 _ _ _ _
    refine ⟨hfs.keepBk (by omega) (by omega) (by omega), ⟨blk_far h1' (by simp) _, blk_put h2' 0 _, h3'.setCell (.inr (by simp)) _⟩, ?_⟩
    have hX : Two (m + 1) m W w₂ := ⟨hf.block _ (by omega) (by unfold Bk; omega), hf.block _ (by omega) (by unfold Bk; omega)⟩
    exact ⟨(hfs.block _ (by omega) (by omega)).trans hX.1, (hfs.block _ (by omega) (by omega)).trans hX.2⟩
  case hdone =>
    rintro W ⟨h1, h2, h3⟩ hD
    have hl8 : (inList 3 8 2).length = 8 := by simp [inList]
    rw [hl8] at h2
    have cg := fun i => blk_cell h1 i
    have cn := blk_cell h2 0
    go_wp2_with fail
    refine (PGeomRight.geom_Geom_Right.calls 3 8 8 12 0 4 true _ (by decide +kernel)).mono ?_
    rintro e w3 ⟨rfl, hb3⟩
    have hf3 := Fr.of_below (S := fun _ => False) hb3
    have h1 := hf3.heap h1 id
    have h2 := hf3.heap h2 id
    have h3 := h3.trans hf3 (fun _ _ h => h)
    have hD := hf3.heap hD id
    have cg := fun i => blk_cell h1 i
    clear hb3 hf3
    go_wp2_with fail
    refine (PGeomRight.geom_Geom_All.calls 3 8 8 12 0 4 24 _ (by decide +kernel)).mono ?_
    rintro e w4 ⟨rfl, hb3⟩
    have hf3 := Fr.of_below (S := fun _ => False) hb3
    have h1 := hf3.heap h1 id
    have h2 := hf3.heap h2 id
    have h3 := h3.trans hf3 (fun _ _ h => h)
    have hD := hf3.heap hD id
    have cg := fun i => blk_cell h1 i
    clear hb3 hf3
    go_wp2_with fail
    refine (PGeomRight.geom_Geom_Parts.calls 3 8 8 12 0 4 7 _ (by decide +kernel)).mono ?_
    rintro e w5 ⟨rfl, hb3⟩
    have hf3 := Fr.of_below (S := fun _ => False) hb3
    have h1 := hf3.heap h1 id
    have h2 := hf3.heap h2 id
    have h3 := h3.trans hf3 (fun _ _ h => h)
    have hD := hf3.heap hD id
    have cn := blk_cell h2 0
    clear hb3 hf3
    go_wp2_with fail
    rw [hs2] at hD
    refine marks_one hD (marks_zero (results_tmp rfl _ _ _) ⟨by simp [sumTo], ?_⟩)
    refine (h3.putObj (.inr ?_) _).below (Nat.le_refl _) (fun _ _ h => h)
    omega
  case hstop => rintro c W h; exact h.elim
end Go.Proofs.Ytcdblopnaimfoaa

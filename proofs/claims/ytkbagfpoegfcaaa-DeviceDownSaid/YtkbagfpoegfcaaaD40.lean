/- DevicePlays: the walk. Conditions: the numbers fit; the steps are read. -/
import Derived.Test.YtkbagfpoegfcaaaD39
namespace Go.Proofs.Ytkbagfpoegfcaaa
open Go.RowKit Go.Conc

open Go.Extern.Stop (cell)
@[irreducible] def z62 : Array Value := (.int .i64 0 :: .int .i64 0 :: .int .i64 0 :: ((Array.replicate 64 (.int .u8 0)).toList ++ [.slice none 0 0])).toArray
theorem z62_eq : z62 = (.int .i64 0 :: .int .i64 0 :: .int .i64 0 :: ((Array.replicate 64 (.int .u8 0)).toList ++ [.slice none 0 0])).toArray := by unfold z62; rfl
theorem c62 : BigTy 62 68 z62 := by rw [z62_eq]; exact b62
/-- A step counts one at most. -/
theorem StepR.n {X Y : DS} {o : Op7} (h : StepR X o Y) : X.n ≤ Y.n ∧ Y.n ≤ X.n + 1 := by
  cases h with
  | app _ h => cases h <;> simp [DS.tick, DS.set]
  | read _ h => cases h <;> simp [DS.tick]
  | reset _ h => cases h <;> simp [DS.tick, DS.set]
  | finish _ h => cases h <;> simp [DS.tick, DS.set]
  | flush _ h => cases h <;> simp [DS.flush, DS.tick]
  | crash _ => simp
  | revive _ h => cases h <;> simp [DS.revive]
  | fail _ h => cases h <;> simp [DS.set]
  | spoil _ h => cases h <;> simp [DS.set]
  | none _ => simp
theorem OpsAt.fr {w w' : World} {v : Value} {os : List Op7} (h : OpsAt w w.heap.size v os) (hf : Fr (fun _ => False) w w') : OpsAt w' w.heap.size v os :=
  ⟨h.1.fr0 hf, fun o ho => ⟨(h.2.1 o ho).1, RdAt.fr0 (h.2.1 o ho).2 hf⟩, h.2.2⟩
theorem OpsAt.val {w : World} {B : Nat} {v : Value} {os : List Op7} (h : OpsAt w B v os) : ∃ a c, v = .slice a os.length c ∧ ∀ i (hi : i < os.length), ∃ g o, a = some ⟨g, o, none⟩ ∧ g < B ∧ w.rangeAt g (o + i * 68) (op7A os[i]).toList := by
  obtain ⟨⟨a, c, rfl, -, -, h3⟩, -, -⟩ := h
  have hl68 : ∀ o : Op7, ((op7A o).toList).length = 68 := fun o => (op7_bx o).len
  refine ⟨a, c, rfl, fun i hi => ?_⟩
  have hne : flat (fun o => (op7A o).toList) os ≠ [] := fun e => by have := flat_len hl68 os; rw [e] at this; simp at this; omega
  obtain ⟨g, o, e, hg, hr⟩ := h3 hne
  refine ⟨g, o, e, hg, fun j u hu => ?_⟩
  have hj : j < 68 := by have := (List.getElem?_eq_some_iff.1 hu).1; rwa [hl68] at this
  rw [Nat.add_assoc]
  exact hr _ u (by rw [flat_get hl68 os i hi j hj]; exact hu)
set_option linter.unusedSimpArgs false
set_option maxRecDepth 100000 in
set_option maxHeartbeats 8000000 in
theorem plays_walk (w : World) (x y z : Int) (v : Value) (os : List Op7) (ho : OpsAt w w.heap.size v os) : Calls Try.prog 8 #[.int .i64 x, .int .i64 y, .int .i64 z, v] w fun e w' => e = .returned (.bool true) ∧ Below w.heap.size w w' := by
  have ha : Calls Try.prog 22 #[] w _ := anchor_calls
  obtain ⟨a, c, rfl, hel⟩ := ho.val
  have hml := ho.2.2
  have hmx : maxLen = 9223372036854775807 := rfl
  go_enter Try.func8, Try.ntmps8
  go_wp2_with fail
  refine ha.mono ?_
  rintro e w1 ⟨rfl, f1⟩
  clear ha
  cases h0 : decide ((60 : Int) < (os.length : Int)) with
  | true =>
    cases h1 : decide (40 < x) with
    | false =>
      go_wp2
      go_ret
      exact ⟨rfl, f1.below (Nat.le_refl _) (fun _ _ => id)⟩
    | true =>
      cases h2 : decide (x ≤ 512) <;>
      · go_wp2
        go_ret
        exact ⟨rfl, f1.below (Nat.le_refl _) (fun _ _ => id)⟩
  | false =>
    have h60 : os.length ≤ 60 := by have := of_decide_eq_false h0; omega
    cases h1 : decide (40 < x) with
    | true =>
      cases h2 : decide (x ≤ 512) with
      | true =>
        go_wp2
        go_ret
        exact ⟨rfl, f1.below (Nat.le_refl _) (fun _ _ => id)⟩
      | false =>
        have hno := dev_new_no w1 (zones := x) (size := y) (op := z) (.inl (.inr (by have := of_decide_eq_false h2; omega)))
        have hrt := fun w => right_calls (w := w) x y z
        have e : rightB x y z = false := by unfold rightB; rw [h2]; simp
        rw [e] at hrt
        clear e
        go_wp2_with fail
        refine hno.mono ?_
        rintro e w2 ⟨rfl, f2⟩
        go_wp2_with fail
        refine (hrt _).mono ?_
        rintro e w3 ⟨rfl, rfl⟩
        go_wp2
        go_ret
        exact ⟨rfl, (f1.trans f2 (fun _ _ h => h)).below (Nat.le_refl _) (fun _ _ => id)⟩
    | false =>
      have h40 : x ≤ 40 := by have := of_decide_eq_false h1; omega
      cases h2 : rightB x y z with
      | false =>
        have hno := dev_new_no w1 (zones := x) (size := y) (op := z) (by
          unfold rightB at h2
          simp only [Bool.and_eq_false_iff, decide_eq_false_iff_not] at h2
          omega)
        have hrt := fun w => right_calls (w := w) x y z
        rw [h2] at hrt
        clear h2
        go_wp2_with fail
        refine hno.mono ?_
        rintro e w2 ⟨rfl, f2⟩
        go_wp2_with fail
        refine (hrt _).mono ?_
        rintro e w3 ⟨rfl, rfl⟩
        go_wp2
        go_ret
        exact ⟨rfl, (f1.trans f2 (fun _ _ h => h)).below (Nat.le_refl _) (fun _ _ => id)⟩
      | true =>
        have hrt := fun w => right_calls (w := w) x y z
        rw [h2] at hrt
        unfold rightB at h2
        simp only [Bool.and_eq_true, decide_eq_true_eq] at h2
        obtain ⟨b1, b2, b3, b4, b5, b6⟩ := h2
        obtain ⟨n1, rfl⟩ := Int.eq_ofNat_of_zero_le (a := x) (by omega)
        obtain ⟨n2, rfl⟩ := Int.eq_ofNat_of_zero_le (a := y) (by omega)
        obtain ⟨n3, rfl⟩ := Int.eq_ofNat_of_zero_le (a := z) (by omega)
        have hnew := dev_new w1 (zones := n1) (size := n2) (op := n3) (by omega) (by omega) (by omega) (by omega) (by omega) (by omega)
        have hrn := fun w => rnew w (zones := n1) (size := n2) (op := n3) (by omega)
        clear b1 b2 b3 b4 b5 b6
        go_wp2_with fail
        refine hnew.mono ?_
        rintro e w2 ⟨rfl, hd, f2⟩
        obtain ⟨d, hde⟩ : ∃ d, w1.heap.size = d := ⟨_, rfl⟩
        rw [hde] at hd
        try rw [hde]
        go_wp2_with fail
        refine (hrt _).mono ?_
        rintro e wr ⟨rfl, rfl⟩
        have hrn2 := hrn wr
        go_wp2_with fail
        refine hrn2.mono ?_
        rintro e w3 ⟨v3, rfl, hr3, f3⟩
        have hM3 : Mix (fun k => w.heap.size ≤ k) w3 d v3 (DS.new n1 n2 n3) (DS.new n1 n2 n3) := ⟨_, _, hd.sharp.fr0 f3, hr3, fun k a b => by rcases b with b | b; exact b; have := a.2; omega, fun k a => by have := a.1; have := f1.size; omega, fun k a => by rcases a with a | a; exact a.elim; have := f1.size; have := f2.size; omega⟩
        obtain ⟨a3, n3', c3, i1, i2, i3, b3, rfl⟩ := hM3.form
        obtain ⟨f4, g4⟩ := boxed w3 #[.slice none 0 0, .int .i64 0, .int .i64 0, .int .i64 0, .bool false] #[.slice a3 n3' c3, .int .i64 i1, .int .i64 i2, .int .i64 i3, .bool b3] 27
        obtain ⟨P, hP, hM4⟩ : ∃ P : Nat → Prop, (∀ k, P k ↔ (w.heap.size ≤ k ∧ k ≠ w3.heap.size)) ∧ Mix P _ d _ _ _ := ⟨fun k => w.heap.size ≤ k ∧ k ≠ w3.heap.size, fun _ => Iff.rfl, (hM3.mono (fun k h1 h2 => ⟨h1, by omega⟩)).fr0 f4⟩
        have F4 : Fr (fun _ => False) w _ := (((f1.trans f2 (fun _ _ h => h)).trans f3 (fun _ _ h => h)).trans f4 (fun _ _ h => h))
        have hs3 : w.heap.size ≤ w3.heap.size := by have h1 := f1.size; have h2 := f2.size; have h3 := f3.size; omega
        clear hnew hrn hrn2 hd hr3 hM3 hrt
        go_upto_region 11 with (first | ((with_reducible refine is_load 27 rfl ?_); refine wpList_loadBw rfl 27 _ rfl b27 _ _ _ rfl (by first | assumption | exact blk_new _ _) rfl ?_) | ((with_reducible refine is_store 27 rfl ?_); refine wpList_storeBw rfl 27 _ _ rfl b27 _ _ _ _ rfl rfl (by first | assumption | exact blk_new _ _) rfl (bx27 _ _ _ _ _ _ _) ?_) | ((with_reducible refine is_load 117 rfl ?_); (first | refine wpList_loadBw rfl 117 _ rfl b117 _ _ _ rfl (by first | assumption | exact blk_new _ _) rfl ?_ | refine wpList_loadB rfl 117 _ rfl b117 _ _ _ rfl (by assumption) rfl ?_)) | ((with_reducible refine is_store 117 rfl ?_); (first | refine wpList_storeBw rfl 117 _ _ rfl b117 _ _ _ _ rfl rfl (by first | assumption | exact blk_new _ _) rfl (bx117 _ _ _ _ _ _) ?_ | refine wpList_storeBm rfl 117 _ _ rfl b117 _ _ _ rfl rfl (by assumption) (bx117 _ _ _ _ _ _) ?_)))
        generalize (w3.alloc (.cells #[.slice none 0 0, .int .i64 0, .int .i64 0, .int .i64 0, .bool false] 27)).setRow w3.heap.size #[.slice a3 n3' c3, .int .i64 i1, .int .i64 i2, .int .i64 i3, .bool b3] = w4 at *
        obtain ⟨bb, hbb⟩ : ∃ bb, w3.heap.size = bb := ⟨_, rfl⟩
        rw [hbb] at hP g4 hs3
        try rw [hbb]
        clear hbb f1 f2 f3 f4
        have HM4 := Lib.hid hM4
        clear hM4
        go_wp2_with fail
        go_loopw [58] (fun i W => ∃ (k : Nat) (A : Array Value) (X : DS), k ≤ os.length ∧ i = .int .i64 k ∧ W.heap[bb]? = some (.cells A 27 (0, 0)) ∧ Mix P W d (.agg A) X X ∧ X.n ≤ k ∧ Fr (fun _ => False) w W) (fun i _ => os.length - (intOf i).toNat)
        case atStart => exact ⟨0, _, _, by omega, rfl, g4, HM4.out, by simp [DS.new], F4⟩
        case round =>
          obtain ⟨k, A, X, hk, rfl, gb, hM, hXn, hF⟩ := hrel
          by_cases hlt : k < os.length
          · obtain ⟨g, o, rfl, hg, hr⟩ := hel k hlt
            obtain ⟨a5, n5, c5, j1, j2, j3, b5, hA⟩ := hM.form
            cases hA
            have hrW := rangeAt_fr hr hF id
            have hK := RdAt.fr0 (ho.2.1 _ (List.getElem_mem hlt)).2 hF
            have hkl := (ho.2.1 _ (List.getElem_mem hlt)).1
            generalize os[k] = op at *
            obtain ⟨Y, hY⟩ := StepR.total X op
            have hYn := hY.n
            obtain ⟨f5, g5⟩ := boxed wr z62 (op7A op) 62
            have gb5 := f5.heap gb id
            have hst := step_calls (hM.fr0 f5) (by omega) hY (K := fun j => j < w.heap.size) (RdAt.fr0 hK f5) (fun j h1 h2 => by have := (hP j).1 h2; omega) (by omega)
            have h1' : (k : Int) < (os.length : Int) := by omega
            have h2' : (0 : Int) ≤ (k : Int) := by omega
            have hbW : bb < wr.heap.size := blk_lt gb
            go_upto_region 14 with (first | ((with_reducible refine is_alloc 62 rfl ?_); refine wpList_allocB rfl 62 rfl c62 ?_) | ((with_reducible refine is_load 62 rfl ?_); (first | refine wpList_loadBw rfl 62 _ rfl c62 _ _ _ rfl (by assumption) (op7_size _) ?_ | refine wpList_loadB rfl 62 _ rfl c62 _ _ _ rfl (by assumption) (op7_size _) ?_)) | ((with_reducible refine is_store 62 rfl ?_); refine wpList_storeBw rfl 62 _ _ rfl c62 _ _ _ _ rfl rfl (by first | assumption | exact blk_new _ _) c62.zs (op7_bx _) ?_))
            generalize (wr.alloc (.cells z62 62)).setRow wr.heap.size (op7A op) = W5 at *
            clear hM hrW hr hK gb
            go_wp2_with (first | ((with_reducible refine is_load 27 rfl ?_); refine wpList_loadBw rfl 27 _ rfl b27 _ _ _ rfl (by first | assumption | exact blk_new _ _) rfl ?_) | ((with_reducible refine is_store 27 rfl ?_); refine wpList_storeBw rfl 27 _ _ rfl b27 _ _ _ _ rfl rfl (by first | assumption | exact blk_new _ _) rfl (bx27 _ _ _ _ _ _ _) ?_) | ((with_reducible refine is_load 117 rfl ?_); (first | refine wpList_loadBw rfl 117 _ rfl b117 _ _ _ rfl (by first | assumption | exact blk_new _ _) rfl ?_ | refine wpList_loadB rfl 117 _ rfl b117 _ _ _ rfl (by assumption) rfl ?_)) | ((with_reducible refine is_store 117 rfl ?_); (first | refine wpList_storeBw rfl 117 _ _ rfl b117 _ _ _ _ rfl rfl (by first | assumption | exact blk_new _ _) rfl (bx117 _ _ _ _ _ _) ?_ | refine wpList_storeBm rfl 117 _ _ rfl b117 _ _ _ rfl rfl (by assumption) (bx117 _ _ _ _ _ _) ?_)) | ((with_reducible refine is_alloc 62 rfl ?_); refine wpList_allocB rfl 62 rfl c62 ?_) | ((with_reducible refine is_load 62 rfl ?_); (first | refine wpList_loadBw rfl 62 _ rfl c62 _ _ _ rfl (by assumption) (op7_size _) ?_ | refine wpList_loadB rfl 62 _ rfl c62 _ _ _ rfl (by assumption) (op7_size _) ?_)) | ((with_reducible refine is_store 62 rfl ?_); refine wpList_storeBw rfl 62 _ _ rfl c62 _ _ _ _ rfl rfl (by first | assumption | exact blk_new _ _) c62.zs (op7_bx _) ?_))
            refine hst.mono ?_
            rintro e W6 ⟨v6, rfl, hM6, f6⟩
            have hs5 := f5.size
            obtain ⟨a6, n6, c6, k1, k2, k3, b6, rfl⟩ := hM6.form
            have gb6 := f6.heap gb5 (fun h => ((hP _).1 h).2 rfl)
            have fs := setRow_fr W6 bb #[.slice a6 n6 c6, .int .i64 k1, .int .i64 k2, .int .i64 k3, .bool b6]
            have hM7 := (hM6.mono (P' := P) (fun j h1 _ => by
              rcases h1 with h1 | h1
              · exact h1
              · exact (hP j).2 ⟨by have := hF.size; omega, by omega⟩)).fr fs (fun j h1 e => ((hP j).1 h1).2 e)
            have gb7 := setRow_blk #[.slice a6 n6 c6, .int .i64 k1, .int .i64 k2, .int .i64 k3, .bool b6] gb6
            have F7 : Fr (fun _ => False) w (W6.setRow bb #[.slice a6 n6 c6, .int .i64 k1, .int .i64 k2, .int .i64 k3, .bool b6]) := ((hF.trans f5 (fun _ _ h => h)).trans f6 (fun j hj h => by have := ((hP j).1 h).1; omega)).trans fs (fun j hj e => by omega)
            have hsm := same_calls hM7
            have HM7 := Lib.hid hM7
            clear hst hM6 f6 g5 gb5 hM7 fs
            have c7 := fun i => blk_cell gb7 i
            go_wp2_with (first | ((with_reducible refine is_load 27 rfl ?_); refine wpList_loadBw rfl 27 _ rfl b27 _ _ _ rfl (by first | assumption | exact blk_new _ _) rfl ?_) | ((with_reducible refine is_store 27 rfl ?_); refine wpList_storeBw rfl 27 _ _ rfl b27 _ _ _ _ rfl rfl (by first | assumption | exact blk_new _ _) rfl (bx27 _ _ _ _ _ _ _) ?_) | ((with_reducible refine is_load 117 rfl ?_); (first | refine wpList_loadBw rfl 117 _ rfl b117 _ _ _ rfl (by first | assumption | exact blk_new _ _) rfl ?_ | refine wpList_loadB rfl 117 _ rfl b117 _ _ _ rfl (by assumption) rfl ?_)) | ((with_reducible refine is_store 117 rfl ?_); (first | refine wpList_storeBw rfl 117 _ _ rfl b117 _ _ _ _ rfl rfl (by first | assumption | exact blk_new _ _) rfl (bx117 _ _ _ _ _ _) ?_ | refine wpList_storeBm rfl 117 _ _ rfl b117 _ _ _ rfl rfl (by assumption) (bx117 _ _ _ _ _ _) ?_)))
            refine hsm.mono ?_
            rintro e W8 ⟨rfl, f8⟩
            have HE := Lib.hid (And.intro (f8.heap gb7 id) (And.intro (HM7.out.fr0 f8) (F7.trans f8 (fun _ _ h => h))))
            clear hsm F7 gb7 f8
            go_wp2
            go_roundw
            case rel => exact ⟨k + 1, _, Y, by omega, by go_num, HE.out.1, HE.out.2.1, by omega, HE.out.2.2⟩
            case measure => simp [intOf]; omega
          · obtain rfl : k = os.length := by omega
            go_wp2_with fail
            go_ret
            exact ⟨rfl, hF.below (Nat.le_refl _) (fun _ _ => id)⟩
end Go.Proofs.Ytkbagfpoegfcaaa

/- DeviceDown: the walk. Conditions: the steps are read. -/
import Derived.Test.YtkbagfpoegfcaaaD40
namespace Go.Proofs.Ytkbagfpoegfcaaa
open Go.RowKit Go.Conc

theorem app_dn {X : DS} (h : X.down = true) (i : Int) (s : Sec) : AppR X i s X 0 34 := .down h
theorem read_dn {X : DS} (h : X.down = true) (i off : Int) : ReadR X i off X .zero 34 := .down h
theorem rst_dn {X : DS} (h : X.down = true) (i : Int) (f : ZS → ZS) : RstR X i f X 34 := .down h
theorem flush_dn {X : DS} (h : X.down = true) : FlushR X X 34 := .down h
set_option linter.unusedSimpArgs false
set_option maxRecDepth 100000 in
set_option maxHeartbeats 8000000 in
theorem down_walk (w : World) (x y z : Int) (v : Value) (os : List Op7) (ho : OpsAt w w.heap.size v os) (v' : Value) (ps : List Op7) (hp : OpsAt w w.heap.size v' ps) : Calls Try.prog 9 #[.int .i64 x, .int .i64 y, .int .i64 z, v, v'] w fun e w' => e = .returned (.bool true) ∧ Below w.heap.size w w' := by
  have ha : Calls Try.prog 22 #[] w _ := anchor_calls
  obtain ⟨a, c, rfl, hel⟩ := ho.val
  obtain ⟨a', c', rfl, hel'⟩ := hp.val
  have hml := ho.2.2
  have hml' := hp.2.2
  have hmx : maxLen = 9223372036854775807 := rfl
  go_enter Try.func9, Try.ntmps9
  go_wp2_with fail
  refine ha.mono ?_
  rintro e w1 ⟨rfl, f1⟩
  clear ha
  have hrt := right_calls (w := w1) x y z
  cases h1 : decide (40 < x) with
  | true =>
    go_wp2
    go_ret
    exact ⟨rfl, f1.below (Nat.le_refl _) (fun _ _ => id)⟩
  | false =>
    have h40 : x ≤ 40 := by have := of_decide_eq_false h1; omega
    cases h2 : rightB x y z with
    | false =>
      rw [h2] at hrt
      go_wp2_with fail
      refine hrt.mono ?_
      rintro e w2 ⟨rfl, rfl⟩
      go_wp2
      go_ret
      exact ⟨rfl, f1.below (Nat.le_refl _) (fun _ _ => id)⟩
    | true =>
      rw [h2] at hrt
      cases h0 : decide ((60 : Int) < (os.length : Int)) with
      | true =>
        go_wp2_with fail
        refine hrt.mono ?_
        rintro e w2 ⟨rfl, rfl⟩
        go_wp2
        go_ret
        exact ⟨rfl, f1.below (Nat.le_refl _) (fun _ _ => id)⟩
      | false =>
        have h60 : os.length ≤ 60 := by have := of_decide_eq_false h0; omega
        cases h0' : decide ((60 : Int) < (ps.length : Int)) with
        | true =>
          go_wp2_with fail
          refine hrt.mono ?_
          rintro e w2 ⟨rfl, rfl⟩
          go_wp2
          go_ret
          exact ⟨rfl, f1.below (Nat.le_refl _) (fun _ _ => id)⟩
        | false =>
          have h60' : ps.length ≤ 60 := by have := of_decide_eq_false h0'; omega
          unfold rightB at h2
          simp only [Bool.and_eq_true, decide_eq_true_eq] at h2
          obtain ⟨b1, b2, b3, b4, b5, b6⟩ := h2
          obtain ⟨n1, rfl⟩ := Int.eq_ofNat_of_zero_le (a := x) (by omega)
          obtain ⟨n2, rfl⟩ := Int.eq_ofNat_of_zero_le (a := y) (by omega)
          obtain ⟨n3, rfl⟩ := Int.eq_ofNat_of_zero_le (a := z) (by omega)
          have hnew := fun w => dev_new w (zones := n1) (size := n2) (op := n3) (by omega) (by omega) (by omega) (by omega) (by omega) (by omega)
          have hrn := fun w => rnew w (zones := n1) (size := n2) (op := n3) (by omega)
          have hz0 : (DS.new n1 n2 n3).zs.length = n1 := by simp [DS.new]
          clear b1 b2 b3 b4 b5 b6
          go_wp2_with fail
          refine hrt.mono ?_
          rintro e w1 ⟨rfl, rfl⟩
          have hnw := hnew w1
          clear hrt hnew
          go_wp2_with fail
          refine hnw.mono ?_
          rintro e w2 ⟨rfl, hd, f2⟩
          clear hnw
          obtain ⟨d, hde⟩ : ∃ d, w1.heap.size = d := ⟨_, rfl⟩
          rw [hde] at hd
          try rw [hde]
          have hrn2 := hrn w2
          go_wp2_with fail
          refine hrn2.mono ?_
          rintro e w3 ⟨v3, rfl, hr3, f3⟩
          have hdw : w.heap.size ≤ d := by rw [← hde]; exact f1.size
          have hM3 : Mix (fun k => d ≤ k) w3 d v3 (DS.new n1 n2 n3) (DS.new n1 n2 n3) := ⟨_, _, hd.sharp.fr0 f3, hr3, fun k a b => by rcases b with b | b; exact b; have := a.2; omega, fun k a => a.1, fun k a => by rcases a with a | a; exact a.elim; have := f2.size; omega⟩
          obtain ⟨a3, n3', c3, i1, i2, i3, b3, rfl⟩ := hM3.form
          obtain ⟨f4, g4⟩ := boxed w3 #[.slice none 0 0, .int .i64 0, .int .i64 0, .int .i64 0, .bool false] #[.slice a3 n3' c3, .int .i64 i1, .int .i64 i2, .int .i64 i3, .bool b3] 27
          obtain ⟨P, hP, hM4⟩ : ∃ P : Nat → Prop, (∀ k, P k ↔ (d ≤ k ∧ k ≠ w3.heap.size)) ∧ Mix P _ d _ _ _ := ⟨fun k => d ≤ k ∧ k ≠ w3.heap.size, fun _ => Iff.rfl, (hM3.mono (fun k h1 h2 => ⟨h1, by omega⟩)).fr0 f4⟩
          have F4 : Fr (fun _ => False) w _ := (((f1.trans f2 (fun _ _ h => h)).trans f3 (fun _ _ h => h)).trans f4 (fun _ _ h => h))
          have hs3 : d ≤ w3.heap.size := by have h2 := f2.size; have h3 := f3.size; omega
          clear hrn hrn2 hd hr3 hM3
          go_upto_region 9 with (first | ((with_reducible refine is_load 27 rfl ?_); refine wpList_loadBw rfl 27 _ rfl b27 _ _ _ rfl (by first | assumption | exact blk_new _ _) rfl ?_) | ((with_reducible refine is_store 27 rfl ?_); refine wpList_storeBw rfl 27 _ _ rfl b27 _ _ _ _ rfl rfl (by first | assumption | exact blk_new _ _) rfl (bx27 _ _ _ _ _ _ _) ?_) | ((with_reducible refine is_load 117 rfl ?_); (first | refine wpList_loadBw rfl 117 _ rfl b117 _ _ _ rfl (by first | assumption | exact blk_new _ _) rfl ?_ | refine wpList_loadB rfl 117 _ rfl b117 _ _ _ rfl (by assumption) rfl ?_)) | ((with_reducible refine is_store 117 rfl ?_); (first | refine wpList_storeBw rfl 117 _ _ rfl b117 _ _ _ _ rfl rfl (by first | assumption | exact blk_new _ _) rfl (bx117 _ _ _ _ _ _) ?_ | refine wpList_storeBm rfl 117 _ _ rfl b117 _ _ _ rfl rfl (by assumption) (bx117 _ _ _ _ _ _) ?_)))
          generalize (w3.alloc (.cells #[.slice none 0 0, .int .i64 0, .int .i64 0, .int .i64 0, .bool false] 27)).setRow w3.heap.size #[.slice a3 n3' c3, .int .i64 i1, .int .i64 i2, .int .i64 i3, .bool b3] = w4 at *
          obtain ⟨bb, hbb⟩ : ∃ bb, w3.heap.size = bb := ⟨_, rfl⟩
          rw [hbb] at hP g4 hs3
          try rw [hbb]
          clear hbb f1 f2 f3 f4
          have HM4 := Lib.hid hM4
          clear hM4
          go_wp2_with fail
          go_loopw [59] (fun i W => ∃ (k : Nat) (A : Array Value) (X : DS), k ≤ os.length ∧ i = .int .i64 k ∧ W.heap[bb]? = some (.cells A 27 (0, 0)) ∧ Mix P W d (.agg A) X X ∧ X.n ≤ k ∧ Fr (fun _ => False) w W) (fun i _ => os.length - (intOf i).toNat)
          case atStart => exact ⟨0, _, _, by omega, rfl, g4, HM4.out, by simp [DS.new], F4⟩
          case round =>
            obtain ⟨k, A, X, hk, rfl, gb, hM, hXn, hF⟩ := hrel
            by_cases hlt : k < os.length
            ·
              obtain ⟨g, o, rfl, hg, hr⟩ := hel k hlt
              have hrW := rangeAt_fr hr hF id
              have hK := RdAt.fr0 ((ho).2.1 _ (List.getElem_mem hlt)).2 hF
              have hkl := ((ho).2.1 _ (List.getElem_mem hlt)).1
              generalize (os)[k] = op at *
              obtain ⟨f5, g5⟩ := boxed wr z62 (op7A op) 62
              have gb5 := f5.heap gb id
              have hM5 := hM.sharp.fr0 f5
              have hK5 := RdAt.fr0 hK f5
              have h1' : (k : Int) < ((os).length : Int) := by omega
              have h2' : (0 : Int) ≤ (k : Int) := by omega
              have hbW : bb < wr.heap.size := blk_lt gb
              have hws : w.heap.size ≤ wr.heap.size := hF.size
              have F5 := hF.trans f5 (fun _ _ h => h)
              have hs5 := f5.size
              try have gp5 := f5.heap gp id
              go_upto_region 12 with (first | ((with_reducible refine is_alloc 62 rfl ?_); refine wpList_allocB rfl 62 rfl c62 ?_) | ((with_reducible refine is_load 62 rfl ?_); (first | refine wpList_loadBw rfl 62 _ rfl c62 _ _ _ rfl (by assumption) (op7_size _) ?_ | refine wpList_loadB rfl 62 _ rfl c62 _ _ _ rfl (by assumption) (op7_size _) ?_)) | ((with_reducible refine is_store 62 rfl ?_); refine wpList_storeBw rfl 62 _ _ rfl c62 _ _ _ _ rfl rfl (by first | assumption | exact blk_new _ _) c62.zs (op7_bx _) ?_))
              generalize (wr.alloc (.cells z62 62)).setRow wr.heap.size (op7A op) = W5 at *
              obtain ⟨bo, hbo⟩ : ∃ bo, wr.heap.size = bo := ⟨_, rfl⟩
              rw [hbo] at g5 hbW hws hM5 hs5
              try rw [hbo]
              clear hM hrW hr hK gb hbo f5
              obtain ⟨a5, n5, c5, j1, j2, j3, b5, hA⟩ := hM5.form
              cases hA
              obtain ⟨Y, hY⟩ := StepR.total X op
              have hYn := hY.n
              have hst := step_calls hM5 (by omega) hY (K := fun j => j < w.heap.size) hK5 (fun j h1 h2 => by have := (hP j).1 h2.1; omega) (by omega)
              have hYs := Lib.hid hY
              clear hY
              go_wp2_with (first | ((with_reducible refine is_load 27 rfl ?_); refine wpList_loadBw rfl 27 _ rfl b27 _ _ _ rfl (by first | assumption | exact blk_new _ _) rfl ?_) | ((with_reducible refine is_store 27 rfl ?_); refine wpList_storeBw rfl 27 _ _ rfl b27 _ _ _ _ rfl rfl (by first | assumption | exact blk_new _ _) rfl (bx27 _ _ _ _ _ _ _) ?_) | ((with_reducible refine is_load 117 rfl ?_); (first | refine wpList_loadBw rfl 117 _ rfl b117 _ _ _ rfl (by first | assumption | exact blk_new _ _) rfl ?_ | refine wpList_loadB rfl 117 _ rfl b117 _ _ _ rfl (by assumption) rfl ?_)) | ((with_reducible refine is_store 117 rfl ?_); (first | refine wpList_storeBw rfl 117 _ _ rfl b117 _ _ _ _ rfl rfl (by first | assumption | exact blk_new _ _) rfl (bx117 _ _ _ _ _ _) ?_ | refine wpList_storeBm rfl 117 _ _ rfl b117 _ _ _ rfl rfl (by assumption) (bx117 _ _ _ _ _ _) ?_)) | ((with_reducible refine is_alloc 62 rfl ?_); refine wpList_allocB rfl 62 rfl c62 ?_) | ((with_reducible refine is_load 62 rfl ?_); (first | refine wpList_loadBw rfl 62 _ rfl c62 _ _ _ rfl (by assumption) (op7_size _) ?_ | refine wpList_loadB rfl 62 _ rfl c62 _ _ _ rfl (by assumption) (op7_size _) ?_)) | ((with_reducible refine is_store 62 rfl ?_); refine wpList_storeBw rfl 62 _ _ rfl c62 _ _ _ _ rfl rfl (by first | assumption | exact blk_new _ _) c62.zs (op7_bx _) ?_))
              refine hst.mono ?_
              rintro e W6 ⟨v6, rfl, hM6, f6⟩
              clear hst hK5
              obtain ⟨a6, n6, c6, k1, k2, k3, b6, rfl⟩ := hM6.form
              have gb6 := f6.heap gb5 (fun h => ((hP _).1 h.1).2 rfl)
              have go6 := f6.heap g5 (fun h => by have := h.2; omega)
              try have gp6 := f6.heap gp5 (fun h => by have := ((hP _).1 h.1).1; omega)
              have fs := setRow_fr W6 bb #[.slice a6 n6 c6, .int .i64 k1, .int .i64 k2, .int .i64 k3, .bool b6]
              try have gp7 := fs.heap gp6 (by omega)
              have hM7 := (hM6.mono (P' := P) (fun j h1 _ => by
                rcases h1 with h1 | h1
                · exact h1.1
                · exact (hP j).2 ⟨by omega, by omega⟩)).fr fs (fun j h1 e => ((hP j).1 h1).2 e)
              have gb7 := setRow_blk #[.slice a6 n6 c6, .int .i64 k1, .int .i64 k2, .int .i64 k3, .bool b6] gb6
              have go7 := fs.heap go6 (by omega)
              have F7 : Fr (fun _ => False) w (W6.setRow bb #[.slice a6 n6 c6, .int .i64 k1, .int .i64 k2, .int .i64 k3, .bool b6]) := (F5.trans f6 (fun j hj h => by have := ((hP j).1 h.1).1; omega)).trans fs (fun j hj e => by omega)
              have HM7 := Lib.hid (And.intro gb7 (And.intro hM7 (And.intro F7 go7)))
              clear hM6 f6 gb5 g5 go6 F7 hM5 go7 hM7
              go_wp2_with (first | ((with_reducible refine is_load 27 rfl ?_); refine wpList_loadBw rfl 27 _ rfl b27 _ _ _ rfl (by first | assumption | exact blk_new _ _) rfl ?_) | ((with_reducible refine is_store 27 rfl ?_); refine wpList_storeBw rfl 27 _ _ rfl b27 _ _ _ _ rfl rfl (by first | assumption | exact blk_new _ _) rfl (bx27 _ _ _ _ _ _ _) ?_) | ((with_reducible refine is_load 117 rfl ?_); (first | refine wpList_loadBw rfl 117 _ rfl b117 _ _ _ rfl (by first | assumption | exact blk_new _ _) rfl ?_ | refine wpList_loadB rfl 117 _ rfl b117 _ _ _ rfl (by assumption) rfl ?_)) | ((with_reducible refine is_store 117 rfl ?_); (first | refine wpList_storeBw rfl 117 _ _ rfl b117 _ _ _ _ rfl rfl (by first | assumption | exact blk_new _ _) rfl (bx117 _ _ _ _ _ _) ?_ | refine wpList_storeBm rfl 117 _ _ rfl b117 _ _ _ rfl rfl (by assumption) (bx117 _ _ _ _ _ _) ?_)))
              go_roundw
              case rel => exact ⟨k + 1, _, Y, by omega, by go_num, HM7.out.1, HM7.out.2.1, by omega, HM7.out.2.2.1⟩
              case measure => simp [intOf]; omega
            · obtain rfl : k = os.length := by omega
              obtain ⟨a5, n5, c5, j1, j2, j3, b5, hA⟩ := hM.form
              cases hA
              have hc1 := hM.dev (fun F hF => dev_crash hF)
              go_wp2_with fail
              refine hc1.mono ?_
              rintro e W2 ⟨⟨u, rfl⟩, hM2, f2⟩
              have hbW := blk_lt gb
              have hws := hF.size
              have gb2 := f2.heap gb (fun h => ((hP _).1 h).2 rfl)
              have gb3 := blk_put gb2 4 (.bool true)
              simp only [List.setIfInBounds_toArray, List.set_cons_succ, List.set_cons_zero] at gb3
              have fs := Fr.set1 W2 bb 4 (.bool true)
              have hM3 := ((hM2.mono (P' := P) (fun j h1 _ => by
                rcases h1 with h1 | h1
                · exact h1
                · exact (hP j).2 ⟨by omega, by omega⟩)).fr fs (fun j h1 e => ((hP j).1 h1).2 e)).setDown
              have F3 : Fr (fun _ => False) w _ := (hF.trans f2 (fun j hj h => by have := ((hP j).1 h).1; omega)).trans fs (fun j hj e => by omega)
              have c2 := fun i => blk_cell gb2 i
              have z2 := fun i => blk_frozen gb2 i
              have hXn' : ({ X with down := true } : DS).n < 1000000 := by show X.n < 1000000; omega
              have hXd' : ({ X with down := true } : DS).down = true := rfl
              generalize ({ X with down := true } : DS) = X2 at *
              have HXD := Lib.hid (And.intro hXn' hXd')
              have HM3 := Lib.hid (And.intro hM3 F3)
              clear hM2 hM3 F3 hc1 hXn' hXd' hM
              go_upto_region 16 with fail
              generalize W2.setCell ⟨bb, 4, none⟩ (.bool true) = W3 at *
              clear c2 z2 gb2 fs
              go_wp2_with fail
              go_loopw [76] (fun i W => ∃ k : Nat, k ≤ ps.length ∧ i = .int .i64 k ∧ W.heap[bb]? = some (.cells #[.slice a5 n5 c5, .int .i64 j1, .int .i64 j2, .int .i64 j3, .bool true] 27 (0, 0)) ∧ Mix P W d (.agg #[.slice a5 n5 c5, .int .i64 j1, .int .i64 j2, .int .i64 j3, .bool true]) X2 X2 ∧ Fr (fun _ => False) w W) (fun i _ => ps.length - (intOf i).toNat)
              case atStart => exact ⟨0, by omega, rfl, gb3, HM3.out.1, HM3.out.2⟩
              case round =>
                clear hF gb
                obtain ⟨k, hk, rfl, gb, hM, hF⟩ := hrel
                by_cases hlt : k < ps.length
                ·
                  obtain ⟨g, o, rfl, hg, hr⟩ := hel' k hlt
                  have hrW := rangeAt_fr hr hF id
                  have hK := RdAt.fr0 ((hp).2.1 _ (List.getElem_mem hlt)).2 hF
                  have hkl := ((hp).2.1 _ (List.getElem_mem hlt)).1
                  generalize (ps)[k] = op at *
                  obtain ⟨f5, g5⟩ := boxed wr z62 (op7A op) 62
                  have gb5 := f5.heap gb id
                  have hM5 := hM.sharp.fr0 f5
                  have hK5 := RdAt.fr0 hK f5
                  have h1' : (k : Int) < ((ps).length : Int) := by omega
                  have h2' : (0 : Int) ≤ (k : Int) := by omega
                  have hbW : bb < wr.heap.size := blk_lt gb
                  have hws : w.heap.size ≤ wr.heap.size := hF.size
                  have F5 := hF.trans f5 (fun _ _ h => h)
                  have hs5 := f5.size
                  try have gp5 := f5.heap gp id
                  go_upto_region 19 with (first | ((with_reducible refine is_alloc 62 rfl ?_); refine wpList_allocB rfl 62 rfl c62 ?_) | ((with_reducible refine is_load 62 rfl ?_); (first | refine wpList_loadBw rfl 62 _ rfl c62 _ _ _ rfl (by assumption) (op7_size _) ?_ | refine wpList_loadB rfl 62 _ rfl c62 _ _ _ rfl (by assumption) (op7_size _) ?_)) | ((with_reducible refine is_store 62 rfl ?_); refine wpList_storeBw rfl 62 _ _ rfl c62 _ _ _ _ rfl rfl (by first | assumption | exact blk_new _ _) c62.zs (op7_bx _) ?_))
                  generalize (wr.alloc (.cells z62 62)).setRow wr.heap.size (op7A op) = W5 at *
                  obtain ⟨bo, hbo⟩ : ∃ bo, wr.heap.size = bo := ⟨_, rfl⟩
                  rw [hbo] at g5 hbW hws hM5 hs5
                  try rw [hbo]
                  clear hM hrW hr hK gb hbo f5
                  obtain ⟨ck, cz, co, cp, hrs⟩ := op7_box g5
                  by_cases t1 : op.kind = 1
                  ·
                    rw [t1] at ck
                    have hc := hM5.dev (fun F hF => dev_append hF HXD.out.1 (app_dn HXD.out.2 op.zone op.sec))
                    go_wp2_with (first | ((with_reducible refine is_alloc 35 rfl ?_); refine wpList_allocB rfl 35 rfl b35 ?_) | ((with_reducible refine is_alloc 34 rfl ?_); refine wpList_allocB rfl 34 rfl b34 ?_) | ((with_reducible refine is_load 35 rfl ?_); (first | refine wpList_loadBw rfl 35 _ rfl b35 _ _ _ rfl (by assumption) (secA_size _) ?_ | refine wpList_loadB rfl 35 _ rfl b35 _ _ _ rfl (by assumption) (secA_size _) ?_)) | ((with_reducible refine is_load 34 rfl ?_); (first | refine wpList_loadBw rfl 34 _ rfl b34 _ _ _ rfl (by assumption) (secA_size _) ?_ | refine wpList_loadB rfl 34 _ rfl b34 _ _ _ rfl (by assumption) (secA_size _) ?_)) | ((with_reducible refine is_store 35 rfl ?_); refine wpList_storeBw rfl 35 _ _ rfl b35 _ _ _ _ rfl rfl (by assumption) (secA_size _) (secA_bx _) ?_) | ((with_reducible refine is_store 34 rfl ?_); refine wpList_storeBw rfl 34 _ _ rfl b34 _ _ _ _ rfl rfl (by assumption) (secA_size _) (secA_bx _) ?_) | ((with_reducible refine is_build 34 rfl ?_); refine wpList_buildZ34 rfl rfl ?_) | ((with_reducible refine is_build 35 rfl ?_); refine wpList_buildZ35 rfl rfl ?_))
                    refine hc.mono ?_
                    rintro e W6 ⟨rfl, hM6, f6⟩
                    have gb6 := f6.heap gb5 (fun h => ((hP _).1 h.1).2 rfl)
                    have HE := Lib.hid (And.intro gb6 (And.intro (hM6.mono (P' := P) (fun j h1 _ => by
                      rcases h1 with h1 | h1
                      · exact h1.1
                      · exact (hP j).2 ⟨by omega, by omega⟩)) (F5.trans f6 (fun j hj h => by have := ((hP j).1 h.1).1; omega))))
                    clear hc hM6 f6 gb6 hM5 gb5 F5 ck cz co cp hrs
                    go_wp2_with fail
                    go_roundw
                    case rel => exact ⟨k + 1, by omega, by go_num, HE.out.1, HE.out.2.1, HE.out.2.2⟩
                    case measure => simp [intOf]; omega
                  by_cases t2 : op.kind = 2
                  ·
                    rw [t2] at ck
                    have hc := hM5.dev (fun F hF => dev_read hF HXD.out.1 (read_dn HXD.out.2 op.zone op.off))
                    go_wp2_with (first | ((with_reducible refine is_alloc 35 rfl ?_); refine wpList_allocB rfl 35 rfl b35 ?_) | ((with_reducible refine is_alloc 34 rfl ?_); refine wpList_allocB rfl 34 rfl b34 ?_) | ((with_reducible refine is_load 35 rfl ?_); (first | refine wpList_loadBw rfl 35 _ rfl b35 _ _ _ rfl (by assumption) (secA_size _) ?_ | refine wpList_loadB rfl 35 _ rfl b35 _ _ _ rfl (by assumption) (secA_size _) ?_)) | ((with_reducible refine is_load 34 rfl ?_); (first | refine wpList_loadBw rfl 34 _ rfl b34 _ _ _ rfl (by assumption) (secA_size _) ?_ | refine wpList_loadB rfl 34 _ rfl b34 _ _ _ rfl (by assumption) (secA_size _) ?_)) | ((with_reducible refine is_store 35 rfl ?_); refine wpList_storeBw rfl 35 _ _ rfl b35 _ _ _ _ rfl rfl (by assumption) (secA_size _) (secA_bx _) ?_) | ((with_reducible refine is_store 34 rfl ?_); refine wpList_storeBw rfl 34 _ _ rfl b34 _ _ _ _ rfl rfl (by assumption) (secA_size _) (secA_bx _) ?_) | ((with_reducible refine is_build 34 rfl ?_); refine wpList_buildZ34 rfl rfl ?_) | ((with_reducible refine is_build 35 rfl ?_); refine wpList_buildZ35 rfl rfl ?_))
                    refine hc.mono ?_
                    rintro e W6 ⟨rfl, hM6, f6⟩
                    have gb6 := f6.heap gb5 (fun h => ((hP _).1 h.1).2 rfl)
                    have HE := Lib.hid (And.intro gb6 (And.intro (hM6.mono (P' := P) (fun j h1 _ => by
                      rcases h1 with h1 | h1
                      · exact h1.1
                      · exact (hP j).2 ⟨by omega, by omega⟩)) (F5.trans f6 (fun j hj h => by have := ((hP j).1 h.1).1; omega))))
                    clear hc hM6 f6 gb6 hM5 gb5 F5 ck cz co cp hrs
                    go_wp2_with fail
                    go_roundw
                    case rel => exact ⟨k + 1, by omega, by go_num, HE.out.1, HE.out.2.1, HE.out.2.2⟩
                    case measure => simp [intOf]; omega
                  by_cases t3 : op.kind = 3
                  ·
                    rw [t3] at ck
                    have hc := hM5.dev (fun F hF => dev_reset hF HXD.out.1 (rst_dn HXD.out.2 op.zone _))
                    go_wp2_with (first | ((with_reducible refine is_alloc 35 rfl ?_); refine wpList_allocB rfl 35 rfl b35 ?_) | ((with_reducible refine is_alloc 34 rfl ?_); refine wpList_allocB rfl 34 rfl b34 ?_) | ((with_reducible refine is_load 35 rfl ?_); (first | refine wpList_loadBw rfl 35 _ rfl b35 _ _ _ rfl (by assumption) (secA_size _) ?_ | refine wpList_loadB rfl 35 _ rfl b35 _ _ _ rfl (by assumption) (secA_size _) ?_)) | ((with_reducible refine is_load 34 rfl ?_); (first | refine wpList_loadBw rfl 34 _ rfl b34 _ _ _ rfl (by assumption) (secA_size _) ?_ | refine wpList_loadB rfl 34 _ rfl b34 _ _ _ rfl (by assumption) (secA_size _) ?_)) | ((with_reducible refine is_store 35 rfl ?_); refine wpList_storeBw rfl 35 _ _ rfl b35 _ _ _ _ rfl rfl (by assumption) (secA_size _) (secA_bx _) ?_) | ((with_reducible refine is_store 34 rfl ?_); refine wpList_storeBw rfl 34 _ _ rfl b34 _ _ _ _ rfl rfl (by assumption) (secA_size _) (secA_bx _) ?_) | ((with_reducible refine is_build 34 rfl ?_); refine wpList_buildZ34 rfl rfl ?_) | ((with_reducible refine is_build 35 rfl ?_); refine wpList_buildZ35 rfl rfl ?_))
                    refine hc.mono ?_
                    rintro e W6 ⟨rfl, hM6, f6⟩
                    have gb6 := f6.heap gb5 (fun h => ((hP _).1 h.1).2 rfl)
                    have HE := Lib.hid (And.intro gb6 (And.intro (hM6.mono (P' := P) (fun j h1 _ => by
                      rcases h1 with h1 | h1
                      · exact h1.1
                      · exact (hP j).2 ⟨by omega, by omega⟩)) (F5.trans f6 (fun j hj h => by have := ((hP j).1 h.1).1; omega))))
                    clear hc hM6 f6 gb6 hM5 gb5 F5 ck cz co cp hrs
                    go_wp2_with fail
                    go_roundw
                    case rel => exact ⟨k + 1, by omega, by go_num, HE.out.1, HE.out.2.1, HE.out.2.2⟩
                    case measure => simp [intOf]; omega
                  by_cases t4 : op.kind = 4
                  ·
                    rw [t4] at ck
                    have hc := hM5.dev (fun F hF => dev_finish hF HXD.out.1 (rst_dn HXD.out.2 op.zone _))
                    go_wp2_with (first | ((with_reducible refine is_alloc 35 rfl ?_); refine wpList_allocB rfl 35 rfl b35 ?_) | ((with_reducible refine is_alloc 34 rfl ?_); refine wpList_allocB rfl 34 rfl b34 ?_) | ((with_reducible refine is_load 35 rfl ?_); (first | refine wpList_loadBw rfl 35 _ rfl b35 _ _ _ rfl (by assumption) (secA_size _) ?_ | refine wpList_loadB rfl 35 _ rfl b35 _ _ _ rfl (by assumption) (secA_size _) ?_)) | ((with_reducible refine is_load 34 rfl ?_); (first | refine wpList_loadBw rfl 34 _ rfl b34 _ _ _ rfl (by assumption) (secA_size _) ?_ | refine wpList_loadB rfl 34 _ rfl b34 _ _ _ rfl (by assumption) (secA_size _) ?_)) | ((with_reducible refine is_store 35 rfl ?_); refine wpList_storeBw rfl 35 _ _ rfl b35 _ _ _ _ rfl rfl (by assumption) (secA_size _) (secA_bx _) ?_) | ((with_reducible refine is_store 34 rfl ?_); refine wpList_storeBw rfl 34 _ _ rfl b34 _ _ _ _ rfl rfl (by assumption) (secA_size _) (secA_bx _) ?_) | ((with_reducible refine is_build 34 rfl ?_); refine wpList_buildZ34 rfl rfl ?_) | ((with_reducible refine is_build 35 rfl ?_); refine wpList_buildZ35 rfl rfl ?_))
                    refine hc.mono ?_
                    rintro e W6 ⟨rfl, hM6, f6⟩
                    have gb6 := f6.heap gb5 (fun h => ((hP _).1 h.1).2 rfl)
                    have HE := Lib.hid (And.intro gb6 (And.intro (hM6.mono (P' := P) (fun j h1 _ => by
                      rcases h1 with h1 | h1
                      · exact h1.1
                      · exact (hP j).2 ⟨by omega, by omega⟩)) (F5.trans f6 (fun j hj h => by have := ((hP j).1 h.1).1; omega))))
                    clear hc hM6 f6 gb6 hM5 gb5 F5 ck cz co cp hrs
                    go_wp2_with fail
                    go_roundw
                    case rel => exact ⟨k + 1, by omega, by go_num, HE.out.1, HE.out.2.1, HE.out.2.2⟩
                    case measure => simp [intOf]; omega
                  by_cases t5 : op.kind = 5
                  ·
                    rw [t5] at ck
                    have hc := hM5.dev (fun F hF => dev_flush hF HXD.out.1 (flush_dn HXD.out.2))
                    go_wp2_with (first | ((with_reducible refine is_alloc 35 rfl ?_); refine wpList_allocB rfl 35 rfl b35 ?_) | ((with_reducible refine is_alloc 34 rfl ?_); refine wpList_allocB rfl 34 rfl b34 ?_) | ((with_reducible refine is_load 35 rfl ?_); (first | refine wpList_loadBw rfl 35 _ rfl b35 _ _ _ rfl (by assumption) (secA_size _) ?_ | refine wpList_loadB rfl 35 _ rfl b35 _ _ _ rfl (by assumption) (secA_size _) ?_)) | ((with_reducible refine is_load 34 rfl ?_); (first | refine wpList_loadBw rfl 34 _ rfl b34 _ _ _ rfl (by assumption) (secA_size _) ?_ | refine wpList_loadB rfl 34 _ rfl b34 _ _ _ rfl (by assumption) (secA_size _) ?_)) | ((with_reducible refine is_store 35 rfl ?_); refine wpList_storeBw rfl 35 _ _ rfl b35 _ _ _ _ rfl rfl (by assumption) (secA_size _) (secA_bx _) ?_) | ((with_reducible refine is_store 34 rfl ?_); refine wpList_storeBw rfl 34 _ _ rfl b34 _ _ _ _ rfl rfl (by assumption) (secA_size _) (secA_bx _) ?_) | ((with_reducible refine is_build 34 rfl ?_); refine wpList_buildZ34 rfl rfl ?_) | ((with_reducible refine is_build 35 rfl ?_); refine wpList_buildZ35 rfl rfl ?_))
                    refine hc.mono ?_
                    rintro e W6 ⟨rfl, hM6, f6⟩
                    have gb6 := f6.heap gb5 (fun h => ((hP _).1 h.1).2 rfl)
                    have HE := Lib.hid (And.intro gb6 (And.intro (hM6.mono (P' := P) (fun j h1 _ => by
                      rcases h1 with h1 | h1
                      · exact h1.1
                      · exact (hP j).2 ⟨by omega, by omega⟩)) (F5.trans f6 (fun j hj h => by have := ((hP j).1 h.1).1; omega))))
                    clear hc hM6 f6 gb6 hM5 gb5 F5 ck cz co cp hrs
                    go_wp2_with fail
                    go_roundw
                    case rel => exact ⟨k + 1, by omega, by go_num, HE.out.1, HE.out.2.1, HE.out.2.2⟩
                    case measure => simp [intOf]; omega
                  have q1 : (op.kind == 1) = false := beq_eq_false_iff_ne.2 t1
                  have q2 : (op.kind == 2) = false := beq_eq_false_iff_ne.2 t2
                  have q3 : (op.kind == 3) = false := beq_eq_false_iff_ne.2 t3
                  have q4 : (op.kind == 4) = false := beq_eq_false_iff_ne.2 t4
                  have q5 : (op.kind == 5) = false := beq_eq_false_iff_ne.2 t5
                  clear t1 t2 t3 t4 t5
                  have HE := Lib.hid (And.intro gb5 (And.intro (hM5.mono (P' := P) (fun j h1 _ => h1.1)) F5))
                  clear hM5 gb5 F5
                  go_wp2_with fail
                  go_roundw
                  case rel => exact ⟨k + 1, by omega, by go_num, HE.out.1, HE.out.2.1, HE.out.2.2⟩
                  case measure => simp [intOf]; omega
                · obtain rfl : k = ps.length := by omega
                  have hsm := same_calls hM
                  go_wp2_with (first | ((with_reducible refine is_load 27 rfl ?_); refine wpList_loadBw rfl 27 _ rfl b27 _ _ _ rfl (by first | assumption | exact blk_new _ _) rfl ?_) | ((with_reducible refine is_store 27 rfl ?_); refine wpList_storeBw rfl 27 _ _ rfl b27 _ _ _ _ rfl rfl (by first | assumption | exact blk_new _ _) rfl (bx27 _ _ _ _ _ _ _) ?_) | ((with_reducible refine is_load 117 rfl ?_); (first | refine wpList_loadBw rfl 117 _ rfl b117 _ _ _ rfl (by first | assumption | exact blk_new _ _) rfl ?_ | refine wpList_loadB rfl 117 _ rfl b117 _ _ _ rfl (by assumption) rfl ?_)) | ((with_reducible refine is_store 117 rfl ?_); (first | refine wpList_storeBw rfl 117 _ _ rfl b117 _ _ _ _ rfl rfl (by first | assumption | exact blk_new _ _) rfl (bx117 _ _ _ _ _ _) ?_ | refine wpList_storeBm rfl 117 _ _ rfl b117 _ _ _ rfl rfl (by assumption) (bx117 _ _ _ _ _ _) ?_)))
                  refine hsm.mono ?_
                  rintro e W8 ⟨rfl, f8⟩
                  go_wp2
                  go_ret
                  exact ⟨rfl, (hF.trans f8 (fun _ _ h => h)).below (Nat.le_refl _) (fun _ _ => id)⟩
end Go.Proofs.Ytkbagfpoegfcaaa

/- DeviceLimit: the plain law and the walk. Conditions: the steps are read. -/
import Derived.Test.YtkbagfpoegfcaaaD40
namespace Go.Proofs.Ytkbagfpoegfcaaa
open Go.RowKit Go.Conc

theorem StepR.same {X Y : DS} {o : Op7} (h : StepR X o Y) : Y.zs.length = X.zs.length ∧ Y.op = X.op ∧ Y.size = X.size := by
  cases h with
  | app _ h => cases h <;> simp [DS.tick, DS.set]
  | read _ h => cases h <;> simp [DS.tick]
  | reset _ h => cases h <;> simp [DS.tick, DS.set]
  | finish _ h => cases h <;> simp [DS.tick, DS.set]
  | flush _ h => cases h <;> simp [DS.flush, DS.tick]
  | crash _ => simp
  | revive _ h => cases h <;> simp [DS.revive]
  | fail _ h => cases h <;> simp [DS.set]
  | spoil _ h => cases h <;> simp [DS.set]
  | none _ => simp
theorem opened_set1 (X : DS) {k : Nat} (hk : k < X.zs.length) (z : ZS) : (X.set k z).opened ≤ X.opened + 1 := by
  simp only [DS.opened, DS.set]
  rw [List.countP_set hk]
  split <;> split <;> omega
theorem opened_set (X : DS) {k : Nat} (hk : k < X.zs.length) {z : ZS} (h : z.st = 1 → X.zs[k].st = 1) : (X.set k z).opened ≤ X.opened := by
  simp only [DS.opened, DS.set]
  rw [List.countP_set hk]
  have hp : X.zs[k].st = 1 → 0 < X.zs.countP (fun z => z.st == 1) := fun e => List.countP_pos_iff.2 ⟨_, List.getElem_mem hk, by simpa using e⟩
  by_cases h1 : z.st = 1
  · have h2 := h h1
    have := hp h2
    simp only [h1, h2, beq_self_eq_true, if_true]
    omega
  · have : (z.st == 1) = false := beq_eq_false_iff_ne.2 h1
    simp only [this, Bool.false_eq_true, if_false]
    omega
/-- No step but Revive opens zones past the limit. -/
theorem StepR.lim {X Y : DS} {o : Op7} (hok : X.Ok) (h : StepR X o Y) (h7 : o.kind ≠ 7) : Y.opened ≤ X.op ∨ Y.opened ≤ X.opened := by
  have ht : X.tick.opened = X.opened := rfl
  cases h with
  | app _ h =>
    cases h with
    | ok k hk hdn e1 h0 hf h2 =>
      have h3 := failed_zero hf
      by_cases h4 : X.zs[k].st = 0
      · left
        have := opened_set1 X.tick hk (X.zs[k].app X.size o.sec)
        have := h0 h4
        omega
      · right
        rw [← ht]
        refine opened_set X.tick hk (fun hz => ?_)
        have hz1 := (hok.at hk).st0
        have hz2 := (hok.at hk).st4
        obtain ⟨h5, h6⟩ := h3
        show X.zs[k].st = 1
        omega
    | _ => exact .inr (Nat.le_of_eq ht)
  | read _ h => cases h <;> exact .inr (Nat.le_of_eq rfl)
  | reset _ h =>
    cases h with
    | ok k hk => exact .inr (opened_set X.tick hk (fun e => by simp [ZS.zero] at e))
    | _ => exact .inr (Nat.le_of_eq rfl)
  | finish _ h =>
    cases h with
    | ok k hk => exact .inr (opened_set X.tick hk (fun e => by simp [ZS.finish] at e))
    | _ => exact .inr (Nat.le_of_eq rfl)
  | flush _ h =>
    cases h with
    | ok => exact .inr (Nat.le_of_eq (by simp only [DS.flush, DS.opened, DS.tick, List.countP_map]; rfl))
    | _ => exact .inr (Nat.le_of_eq rfl)
  | crash _ => exact .inr (Nat.le_of_eq rfl)
  | revive h _ => exact absurd h h7
  | fail _ h =>
    cases h with
    | ok k hk => exact .inr (opened_set X hk (fun e => by
        simp only [failTo] at e
        split at e
        · omega
        · exact e))
    | _ => exact .inr (Nat.le_of_eq rfl)
  | spoil _ h =>
    cases h with
    | ok k hk o ho => exact .inr (opened_set X hk (fun e => e))
    | _ => exact .inr (Nat.le_of_eq rfl)
  | none _ => exact .inr (Nat.le_of_eq rfl)
theorem cnt_succ (L : List ZS) {j : Nat} (hj : j < L.length) : (L.take (j + 1)).countP (fun z => z.st == 1) = (L.take j).countP (fun z => z.st == 1) + if L[j].st == 1 then 1 else 0 := by
  rw [List.take_succ_eq_append_getElem hj, List.countP_append]
  simp [List.countP_cons]
set_option linter.unusedSimpArgs false
set_option maxRecDepth 100000 in
set_option maxHeartbeats 8000000 in
theorem limit_walk (w : World) (x y z : Int) (v : Value) (os : List Op7) (ho : OpsAt w w.heap.size v os) : Calls Try.prog 5 #[.int .i64 x, .int .i64 y, .int .i64 z, v] w fun e w' => e = .returned (.bool true) ∧ Below w.heap.size w w' := by
  have ha : Calls Try.prog 22 #[] w _ := anchor_calls
  obtain ⟨a, c, rfl, hel⟩ := ho.val
  have hml := ho.2.2
  have hmx : maxLen = 9223372036854775807 := rfl
  go_enter Try.func5, Try.ntmps5
  go_wp2_with fail
  refine ha.mono ?_
  rintro e w1 ⟨rfl, f1⟩
  clear ha
  have hrt := right_calls (w := w1) x y z
  cases h1 : decide (40 < x) with
  | true =>
    go_wp2
    go_ret
    exact ⟨rfl, f1.below (Nat.le_refl _) (fun _ _ => id)⟩
  | false =>
    have h40 : x ≤ 40 := by have := of_decide_eq_false h1; omega
    cases h2 : rightB x y z with
    | false =>
      rw [h2] at hrt
      go_wp2_with fail
      refine hrt.mono ?_
      rintro e w2 ⟨rfl, rfl⟩
      go_wp2
      go_ret
      exact ⟨rfl, f1.below (Nat.le_refl _) (fun _ _ => id)⟩
    | true =>
      rw [h2] at hrt
      cases h0 : decide ((60 : Int) < (os.length : Int)) with
      | true =>
        go_wp2_with fail
        refine hrt.mono ?_
        rintro e w2 ⟨rfl, rfl⟩
        go_wp2
        go_ret
        exact ⟨rfl, f1.below (Nat.le_refl _) (fun _ _ => id)⟩
      | false =>
        have h60 : os.length ≤ 60 := by have := of_decide_eq_false h0; omega
        unfold rightB at h2
        simp only [Bool.and_eq_true, decide_eq_true_eq] at h2
        obtain ⟨b1, b2, b3, b4, b5, b6⟩ := h2
        obtain ⟨n1, rfl⟩ := Int.eq_ofNat_of_zero_le (a := x) (by omega)
        obtain ⟨n2, rfl⟩ := Int.eq_ofNat_of_zero_le (a := y) (by omega)
        obtain ⟨n3, rfl⟩ := Int.eq_ofNat_of_zero_le (a := z) (by omega)
        have hnew := fun w => dev_new w (zones := n1) (size := n2) (op := n3) (by omega) (by omega) (by omega) (by omega) (by omega) (by omega)
        have hrn := fun w => rnew w (zones := n1) (size := n2) (op := n3) (by omega)
        have hz0 : (DS.new n1 n2 n3).zs.length = n1 := by simp [DS.new]
        clear b1 b2 b3 b4 b5 b6
        go_wp2_with fail
        refine hrt.mono ?_
        rintro e w1 ⟨rfl, rfl⟩
        have hnw := hnew w1
        clear hrt hnew
        go_wp2_with fail
        refine hnw.mono ?_
        rintro e w2 ⟨rfl, hd, f2⟩
        clear hnw
        obtain ⟨d, hde⟩ : ∃ d, w1.heap.size = d := ⟨_, rfl⟩
        rw [hde] at hd
        try rw [hde]
        have hrn2 := hrn w2
        go_wp2_with fail
        refine hrn2.mono ?_
        rintro e w3 ⟨v3, rfl, hr3, f3⟩
        have hdw : w.heap.size ≤ d := by rw [← hde]; exact f1.size
        have hM3 : Mix (fun k => d ≤ k) w3 d v3 (DS.new n1 n2 n3) (DS.new n1 n2 n3) := ⟨_, _, hd.sharp.fr0 f3, hr3, fun k a b => by rcases b with b | b; exact b; have := a.2; omega, fun k a => a.1, fun k a => by rcases a with a | a; exact a.elim; have := f2.size; omega⟩
        obtain ⟨a3, n3', c3, i1, i2, i3, b3, rfl⟩ := hM3.form
        obtain ⟨f4, g4⟩ := boxed w3 #[.slice none 0 0, .int .i64 0, .int .i64 0, .int .i64 0, .bool false] #[.slice a3 n3' c3, .int .i64 i1, .int .i64 i2, .int .i64 i3, .bool b3] 27
        obtain ⟨P, hP, hM4⟩ : ∃ P : Nat → Prop, (∀ k, P k ↔ (d ≤ k ∧ k ≠ w3.heap.size)) ∧ Mix P _ d _ _ _ := ⟨fun k => d ≤ k ∧ k ≠ w3.heap.size, fun _ => Iff.rfl, (hM3.mono (fun k h1 h2 => ⟨h1, by omega⟩)).fr0 f4⟩
        have F4 : Fr (fun _ => False) w _ := (((f1.trans f2 (fun _ _ h => h)).trans f3 (fun _ _ h => h)).trans f4 (fun _ _ h => h))
        have hs3 : d ≤ w3.heap.size := by have h2 := f2.size; have h3 := f3.size; omega
        clear hrn hrn2 hd hr3 hM3
        go_upto_region 9 with (first | ((with_reducible refine is_load 27 rfl ?_); refine wpList_loadBw rfl 27 _ rfl b27 _ _ _ rfl (by first | assumption | exact blk_new _ _) rfl ?_) | ((with_reducible refine is_store 27 rfl ?_); refine wpList_storeBw rfl 27 _ _ rfl b27 _ _ _ _ rfl rfl (by first | assumption | exact blk_new _ _) rfl (bx27 _ _ _ _ _ _ _) ?_) | ((with_reducible refine is_load 117 rfl ?_); (first | refine wpList_loadBw rfl 117 _ rfl b117 _ _ _ rfl (by first | assumption | exact blk_new _ _) rfl ?_ | refine wpList_loadB rfl 117 _ rfl b117 _ _ _ rfl (by assumption) rfl ?_)) | ((with_reducible refine is_store 117 rfl ?_); (first | refine wpList_storeBw rfl 117 _ _ rfl b117 _ _ _ _ rfl rfl (by first | assumption | exact blk_new _ _) rfl (bx117 _ _ _ _ _ _) ?_ | refine wpList_storeBm rfl 117 _ _ rfl b117 _ _ _ rfl rfl (by assumption) (bx117 _ _ _ _ _ _) ?_)))
        generalize (w3.alloc (.cells #[.slice none 0 0, .int .i64 0, .int .i64 0, .int .i64 0, .bool false] 27)).setRow w3.heap.size #[.slice a3 n3' c3, .int .i64 i1, .int .i64 i2, .int .i64 i3, .bool b3] = w4 at *
        obtain ⟨bb, hbb⟩ : ∃ bb, w3.heap.size = bb := ⟨_, rfl⟩
        rw [hbb] at hP g4 hs3
        try rw [hbb]
        clear hbb f1 f2 f3 f4
        have HM4 := Lib.hid hM4
        clear hM4
        go_wp2_with fail
        go_loopw [53] (fun i W => ∃ (k : Nat) (A : Array Value) (X : DS), k ≤ os.length ∧ i = .int .i64 k ∧ W.heap[bb]? = some (.cells A 27 (0, 0)) ∧ Mix P W d (.agg A) X X ∧ X.n ≤ k ∧ X.zs.length = n1 ∧ X.op = n3 ∧ Fr (fun _ => False) w W) (fun i _ => os.length - (intOf i).toNat)
        case atStart => exact ⟨0, _, _, by omega, rfl, g4, HM4.out, by simp [DS.new], hz0, rfl, F4⟩
        case round =>
          obtain ⟨k, A, X, hk, rfl, gb, hM, hXn, hXz, hXo, hF⟩ := hrel
          by_cases hlt : k < os.length
          · obtain ⟨g, o, rfl, hg, hr⟩ := hel k hlt
            obtain ⟨a5, n5, c5, j1, j2, j3, b5, hA⟩ := hM.form
            cases hA
            have hrW := rangeAt_fr hr hF id
            have hK := RdAt.fr0 (ho.2.1 _ (List.getElem_mem hlt)).2 hF
            have hkl := (ho.2.1 _ (List.getElem_mem hlt)).1
            generalize os[k] = op at *
            obtain ⟨Y, hY⟩ := StepR.total X op
            have hYn := hY.n
            obtain ⟨hYz, hYo, -⟩ := hY.same
            have hlim := hY.lim hM.ok
            obtain ⟨f5, g5⟩ := boxed wr z62 (op7A op) 62
            have gb5 := f5.heap gb id
            have hM5 := hM.sharp.fr0 f5
            have hst := step_calls hM5 (by omega) hY (K := fun j => j < w.heap.size) (RdAt.fr0 hK f5) (fun j h1 h2 => by have := (hP j).1 h2.1; omega) (by omega)
            have h1' : (k : Int) < (os.length : Int) := by omega
            have h2' : (0 : Int) ≤ (k : Int) := by omega
            have hbW : bb < wr.heap.size := blk_lt gb
            have hws : w.heap.size ≤ wr.heap.size := hF.size
            go_upto_region 12 with (first | ((with_reducible refine is_alloc 62 rfl ?_); refine wpList_allocB rfl 62 rfl c62 ?_) | ((with_reducible refine is_load 62 rfl ?_); (first | refine wpList_loadBw rfl 62 _ rfl c62 _ _ _ rfl (by assumption) (op7_size _) ?_ | refine wpList_loadB rfl 62 _ rfl c62 _ _ _ rfl (by assumption) (op7_size _) ?_)) | ((with_reducible refine is_store 62 rfl ?_); refine wpList_storeBw rfl 62 _ _ rfl c62 _ _ _ _ rfl rfl (by first | assumption | exact blk_new _ _) c62.zs (op7_bx _) ?_))
            have F5 := hF.trans f5 (fun _ _ h => h)
            have hs5 := f5.size
            generalize (wr.alloc (.cells z62 62)).setRow wr.heap.size (op7A op) = W5 at *
            obtain ⟨bo, hbo⟩ : ∃ bo, wr.heap.size = bo := ⟨_, rfl⟩
            rw [hbo] at g5 hbW hws hM5 hst hs5
            try rw [hbo]
            clear hM hrW hr hK gb hbo f5
            have HST := Lib.hid hst
            have HLM := Lib.hid hlim
            have HXZ := Lib.hid (And.intro hXz (And.intro hXo hYz))
            have hYo' := Lib.hid (hYo.trans hXo)
            clear hst hlim hXz hXo hYz hYo
            go_wp2_with fail
            go_loopw [14, 58] (fun c i W => ∃ j : Nat, j ≤ n1 ∧ i = .int .i64 j ∧ c = .int .i64 ((X.zs.take j).countP (fun z => z.st == 1)) ∧ W = W5) (fun _ i _ => n1 - (intOf i).toNat)
            case atStart => exact ⟨0, by omega, rfl, rfl, rfl⟩
            case round =>
              obtain ⟨j, hj, rfl, rfl, hW⟩ := hrel
              subst hW
              by_cases hlj : j < n1
              · have hdv := (hM5).look (fun F hF _ => dev_state hF (k := j) (by have := HXZ.out.1; omega))
                have hcs := cnt_succ (X).zs (j := j) (by have := HXZ.out.1; omega)
                have hcn : ((X).zs.take j).countP (fun z => z.st == 1) ≤ j := Nat.le_trans List.countP_le_length (by simp; omega)
                generalize ((X).zs.take j).countP (fun z => z.st == 1) = cn at *
                generalize ((X).zs[j]'(by have := HXZ.out.1; omega)).st = st at *
                have h3' : (j : Int) < (n1 : Int) := by omega
                go_wp2_with fail
                refine hdv.mono ?_
                rintro e W6 ⟨rfl, rfl⟩
                clear hdv
                cases hb : (st == 1) with
                | true =>
                  rw [hb] at hcs
                  have HC := Lib.hid hcs
                  clear hcs
                  go_wp2_with fail
                  go_roundw
                  case rel => exact ⟨j + 1, by omega, by go_num, (by rw [HC.out]; simp <;> (unfold wrap64; omega)), (by first | rfl | trivial)⟩
                  case measure => simp [intOf]; omega
                | false =>
                  rw [hb] at hcs
                  have HC := Lib.hid hcs
                  clear hcs
                  go_wp2_with fail
                  go_roundw
                  case rel => exact ⟨j + 1, by omega, by go_num, (by rw [HC.out]; simp), (by first | rfl | trivial)⟩
                  case measure => simp [intOf]; omega
              · have hct : (X.zs.take j).countP (fun z => z.st == 1) = X.opened := by
                  rw [List.take_of_length_le (by have := HXZ.out.1; omega)]; rfl
                rw [hct]
                clear hct
                obtain ⟨cX, hcX⟩ : ∃ cX, X.opened = cX := ⟨_, rfl⟩
                rw [hcX]
                have HCX := Lib.hid hcX
                clear hcX
                have hst := HST.out
                go_wp2_with (first | ((with_reducible refine is_load 27 rfl ?_); refine wpList_loadBw rfl 27 _ rfl b27 _ _ _ rfl (by first | assumption | exact blk_new _ _) rfl ?_) | ((with_reducible refine is_store 27 rfl ?_); refine wpList_storeBw rfl 27 _ _ rfl b27 _ _ _ _ rfl rfl (by first | assumption | exact blk_new _ _) rfl (bx27 _ _ _ _ _ _ _) ?_) | ((with_reducible refine is_load 117 rfl ?_); (first | refine wpList_loadBw rfl 117 _ rfl b117 _ _ _ rfl (by first | assumption | exact blk_new _ _) rfl ?_ | refine wpList_loadB rfl 117 _ rfl b117 _ _ _ rfl (by assumption) rfl ?_)) | ((with_reducible refine is_store 117 rfl ?_); (first | refine wpList_storeBw rfl 117 _ _ rfl b117 _ _ _ _ rfl rfl (by first | assumption | exact blk_new _ _) rfl (bx117 _ _ _ _ _ _) ?_ | refine wpList_storeBm rfl 117 _ _ rfl b117 _ _ _ rfl rfl (by assumption) (bx117 _ _ _ _ _ _) ?_)) | ((with_reducible refine is_alloc 62 rfl ?_); refine wpList_allocB rfl 62 rfl c62 ?_) | ((with_reducible refine is_load 62 rfl ?_); (first | refine wpList_loadBw rfl 62 _ rfl c62 _ _ _ rfl (by assumption) (op7_size _) ?_ | refine wpList_loadB rfl 62 _ rfl c62 _ _ _ rfl (by assumption) (op7_size _) ?_)) | ((with_reducible refine is_store 62 rfl ?_); refine wpList_storeBw rfl 62 _ _ rfl c62 _ _ _ _ rfl rfl (by first | assumption | exact blk_new _ _) c62.zs (op7_bx _) ?_))
                refine hst.mono ?_
                rintro e W6 ⟨v6, rfl, hM6, f6⟩
                clear hst
                obtain ⟨a6, n6, c6, k1, k2, k3, b6, rfl⟩ := hM6.form
                have gb6 := f6.heap gb5 (fun h => ((hP _).1 h.1).2 rfl)
                have go6 := f6.heap g5 (fun h => by have := h.2; omega)
                have fs := setRow_fr W6 bb #[.slice a6 n6 c6, .int .i64 k1, .int .i64 k2, .int .i64 k3, .bool b6]
                have hM7 := (hM6.mono (P' := P) (fun j h1 _ => by
                  rcases h1 with h1 | h1
                  · exact h1.1
                  · exact (hP j).2 ⟨by omega, by omega⟩)).fr fs (fun j h1 e => ((hP j).1 h1).2 e)
                have gb7 := setRow_blk #[.slice a6 n6 c6, .int .i64 k1, .int .i64 k2, .int .i64 k3, .bool b6] gb6
                have go7 := fs.heap go6 (by omega)
                have F7 : Fr (fun _ => False) w (W6.setRow bb #[.slice a6 n6 c6, .int .i64 k1, .int .i64 k2, .int .i64 k3, .bool b6]) := (F5.trans f6 (fun j hj h => by have := ((hP j).1 h.1).1; omega)).trans fs (fun j hj e => by omega)
                have HF7 := Lib.hid F7
                clear hM6 f6 gb5 g5 go6 F7 hM5
                go_upto_region 20 with (first | ((with_reducible refine is_load 27 rfl ?_); refine wpList_loadBw rfl 27 _ rfl b27 _ _ _ rfl (by first | assumption | exact blk_new _ _) rfl ?_) | ((with_reducible refine is_store 27 rfl ?_); refine wpList_storeBw rfl 27 _ _ rfl b27 _ _ _ _ rfl rfl (by first | assumption | exact blk_new _ _) rfl (bx27 _ _ _ _ _ _ _) ?_) | ((with_reducible refine is_load 117 rfl ?_); (first | refine wpList_loadBw rfl 117 _ rfl b117 _ _ _ rfl (by first | assumption | exact blk_new _ _) rfl ?_ | refine wpList_loadB rfl 117 _ rfl b117 _ _ _ rfl (by assumption) rfl ?_)) | ((with_reducible refine is_store 117 rfl ?_); (first | refine wpList_storeBw rfl 117 _ _ rfl b117 _ _ _ _ rfl rfl (by first | assumption | exact blk_new _ _) rfl (bx117 _ _ _ _ _ _) ?_ | refine wpList_storeBm rfl 117 _ _ rfl b117 _ _ _ rfl rfl (by assumption) (bx117 _ _ _ _ _ _) ?_)))
                generalize W6.setRow bb #[.slice a6 n6 c6, .int .i64 k1, .int .i64 k2, .int .i64 k3, .bool b6] = W7 at *
                clear fs gb6
                go_wp2_with fail
                go_loopw [16, 76] (fun c i W => ∃ j : Nat, j ≤ n1 ∧ i = .int .i64 j ∧ c = .int .i64 ((Y.zs.take j).countP (fun z => z.st == 1)) ∧ W = W7) (fun _ i _ => n1 - (intOf i).toNat)
                case atStart => exact ⟨0, by omega, rfl, rfl, rfl⟩
                case round =>
                  obtain ⟨j, hj, rfl, rfl, hW⟩ := hrel
                  subst hW
                  by_cases hlj : j < n1
                  · have hdv := (hM7).look (fun F hF _ => dev_state hF (k := j) (by have := (And.intro HXZ.out.1 HXZ.out.2.2); omega))
                    have hcs := cnt_succ (Y).zs (j := j) (by have := (And.intro HXZ.out.1 HXZ.out.2.2); omega)
                    have hcn : ((Y).zs.take j).countP (fun z => z.st == 1) ≤ j := Nat.le_trans List.countP_le_length (by simp; omega)
                    generalize ((Y).zs.take j).countP (fun z => z.st == 1) = cn at *
                    generalize ((Y).zs[j]'(by have := (And.intro HXZ.out.1 HXZ.out.2.2); omega)).st = st at *
                    have h3' : (j : Int) < (n1 : Int) := by omega
                    go_wp2_with fail
                    refine hdv.mono ?_
                    rintro e W6 ⟨rfl, rfl⟩
                    clear hdv
                    cases hb : (st == 1) with
                    | true =>
                      rw [hb] at hcs
                      have HC := Lib.hid hcs
                      clear hcs
                      go_wp2_with fail
                      go_roundw
                      case rel => exact ⟨j + 1, by omega, by go_num, (by rw [HC.out]; simp <;> (unfold wrap64; omega)), (by first | rfl | trivial)⟩
                      case measure => simp [intOf]; omega
                    | false =>
                      rw [hb] at hcs
                      have HC := Lib.hid hcs
                      clear hcs
                      go_wp2_with fail
                      go_roundw
                      case rel => exact ⟨j + 1, by omega, by go_num, (by rw [HC.out]; simp), (by first | rfl | trivial)⟩
                      case measure => simp [intOf]; omega
                  · have hct : (Y.zs.take j).countP (fun z => z.st == 1) = Y.opened := by
                      rw [List.take_of_length_le (by have := HXZ.out.1; have := HXZ.out.2.2; omega)]; rfl
                    rw [hct]
                    clear hct
                    obtain ⟨cY, hcY⟩ : ∃ cY, Y.opened = cY := ⟨_, rfl⟩
                    rw [hcY]
                    have HCY := Lib.hid hcY
                    clear hcY
                    obtain ⟨ck, -, -, -, -⟩ := op7_box go7
                    have HE := Lib.hid (And.intro gb7 (And.intro hM7 (And.intro hYn HF7.out)))
                    have hno : op.kind ≠ 7 → n3 < cY → cX < cY → False := fun h1 h2 h3 => by
                      have h4 := HLM.out h1
                      rw [HXZ.out.2.1, HCY.out, HCX.out] at h4
                      omega
                    have HNO := Lib.hid hno
                    clear gb7 hM7 hno
                    have fin : ∃ (k' : Nat) (A : Array Value) (X : DS), k' ≤ os.length ∧ (Value.int .i64 ((k : Int) + 1)) = .int .i64 k' ∧ wr.heap[bb]? = some (.cells A 27 (0, 0)) ∧ Mix P wr d (.agg A) X X ∧ X.n ≤ k' ∧ X.zs.length = n1 ∧ X.op = n3 ∧ Fr (fun _ => False) w wr := ⟨k + 1, _, Y, by omega, by go_num, HE.out.1, HE.out.2.1, by have := HE.out.2.2.1; omega, by have := HXZ.out.2.2; have := HXZ.out.1; omega, hYo'.out, HE.out.2.2.2⟩
                    have FIN := Lib.hid fin
                    clear fin
                    cases hk7 : (op.kind != 7) with
                    | false =>
                      go_wp2_with fail
                      go_roundw
                      case rel => exact FIN.out
                      case measure => simp [intOf]; omega
                    | true =>
                      cases h92 : decide (n3 < cY) with
                      | false =>
                        go_wp2_with fail
                        go_roundw
                        case rel => exact FIN.out
                        case measure => simp [intOf]; omega
                      | true =>
                        cases h97 : decide (cX < cY) with
                        | true => exact (HNO.out (by simpa using hk7) (of_decide_eq_true h92) (of_decide_eq_true h97)).elim
                        | false =>
                          go_wp2_with fail
                          go_roundw
                          case rel => exact FIN.out
                          case measure => simp [intOf]; omega
          · obtain rfl : k = os.length := by omega
            go_wp2_with fail
            go_ret
            exact ⟨rfl, hF.below (Nat.le_refl _) (fun _ _ => id)⟩
end Go.Proofs.Ytkbagfpoegfcaaa

/- The document's zone: Crash, Change. Conditions: fewer than 100 sectors, small numbers. -/
import Derived.Test.YtlffjkijjggpkaaZr
import Derived.Deep.Cut
namespace Go.Proofs.Ytlffjkijjggpkaa
open Go.RowKit Go.Conc

section
variable {base : Nat} {w : World} {v : Value} {L : List Int} {size safe st : Int} {fin : Bool}
theorem crash_take {n safe x : Int} {m k : Nat} (hm : (m : Int) = crashN safe n x) (hk : (k : Int) < n) : ((k : Int) < safe ∨ (k : Int) - safe < x) ↔ k < m := by
  unfold crashN at hm
  split at hm
  · omega
  · split at hm <;> omega

set_option linter.unusedSimpArgs false in
set_option maxHeartbeats 4000000 in
theorem rcrash (hr : w.ownsRow base 3 1 v L.length (ints L)) (hs0 : 0 ≤ safe) (hs1 : safe ≤ L.length) (hl : L.length < 100) (x : Int) (m : Nat) (hm : (m : Int) = crashN safe L.length x) :
    Calls Try.prog 37 #[.agg #[v, .int .i64 size, .int .i64 safe, .int .i64 st, .bool fin], .int .i64 x] w fun e w' => ∃ v',
      e = .returned (.agg #[v', .int .i64 size, .int .i64 m, .int .i64 (crashSt st m size fin), .bool fin]) ∧ w'.ownsRow w.heap.size 3 1 v' m (ints (L.take m)) ∧ Below w.heap.size w w' := by
  obtain ⟨a, cap, hv⟩ := row_val hr
  have hmL : m ≤ L.length := by unfold crashN at hm; split at hm <;> (try split at hm) <;> omega
  obtain ⟨stn, hstn⟩ : ∃ y, crashSt st m size fin = y := ⟨_, rfl⟩
  rw [hstn]
  have HM := Lib.hid hm
  have HR := hr
  subst hv
  have ba := two_below w (.cells #[.slice a L.length cap, .int .i64 size, .int .i64 safe, .int .i64 st, .bool fin] 49) (.cells #[.slice none 0 0, .int .i64 0, .int .i64 0, .int .i64 0, .bool false] 49)
  have g1 := two_old w (.cells #[.slice a L.length cap, .int .i64 size, .int .i64 safe, .int .i64 st, .bool fin] 49) (.cells #[.slice none 0 0, .int .i64 0, .int .i64 0, .int .i64 0, .bool false] 49)
  have g2 := two_new w (.cells #[.slice a L.length cap, .int .i64 size, .int .i64 safe, .int .i64 st, .bool fin] 49) (.cells #[.slice none 0 0, .int .i64 0, .int .i64 0, .int .i64 0, .bool false] 49)
  clear hm
  go_enter Try.func37, Try.ntmps37
  go_wp2_with fail
  generalize (w.alloc (.cells #[.slice a L.length cap, .int .i64 size, .int .i64 safe, .int .i64 st, .bool fin] 49)).alloc (.cells #[.slice none 0 0, .int .i64 0, .int .i64 0, .int .i64 0, .bool false] 49) = w2 at ba g1 g2 ⊢
  have r2 := row_fr hr (Fr.of_below (S := fun _ => False) ba) (fun _ _ => id)
  go_loopw [5, 6] (fun u i W => ∃ k : Nat, k ≤ L.length ∧ i = .int .i64 k ∧ W.ownsRow w.heap.size 3 1 u (min k m) (ints (L.take (min k m))) ∧ Fr (fun _ => False) w2 W ∧ (∀ j, u.ownBlock = some j → w2.heap.size ≤ j)) (fun _ i _ => L.length - (intOf i).toNat)
  case atStart => exact ⟨0, by omega, rfl, by rw [Nat.zero_min]; exact World.ownsRow_nil w2 w.heap.size 3 1, Fr.refl _ _, by intro j hj; cases hj⟩
  case round =>
    obtain ⟨k, hk, rfl, hu, hf, ho⟩ := hrel
    obtain ⟨au, cu, rfl⟩ := row_val hu
    have g1w := hf.heap g1 id
    have g2w := hf.heap g2 id
    have rw' := row_fr r2 hf (fun _ _ => id)
    have hsz := hf.size
    have hbs := ba.size
    have cg := fun i => blk_cell g1w i
    by_cases hlt : k < L.length
    · obtain ⟨g, cap', e, hcl, -⟩ := row_cell (L := ints L) rw' (i := k) (by rw [ints_length]; exact hlt)
      have hye : (ints L)[k]'(by rw [ints_length]; exact hlt) = .int .i64 L[k] := by simp [ints]
      rw [hye] at hcl
      cases e
      have hw : IntKind.i64.wrap ((k : Int) - safe) = k - safe := IntWalk.i64_in _ (by omega)
      by_cases c1 : (k : Int) < safe
      · go_wp2_with (at_builtin; refine wpList_app (v := .slice au (min k m) cu) rfl (.tmp 26) (.tmp 32) rfl rfl rfl rfl (row_fr hu ((Fr.refl (fun _ => False) wr).alloc _) (fun _ _ => id)) (base' := 0) (m := 1) (ys := [.int .i64 L[k]]) ⟨rfl, .inr ⟨wr.heap.size, 1, _, rfl, Nat.zero_le _, blk_new wr _, Nat.le_refl _, by unfold maxLen; omega, rfl, rfl⟩⟩ (by intro u hu; simp at hu; subst hu; rfl) (by omega) (by simp; omega) ?_; intro a4 n4 w4 hown4 hgrow4 hat4)
        have hkm := (crash_take HM.out (k := k) (by omega)).1 (.inl c1)
        have hf4 : Fr (fun k' => (Value.slice au (min k m) cu).ownBlock = some k') (wr.alloc (.cells #[.int .i64 L[k]] 3)) w4 := Fr.grown hgrow4 (fun k hk => hk)
        have hf5 : Fr (fun _ => False) w2 w4 := (hf.alloc _).trans hf4 (fun i hi e => by have := ho _ e; omega)
        have e1 : min k m + 1 = min (k + 1) m := by omega
        have e2 : ints (L.take (min k m)) ++ [.int .i64 L[k]] = ints (L.take (min (k + 1) m)) := by
          rw [show min k m = k by omega, show min (k + 1) m = k + 1 by omega, List.take_succ_eq_append_getElem hlt, ints, ints, List.map_append]; rfl
        rw [e2] at hown4
        have ho4 : ∀ j, (Value.slice a4 (min k m + 1) n4).ownBlock = some j → w2.heap.size ≤ j := fun j hj => by
          rcases hat4 with e | e
          · exact ho j (e.symm.trans hj)
          · rw [hj] at e; cases e; simp; omega
        rw [e1] at hown4 ho4 ⊢
        go_roundw
        case rel => exact ⟨k + 1, by omega, by go_num, hown4, hf5, ho4⟩
        case measure => simp [intOf]; omega
      · by_cases c2 : (k : Int) - safe < x
        · go_wp2_with (at_builtin; refine wpList_app (v := .slice au (min k m) cu) rfl (.tmp 26) (.tmp 32) rfl rfl rfl rfl (row_fr hu ((Fr.refl (fun _ => False) wr).alloc _) (fun _ _ => id)) (base' := 0) (m := 1) (ys := [.int .i64 L[k]]) ⟨rfl, .inr ⟨wr.heap.size, 1, _, rfl, Nat.zero_le _, blk_new wr _, Nat.le_refl _, by unfold maxLen; omega, rfl, rfl⟩⟩ (by intro u hu; simp at hu; subst hu; rfl) (by omega) (by simp; omega) ?_; intro a4 n4 w4 hown4 hgrow4 hat4)
          have hkm := (crash_take HM.out (k := k) (by omega)).1 (.inr c2)
          have hf4 : Fr (fun k' => (Value.slice au (min k m) cu).ownBlock = some k') (wr.alloc (.cells #[.int .i64 L[k]] 3)) w4 := Fr.grown hgrow4 (fun k hk => hk)
          have hf5 : Fr (fun _ => False) w2 w4 := (hf.alloc _).trans hf4 (fun i hi e => by have := ho _ e; omega)
          have e1 : min k m + 1 = min (k + 1) m := by omega
          have e2 : ints (L.take (min k m)) ++ [.int .i64 L[k]] = ints (L.take (min (k + 1) m)) := by
            rw [show min k m = k by omega, show min (k + 1) m = k + 1 by omega, List.take_succ_eq_append_getElem hlt, ints, ints, List.map_append]; rfl
          rw [e2] at hown4
          have ho4 : ∀ j, (Value.slice a4 (min k m + 1) n4).ownBlock = some j → w2.heap.size ≤ j := fun j hj => by
            rcases hat4 with e | e
            · exact ho j (e.symm.trans hj)
            · rw [hj] at e; cases e; simp; omega
          rw [e1] at hown4 ho4 ⊢
          go_roundw
          case rel => exact ⟨k + 1, by omega, by go_num, hown4, hf5, ho4⟩
          case measure => simp [intOf]; omega
        · have hkm : ¬ k < m := fun h => by rcases (crash_take HM.out (k := k) (by omega)).2 h with h | h; exact c1 h; exact c2 h
          have e1 : min (k + 1) m = min k m := by omega
          rw [← e1] at hu ⊢
          go_wp2_with fail
          go_roundw
          case rel => exact ⟨k + 1, by omega, by go_num, hu, hf, by rw [e1]; exact ho⟩
          case measure => simp [intOf]; omega
    · obtain rfl : k = L.length := by omega
      rw [show min L.length m = m by omega] at hu ho ⊢
      have bw := ba.trans (hf.below hbs (fun _ _ h => h))
      clear HM
      have h0 := blk_put g1w 0 (.slice au m cu)
      have h2' := blk_put h0 2 (.int .i64 (m : Int))
      have h2 : ((wr.setCell ⟨w.heap.size, 0, none⟩ (.slice au m cu)).setCell ⟨w.heap.size, 2, none⟩ (.int .i64 (m : Int))).heap[w.heap.size]? = some (.cells #[.slice au m cu, .int .i64 size, .int .i64 (m : Int), .int .i64 st, .bool fin] 49 (0, 0)) := by simpa using h2'
      have f1 := fun i => blk_frozen g1w i
      have f0 := fun i => blk_frozen h0 i
      go_upto_region 9 with fail
      have F2 : Fr (fun k => k = w.heap.size) wr ((wr.setCell ⟨w.heap.size, 0, none⟩ (.slice au m cu)).setCell ⟨w.heap.size, 2, none⟩ (.int .i64 (m : Int))) := ((Fr.refl (fun k => k = w.heap.size) wr).setCell (p := ⟨w.heap.size, 0, none⟩) (.inl rfl) (.slice au m cu)).setCell (p := ⟨w.heap.size, 2, none⟩) (.inl rfl) (.int .i64 (m : Int))
      have k2 := F2.heap g2w (by omega)
      have hu2 := row_fr hu F2 (fun k hk => row_ne hu g1w (by decide) hk)
      have bw2 := bw.trans (F2.below bw.size (fun i hi => by omega))
      clear h2' h0 f0 f1 F2 cg rw' hu ho g1w g2w bw r2 hr HR g1 g2 ba
      generalize (wr.setCell ⟨w.heap.size, 0, none⟩ (.slice au m cu)).setCell ⟨w.heap.size, 2, none⟩ (.int .i64 (m : Int)) = X at h2 k2 hu2 bw2 ⊢
      have c2 := fun i => blk_cell h2 i
      have f2 := fun i => blk_frozen h2 i
      have HS := Lib.hid hstn
      clear hstn hf hsz hbs hk hlt
      by_cases q1 : 2 < st
      · skip
        have n2 := fun i => blk_frozen k2 i
        have m2 := fun i => blk_cell k2 i
        go_wp2_with fail
        refine bodyPost_ret (resR37 rfl (put5 k2 _ _ _ _ _)) rfl ⟨.slice au m cu, ?_, row_fr (row_fr hu2 (Fr.refl (fun k => k = w.heap.size) X) (fun k hk => row_ne hu2 h2 (by decide) hk)) (put5_fr _ _ _ _ _ _ _) (fun k hk => row_ne hu2 k2 (by decide) hk), (bw2.trans (Fr.below (Fr.refl (fun k => k = w.heap.size) X) bw2.size (fun i hi => by omega))).trans ((put5_fr _ _ _ _ _ _ _).below (by simpa using bw2.size) (fun i hi => by omega))⟩
        rw [← HS.out]
        rw [crashSt, if_pos (by omega)]
      · cases qb : ((m : Int) == 0) with
        | true =>
          cases fin with
          | true =>
            have h3 := blk_put h2 3 (.int .i64 1)
            have F3 := (Fr.refl (fun k => k = w.heap.size) X).setCell (p := ⟨w.heap.size, 3, none⟩) (.inl rfl) (.int .i64 1)
            have f3 := fun i => blk_frozen h3 i
            have c3 := fun i => blk_cell h3 i
            have h4 := blk_put h3 3 (.int .i64 0)
            have F4 := (F3).setCell (p := ⟨w.heap.size, 3, none⟩) (.inl rfl) (.int .i64 0)
            have f4 := fun i => blk_frozen h4 i
            have c4 := fun i => blk_cell h4 i
            have h6 := blk_put h4 3 (.int .i64 2)
            have F6 := (F4).setCell (p := ⟨w.heap.size, 3, none⟩) (.inl rfl) (.int .i64 2)
            have f6 := fun i => blk_frozen h6 i
            have c6 := fun i => blk_cell h6 i
            have k6 := F6.heap k2 (by omega)
            have n6 := fun i => blk_frozen k6 i
            have m6 := fun i => blk_cell k6 i
            go_wp2_with fail
            refine bodyPost_ret (resR37 rfl (put5 k6 _ _ _ _ _)) rfl ⟨.slice au m cu, ?_, row_fr (row_fr hu2 F6 (fun k hk => row_ne hu2 h2 (by decide) hk)) (put5_fr _ _ _ _ _ _ _) (fun k hk => row_ne hu2 k2 (by decide) hk), (bw2.trans (Fr.below F6 bw2.size (fun i hi => by omega))).trans ((put5_fr _ _ _ _ _ _ _).below (by simpa using bw2.size) (fun i hi => by omega))⟩
            rw [← HS.out]
            rw [crashSt, if_neg (by omega), if_pos (.inl rfl)]
          | false =>
            cases qs : ((m : Int) == size) with
            | true =>
              have h3 := blk_put h2 3 (.int .i64 1)
              have F3 := (Fr.refl (fun k => k = w.heap.size) X).setCell (p := ⟨w.heap.size, 3, none⟩) (.inl rfl) (.int .i64 1)
              have f3 := fun i => blk_frozen h3 i
              have c3 := fun i => blk_cell h3 i
              have h4 := blk_put h3 3 (.int .i64 0)
              have F4 := (F3).setCell (p := ⟨w.heap.size, 3, none⟩) (.inl rfl) (.int .i64 0)
              have f4 := fun i => blk_frozen h4 i
              have c4 := fun i => blk_cell h4 i
              have h6 := blk_put h4 3 (.int .i64 2)
              have F6 := (F4).setCell (p := ⟨w.heap.size, 3, none⟩) (.inl rfl) (.int .i64 2)
              have f6 := fun i => blk_frozen h6 i
              have c6 := fun i => blk_cell h6 i
              have k6 := F6.heap k2 (by omega)
              have n6 := fun i => blk_frozen k6 i
              have m6 := fun i => blk_cell k6 i
              go_wp2_with fail
              refine bodyPost_ret (resR37 rfl (put5 k6 _ _ _ _ _)) rfl ⟨.slice au m cu, ?_, row_fr (row_fr hu2 F6 (fun k hk => row_ne hu2 h2 (by decide) hk)) (put5_fr _ _ _ _ _ _ _) (fun k hk => row_ne hu2 k2 (by decide) hk), (bw2.trans (Fr.below F6 bw2.size (fun i hi => by omega))).trans ((put5_fr _ _ _ _ _ _ _).below (by simpa using bw2.size) (fun i hi => by omega))⟩
              rw [← HS.out]
              rw [crashSt, if_neg (by omega), if_pos (.inr (by simpa using qs))]
            | false =>
              have h3 := blk_put h2 3 (.int .i64 1)
              have F3 := (Fr.refl (fun k => k = w.heap.size) X).setCell (p := ⟨w.heap.size, 3, none⟩) (.inl rfl) (.int .i64 1)
              have f3 := fun i => blk_frozen h3 i
              have c3 := fun i => blk_cell h3 i
              have h4 := blk_put h3 3 (.int .i64 0)
              have F4 := (F3).setCell (p := ⟨w.heap.size, 3, none⟩) (.inl rfl) (.int .i64 0)
              have f4 := fun i => blk_frozen h4 i
              have c4 := fun i => blk_cell h4 i
              have k4 := F4.heap k2 (by omega)
              have n4 := fun i => blk_frozen k4 i
              have m4 := fun i => blk_cell k4 i
              go_wp2_with fail
              refine bodyPost_ret (resR37 rfl (put5 k4 _ _ _ _ _)) rfl ⟨.slice au m cu, ?_, row_fr (row_fr hu2 F4 (fun k hk => row_ne hu2 h2 (by decide) hk)) (put5_fr _ _ _ _ _ _ _) (fun k hk => row_ne hu2 k2 (by decide) hk), (bw2.trans (Fr.below F4 bw2.size (fun i hi => by omega))).trans ((put5_fr _ _ _ _ _ _ _).below (by simpa using bw2.size) (fun i hi => by omega))⟩
              rw [← HS.out]
              rw [crashSt, if_neg (by omega), if_neg (by rintro (h | h); cases h; rw [h] at qs; simp at qs), if_pos (by simpa using qb)]
        | false =>
          cases fin with
          | true =>
            have h3 := blk_put h2 3 (.int .i64 1)
            have F3 := (Fr.refl (fun k => k = w.heap.size) X).setCell (p := ⟨w.heap.size, 3, none⟩) (.inl rfl) (.int .i64 1)
            have f3 := fun i => blk_frozen h3 i
            have c3 := fun i => blk_cell h3 i
            have h5 := blk_put h3 3 (.int .i64 2)
            have F5 := (F3).setCell (p := ⟨w.heap.size, 3, none⟩) (.inl rfl) (.int .i64 2)
            have f5 := fun i => blk_frozen h5 i
            have c5 := fun i => blk_cell h5 i
            have k5 := F5.heap k2 (by omega)
            have n5 := fun i => blk_frozen k5 i
            have m5 := fun i => blk_cell k5 i
            go_wp2_with fail
            refine bodyPost_ret (resR37 rfl (put5 k5 _ _ _ _ _)) rfl ⟨.slice au m cu, ?_, row_fr (row_fr hu2 F5 (fun k hk => row_ne hu2 h2 (by decide) hk)) (put5_fr _ _ _ _ _ _ _) (fun k hk => row_ne hu2 k2 (by decide) hk), (bw2.trans (Fr.below F5 bw2.size (fun i hi => by omega))).trans ((put5_fr _ _ _ _ _ _ _).below (by simpa using bw2.size) (fun i hi => by omega))⟩
            rw [← HS.out]
            rw [crashSt, if_neg (by omega), if_pos (.inl rfl)]
          | false =>
            cases qs : ((m : Int) == size) with
            | true =>
              have h3 := blk_put h2 3 (.int .i64 1)
              have F3 := (Fr.refl (fun k => k = w.heap.size) X).setCell (p := ⟨w.heap.size, 3, none⟩) (.inl rfl) (.int .i64 1)
              have f3 := fun i => blk_frozen h3 i
              have c3 := fun i => blk_cell h3 i
              have h5 := blk_put h3 3 (.int .i64 2)
              have F5 := (F3).setCell (p := ⟨w.heap.size, 3, none⟩) (.inl rfl) (.int .i64 2)
              have f5 := fun i => blk_frozen h5 i
              have c5 := fun i => blk_cell h5 i
              have k5 := F5.heap k2 (by omega)
              have n5 := fun i => blk_frozen k5 i
              have m5 := fun i => blk_cell k5 i
              go_wp2_with fail
              refine bodyPost_ret (resR37 rfl (put5 k5 _ _ _ _ _)) rfl ⟨.slice au m cu, ?_, row_fr (row_fr hu2 F5 (fun k hk => row_ne hu2 h2 (by decide) hk)) (put5_fr _ _ _ _ _ _ _) (fun k hk => row_ne hu2 k2 (by decide) hk), (bw2.trans (Fr.below F5 bw2.size (fun i hi => by omega))).trans ((put5_fr _ _ _ _ _ _ _).below (by simpa using bw2.size) (fun i hi => by omega))⟩
              rw [← HS.out]
              rw [crashSt, if_neg (by omega), if_pos (.inr (by simpa using qs))]
            | false =>
              have h3 := blk_put h2 3 (.int .i64 1)
              have F3 := (Fr.refl (fun k => k = w.heap.size) X).setCell (p := ⟨w.heap.size, 3, none⟩) (.inl rfl) (.int .i64 1)
              have f3 := fun i => blk_frozen h3 i
              have c3 := fun i => blk_cell h3 i
              have k3 := F3.heap k2 (by omega)
              have n3 := fun i => blk_frozen k3 i
              have m3 := fun i => blk_cell k3 i
              go_wp2_with fail
              refine bodyPost_ret (resR37 rfl (put5 k3 _ _ _ _ _)) rfl ⟨.slice au m cu, ?_, row_fr (row_fr hu2 F3 (fun k hk => row_ne hu2 h2 (by decide) hk)) (put5_fr _ _ _ _ _ _ _) (fun k hk => row_ne hu2 k2 (by decide) hk), (bw2.trans (Fr.below F3 bw2.size (fun i hi => by omega))).trans ((put5_fr _ _ _ _ _ _ _).below (by simpa using bw2.size) (fun i hi => by omega))⟩
              rw [← HS.out]
              rw [crashSt, if_neg (by omega), if_neg (by rintro (h | h); cases h; rw [h] at qs; simp at qs), if_neg (by simpa using qb)]
end
end Go.Proofs.Ytlffjkijjggpkaa

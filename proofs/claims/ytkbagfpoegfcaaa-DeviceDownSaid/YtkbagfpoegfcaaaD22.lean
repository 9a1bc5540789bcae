/- The document's device: a zone's crash. Conditions: a zone is small. -/
import Derived.Test.YtkbagfpoegfcaaaD21
namespace Go.Proofs.Ytkbagfpoegfcaaa
open Go.RowKit Go.Conc

theorem s115' : SlTy 115 34 64 := s115
/-- What a zone's crash leaves. -/
def RcrQ (D : Nat → Prop) (w : World) (z : ZS) (e : Ending) (w' : World) : Prop :=
  ∃ l, e = .returned (.agg #[l, .int .i64 z.safe, .int .i64 z.st, .bool z.fin]) ∧ RdS (fun k => D k ∨ w.heap.size ≤ k) w' (l, z) ∧ Fr (fun _ => False) w w'
theorem res92 {tmps : Array Value} {W : World} {g : Nat} {S : Array Value} (h1 : tmps.getD 6 undef = .pointer (some ⟨g, 0, none⟩)) (h2 : W.heap[g]? = some (.cells S 117 (0, 0))) (h4 : S.size = 4) :
    (results Try.f92 tmps).run Try.prog W = .ok (.agg S) W := res_c rfl h1 (run_loadBw b117 h2 h4)
section
variable {w w' : World} {D S : Nat → Prop} {z : ZS}
set_option linter.unusedSimpArgs false
set_option maxRecDepth 100000 in
set_option maxHeartbeats 4000000 in
theorem rcrash {l : Value} (hz : RdS D w (l, z)) {size : Nat} (hs1 : 1 ≤ size) (hsf : z.safe ≤ z.L.length) (hln : z.L.length ≤ 64) (keep : Int) : Calls Try.prog 92 #[.agg #[l, .int .i64 z.safe, .int .i64 z.st, .bool z.fin], .int .i64 keep, .int .i64 size] w (RcrQ D w (z.crash size keep)) := by
  obtain ⟨la, lc, hle⟩ := hz.val
  simp only at hle
  subst hle
  have hzs := RdAt.sharp hz
  obtain ⟨m, hm⟩ : ∃ m, crashN z.safe z.L.length keep = m := ⟨_, rfl⟩
  have hmle : m ≤ z.L.length := by rw [← hm]; exact crashN_le hsf
  have hkept : ∀ k, k < z.L.length → (k < m ↔ (k < z.safe ∨ (k : Int) - z.safe < keep)) := by
    intro k hk
    rw [← hm]; unfold crashN
    omega
  have HK := Lib.hid hkept
  have h2w := two w (.cells #[.slice la z.L.length lc, .int .i64 z.safe, .int .i64 z.st, .bool z.fin] 117) (.cells #[.slice none 0 0, .int .i64 0, .int .i64 0, .bool false] 117)
  have HM := Lib.hid hm
  clear hm hkept
  go_enter Try.func92, Try.ntmps92
  go_upto_region 1 with fail
  generalize (w.alloc (.cells #[.slice la z.L.length lc, .int .i64 z.safe, .int .i64 z.st, .bool z.fin] 117)).alloc (.cells #[.slice none 0 0, .int .i64 0, .int .i64 0, .bool false] 117) = w2 at *
  obtain ⟨F2, g0, g1, hsz⟩ := h2w
  have hz2 := hzs.fr0 F2
  have HSZ := Lib.hid hsz
  clear hsz hzs
  go_wp2_with fail
  go_loopw [7, 8] (fun v i W => ∃ k : Nat, k ≤ z.L.length ∧ i = .int .i64 k ∧ W.ownsRow 0 34 64 v (min k m) (secs (z.L.take (min k m))) ∧ (∀ j, v.ownBlock = some j → w2.heap.size ≤ j) ∧ Fr (fun _ => False) w2 W) (fun _ i _ => z.L.length - (intOf i).toNat)
  case atStart => exact ⟨0, by omega, rfl, by rw [Nat.zero_min]; exact World.ownsRow_nil w2 0 34 64, fun j hj => (by cases hj), Fr.refl _ _⟩
  case round =>
    obtain ⟨k, hk, rfl, hrow, hown, hf⟩ := hrel
    have g0r := hf.heap g0 id
    have c0 := fun i => blk_cell g0r i
    by_cases hlt : k < z.L.length
    · have h1 : (k : Int) < (z.L.length : Int) := by omega
      have h2 : (0 : Int) ≤ (k : Int) := by omega
      have hks := HK.out k hlt
      have hzr := RdAt.fr0 hz2 hf
      obtain ⟨gs, os, rfl, hDs, hrs⟩ := hzr.sec hlt
      by_cases hkm : k < m
      · have e1 : min k m = k := by omega
        have e2 : min (k + 1) m = k + 1 := by omega
        rw [e1] at hrow
        have hts : z.L.take (k + 1) = z.L.take k ++ [z.L[k]] := List.take_succ_eq_append_getElem hlt
        have HTS := Lib.hid hts
        have HE2 := Lib.hid e2
        have FA := (Fr.refl (fun _ => False) wr).alloc (.cells (secA z.L[k]) 34)
        have hrowA := row_fr hrow FA (fun _ _ => id)
        have rdA := one_rd wr (secA z.L[k]) 34
        have HF := Lib.hid (And.intro hf hown)
        clear e1 e2 hts hf hown hzr
        obtain ⟨va, vc, rfl⟩ := row_val hrow
        rcases Nat.lt_or_ge k z.safe with hks1 | hks1
        · have b1 : decide (k < z.safe) = true := decide_eq_true (by omega)
          clear hks hrow
          have hsm := secA_size z.L[k]
          have hrsf := rangeAt_fr hrs (Fr.refl (fun _ => False) wr) id
          go_wp2_with (first | ((with_reducible refine is_load 34 rfl ?_); refine wpList_loadB rfl 34 _ rfl b34 _ _ _ rfl (by assumption) (secA_size _) ?_) | ((with_reducible refine is_slice 115 rfl ?_); refine wpList_one rfl 115 34 _ rfl Try.underlying115 b34 (by omega) _ rfl (secA_size _) ?_) | (at_builtin; refine wpList_app rfl s115 hrowA rdA _ _ rfl rfl rfl rfl (secL_len _) (secL_one _) (by omega) (Nat.zero_le _) ?_; intro a9 c9 w9 hr9 hg9 ho9))
          have F9 := (Fr.grown (S := fun j => (Value.slice va k vc).ownBlock = some j) hg9 (fun _ h => h))
          obtain ⟨hf, hown⟩ := HF.out
          have hf9 := (hf.trans FA (fun _ _ h => h)).trans F9 (fun j hj e => by have := hown j e; omega)
          have hr9' : w9.ownsRow 0 34 64 (.slice a9 (k + 1) c9) (min (k + 1) m) (secs (z.L.take (min (k + 1) m))) := by
            rw [HE2.out, HTS.out, secs, flat_app, flat_one]; exact hr9
          have ho9' : ∀ j, (Value.slice a9 (k + 1) c9).ownBlock = some j → w2.heap.size ≤ j := by
            intro j hj
            rcases ho9 with e | e
            · exact hown j (e ▸ hj)
            · rw [hj] at e; simp at e; have := hf.size; omega
          have H9 := Lib.hid (And.intro hr9' (And.intro ho9' hf9))
          clear hr9 hg9 ho9 F9 hf hown hf9 hr9' ho9' hrowA rdA
          go_roundw
          case rel => exact ⟨k + 1, by omega, by go_num, H9.out.1, H9.out.2.1, H9.out.2.2⟩
          case measure => simp [intOf]; omega
        · have b1 : decide (k < z.safe) = false := decide_eq_false (by omega)
          have b2 : decide ((k : Int) - z.safe < keep) = true := decide_eq_true (by omega)
          clear hks hrow
          have hsm := secA_size z.L[k]
          have hrsf := rangeAt_fr hrs (Fr.refl (fun _ => False) wr) id
          go_wp2_with (first | ((with_reducible refine is_load 34 rfl ?_); refine wpList_loadB rfl 34 _ rfl b34 _ _ _ rfl (by assumption) (secA_size _) ?_) | ((with_reducible refine is_slice 115 rfl ?_); refine wpList_one rfl 115 34 _ rfl Try.underlying115 b34 (by omega) _ rfl (secA_size _) ?_) | (at_builtin; refine wpList_app rfl s115 hrowA rdA _ _ rfl rfl rfl rfl (secL_len _) (secL_one _) (by omega) (Nat.zero_le _) ?_; intro a9 c9 w9 hr9 hg9 ho9))
          have F9 := (Fr.grown (S := fun j => (Value.slice va k vc).ownBlock = some j) hg9 (fun _ h => h))
          obtain ⟨hf, hown⟩ := HF.out
          have hf9 := (hf.trans FA (fun _ _ h => h)).trans F9 (fun j hj e => by have := hown j e; omega)
          have hr9' : w9.ownsRow 0 34 64 (.slice a9 (k + 1) c9) (min (k + 1) m) (secs (z.L.take (min (k + 1) m))) := by
            rw [HE2.out, HTS.out, secs, flat_app, flat_one]; exact hr9
          have ho9' : ∀ j, (Value.slice a9 (k + 1) c9).ownBlock = some j → w2.heap.size ≤ j := by
            intro j hj
            rcases ho9 with e | e
            · exact hown j (e ▸ hj)
            · rw [hj] at e; simp at e; have := hf.size; omega
          have H9 := Lib.hid (And.intro hr9' (And.intro ho9' hf9))
          clear hr9 hg9 ho9 F9 hf hown hf9 hr9' ho9' hrowA rdA
          go_roundw
          case rel => exact ⟨k + 1, by omega, by go_num, H9.out.1, H9.out.2.1, H9.out.2.2⟩
          case measure => simp [intOf]; omega
      · have e1 : min k m = m := by omega
        have e2 : min (k + 1) m = m := by omega
        have b1 : decide (k < z.safe) = false := decide_eq_false (by omega)
        have b2 : decide ((k : Int) - z.safe < keep) = false := decide_eq_false (by omega)
        rw [e1] at hrow
        have HE2 := Lib.hid e2
        clear e1 e2 hks
        go_wp2_with fail
        go_roundw
        case rel => exact ⟨k + 1, by omega, by go_num, by rw [HE2.out]; exact hrow, hown, hf⟩
        case measure => simp [intOf]; omega
    · obtain rfl : k = z.L.length := by omega
      rw [Nat.min_eq_right hmle] at hrow
      obtain ⟨va, vc, rfl⟩ := row_val hrow
      have g1r := hf.heap g1 id
      have f0 := fun i => blk_frozen g0r i
      have gA := blk_put g0r 0 (.slice va m vc)
      simp only [List.setIfInBounds_toArray, List.set_cons_succ, List.set_cons_zero] at gA
      have cA := fun i => blk_cell gA i
      have fA := fun i => blk_frozen gA i
      have gB := blk_put gA 1 (.int .i64 m)
      simp only [List.setIfInBounds_toArray, List.set_cons_succ, List.set_cons_zero] at gB
      have FB : Fr (fun j => j = w.heap.size) wr _ := (Fr.set1 wr w.heap.size 0 (.slice va m vc)).trans (Fr.set1 _ w.heap.size 1 (.int .i64 m)) (fun _ _ h => h)
      have hsz2 := HSZ.out
      have g1B := FB.heap g1r (by omega)
      have hrowB := row_fr hrow FB (fun j hj e => by have := hown j hj; omega)
      have FwB : Fr (fun _ => False) w _ := ((F2.trans hf (fun _ _ h => h)).mono (fun _ _ h => h.elim)).trans FB (fun j hj e => by omega)
      have HROW := Lib.hid (And.intro hrowB hown)
      clear hrow hrowB hown g1r
      go_upto_region 9 with fail
      clear c0 f0 cA fA gA g0r FB
      generalize (wr.setCell ⟨w.heap.size, 0, none⟩ (.slice va m vc)).setCell ⟨w.heap.size, 1, none⟩ (.int .i64 m) = U at *
      have cB := fun i => blk_cell gB i
      have fB := fun i => blk_frozen gB i
      have hfin : ∀ (V : World) (S : Array Value) (s' : Int), Fr (fun j => j = w.heap.size) U V → s' = (z.crash size keep).st → ∀ V', V' = V.setRow (w.heap.size + 1) S → RcrQ D w (z.crash size keep) (.returned (.agg #[.slice va m vc, .int .i64 m, .int .i64 s', .bool z.fin])) V' := by
        rintro V S s' hV rfl _ rfl
        have e1 : (z.crash size keep).L = z.L.take m := by simp [ZS.crash, HM.out]
        have e2 : (z.crash size keep).safe = m := by simp [ZS.crash, HM.out]
        have e3 : (z.L.take m).length = m := by rw [List.length_take]; omega
        have FF := (FwB.trans hV (fun j hj e => by omega)).trans (setRow_fr V (w.heap.size + 1) S) (fun j hj e => by omega)
        refine ⟨.slice va m vc, by rw [e2]; rfl, ?_, FF⟩
        unfold RdS
        simp only
        rw [e1, e3]
        obtain ⟨r1, r2⟩ := HROW.out
        refine (((row_rd r1).fr hV (fun j hj e => by have := r2 j hj; omega)).fr (setRow_fr V (w.heap.size + 1) S) (fun j hj e => by have := r2 j hj; omega)).mono (fun j hj => .inr ?_)
        have := r2 j hj
        omega
      have hst : (z.crash size keep).st = crashSt z.st m size z.fin := by simp [ZS.crash, HM.out]
      have HFIN := Lib.hid hfin
      have HST := Lib.hid hst
      clear hfin hst FwB
      generalize hfi : z.fin = fi at *
      clear hfi
      by_cases q1 : 3 ≤ z.st
      · have q1' : 2 < z.st := by omega
        have e4 : crashSt z.st m size fi = z.st := by rw [crashSt, if_pos q1]
        have E4 := Lib.hid e4
        clear e4
        go_wp2_with (first | ((with_reducible refine is_load 27 rfl ?_); refine wpList_loadBw rfl 27 _ rfl b27 _ _ _ rfl (by first | assumption | exact blk_new _ _) rfl ?_) | ((with_reducible refine is_store 27 rfl ?_); refine wpList_storeBw rfl 27 _ _ rfl b27 _ _ _ _ rfl rfl (by first | assumption | exact blk_new _ _) rfl (bx27 _ _ _ _ _ _ _) ?_) | ((with_reducible refine is_load 117 rfl ?_); (first | refine wpList_loadBw rfl 117 _ rfl b117 _ _ _ rfl (by first | assumption | exact blk_new _ _) rfl ?_ | refine wpList_loadB rfl 117 _ rfl b117 _ _ _ rfl (by assumption) rfl ?_)) | ((with_reducible refine is_store 117 rfl ?_); (first | refine wpList_storeBw rfl 117 _ _ rfl b117 _ _ _ _ rfl rfl (by first | assumption | exact blk_new _ _) rfl (bx117 _ _ _ _ _ _) ?_ | refine wpList_storeBm rfl 117 _ _ rfl b117 _ _ _ rfl rfl (by assumption) (bx117 _ _ _ _ _ _) ?_)))
        exact bodyPost_ret (res92 rfl (setRow_blk _ g1B) rfl) rfl (HFIN.out _ _ _ (Fr.refl _ _) (by rw [HST.out, E4.out]) _ rfl)
      · have q1' : ¬ 2 < z.st := by omega
        have gC := blk_put gB 2 (.int .i64 1)
        have cC := fun i => blk_cell gC i
        have fC := fun i => blk_frozen gC i
        have FC := Fr.set1 U w.heap.size 2 (.int .i64 1)
        have g1C := FC.heap g1B (by omega)
        simp only [List.setIfInBounds_toArray, List.set_cons_succ, List.set_cons_zero] at gC cC
        have HQ := Lib.hid q1
        clear q1
        by_cases q0 : m = 0
        · have b0 : ((m : Int) == 0) = true := by simpa using q0
          have gD := blk_put gC 2 (.int .i64 0)
          have cD := fun i => blk_cell gD i
          have fD := fun i => blk_frozen gD i
          have FD := FC.trans (Fr.set1 _ w.heap.size 2 (.int .i64 0)) (fun _ _ h => h)
          have g1D := FD.heap g1B (by omega)
          simp only [List.setIfInBounds_toArray, List.set_cons_succ, List.set_cons_zero] at gD cD
          have bs : ((m : Int) == (size : Int)) = false := beq_eq_false_iff_ne.2 (by omega)
          have hne : m ≠ size := by omega
          have HNE := Lib.hid hne
          have HQ0 := Lib.hid q0
          clear hne q0
          cases fi with
          | true =>
            have gE := blk_put gD 2 (.int .i64 2)
            have FE := FD.trans (Fr.set1 _ w.heap.size 2 (.int .i64 2)) (fun _ _ h => h)
            have g1E := FE.heap g1B (by omega)
            simp only [List.setIfInBounds_toArray, List.set_cons_succ, List.set_cons_zero] at gE
            have e4 : crashSt z.st m size true = 2 := by rw [crashSt, if_neg HQ.out, if_pos (.inl rfl)]
            have E4 := Lib.hid e4
            clear e4
            go_wp2_with (first | ((with_reducible refine is_load 27 rfl ?_); refine wpList_loadBw rfl 27 _ rfl b27 _ _ _ rfl (by first | assumption | exact blk_new _ _) rfl ?_) | ((with_reducible refine is_store 27 rfl ?_); refine wpList_storeBw rfl 27 _ _ rfl b27 _ _ _ _ rfl rfl (by first | assumption | exact blk_new _ _) rfl (bx27 _ _ _ _ _ _ _) ?_) | ((with_reducible refine is_load 117 rfl ?_); (first | refine wpList_loadBw rfl 117 _ rfl b117 _ _ _ rfl (by first | assumption | exact blk_new _ _) rfl ?_ | refine wpList_loadB rfl 117 _ rfl b117 _ _ _ rfl (by assumption) rfl ?_)) | ((with_reducible refine is_store 117 rfl ?_); (first | refine wpList_storeBw rfl 117 _ _ rfl b117 _ _ _ _ rfl rfl (by first | assumption | exact blk_new _ _) rfl (bx117 _ _ _ _ _ _) ?_ | refine wpList_storeBm rfl 117 _ _ rfl b117 _ _ _ rfl rfl (by assumption) (bx117 _ _ _ _ _ _) ?_)))
            exact bodyPost_ret (res92 rfl (setRow_blk _ g1E) rfl) rfl (HFIN.out _ _ _ FE (by rw [HST.out, E4.out]) _ rfl)
          | false =>
            have e4 : crashSt z.st m size false = 0 := by rw [crashSt, if_neg HQ.out, if_neg (by rintro (h | h); cases h; exact HNE.out h), if_pos HQ0.out]
            have E4 := Lib.hid e4
            clear e4
            go_wp2_with (first | ((with_reducible refine is_load 27 rfl ?_); refine wpList_loadBw rfl 27 _ rfl b27 _ _ _ rfl (by first | assumption | exact blk_new _ _) rfl ?_) | ((with_reducible refine is_store 27 rfl ?_); refine wpList_storeBw rfl 27 _ _ rfl b27 _ _ _ _ rfl rfl (by first | assumption | exact blk_new _ _) rfl (bx27 _ _ _ _ _ _ _) ?_) | ((with_reducible refine is_load 117 rfl ?_); (first | refine wpList_loadBw rfl 117 _ rfl b117 _ _ _ rfl (by first | assumption | exact blk_new _ _) rfl ?_ | refine wpList_loadB rfl 117 _ rfl b117 _ _ _ rfl (by assumption) rfl ?_)) | ((with_reducible refine is_store 117 rfl ?_); (first | refine wpList_storeBw rfl 117 _ _ rfl b117 _ _ _ _ rfl rfl (by first | assumption | exact blk_new _ _) rfl (bx117 _ _ _ _ _ _) ?_ | refine wpList_storeBm rfl 117 _ _ rfl b117 _ _ _ rfl rfl (by assumption) (bx117 _ _ _ _ _ _) ?_)))
            exact bodyPost_ret (res92 rfl (setRow_blk _ g1D) rfl) rfl (HFIN.out _ _ _ FD (by rw [HST.out, E4.out]) _ rfl)
        · have b0 : ((m : Int) == 0) = false := beq_eq_false_iff_ne.2 (by omega)
          have gD := blk_put gC 2 (.int .i64 2)
          have FD := FC.trans (Fr.set1 _ w.heap.size 2 (.int .i64 2)) (fun _ _ h => h)
          have g1D := FD.heap g1B (by omega)
          simp only [List.setIfInBounds_toArray, List.set_cons_succ, List.set_cons_zero] at gD
          have HQ0 := Lib.hid q0
          clear q0
          cases fi with
          | true =>
            have e4 : crashSt z.st m size true = 2 := by rw [crashSt, if_neg HQ.out, if_pos (.inl rfl)]
            have E4 := Lib.hid e4
            clear e4
            go_wp2_with (first | ((with_reducible refine is_load 27 rfl ?_); refine wpList_loadBw rfl 27 _ rfl b27 _ _ _ rfl (by first | assumption | exact blk_new _ _) rfl ?_) | ((with_reducible refine is_store 27 rfl ?_); refine wpList_storeBw rfl 27 _ _ rfl b27 _ _ _ _ rfl rfl (by first | assumption | exact blk_new _ _) rfl (bx27 _ _ _ _ _ _ _) ?_) | ((with_reducible refine is_load 117 rfl ?_); (first | refine wpList_loadBw rfl 117 _ rfl b117 _ _ _ rfl (by first | assumption | exact blk_new _ _) rfl ?_ | refine wpList_loadB rfl 117 _ rfl b117 _ _ _ rfl (by assumption) rfl ?_)) | ((with_reducible refine is_store 117 rfl ?_); (first | refine wpList_storeBw rfl 117 _ _ rfl b117 _ _ _ _ rfl rfl (by first | assumption | exact blk_new _ _) rfl (bx117 _ _ _ _ _ _) ?_ | refine wpList_storeBm rfl 117 _ _ rfl b117 _ _ _ rfl rfl (by assumption) (bx117 _ _ _ _ _ _) ?_)))
            exact bodyPost_ret (res92 rfl (setRow_blk _ g1D) rfl) rfl (HFIN.out _ _ _ FD (by rw [HST.out, E4.out]) _ rfl)
          | false =>
            by_cases qs : m = size
            · have bs : ((m : Int) == (size : Int)) = true := beq_iff_eq.2 (by omega)
              have e4 : crashSt z.st m size false = 2 := by rw [crashSt, if_neg HQ.out, if_pos (.inr qs)]
              have HQS := Lib.hid qs
              clear qs
              have E4 := Lib.hid e4
              clear e4
              go_wp2_with (first | ((with_reducible refine is_load 27 rfl ?_); refine wpList_loadBw rfl 27 _ rfl b27 _ _ _ rfl (by first | assumption | exact blk_new _ _) rfl ?_) | ((with_reducible refine is_store 27 rfl ?_); refine wpList_storeBw rfl 27 _ _ rfl b27 _ _ _ _ rfl rfl (by first | assumption | exact blk_new _ _) rfl (bx27 _ _ _ _ _ _ _) ?_) | ((with_reducible refine is_load 117 rfl ?_); (first | refine wpList_loadBw rfl 117 _ rfl b117 _ _ _ rfl (by first | assumption | exact blk_new _ _) rfl ?_ | refine wpList_loadB rfl 117 _ rfl b117 _ _ _ rfl (by assumption) rfl ?_)) | ((with_reducible refine is_store 117 rfl ?_); (first | refine wpList_storeBw rfl 117 _ _ rfl b117 _ _ _ _ rfl rfl (by first | assumption | exact blk_new _ _) rfl (bx117 _ _ _ _ _ _) ?_ | refine wpList_storeBm rfl 117 _ _ rfl b117 _ _ _ rfl rfl (by assumption) (bx117 _ _ _ _ _ _) ?_)))
              exact bodyPost_ret (res92 rfl (setRow_blk _ g1D) rfl) rfl (HFIN.out _ _ _ FD (by rw [HST.out, E4.out]) _ rfl)
            · have bs : ((m : Int) == (size : Int)) = false := beq_eq_false_iff_ne.2 (by omega)
              have e4 : crashSt z.st m size false = 1 := by rw [crashSt, if_neg HQ.out, if_neg (by rintro (h | h); cases h; exact qs h), if_neg HQ0.out]
              have HQS := Lib.hid qs
              clear qs
              have E4 := Lib.hid e4
              clear e4
              go_wp2_with (first | ((with_reducible refine is_load 27 rfl ?_); refine wpList_loadBw rfl 27 _ rfl b27 _ _ _ rfl (by first | assumption | exact blk_new _ _) rfl ?_) | ((with_reducible refine is_store 27 rfl ?_); refine wpList_storeBw rfl 27 _ _ rfl b27 _ _ _ _ rfl rfl (by first | assumption | exact blk_new _ _) rfl (bx27 _ _ _ _ _ _ _) ?_) | ((with_reducible refine is_load 117 rfl ?_); (first | refine wpList_loadBw rfl 117 _ rfl b117 _ _ _ rfl (by first | assumption | exact blk_new _ _) rfl ?_ | refine wpList_loadB rfl 117 _ rfl b117 _ _ _ rfl (by assumption) rfl ?_)) | ((with_reducible refine is_store 117 rfl ?_); (first | refine wpList_storeBw rfl 117 _ _ rfl b117 _ _ _ _ rfl rfl (by first | assumption | exact blk_new _ _) rfl (bx117 _ _ _ _ _ _) ?_ | refine wpList_storeBm rfl 117 _ _ rfl b117 _ _ _ rfl rfl (by assumption) (bx117 _ _ _ _ _ _) ?_)))
              exact bodyPost_ret (res92 rfl (setRow_blk _ g1C) rfl) rfl (HFIN.out _ _ _ FC (by rw [HST.out, E4.out]) _ rfl)
end
end Go.Proofs.Ytkbagfpoegfcaaa

/- Append to a zone of sectors. Conditions: fewer than 90000 sectors. -/
import Derived.Test.YtkbagfpoegfcaaaD2
namespace Go.Proofs.Ytkbagfpoegfcaaa
open Go.RowKit Go.Conc

/-- The world by what is done. -/
def Ch (w0 : World) : List (Nat × World) → (Nat → Bool) → World
  | [], _ => w0
  | (i, W) :: r, d => if d i = true then W else Ch w0 r d
theorem Ch.keep {w0 : World} {d : Nat → Bool} {m : Nat} : ∀ {l : List (Nat × World)}, (l.map Prod.fst).all (fun i => !(i == m)) = true → Ch w0 l (more d m) = Ch w0 l d
  | [], _ => rfl
  | (i, W) :: r, h => by
    simp only [List.map_cons, List.all_cons, Bool.and_eq_true, Bool.not_eq_true', beq_eq_false_iff_ne] at h
    rw [Ch, Ch, more_other _ h.1, Ch.keep (l := r) h.2]
theorem off_of {ops : Array Oper} {d : Nat → Bool} (hcl : Cl ops d) {j m : Nat} {oj : Oper} (hj : ops[j]? = some oj) (hd : depOn oj m = true) (hm : d m = false) : d j = false := by
  cases h : d j with
  | false => rfl
  | true => have := hcl j oj hj h m hd; rw [hm] at this; cases this
theorem zput0 {w : World} {b : Nat} {v v' : Value} {L' : List Sec} {size safe st : Int} {fin : Bool} (hz : w.heap[b]? = some (.cells #[v, .int .i64 size, .int .i64 safe, .int .i64 st, .bool fin] 135 (0, 0))) (hr : w.ownsRow 0 35 64 v' L'.length (secs L')) :
    ZAt (w.setCell ⟨b, 0, none⟩ v') b v' L' size safe st fin :=
  ⟨by simpa using blk_put hz 0 v', row_fr hr (Fr.set1 w b 0 _) (fun k hk e => by
    obtain ⟨cur, hc⟩ := row_obj hr hk
    exact ne_ty hz hc (by decide) e.symm)⟩
section
variable {w w' : World} {b : Nat} {v : Value} {L : List Sec} {size safe st : Int} {fin : Bool}
theorem appendZ_no (h : ZAt w b v L size safe st fin) (hs : failedOf st ≠ 0) (S : Sec) : Calls Try.prog 74 #[.pointer (some ⟨b, 0, none⟩), .agg (secA S)] w fun e w' => e = .returned (.tuple #[.int .i64 0, .int .i64 (failedOf st)]) ∧ Fr (fun _ => False) w w' := by
  have F := (Fr.refl (fun _ => False) w).alloc (.cells (secA S) 35)
  have h1 := h.fr0 F
  go_enter Try.func74, Try.ntmps74
  go_wp2_with fail
  refine (failedZ h1).mono ?_
  rintro e w' ⟨rfl, rfl⟩
  go_wp2
  go_ret2
  exact ⟨rfl, F⟩
theorem appendZ_full (h : ZAt w b v L size safe 2 fin) (S : Sec) : Calls Try.prog 74 #[.pointer (some ⟨b, 0, none⟩), .agg (secA S)] w fun e w' => e = .returned (.tuple #[.int .i64 0, .int .i64 17]) ∧ Fr (fun _ => False) w w' := by
  have F := (Fr.refl (fun _ => False) w).alloc (.cells (secA S) 35)
  have h1 := h.fr0 F
  go_enter Try.func74, Try.ntmps74
  go_wp2_with fail
  refine (failedZ h1).mono ?_
  rintro e w' ⟨rfl, rfl⟩
  have cg := fun i => blk_cell h1.z i
  have e0 : failedOf 2 = 0 := rfl
  rw [e0]
  go_wp2
  go_ret2
  exact ⟨rfl, F⟩
/-- What Append leaves where there is room. -/
def AppQ (w : World) (b : Nat) (v : Value) (L : List Sec) (size safe : Int) (fin : Bool) (S : Sec) (e : Ending) (w' : World) : Prop :=
  ∃ v', e = .returned (.tuple #[.int .i64 L.length, .int .i64 0]) ∧ ZAt w' b v' (L ++ [S]) size safe (if ((L.length : Int) + 1) = size then 2 else 1) fin ∧ Fr (Zf b v) w w' ∧ (∀ k, v'.ownBlock = some k → v.ownBlock = some k ∨ w.heap.size ≤ k)
set_option linter.unusedSimpArgs false in
set_option maxRecDepth 100000 in
set_option maxHeartbeats 4000000 in
theorem appendZ_room (h : ZAt w b v L size safe st fin) (hs : failedOf st = 0) (h2 : st ≠ 2) (hl : L.length < 90000) (S : Sec) : Calls Try.prog 74 #[.pointer (some ⟨b, 0, none⟩), .agg (secA S)] w (AppQ w b v L size safe fin S) := by
  obtain ⟨a, cap, rfl⟩ := row_val h.row
  have F := (Fr.refl (fun _ => False) w).alloc (.cells (secA S) 35)
  have h1 := h.fr0 F
  have gs := blk_new w (.cells (secA S) 35)
  have e2 : (st == 2) = false := by simpa using h2
  go_enter Try.func74, Try.ntmps74
  go_wp2_with fail
  refine (failedZ h1).mono ?_
  rintro e w' ⟨rfl, rfl⟩
  rw [hs]
  have cg := fun i => blk_cell h1.z i
  go_wp2
  clear cg
  generalize w.alloc (.cells (secA S) 35) = w1 at F h1 gs ⊢
  have hb1 : b < w1.heap.size := blk_lt h1.z
  obtain ⟨W0, hW0⟩ : ∃ W0, w1.drew = W0 := ⟨_, rfl⟩
  have F0 : Fr (fun _ => False) w1 W0 := by rw [← hW0]; exact (Fr.refl _ _).drew
  have h0 := h1.fr0 F0
  have gs0 := F0.heap gs id
  obtain ⟨W1, hW1⟩ : ∃ W1, W0.alloc (.cells (secA S) 35) = W1 := ⟨_, rfl⟩
  have F1 : Fr (fun _ => False) W0 W1 := by rw [← hW1]; exact (Fr.refl _ _).alloc _
  have h11 := h0.fr0 F1
  have gs1 := F1.heap gs0 id
  have rd := one_rd W0 (secA S) 35
  rw [hW1] at rd
  obtain ⟨v1, W2, hr, hrow, hgr, hown⟩ := run_app s46 h11.row rd (secL_len S) (secL_one S) (by omega) (Nat.zero_le _)
  have F2 : Fr (fun k => (Value.slice a L.length cap).ownBlock = some k) W1 W2 := Fr.grown hgr (fun _ e => e)
  have h12 := F2.heap h11.z (h11.ne)
  obtain ⟨a1, c1, rfl⟩ := row_val hrow
  have hrow2 : W2.ownsRow 0 35 64 (.slice a1 (L.length + 1) c1) (L ++ [S]).length (secs (L ++ [S])) := by
    rw [List.length_append, secs, flat_app, flat_one]
    exact hrow
  have hz3 := zput0 h12 hrow2
  obtain ⟨W3, hW3⟩ : ∃ W3, W2.setCell ⟨b, 0, none⟩ (.slice a1 (L.length + 1) c1) = W3 := ⟨_, rfl⟩
  have F3 : Fr (fun k => k = b) W2 W3 := by rw [← hW3]; exact Fr.set1 _ _ _ _
  rw [hW3] at hz3
  have hown2 : ∀ k, (Value.slice a1 (L.length + 1) c1).ownBlock = some k → (Value.slice a L.length cap).ownBlock = some k ∨ w.heap.size ≤ k := by
    intro k hk
    rcases hown with e | e
    · exact .inl (e ▸ hk)
    · right
      rw [hk] at e
      cases e
      have := F.size; have := F0.size; have := F1.size; omega
  have FF : Fr (Zf b (.slice a L.length cap)) w W3 := (((((F.trans F0 (fun _ _ h => h)).trans F1 (fun _ _ h => h)).mono (fun _ _ h => h.elim)).trans F2 (fun _ _ h => .inr h)).trans F3 (fun _ _ h => .inl h))
  clear hown hrow2 hrow hgr
  have HR := Lib.hid hr
  have HW1 := Lib.hid hW1
  have HW3 := Lib.hid hW3
  clear hr hW1 hW3
  refine (wpIn_wide (n := 0)).1 ?_
  refine regionIn_seqC (fun d V => V = Ch W0 [(10, W3), (7, W2), (6, W1)] d) rfl (by kernel_rfl) (by kernel_rfl) (by kernel_rfl) (fun _ => trivial) rfl (hW0) ?_
  apply SeqC.step
  · rfl
  · intro d V hV ht hcl
    (simp [Oper.gives, execOp, Act.eval, go_sem]; exact ⟨rfl, hV.trans (Ch.keep rfl).symm⟩)
  simp only [Act.put, List.setIfInBounds_toArray, List.set_cons_succ, List.set_cons_zero]
  apply SeqC.step
  · rfl
  · intro d V hV ht hcl
    (simp [Oper.gives, execOp, Act.eval, go_sem]; exact ⟨rfl, hV.trans (Ch.keep rfl).symm⟩)
  simp only [Act.put, List.setIfInBounds_toArray, List.set_cons_succ, List.set_cons_zero]
  apply SeqC.step
  · rfl
  · intro d V hV ht hcl
    (simp [Oper.gives, execOp, Act.eval, go_sem]; exact ⟨rfl, hV.trans (Ch.keep rfl).symm⟩)
  simp only [Act.put, List.setIfInBounds_toArray, List.set_cons_succ, List.set_cons_zero]
  apply SeqC.step
  · rfl
  · intro d V hV ht hcl
    (simp [Oper.gives, execOp, Act.eval, go_sem]; exact ⟨rfl, hV.trans (Ch.keep rfl).symm⟩)
  simp only [Act.put, List.setIfInBounds_toArray, List.set_cons_succ, List.set_cons_zero]
  apply SeqC.step
  · rfl
  · intro d V hV ht hcl
    have h7 := ht.later 7 _ rfl (by kernel_rfl)
    have h10 := off_of hcl (j := 10) rfl (by kernel_rfl) h7
    have zV : V.heap[b]? = some (.cells #[.slice a L.length cap, .int .i64 size, .int .i64 safe, .int .i64 st, .bool fin] 135 (0, 0)) := by
      rw [hV, Ch, h10, if_neg (by decide), Ch, h7, if_neg (by decide), Ch]
      split
      · exact h11.z
      · exact h0.z
    have cV := fun i => blk_cell zV i
    simp [Oper.gives, execOp, Act.eval, go_sem, cV]
    exact ⟨rfl, hV.trans (Ch.keep rfl).symm⟩
  simp only [Act.put, List.setIfInBounds_toArray, List.set_cons_succ, List.set_cons_zero]
  apply SeqC.step
  · rfl
  · intro d V hV ht hcl
    have h6 := ht.later 6 _ rfl (by kernel_rfl)
    have h7 := off_of hcl (j := 7) rfl (by kernel_rfl) h6
    have h10 := off_of hcl (j := 10) rfl (by kernel_rfl) h7
    have gV : V.heap[w.heap.size]? = some (.cells (secA S) 35 (0, 0)) := by
      rw [hV, Ch, h10, if_neg (by decide), Ch, h7, if_neg (by decide), Ch, h6, if_neg (by decide)]
      exact gs0
    exact gives_loadB rfl b35 rfl (blk_range gV) (secA_size _) ⟨rfl, hV.trans (Ch.keep rfl).symm⟩
  simp only [Act.put, List.setIfInBounds_toArray, List.set_cons_succ, List.set_cons_zero]
  apply SeqC.step
  · rfl
  · intro d V hV ht hcl
    have h6 := ht.not
    have h7 := off_of hcl (j := 7) rfl (by kernel_rfl) h6
    have h10 := off_of hcl (j := 10) rfl (by kernel_rfl) h7
    have gV : V = W0 := by
      rw [hV, Ch, h10, if_neg (by decide), Ch, h7, if_neg (by decide), Ch, h6, if_neg (by decide)]
      rfl
    subst gV
    refine gives_one rfl Try.underlying46 b35 (by omega) rfl (secA_size _) ⟨rfl, ?_⟩
    rw [HW1.out, Ch, more_other _ (by decide), h10, if_neg (by decide), Ch, more_other _ (by decide), h7, if_neg (by decide), Ch, more_same, if_pos rfl]
  simp only [Act.put, List.setIfInBounds_toArray, List.set_cons_succ, List.set_cons_zero]
  apply SeqC.step
  · rfl
  · intro d V hV ht hcl
    have h6 := ht.dep 6 (by kernel_rfl)
    have h7 := ht.not
    have h10 := off_of hcl (j := 10) rfl (by kernel_rfl) h7
    have gV : V = W1 := by
      rw [hV, Ch, h10, if_neg (by decide), Ch, h7, if_neg (by decide), Ch, h6, if_pos rfl]
    subst gV
    refine gives_val (v := .slice a1 (L.length + 1) c1) (W' := W2) ?_ ⟨rfl, ?_⟩
    · simp only [execOp, resolve, invoke, builtin, Sem.run_bind, Sem.run_pure, Result.andThen_ok, List.map_toArray, List.map_cons, List.map_nil]
      have := HR.out
      simp [Act.eval, this]
    · rw [Ch, more_other _ (by decide), h10, if_neg (by decide), Ch, more_same, if_pos rfl]
  simp only [Act.put, List.setIfInBounds_toArray, List.set_cons_succ, List.set_cons_zero]
  apply SeqC.step
  · rfl
  · intro d V hV ht hcl
    (simp [Oper.gives, execOp, Act.eval, go_sem]; exact ⟨rfl, hV.trans (Ch.keep rfl).symm⟩)
  simp only [Act.put, List.setIfInBounds_toArray, List.set_cons_succ, List.set_cons_zero]
  apply SeqC.step
  · rfl
  · intro d V hV ht hcl
    (simp [Oper.gives, execOp, Act.eval, go_sem]; exact ⟨rfl, hV.trans (Ch.keep rfl).symm⟩)
  simp only [Act.put, List.setIfInBounds_toArray, List.set_cons_succ, List.set_cons_zero]
  apply SeqC.step
  · rfl
  · intro d V hV ht hcl
    have h7 := ht.dep 7 (by kernel_rfl)
    have h10 := ht.not
    have gV : V = W2 := by
      rw [hV, Ch, h10, if_neg (by decide), Ch, h7, if_pos rfl]
    subst gV
    have cV := fun i => blk_cell h12 i
    have eV := fun i => blk_frozen h12 i
    simp [Oper.gives, execOp, Act.eval, go_sem, cV, eV]
    exact ⟨rfl, by rw [HW3.out, Ch, more_same, if_pos rfl]⟩
  simp only [Act.put, List.setIfInBounds_toArray, List.set_cons_succ, List.set_cons_zero]
  refine SeqC.nil fun V hV => ?_
  obtain rfl : V = W3 := hV
  clear gs0 gs1 rd F1 F2 F3 HR HW1 HW3 h12 h11 h0 hW0 F0
  have fg := fun i => blk_frozen hz3.z i
  have cg := fun i => blk_cell hz3.z i
  have hz4 := hz3.put3 1
  have FF4 := FF.setCell (p := ⟨b, 3, none⟩) (.inl (.inl rfl)) (.int .i64 1)
  go_wp2
  clear fg cg
  generalize V.setCell ⟨b, 3, none⟩ (.int .i64 1) = W4 at hz4 FF4 ⊢
  have hz5 := hz4.fr0 (Fr.refl _ _).drew
  have FF5 := FF4.drew
  refine (wpIn_wide (n := 0)).1 ?_
  refine regionIn_seqC (fun _ U => U = W4.drew) rfl (by kernel_rfl) (by kernel_rfl) (by kernel_rfl) (fun _ => trivial) rfl (rfl) ?_
  have cV := fun i => blk_cell hz5.z i
  iterate 10
    apply SeqC.step
    · rfl
    · intro d V hV ht hcl
      subst hV
      simp [Oper.gives, execOp, Act.eval, go_sem, cV]
      rfl
    simp only [Act.put, List.setIfInBounds_toArray, List.set_cons_succ, List.set_cons_zero]
  refine SeqC.nil fun V hV => ?_
  subst hV
  generalize W4.drew = W5 at hz5 FF5 cV ⊢
  by_cases hz : ((L.length : Int) + 1) = size
  · have e3 : (((L.length : Int) + 1) == size) = true := by simpa using hz
    have hz6 := hz5.put3 2
    have FF6 := FF5.setCell (p := ⟨b, 3, none⟩) (.inl (.inl rfl)) (.int .i64 2)
    have fg := fun i => blk_frozen hz5.z i
    have cg := fun i => blk_cell hz6.z i
    have hL : ((L.length : Int) + 1 - 1) = L.length := by omega
    have hw1 : IntKind.i64.wrap ((L.length : Int) + 1 - 1) = L.length := by rw [hL]; exact IntWalk.i64_in _ (by omega)
    go_wp2
    go_ret2
    refine ⟨_, ?_, by rw [if_pos hz]; exact hz6, FF6, hown2⟩
    simp <;> omega
  · have e3 : (((L.length : Int) + 1) == size) = false := by simpa using hz
    have cg := fun i => blk_cell hz5.z i
    go_wp2
    go_ret2
    refine ⟨_, ?_, by rw [if_neg hz]; exact hz5, FF5, hown2⟩
    simp <;> omega
end
end Go.Proofs.Ytkbagfpoegfcaaa

/- A zone of sectors: its memory, New, failed, State, Len, Reset, Flush, Finish, Fail, Read. No condition. -/
import Derived.Test.YtkbagfpoegfcaaaD1
namespace Go.Proofs.Ytkbagfpoegfcaaa
open Go.RowKit Go.Conc

/-- The zone at block b: its sectors L (in the row of v), its size, how many are safe, its state, whether it was finished. -/
structure ZAt (w : World) (b : Nat) (v : Value) (L : List Sec) (size safe st : Int) (fin : Bool) : Prop where
  z : w.heap[b]? = some (.cells #[v, .int .i64 size, .int .i64 safe, .int .i64 st, .bool fin] 135 (0, 0))
  row : w.ownsRow 0 35 64 v L.length (secs L)
/-- Its blocks. -/
def Zf (b : Nat) (v : Value) : Nat → Prop := fun k => k = b ∨ v.ownBlock = some k
section
variable {w w' : World} {b : Nat} {v : Value} {L : List Sec} {size safe st : Int} {fin : Bool} {S : Nat → Prop}
theorem ZAt.ne (h : ZAt w b v L size safe st fin) : v.ownBlock ≠ some b := fun e => by
  obtain ⟨cur, hc⟩ := row_obj h.row e
  exact ne_ty h.z hc (by decide) rfl
theorem ZAt.fr (h : ZAt w b v L size safe st fin) (hf : Fr S w w') (h1 : ¬ S b) (h2 : ∀ k, v.ownBlock = some k → ¬ S k) : ZAt w' b v L size safe st fin :=
  ⟨hf.heap h.z h1, row_fr h.row hf h2⟩
theorem ZAt.fr0 (h : ZAt w b v L size safe st fin) (hf : Fr (fun _ => False) w w') : ZAt w' b v L size safe st fin := h.fr hf id (fun _ _ => id)
theorem ZAt.lt (h : ZAt w b v L size safe st fin) {k : Nat} (hk : Zf b v k) : k < w.heap.size := by
  rcases hk with rfl | hk
  · exact blk_lt h.z
  · exact (h.row.lt k hk).2
theorem ZAt.put3 (h : ZAt w b v L size safe st fin) (x : Int) : ZAt (w.setCell ⟨b, 3, none⟩ (.int .i64 x)) b v L size safe x fin :=
  ⟨by simpa using blk_put h.z 3 (.int .i64 x), row_fr h.row (Fr.set1 w b 3 _) (fun k hk e => h.ne (by rw [hk, e]))⟩
theorem ZAt.put2 (h : ZAt w b v L size safe st fin) (x : Int) : ZAt (w.setCell ⟨b, 2, none⟩ (.int .i64 x)) b v L size x st fin :=
  ⟨by simpa using blk_put h.z 2 (.int .i64 x), row_fr h.row (Fr.set1 w b 2 _) (fun k hk e => h.ne (by rw [hk, e]))⟩
theorem ZAt.put4 (h : ZAt w b v L size safe st fin) (x : Bool) : ZAt (w.setCell ⟨b, 4, none⟩ (.bool x)) b v L size safe st x :=
  ⟨by simpa using blk_put h.z 4 (.bool x), row_fr h.row (Fr.set1 w b 4 _) (fun k hk e => h.ne (by rw [hk, e]))⟩
theorem ZAt.put0 (h : ZAt w b v L size safe st fin) {v' : Value} {L' : List Sec} (hr : w.ownsRow 0 35 64 v' L'.length (secs L')) :
    ZAt (w.setCell ⟨b, 0, none⟩ v') b v' L' size safe st fin :=
  ⟨by simpa using blk_put h.z 0 v', row_fr hr (Fr.set1 w b 0 _) (fun k hk e => by
    obtain ⟨cur, hc⟩ := row_obj hr hk
    exact ne_ty h.z hc (by decide) e.symm)⟩
/-- A sector's cells in the row. -/
theorem ZAt.range (h : ZAt w b v L size safe st fin) {i : Nat} (hi : i < L.length) : ∃ g cap, v = .slice (some ⟨g, 0, none⟩) L.length cap ∧ w.rangeAt g (i * 64) (secA L[i]).toList := by
  obtain ⟨g, cap, e, hr⟩ := row_range h.row hi (by omega)
  refine ⟨g, cap, e, ?_⟩
  have : ((secs L).drop (i * 64)).take 64 = (secA L[i]).toList := by
    unfold secs
    rw [flat_drop secL_len, List.drop_eq_getElem_cons hi, flat_cons, show (64 : Nat) = (secL L[i]).length from (secL_len _).symm, List.take_left]
    rfl
  rwa [this] at hr
end
/-- The error of a zone that failed. -/
def failedOf (st : Int) : Int := if st = 4 then 32 else if st = 3 then 30 else 0
section
variable {w : World} {b : Nat} {v : Value} {L : List Sec} {size safe st : Int} {fin : Bool}
/-- The new zone. -/
theorem newZ_at (w : World) (size : Int) : ZAt (w.alloc (.cells #[.slice none 0 0, .int .i64 size, .int .i64 0, .int .i64 0, .bool false] 135)) w.heap.size (.slice none 0 0) [] size 0 0 false :=
  ⟨blk_new _ _, World.ownsRow_nil _ _ _ _⟩
theorem newZ_ok (h1 : 1 ≤ size) (h2 : size ≤ 64) (w : World) : Calls Try.prog 66 #[.int .i64 size] w fun e w' =>
    e = .returned (.tuple #[.pointer (some ⟨w.heap.size, 0, none⟩), .int .i64 0]) ∧ w' = w.alloc (.cells #[.slice none 0 0, .int .i64 size, .int .i64 0, .int .i64 0, .bool false] 135) := by
  go_enter Try.func66, Try.ntmps66
  go_wp2
  go_ret2
  exact ⟨rfl, rfl⟩
theorem newZ_no (h : size < 1 ∨ 64 < size) (w : World) : Calls Try.prog 66 #[.int .i64 size] w fun e w' => e = .returned (.tuple #[.pointer none, .int .i64 13]) ∧ w' = w := by
  rcases h with h | h
  · go_enter Try.func66, Try.ntmps66
    go_wp2
    go_ret2
    exact ⟨rfl, rfl⟩
  · have h' : 1 ≤ size := by omega
    go_enter Try.func66, Try.ntmps66
    go_wp2
    go_ret2
    exact ⟨rfl, rfl⟩
theorem failedZ (h : ZAt w b v L size safe st fin) : Calls Try.prog 95 #[.pointer (some ⟨b, 0, none⟩)] w fun e w' => e = .returned (.int .i64 (failedOf st)) ∧ w' = w := by
  have cg := fun i => blk_cell h.z i
  by_cases h4 : st = 4
  · have e : failedOf st = 32 := if_pos h4
    rw [e]
    go_enter Try.func95, Try.ntmps95
    go_wp2
    go_ret
    exact ⟨rfl, rfl⟩
  · by_cases h3 : st = 3
    · have e : failedOf st = 30 := by rw [failedOf, if_neg h4, if_pos h3]
      rw [e]
      go_enter Try.func95, Try.ntmps95
      go_wp2
      go_ret
      exact ⟨rfl, rfl⟩
    · have e : failedOf st = 0 := by rw [failedOf, if_neg h4, if_neg h3]
      rw [e]
      go_enter Try.func95, Try.ntmps95
      go_wp2
      go_ret
      exact ⟨rfl, rfl⟩
theorem stateZ (h : ZAt w b v L size safe st fin) : Calls Try.prog 67 #[.pointer (some ⟨b, 0, none⟩)] w fun e w' => e = .returned (.int .i64 st) ∧ w' = w := by
  have cg := fun i => blk_cell h.z i
  go_enter Try.func67, Try.ntmps67
  go_wp2
  go_ret
  exact ⟨rfl, rfl⟩
theorem lenZ (h : ZAt w b v L size safe st fin) : Calls Try.prog 61 #[.pointer (some ⟨b, 0, none⟩)] w fun e w' => e = .returned (.int .i64 L.length) ∧ w' = w := by
  obtain ⟨a, cap, rfl⟩ := row_val h.row
  have cg := fun i => blk_cell h.z i
  go_enter Try.func61, Try.ntmps61
  go_wp2
  go_ret
  exact ⟨rfl, rfl⟩
theorem resetZ_no (h : ZAt w b v L size safe st fin) (hs : failedOf st ≠ 0) : Calls Try.prog 80 #[.pointer (some ⟨b, 0, none⟩)] w fun e w' => e = .returned (.int .i64 (failedOf st)) ∧ w' = w := by
  go_enter Try.func80, Try.ntmps80
  go_wp2_with fail
  refine (failedZ h).mono ?_
  rintro e w' ⟨rfl, rfl⟩
  go_wp2
  go_ret
  exact ⟨rfl, rfl⟩
set_option maxHeartbeats 1000000 in
theorem resetZ_ok (h : ZAt w b v L size safe st fin) (hs : failedOf st = 0) : Calls Try.prog 80 #[.pointer (some ⟨b, 0, none⟩)] w fun e w' =>
    e = .returned (.int .i64 0) ∧ ZAt w' b (.slice none 0 0) [] size 0 0 false ∧ Fr (Zf b v) w w' := by
  have h1 := h.put0 (L' := []) (World.ownsRow_nil w 0 35 64)
  have h2 := h1.put2 0
  have h3 := h2.put3 0
  have h4 := h3.put4 false
  have f4 : Fr (Zf b v) w _ := (((Fr.setCell (Fr.refl (Zf b v) w) (p := ⟨b, 0, none⟩) (.inl (.inl rfl)) (.slice none 0 0)).setCell (p := ⟨b, 2, none⟩) (.inl (.inl rfl)) (.int .i64 0)).setCell (p := ⟨b, 3, none⟩) (.inl (.inl rfl)) (.int .i64 0)).setCell (p := ⟨b, 4, none⟩) (.inl (.inl rfl)) (.bool false)
  have g0 := fun i => blk_frozen h.z i
  have g1 := fun i => blk_frozen h1.z i
  have g2 := fun i => blk_frozen h2.z i
  have g3 := fun i => blk_frozen h3.z i
  go_enter Try.func80, Try.ntmps80
  go_wp2_with fail
  refine (failedZ h).mono ?_
  rintro e w' ⟨rfl, rfl⟩
  rw [hs]
  have c0 := fun i => blk_cell h.z i
  have c1 := fun i => blk_cell h1.z i
  have c2 := fun i => blk_cell h2.z i
  have c3 := fun i => blk_cell h3.z i
  go_wp2
  go_ret
  exact ⟨rfl, h4, f4⟩
theorem flushZ (h : ZAt w b v L size safe st fin) : Calls Try.prog 71 #[.pointer (some ⟨b, 0, none⟩)] w fun e w' => (∃ u, e = .returned u) ∧ ZAt w' b v L size L.length st fin ∧ Fr (Zf b v) w w' := by
  obtain ⟨a, cap, rfl⟩ := row_val h.row
  have cg := fun i => blk_cell h.z i
  have fg := fun i => blk_frozen h.z i
  go_enter Try.func71, Try.ntmps71
  go_wp2
  go_end0
  exact ⟨⟨_, rfl⟩, h.put2 _, (Fr.refl _ _).setCell (.inl (.inl rfl)) _⟩
theorem finishZ_no (h : ZAt w b v L size safe st fin) (hs : failedOf st ≠ 0) : Calls Try.prog 81 #[.pointer (some ⟨b, 0, none⟩)] w fun e w' => e = .returned (.int .i64 (failedOf st)) ∧ w' = w := by
  go_enter Try.func81, Try.ntmps81
  go_wp2_with fail
  refine (failedZ h).mono ?_
  rintro e w' ⟨rfl, rfl⟩
  go_wp2
  go_ret
  exact ⟨rfl, rfl⟩
theorem finishZ_ok (h : ZAt w b v L size safe st fin) (hs : failedOf st = 0) : Calls Try.prog 81 #[.pointer (some ⟨b, 0, none⟩)] w fun e w' =>
    e = .returned (.int .i64 0) ∧ ZAt w' b v L size safe 2 true ∧ Fr (Zf b v) w w' := by
  have h3 := h.put3 2
  have h4 := h3.put4 true
  have f4 : Fr (Zf b v) w _ := ((Fr.refl (Zf b v) w).setCell (p := ⟨b, 3, none⟩) (.inl (.inl rfl)) (.int .i64 2)).setCell (p := ⟨b, 4, none⟩) (.inl (.inl rfl)) (.bool true)
  have g0 := fun i => blk_frozen h.z i
  have g1 := fun i => blk_frozen h3.z i
  go_enter Try.func81, Try.ntmps81
  go_wp2_with fail
  refine (failedZ h).mono ?_
  rintro e w' ⟨rfl, rfl⟩
  rw [hs]
  have c0 := fun i => blk_cell h.z i
  have c1 := fun i => blk_cell h3.z i
  go_wp2
  go_ret
  exact ⟨rfl, h4, f4⟩
def failTo (st x : Int) : Int := if x = 4 ∨ (x = 3 ∧ st ≠ 4) then x else st
theorem failZ (h : ZAt w b v L size safe st fin) (x : Int) : Calls Try.prog 94 #[.pointer (some ⟨b, 0, none⟩), .int .i64 x] w fun e w' =>
    (∃ u, e = .returned u) ∧ ZAt w' b v L size safe (failTo st x) fin ∧ Fr (Zf b v) w w' := by
  have cg := fun i => blk_cell h.z i
  have fg := fun i => blk_frozen h.z i
  by_cases h4 : x = 4
  · subst h4
    go_enter Try.func94, Try.ntmps94
    go_wp2
    go_end0
    exact ⟨⟨_, rfl⟩, by simpa [failTo] using h.put3 4, (Fr.refl _ _).setCell (.inl (.inl rfl)) _⟩
  · by_cases h3 : x = 3
    · subst h3
      by_cases hs : st = 4
      · go_enter Try.func94, Try.ntmps94
        go_wp2
        go_end0
        exact ⟨⟨_, rfl⟩, by simpa [failTo, hs] using h, Fr.refl _ _⟩
      · go_enter Try.func94, Try.ntmps94
        go_wp2
        go_end0
        exact ⟨⟨_, rfl⟩, by simpa [failTo, hs] using h.put3 3, (Fr.refl _ _).setCell (.inl (.inl rfl)) _⟩
    · go_enter Try.func94, Try.ntmps94
      go_wp2
      go_end0
      exact ⟨⟨_, rfl⟩, by simpa [failTo, h3, h4] using h, Fr.refl _ _⟩
theorem res_ct {P : Program} {fn : Func} {tmps : Array Value} {W : World} {x u : Tmp} {T : TypeId} {g : Nat} {V : Value} (hr : fn.results = #[.cell x T, .tmp u]) (hx : tmps.getD x undef = .pointer (some ⟨g, 0, none⟩)) (hl : (loadVar T ⟨g, 0, none⟩).run P W = .ok V W) :
    (results fn tmps).run P W = .ok (.tuple #[V, tmps.getD u undef]) W := by
  unfold results
  rw [hr]
  rw [Array.getD_eq_getD_getElem?] at hx
  simp [asAddr, hx, hl]
theorem res_c {P : Program} {fn : Func} {tmps : Array Value} {W : World} {x : Tmp} {T : TypeId} {g : Nat} {V : Value} (hr : fn.results = #[.cell x T]) (hx : tmps.getD x undef = .pointer (some ⟨g, 0, none⟩)) (hl : (loadVar T ⟨g, 0, none⟩).run P W = .ok V W) :
    (results fn tmps).run P W = .ok V W := by
  unfold results
  rw [hr]
  rw [Array.getD_eq_getD_getElem?] at hx
  simp [asAddr, hx, hl]
theorem res78 {tmps : Array Value} {W : World} {g : Nat} {u : Value} {S : Sec} (h1 : tmps.getD 4 undef = .pointer (some ⟨g, 0, none⟩)) (h3 : tmps.getD 5 undef = u) (h2 : W.heap[g]? = some (.cells (secA S) 35 (0, 0))) :
    (results Try.f78 tmps).run Try.prog W = .ok (.tuple #[.agg (secA S), u]) W := by
  rw [← h3]
  exact res_ct rfl h1 (run_loadBw b35 h2 (secA_size _))
set_option maxRecDepth 100000 in
theorem readZ_off (h : ZAt w b v L size safe 4 fin) (x : Int) : Calls Try.prog 78 #[.pointer (some ⟨b, 0, none⟩), .int .i64 x] w fun e w' => e = .returned (.tuple #[.agg (secA Sec.zero), .int .i64 32]) ∧ Fr (fun _ => False) w w' := by
  have g1 := blk_alloc (blk_new w (.cells (secA Sec.zero) 35)) (.cells (secA Sec.zero) 35)
  have g2 := blk_new (w.alloc (.cells (secA Sec.zero) 35)) (.cells (secA Sec.zero) 35)
  have g3 := blk_alloc (blk_alloc h.z (.cells (secA Sec.zero) 35)) (.cells (secA Sec.zero) 35)
  rw [World.size_alloc] at g2
  have F := ((Fr.refl (fun _ => False) w).alloc (.cells (secA Sec.zero) 35)).alloc (.cells (secA Sec.zero) 35)
  have cg := fun i => blk_cell g3 i
  go_enter Try.func78, Try.ntmps78
  go_wp2_with (first | ((with_reducible refine is_alloc 35 rfl ?_); refine wpList_allocB rfl 35 rfl b35 ?_) | ((with_reducible refine is_alloc 34 rfl ?_); refine wpList_allocB rfl 34 rfl b34 ?_) | ((with_reducible refine is_load 35 rfl ?_); (first | refine wpList_loadBw rfl 35 _ rfl b35 _ _ _ rfl (by assumption) (secA_size _) ?_ | refine wpList_loadB rfl 35 _ rfl b35 _ _ _ rfl (by assumption) (secA_size _) ?_)) | ((with_reducible refine is_load 34 rfl ?_); (first | refine wpList_loadBw rfl 34 _ rfl b34 _ _ _ rfl (by assumption) (secA_size _) ?_ | refine wpList_loadB rfl 34 _ rfl b34 _ _ _ rfl (by assumption) (secA_size _) ?_)) | ((with_reducible refine is_store 35 rfl ?_); refine wpList_storeBw rfl 35 _ _ rfl b35 _ _ _ _ rfl rfl (by assumption) (secA_size _) (secA_bx _) ?_) | ((with_reducible refine is_store 34 rfl ?_); refine wpList_storeBw rfl 34 _ _ rfl b34 _ _ _ _ rfl rfl (by assumption) (secA_size _) (secA_bx _) ?_) | ((with_reducible refine is_build 34 rfl ?_); refine wpList_buildZ34 rfl rfl ?_) | ((with_reducible refine is_build 35 rfl ?_); refine wpList_buildZ35 rfl rfl ?_))
  exact bodyPost_ret (res78 rfl rfl (setRow_blk _ g1)) rfl ⟨rfl, F.trans (setRow_fr _ _ _) (fun i hi e => by omega)⟩
set_option maxRecDepth 100000 in
theorem readZ_no (h : ZAt w b v L size safe st fin) (h4 : st ≠ 4) (x : Int) (hx : x < 0 ∨ L.length ≤ x) : Calls Try.prog 78 #[.pointer (some ⟨b, 0, none⟩), .int .i64 x] w fun e w' => e = .returned (.tuple #[.agg (secA Sec.zero), .int .i64 31]) ∧ Fr (fun _ => False) w w' := by
  obtain ⟨a, cap, rfl⟩ := row_val h.row
  have g1 := blk_alloc (blk_new w (.cells (secA Sec.zero) 35)) (.cells (secA Sec.zero) 35)
  have g2 := blk_new (w.alloc (.cells (secA Sec.zero) 35)) (.cells (secA Sec.zero) 35)
  have g3 := blk_alloc (blk_alloc h.z (.cells (secA Sec.zero) 35)) (.cells (secA Sec.zero) 35)
  rw [World.size_alloc] at g2
  have F := ((Fr.refl (fun _ => False) w).alloc (.cells (secA Sec.zero) 35)).alloc (.cells (secA Sec.zero) 35)
  have cg := fun i => blk_cell g3 i
  rcases hx with hx | hx
  · go_enter Try.func78, Try.ntmps78
    go_wp2_with (first | ((with_reducible refine is_alloc 35 rfl ?_); refine wpList_allocB rfl 35 rfl b35 ?_) | ((with_reducible refine is_alloc 34 rfl ?_); refine wpList_allocB rfl 34 rfl b34 ?_) | ((with_reducible refine is_load 35 rfl ?_); (first | refine wpList_loadBw rfl 35 _ rfl b35 _ _ _ rfl (by assumption) (secA_size _) ?_ | refine wpList_loadB rfl 35 _ rfl b35 _ _ _ rfl (by assumption) (secA_size _) ?_)) | ((with_reducible refine is_load 34 rfl ?_); (first | refine wpList_loadBw rfl 34 _ rfl b34 _ _ _ rfl (by assumption) (secA_size _) ?_ | refine wpList_loadB rfl 34 _ rfl b34 _ _ _ rfl (by assumption) (secA_size _) ?_)) | ((with_reducible refine is_store 35 rfl ?_); refine wpList_storeBw rfl 35 _ _ rfl b35 _ _ _ _ rfl rfl (by assumption) (secA_size _) (secA_bx _) ?_) | ((with_reducible refine is_store 34 rfl ?_); refine wpList_storeBw rfl 34 _ _ rfl b34 _ _ _ _ rfl rfl (by assumption) (secA_size _) (secA_bx _) ?_) | ((with_reducible refine is_build 34 rfl ?_); refine wpList_buildZ34 rfl rfl ?_) | ((with_reducible refine is_build 35 rfl ?_); refine wpList_buildZ35 rfl rfl ?_))
    exact bodyPost_ret (res78 rfl rfl (setRow_blk _ g1)) rfl ⟨rfl, F.trans (setRow_fr _ _ _) (fun i hi e => by omega)⟩
  · have h0 : 0 ≤ x := by omega
    go_enter Try.func78, Try.ntmps78
    go_wp2_with (first | ((with_reducible refine is_alloc 35 rfl ?_); refine wpList_allocB rfl 35 rfl b35 ?_) | ((with_reducible refine is_alloc 34 rfl ?_); refine wpList_allocB rfl 34 rfl b34 ?_) | ((with_reducible refine is_load 35 rfl ?_); (first | refine wpList_loadBw rfl 35 _ rfl b35 _ _ _ rfl (by assumption) (secA_size _) ?_ | refine wpList_loadB rfl 35 _ rfl b35 _ _ _ rfl (by assumption) (secA_size _) ?_)) | ((with_reducible refine is_load 34 rfl ?_); (first | refine wpList_loadBw rfl 34 _ rfl b34 _ _ _ rfl (by assumption) (secA_size _) ?_ | refine wpList_loadB rfl 34 _ rfl b34 _ _ _ rfl (by assumption) (secA_size _) ?_)) | ((with_reducible refine is_store 35 rfl ?_); refine wpList_storeBw rfl 35 _ _ rfl b35 _ _ _ _ rfl rfl (by assumption) (secA_size _) (secA_bx _) ?_) | ((with_reducible refine is_store 34 rfl ?_); refine wpList_storeBw rfl 34 _ _ rfl b34 _ _ _ _ rfl rfl (by assumption) (secA_size _) (secA_bx _) ?_) | ((with_reducible refine is_build 34 rfl ?_); refine wpList_buildZ34 rfl rfl ?_) | ((with_reducible refine is_build 35 rfl ?_); refine wpList_buildZ35 rfl rfl ?_))
    exact bodyPost_ret (res78 rfl rfl (setRow_blk _ g1)) rfl ⟨rfl, F.trans (setRow_fr _ _ _) (fun i hi e => by omega)⟩
set_option maxRecDepth 100000 in
theorem readZ_at (h : ZAt w b v L size safe st fin) (h4 : st ≠ 4) (k : Nat) (hk : k < L.length) : Calls Try.prog 78 #[.pointer (some ⟨b, 0, none⟩), .int .i64 k] w fun e w' => e = .returned (.tuple #[.agg (secA L[k]), .int .i64 0]) ∧ Fr (fun _ => False) w w' := by
  obtain ⟨g, cap, rfl, hrg⟩ := h.range hk
  have hrg2 := World.rangeAt_alloc (World.rangeAt_alloc hrg (.cells (secA Sec.zero) 35)) (.cells (secA Sec.zero) 35)
  generalize L[k] = S at hrg hrg2 ⊢
  have g1 := blk_alloc (blk_new w (.cells (secA Sec.zero) 35)) (.cells (secA Sec.zero) 35)
  have g2 := blk_new (w.alloc (.cells (secA Sec.zero) 35)) (.cells (secA Sec.zero) 35)
  have g3 := blk_alloc (blk_alloc h.z (.cells (secA Sec.zero) 35)) (.cells (secA Sec.zero) 35)
  rw [World.size_alloc] at g2
  have F := ((Fr.refl (fun _ => False) w).alloc (.cells (secA Sec.zero) 35)).alloc (.cells (secA Sec.zero) 35)
  have cg := fun i => blk_cell g3 i
  go_enter Try.func78, Try.ntmps78
  go_wp2_with (first | ((with_reducible refine is_alloc 35 rfl ?_); refine wpList_allocB rfl 35 rfl b35 ?_) | ((with_reducible refine is_alloc 34 rfl ?_); refine wpList_allocB rfl 34 rfl b34 ?_) | ((with_reducible refine is_load 35 rfl ?_); (first | refine wpList_loadBw rfl 35 _ rfl b35 _ _ _ rfl (by assumption) (secA_size _) ?_ | refine wpList_loadB rfl 35 _ rfl b35 _ _ _ rfl (by assumption) (secA_size _) ?_)) | ((with_reducible refine is_load 34 rfl ?_); (first | refine wpList_loadBw rfl 34 _ rfl b34 _ _ _ rfl (by assumption) (secA_size _) ?_ | refine wpList_loadB rfl 34 _ rfl b34 _ _ _ rfl (by assumption) (secA_size _) ?_)) | ((with_reducible refine is_store 35 rfl ?_); refine wpList_storeBw rfl 35 _ _ rfl b35 _ _ _ _ rfl rfl (by assumption) (secA_size _) (secA_bx _) ?_) | ((with_reducible refine is_store 34 rfl ?_); refine wpList_storeBw rfl 34 _ _ rfl b34 _ _ _ _ rfl rfl (by assumption) (secA_size _) (secA_bx _) ?_) | ((with_reducible refine is_build 34 rfl ?_); refine wpList_buildZ34 rfl rfl ?_) | ((with_reducible refine is_build 35 rfl ?_); refine wpList_buildZ35 rfl rfl ?_))
  exact bodyPost_ret (res78 rfl rfl (setRow_blk _ g1)) rfl ⟨rfl, F.trans (setRow_fr _ _ _) (fun i hi e => by omega)⟩
end
end Go.Proofs.Ytkbagfpoegfcaaa

/- A step of a play, where the program's zone has failed and the document's may not have. Conditions: no crash, no failing, no change; fewer than 100 sectors. -/
import Derived.Test.YtlffjkijjggpkaaFc0
namespace Go.Proofs.Ytlffjkijjggpkaa
open Go.RowKit Go.Conc

section
variable {base : Nat} {w : World} {b : Nat} {v x : Value} {L : List Int} {size safe st : Int} {fin : Bool}
/-- Some zone of the document's, as a value. -/
def SomeZ (size : Int) (u : Value) : Prop := ∃ a n c sf s f, u = .agg #[.slice a n c, .int .i64 size, .int .i64 sf, .int .i64 s, .bool f]
theorem SomeZ.mk {y : Value} {base : Nat} {w : World} {n : Nat} {xs : List Value} (h : w.ownsRow base 3 1 y n xs) (size sf s : Int) (f : Bool) : SomeZ size (.agg #[y, .int .i64 size, .int .i64 sf, .int .i64 s, .bool f]) := by
  obtain ⟨a, c, rfl⟩ := row_val h
  exact ⟨a, _, c, sf, s, f, rfl⟩
theorem rappend_any (hr : w.ownsRow base 3 1 x L.length (ints L)) (hl : L.length < 100) (X : Int) : Calls Try.prog 32 #[.agg #[x, .int .i64 size, .int .i64 safe, .int .i64 st, .bool fin], .int .i64 X] w fun e w' =>
    (∃ u off f, SomeZ size u ∧ e = .returned (.tuple #[u, .int .i64 off, .int .i64 f])) ∧ Below w.heap.size w w' := by
  by_cases hs : failedOf st = 0
  · by_cases h2 : st = 2
    · subst h2
      exact (rappend_full hr X).mono fun e w' ⟨he, hb⟩ => ⟨⟨_, _, _, SomeZ.mk hr _ _ _ _, he⟩, hb⟩
    · exact (rappend_room hr hs h2 hl X).mono fun e w' ⟨y, he, hy, hb⟩ => ⟨⟨_, _, _, SomeZ.mk hy _ _ _ _, he⟩, hb⟩
  · exact (rappend_no hr hs X).mono fun e w' ⟨he, hb⟩ => ⟨⟨_, _, _, SomeZ.mk hr _ _ _ _, he⟩, hb⟩
theorem rread_any (hr : w.ownsRow base 3 1 x L.length (ints L)) (X : Int) : Calls Try.prog 33 #[.agg #[x, .int .i64 size, .int .i64 safe, .int .i64 st, .bool fin], .int .i64 X] w fun e w' =>
    (∃ y f : Int, e = .returned (.tuple #[.int .i64 y, .int .i64 f])) ∧ Below w.heap.size w w' := by
  by_cases h4 : st = 4
  · subst h4
    exact (rread_off _ _ _ _ X w).mono fun e w' ⟨he, hb⟩ => ⟨⟨_, _, he⟩, hb⟩
  · by_cases hx : X < 0 ∨ L.length ≤ X
    · exact (rread_no hr h4 X hx).mono fun e w' ⟨he, hb⟩ => ⟨⟨_, _, he⟩, hb⟩
    · obtain ⟨k, rfl⟩ : ∃ k : Nat, X = k := ⟨X.toNat, by omega⟩
      exact (rread_at hr h4 k (by omega)).mono fun e w' ⟨he, hb⟩ => ⟨⟨_, _, he⟩, hb⟩
theorem rreset_any (hr : w.ownsRow base 3 1 x L.length (ints L)) : Calls Try.prog 34 #[.agg #[x, .int .i64 size, .int .i64 safe, .int .i64 st, .bool fin]] w fun e w' =>
    (∃ u f, SomeZ size u ∧ e = .returned (.tuple #[u, .int .i64 f])) ∧ Below w.heap.size w w' := by
  by_cases hs : failedOf st = 0
  · exact (rreset_ok hr hs).mono fun e w' ⟨he, hb⟩ => ⟨⟨_, _, ⟨_, _, _, _, _, _, rfl⟩, he⟩, hb⟩
  · exact (rreset_no hr hs).mono fun e w' ⟨he, hb⟩ => ⟨⟨_, _, SomeZ.mk hr _ _ _ _, he⟩, hb⟩
theorem rfinish_any (hr : w.ownsRow base 3 1 x L.length (ints L)) : Calls Try.prog 35 #[.agg #[x, .int .i64 size, .int .i64 safe, .int .i64 st, .bool fin]] w fun e w' =>
    (∃ u f, SomeZ size u ∧ e = .returned (.tuple #[u, .int .i64 f])) ∧ Below w.heap.size w w' := by
  by_cases hs : failedOf st = 0
  · exact (rfinish_ok hr hs).mono fun e w' ⟨he, hb⟩ => ⟨⟨_, _, SomeZ.mk hr _ _ _ _, he⟩, hb⟩
  · exact (rfinish_no hr hs).mono fun e w' ⟨he, hb⟩ => ⟨⟨_, _, SomeZ.mk hr _ _ _ _, he⟩, hb⟩
theorem readI_any (h : ZAt 58 3 base w b v (ints L) size safe st fin) (X : Int) : Calls Try.prog 26 #[.pointer (some ⟨b, 0, none⟩), .int .i64 X] w fun e w' =>
    (∃ y f : Int, e = .returned (.tuple #[.int .i64 y, .int .i64 f])) ∧ w' = w := by
  by_cases h4 : st = 4
  · subst h4
    exact (readI_off h X).mono fun e w' ⟨he, hb⟩ => ⟨⟨_, _, he⟩, hb⟩
  · by_cases hx : X < 0 ∨ L.length ≤ X
    · exact (readI_no h h4 X (by rw [ints_length]; exact hx)).mono fun e w' ⟨he, hb⟩ => ⟨⟨_, _, he⟩, hb⟩
    · obtain ⟨k, rfl⟩ : ∃ k : Nat, X = k := ⟨X.toNat, by omega⟩
      have hk : k < (ints L).length := by rw [ints_length]; omega
      have hye : (ints L)[k] = .int .i64 L[k] := by simp [ints]
      have := readI_at h h4 k hk
      rw [hye] at this
      exact this.mono fun e w' ⟨he, hb⟩ => ⟨⟨_, _, he⟩, hb⟩
end
/-- What a step leaves of a zone that failed. -/
def Stays (base : Nat) (w : World) (b : Nat) (v : Value) (L : List Int) (size stz : Int) (e : Ending) (w' : World) : Prop :=
  (∃ r, e = .returned r) ∧ (∃ safe fin, ZAt 58 3 base w' b v (ints L) size safe stz fin) ∧ Fr (Zf b v) w w'
theorem closeF {base : Nat} {w W3 W4 : World} {b r : Nat} {size stz safe : Int} {v : Value} {L : List Int} {fin : Bool} {tmps : Array Value} {c0 c1 c2 c3 c4 u : Value} (hg : W4.heap[r]? = some (.cells #[c0, c1, c2, c3, c4] 49 (0, 0)))
    (hz : ZAt 58 3 base W3 b v (ints L) size safe stz fin) (hf : Fr (Zf b v) w W3) (hf4 : Fr (fun k => k = r) W3 W4) (hr : w.heap.size ≤ r) (h3 : ∃ cs, W3.heap[r]? = some (.cells cs 49 (0, 0))) (h1 : tmps.getD 6 undef = .pointer (some ⟨r, 0, none⟩)) (h2 : tmps.getD 7 undef = u) :
    bodyPost Try.prog Try.f24 (Stays base w b v L size stz) .ret { tmps := tmps, defers := [] } W4 := by
  obtain ⟨cs, h3⟩ := h3
  exact bodyPost_ret (resR24 h1 h2 hg) rfl ⟨⟨_, rfl⟩, ⟨_, _, hz.fr hf4 (ne_obj hz.z h3 (by intro e; cases e)) (fun k hk => row_ne hz.row h3 (by decide) hk)⟩, hf.trans hf4 (fun i hi e => by omega)⟩

set_option linter.unusedSimpArgs false in
set_option linter.unusedVariables false in
set_option maxRecDepth 100000 in
set_option maxHeartbeats 4000000 in
theorem stepF1 {base : Nat} {w : World} {b : Nat} {size : Int} {v x : Value} {L : List Int} {safe stz safex stx : Int} {fin finx : Bool} (hz : ZAt 58 3 base w b v (ints L) size safe stz fin) (hs : failedOf stz ≠ 0) (hr : w.ownsRow base 3 1 x L.length (ints L)) (hsp : ∀ k, x.ownBlock = some k → v.ownBlock ≠ some k) (hl : L.length < 100) (X Y : Int) :
    Calls Try.prog 24 #[.pointer (some ⟨b, 0, none⟩), .agg #[x, .int .i64 size, .int .i64 safex, .int .i64 stx, .bool finx], .agg #[.int .i64 1, .int .i64 X, .int .i64 Y]] w (Stays base w b v L size stz) := by
  obtain ⟨ax, cx, rfl⟩ := row_val hr
  have hA := allocs3 w (.cells #[.slice ax L.length cx, .int .i64 size, .int .i64 safex, .int .i64 stx, .bool finx] 49) (.cells #[.int .i64 1, .int .i64 X, .int .i64 Y] 41) (.cells #[.slice none 0 0, .int .i64 0, .int .i64 0, .int .i64 0, .bool false] 49)
  go_enter Try.func24, Try.ntmps24
  go_wp2_with fail
  generalize ((w.alloc (.cells #[.slice ax L.length cx, .int .i64 size, .int .i64 safex, .int .i64 stx, .bool finx] 49)).alloc (.cells #[.int .i64 1, .int .i64 X, .int .i64 Y] 41)).alloc (.cells #[.slice none 0 0, .int .i64 0, .int .i64 0, .int .i64 0, .bool false] 49) = W1 at hA ⊢
  obtain ⟨f1, g1, g2, g3, s1⟩ := hA
  rw [show w.heap.size + 2 = w.heap.size + 1 + 1 from rfl] at g3
  have hz1 := hz.fr f1 id (fun _ _ => id)
  have hr1 := row_fr hr f1 (fun _ _ => id)
  have c1 := fun i => blk_cell g1 i
  have c2 := fun i => blk_cell g2 i
  refine (appendI_no hz1 hs (.int .i64 X)).mono ?_
  rintro e W2 ⟨rfl, rfl⟩
  go_wp2_with fail
  refine (rappend_any hr1 hl X).mono ?_
  rintro e W3 ⟨⟨u, off, f, ⟨a3, n3, c3, sf3, s3, f3, rfl⟩, rfl⟩, hb⟩
  have f3 := Fr.of_below (S := fun _ => False) hb
  have g3' := f3.heap g3 id
  have c3 := fun o i => blk_cell (blk_alloc g3' o) i
  have e3 := fun o i => blk_frozen (blk_alloc g3' o) i
  have c4 := fun i => blk_cell g3' i
  have c5 := fun i => blk_cell (f3.heap g1 id) i
  have e4 := fun i => blk_frozen g3' i
  have hf9 := (f1.mono (S' := Zf b v) (fun _ _ h => h.elim)).trans f3 (fun _ _ h => h.elim)
  have hz9 := hz1.fr f3 id (fun _ _ => id)
  cases hb0 : ((0 : Int) == off) <;>
    (go_wp2_with fail
     exact closeF (put5 (blk_alloc g3' _) _ _ _ _ _) (hz9.fr ((Fr.refl (fun _ => False) W3).alloc _) id (fun _ _ => id)) (hf9.alloc _) (put5_fr _ _ _ _ _ _ _) (by omega) ⟨_, blk_alloc g3' _⟩ rfl rfl)

set_option linter.unusedSimpArgs false in
set_option linter.unusedVariables false in
set_option maxRecDepth 100000 in
set_option maxHeartbeats 4000000 in
theorem stepF2 {base : Nat} {w : World} {b : Nat} {size : Int} {v x : Value} {L : List Int} {safe stz safex stx : Int} {fin finx : Bool} (hz : ZAt 58 3 base w b v (ints L) size safe stz fin) (hs : failedOf stz ≠ 0) (hr : w.ownsRow base 3 1 x L.length (ints L)) (hsp : ∀ k, x.ownBlock = some k → v.ownBlock ≠ some k) (hl : L.length < 100) (X Y : Int) :
    Calls Try.prog 24 #[.pointer (some ⟨b, 0, none⟩), .agg #[x, .int .i64 size, .int .i64 safex, .int .i64 stx, .bool finx], .agg #[.int .i64 2, .int .i64 X, .int .i64 Y]] w (Stays base w b v L size stz) := by
  obtain ⟨ax, cx, rfl⟩ := row_val hr
  have hA := allocs3 w (.cells #[.slice ax L.length cx, .int .i64 size, .int .i64 safex, .int .i64 stx, .bool finx] 49) (.cells #[.int .i64 2, .int .i64 X, .int .i64 Y] 41) (.cells #[.slice none 0 0, .int .i64 0, .int .i64 0, .int .i64 0, .bool false] 49)
  go_enter Try.func24, Try.ntmps24
  go_wp2_with fail
  generalize ((w.alloc (.cells #[.slice ax L.length cx, .int .i64 size, .int .i64 safex, .int .i64 stx, .bool finx] 49)).alloc (.cells #[.int .i64 2, .int .i64 X, .int .i64 Y] 41)).alloc (.cells #[.slice none 0 0, .int .i64 0, .int .i64 0, .int .i64 0, .bool false] 49) = W1 at hA ⊢
  obtain ⟨f1, g1, g2, g3, s1⟩ := hA
  rw [show w.heap.size + 2 = w.heap.size + 1 + 1 from rfl] at g3
  have hz1 := hz.fr f1 id (fun _ _ => id)
  have hr1 := row_fr hr f1 (fun _ _ => id)
  have c1 := fun i => blk_cell g1 i
  have c2 := fun i => blk_cell g2 i
  refine (readI_any hz1 X).mono ?_
  rintro e W2 ⟨⟨y0, f0, rfl⟩, rfl⟩
  go_wp2_with fail
  refine (rread_any hr1 X).mono ?_
  rintro e W3 ⟨⟨y1, fe1, rfl⟩, hb⟩
  have f3 := Fr.of_below (S := fun _ => False) hb
  have g3' := f3.heap g3 id
  have c3 := fun o i => blk_cell (blk_alloc g3' o) i
  have e3 := fun o i => blk_frozen (blk_alloc g3' o) i
  have c4 := fun i => blk_cell g3' i
  have c5 := fun i => blk_cell (f3.heap g1 id) i
  have e4 := fun i => blk_frozen g3' i
  have hf9 := (f1.mono (S' := Zf b v) (fun _ _ h => h.elim)).trans f3 (fun _ _ h => h.elim)
  have hz9 := hz1.fr f3 id (fun _ _ => id)
  cases hb0 : (y0 == y1) <;>
    (go_wp2_with fail
     exact closeF (put5 g3' _ _ _ _ _) hz9 hf9 (put5_fr _ _ _ _ _ _ _) (by omega) ⟨_, g3'⟩ rfl rfl)

set_option linter.unusedSimpArgs false in
set_option linter.unusedVariables false in
set_option maxRecDepth 100000 in
set_option maxHeartbeats 4000000 in
theorem stepF3 {base : Nat} {w : World} {b : Nat} {size : Int} {v x : Value} {L : List Int} {safe stz safex stx : Int} {fin finx : Bool} (hz : ZAt 58 3 base w b v (ints L) size safe stz fin) (hs : failedOf stz ≠ 0) (hr : w.ownsRow base 3 1 x L.length (ints L)) (hsp : ∀ k, x.ownBlock = some k → v.ownBlock ≠ some k) (hl : L.length < 100) (X Y : Int) :
    Calls Try.prog 24 #[.pointer (some ⟨b, 0, none⟩), .agg #[x, .int .i64 size, .int .i64 safex, .int .i64 stx, .bool finx], .agg #[.int .i64 3, .int .i64 X, .int .i64 Y]] w (Stays base w b v L size stz) := by
  obtain ⟨ax, cx, rfl⟩ := row_val hr
  have hA := allocs3 w (.cells #[.slice ax L.length cx, .int .i64 size, .int .i64 safex, .int .i64 stx, .bool finx] 49) (.cells #[.int .i64 3, .int .i64 X, .int .i64 Y] 41) (.cells #[.slice none 0 0, .int .i64 0, .int .i64 0, .int .i64 0, .bool false] 49)
  go_enter Try.func24, Try.ntmps24
  go_wp2_with fail
  generalize ((w.alloc (.cells #[.slice ax L.length cx, .int .i64 size, .int .i64 safex, .int .i64 stx, .bool finx] 49)).alloc (.cells #[.int .i64 3, .int .i64 X, .int .i64 Y] 41)).alloc (.cells #[.slice none 0 0, .int .i64 0, .int .i64 0, .int .i64 0, .bool false] 49) = W1 at hA ⊢
  obtain ⟨f1, g1, g2, g3, s1⟩ := hA
  rw [show w.heap.size + 2 = w.heap.size + 1 + 1 from rfl] at g3
  have hz1 := hz.fr f1 id (fun _ _ => id)
  have hr1 := row_fr hr f1 (fun _ _ => id)
  have c1 := fun i => blk_cell g1 i
  have c2 := fun i => blk_cell g2 i
  refine (rreset_any hr1).mono ?_
  rintro e W2 ⟨⟨u, f, ⟨a3, n3, c3, sf3, s3, fn3, rfl⟩, rfl⟩, hb⟩
  have f2 := f1.trans (Fr.of_below (S := fun _ => False) hb) (fun _ _ h => h)
  have g3' := (Fr.of_below (S := fun _ => False) hb).heap g3 id
  have g17 := blk_new W2 (.cells #[.slice a3 n3 c3, .int .i64 size, .int .i64 sf3, .int .i64 s3, .bool fn3] 49)
  have f17 := f2.alloc (.cells #[.slice a3 n3 c3, .int .i64 size, .int .i64 sf3, .int .i64 s3, .bool fn3] 49)
  have g3'' := blk_alloc g3' (.cells #[.slice a3 n3 c3, .int .i64 size, .int .i64 sf3, .int .i64 s3, .bool fn3] 49)
  have hsz2 := hb.size
  obtain ⟨t17, ht17⟩ : ∃ t, W2.heap.size = t := ⟨_, rfl⟩
  go_wp2_with fail
  rw [ht17] at g17
  try rw [ht17]
  generalize W2.alloc (.cells #[.slice a3 n3 c3, .int .i64 size, .int .i64 sf3, .int .i64 s3, .bool fn3] 49) = W3 at g17 f17 g3'' ⊢
  have hz3 := hz.fr f17 id (fun _ _ => id)
  refine (wpIn_wide (n := 0)).1 ?_
  refine regionIn_seq (Sres W3 (w.heap.size + 1 + 1) 5 (.cells #[.slice a3 n3 c3, .int .i64 size, .int .i64 sf3, .int .i64 s3, .bool fn3] 49 (0, 0))) rfl (by kernel_rfl) (by kernel_rfl) (by kernel_rfl) (fun _ => trivial) rfl ((Sres.start _ _ _ _).fr (Fr.refl _ _).drew) ?_
  iterate 2
    apply SeqR.step
    · rfl
    · intro d V hV ht
      have c1 := fun i => blk_cell (hV.1.heap g17 (by rintro ⟨_, e⟩; omega)) i
      simp [Oper.gives, execOp, Act.eval, go_sem, c1]
      exact ⟨rfl, hV.keep (by decide)⟩
    simp only [Act.put, List.setIfInBounds_toArray, List.set_cons_succ, List.set_cons_zero]
  apply SeqR.step
  · rfl
  · intro d V hV ht
    have n5 : d 5 = false := ht.later 5 _ rfl (by kernel_rfl)
    have hF : Fr (fun _ => False) W3 V := hV.1.mono (fun _ _ hk => by rw [n5] at hk; cases hk.1)
    simp [Oper.gives, execOp, Act.eval, go_sem]
    refine callsIn_wide.2 ((resetI_no (hz3.fr hF id (fun _ _ => id)) hs).mono ?_)
    rintro e W9 ⟨rfl, rfl⟩
    exact ⟨_, rfl, rfl, hV.keep (by decide)⟩
  simp only [Act.put, List.setIfInBounds_toArray, List.set_cons_succ, List.set_cons_zero]
  iterate 2
    apply SeqR.step
    · rfl
    · intro d V hV ht
      simp [Oper.gives, execOp, Act.eval, go_sem]
      exact ⟨rfl, hV.keep (by decide)⟩
    simp only [Act.put, List.setIfInBounds_toArray, List.set_cons_succ, List.set_cons_zero]
  apply SeqR.step
  · rfl
  · intro d V hV ht
    have n5 : d 5 = false := ht.not
    have hF : Fr (fun _ => False) W3 V := hV.1.mono (fun _ _ hk => by rw [n5] at hk; cases hk.1)
    have gr := hF.heap g3'' id
    have c1 := fun i => blk_cell gr i
    have e1 := fun i => blk_frozen gr i
    simp [Oper.gives, execOp, Act.eval, go_sem, c1, e1]
    exact ⟨rfl, hV.put (put5_fr _ _ _ _ _ _ _) (put5 gr _ _ _ _ _)⟩
  simp only [Act.put, List.setIfInBounds_toArray, List.set_cons_succ, List.set_cons_zero]
  apply SeqR.step
  · rfl
  · intro d V hV ht
    simp [Oper.gives, execOp, Act.eval, go_sem]
    exact ⟨rfl, hV.keep (by decide)⟩
  simp only [Act.put, List.setIfInBounds_toArray, List.set_cons_succ, List.set_cons_zero]
  refine SeqR.nil fun V hV => ?_
  go_wp2_with fail
  exact closeF (hV.2 rfl) hz3 (f17.mono (fun _ _ h => h.elim)) (hV.1.mono (fun _ _ hk => hk.2)) (by omega) ⟨_, g3''⟩ rfl rfl

set_option linter.unusedSimpArgs false in
set_option linter.unusedVariables false in
set_option maxRecDepth 100000 in
set_option maxHeartbeats 4000000 in
theorem stepF4 {base : Nat} {w : World} {b : Nat} {size : Int} {v x : Value} {L : List Int} {safe stz safex stx : Int} {fin finx : Bool} (hz : ZAt 58 3 base w b v (ints L) size safe stz fin) (hs : failedOf stz ≠ 0) (hr : w.ownsRow base 3 1 x L.length (ints L)) (hsp : ∀ k, x.ownBlock = some k → v.ownBlock ≠ some k) (hl : L.length < 100) (X Y : Int) :
    Calls Try.prog 24 #[.pointer (some ⟨b, 0, none⟩), .agg #[x, .int .i64 size, .int .i64 safex, .int .i64 stx, .bool finx], .agg #[.int .i64 4, .int .i64 X, .int .i64 Y]] w (Stays base w b v L size stz) := by
  obtain ⟨ax, cx, rfl⟩ := row_val hr
  have hA := allocs3 w (.cells #[.slice ax L.length cx, .int .i64 size, .int .i64 safex, .int .i64 stx, .bool finx] 49) (.cells #[.int .i64 4, .int .i64 X, .int .i64 Y] 41) (.cells #[.slice none 0 0, .int .i64 0, .int .i64 0, .int .i64 0, .bool false] 49)
  go_enter Try.func24, Try.ntmps24
  go_wp2_with fail
  generalize ((w.alloc (.cells #[.slice ax L.length cx, .int .i64 size, .int .i64 safex, .int .i64 stx, .bool finx] 49)).alloc (.cells #[.int .i64 4, .int .i64 X, .int .i64 Y] 41)).alloc (.cells #[.slice none 0 0, .int .i64 0, .int .i64 0, .int .i64 0, .bool false] 49) = W1 at hA ⊢
  obtain ⟨f1, g1, g2, g3, s1⟩ := hA
  rw [show w.heap.size + 2 = w.heap.size + 1 + 1 from rfl] at g3
  have hz1 := hz.fr f1 id (fun _ _ => id)
  have hr1 := row_fr hr f1 (fun _ _ => id)
  have c1 := fun i => blk_cell g1 i
  have c2 := fun i => blk_cell g2 i
  refine (rfinish_any hr1).mono ?_
  rintro e W2 ⟨⟨u, f, ⟨a3, n3, c3, sf3, s3, fn3, rfl⟩, rfl⟩, hb⟩
  have f2 := f1.trans (Fr.of_below (S := fun _ => False) hb) (fun _ _ h => h)
  have g3' := (Fr.of_below (S := fun _ => False) hb).heap g3 id
  have g17 := blk_new W2 (.cells #[.slice a3 n3 c3, .int .i64 size, .int .i64 sf3, .int .i64 s3, .bool fn3] 49)
  have f17 := f2.alloc (.cells #[.slice a3 n3 c3, .int .i64 size, .int .i64 sf3, .int .i64 s3, .bool fn3] 49)
  have g3'' := blk_alloc g3' (.cells #[.slice a3 n3 c3, .int .i64 size, .int .i64 sf3, .int .i64 s3, .bool fn3] 49)
  have hsz2 := hb.size
  obtain ⟨t17, ht17⟩ : ∃ t, W2.heap.size = t := ⟨_, rfl⟩
  go_wp2_with fail
  rw [ht17] at g17
  try rw [ht17]
  generalize W2.alloc (.cells #[.slice a3 n3 c3, .int .i64 size, .int .i64 sf3, .int .i64 s3, .bool fn3] 49) = W3 at g17 f17 g3'' ⊢
  have hz3 := hz.fr f17 id (fun _ _ => id)
  refine (wpIn_wide (n := 0)).1 ?_
  refine regionIn_seq (Sres W3 (w.heap.size + 1 + 1) 5 (.cells #[.slice a3 n3 c3, .int .i64 size, .int .i64 sf3, .int .i64 s3, .bool fn3] 49 (0, 0))) rfl (by kernel_rfl) (by kernel_rfl) (by kernel_rfl) (fun _ => trivial) rfl ((Sres.start _ _ _ _).fr (Fr.refl _ _).drew) ?_
  iterate 2
    apply SeqR.step
    · rfl
    · intro d V hV ht
      have c1 := fun i => blk_cell (hV.1.heap g17 (by rintro ⟨_, e⟩; omega)) i
      simp [Oper.gives, execOp, Act.eval, go_sem, c1]
      exact ⟨rfl, hV.keep (by decide)⟩
    simp only [Act.put, List.setIfInBounds_toArray, List.set_cons_succ, List.set_cons_zero]
  apply SeqR.step
  · rfl
  · intro d V hV ht
    have n5 : d 5 = false := ht.later 5 _ rfl (by kernel_rfl)
    have hF : Fr (fun _ => False) W3 V := hV.1.mono (fun _ _ hk => by rw [n5] at hk; cases hk.1)
    simp [Oper.gives, execOp, Act.eval, go_sem]
    refine callsIn_wide.2 ((finishI_no (hz3.fr hF id (fun _ _ => id)) hs).mono ?_)
    rintro e W9 ⟨rfl, rfl⟩
    exact ⟨_, rfl, rfl, hV.keep (by decide)⟩
  simp only [Act.put, List.setIfInBounds_toArray, List.set_cons_succ, List.set_cons_zero]
  iterate 2
    apply SeqR.step
    · rfl
    · intro d V hV ht
      simp [Oper.gives, execOp, Act.eval, go_sem]
      exact ⟨rfl, hV.keep (by decide)⟩
    simp only [Act.put, List.setIfInBounds_toArray, List.set_cons_succ, List.set_cons_zero]
  apply SeqR.step
  · rfl
  · intro d V hV ht
    have n5 : d 5 = false := ht.not
    have hF : Fr (fun _ => False) W3 V := hV.1.mono (fun _ _ hk => by rw [n5] at hk; cases hk.1)
    have gr := hF.heap g3'' id
    have c1 := fun i => blk_cell gr i
    have e1 := fun i => blk_frozen gr i
    simp [Oper.gives, execOp, Act.eval, go_sem, c1, e1]
    exact ⟨rfl, hV.put (put5_fr _ _ _ _ _ _ _) (put5 gr _ _ _ _ _)⟩
  simp only [Act.put, List.setIfInBounds_toArray, List.set_cons_succ, List.set_cons_zero]
  apply SeqR.step
  · rfl
  · intro d V hV ht
    simp [Oper.gives, execOp, Act.eval, go_sem]
    exact ⟨rfl, hV.keep (by decide)⟩
  simp only [Act.put, List.setIfInBounds_toArray, List.set_cons_succ, List.set_cons_zero]
  refine SeqR.nil fun V hV => ?_
  go_wp2_with fail
  exact closeF (hV.2 rfl) hz3 (f17.mono (fun _ _ h => h.elim)) (hV.1.mono (fun _ _ hk => hk.2)) (by omega) ⟨_, g3''⟩ rfl rfl

set_option linter.unusedSimpArgs false in
set_option linter.unusedVariables false in
set_option maxRecDepth 100000 in
set_option maxHeartbeats 4000000 in
theorem stepF5 {base : Nat} {w : World} {b : Nat} {size : Int} {v x : Value} {L : List Int} {safe stz safex stx : Int} {fin finx : Bool} (hz : ZAt 58 3 base w b v (ints L) size safe stz fin) (hs : failedOf stz ≠ 0) (hr : w.ownsRow base 3 1 x L.length (ints L)) (hsp : ∀ k, x.ownBlock = some k → v.ownBlock ≠ some k) (hl : L.length < 100) (X Y : Int) :
    Calls Try.prog 24 #[.pointer (some ⟨b, 0, none⟩), .agg #[x, .int .i64 size, .int .i64 safex, .int .i64 stx, .bool finx], .agg #[.int .i64 5, .int .i64 X, .int .i64 Y]] w (Stays base w b v L size stz) := by
  obtain ⟨ax, cx, rfl⟩ := row_val hr
  have hA := allocs3 w (.cells #[.slice ax L.length cx, .int .i64 size, .int .i64 safex, .int .i64 stx, .bool finx] 49) (.cells #[.int .i64 5, .int .i64 X, .int .i64 Y] 41) (.cells #[.slice none 0 0, .int .i64 0, .int .i64 0, .int .i64 0, .bool false] 49)
  go_enter Try.func24, Try.ntmps24
  go_wp2_with fail
  generalize ((w.alloc (.cells #[.slice ax L.length cx, .int .i64 size, .int .i64 safex, .int .i64 stx, .bool finx] 49)).alloc (.cells #[.int .i64 5, .int .i64 X, .int .i64 Y] 41)).alloc (.cells #[.slice none 0 0, .int .i64 0, .int .i64 0, .int .i64 0, .bool false] 49) = W1 at hA ⊢
  obtain ⟨f1, g1, g2, g3, s1⟩ := hA
  rw [show w.heap.size + 2 = w.heap.size + 1 + 1 from rfl] at g3
  have hz1 := hz.fr f1 id (fun _ _ => id)
  have hr1 := row_fr hr f1 (fun _ _ => id)
  have c1 := fun i => blk_cell g1 i
  have c2 := fun i => blk_cell g2 i
  refine (flushI hz1).mono ?_
  rintro e W2 ⟨⟨u9, rfl⟩, hz2, hf2⟩
  rw [ints_length] at hz2
  have hlz : ∀ k, Zf b v k → k < w.heap.size := by
    rintro k (rfl | e)
    · exact hz.lt
    · exact (hz.rlt e).2
  replace g1 := hf2.heap g1 (fun h => by have := hlz _ h; omega)
  replace g3 := hf2.heap g3 (fun h => by have := hlz _ h; omega)
  have hrr : W2.ownsRow base 3 1 (.slice ax L.length cx) L.length (ints L) := row_fr hr1 hf2 (fun k hk hzz => by rcases hzz with rfl | e; exact row_ne hr1 hz1.z (by decide) hk rfl; exact hsp k hk e)
  clear c1 c2
  have c1 := fun i => blk_cell g1 i
  go_wp2_with fail
  refine (rflush hrr).mono ?_
  rintro e W3 ⟨rfl, hb⟩
  have f3 := Fr.of_below (S := fun _ => False) hb
  have g3' := f3.heap g3 id
  have c3 := fun o i => blk_cell (blk_alloc g3' o) i
  have e3 := fun o i => blk_frozen (blk_alloc g3' o) i
  have c4 := fun i => blk_cell g3' i
  have c5 := fun i => blk_cell (f3.heap g1 id) i
  have e4 := fun i => blk_frozen g3' i
  go_wp2_with fail
  exact closeF (put5 g3' _ _ _ _ _) (hz2.fr f3 id (fun _ _ => id)) (((f1.mono (S' := Zf b v) (fun _ _ h => h.elim)).trans hf2 (fun _ _ h => h)).trans f3 (fun _ _ h => h.elim)) (put5_fr _ _ _ _ _ _ _) (by omega) ⟨_, g3'⟩ rfl rfl

set_option linter.unusedSimpArgs false in
set_option linter.unusedVariables false in
set_option maxRecDepth 100000 in
set_option maxHeartbeats 4000000 in
theorem stepF0 {base : Nat} {w : World} {b : Nat} {size : Int} {v x : Value} {L : List Int} {safe stz safex stx : Int} {fin finx : Bool} (hz : ZAt 58 3 base w b v (ints L) size safe stz fin) (hs : failedOf stz ≠ 0) (hr : w.ownsRow base 3 1 x L.length (ints L)) (hsp : ∀ k, x.ownBlock = some k → v.ownBlock ≠ some k) (hl : L.length < 100) (K X Y : Int) (k : K ≠ 1 ∧ K ≠ 2 ∧ K ≠ 3 ∧ K ≠ 4 ∧ K ≠ 5 ∧ K ≠ 6 ∧ K ≠ 7 ∧ K ≠ 8) :
    Calls Try.prog 24 #[.pointer (some ⟨b, 0, none⟩), .agg #[x, .int .i64 size, .int .i64 safex, .int .i64 stx, .bool finx], .agg #[.int .i64 K, .int .i64 X, .int .i64 Y]] w (Stays base w b v L size stz) := by
  obtain ⟨ax, cx, rfl⟩ := row_val hr
  have hA := allocs3 w (.cells #[.slice ax L.length cx, .int .i64 size, .int .i64 safex, .int .i64 stx, .bool finx] 49) (.cells #[.int .i64 K, .int .i64 X, .int .i64 Y] 41) (.cells #[.slice none 0 0, .int .i64 0, .int .i64 0, .int .i64 0, .bool false] 49)
  go_enter Try.func24, Try.ntmps24
  go_upto_region 1 with fail
  generalize ((w.alloc (.cells #[.slice ax L.length cx, .int .i64 size, .int .i64 safex, .int .i64 stx, .bool finx] 49)).alloc (.cells #[.int .i64 K, .int .i64 X, .int .i64 Y] 41)).alloc (.cells #[.slice none 0 0, .int .i64 0, .int .i64 0, .int .i64 0, .bool false] 49) = W1 at hA ⊢
  obtain ⟨f1, g1, g2, g3, s1⟩ := hA
  rw [show w.heap.size + 2 = w.heap.size + 1 + 1 from rfl] at g3
  have hz1 := hz.fr f1 id (fun _ _ => id)
  have hr1 := row_fr hr f1 (fun _ _ => id)
  have c1 := fun i => blk_cell g1 i
  have c2 := fun i => blk_cell g2 i
  have kb1 : (K == 1) = false := by simpa using k.1
  have kb2 : (K == 2) = false := by simpa using k.2.1
  have kb3 : (K == 3) = false := by simpa using k.2.2.1
  have kb4 : (K == 4) = false := by simpa using k.2.2.2.1
  have kb5 : (K == 5) = false := by simpa using k.2.2.2.2.1
  have kb6 : (K == 6) = false := by simpa using k.2.2.2.2.2.1
  have kb7 : (K == 7) = false := by simpa using k.2.2.2.2.2.2.1
  have kb8 : (K == 8) = false := by simpa using k.2.2.2.2.2.2.2
  have c3 := fun i => blk_cell g3 i
  have e3 := fun i => blk_frozen g3 i
  go_wp2_with fail
  exact closeF (put5 g3 _ _ _ _ _) hz1 (f1.mono (fun _ _ h => h.elim)) (put5_fr _ _ _ _ _ _ _) (by omega) ⟨_, g3⟩ rfl rfl
/-- A STEP. -/
theorem stepF {base : Nat} {w : World} {b : Nat} {size : Int} {v x : Value} {L : List Int} {safe stz safex stx : Int} {fin finx : Bool} (hz : ZAt 58 3 base w b v (ints L) size safe stz fin) (hs : failedOf stz ≠ 0) (hr : w.ownsRow base 3 1 x L.length (ints L)) (hsp : ∀ k, x.ownBlock = some k → v.ownBlock ≠ some k) (hl : L.length < 100) (K X Y : Int) (k6 : K ≠ 6) (k7 : K ≠ 7) (k8 : K ≠ 8) :
    Calls Try.prog 24 #[.pointer (some ⟨b, 0, none⟩), .agg #[x, .int .i64 size, .int .i64 safex, .int .i64 stx, .bool finx], .agg #[.int .i64 K, .int .i64 X, .int .i64 Y]] w (Stays base w b v L size stz) := by
  by_cases k1 : K = 1
  · subst k1; exact stepF1 hz hs hr hsp hl X Y
  by_cases k2 : K = 2
  · subst k2; exact stepF2 hz hs hr hsp hl X Y
  by_cases k3 : K = 3
  · subst k3; exact stepF3 hz hs hr hsp hl X Y
  by_cases k4 : K = 4
  · subst k4; exact stepF4 hz hs hr hsp hl X Y
  by_cases k5 : K = 5
  · subst k5; exact stepF5 hz hs hr hsp hl X Y
  exact stepF0 hz hs hr hsp hl K X Y ⟨k1, k2, k3, k4, k5, k6, k7, k8⟩
end Go.Proofs.Ytlffjkijjggpkaa

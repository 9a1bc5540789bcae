/- A step of a play, the program's zone and the document's. Conditions: the numbers fit together, fewer than 65 sectors. -/
import Derived.Test.YtlffjkijjggpkaaZv
namespace Go.Proofs.Ytlffjkijjggpkaa
open Go.RowKit Go.Conc

/-- The program's zone and the document's, alike. -/
structure Zst (base : Nat) (W : World) (b : Nat) (size : Int) (v x : Value) (L : List Int) (safe st : Int) (fin : Bool) : Prop where
  zn : ZAt 58 3 base W b v (ints L) size safe st fin
  row : W.ownsRow base 3 1 x L.length (ints L)
  sep : ∀ k, x.ownBlock = some k → v.ownBlock ≠ some k
  good : Good L.length size safe st
  s64 : size ≤ 64
  s01 : 1 ≤ size
section
variable {base : Nat} {W W' : World} {b : Nat} {size : Int} {v x : Value} {L : List Int} {safe st : Int} {fin : Bool} {S : Nat → Prop}
theorem Zst.fr (h : Zst base W b size v x L safe st fin) (hf : Fr S W W') (h1 : ¬ S b) (h2 : ∀ k, v.ownBlock = some k → ¬ S k) (h3 : ∀ k, x.ownBlock = some k → ¬ S k) : Zst base W' b size v x L safe st fin :=
  ⟨h.zn.fr hf h1 h2, row_fr h.row hf h3, h.sep, h.good, h.s64, h.s01⟩
theorem Zst.fr0 (h : Zst base W b size v x L safe st fin) (hf : Fr (fun _ => False) W W') : Zst base W' b size v x L safe st fin := h.fr hf id (fun _ _ => id) (fun _ _ => id)
/-- Its blocks lay there. -/
def Zsf (b : Nat) (v x : Value) (k : Nat) : Prop := k = b ∨ v.ownBlock = some k ∨ x.ownBlock = some k
theorem Zst.lt (h : Zst base W b size v x L safe st fin) {k : Nat} (hk : Zsf b v x k) : base ≤ k ∧ k < W.heap.size := by
  rcases hk with rfl | hk | hk
  · exact ⟨h.zn.bb, h.zn.lt⟩
  · exact h.zn.rlt hk
  · exact h.row.lt k hk
/-- The zone has turned. -/
theorem Zst.zone (h : Zst base W b size v x L safe st fin) {v' : Value} {L' : List Int} {safe' st' : Int} {fin' : Bool} (hz : ZAt 58 3 base W' b v' (ints L') size safe' st' fin') (hf : Fr (Zf b v) W W')
    (ho : ∀ k, v'.ownBlock = some k → v.ownBlock = some k ∨ W.heap.size ≤ k) : W'.ownsRow base 3 1 x L.length (ints L) ∧ ∀ k, x.ownBlock = some k → v'.ownBlock ≠ some k := by
  refine ⟨row_fr h.row hf (fun k hk hz => ?_), fun k hk e => ?_⟩
  · rcases hz with rfl | e
    · exact row_ne h.row h.zn.z (by decide) hk rfl
    · exact h.sep k hk e
  · rcases ho k e with e | e
    · exact h.sep k hk e
    · have := (h.row.lt k hk).2; omega
end
/-- What a step leaves. -/
def Stepped (base : Nat) (W : World) (b : Nat) (size : Int) (v x : Value) (L : List Int) (st K : Int) (v' x' : Value) (L' : List Int) (safe' st' : Int) (fin' : Bool) (W' : World) : Prop :=
  Zst base W' b size v' x' L' safe' st' fin' ∧ Fr (Zf b v) W W' ∧ (∀ k, v'.ownBlock = some k → v.ownBlock = some k ∨ W.heap.size ≤ k) ∧ (∀ k, x'.ownBlock = some k → x.ownBlock = some k ∨ W.heap.size ≤ k) ∧
    (failedOf st ≠ 0 → K ≠ 6 → K ≠ 7 → K ≠ 8 → st' = st ∧ L'.length = L.length)
/-- .. and says. -/
def Said (base : Nat) (W : World) (b : Nat) (size : Int) (v x : Value) (L : List Int) (st K : Int) (e : Ending) (W' : World) : Prop :=
  ∃ v' x' L' safe' st' fin', e = .returned (.tuple #[.agg #[x', .int .i64 size, .int .i64 safe', .int .i64 st', .bool fin'], .bool true]) ∧ Stepped base W b size v x L st K v' x' L' safe' st' fin' W'
theorem resR24 {tmps : Array Value} {W : World} {g : Nat} {c0 c1 c2 c3 c4 u : Value} (h1 : tmps.getD 6 undef = .pointer (some ⟨g, 0, none⟩)) (h2 : tmps.getD 7 undef = u) (hg : W.heap[g]? = some (.cells #[c0, c1, c2, c3, c4] 49 (0, 0))) : (results Try.f24 tmps).run Try.prog W = .ok (.tuple #[.agg #[c0, c1, c2, c3, c4], u]) W := by
  have c := fun i => blk_cell hg i
  rw [Array.getD_eq_getD_getElem?] at h1 h2
  simp [results, Try.f24, go_sem, h1, h2, c]


/-- What a step leaves: first some memory is made, then the zone turns, then the document's is made. -/
theorem Stepped.mk {base : Nat} {w W1 W2 W3 : World} {b : Nat} {size : Int} {v x v' x' : Value} {L L' : List Int} {safe st safe' st' K : Int} {fin fin' : Bool} (h : Zst base w b size v x L safe st fin) (f1 : Fr (fun _ => False) w W1)
    (hz : ZAt 58 3 base W2 b v' (ints L') size safe' st' fin') (hf2 : Fr (Zf b v) W1 W2) (ho : ∀ k, v'.ownBlock = some k → v.ownBlock = some k ∨ W1.heap.size ≤ k) (f3 : Fr (fun _ => False) W2 W3)
    (hr : W3.ownsRow base 3 1 x' L'.length (ints L')) (hx : ∀ k, x'.ownBlock = some k → x.ownBlock = some k ∨ W2.heap.size ≤ k) (hg : Good L'.length size safe' st')
    (hp : failedOf st ≠ 0 → K ≠ 6 → K ≠ 7 → K ≠ 8 → st' = st ∧ L'.length = L.length) : Stepped base w b size v x L st K v' x' L' safe' st' fin' W3 := by
  have z3 := f1.size
  have z4 := hf2.size
  refine ⟨⟨hz.fr f3 id (fun _ _ => id), hr, fun k hk e => ?_, hg, h.s64, h.s01⟩, ((f1.mono (fun _ _ h => h.elim)).trans hf2 (fun _ _ h => h)).trans f3 (fun _ _ h => h.elim), fun k hk => ?_, fun k hk => ?_, hp⟩
  · rcases hx k hk with q | q
    · rcases ho k e with e | e
      · exact h.sep k q e
      · have := (h.row.lt k q).2; omega
    · have := (hz.rlt e).2; omega
  · rcases ho k hk with e | e
    · exact .inl e
    · exact .inr (by omega)
  · rcases hx k hk with e | e
    · exact .inl e
    · exact .inr (by omega)
/-- The document's row stays. -/
theorem Zst.rowkeep {base : Nat} {w W1 W2 W3 : World} {b : Nat} {size : Int} {v x : Value} {L : List Int} {safe st : Int} {fin : Bool} (h : Zst base w b size v x L safe st fin) (f1 : Fr (fun _ => False) w W1) (hf2 : Fr (Zf b v) W1 W2) (f3 : Fr (fun _ => False) W2 W3) :
    W3.ownsRow base 3 1 x L.length (ints L) := by
  refine row_fr (row_fr (row_fr h.row f1 (fun _ _ => id)) hf2 (fun k hk hz => ?_)) f3 (fun _ _ => id)
  rcases hz with rfl | e
  · exact row_ne h.row h.zn.z (by decide) hk rfl
  · exact h.sep k hk e
theorem close24 {base : Nat} {w W3 : World} {b r : Nat} {size : Int} {v x v' x' : Value} {L L' : List Int} {st safe' st' K : Int} {fin' : Bool} {tmps : Array Value} {d0 d1 d2 d3 d4 : Value} (hg : W3.heap[r]? = some (.cells #[d0, d1, d2, d3, d4] 49 (0, 0)))
    (hst : Stepped base w b size v x L st K v' x' L' safe' st' fin' W3) (hr : w.heap.size ≤ r) (h1 : tmps.getD 6 undef = .pointer (some ⟨r, 0, none⟩)) (h2 : tmps.getD 7 undef = .bool true) :
    bodyPost Try.prog Try.f24 (Said base w b size v x L st K) .ret { tmps := tmps, defers := [] } (((((W3.setCell ⟨r, 0, none⟩ x').setCell ⟨r, 1, none⟩ (.int .i64 size)).setCell ⟨r, 2, none⟩ (.int .i64 safe')).setCell ⟨r, 3, none⟩ (.int .i64 st')).setCell ⟨r, 4, none⟩ (.bool fin')) := by
  obtain ⟨hz, hf, ho, hx, hp⟩ := hst
  have F := put5_fr W3 r x' (.int .i64 size) (.int .i64 safe') (.int .i64 st') (.bool fin')
  refine bodyPost_ret (resR24 h1 h2 (put5 hg _ _ _ _ _)) rfl ⟨v', x', L', safe', st', fin', rfl, hz.fr F ?_ ?_ ?_, hf.trans F (fun i hi e => by omega), ho, hx, hp⟩
  · exact ne_obj hz.zn.z hg (by intro e; cases e)
  · exact fun k hk => row_ne hz.zn.row hg (by decide) hk
  · exact fun k hk => row_ne hz.row hg (by decide) hk
/-- On the way through a statement that turns the zone and lays the answer. -/
def Szr (W0 : World) (b : Nat) (v : Value) (r : Nat) (o : Obj) (ZP : World → Prop) (d : Nat → Bool) (V : World) : Prop :=
  Fr (fun k => (d 2 = true ∧ Zf b v k) ∨ (d 5 = true ∧ k = r)) W0 V ∧ (d 2 = true → ZP V) ∧ (d 5 = true → V.heap[r]? = some o)
theorem Szr.start (W0 : World) (b : Nat) (v : Value) (r : Nat) (o : Obj) (ZP : World → Prop) : Szr W0 b v r o ZP (fun _ => false) W0.drew := ⟨(Fr.refl _ _).drew, by simp, by simp⟩
theorem Szr.keep {W0 : World} {b : Nat} {v : Value} {r : Nat} {o : Obj} {ZP : World → Prop} {d : Nat → Bool} {V : World} (h : Szr W0 b v r o ZP d V) {j : Nat} (h2 : j ≠ 2) (h5 : j ≠ 5) : Szr W0 b v r o ZP (more d j) V := by
  unfold Szr
  rw [more_other _ (Ne.symm h2), more_other _ (Ne.symm h5)]
  exact h
theorem Szr.call {W0 : World} {b : Nat} {v : Value} {r : Nat} {o : Obj} {ZP : World → Prop} {d : Nat → Bool} {V V' : World} (h : Szr W0 b v r o ZP d V) (h5 : d 5 = false) (hf : Fr (Zf b v) V V') (hz : ZP V') : Szr W0 b v r o ZP (more d 2) V' := by
  refine ⟨(h.1.mono (fun k _ hk => ?_)).trans hf (fun k _ hk => .inl ⟨more_same _ _, hk⟩), fun _ => hz, fun e => ?_⟩
  · rcases hk with hk | hk
    · exact .inl ⟨more_same _ _, hk.2⟩
    · rw [h5] at hk; cases hk.1
  · rw [more_other _ (by decide), h5] at e; cases e
theorem Szr.put {W0 : World} {b : Nat} {v : Value} {r : Nat} {o : Obj} {ZP : World → Prop} {d : Nat → Bool} {V V' : World} (h : Szr W0 b v r o ZP d V) (hf : Fr (fun k => k = r) V V') (hz : ZP V') (ho : V'.heap[r]? = some o) : Szr W0 b v r o ZP (more d 5) V' := by
  refine ⟨(h.1.mono (fun k _ hk => ?_)).trans hf (fun k _ hk => .inr ⟨more_same _ _, hk⟩), fun _ => hz, fun _ => ho⟩
  rcases hk with hk | hk
  · exact .inl ⟨by rw [more_other _ (by decide)]; exact hk.1, hk.2⟩
  · exact .inr ⟨more_same _ _, hk.2⟩
theorem close24b {base : Nat} {w V : World} {b r : Nat} {size : Int} {v x v' x' : Value} {L L' : List Int} {st safe' st' K : Int} {fin' : Bool} {tmps : Array Value} (hg : V.heap[r]? = some (.cells #[x', .int .i64 size, .int .i64 safe', .int .i64 st', .bool fin'] 49 (0, 0)))
    (hst : Stepped base w b size v x L st K v' x' L' safe' st' fin' V) (_ : w.heap.size ≤ r) (h1 : tmps.getD 6 undef = .pointer (some ⟨r, 0, none⟩)) (h2 : tmps.getD 7 undef = .bool true) :
    bodyPost Try.prog Try.f24 (Said base w b size v x L st K) .ret { tmps := tmps, defers := [] } V :=
  bodyPost_ret (resR24 h1 h2 hg) rfl ⟨v', x', L', safe', st', fin', rfl, hst⟩
theorem row_base {W : World} {base base' : Nat} {e : TypeId} {n : Nat} {v : Value} {xs : List Value} (h : W.ownsRow base e 1 v n xs) (hb : base' ≤ base) : W.ownsRow base' e 1 v n xs := by
  refine ⟨h.1, ?_⟩
  rcases h.2 with h0 | ⟨g, cap, cur, rfl, hg, r⟩
  · exact .inl h0
  · exact .inr ⟨g, cap, cur, rfl, Nat.le_trans hb hg, r⟩

set_option linter.unusedSimpArgs false in
set_option linter.unusedVariables false in
set_option maxRecDepth 100000 in
set_option maxHeartbeats 4000000 in
theorem stepZ1 {base : Nat} {w : World} {b : Nat} {size : Int} {v x : Value} {L : List Int} {safe st : Int} {fin : Bool} (h : Zst base w b size v x L safe st fin) (hbase : base ≤ w.heap.size) (X Y : Int) :
    Calls Try.prog 24 #[.pointer (some ⟨b, 0, none⟩), .agg #[x, .int .i64 size, .int .i64 safe, .int .i64 st, .bool fin], .agg #[.int .i64 1, .int .i64 X, .int .i64 Y]] w (Said base w b size v x L st 1) := by
  obtain ⟨ax, cx, rfl⟩ := row_val h.row
  have hA := allocs3 w (.cells #[.slice ax L.length cx, .int .i64 size, .int .i64 safe, .int .i64 st, .bool fin] 49) (.cells #[.int .i64 1, .int .i64 X, .int .i64 Y] 41) (.cells #[.slice none 0 0, .int .i64 0, .int .i64 0, .int .i64 0, .bool false] 49)
  have hgd := h.good
  have hs64 := h.s64
  have hs01 := h.s01
  go_enter Try.func24, Try.ntmps24
  go_wp2_with fail
  generalize ((w.alloc (.cells #[.slice ax L.length cx, .int .i64 size, .int .i64 safe, .int .i64 st, .bool fin] 49)).alloc (.cells #[.int .i64 1, .int .i64 X, .int .i64 Y] 41)).alloc (.cells #[.slice none 0 0, .int .i64 0, .int .i64 0, .int .i64 0, .bool false] 49) = W1 at hA ⊢
  obtain ⟨f1, g1, g2, g3, s1⟩ := hA
  rw [show w.heap.size + 2 = w.heap.size + 1 + 1 from rfl] at g3
  have h1 := h.fr0 f1
  by_cases hs : failedOf st = 0
  · by_cases h2 : st = 2
    · subst h2
      have c1 := fun i => blk_cell g1 i
      have c2 := fun i => blk_cell g2 i
      refine (appendI_full h1.zn (.int .i64 X)).mono ?_
      rintro e W2 ⟨rfl, rfl⟩
      go_wp2_with fail
      refine (rappend_full h1.row X).mono ?_
      rintro e W3 ⟨rfl, hb⟩
      have f3 := Fr.of_below (S := fun _ => False) hb
      have g3' := f3.heap g3 id
      have c3 := fun o i => blk_cell (blk_alloc g3' o) i
      have e3 := fun o i => blk_frozen (blk_alloc g3' o) i
      have c4 := fun i => blk_cell g3' i
      have c5 := fun i => blk_cell (f3.heap g1 id) i
      have e4 := fun i => blk_frozen g3' i
      go_wp2_with fail
      exact close24 (blk_alloc g3' _) (Stepped.mk h f1 h1.zn (Fr.refl _ _) (fun k hk => .inl hk) (f3.alloc _) (h.rowkeep f1 (Fr.refl _ _) (f3.alloc _)) (fun k hk => .inl hk) hgd (fun _ _ _ _ => ⟨rfl, rfl⟩)) (by omega) rfl (by first | rfl | simp)
    · obtain ⟨st2, hst2⟩ : ∃ y : Int, (if (L.length : Int) + 1 = size then (2 : Int) else 1) = y := ⟨_, rfl⟩
      have HS2 := Lib.hid hst2
      have hlt2 : L.length < size := hgd.op (by have := hgd.t0; have := hgd.t1; unfold failedOf at hs; split at hs; omega; split at hs <;> omega)
      have c1 := fun i => blk_cell g1 i
      have c2 := fun i => blk_cell g2 i
      refine (appendI_room h1.zn hs h2 (by rw [ints_length]; omega) X).mono ?_
      rintro e W2 ⟨rfl, v2, hz2, hf2, ho2⟩
      rw [ints_length] at hz2 ⊢
      have hi2 : ints L ++ [.int .i64 X] = ints (L ++ [X]) := by simp [ints]
      rw [hi2, hst2] at hz2
      have rk := h.rowkeep f1 hf2 (Fr.refl _ _)
      have hn1 : ∀ {k : Nat} {o : Obj}, W1.heap[k]? = some o → w.heap.size ≤ k → W2.heap[k]? = some o := fun {k o} hk hge => hf2.heap hk (fun hz => by have := h.lt (k := k) (by rcases hz with e | e; exact .inl e; exact .inr (.inl e)); omega)
      replace g1 := hn1 g1 (Nat.le_refl _)
      replace g2 := hn1 g2 (by omega)
      replace g3 := hn1 g3 (by omega)
      have c1 := fun i => blk_cell g1 i
      have c2 := fun i => blk_cell g2 i
      go_wp2_with fail
      refine ((by have := rappend_room rk hs h2 (by omega) X (size := size) (safe := safe) (fin := fin); rw [hst2] at this; exact this : Calls _ _ _ _ _)).mono ?_
      rintro e W3 ⟨x3, rfl, hr3, hb⟩
      obtain ⟨a3, n3, rfl⟩ := row_val hr3
      have f3 := Fr.of_below (S := fun _ => False) hb
      have g3' := f3.heap g3 id
      have c3 := fun o i => blk_cell (blk_alloc g3' o) i
      have e3 := fun o i => blk_frozen (blk_alloc g3' o) i
      have c4 := fun i => blk_cell g3' i
      have c5 := fun i => blk_cell (f3.heap g1 id) i
      have e4 := fun i => blk_frozen g3' i
      clear hst2
      go_wp2_with fail
      have e5 : (L ++ [X]).length = L.length + 1 := by simp
      have hsz : w.heap.size ≤ W2.heap.size := Nat.le_trans f1.size hf2.size
      have hr4 := row_fr (row_base hr3 (Nat.le_trans hbase hsz)) ((Fr.refl (fun _ => False) W3).alloc (.cells #[.slice a3 (L.length + 1) n3, .int .i64 size, .int .i64 safe, .int .i64 st2, .bool fin] 49)) (fun _ _ => id)
      exact close24 (blk_alloc g3' (.cells #[.slice a3 (L.length + 1) n3, .int .i64 size, .int .i64 safe, .int .i64 st2, .bool fin] 49)) (Stepped.mk h f1 hz2 hf2 ho2 (f3.alloc _) (by rw [e5]; exact hr4) (fun k hk => .inr (hr3.lt k hk).1) (by
        have hs0 := hgd.s0
        have hs1 := hgd.s1
        have hst2 := HS2.out
        rw [e5]
        by_cases hful : (L.length : Int) + 1 = size
        · rw [if_pos hful] at hst2; exact ⟨hs0, by push_cast; omega, by push_cast; omega, by omega, by omega, by omega⟩
        · rw [if_neg hful] at hst2; exact ⟨hs0, by push_cast; omega, by push_cast; omega, by omega, by omega, by push_cast; omega⟩) (fun hf => absurd hs hf)) (by omega) rfl (by first | rfl | simp)
  · skip
    have c1 := fun i => blk_cell g1 i
    have c2 := fun i => blk_cell g2 i
    refine (appendI_no h1.zn hs (.int .i64 X)).mono ?_
    rintro e W2 ⟨rfl, rfl⟩
    go_wp2_with fail
    refine (rappend_no h1.row hs X).mono ?_
    rintro e W3 ⟨rfl, hb⟩
    have f3 := Fr.of_below (S := fun _ => False) hb
    have g3' := f3.heap g3 id
    have c3 := fun o i => blk_cell (blk_alloc g3' o) i
    have e3 := fun o i => blk_frozen (blk_alloc g3' o) i
    have c4 := fun i => blk_cell g3' i
    have c5 := fun i => blk_cell (f3.heap g1 id) i
    have e4 := fun i => blk_frozen g3' i
    go_wp2_with fail
    exact close24 (blk_alloc g3' _) (Stepped.mk h f1 h1.zn (Fr.refl _ _) (fun k hk => .inl hk) (f3.alloc _) (h.rowkeep f1 (Fr.refl _ _) (f3.alloc _)) (fun k hk => .inl hk) hgd (fun _ _ _ _ => ⟨rfl, rfl⟩)) (by omega) rfl (by first | rfl | simp)

set_option linter.unusedSimpArgs false in
set_option linter.unusedVariables false in
set_option maxRecDepth 100000 in
set_option maxHeartbeats 4000000 in
theorem stepZ2 {base : Nat} {w : World} {b : Nat} {size : Int} {v x : Value} {L : List Int} {safe st : Int} {fin : Bool} (h : Zst base w b size v x L safe st fin) (hbase : base ≤ w.heap.size) (X Y : Int) :
    Calls Try.prog 24 #[.pointer (some ⟨b, 0, none⟩), .agg #[x, .int .i64 size, .int .i64 safe, .int .i64 st, .bool fin], .agg #[.int .i64 2, .int .i64 X, .int .i64 Y]] w (Said base w b size v x L st 2) := by
  obtain ⟨ax, cx, rfl⟩ := row_val h.row
  have hA := allocs3 w (.cells #[.slice ax L.length cx, .int .i64 size, .int .i64 safe, .int .i64 st, .bool fin] 49) (.cells #[.int .i64 2, .int .i64 X, .int .i64 Y] 41) (.cells #[.slice none 0 0, .int .i64 0, .int .i64 0, .int .i64 0, .bool false] 49)
  have hgd := h.good
  have hs64 := h.s64
  have hs01 := h.s01
  go_enter Try.func24, Try.ntmps24
  go_wp2_with fail
  generalize ((w.alloc (.cells #[.slice ax L.length cx, .int .i64 size, .int .i64 safe, .int .i64 st, .bool fin] 49)).alloc (.cells #[.int .i64 2, .int .i64 X, .int .i64 Y] 41)).alloc (.cells #[.slice none 0 0, .int .i64 0, .int .i64 0, .int .i64 0, .bool false] 49) = W1 at hA ⊢
  obtain ⟨f1, g1, g2, g3, s1⟩ := hA
  rw [show w.heap.size + 2 = w.heap.size + 1 + 1 from rfl] at g3
  have h1 := h.fr0 f1
  by_cases h4 : st = 4
  · subst h4
    have c1 := fun i => blk_cell g1 i
    have c2 := fun i => blk_cell g2 i
    refine (readI_off h1.zn X).mono ?_
    rintro e W2 ⟨rfl, rfl⟩
    go_wp2_with fail
    refine (rread_off _ size safe fin X _).mono ?_
    rintro e W3 ⟨rfl, hb⟩
    have f3 := Fr.of_below (S := fun _ => False) hb
    have g3' := f3.heap g3 id
    have c3 := fun o i => blk_cell (blk_alloc g3' o) i
    have e3 := fun o i => blk_frozen (blk_alloc g3' o) i
    have c4 := fun i => blk_cell g3' i
    have c5 := fun i => blk_cell (f3.heap g1 id) i
    have e4 := fun i => blk_frozen g3' i
    go_wp2_with fail
    exact close24 (g3') (Stepped.mk h f1 h1.zn (Fr.refl _ _) (fun k hk => .inl hk) (f3) (h.rowkeep f1 (Fr.refl _ _) (f3)) (fun k hk => .inl hk) hgd (fun _ _ _ _ => ⟨rfl, rfl⟩)) (by omega) rfl (by first | rfl | simp)

  by_cases hx : X < 0 ∨ L.length ≤ X
  · skip
    have c1 := fun i => blk_cell g1 i
    have c2 := fun i => blk_cell g2 i
    refine (readI_no h1.zn h4 X (by rw [ints_length]; exact hx)).mono ?_
    rintro e W2 ⟨rfl, rfl⟩
    go_wp2_with fail
    refine (rread_no h1.row h4 X hx).mono ?_
    rintro e W3 ⟨rfl, hb⟩
    have f3 := Fr.of_below (S := fun _ => False) hb
    have g3' := f3.heap g3 id
    have c3 := fun o i => blk_cell (blk_alloc g3' o) i
    have e3 := fun o i => blk_frozen (blk_alloc g3' o) i
    have c4 := fun i => blk_cell g3' i
    have c5 := fun i => blk_cell (f3.heap g1 id) i
    have e4 := fun i => blk_frozen g3' i
    go_wp2_with fail
    exact close24 (g3') (Stepped.mk h f1 h1.zn (Fr.refl _ _) (fun k hk => .inl hk) (f3) (h.rowkeep f1 (Fr.refl _ _) (f3)) (fun k hk => .inl hk) hgd (fun _ _ _ _ => ⟨rfl, rfl⟩)) (by omega) rfl (by first | rfl | simp)

  obtain ⟨k, rfl⟩ : ∃ k : Nat, X = k := ⟨X.toNat, by omega⟩
  have hk : k < L.length := by omega
  have hk2 : k < (ints L).length := by rw [ints_length]; exact hk
  have hye : (ints L)[k] = .int .i64 L[k] := by simp [ints]
  have hcall := readI_at h1.zn h4 k hk2
  rw [hye] at hcall
  clear hye
  have c1 := fun i => blk_cell g1 i
  have c2 := fun i => blk_cell g2 i
  refine (hcall).mono ?_
  rintro e W2 ⟨rfl, rfl⟩
  go_wp2_with fail
  refine (rread_at h1.row h4 k hk).mono ?_
  rintro e W3 ⟨rfl, hb⟩
  have f3 := Fr.of_below (S := fun _ => False) hb
  have g3' := f3.heap g3 id
  have c3 := fun o i => blk_cell (blk_alloc g3' o) i
  have e3 := fun o i => blk_frozen (blk_alloc g3' o) i
  have c4 := fun i => blk_cell g3' i
  have c5 := fun i => blk_cell (f3.heap g1 id) i
  have e4 := fun i => blk_frozen g3' i
  go_wp2_with fail
  exact close24 (g3') (Stepped.mk h f1 h1.zn (Fr.refl _ _) (fun k hk => .inl hk) (f3) (h.rowkeep f1 (Fr.refl _ _) (f3)) (fun k hk => .inl hk) hgd (fun _ _ _ _ => ⟨rfl, rfl⟩)) (by omega) rfl (by first | rfl | simp)

set_option linter.unusedSimpArgs false in
set_option linter.unusedVariables false in
set_option maxRecDepth 100000 in
set_option maxHeartbeats 4000000 in
theorem stepZ3 {base : Nat} {w : World} {b : Nat} {size : Int} {v x : Value} {L : List Int} {safe st : Int} {fin : Bool} (h : Zst base w b size v x L safe st fin) (hbase : base ≤ w.heap.size) (X Y : Int) :
    Calls Try.prog 24 #[.pointer (some ⟨b, 0, none⟩), .agg #[x, .int .i64 size, .int .i64 safe, .int .i64 st, .bool fin], .agg #[.int .i64 3, .int .i64 X, .int .i64 Y]] w (Said base w b size v x L st 3) := by
  obtain ⟨ax, cx, rfl⟩ := row_val h.row
  have hA := allocs3 w (.cells #[.slice ax L.length cx, .int .i64 size, .int .i64 safe, .int .i64 st, .bool fin] 49) (.cells #[.int .i64 3, .int .i64 X, .int .i64 Y] 41) (.cells #[.slice none 0 0, .int .i64 0, .int .i64 0, .int .i64 0, .bool false] 49)
  have hgd := h.good
  have hs64 := h.s64
  have hs01 := h.s01
  go_enter Try.func24, Try.ntmps24
  go_wp2_with fail
  generalize ((w.alloc (.cells #[.slice ax L.length cx, .int .i64 size, .int .i64 safe, .int .i64 st, .bool fin] 49)).alloc (.cells #[.int .i64 3, .int .i64 X, .int .i64 Y] 41)).alloc (.cells #[.slice none 0 0, .int .i64 0, .int .i64 0, .int .i64 0, .bool false] 49) = W1 at hA ⊢
  obtain ⟨f1, g1, g2, g3, s1⟩ := hA
  rw [show w.heap.size + 2 = w.heap.size + 1 + 1 from rfl] at g3
  have h1 := h.fr0 f1
  by_cases hs : failedOf st = 0
  · skip
    have c1 := fun i => blk_cell g1 i
    have c2 := fun i => blk_cell g2 i
    refine (rreset_ok h1.row hs).mono ?_
    rintro e W2 ⟨rfl, hb⟩
    have f2 := f1.trans (Fr.of_below (S := fun _ => False) hb) (fun _ _ h => h)
    have g3' := (Fr.of_below (S := fun _ => False) hb).heap g3 id
    have g17 := blk_new W2 (.cells #[.slice none 0 0, .int .i64 size, .int .i64 0, .int .i64 0, .bool false] 49)
    have f17 := f2.alloc (.cells #[.slice none 0 0, .int .i64 size, .int .i64 0, .int .i64 0, .bool false] 49)
    have g3'' := blk_alloc g3' (.cells #[.slice none 0 0, .int .i64 size, .int .i64 0, .int .i64 0, .bool false] 49)
    have hsz2 := hb.size
    obtain ⟨t17, ht17⟩ : ∃ t, W2.heap.size = t := ⟨_, rfl⟩
    go_wp2_with fail
    rw [ht17] at g17
    try rw [ht17]
    generalize W2.alloc (.cells #[.slice none 0 0, .int .i64 size, .int .i64 0, .int .i64 0, .bool false] 49) = W3 at g17 f17 g3'' ⊢
    have h3 := h.fr0 f17
    have hlz : ∀ k, Zf b v k → k < w.heap.size := fun k hk => (h.lt (k := k) (by rcases hk with e | e; exact .inl e; exact .inr (.inl e))).2
    refine (wpIn_wide (n := 0)).1 ?_
    refine regionIn_seq (Szr W3 b v (w.heap.size + 1 + 1) (.cells #[.slice none 0 0, .int .i64 size, .int .i64 0, .int .i64 0, .bool false] 49 (0, 0)) (fun V => ZAt 58 3 base V b (.slice none 0 0) (ints []) size 0 0 false)) rfl (by kernel_rfl) (by kernel_rfl) (by kernel_rfl) (fun _ => trivial) rfl (Szr.start _ _ _ _ _ _) ?_
    iterate 2
      apply SeqR.step
      · rfl
      · intro d V hV ht
        have c1 := fun i => blk_cell (hV.1.heap g17 (by rintro (⟨_, e⟩ | ⟨_, e⟩); have := hlz _ e; omega; omega)) i
        simp [Oper.gives, execOp, Act.eval, go_sem, c1]
        exact ⟨rfl, hV.keep (by decide) (by decide)⟩
      simp only [Act.put, List.setIfInBounds_toArray, List.set_cons_succ, List.set_cons_zero]
    apply SeqR.step
    · rfl
    · intro d V hV ht
      have n5 : d 5 = false := ht.later 5 _ rfl (by kernel_rfl)
      have n2 : d 2 = false := ht.not
      have hF : Fr (fun _ => False) W3 V := hV.1.mono (fun k _ hk => by rcases hk with hk | hk; rw [n2] at hk; cases hk.1; rw [n5] at hk; cases hk.1)
      simp [Oper.gives, execOp, Act.eval, go_sem]
      refine callsIn_wide.2 ((resetI_ok (h3.fr0 hF).zn hs).mono ?_)
      rintro e W9 ⟨rfl, hz9, hf9⟩
      exact ⟨_, rfl, rfl, hV.call n5 hf9 hz9⟩
    simp only [Act.put, List.setIfInBounds_toArray, List.set_cons_succ, List.set_cons_zero]
    iterate 2
      apply SeqR.step
      · rfl
      · intro d V hV ht
        simp [Oper.gives, execOp, Act.eval, go_sem]
        exact ⟨rfl, hV.keep (by decide) (by decide)⟩
      simp only [Act.put, List.setIfInBounds_toArray, List.set_cons_succ, List.set_cons_zero]
    apply SeqR.step
    · rfl
    · intro d V hV ht
      have y2 : d 2 = true := ht.dep 2 (by kernel_rfl)
      have n5 : d 5 = false := ht.not
      have gr := hV.1.heap g3'' (by rintro (⟨_, e⟩ | ⟨e, _⟩); have := hlz _ e; omega; rw [n5] at e; cases e)
      have c1 := fun i => blk_cell gr i
      have e1 := fun i => blk_frozen gr i
      simp [Oper.gives, execOp, Act.eval, go_sem, c1, e1]
      have F := put5_fr V (w.heap.size + 1 + 1) (.slice none 0 0) (.int .i64 size) (.int .i64 0) (.int .i64 0) (.bool false)
      have hzz := hV.2.1 y2
      exact ⟨rfl, hV.put F (hzz.fr F (ne_obj hzz.z gr (by intro e; cases e)) (fun k hk => row_ne hzz.row gr (by decide) hk)) (put5 gr _ _ _ _ _)⟩
    simp only [Act.put, List.setIfInBounds_toArray, List.set_cons_succ, List.set_cons_zero]
    apply SeqR.step
    · rfl
    · intro d V hV ht
      simp [Oper.gives, execOp, Act.eval, go_sem]
      exact ⟨rfl, hV.keep (by decide) (by decide)⟩
    simp only [Act.put, List.setIfInBounds_toArray, List.set_cons_succ, List.set_cons_zero]
    refine SeqR.nil fun V hV => ?_
    go_wp2_with fail
    have hFV : Fr (fun k => Zf b v k ∨ w.heap.size ≤ k) W3 V := hV.1.mono (fun k _ hk => by rcases hk with hk | hk; exact .inl hk.2; exact .inr (by omega))
    have hFw : Fr (Zf b v) w V := (f17.mono (fun _ _ h => h.elim)).trans hFV (fun i hi hk => by rcases hk with hk | hk; exact hk; omega)
    have hzz := hV.2.1 rfl
    exact close24b (hV.2.2 rfl) (Stepped.mk h (Fr.refl _ w) hzz hFw (fun k hk => by cases hk) (Fr.refl _ _) (World.ownsRow_nil _ _ _ _) (fun k hk => by cases hk) ⟨by omega, by simp, by have := hgd.n1; simp; omega, by omega, by omega, by have := hgd.n1; have := hgd.op; simp; omega⟩ (fun hf => absurd hs hf)) (by omega) rfl (by first | rfl | simp)
  · skip
    have c1 := fun i => blk_cell g1 i
    have c2 := fun i => blk_cell g2 i
    refine (rreset_no h1.row hs).mono ?_
    rintro e W2 ⟨rfl, hb⟩
    have f2 := f1.trans (Fr.of_below (S := fun _ => False) hb) (fun _ _ h => h)
    have g3' := (Fr.of_below (S := fun _ => False) hb).heap g3 id
    have g17 := blk_new W2 (.cells #[.slice ax L.length cx, .int .i64 size, .int .i64 safe, .int .i64 st, .bool fin] 49)
    have f17 := f2.alloc (.cells #[.slice ax L.length cx, .int .i64 size, .int .i64 safe, .int .i64 st, .bool fin] 49)
    have g3'' := blk_alloc g3' (.cells #[.slice ax L.length cx, .int .i64 size, .int .i64 safe, .int .i64 st, .bool fin] 49)
    have hsz2 := hb.size
    obtain ⟨t17, ht17⟩ : ∃ t, W2.heap.size = t := ⟨_, rfl⟩
    go_wp2_with fail
    rw [ht17] at g17
    try rw [ht17]
    generalize W2.alloc (.cells #[.slice ax L.length cx, .int .i64 size, .int .i64 safe, .int .i64 st, .bool fin] 49) = W3 at g17 f17 g3'' ⊢
    have h3 := h.fr0 f17
    have hlz : ∀ k, Zf b v k → k < w.heap.size := fun k hk => (h.lt (k := k) (by rcases hk with e | e; exact .inl e; exact .inr (.inl e))).2
    refine (wpIn_wide (n := 0)).1 ?_
    refine regionIn_seq (Szr W3 b v (w.heap.size + 1 + 1) (.cells #[.slice ax L.length cx, .int .i64 size, .int .i64 safe, .int .i64 st, .bool fin] 49 (0, 0)) (fun V => ZAt 58 3 base V b v (ints L) size safe st fin)) rfl (by kernel_rfl) (by kernel_rfl) (by kernel_rfl) (fun _ => trivial) rfl (Szr.start _ _ _ _ _ _) ?_
    iterate 2
      apply SeqR.step
      · rfl
      · intro d V hV ht
        have c1 := fun i => blk_cell (hV.1.heap g17 (by rintro (⟨_, e⟩ | ⟨_, e⟩); have := hlz _ e; omega; omega)) i
        simp [Oper.gives, execOp, Act.eval, go_sem, c1]
        exact ⟨rfl, hV.keep (by decide) (by decide)⟩
      simp only [Act.put, List.setIfInBounds_toArray, List.set_cons_succ, List.set_cons_zero]
    apply SeqR.step
    · rfl
    · intro d V hV ht
      have n5 : d 5 = false := ht.later 5 _ rfl (by kernel_rfl)
      have n2 : d 2 = false := ht.not
      have hF : Fr (fun _ => False) W3 V := hV.1.mono (fun k _ hk => by rcases hk with hk | hk; rw [n2] at hk; cases hk.1; rw [n5] at hk; cases hk.1)
      simp [Oper.gives, execOp, Act.eval, go_sem]
      refine callsIn_wide.2 ((resetI_no (h3.fr0 hF).zn hs).mono ?_)
      rintro e W9 ⟨rfl, rfl⟩
      exact ⟨_, rfl, rfl, hV.call n5 (Fr.refl _ _) (h3.fr0 hF).zn⟩
    simp only [Act.put, List.setIfInBounds_toArray, List.set_cons_succ, List.set_cons_zero]
    iterate 2
      apply SeqR.step
      · rfl
      · intro d V hV ht
        simp [Oper.gives, execOp, Act.eval, go_sem]
        exact ⟨rfl, hV.keep (by decide) (by decide)⟩
      simp only [Act.put, List.setIfInBounds_toArray, List.set_cons_succ, List.set_cons_zero]
    apply SeqR.step
    · rfl
    · intro d V hV ht
      have y2 : d 2 = true := ht.dep 2 (by kernel_rfl)
      have n5 : d 5 = false := ht.not
      have gr := hV.1.heap g3'' (by rintro (⟨_, e⟩ | ⟨e, _⟩); have := hlz _ e; omega; rw [n5] at e; cases e)
      have c1 := fun i => blk_cell gr i
      have e1 := fun i => blk_frozen gr i
      simp [Oper.gives, execOp, Act.eval, go_sem, c1, e1]
      have F := put5_fr V (w.heap.size + 1 + 1) (.slice ax L.length cx) (.int .i64 size) (.int .i64 safe) (.int .i64 st) (.bool fin)
      have hzz := hV.2.1 y2
      exact ⟨rfl, hV.put F (hzz.fr F (ne_obj hzz.z gr (by intro e; cases e)) (fun k hk => row_ne hzz.row gr (by decide) hk)) (put5 gr _ _ _ _ _)⟩
    simp only [Act.put, List.setIfInBounds_toArray, List.set_cons_succ, List.set_cons_zero]
    apply SeqR.step
    · rfl
    · intro d V hV ht
      simp [Oper.gives, execOp, Act.eval, go_sem]
      exact ⟨rfl, hV.keep (by decide) (by decide)⟩
    simp only [Act.put, List.setIfInBounds_toArray, List.set_cons_succ, List.set_cons_zero]
    refine SeqR.nil fun V hV => ?_
    go_wp2_with fail
    have hFV : Fr (fun k => Zf b v k ∨ w.heap.size ≤ k) W3 V := hV.1.mono (fun k _ hk => by rcases hk with hk | hk; exact .inl hk.2; exact .inr (by omega))
    have hFw : Fr (Zf b v) w V := (f17.mono (fun _ _ h => h.elim)).trans hFV (fun i hi hk => by rcases hk with hk | hk; exact hk; omega)
    have hzz := hV.2.1 rfl
    exact close24b (hV.2.2 rfl) (Stepped.mk h (Fr.refl _ w) hzz hFw (fun k hk => .inl hk) (Fr.refl _ _) (h.rowkeep (Fr.refl _ w) hFw (Fr.refl _ _)) (fun k hk => .inl hk) hgd (fun _ _ _ _ => ⟨rfl, rfl⟩)) (by omega) rfl (by first | rfl | simp)

set_option linter.unusedSimpArgs false in
set_option linter.unusedVariables false in
set_option maxRecDepth 100000 in
set_option maxHeartbeats 4000000 in
theorem stepZ4 {base : Nat} {w : World} {b : Nat} {size : Int} {v x : Value} {L : List Int} {safe st : Int} {fin : Bool} (h : Zst base w b size v x L safe st fin) (hbase : base ≤ w.heap.size) (X Y : Int) :
    Calls Try.prog 24 #[.pointer (some ⟨b, 0, none⟩), .agg #[x, .int .i64 size, .int .i64 safe, .int .i64 st, .bool fin], .agg #[.int .i64 4, .int .i64 X, .int .i64 Y]] w (Said base w b size v x L st 4) := by
  obtain ⟨ax, cx, rfl⟩ := row_val h.row
  have hA := allocs3 w (.cells #[.slice ax L.length cx, .int .i64 size, .int .i64 safe, .int .i64 st, .bool fin] 49) (.cells #[.int .i64 4, .int .i64 X, .int .i64 Y] 41) (.cells #[.slice none 0 0, .int .i64 0, .int .i64 0, .int .i64 0, .bool false] 49)
  have hgd := h.good
  have hs64 := h.s64
  have hs01 := h.s01
  go_enter Try.func24, Try.ntmps24
  go_wp2_with fail
  generalize ((w.alloc (.cells #[.slice ax L.length cx, .int .i64 size, .int .i64 safe, .int .i64 st, .bool fin] 49)).alloc (.cells #[.int .i64 4, .int .i64 X, .int .i64 Y] 41)).alloc (.cells #[.slice none 0 0, .int .i64 0, .int .i64 0, .int .i64 0, .bool false] 49) = W1 at hA ⊢
  obtain ⟨f1, g1, g2, g3, s1⟩ := hA
  rw [show w.heap.size + 2 = w.heap.size + 1 + 1 from rfl] at g3
  have h1 := h.fr0 f1
  by_cases hs : failedOf st = 0
  · skip
    have c1 := fun i => blk_cell g1 i
    have c2 := fun i => blk_cell g2 i
    refine (rfinish_ok h1.row hs).mono ?_
    rintro e W2 ⟨rfl, hb⟩
    have f2 := f1.trans (Fr.of_below (S := fun _ => False) hb) (fun _ _ h => h)
    have g3' := (Fr.of_below (S := fun _ => False) hb).heap g3 id
    have g17 := blk_new W2 (.cells #[.slice ax L.length cx, .int .i64 size, .int .i64 safe, .int .i64 2, .bool true] 49)
    have f17 := f2.alloc (.cells #[.slice ax L.length cx, .int .i64 size, .int .i64 safe, .int .i64 2, .bool true] 49)
    have g3'' := blk_alloc g3' (.cells #[.slice ax L.length cx, .int .i64 size, .int .i64 safe, .int .i64 2, .bool true] 49)
    have hsz2 := hb.size
    obtain ⟨t17, ht17⟩ : ∃ t, W2.heap.size = t := ⟨_, rfl⟩
    go_wp2_with fail
    rw [ht17] at g17
    try rw [ht17]
    generalize W2.alloc (.cells #[.slice ax L.length cx, .int .i64 size, .int .i64 safe, .int .i64 2, .bool true] 49) = W3 at g17 f17 g3'' ⊢
    have h3 := h.fr0 f17
    have hlz : ∀ k, Zf b v k → k < w.heap.size := fun k hk => (h.lt (k := k) (by rcases hk with e | e; exact .inl e; exact .inr (.inl e))).2
    refine (wpIn_wide (n := 0)).1 ?_
    refine regionIn_seq (Szr W3 b v (w.heap.size + 1 + 1) (.cells #[.slice ax L.length cx, .int .i64 size, .int .i64 safe, .int .i64 2, .bool true] 49 (0, 0)) (fun V => ZAt 58 3 base V b v (ints L) size safe 2 true)) rfl (by kernel_rfl) (by kernel_rfl) (by kernel_rfl) (fun _ => trivial) rfl (Szr.start _ _ _ _ _ _) ?_
    iterate 2
      apply SeqR.step
      · rfl
      · intro d V hV ht
        have c1 := fun i => blk_cell (hV.1.heap g17 (by rintro (⟨_, e⟩ | ⟨_, e⟩); have := hlz _ e; omega; omega)) i
        simp [Oper.gives, execOp, Act.eval, go_sem, c1]
        exact ⟨rfl, hV.keep (by decide) (by decide)⟩
      simp only [Act.put, List.setIfInBounds_toArray, List.set_cons_succ, List.set_cons_zero]
    apply SeqR.step
    · rfl
    · intro d V hV ht
      have n5 : d 5 = false := ht.later 5 _ rfl (by kernel_rfl)
      have n2 : d 2 = false := ht.not
      have hF : Fr (fun _ => False) W3 V := hV.1.mono (fun k _ hk => by rcases hk with hk | hk; rw [n2] at hk; cases hk.1; rw [n5] at hk; cases hk.1)
      simp [Oper.gives, execOp, Act.eval, go_sem]
      refine callsIn_wide.2 ((finishI_ok (h3.fr0 hF).zn hs).mono ?_)
      rintro e W9 ⟨rfl, hz9, hf9⟩
      exact ⟨_, rfl, rfl, hV.call n5 hf9 hz9⟩
    simp only [Act.put, List.setIfInBounds_toArray, List.set_cons_succ, List.set_cons_zero]
    iterate 2
      apply SeqR.step
      · rfl
      · intro d V hV ht
        simp [Oper.gives, execOp, Act.eval, go_sem]
        exact ⟨rfl, hV.keep (by decide) (by decide)⟩
      simp only [Act.put, List.setIfInBounds_toArray, List.set_cons_succ, List.set_cons_zero]
    apply SeqR.step
    · rfl
    · intro d V hV ht
      have y2 : d 2 = true := ht.dep 2 (by kernel_rfl)
      have n5 : d 5 = false := ht.not
      have gr := hV.1.heap g3'' (by rintro (⟨_, e⟩ | ⟨e, _⟩); have := hlz _ e; omega; rw [n5] at e; cases e)
      have c1 := fun i => blk_cell gr i
      have e1 := fun i => blk_frozen gr i
      simp [Oper.gives, execOp, Act.eval, go_sem, c1, e1]
      have F := put5_fr V (w.heap.size + 1 + 1) (.slice ax L.length cx) (.int .i64 size) (.int .i64 safe) (.int .i64 2) (.bool true)
      have hzz := hV.2.1 y2
      exact ⟨rfl, hV.put F (hzz.fr F (ne_obj hzz.z gr (by intro e; cases e)) (fun k hk => row_ne hzz.row gr (by decide) hk)) (put5 gr _ _ _ _ _)⟩
    simp only [Act.put, List.setIfInBounds_toArray, List.set_cons_succ, List.set_cons_zero]
    apply SeqR.step
    · rfl
    · intro d V hV ht
      simp [Oper.gives, execOp, Act.eval, go_sem]
      exact ⟨rfl, hV.keep (by decide) (by decide)⟩
    simp only [Act.put, List.setIfInBounds_toArray, List.set_cons_succ, List.set_cons_zero]
    refine SeqR.nil fun V hV => ?_
    go_wp2_with fail
    have hFV : Fr (fun k => Zf b v k ∨ w.heap.size ≤ k) W3 V := hV.1.mono (fun k _ hk => by rcases hk with hk | hk; exact .inl hk.2; exact .inr (by omega))
    have hFw : Fr (Zf b v) w V := (f17.mono (fun _ _ h => h.elim)).trans hFV (fun i hi hk => by rcases hk with hk | hk; exact hk; omega)
    have hzz := hV.2.1 rfl
    exact close24b (hV.2.2 rfl) (Stepped.mk h (Fr.refl _ w) hzz hFw (fun k hk => .inl hk) (Fr.refl _ _) (h.rowkeep (Fr.refl _ w) hFw (Fr.refl _ _)) (fun k hk => .inl hk) ⟨hgd.s0, hgd.s1, hgd.n1, by omega, by omega, by omega⟩ (fun hf => absurd hs hf)) (by omega) rfl (by first | rfl | simp)
  · skip
    have c1 := fun i => blk_cell g1 i
    have c2 := fun i => blk_cell g2 i
    refine (rfinish_no h1.row hs).mono ?_
    rintro e W2 ⟨rfl, hb⟩
    have f2 := f1.trans (Fr.of_below (S := fun _ => False) hb) (fun _ _ h => h)
    have g3' := (Fr.of_below (S := fun _ => False) hb).heap g3 id
    have g17 := blk_new W2 (.cells #[.slice ax L.length cx, .int .i64 size, .int .i64 safe, .int .i64 st, .bool fin] 49)
    have f17 := f2.alloc (.cells #[.slice ax L.length cx, .int .i64 size, .int .i64 safe, .int .i64 st, .bool fin] 49)
    have g3'' := blk_alloc g3' (.cells #[.slice ax L.length cx, .int .i64 size, .int .i64 safe, .int .i64 st, .bool fin] 49)
    have hsz2 := hb.size
    obtain ⟨t17, ht17⟩ : ∃ t, W2.heap.size = t := ⟨_, rfl⟩
    go_wp2_with fail
    rw [ht17] at g17
    try rw [ht17]
    generalize W2.alloc (.cells #[.slice ax L.length cx, .int .i64 size, .int .i64 safe, .int .i64 st, .bool fin] 49) = W3 at g17 f17 g3'' ⊢
    have h3 := h.fr0 f17
    have hlz : ∀ k, Zf b v k → k < w.heap.size := fun k hk => (h.lt (k := k) (by rcases hk with e | e; exact .inl e; exact .inr (.inl e))).2
    refine (wpIn_wide (n := 0)).1 ?_
    refine regionIn_seq (Szr W3 b v (w.heap.size + 1 + 1) (.cells #[.slice ax L.length cx, .int .i64 size, .int .i64 safe, .int .i64 st, .bool fin] 49 (0, 0)) (fun V => ZAt 58 3 base V b v (ints L) size safe st fin)) rfl (by kernel_rfl) (by kernel_rfl) (by kernel_rfl) (fun _ => trivial) rfl (Szr.start _ _ _ _ _ _) ?_
    iterate 2
      apply SeqR.step
      · rfl
      · intro d V hV ht
        have c1 := fun i => blk_cell (hV.1.heap g17 (by rintro (⟨_, e⟩ | ⟨_, e⟩); have := hlz _ e; omega; omega)) i
        simp [Oper.gives, execOp, Act.eval, go_sem, c1]
        exact ⟨rfl, hV.keep (by decide) (by decide)⟩
      simp only [Act.put, List.setIfInBounds_toArray, List.set_cons_succ, List.set_cons_zero]
    apply SeqR.step
    · rfl
    · intro d V hV ht
      have n5 : d 5 = false := ht.later 5 _ rfl (by kernel_rfl)
      have n2 : d 2 = false := ht.not
      have hF : Fr (fun _ => False) W3 V := hV.1.mono (fun k _ hk => by rcases hk with hk | hk; rw [n2] at hk; cases hk.1; rw [n5] at hk; cases hk.1)
      simp [Oper.gives, execOp, Act.eval, go_sem]
      refine callsIn_wide.2 ((finishI_no (h3.fr0 hF).zn hs).mono ?_)
      rintro e W9 ⟨rfl, rfl⟩
      exact ⟨_, rfl, rfl, hV.call n5 (Fr.refl _ _) (h3.fr0 hF).zn⟩
    simp only [Act.put, List.setIfInBounds_toArray, List.set_cons_succ, List.set_cons_zero]
    iterate 2
      apply SeqR.step
      · rfl
      · intro d V hV ht
        simp [Oper.gives, execOp, Act.eval, go_sem]
        exact ⟨rfl, hV.keep (by decide) (by decide)⟩
      simp only [Act.put, List.setIfInBounds_toArray, List.set_cons_succ, List.set_cons_zero]
    apply SeqR.step
    · rfl
    · intro d V hV ht
      have y2 : d 2 = true := ht.dep 2 (by kernel_rfl)
      have n5 : d 5 = false := ht.not
      have gr := hV.1.heap g3'' (by rintro (⟨_, e⟩ | ⟨e, _⟩); have := hlz _ e; omega; rw [n5] at e; cases e)
      have c1 := fun i => blk_cell gr i
      have e1 := fun i => blk_frozen gr i
      simp [Oper.gives, execOp, Act.eval, go_sem, c1, e1]
      have F := put5_fr V (w.heap.size + 1 + 1) (.slice ax L.length cx) (.int .i64 size) (.int .i64 safe) (.int .i64 st) (.bool fin)
      have hzz := hV.2.1 y2
      exact ⟨rfl, hV.put F (hzz.fr F (ne_obj hzz.z gr (by intro e; cases e)) (fun k hk => row_ne hzz.row gr (by decide) hk)) (put5 gr _ _ _ _ _)⟩
    simp only [Act.put, List.setIfInBounds_toArray, List.set_cons_succ, List.set_cons_zero]
    apply SeqR.step
    · rfl
    · intro d V hV ht
      simp [Oper.gives, execOp, Act.eval, go_sem]
      exact ⟨rfl, hV.keep (by decide) (by decide)⟩
    simp only [Act.put, List.setIfInBounds_toArray, List.set_cons_succ, List.set_cons_zero]
    refine SeqR.nil fun V hV => ?_
    go_wp2_with fail
    have hFV : Fr (fun k => Zf b v k ∨ w.heap.size ≤ k) W3 V := hV.1.mono (fun k _ hk => by rcases hk with hk | hk; exact .inl hk.2; exact .inr (by omega))
    have hFw : Fr (Zf b v) w V := (f17.mono (fun _ _ h => h.elim)).trans hFV (fun i hi hk => by rcases hk with hk | hk; exact hk; omega)
    have hzz := hV.2.1 rfl
    exact close24b (hV.2.2 rfl) (Stepped.mk h (Fr.refl _ w) hzz hFw (fun k hk => .inl hk) (Fr.refl _ _) (h.rowkeep (Fr.refl _ w) hFw (Fr.refl _ _)) (fun k hk => .inl hk) hgd (fun _ _ _ _ => ⟨rfl, rfl⟩)) (by omega) rfl (by first | rfl | simp)

set_option linter.unusedSimpArgs false in
set_option linter.unusedVariables false in
set_option maxRecDepth 100000 in
set_option maxHeartbeats 4000000 in
theorem stepZ5 {base : Nat} {w : World} {b : Nat} {size : Int} {v x : Value} {L : List Int} {safe st : Int} {fin : Bool} (h : Zst base w b size v x L safe st fin) (hbase : base ≤ w.heap.size) (X Y : Int) :
    Calls Try.prog 24 #[.pointer (some ⟨b, 0, none⟩), .agg #[x, .int .i64 size, .int .i64 safe, .int .i64 st, .bool fin], .agg #[.int .i64 5, .int .i64 X, .int .i64 Y]] w (Said base w b size v x L st 5) := by
  obtain ⟨ax, cx, rfl⟩ := row_val h.row
  have hA := allocs3 w (.cells #[.slice ax L.length cx, .int .i64 size, .int .i64 safe, .int .i64 st, .bool fin] 49) (.cells #[.int .i64 5, .int .i64 X, .int .i64 Y] 41) (.cells #[.slice none 0 0, .int .i64 0, .int .i64 0, .int .i64 0, .bool false] 49)
  have hgd := h.good
  have hs64 := h.s64
  have hs01 := h.s01
  go_enter Try.func24, Try.ntmps24
  go_wp2_with fail
  generalize ((w.alloc (.cells #[.slice ax L.length cx, .int .i64 size, .int .i64 safe, .int .i64 st, .bool fin] 49)).alloc (.cells #[.int .i64 5, .int .i64 X, .int .i64 Y] 41)).alloc (.cells #[.slice none 0 0, .int .i64 0, .int .i64 0, .int .i64 0, .bool false] 49) = W1 at hA ⊢
  obtain ⟨f1, g1, g2, g3, s1⟩ := hA
  rw [show w.heap.size + 2 = w.heap.size + 1 + 1 from rfl] at g3
  have h1 := h.fr0 f1
  have c1 := fun i => blk_cell g1 i
  have c2 := fun i => blk_cell g2 i
  refine (flushI h1.zn).mono ?_
  rintro e W2 ⟨⟨u9, rfl⟩, hz2, hf2⟩
  rw [ints_length] at hz2
  have rk := h.rowkeep f1 hf2 (Fr.refl _ _)
  have hn1 : ∀ {k : Nat} {o : Obj}, W1.heap[k]? = some o → w.heap.size ≤ k → W2.heap[k]? = some o := fun {k o} hk hge => hf2.heap hk (fun hz => by have := h.lt (k := k) (by rcases hz with e | e; exact .inl e; exact .inr (.inl e)); omega)
  replace g1 := hn1 g1 (Nat.le_refl _)
  replace g2 := hn1 g2 (by omega)
  replace g3 := hn1 g3 (by omega)
  have hsz : w.heap.size ≤ W2.heap.size := Nat.le_trans f1.size hf2.size
  clear c1 c2
  have c1 := fun i => blk_cell g1 i
  have c2 := fun i => blk_cell g2 i
  go_wp2_with fail
  refine (rflush rk).mono ?_
  rintro e W3 ⟨rfl, hb⟩
  have f3 := Fr.of_below (S := fun _ => False) hb
  have g3' := f3.heap g3 id
  have c3 := fun o i => blk_cell (blk_alloc g3' o) i
  have e3 := fun o i => blk_frozen (blk_alloc g3' o) i
  have c4 := fun i => blk_cell g3' i
  have c5 := fun i => blk_cell (f3.heap g1 id) i
  have e4 := fun i => blk_frozen g3' i
  go_wp2_with fail
  exact close24 (g3') (Stepped.mk h f1 hz2 hf2 (fun k hk => .inl hk) (f3) (h.rowkeep f1 hf2 f3) (fun k hk => .inl hk) (⟨by omega, by omega, hgd.n1, hgd.t0, hgd.t1, hgd.op⟩) (fun _ _ _ _ => ⟨rfl, rfl⟩)) (by omega) rfl (by first | rfl | simp)

set_option linter.unusedSimpArgs false in
set_option linter.unusedVariables false in
set_option maxRecDepth 100000 in
set_option maxHeartbeats 4000000 in
theorem stepZ6 {base : Nat} {w : World} {b : Nat} {size : Int} {v x : Value} {L : List Int} {safe st : Int} {fin : Bool} (h : Zst base w b size v x L safe st fin) (hbase : base ≤ w.heap.size) (X Y : Int) :
    Calls Try.prog 24 #[.pointer (some ⟨b, 0, none⟩), .agg #[x, .int .i64 size, .int .i64 safe, .int .i64 st, .bool fin], .agg #[.int .i64 6, .int .i64 X, .int .i64 Y]] w (Said base w b size v x L st 6) := by
  obtain ⟨ax, cx, rfl⟩ := row_val h.row
  have hA := allocs3 w (.cells #[.slice ax L.length cx, .int .i64 size, .int .i64 safe, .int .i64 st, .bool fin] 49) (.cells #[.int .i64 6, .int .i64 X, .int .i64 Y] 41) (.cells #[.slice none 0 0, .int .i64 0, .int .i64 0, .int .i64 0, .bool false] 49)
  have hgd := h.good
  have hs64 := h.s64
  have hs01 := h.s01
  go_enter Try.func24, Try.ntmps24
  go_wp2_with fail
  generalize ((w.alloc (.cells #[.slice ax L.length cx, .int .i64 size, .int .i64 safe, .int .i64 st, .bool fin] 49)).alloc (.cells #[.int .i64 6, .int .i64 X, .int .i64 Y] 41)).alloc (.cells #[.slice none 0 0, .int .i64 0, .int .i64 0, .int .i64 0, .bool false] 49) = W1 at hA ⊢
  obtain ⟨f1, g1, g2, g3, s1⟩ := hA
  rw [show w.heap.size + 2 = w.heap.size + 1 + 1 from rfl] at g3
  have h1 := h.fr0 f1
  obtain ⟨m, hm⟩ : ∃ m : Nat, (m : Int) = crashN safe L.length X := ⟨(crashN safe L.length X).toNat, by have := hgd.s0; have := hgd.s1; unfold crashN; split <;> (try split) <;> omega⟩
  have HM := Lib.hid hm
  have hml : m ≤ L.length := by have := hgd.s0; have := hgd.s1; unfold crashN at hm; split at hm <;> (try split at hm) <;> omega
  have hsm : safe ≤ m := by have := hgd.s0; have := hgd.s1; unfold crashN at hm; split at hm <;> (try split at hm) <;> omega
  have hlm : (L.take m).length = m := by rw [List.length_take]; omega
  have hg2 : Good (L.take m).length size m (crashSt st m size fin) := by
    have h0 := hgd.t0
    have h1 := hgd.t1
    have h2 := hgd.op
    have h3 := hgd.n1
    rw [hlm]
    unfold crashSt
    split
    · exact ⟨by omega, by omega, by omega, by omega, by omega, by omega⟩
    · split
      · exact ⟨by omega, by omega, by omega, by omega, by omega, by omega⟩
      · rename_i hn
        have : (m : Int) ≠ size := fun e => hn (.inr e)
        split <;> exact ⟨by omega, by omega, by omega, by omega, by omega, by omega⟩
  have HL := Lib.hid hlm
  clear hm hlm
  have c1 := fun i => blk_cell g1 i
  have c2 := fun i => blk_cell g2 i
  refine (crashI h1.zn hgd.s0 (by rw [ints_length]; exact hgd.s1) (by rw [ints_length]; have := hgd.n1; omega) (ints_one L) X m (by rw [ints_length]; exact HM.out)).mono ?_
  rintro e W2 ⟨⟨u9, rfl⟩, v2, hz2, hf2, ho2⟩
  have htk : (ints L).take m = ints (L.take m) := by simp [ints, List.map_take]
  rw [htk] at hz2
  clear htk
  have rk := h.rowkeep f1 hf2 (Fr.refl _ _)
  have hn1 : ∀ {k : Nat} {o : Obj}, W1.heap[k]? = some o → w.heap.size ≤ k → W2.heap[k]? = some o := fun {k o} hk hge => hf2.heap hk (fun hz => by have := h.lt (k := k) (by rcases hz with e | e; exact .inl e; exact .inr (.inl e)); omega)
  replace g1 := hn1 g1 (Nat.le_refl _)
  replace g2 := hn1 g2 (by omega)
  replace g3 := hn1 g3 (by omega)
  have hsz : w.heap.size ≤ W2.heap.size := Nat.le_trans f1.size hf2.size
  clear c1 c2
  have c1 := fun i => blk_cell g1 i
  have c2 := fun i => blk_cell g2 i
  go_wp2_with fail
  refine (rcrash rk hgd.s0 hgd.s1 (by have := hgd.n1; omega) X m HM.out).mono ?_
  rintro e W3 ⟨x3, rfl, hr3, hb⟩
  obtain ⟨a3, n3, rfl⟩ := row_val hr3
  obtain ⟨st9, hst9⟩ : ∃ y, crashSt st m size fin = y := ⟨_, rfl⟩
  rw [hst9] at hz2 hg2 ⊢
  clear hst9
  have f3 := Fr.of_below (S := fun _ => False) hb
  have g3' := f3.heap g3 id
  have c3 := fun o i => blk_cell (blk_alloc g3' o) i
  have e3 := fun o i => blk_frozen (blk_alloc g3' o) i
  have c4 := fun i => blk_cell g3' i
  have c5 := fun i => blk_cell (f3.heap g1 id) i
  have e4 := fun i => blk_frozen g3' i
  go_wp2_with fail
  exact close24 (g3') (Stepped.mk h f1 hz2 hf2 (ho2) (f3) (by rw [HL.out]; exact row_base hr3 (Nat.le_trans hbase hsz)) (fun k hk => .inr (hr3.lt k hk).1) (hg2) (fun _ h6 => absurd rfl h6)) (by omega) rfl (by first | rfl | simp)

set_option linter.unusedSimpArgs false in
set_option linter.unusedVariables false in
set_option maxRecDepth 100000 in
set_option maxHeartbeats 4000000 in
theorem stepZ7 {base : Nat} {w : World} {b : Nat} {size : Int} {v x : Value} {L : List Int} {safe st : Int} {fin : Bool} (h : Zst base w b size v x L safe st fin) (hbase : base ≤ w.heap.size) (X Y : Int) :
    Calls Try.prog 24 #[.pointer (some ⟨b, 0, none⟩), .agg #[x, .int .i64 size, .int .i64 safe, .int .i64 st, .bool fin], .agg #[.int .i64 7, .int .i64 X, .int .i64 Y]] w (Said base w b size v x L st 7) := by
  obtain ⟨ax, cx, rfl⟩ := row_val h.row
  have hA := allocs3 w (.cells #[.slice ax L.length cx, .int .i64 size, .int .i64 safe, .int .i64 st, .bool fin] 49) (.cells #[.int .i64 7, .int .i64 X, .int .i64 Y] 41) (.cells #[.slice none 0 0, .int .i64 0, .int .i64 0, .int .i64 0, .bool false] 49)
  have hgd := h.good
  have hs64 := h.s64
  have hs01 := h.s01
  go_enter Try.func24, Try.ntmps24
  go_wp2_with fail
  generalize ((w.alloc (.cells #[.slice ax L.length cx, .int .i64 size, .int .i64 safe, .int .i64 st, .bool fin] 49)).alloc (.cells #[.int .i64 7, .int .i64 X, .int .i64 Y] 41)).alloc (.cells #[.slice none 0 0, .int .i64 0, .int .i64 0, .int .i64 0, .bool false] 49) = W1 at hA ⊢
  obtain ⟨f1, g1, g2, g3, s1⟩ := hA
  rw [show w.heap.size + 2 = w.heap.size + 1 + 1 from rfl] at g3
  have h1 := h.fr0 f1
  have hg2 : Good L.length size safe (failTo st X) := by
    have h0 := hgd.t0
    have h1 := hgd.t1
    have h2 := hgd.op
    unfold failTo
    split
    · exact ⟨hgd.s0, hgd.s1, hgd.n1, by omega, by omega, by omega⟩
    · exact hgd
  have c1 := fun i => blk_cell g1 i
  have c2 := fun i => blk_cell g2 i
  refine (failI h1.zn X).mono ?_
  rintro e W2 ⟨⟨u9, rfl⟩, hz2, hf2⟩
  have rk := h.rowkeep f1 hf2 (Fr.refl _ _)
  have hn1 : ∀ {k : Nat} {o : Obj}, W1.heap[k]? = some o → w.heap.size ≤ k → W2.heap[k]? = some o := fun {k o} hk hge => hf2.heap hk (fun hz => by have := h.lt (k := k) (by rcases hz with e | e; exact .inl e; exact .inr (.inl e)); omega)
  replace g1 := hn1 g1 (Nat.le_refl _)
  replace g2 := hn1 g2 (by omega)
  replace g3 := hn1 g3 (by omega)
  have hsz : w.heap.size ≤ W2.heap.size := Nat.le_trans f1.size hf2.size
  clear c1 c2
  have c1 := fun i => blk_cell g1 i
  have c2 := fun i => blk_cell g2 i
  go_wp2_with fail
  refine (rfail rk X).mono ?_
  rintro e W3 ⟨rfl, hb⟩
  obtain ⟨st9, hst9⟩ : ∃ y, failTo st X = y := ⟨_, rfl⟩
  rw [hst9] at hz2 hg2 ⊢
  clear hst9
  have f3 := Fr.of_below (S := fun _ => False) hb
  have g3' := f3.heap g3 id
  have c3 := fun o i => blk_cell (blk_alloc g3' o) i
  have e3 := fun o i => blk_frozen (blk_alloc g3' o) i
  have c4 := fun i => blk_cell g3' i
  have c5 := fun i => blk_cell (f3.heap g1 id) i
  have e4 := fun i => blk_frozen g3' i
  go_wp2_with fail
  exact close24 (g3') (Stepped.mk h f1 hz2 hf2 (fun k hk => .inl hk) (f3) (h.rowkeep f1 hf2 f3) (fun k hk => .inl hk) (hg2) (fun _ _ h7 => absurd rfl h7)) (by omega) rfl (by first | rfl | simp)

set_option linter.unusedSimpArgs false in
set_option linter.unusedVariables false in
set_option maxRecDepth 100000 in
set_option maxHeartbeats 4000000 in
theorem stepZ8 {base : Nat} {w : World} {b : Nat} {size : Int} {v x : Value} {L : List Int} {safe st : Int} {fin : Bool} (h : Zst base w b size v x L safe st fin) (hbase : base ≤ w.heap.size) (X Y : Int) :
    Calls Try.prog 24 #[.pointer (some ⟨b, 0, none⟩), .agg #[x, .int .i64 size, .int .i64 safe, .int .i64 st, .bool fin], .agg #[.int .i64 8, .int .i64 X, .int .i64 Y]] w (Said base w b size v x L st 8) := by
  obtain ⟨ax, cx, rfl⟩ := row_val h.row
  have hA := allocs3 w (.cells #[.slice ax L.length cx, .int .i64 size, .int .i64 safe, .int .i64 st, .bool fin] 49) (.cells #[.int .i64 8, .int .i64 X, .int .i64 Y] 41) (.cells #[.slice none 0 0, .int .i64 0, .int .i64 0, .int .i64 0, .bool false] 49)
  have hgd := h.good
  have hs64 := h.s64
  have hs01 := h.s01
  go_enter Try.func24, Try.ntmps24
  go_wp2_with fail
  generalize ((w.alloc (.cells #[.slice ax L.length cx, .int .i64 size, .int .i64 safe, .int .i64 st, .bool fin] 49)).alloc (.cells #[.int .i64 8, .int .i64 X, .int .i64 Y] 41)).alloc (.cells #[.slice none 0 0, .int .i64 0, .int .i64 0, .int .i64 0, .bool false] 49) = W1 at hA ⊢
  obtain ⟨f1, g1, g2, g3, s1⟩ := hA
  rw [show w.heap.size + 2 = w.heap.size + 1 + 1 from rfl] at g3
  have h1 := h.fr0 f1
  by_cases hx : X < 0 ∨ L.length ≤ X
  · skip
    have c1 := fun i => blk_cell g1 i
    have c2 := fun i => blk_cell g2 i
    refine (changeI_no h1.zn X hx _).mono ?_
    rintro e W2 ⟨rfl, rfl⟩
    have hz2 := h1.zn
    have hf2 : Fr (Zf b v) W2 W2 := Fr.refl _ _
    have rk := h.rowkeep f1 hf2 (Fr.refl _ _)
    have hn1 : ∀ {k : Nat} {o : Obj}, W2.heap[k]? = some o → w.heap.size ≤ k → W2.heap[k]? = some o := fun {k o} hk hge => hf2.heap hk (fun hz => by have := h.lt (k := k) (by rcases hz with e | e; exact .inl e; exact .inr (.inl e)); omega)
    replace g1 := hn1 g1 (Nat.le_refl _)
    replace g2 := hn1 g2 (by omega)
    replace g3 := hn1 g3 (by omega)
    have hsz : w.heap.size ≤ W2.heap.size := Nat.le_trans f1.size hf2.size
    clear c1 c2
    have c1 := fun i => blk_cell g1 i
    have c2 := fun i => blk_cell g2 i
    go_wp2_with fail
    refine (rchange_no rk X Y hx).mono ?_
    rintro e W3 ⟨rfl, hb⟩
    have f3 := Fr.of_below (S := fun _ => False) hb
    have g3' := f3.heap g3 id
    have c3 := fun o i => blk_cell (blk_alloc g3' o) i
    have e3 := fun o i => blk_frozen (blk_alloc g3' o) i
    have c4 := fun i => blk_cell g3' i
    have c5 := fun i => blk_cell (f3.heap g1 id) i
    have e4 := fun i => blk_frozen g3' i
    go_wp2_with fail
    exact close24 (blk_alloc g3' (.cells #[.slice ax L.length cx, .int .i64 size, .int .i64 (safe), .int .i64 (st), .bool fin] 49)) (Stepped.mk h f1 hz2 hf2 (fun k hk => .inl hk) (f3.alloc (.cells #[.slice ax L.length cx, .int .i64 size, .int .i64 (safe), .int .i64 (st), .bool fin] 49)) (h.rowkeep f1 hf2 (f3.alloc _)) (fun k hk => .inl hk) (hgd) (fun _ _ _ h8 => absurd rfl h8)) (by omega) rfl (by first | rfl | simp)
  obtain ⟨k, rfl⟩ : ∃ k : Nat, X = k := ⟨X.toNat, by omega⟩
  have hk : k < L.length := by omega
  have hchl : (chL L k Y).length = L.length := by simp [chL]
  have HC := Lib.hid hchl
  clear hchl
  have c1 := fun i => blk_cell g1 i
  have c2 := fun i => blk_cell g2 i
  refine (changeI_ok h1.zn k hk g2).mono ?_
  rintro e W2 ⟨rfl, hz2, hf2⟩
  have rk := h.rowkeep f1 hf2 (Fr.refl _ _)
  have hn1 : ∀ {k : Nat} {o : Obj}, W1.heap[k]? = some o → w.heap.size ≤ k → W2.heap[k]? = some o := fun {k o} hk hge => hf2.heap hk (fun hz => by have := h.lt (k := k) (by rcases hz with e | e; exact .inl e; exact .inr (.inl e)); omega)
  replace g1 := hn1 g1 (Nat.le_refl _)
  replace g2 := hn1 g2 (by omega)
  replace g3 := hn1 g3 (by omega)
  have hsz : w.heap.size ≤ W2.heap.size := Nat.le_trans f1.size hf2.size
  clear c1 c2
  have c1 := fun i => blk_cell g1 i
  have c2 := fun i => blk_cell g2 i
  go_wp2_with fail
  refine (rchange_ok rk (by have := hgd.n1; omega) k hk Y).mono ?_
  rintro e W3 ⟨x3, rfl, hr3, hb⟩
  obtain ⟨a3, n3, rfl⟩ := row_val hr3
  have f3 := Fr.of_below (S := fun _ => False) hb
  have g3' := f3.heap g3 id
  have c3 := fun o i => blk_cell (blk_alloc g3' o) i
  have e3 := fun o i => blk_frozen (blk_alloc g3' o) i
  have c4 := fun i => blk_cell g3' i
  have c5 := fun i => blk_cell (f3.heap g1 id) i
  have e4 := fun i => blk_frozen g3' i
  go_wp2_with fail
  exact close24 (blk_alloc g3' (.cells #[.slice a3 L.length n3, .int .i64 size, .int .i64 (safe), .int .i64 (st), .bool fin] 49)) (Stepped.mk h f1 hz2 hf2 (fun k hk => .inl hk) (f3.alloc (.cells #[.slice a3 L.length n3, .int .i64 size, .int .i64 (safe), .int .i64 (st), .bool fin] 49)) (by rw [HC.out]; exact row_base (row_fr hr3 ((Fr.refl (fun _ => False) W3).alloc _) (fun _ _ => id)) (Nat.le_trans hbase hsz)) (fun k hk => .inr (hr3.lt k hk).1) (by rw [HC.out]; exact hgd) (fun _ _ _ h8 => absurd rfl h8)) (by omega) rfl (by first | rfl | simp)

set_option linter.unusedSimpArgs false in
set_option linter.unusedVariables false in
set_option maxRecDepth 100000 in
set_option maxHeartbeats 4000000 in
theorem stepZ0 {base : Nat} {w : World} {b : Nat} {size : Int} {v x : Value} {L : List Int} {safe st : Int} {fin : Bool} (h : Zst base w b size v x L safe st fin) (hbase : base ≤ w.heap.size) (K X Y : Int) (k : K ≠ 1 ∧ K ≠ 2 ∧ K ≠ 3 ∧ K ≠ 4 ∧ K ≠ 5 ∧ K ≠ 6 ∧ K ≠ 7 ∧ K ≠ 8) :
    Calls Try.prog 24 #[.pointer (some ⟨b, 0, none⟩), .agg #[x, .int .i64 size, .int .i64 safe, .int .i64 st, .bool fin], .agg #[.int .i64 K, .int .i64 X, .int .i64 Y]] w (Said base w b size v x L st K) := by
  obtain ⟨ax, cx, rfl⟩ := row_val h.row
  have hA := allocs3 w (.cells #[.slice ax L.length cx, .int .i64 size, .int .i64 safe, .int .i64 st, .bool fin] 49) (.cells #[.int .i64 K, .int .i64 X, .int .i64 Y] 41) (.cells #[.slice none 0 0, .int .i64 0, .int .i64 0, .int .i64 0, .bool false] 49)
  have hgd := h.good
  have hs64 := h.s64
  have hs01 := h.s01
  go_enter Try.func24, Try.ntmps24
  go_upto_region 1 with fail
  generalize ((w.alloc (.cells #[.slice ax L.length cx, .int .i64 size, .int .i64 safe, .int .i64 st, .bool fin] 49)).alloc (.cells #[.int .i64 K, .int .i64 X, .int .i64 Y] 41)).alloc (.cells #[.slice none 0 0, .int .i64 0, .int .i64 0, .int .i64 0, .bool false] 49) = W1 at hA ⊢
  obtain ⟨f1, g1, g2, g3, s1⟩ := hA
  rw [show w.heap.size + 2 = w.heap.size + 1 + 1 from rfl] at g3
  have h1 := h.fr0 f1
  have kb1 : (K == 1) = false := by simpa using k.1
  have kb2 : (K == 2) = false := by simpa using k.2.1
  have kb3 : (K == 3) = false := by simpa using k.2.2.1
  have kb4 : (K == 4) = false := by simpa using k.2.2.2.1
  have kb5 : (K == 5) = false := by simpa using k.2.2.2.2.1
  have kb6 : (K == 6) = false := by simpa using k.2.2.2.2.2.1
  have kb7 : (K == 7) = false := by simpa using k.2.2.2.2.2.2.1
  have kb8 : (K == 8) = false := by simpa using k.2.2.2.2.2.2.2
  have c1 := fun i => blk_cell g1 i
  have c2 := fun i => blk_cell g2 i
  have c3 := fun i => blk_cell g3 i
  have e3 := fun i => blk_frozen g3 i
  go_wp2_with fail
  exact close24 g3 (Stepped.mk h f1 h1.zn (Fr.refl _ _) (fun k hk => .inl hk) (Fr.refl _ _) (h.rowkeep f1 (Fr.refl _ _) (Fr.refl _ _)) (fun k hk => .inl hk) hgd (fun _ _ _ _ => ⟨rfl, rfl⟩)) (by omega) rfl (by first | rfl | simp)
/-- A STEP. -/
theorem stepZ {base : Nat} {w : World} {b : Nat} {size : Int} {v x : Value} {L : List Int} {safe st : Int} {fin : Bool} (h : Zst base w b size v x L safe st fin) (hbase : base ≤ w.heap.size) (K X Y : Int) :
    Calls Try.prog 24 #[.pointer (some ⟨b, 0, none⟩), .agg #[x, .int .i64 size, .int .i64 safe, .int .i64 st, .bool fin], .agg #[.int .i64 K, .int .i64 X, .int .i64 Y]] w (Said base w b size v x L st K) := by
  by_cases k1 : K = 1
  · subst k1; exact stepZ1 h hbase X Y
  by_cases k2 : K = 2
  · subst k2; exact stepZ2 h hbase X Y
  by_cases k3 : K = 3
  · subst k3; exact stepZ3 h hbase X Y
  by_cases k4 : K = 4
  · subst k4; exact stepZ4 h hbase X Y
  by_cases k5 : K = 5
  · subst k5; exact stepZ5 h hbase X Y
  by_cases k6 : K = 6
  · subst k6; exact stepZ6 h hbase X Y
  by_cases k7 : K = 7
  · subst k7; exact stepZ7 h hbase X Y
  by_cases k8 : K = 8
  · subst k8; exact stepZ8 h hbase X Y
  exact stepZ0 h hbase K X Y ⟨k1, k2, k3, k4, k5, k6, k7, k8⟩
end Go.Proofs.Ytlffjkijjggpkaa

/- The document's zone: what its functions do. Conditions: fewer than 100 sectors, small numbers. -/
import Derived.Test.YtlffjkijjggpkaaFb1
namespace Go.Proofs.Ytlffjkijjggpkaa
open Go.RowKit Go.Conc

theorem desc49 : (Try.prog.info? 49).map (·.size) = some 5 := by kernel_rfl
theorem res_cell {W : World} {g : Nat} {cs : Array Value} (hg : W.heap[g]? = some (.cells cs 49 (0, 0))) (hs : cs.size = 5) : (loadVar 49 ⟨g, 0, none⟩).run Try.prog W = .ok (.agg cs) W :=
  run_loadVar_row W g 49 49 cs (0, 0) _ hg Try.underlying49 rfl (by rw [hs]; exact desc49)

/-- A region with one store (its operation i), whose other operations have one value each. -/
structure Sst (W1 : World) (t : Nat) (cs : Array Value) (T : TypeId) (i : Nat) (vs : List Value) (d : Nat → Bool) (vals : Nat → Value) (W : World) : Prop where
  fr : Fr (fun k => d i = true ∧ k = t) W1 W
  vv : ∀ j, j ≠ i → d j = true → vals j = vs.getD j undef
  vt : d i = true → W.heap[t]? = some (.cells cs T (0, 0))
section
variable {W1 W W' : World} {t : Nat} {cs : Array Value} {T : TypeId} {i : Nat} {vs : List Value} {d : Nat → Bool} {vals : Nat → Value}
theorem Sst.start (W1 : World) (t : Nat) (cs : Array Value) (T : TypeId) (i : Nat) (vs : List Value) (n : Nat) (vals : Nat → Value) : Sst W1 t cs T i vs (fun j => (Array.replicate n false).getD j false) vals W1.drew := by
  rw [show (fun j => (Array.replicate n false).getD j false) = fun _ => false from funext fun j => rep_false n j]
  exact ⟨(Fr.refl _ W1).drew, fun _ _ h => (by cases h), fun h => by cases h⟩
theorem Sst.op {l : Array Bool} (h : Sst W1 t cs T i vs (fun j => l.getD j false) vals W) (j : Nat) (hj : j ≠ i) (hl : j < l.size) (hf : Fr (fun _ => False) W W') {u : Value} (hu : u = vs.getD j undef) :
    Sst W1 t cs T i vs (fun q => (l.setIfInBounds j true).getD q false) (updV vals j u) W' := by
  subst hu
  have e : (l.setIfInBounds j true).getD i false = l.getD i false := done_other (fun e => hj e.symm)
  refine ⟨by simp only [e]; exact h.fr.trans hf (fun _ _ h => h.elim), fun q hq hd => ?_, fun hd => hf.heap (h.vt (by rwa [e] at hd)) id⟩
  by_cases eq : q = j
  · subst eq; exact updV_same _ _ _
  · rw [updV_other _ _ eq]
    exact h.vv q hq (by rwa [done_other eq] at hd)
theorem Sst.st {l : Array Bool} (h : Sst W1 t cs T i vs (fun j => l.getD j false) vals W) (hl : i < l.size) (hf : Fr (fun k => k = t) W W') (ht : W'.heap[t]? = some (.cells cs T (0, 0))) (u : Value) :
    Sst W1 t cs T i vs (fun q => (l.setIfInBounds i true).getD q false) (updV vals i u) W' := by
  have e : (l.setIfInBounds i true).getD i false = true := done_same hl
  refine ⟨(h.fr.mono (S' := fun k => (l.setIfInBounds i true).getD i false = true ∧ k = t) (fun _ _ hk => ⟨e, hk.2⟩)).trans hf (fun _ _ hk => ⟨e, hk⟩), fun q hq hd => ?_, fun _ => ht⟩
  rw [updV_other _ _ hq]
  exact h.vv q hq (by rwa [done_other hq] at hd)
end

section
variable {base : Nat} {w : World} {v : Value} {L : List Int} {size safe st : Int} {fin : Bool}
theorem rfailed (v : Value) (size safe st : Int) (fin : Bool) (w : World) : Calls Try.prog 43 #[.agg #[v, .int .i64 size, .int .i64 safe, .int .i64 st, .bool fin]] w fun e w' => e = .returned (.int .i64 (failedOf st)) ∧ Below w.heap.size w w' := by
  have cg := fun i => blk_cell (blk_new w (.cells #[v, .int .i64 size, .int .i64 safe, .int .i64 st, .bool fin] 49)) i
  by_cases h4 : st = 4
  · have e : failedOf st = 32 := if_pos h4
    rw [e]
    go_enter Try.func43, Try.ntmps43
    go_wp2
    go_ret
    exact ⟨rfl, (Below.refl _ _).alloc (Nat.le_refl _) _⟩
  · by_cases h3 : st = 3
    · have e : failedOf st = 30 := by rw [failedOf, if_neg h4, if_pos h3]
      rw [e]
      go_enter Try.func43, Try.ntmps43
      go_wp2
      go_ret
      exact ⟨rfl, (Below.refl _ _).alloc (Nat.le_refl _) _⟩
    · have e : failedOf st = 0 := by rw [failedOf, if_neg h4, if_neg h3]
      rw [e]
      go_enter Try.func43, Try.ntmps43
      go_wp2
      go_ret
      exact ⟨rfl, (Below.refl _ _).alloc (Nat.le_refl _) _⟩

theorem rread_off (v : Value) (size safe : Int) (fin : Bool) (x : Int) (w : World) : Calls Try.prog 33 #[.agg #[v, .int .i64 size, .int .i64 safe, .int .i64 4, .bool fin], .int .i64 x] w fun e w' => e = .returned (.tuple #[.int .i64 0, .int .i64 32]) ∧ Below w.heap.size w w' := by
  have cg := fun i => blk_cell (blk_new w (.cells #[v, .int .i64 size, .int .i64 safe, .int .i64 4, .bool fin] 49)) i
  go_enter Try.func33, Try.ntmps33
  go_wp2
  go_ret2
  exact ⟨rfl, (Below.refl _ _).alloc (Nat.le_refl _) _⟩
theorem rread_no (hr : w.ownsRow base 3 1 v L.length (ints L)) (h4 : st ≠ 4) (x : Int) (hx : x < 0 ∨ L.length ≤ x) : Calls Try.prog 33 #[.agg #[v, .int .i64 size, .int .i64 safe, .int .i64 st, .bool fin], .int .i64 x] w fun e w' =>
    e = .returned (.tuple #[.int .i64 0, .int .i64 31]) ∧ Below w.heap.size w w' := by
  obtain ⟨a, cap, rfl⟩ := row_val hr
  have cg := fun i => blk_cell (blk_new w (.cells #[.slice a L.length cap, .int .i64 size, .int .i64 safe, .int .i64 st, .bool fin] 49)) i
  rcases hx with hx | hx
  · go_enter Try.func33, Try.ntmps33
    go_wp2
    go_ret2
    exact ⟨rfl, (Below.refl _ _).alloc (Nat.le_refl _) _⟩
  · have h0 : 0 ≤ x := by omega
    go_enter Try.func33, Try.ntmps33
    go_wp2
    go_ret2
    exact ⟨rfl, (Below.refl _ _).alloc (Nat.le_refl _) _⟩
theorem rread_at (hr : w.ownsRow base 3 1 v L.length (ints L)) (h4 : st ≠ 4) (k : Nat) (hk : k < L.length) : Calls Try.prog 33 #[.agg #[v, .int .i64 size, .int .i64 safe, .int .i64 st, .bool fin], .int .i64 k] w fun e w' =>
    e = .returned (.tuple #[.int .i64 L[k], .int .i64 0]) ∧ Below w.heap.size w w' := by
  obtain ⟨g, cap, rfl, hc, -⟩ := row_cell (L := ints L) hr (by rw [ints_length]; exact hk)
  have hye : (ints L)[k]'(by rw [ints_length]; exact hk) = .int .i64 L[k] := by simp [ints]
  rw [hye] at hc
  have cg := fun i => blk_cell (blk_new w (.cells #[.slice (some ⟨g, 0, none⟩) L.length cap, .int .i64 size, .int .i64 safe, .int .i64 st, .bool fin] 49)) i
  have hc' := Fr.cell ((Fr.refl (fun _ => False) w).alloc (.cells #[.slice (some ⟨g, 0, none⟩) L.length cap, .int .i64 size, .int .i64 safe, .int .i64 st, .bool fin] 49)) hc id
  go_enter Try.func33, Try.ntmps33
  go_wp2
  go_ret2
  exact ⟨rfl, (Below.refl _ _).alloc (Nat.le_refl _) _⟩

theorem resR32 {tmps : Array Value} {W : World} {g : Nat} {c0 c1 c2 c3 c4 u5 u6 : Value} (h1 : tmps.getD 4 undef = .pointer (some ⟨g, 0, none⟩)) (h5 : tmps.getD 5 undef = u5) (h6 : tmps.getD 6 undef = u6) (hg : W.heap[g]? = some (.cells #[c0, c1, c2, c3, c4] 49 (0, 0))) : (results Try.f32 tmps).run Try.prog W = .ok (.tuple #[.agg #[c0, c1, c2, c3, c4], u5, u6]) W := by
  have ca := fun i => blk_cell hg i
  rw [Array.getD_eq_getD_getElem?] at h1 h5 h6
  simp [results, Try.f32, go_sem, h1, h5, h6, ca]
theorem resR34 {tmps : Array Value} {W : World} {g : Nat} {c0 c1 c2 c3 c4 u3 : Value} (h1 : tmps.getD 2 undef = .pointer (some ⟨g, 0, none⟩)) (h3 : tmps.getD 3 undef = u3) (hg : W.heap[g]? = some (.cells #[c0, c1, c2, c3, c4] 49 (0, 0))) : (results Try.f34 tmps).run Try.prog W = .ok (.tuple #[.agg #[c0, c1, c2, c3, c4], u3]) W := by
  have ca := fun i => blk_cell hg i
  rw [Array.getD_eq_getD_getElem?] at h1 h3
  simp [results, Try.f34, go_sem, h1, h3, ca]
theorem resR35 {tmps : Array Value} {W : World} {g : Nat} {c0 c1 c2 c3 c4 u3 : Value} (h1 : tmps.getD 2 undef = .pointer (some ⟨g, 0, none⟩)) (h3 : tmps.getD 3 undef = u3) (hg : W.heap[g]? = some (.cells #[c0, c1, c2, c3, c4] 49 (0, 0))) : (results Try.f35 tmps).run Try.prog W = .ok (.tuple #[.agg #[c0, c1, c2, c3, c4], u3]) W := by
  have ca := fun i => blk_cell hg i
  rw [Array.getD_eq_getD_getElem?] at h1 h3
  simp [results, Try.f35, go_sem, h1, h3, ca]
theorem resR36 {tmps : Array Value} {W : World} {g : Nat} {c0 c1 c2 c3 c4 : Value} (h1 : tmps.getD 2 undef = .pointer (some ⟨g, 0, none⟩)) (hg : W.heap[g]? = some (.cells #[c0, c1, c2, c3, c4] 49 (0, 0))) : (results Try.f36 tmps).run Try.prog W = .ok (.agg #[c0, c1, c2, c3, c4]) W := by
  have ca := fun i => blk_cell hg i
  rw [Array.getD_eq_getD_getElem?] at h1
  simp [results, Try.f36, go_sem, h1, ca]
theorem resR37 {tmps : Array Value} {W : World} {g : Nat} {c0 c1 c2 c3 c4 : Value} (h1 : tmps.getD 4 undef = .pointer (some ⟨g, 0, none⟩)) (hg : W.heap[g]? = some (.cells #[c0, c1, c2, c3, c4] 49 (0, 0))) : (results Try.f37 tmps).run Try.prog W = .ok (.agg #[c0, c1, c2, c3, c4]) W := by
  have ca := fun i => blk_cell hg i
  rw [Array.getD_eq_getD_getElem?] at h1
  simp [results, Try.f37, go_sem, h1, ca]
theorem resR38 {tmps : Array Value} {W : World} {g : Nat} {c0 c1 c2 c3 c4 : Value} (h1 : tmps.getD 4 undef = .pointer (some ⟨g, 0, none⟩)) (hg : W.heap[g]? = some (.cells #[c0, c1, c2, c3, c4] 49 (0, 0))) : (results Try.f38 tmps).run Try.prog W = .ok (.agg #[c0, c1, c2, c3, c4]) W := by
  have ca := fun i => blk_cell hg i
  rw [Array.getD_eq_getD_getElem?] at h1
  simp [results, Try.f38, go_sem, h1, ca]
theorem resR41 {tmps : Array Value} {W : World} {g : Nat} {c0 c1 c2 c3 c4 u7 : Value} (h1 : tmps.getD 6 undef = .pointer (some ⟨g, 0, none⟩)) (h7 : tmps.getD 7 undef = u7) (hg : W.heap[g]? = some (.cells #[c0, c1, c2, c3, c4] 49 (0, 0))) : (results Try.f41 tmps).run Try.prog W = .ok (.tuple #[.agg #[c0, c1, c2, c3, c4], u7]) W := by
  have ca := fun i => blk_cell hg i
  rw [Array.getD_eq_getD_getElem?] at h1 h7
  simp [results, Try.f41, go_sem, h1, h7, ca]
theorem row_ne {W : World} {base : Nat} {e : TypeId} {n : Nat} {xs : List Value} {u : Value} (h : W.ownsRow base e 1 u n xs) {g : Nat} {cs : Array Value} {T : TypeId} {f : Nat × Nat} (hg : W.heap[g]? = some (.cells cs T f)) (hT : T ≠ e) {k : Nat} (hk : u.ownBlock = some k) : k ≠ g := by
  obtain ⟨cur, hc⟩ := row_obj h hk
  exact ne_obj hc hg (by intro q; injection q with _ q; exact hT q.symm)
theorem put5 {W : World} {t : Nat} {d0 d1 d2 d3 d4 : Value} {T : TypeId} (h : W.heap[t]? = some (.cells #[d0, d1, d2, d3, d4] T (0, 0))) (c0 c1 c2 c3 c4 : Value) :
    (((((W.setCell ⟨t, 0, none⟩ c0).setCell ⟨t, 1, none⟩ c1).setCell ⟨t, 2, none⟩ c2).setCell ⟨t, 3, none⟩ c3).setCell ⟨t, 4, none⟩ c4).heap[t]? = some (.cells #[c0, c1, c2, c3, c4] T (0, 0)) := by
  have h0 := blk_put h 0 c0
  have h1 := blk_put h0 1 c1
  have h2 := blk_put h1 2 c2
  have h3 := blk_put h2 3 c3
  have h4 := blk_put h3 4 c4
  simpa using h4
theorem put5_fr (W : World) (t : Nat) (c0 c1 c2 c3 c4 : Value) : Fr (fun k => k = t) W (((((W.setCell ⟨t, 0, none⟩ c0).setCell ⟨t, 1, none⟩ c1).setCell ⟨t, 2, none⟩ c2).setCell ⟨t, 3, none⟩ c3).setCell ⟨t, 4, none⟩ c4) :=
  (((((Fr.refl (fun k => k = t) W).setCell (.inl rfl) _).setCell (.inl rfl) _).setCell (.inl rfl) _).setCell (.inl rfl) _).setCell (.inl rfl) _
theorem two_below (w : World) (A B : Obj) : Below w.heap.size w ((w.alloc A).alloc B) := ((Below.refl _ _).alloc (Nat.le_refl _) _).alloc (by simp) _
theorem two_new (w : World) (A B : Obj) : ((w.alloc A).alloc B).heap[w.heap.size + 1]? = some B := by have := blk_new (w.alloc A) B; rwa [World.size_alloc] at this
theorem two_old (w : World) (A B : Obj) : ((w.alloc A).alloc B).heap[w.heap.size]? = some A := blk_alloc (blk_new w A) B
theorem rflush (hr : w.ownsRow base 3 1 v L.length (ints L)) : Calls Try.prog 36 #[.agg #[v, .int .i64 size, .int .i64 safe, .int .i64 st, .bool fin]] w fun e w' =>
    e = .returned (.agg #[v, .int .i64 size, .int .i64 L.length, .int .i64 st, .bool fin]) ∧ Below w.heap.size w w' := by
  obtain ⟨a, cap, rfl⟩ := row_val hr
  go_enter Try.func36, Try.ntmps36
  go_wp2_with fail
  exact bodyPost_ret (resR36 rfl (two_new w _ _)) rfl ⟨rfl, two_below w _ _⟩
theorem rfail (hr : w.ownsRow base 3 1 v L.length (ints L)) (x : Int) : Calls Try.prog 38 #[.agg #[v, .int .i64 size, .int .i64 safe, .int .i64 st, .bool fin], .int .i64 x] w fun e w' =>
    e = .returned (.agg #[v, .int .i64 size, .int .i64 safe, .int .i64 (failTo st x), .bool fin]) ∧ Below w.heap.size w w' := by
  obtain ⟨a, cap, rfl⟩ := row_val hr
  by_cases h4 : x = 4
  · have e : failTo st x = 4 := by unfold failTo; rw [if_pos (.inl h4)]; exact h4
    rw [e]
    subst h4
    go_enter Try.func38, Try.ntmps38
    go_wp2_with fail
    exact bodyPost_ret (resR38 rfl (two_new w _ _)) rfl ⟨rfl, two_below w _ _⟩
  · by_cases h3 : x = 3
    · by_cases hs : st = 4
      · have e : failTo st x = st := by unfold failTo; rw [if_neg]; rintro (h | h); exact h4 h; exact h.2 hs
        rw [e]
        subst h3 hs
        go_enter Try.func38, Try.ntmps38
        go_wp2_with fail
        exact bodyPost_ret (resR38 rfl (two_new w _ _)) rfl ⟨rfl, two_below w _ _⟩
      · have e : failTo st x = 3 := by unfold failTo; rw [if_pos (.inr ⟨h3, hs⟩)]; exact h3
        rw [e]
        subst h3
        go_enter Try.func38, Try.ntmps38
        go_wp2_with fail
        exact bodyPost_ret (resR38 rfl (two_new w _ _)) rfl ⟨rfl, two_below w _ _⟩
    · have e : failTo st x = st := by unfold failTo; rw [if_neg]; rintro (h | h); exact h4 h; exact h3 h.1
      rw [e]
      go_enter Try.func38, Try.ntmps38
      go_wp2_with fail
      exact bodyPost_ret (resR38 rfl (two_new w _ _)) rfl ⟨rfl, two_below w _ _⟩
set_option linter.unusedSimpArgs false in
theorem rreset_no (hr : w.ownsRow base 3 1 v L.length (ints L)) (hs : failedOf st ≠ 0) : Calls Try.prog 34 #[.agg #[v, .int .i64 size, .int .i64 safe, .int .i64 st, .bool fin]] w fun e w' =>
    e = .returned (.tuple #[.agg #[v, .int .i64 size, .int .i64 safe, .int .i64 st, .bool fin], .int .i64 (failedOf st)]) ∧ Below w.heap.size w w' := by
  obtain ⟨a, cap, rfl⟩ := row_val hr
  have hsb : (failedOf st == 0) = false := by simpa using hs
  have ba := two_below w (.cells #[.slice a L.length cap, .int .i64 size, .int .i64 safe, .int .i64 st, .bool fin] 49) (.cells #[.slice none 0 0, .int .i64 0, .int .i64 0, .int .i64 0, .bool false] 49)
  have g1' := two_old w (.cells #[.slice a L.length cap, .int .i64 size, .int .i64 safe, .int .i64 st, .bool fin] 49) (.cells #[.slice none 0 0, .int .i64 0, .int .i64 0, .int .i64 0, .bool false] 49)
  have g2' := two_new w (.cells #[.slice a L.length cap, .int .i64 size, .int .i64 safe, .int .i64 st, .bool fin] 49) (.cells #[.slice none 0 0, .int .i64 0, .int .i64 0, .int .i64 0, .bool false] 49)
  go_enter Try.func34, Try.ntmps34
  go_wp2_with fail
  refine (rfailed _ _ _ _ _ _).mono ?_
  rintro e w2 ⟨rfl, hb⟩
  have f2 := Fr.of_below (S := fun _ => False) hb
  have g1 := f2.heap g1' id
  have g2 := f2.heap g2' id
  replace ba := ba.trans (hb.mono ba.size)
  clear hb f2 g1' g2'
  go_wp2_with fail
  refine (wpIn_wide (n := 0)).1 ?_
  refine regionIn_stated (P := Try.prog) (fun l vals W => Sst w2 (w.heap.size + 1) #[.slice a L.length cap, .int .i64 size, .int .i64 safe, .int .i64 st, .bool fin] 49 3 [.agg #[.slice a L.length cap, .int .i64 size, .int .i64 safe, .int .i64 st, .bool fin], .agg #[.slice a L.length cap, .int .i64 size, .int .i64 safe, .int .i64 st, .bool fin], .int .i64 (failedOf st), undef, .int .i64 (failedOf st)] (fun j => l.getD j false) vals W) (fun _ => undef) rfl (by kernel_rfl) (by kernel_rfl) (Sst.start w2 _ _ _ _ _ _ _) ?_ ?_
  · intro j o ho dd vals A Wx hsz hS hj hcl hdep hA hdf
    have hsz2 : dd.size = 5 := hsz
    rcases j with _ | _ | _ | _ | _ | j
    · cases ho
      rw [if_pos (by kernel_rfl)]
      have r1 : A.tmps.getD 1 undef = .pointer (some ⟨w.heap.size, 0, none⟩) := (hA 1 (by decide)).trans (by kernel_rfl)
      have hbx := hS.fr.heap g1 (fun ⟨_, e⟩ => by omega)
      have ca := fun i => blk_cell hbx i
      refine ⟨fun f _ => trivial, ?_⟩
      rw [Oper.semAt_eq _ _ _ (fun c h => by cases h)]
      rw [show (execOp A.eval _).run Try.prog Wx = .ok (.value (.agg #[.slice a L.length cap, .int .i64 size, .int .i64 safe, .int .i64 st, .bool fin])) (Wx) by simp [execOp, Act.eval, go_sem, r1, ca]]
      refine ⟨.agg #[.slice a L.length cap, .int .i64 size, .int .i64 safe, .int .i64 st, .bool fin], rfl, ?_⟩
      exact hS.op 0 (by decide) (by omega) (Fr.refl _ _) rfl
    · cases ho
      rw [if_pos (by kernel_rfl)]
      have r1 : A.tmps.getD 1 undef = .pointer (some ⟨w.heap.size, 0, none⟩) := (hA 1 (by decide)).trans (by kernel_rfl)
      have hbx := hS.fr.heap g1 (fun ⟨_, e⟩ => by omega)
      have ca := fun i => blk_cell hbx i
      refine ⟨fun f _ => trivial, ?_⟩
      rw [Oper.semAt_eq _ _ _ (fun c h => by cases h)]
      rw [show (execOp A.eval _).run Try.prog Wx = .ok (.value (.agg #[.slice a L.length cap, .int .i64 size, .int .i64 safe, .int .i64 st, .bool fin])) (Wx) by simp [execOp, Act.eval, go_sem, r1, ca]]
      refine ⟨.agg #[.slice a L.length cap, .int .i64 size, .int .i64 safe, .int .i64 st, .bool fin], rfl, ?_⟩
      exact hS.op 1 (by decide) (by omega) (Fr.refl _ _) rfl
    · cases ho
      rw [if_pos (by kernel_rfl)]
      have r1 : A.tmps.getD 8 undef = vals 1 := (hA 8 (by decide)).trans (by kernel_rfl)
      have d1 : dd.getD 1 false = true := hdep 1 (by kernel_rfl)
      have e1 : vals 1 = .agg #[.slice a L.length cap, .int .i64 size, .int .i64 safe, .int .i64 st, .bool fin] := hS.vv 1 (by decide) d1
      refine ⟨fun f _ => trivial, ?_⟩
      rw [Oper.semAt_eq _ _ _ (fun c h => by cases h)]
      simp [execOp, Act.eval, go_sem, r1, e1]
      refine ⟨rfl, callsIn_wide.2 ((rfailed _ _ _ _ _ _).mono ?_)⟩
      rintro e W9 ⟨rfl, hb9⟩
      refine ⟨.int .i64 (failedOf st), rfl, ?_⟩
      have hS9 := hS.op (u := .int .i64 (failedOf st)) 2 (by decide) (by omega) (Fr.of_below (S := fun _ => False) hb9) rfl
      simpa using hS9
    · cases ho
      rw [if_pos (by kernel_rfl)]
      have r1 : A.tmps.getD 2 undef = .pointer (some ⟨w.heap.size + 1, 0, none⟩) := (hA 2 (by decide)).trans (by kernel_rfl)
      have r2 : A.tmps.getD 7 undef = vals 0 := (hA 7 (by decide)).trans (by kernel_rfl)
      have d0 : dd.getD 0 false = true := hdep 0 (by kernel_rfl)
      have e0 : vals 0 = .agg #[.slice a L.length cap, .int .i64 size, .int .i64 safe, .int .i64 st, .bool fin] := hS.vv 0 (by decide) d0
      have hcl0 := hS.fr.heap g2 (fun ⟨e, _⟩ => by rw [hj] at e; cases e)
      have ca := fun i => blk_cell hcl0 i
      have fa := fun i => blk_frozen hcl0 i
      refine ⟨fun f _ => trivial, ?_⟩
      rw [Oper.semAt_eq _ _ _ (fun c h => by cases h)]
      simp [execOp, Act.eval, go_sem, r1, r2, e0, ca, fa]
      have hS9 := hS.st (by omega) (put5_fr Wx (w.heap.size + 1) _ _ _ _ _) (put5 hcl0 _ _ _ _ _) undef
      exact ⟨undef, by simpa using hS9⟩
    · cases ho
      rw [if_pos (by kernel_rfl)]
      have r1 : A.tmps.getD 9 undef = vals 2 := (hA 9 (by decide)).trans (by kernel_rfl)
      have d2 : dd.getD 2 false = true := hdep 2 (by kernel_rfl)
      have e2 : vals 2 = .int .i64 (failedOf st) := hS.vv 2 (by decide) d2
      refine ⟨fun f _ => trivial, ?_⟩
      rw [Oper.semAt_eq _ _ _ (fun c h => by cases h)]
      rw [show (execOp A.eval _).run Try.prog Wx = .ok (.value (.int .i64 (failedOf st))) (Wx) by simp [execOp, Act.eval, go_sem, r1, e2]]
      refine ⟨.int .i64 (failedOf st), rfl, ?_⟩
      exact hS.op 4 (by decide) (by omega) (Fr.refl _ _) rfl
    · cases ho
  · intro vals1 W3 hS
    have ht3 := hS.vt (by simp)
    have hf3 : Fr (fun k => k = w.heap.size + 1) w2 W3 := hS.fr.mono (fun i _ hi => hi.2)
    simp only [goV, Act.put, List.setIfInBounds_toArray, List.set_cons_succ, List.set_cons_zero]
    go_wp2_with fail
    have v4 := hS.vv 4 (by decide) (by simp)
    exact bodyPost_ret (resR34 rfl (v4) ht3) rfl ⟨rfl, ba.trans (hf3.below ba.size (fun i hi => by omega))⟩
set_option linter.unusedSimpArgs false in
theorem rfinish_no (hr : w.ownsRow base 3 1 v L.length (ints L)) (hs : failedOf st ≠ 0) : Calls Try.prog 35 #[.agg #[v, .int .i64 size, .int .i64 safe, .int .i64 st, .bool fin]] w fun e w' =>
    e = .returned (.tuple #[.agg #[v, .int .i64 size, .int .i64 safe, .int .i64 st, .bool fin], .int .i64 (failedOf st)]) ∧ Below w.heap.size w w' := by
  obtain ⟨a, cap, rfl⟩ := row_val hr
  have hsb : (failedOf st == 0) = false := by simpa using hs
  have ba := two_below w (.cells #[.slice a L.length cap, .int .i64 size, .int .i64 safe, .int .i64 st, .bool fin] 49) (.cells #[.slice none 0 0, .int .i64 0, .int .i64 0, .int .i64 0, .bool false] 49)
  have g1' := two_old w (.cells #[.slice a L.length cap, .int .i64 size, .int .i64 safe, .int .i64 st, .bool fin] 49) (.cells #[.slice none 0 0, .int .i64 0, .int .i64 0, .int .i64 0, .bool false] 49)
  have g2' := two_new w (.cells #[.slice a L.length cap, .int .i64 size, .int .i64 safe, .int .i64 st, .bool fin] 49) (.cells #[.slice none 0 0, .int .i64 0, .int .i64 0, .int .i64 0, .bool false] 49)
  go_enter Try.func35, Try.ntmps35
  go_wp2_with fail
  refine (rfailed _ _ _ _ _ _).mono ?_
  rintro e w2 ⟨rfl, hb⟩
  have f2 := Fr.of_below (S := fun _ => False) hb
  have g1 := f2.heap g1' id
  have g2 := f2.heap g2' id
  replace ba := ba.trans (hb.mono ba.size)
  clear hb f2 g1' g2'
  go_wp2_with fail
  refine (wpIn_wide (n := 0)).1 ?_
  refine regionIn_stated (P := Try.prog) (fun l vals W => Sst w2 (w.heap.size + 1) #[.slice a L.length cap, .int .i64 size, .int .i64 safe, .int .i64 st, .bool fin] 49 3 [.agg #[.slice a L.length cap, .int .i64 size, .int .i64 safe, .int .i64 st, .bool fin], .agg #[.slice a L.length cap, .int .i64 size, .int .i64 safe, .int .i64 st, .bool fin], .int .i64 (failedOf st), undef, .int .i64 (failedOf st)] (fun j => l.getD j false) vals W) (fun _ => undef) rfl (by kernel_rfl) (by kernel_rfl) (Sst.start w2 _ _ _ _ _ _ _) ?_ ?_
  · intro j o ho dd vals A Wx hsz hS hj hcl hdep hA hdf
    have hsz2 : dd.size = 5 := hsz
    rcases j with _ | _ | _ | _ | _ | j
    · cases ho
      rw [if_pos (by kernel_rfl)]
      have r1 : A.tmps.getD 1 undef = .pointer (some ⟨w.heap.size, 0, none⟩) := (hA 1 (by decide)).trans (by kernel_rfl)
      have hbx := hS.fr.heap g1 (fun ⟨_, e⟩ => by omega)
      have ca := fun i => blk_cell hbx i
      refine ⟨fun f _ => trivial, ?_⟩
      rw [Oper.semAt_eq _ _ _ (fun c h => by cases h)]
      rw [show (execOp A.eval _).run Try.prog Wx = .ok (.value (.agg #[.slice a L.length cap, .int .i64 size, .int .i64 safe, .int .i64 st, .bool fin])) (Wx) by simp [execOp, Act.eval, go_sem, r1, ca]]
      refine ⟨.agg #[.slice a L.length cap, .int .i64 size, .int .i64 safe, .int .i64 st, .bool fin], rfl, ?_⟩
      exact hS.op 0 (by decide) (by omega) (Fr.refl _ _) rfl
    · cases ho
      rw [if_pos (by kernel_rfl)]
      have r1 : A.tmps.getD 1 undef = .pointer (some ⟨w.heap.size, 0, none⟩) := (hA 1 (by decide)).trans (by kernel_rfl)
      have hbx := hS.fr.heap g1 (fun ⟨_, e⟩ => by omega)
      have ca := fun i => blk_cell hbx i
      refine ⟨fun f _ => trivial, ?_⟩
      rw [Oper.semAt_eq _ _ _ (fun c h => by cases h)]
      rw [show (execOp A.eval _).run Try.prog Wx = .ok (.value (.agg #[.slice a L.length cap, .int .i64 size, .int .i64 safe, .int .i64 st, .bool fin])) (Wx) by simp [execOp, Act.eval, go_sem, r1, ca]]
      refine ⟨.agg #[.slice a L.length cap, .int .i64 size, .int .i64 safe, .int .i64 st, .bool fin], rfl, ?_⟩
      exact hS.op 1 (by decide) (by omega) (Fr.refl _ _) rfl
    · cases ho
      rw [if_pos (by kernel_rfl)]
      have r1 : A.tmps.getD 8 undef = vals 1 := (hA 8 (by decide)).trans (by kernel_rfl)
      have d1 : dd.getD 1 false = true := hdep 1 (by kernel_rfl)
      have e1 : vals 1 = .agg #[.slice a L.length cap, .int .i64 size, .int .i64 safe, .int .i64 st, .bool fin] := hS.vv 1 (by decide) d1
      refine ⟨fun f _ => trivial, ?_⟩
      rw [Oper.semAt_eq _ _ _ (fun c h => by cases h)]
      simp [execOp, Act.eval, go_sem, r1, e1]
      refine ⟨rfl, callsIn_wide.2 ((rfailed _ _ _ _ _ _).mono ?_)⟩
      rintro e W9 ⟨rfl, hb9⟩
      refine ⟨.int .i64 (failedOf st), rfl, ?_⟩
      have hS9 := hS.op (u := .int .i64 (failedOf st)) 2 (by decide) (by omega) (Fr.of_below (S := fun _ => False) hb9) rfl
      simpa using hS9
    · cases ho
      rw [if_pos (by kernel_rfl)]
      have r1 : A.tmps.getD 2 undef = .pointer (some ⟨w.heap.size + 1, 0, none⟩) := (hA 2 (by decide)).trans (by kernel_rfl)
      have r2 : A.tmps.getD 7 undef = vals 0 := (hA 7 (by decide)).trans (by kernel_rfl)
      have d0 : dd.getD 0 false = true := hdep 0 (by kernel_rfl)
      have e0 : vals 0 = .agg #[.slice a L.length cap, .int .i64 size, .int .i64 safe, .int .i64 st, .bool fin] := hS.vv 0 (by decide) d0
      have hcl0 := hS.fr.heap g2 (fun ⟨e, _⟩ => by rw [hj] at e; cases e)
      have ca := fun i => blk_cell hcl0 i
      have fa := fun i => blk_frozen hcl0 i
      refine ⟨fun f _ => trivial, ?_⟩
      rw [Oper.semAt_eq _ _ _ (fun c h => by cases h)]
      simp [execOp, Act.eval, go_sem, r1, r2, e0, ca, fa]
      have hS9 := hS.st (by omega) (put5_fr Wx (w.heap.size + 1) _ _ _ _ _) (put5 hcl0 _ _ _ _ _) undef
      exact ⟨undef, by simpa using hS9⟩
    · cases ho
      rw [if_pos (by kernel_rfl)]
      have r1 : A.tmps.getD 9 undef = vals 2 := (hA 9 (by decide)).trans (by kernel_rfl)
      have d2 : dd.getD 2 false = true := hdep 2 (by kernel_rfl)
      have e2 : vals 2 = .int .i64 (failedOf st) := hS.vv 2 (by decide) d2
      refine ⟨fun f _ => trivial, ?_⟩
      rw [Oper.semAt_eq _ _ _ (fun c h => by cases h)]
      rw [show (execOp A.eval _).run Try.prog Wx = .ok (.value (.int .i64 (failedOf st))) (Wx) by simp [execOp, Act.eval, go_sem, r1, e2]]
      refine ⟨.int .i64 (failedOf st), rfl, ?_⟩
      exact hS.op 4 (by decide) (by omega) (Fr.refl _ _) rfl
    · cases ho
  · intro vals1 W3 hS
    have ht3 := hS.vt (by simp)
    have hf3 : Fr (fun k => k = w.heap.size + 1) w2 W3 := hS.fr.mono (fun i _ hi => hi.2)
    simp only [goV, Act.put, List.setIfInBounds_toArray, List.set_cons_succ, List.set_cons_zero]
    go_wp2_with fail
    have v4 := hS.vv 4 (by decide) (by simp)
    exact bodyPost_ret (resR35 rfl (v4) ht3) rfl ⟨rfl, ba.trans (hf3.below ba.size (fun i hi => by omega))⟩
set_option linter.unusedSimpArgs false in
theorem rappend_no (hr : w.ownsRow base 3 1 v L.length (ints L)) (hs : failedOf st ≠ 0) (x : Int) : Calls Try.prog 32 #[.agg #[v, .int .i64 size, .int .i64 safe, .int .i64 st, .bool fin], .int .i64 x] w fun e w' =>
    e = .returned (.tuple #[.agg #[v, .int .i64 size, .int .i64 safe, .int .i64 st, .bool fin], .int .i64 (0), .int .i64 (failedOf st)]) ∧ Below w.heap.size w w' := by
  obtain ⟨a, cap, rfl⟩ := row_val hr
  have hsb : (failedOf st == 0) = false := by simpa using hs
  have ba := two_below w (.cells #[.slice a L.length cap, .int .i64 size, .int .i64 safe, .int .i64 st, .bool fin] 49) (.cells #[.slice none 0 0, .int .i64 0, .int .i64 0, .int .i64 0, .bool false] 49)
  have g1' := two_old w (.cells #[.slice a L.length cap, .int .i64 size, .int .i64 safe, .int .i64 st, .bool fin] 49) (.cells #[.slice none 0 0, .int .i64 0, .int .i64 0, .int .i64 0, .bool false] 49)
  have g2' := two_new w (.cells #[.slice a L.length cap, .int .i64 size, .int .i64 safe, .int .i64 st, .bool fin] 49) (.cells #[.slice none 0 0, .int .i64 0, .int .i64 0, .int .i64 0, .bool false] 49)
  go_enter Try.func32, Try.ntmps32
  go_wp2_with fail
  refine (rfailed _ _ _ _ _ _).mono ?_
  rintro e w2 ⟨rfl, hb⟩
  have f2 := Fr.of_below (S := fun _ => False) hb
  have g1 := f2.heap g1' id
  have g2 := f2.heap g2' id
  replace ba := ba.trans (hb.mono ba.size)
  clear hb f2 g1' g2'
  go_wp2_with fail
  refine (wpIn_wide (n := 0)).1 ?_
  refine regionIn_stated (P := Try.prog) (fun l vals W => Sst w2 (w.heap.size + 1) #[.slice a L.length cap, .int .i64 size, .int .i64 safe, .int .i64 st, .bool fin] 49 3 [.agg #[.slice a L.length cap, .int .i64 size, .int .i64 safe, .int .i64 st, .bool fin], .agg #[.slice a L.length cap, .int .i64 size, .int .i64 safe, .int .i64 st, .bool fin], .int .i64 (failedOf st), undef, .int .i64 (0), .int .i64 (failedOf st)] (fun j => l.getD j false) vals W) (fun _ => undef) rfl (by kernel_rfl) (by kernel_rfl) (Sst.start w2 _ _ _ _ _ _ _) ?_ ?_
  · intro j o ho dd vals A Wx hsz hS hj hcl hdep hA hdf
    have hsz2 : dd.size = 6 := hsz
    rcases j with _ | _ | _ | _ | _ | _ | j
    · cases ho
      rw [if_pos (by kernel_rfl)]
      have r1 : A.tmps.getD 2 undef = .pointer (some ⟨w.heap.size, 0, none⟩) := (hA 2 (by decide)).trans (by kernel_rfl)
      have hbx := hS.fr.heap g1 (fun ⟨_, e⟩ => by omega)
      have ca := fun i => blk_cell hbx i
      refine ⟨fun f _ => trivial, ?_⟩
      rw [Oper.semAt_eq _ _ _ (fun c h => by cases h)]
      rw [show (execOp A.eval _).run Try.prog Wx = .ok (.value (.agg #[.slice a L.length cap, .int .i64 size, .int .i64 safe, .int .i64 st, .bool fin])) (Wx) by simp [execOp, Act.eval, go_sem, r1, ca]]
      refine ⟨.agg #[.slice a L.length cap, .int .i64 size, .int .i64 safe, .int .i64 st, .bool fin], rfl, ?_⟩
      exact hS.op 0 (by decide) (by omega) (Fr.refl _ _) rfl
    · cases ho
      rw [if_pos (by kernel_rfl)]
      have r1 : A.tmps.getD 2 undef = .pointer (some ⟨w.heap.size, 0, none⟩) := (hA 2 (by decide)).trans (by kernel_rfl)
      have hbx := hS.fr.heap g1 (fun ⟨_, e⟩ => by omega)
      have ca := fun i => blk_cell hbx i
      refine ⟨fun f _ => trivial, ?_⟩
      rw [Oper.semAt_eq _ _ _ (fun c h => by cases h)]
      rw [show (execOp A.eval _).run Try.prog Wx = .ok (.value (.agg #[.slice a L.length cap, .int .i64 size, .int .i64 safe, .int .i64 st, .bool fin])) (Wx) by simp [execOp, Act.eval, go_sem, r1, ca]]
      refine ⟨.agg #[.slice a L.length cap, .int .i64 size, .int .i64 safe, .int .i64 st, .bool fin], rfl, ?_⟩
      exact hS.op 1 (by decide) (by omega) (Fr.refl _ _) rfl
    · cases ho
      rw [if_pos (by kernel_rfl)]
      have r1 : A.tmps.getD 12 undef = vals 1 := (hA 12 (by decide)).trans (by kernel_rfl)
      have d1 : dd.getD 1 false = true := hdep 1 (by kernel_rfl)
      have e1 : vals 1 = .agg #[.slice a L.length cap, .int .i64 size, .int .i64 safe, .int .i64 st, .bool fin] := hS.vv 1 (by decide) d1
      refine ⟨fun f _ => trivial, ?_⟩
      rw [Oper.semAt_eq _ _ _ (fun c h => by cases h)]
      simp [execOp, Act.eval, go_sem, r1, e1]
      refine ⟨rfl, callsIn_wide.2 ((rfailed _ _ _ _ _ _).mono ?_)⟩
      rintro e W9 ⟨rfl, hb9⟩
      refine ⟨.int .i64 (failedOf st), rfl, ?_⟩
      have hS9 := hS.op (u := .int .i64 (failedOf st)) 2 (by decide) (by omega) (Fr.of_below (S := fun _ => False) hb9) rfl
      simpa using hS9
    · cases ho
      rw [if_pos (by kernel_rfl)]
      have r1 : A.tmps.getD 4 undef = .pointer (some ⟨w.heap.size + 1, 0, none⟩) := (hA 4 (by decide)).trans (by kernel_rfl)
      have r2 : A.tmps.getD 11 undef = vals 0 := (hA 11 (by decide)).trans (by kernel_rfl)
      have d0 : dd.getD 0 false = true := hdep 0 (by kernel_rfl)
      have e0 : vals 0 = .agg #[.slice a L.length cap, .int .i64 size, .int .i64 safe, .int .i64 st, .bool fin] := hS.vv 0 (by decide) d0
      have hcl0 := hS.fr.heap g2 (fun ⟨e, _⟩ => by rw [hj] at e; cases e)
      have ca := fun i => blk_cell hcl0 i
      have fa := fun i => blk_frozen hcl0 i
      refine ⟨fun f _ => trivial, ?_⟩
      rw [Oper.semAt_eq _ _ _ (fun c h => by cases h)]
      simp [execOp, Act.eval, go_sem, r1, r2, e0, ca, fa]
      have hS9 := hS.st (by omega) (put5_fr Wx (w.heap.size + 1) _ _ _ _ _) (put5 hcl0 _ _ _ _ _) undef
      exact ⟨undef, by simpa using hS9⟩
    · cases ho
      rw [if_pos (by kernel_rfl)]
      refine ⟨fun f _ => trivial, ?_⟩
      rw [Oper.semAt_eq _ _ _ (fun c h => by cases h)]
      rw [show (execOp A.eval _).run Try.prog Wx = .ok (.value (.int .i64 (0))) (Wx) by simp [execOp, Act.eval, go_sem]]
      refine ⟨.int .i64 (0), rfl, ?_⟩
      exact hS.op 4 (by decide) (by omega) (Fr.refl _ _) rfl
    · cases ho
      rw [if_pos (by kernel_rfl)]
      have r1 : A.tmps.getD 13 undef = vals 2 := (hA 13 (by decide)).trans (by kernel_rfl)
      have d2 : dd.getD 2 false = true := hdep 2 (by kernel_rfl)
      have e2 : vals 2 = .int .i64 (failedOf st) := hS.vv 2 (by decide) d2
      refine ⟨fun f _ => trivial, ?_⟩
      rw [Oper.semAt_eq _ _ _ (fun c h => by cases h)]
      rw [show (execOp A.eval _).run Try.prog Wx = .ok (.value (.int .i64 (failedOf st))) (Wx) by simp [execOp, Act.eval, go_sem, r1, e2]]
      refine ⟨.int .i64 (failedOf st), rfl, ?_⟩
      exact hS.op 5 (by decide) (by omega) (Fr.refl _ _) rfl
    · cases ho
  · intro vals1 W3 hS
    have ht3 := hS.vt (by simp)
    have hf3 : Fr (fun k => k = w.heap.size + 1) w2 W3 := hS.fr.mono (fun i _ hi => hi.2)
    simp only [goV, Act.put, List.setIfInBounds_toArray, List.set_cons_succ, List.set_cons_zero]
    go_wp2_with fail
    have v4 := hS.vv 4 (by decide) (by simp)
    have v5 := hS.vv 5 (by decide) (by simp)
    exact bodyPost_ret (resR32 rfl (v4) (v5) ht3) rfl ⟨rfl, ba.trans (hf3.below ba.size (fun i hi => by omega))⟩
set_option linter.unusedSimpArgs false in
set_option maxHeartbeats 4000000 in
theorem rreset_ok (hr : w.ownsRow base 3 1 v L.length (ints L)) (hs : failedOf st = 0) : Calls Try.prog 34 #[.agg #[v, .int .i64 size, .int .i64 safe, .int .i64 st, .bool fin]] w fun e w' =>
    e = .returned (.tuple #[.agg #[.slice none 0 0, .int .i64 size, .int .i64 0, .int .i64 0, .bool false], .int .i64 0]) ∧ Below w.heap.size w w' := by
  obtain ⟨a, cap, rfl⟩ := row_val hr
  have ba := two_below w (.cells #[.slice a L.length cap, .int .i64 size, .int .i64 safe, .int .i64 st, .bool fin] 49) (.cells #[.slice none 0 0, .int .i64 0, .int .i64 0, .int .i64 0, .bool false] 49)
  have g1' := two_old w (.cells #[.slice a L.length cap, .int .i64 size, .int .i64 safe, .int .i64 st, .bool fin] 49) (.cells #[.slice none 0 0, .int .i64 0, .int .i64 0, .int .i64 0, .bool false] 49)
  have g2' := two_new w (.cells #[.slice a L.length cap, .int .i64 size, .int .i64 safe, .int .i64 st, .bool fin] 49) (.cells #[.slice none 0 0, .int .i64 0, .int .i64 0, .int .i64 0, .bool false] 49)
  go_enter Try.func34, Try.ntmps34
  go_wp2_with fail
  refine (rfailed _ _ _ _ _ _).mono ?_
  rintro e w2 ⟨rfl, hb⟩
  have f2 := Fr.of_below (S := fun _ => False) hb
  have g1 := f2.heap g1' id
  have g2 := f2.heap g2' id
  replace ba := ba.trans (hb.mono ba.size)
  clear hb f2 g1' g2'
  rw [hs]
  have c1 := fun i => blk_cell g1 i
  have c2 := fun i => blk_cell g2 i
  have f2 := fun i => blk_frozen g2 i
  go_wp2_with fail
  exact bodyPost_ret (resR34 rfl rfl (put5 g2 _ _ _ _ _)) rfl ⟨rfl, ba.trans ((put5_fr w2 _ _ _ _ _ _).below ba.size (fun i hi => by omega))⟩
set_option linter.unusedSimpArgs false in
set_option maxHeartbeats 4000000 in
theorem rfinish_ok (hr : w.ownsRow base 3 1 v L.length (ints L)) (hs : failedOf st = 0) : Calls Try.prog 35 #[.agg #[v, .int .i64 size, .int .i64 safe, .int .i64 st, .bool fin]] w fun e w' =>
    e = .returned (.tuple #[.agg #[v, .int .i64 size, .int .i64 safe, .int .i64 2, .bool true], .int .i64 0]) ∧ Below w.heap.size w w' := by
  obtain ⟨a, cap, rfl⟩ := row_val hr
  have ba := two_below w (.cells #[.slice a L.length cap, .int .i64 size, .int .i64 safe, .int .i64 st, .bool fin] 49) (.cells #[.slice none 0 0, .int .i64 0, .int .i64 0, .int .i64 0, .bool false] 49)
  have g1' := two_old w (.cells #[.slice a L.length cap, .int .i64 size, .int .i64 safe, .int .i64 st, .bool fin] 49) (.cells #[.slice none 0 0, .int .i64 0, .int .i64 0, .int .i64 0, .bool false] 49)
  have g2' := two_new w (.cells #[.slice a L.length cap, .int .i64 size, .int .i64 safe, .int .i64 st, .bool fin] 49) (.cells #[.slice none 0 0, .int .i64 0, .int .i64 0, .int .i64 0, .bool false] 49)
  go_enter Try.func35, Try.ntmps35
  go_wp2_with fail
  refine (rfailed _ _ _ _ _ _).mono ?_
  rintro e w2 ⟨rfl, hb⟩
  have f2 := Fr.of_below (S := fun _ => False) hb
  have g1 := f2.heap g1' id
  have g2 := f2.heap g2' id
  replace ba := ba.trans (hb.mono ba.size)
  clear hb f2 g1' g2'
  rw [hs]
  have h3 := blk_put g1 3 (.int .i64 2)
  have h4 := blk_put h3 4 (.bool true)
  have c1 := fun i => blk_cell g1 i
  have f1 := fun i => blk_frozen g1 i
  have f3 := fun i => blk_frozen h3 i
  have c4 := fun i => blk_cell h4 i
  have g4 := blk_far (blk_far g2 (p := ⟨w.heap.size, 3, none⟩) (by simp) (.int .i64 2)) (p := ⟨w.heap.size, 4, none⟩) (by simp) (.bool true)
  have c5 := fun i => blk_cell g4 i
  have f5 := fun i => blk_frozen g4 i
  go_wp2_with fail
  exact bodyPost_ret (resR35 rfl rfl (put5 g4 _ _ _ _ _)) rfl ⟨rfl, (ba.trans ((((Fr.refl (fun k => k = w.heap.size) w2).setCell (p := ⟨w.heap.size, 3, none⟩) (.inl rfl) (.int .i64 2)).setCell (p := ⟨w.heap.size, 4, none⟩) (.inl rfl) (.bool true)).below ba.size (fun i hi => by omega))).trans ((put5_fr _ _ _ _ _ _ _).below (by simpa using ba.size) (fun i hi => by omega))⟩
set_option linter.unusedSimpArgs false in
set_option maxHeartbeats 4000000 in
theorem rappend_full (hr : w.ownsRow base 3 1 v L.length (ints L)) (x : Int) : Calls Try.prog 32 #[.agg #[v, .int .i64 size, .int .i64 safe, .int .i64 2, .bool fin], .int .i64 x] w fun e w' =>
    e = .returned (.tuple #[.agg #[v, .int .i64 size, .int .i64 safe, .int .i64 2, .bool fin], .int .i64 0, .int .i64 17]) ∧ Below w.heap.size w w' := by
  obtain ⟨a, cap, rfl⟩ := row_val hr
  have ba := two_below w (.cells #[.slice a L.length cap, .int .i64 size, .int .i64 safe, .int .i64 2, .bool fin] 49) (.cells #[.slice none 0 0, .int .i64 0, .int .i64 0, .int .i64 0, .bool false] 49)
  have g1' := two_old w (.cells #[.slice a L.length cap, .int .i64 size, .int .i64 safe, .int .i64 2, .bool fin] 49) (.cells #[.slice none 0 0, .int .i64 0, .int .i64 0, .int .i64 0, .bool false] 49)
  have g2' := two_new w (.cells #[.slice a L.length cap, .int .i64 size, .int .i64 safe, .int .i64 2, .bool fin] 49) (.cells #[.slice none 0 0, .int .i64 0, .int .i64 0, .int .i64 0, .bool false] 49)
  go_enter Try.func32, Try.ntmps32
  go_wp2_with fail
  refine (rfailed _ _ _ _ _ _).mono ?_
  rintro e w2 ⟨rfl, hb⟩
  have f2 := Fr.of_below (S := fun _ => False) hb
  have g1 := f2.heap g1' id
  have g2 := f2.heap g2' id
  replace ba := ba.trans (hb.mono ba.size)
  clear hb f2 g1' g2'
  have e0 : failedOf 2 = 0 := rfl
  rw [e0]
  have c1 := fun i => blk_cell g1 i
  have c2 := fun i => blk_cell g2 i
  have f2 := fun i => blk_frozen g2 i
  go_wp2_with fail
  exact bodyPost_ret (resR32 rfl rfl rfl (put5 g2 _ _ _ _ _)) rfl ⟨rfl, ba.trans ((put5_fr w2 _ _ _ _ _ _).below ba.size (fun i hi => by omega))⟩
end

theorem wpList_app {ops : Array Oper} {rest : List Oper} {o : Oper} {a : Act} {Q : Exit → Act → World → Prop} {w : World} {base base' : Nat} {v x : Value} {n m : Nat} {xs ys : List Value} (hgd : o.guard = none) (s y : Operand)
    (ho : o.op = .call { callee := .builtin .append, args := #[s, y], argTypes := #[39, 39] }) (hty : o.type = 39) (hs : a.eval s = v) (hy : a.eval y = x)
    (hown : w.ownsRow base 3 1 v n xs) (hx : w.ownsRow base' 3 1 x m ys) (h1 : ∀ u ∈ ys, u.oneCell' = true) (hn : n + m < 1000) (hb : base ≤ w.heap.size)
    (h : ∀ a1 c1 w', w'.ownsRow base 3 1 (.slice a1 (n + m) c1) (n + m) (xs ++ ys) → w.grownBy w' v.ownBlock → ((Value.slice a1 (n + m) c1).ownBlock = v.ownBlock ∨ (Value.slice a1 (n + m) c1).ownBlock = some w.heap.size) → wpList Try.prog ops Q rest (a.put o.dst (.slice a1 (n + m) c1)) w') :
    wpList Try.prog ops Q (o :: rest) a w := by
  refine wpList_plain hgd fun _ hK => ?_
  obtain ⟨v', w', hr, h2, h3, h4⟩ := run_app hown hx h1 hn hb
  obtain ⟨a1, c1, rfl⟩ := row_val h2
  unfold Oper.wp execOp
  simp only [ho, hty, resolve, invoke, builtin, Sem.run_bind, Sem.run_pure, Result.andThen_ok, List.map_toArray, List.map_cons, List.map_nil, hs, hy, hr]
  exact hK _ _ (h a1 c1 w' h2 h3 h4)
section
variable {base : Nat} {w : World} {v : Value} {L : List Int} {size safe st : Int} {fin : Bool}
set_option linter.unusedSimpArgs false in
set_option maxHeartbeats 4000000 in
theorem rappend_room (hr : w.ownsRow base 3 1 v L.length (ints L)) (hs : failedOf st = 0) (h2 : st ≠ 2) (hl : L.length < 100) (x : Int) : Calls Try.prog 32 #[.agg #[v, .int .i64 size, .int .i64 safe, .int .i64 st, .bool fin], .int .i64 x] w fun e w' =>
    ∃ v', e = .returned (.tuple #[.agg #[v', .int .i64 size, .int .i64 safe, .int .i64 (if (L.length : Int) + 1 = size then 2 else 1), .bool fin], .int .i64 L.length, .int .i64 0]) ∧
      w'.ownsRow w.heap.size 3 1 v' (L.length + 1) (ints (L ++ [x])) ∧ Below w.heap.size w w'  := by
  obtain ⟨st2, hst2⟩ : ∃ y : Int, (if (L.length : Int) + 1 = size then (2 : Int) else 1) = y := ⟨_, rfl⟩
  rw [hst2]
  obtain ⟨a, cap, rfl⟩ := row_val hr
  have ba := two_below w (.cells #[.slice a L.length cap, .int .i64 size, .int .i64 safe, .int .i64 st, .bool fin] 49) (.cells #[.slice none 0 0, .int .i64 0, .int .i64 0, .int .i64 0, .bool false] 49)
  have g1' := two_old w (.cells #[.slice a L.length cap, .int .i64 size, .int .i64 safe, .int .i64 st, .bool fin] 49) (.cells #[.slice none 0 0, .int .i64 0, .int .i64 0, .int .i64 0, .bool false] 49)
  have g2' := two_new w (.cells #[.slice a L.length cap, .int .i64 size, .int .i64 safe, .int .i64 st, .bool fin] 49) (.cells #[.slice none 0 0, .int .i64 0, .int .i64 0, .int .i64 0, .bool false] 49)
  go_enter Try.func32, Try.ntmps32
  go_wp2_with fail
  refine (rfailed _ _ _ _ _ _).mono ?_
  rintro e w2 ⟨rfl, hb⟩
  have f2 := Fr.of_below (S := fun _ => False) hb
  have g1 := f2.heap g1' id
  have g2 := f2.heap g2' id
  replace ba := ba.trans (hb.mono ba.size)
  clear hb f2 g1' g2'
  rw [hs]
  have c1 := fun i => blk_cell g1 i
  have r2 := row_fr hr (Fr.of_below (S := fun _ => False) ba) (fun _ _ => id)
  have hb2 := ba.size
  cases hfb : ((L.length : Int) + 1 == size) with
  | true =>
    rw [if_pos (by simpa using hfb)] at hst2
    subst hst2
    go_wp2_with (first | (at_builtin; refine wpList_app (v := .slice none 0 0) rfl (.tmp 18) (.tmp 20) rfl rfl rfl rfl (World.ownsRow_nil _ w.heap.size 3 1) r2 (ints_one L) (by omega) (by omega) ?_; intro a3 n3 w3 hown3 hgrow3 hat3; have f3 : Fr (fun _ => False) w2 w3 := Fr.grown hgrow3 (fun k hk => by cases hk); have g3 := f3.heap g1 id; have c3 := fun i => blk_cell g3 i; have s3 := f3.size; rw [List.nil_append, Nat.zero_add] at hown3) | (at_builtin; refine wpList_app (v := .slice a3 L.length n3) rfl (.tmp 22) (.tmp 24) rfl rfl rfl rfl (row_fr hown3 ((Fr.refl (fun _ => False) w3).alloc _) (fun _ _ => id)) (base' := 0) (m := 1) (ys := [.int .i64 x]) ⟨rfl, .inr ⟨w3.heap.size, 1, _, rfl, Nat.zero_le _, blk_new w3 _, Nat.le_refl _, by unfold maxLen; omega, rfl, rfl⟩⟩ (by intro u hu; simp at hu; subst hu; rfl) (by omega) (by simp; omega) ?_; intro a4 n4 w4 hown4 hgrow4 hat4; have own3 : ∀ k, (Value.slice a3 L.length n3).ownBlock = some k → w2.heap.size ≤ k := (fun k hk => by rcases hat3 with e | e; (rw [Nat.zero_add, hk] at e; cases e); (rw [Nat.zero_add, hk] at e; cases e; omega)); have hf4 : Fr (fun k => (Value.slice a3 L.length n3).ownBlock = some k) (w3.alloc (.cells #[.int .i64 x] 3)) w4 := Fr.grown hgrow4 (fun k hk => hk); have g4 := hf4.heap (blk_alloc g3 _) (fun e => by have := own3 _ e; have := blk_lt g1; omega); have k4 := hf4.heap (blk_alloc (f3.heap g2 id) _) (fun e => by have := own3 _ e; have := blk_lt g2; omega); have c4 := fun i => blk_cell g4 i; have f4 := fun i => blk_frozen g4 i; have h5 := blk_put g4 0 (.slice a4 (L.length + 1) n4); have c5 := fun i => blk_cell h5 i; have f5 := fun i => blk_frozen h5 i; have h6 := blk_put h5 3 (.int .i64 1); have c6 := fun i => blk_cell h6 i; have f6 := fun i => blk_frozen h6 i))
    have hwr3 : IntKind.i64.wrap (L.length : Int) = L.length := IntWalk.i64_in _ (by omega)
    have hwr : IntKind.i64.wrap ((L.length : Int) + 1 - 1) = L.length := by rw [IntWalk.i64_in _ (by omega)]; omega
    have hb4 : Below w.heap.size w w4 := (ba.trans ((f3.alloc (.cells #[.int .i64 x] 3)).below hb2 (fun _ _ h => h))).trans (hf4.below (by simp; omega) (fun i hi e => by have := own3 _ e; omega))
    have hi2 : ints L ++ [.int .i64 x] = ints (L ++ [x]) := by simp [ints]
    rw [hi2] at hown4
    have hnr : ∀ k, (Value.slice a4 (L.length + 1) n4).ownBlock = some k → k ≠ w.heap.size ∧ k ≠ w.heap.size + 1 := fun k hk => ⟨row_ne hown4 g4 (by decide) hk, row_ne hown4 k4 (by decide) hk⟩
    have F5 : Fr (fun k => k = w.heap.size) w4 (((w4.setCell ⟨w.heap.size, 0, none⟩ (.slice a4 (L.length + 1) n4)).setCell ⟨w.heap.size, 3, none⟩ (.int .i64 1)).setCell ⟨w.heap.size, 3, none⟩ (.int .i64 2)) := (((Fr.refl (fun k => k = w.heap.size) w4).setCell (p := ⟨w.heap.size, 0, none⟩) (.inl rfl) (.slice a4 (L.length + 1) n4)).setCell (p := ⟨w.heap.size, 3, none⟩) (.inl rfl) (.int .i64 1)).setCell (p := ⟨w.heap.size, 3, none⟩) (.inl rfl) (.int .i64 2)
    have g5 : (((w4.setCell ⟨w.heap.size, 0, none⟩ (.slice a4 (L.length + 1) n4)).setCell ⟨w.heap.size, 3, none⟩ (.int .i64 1)).setCell ⟨w.heap.size, 3, none⟩ (.int .i64 2)).heap[w.heap.size]? = some (.cells #[.slice a4 (L.length + 1) n4, .int .i64 size, .int .i64 safe, .int .i64 (2), .bool fin] 49 (0, 0)) := by simpa using blk_put h6 3 (.int .i64 2)
    have k5 := F5.heap k4 (by omega)
    have r5 := row_fr hown4 F5 (fun k hk e => (hnr k hk).1 e)
    have b5 := hb4.trans (F5.below hb4.size (fun i hi => by omega))
    generalize ((w4.setCell ⟨w.heap.size, 0, none⟩ (.slice a4 (L.length + 1) n4)).setCell ⟨w.heap.size, 3, none⟩ (.int .i64 1)).setCell ⟨w.heap.size, 3, none⟩ (.int .i64 2) = w5 at g5 k5 r5 b5 ⊢
    clear F5 h6 c6 f6 h5 c5 f5 g4 k4 c4 f4 hf4
    refine (wpIn_wide (n := 0)).1 ?_
    refine regionIn_stated (P := Try.prog) (fun l vals W => Sst w5 (w.heap.size + 1) #[.slice a4 (L.length + 1) n4, .int .i64 size, .int .i64 safe, .int .i64 (2), .bool fin] 49 5 [.agg #[.slice a4 (L.length + 1) n4, .int .i64 size, .int .i64 safe, .int .i64 (2), .bool fin], .pointer (some ⟨w.heap.size, 0, none⟩), .slice a4 (L.length + 1) n4, .int .i64 ((L.length : Int) + 1), .int .i64 ((L.length : Int)), undef, .int .i64 ((L.length : Int)), .int .i64 (0)] (fun j => l.getD j false) vals W) (fun _ => undef) rfl (by kernel_rfl) (by kernel_rfl) (Sst.start w5 _ _ _ _ _ _ _) ?_ ?_
    · intro j o ho dd vals A Wx hsz hS hj hcl hdep hA hdf
      have hsz2 : dd.size = 8 := hsz
      rcases j with _ | _ | _ | _ | _ | _ | _ | _ | j
      · cases ho
        rw [if_pos (by kernel_rfl)]
        have r1 : A.tmps.getD 2 undef = .pointer (some ⟨w.heap.size, 0, none⟩) := (hA 2 (by decide)).trans (by kernel_rfl)
        have hbx := hS.fr.heap g5 (fun ⟨_, e⟩ => by omega)
        have ca := fun i => blk_cell hbx i
        refine ⟨fun f _ => trivial, ?_⟩
        rw [Oper.semAt_eq _ _ _ (fun c h => by cases h)]
        rw [show (execOp A.eval _).run Try.prog Wx = .ok (.value (.agg #[.slice a4 (L.length + 1) n4, .int .i64 size, .int .i64 safe, .int .i64 (2), .bool fin])) (Wx) by simp [execOp, Act.eval, go_sem, r1, ca]]
        refine ⟨.agg #[.slice a4 (L.length + 1) n4, .int .i64 size, .int .i64 safe, .int .i64 (2), .bool fin], rfl, ?_⟩
        exact hS.op 0 (by decide) (by omega) (Fr.refl _ _) rfl
      · cases ho
        rw [if_pos (by kernel_rfl)]
        have r1 : A.tmps.getD 2 undef = .pointer (some ⟨w.heap.size, 0, none⟩) := (hA 2 (by decide)).trans (by kernel_rfl)
        refine ⟨fun f _ => trivial, ?_⟩
        rw [Oper.semAt_eq _ _ _ (fun c h => by cases h)]
        rw [show (execOp A.eval _).run Try.prog Wx = .ok (.value (.pointer (some ⟨w.heap.size, 0, none⟩))) (Wx) by simp [execOp, Act.eval, go_sem, r1]]
        refine ⟨.pointer (some ⟨w.heap.size, 0, none⟩), rfl, ?_⟩
        exact hS.op 1 (by decide) (by omega) (Fr.refl _ _) rfl
      · cases ho
        rw [if_pos (by kernel_rfl)]
        have r1 : A.tmps.getD 36 undef = vals 1 := (hA 36 (by decide)).trans (by kernel_rfl)
        have hbx := hS.fr.heap g5 (fun ⟨_, e⟩ => by omega)
        have ca := fun i => blk_cell hbx i
        have d1 : dd.getD 1 false = true := hdep 1 (by kernel_rfl)
        have e1 : vals 1 = .pointer (some ⟨w.heap.size, 0, none⟩) := hS.vv 1 (by decide) d1
        refine ⟨fun f _ => trivial, ?_⟩
        rw [Oper.semAt_eq _ _ _ (fun c h => by cases h)]
        rw [show (execOp A.eval _).run Try.prog Wx = .ok (.value (.slice a4 (L.length + 1) n4)) (Wx) by simp [execOp, Act.eval, go_sem, r1, ca, e1]]
        refine ⟨.slice a4 (L.length + 1) n4, rfl, ?_⟩
        exact hS.op 2 (by decide) (by omega) (Fr.refl _ _) rfl
      · cases ho
        rw [if_pos (by kernel_rfl)]
        have r1 : A.tmps.getD 37 undef = vals 2 := (hA 37 (by decide)).trans (by kernel_rfl)
        have d2 : dd.getD 2 false = true := hdep 2 (by kernel_rfl)
        have e2 : vals 2 = .slice a4 (L.length + 1) n4 := hS.vv 2 (by decide) d2
        refine ⟨fun f _ => trivial, ?_⟩
        rw [Oper.semAt_eq _ _ _ (fun c h => by cases h)]
        rw [show (execOp A.eval _).run Try.prog Wx = .ok (.value (.int .i64 ((L.length : Int) + 1))) (Wx) by simp [execOp, Act.eval, go_sem, r1, e2]]
        refine ⟨.int .i64 ((L.length : Int) + 1), rfl, ?_⟩
        exact hS.op 3 (by decide) (by omega) (Fr.refl _ _) rfl
      · cases ho
        rw [if_pos (by kernel_rfl)]
        have r1 : A.tmps.getD 38 undef = vals 3 := (hA 38 (by decide)).trans (by kernel_rfl)
        have d3 : dd.getD 3 false = true := hdep 3 (by kernel_rfl)
        have e3 : vals 3 = .int .i64 ((L.length : Int) + 1) := hS.vv 3 (by decide) d3
        refine ⟨fun f _ => trivial, ?_⟩
        rw [Oper.semAt_eq _ _ _ (fun c h => by cases h)]
        rw [show (execOp A.eval _).run Try.prog Wx = .ok (.value (.int .i64 ((L.length : Int)))) (Wx) by simp [execOp, Act.eval, go_sem, r1, e3, hwr, hwr3]]
        refine ⟨.int .i64 ((L.length : Int)), rfl, ?_⟩
        exact hS.op 4 (by decide) (by omega) (Fr.refl _ _) rfl
      · cases ho
        rw [if_pos (by kernel_rfl)]
        have r1 : A.tmps.getD 4 undef = .pointer (some ⟨w.heap.size + 1, 0, none⟩) := (hA 4 (by decide)).trans (by kernel_rfl)
        have r2 : A.tmps.getD 35 undef = vals 0 := (hA 35 (by decide)).trans (by kernel_rfl)
        have d0 : dd.getD 0 false = true := hdep 0 (by kernel_rfl)
        have e0 : vals 0 = .agg #[.slice a4 (L.length + 1) n4, .int .i64 size, .int .i64 safe, .int .i64 (2), .bool fin] := hS.vv 0 (by decide) d0
        have hcl0 := hS.fr.heap k5 (fun ⟨e, _⟩ => by rw [hj] at e; cases e)
        have ca := fun i => blk_cell hcl0 i
        have fa := fun i => blk_frozen hcl0 i
        refine ⟨fun f _ => trivial, ?_⟩
        rw [Oper.semAt_eq _ _ _ (fun c h => by cases h)]
        simp [execOp, Act.eval, go_sem, r1, r2, e0, ca, fa]
        have hS9 := hS.st (by omega) (put5_fr Wx (w.heap.size + 1) _ _ _ _ _) (put5 hcl0 _ _ _ _ _) undef
        exact ⟨undef, by simpa using hS9⟩
      · cases ho
        rw [if_pos (by kernel_rfl)]
        have r1 : A.tmps.getD 39 undef = vals 4 := (hA 39 (by decide)).trans (by kernel_rfl)
        have d4 : dd.getD 4 false = true := hdep 4 (by kernel_rfl)
        have e4 : vals 4 = .int .i64 ((L.length : Int)) := hS.vv 4 (by decide) d4
        refine ⟨fun f _ => trivial, ?_⟩
        rw [Oper.semAt_eq _ _ _ (fun c h => by cases h)]
        rw [show (execOp A.eval _).run Try.prog Wx = .ok (.value (.int .i64 ((L.length : Int)))) (Wx) by simp [execOp, Act.eval, go_sem, r1, e4]]
        refine ⟨.int .i64 ((L.length : Int)), rfl, ?_⟩
        exact hS.op 6 (by decide) (by omega) (Fr.refl _ _) rfl
      · cases ho
        rw [if_pos (by kernel_rfl)]
        refine ⟨fun f _ => trivial, ?_⟩
        rw [Oper.semAt_eq _ _ _ (fun c h => by cases h)]
        rw [show (execOp A.eval _).run Try.prog Wx = .ok (.value (.int .i64 (0))) (Wx) by simp [execOp, Act.eval, go_sem]]
        refine ⟨.int .i64 (0), rfl, ?_⟩
        exact hS.op 7 (by decide) (by omega) (Fr.refl _ _) rfl
      · cases ho
    · intro vals1 W3 hS
      have ht3 := hS.vt (by simp)
      have hf3 : Fr (fun k => k = w.heap.size + 1) w5 W3 := hS.fr.mono (fun i _ hi => hi.2)
      simp only [goV, Act.put, List.setIfInBounds_toArray, List.set_cons_succ, List.set_cons_zero]
      go_wp2_with fail
      have v6 := hS.vv 6 (by decide) (by simp)
      have v7 := hS.vv 7 (by decide) (by simp)
      exact bodyPost_ret (resR32 rfl v6 v7 ht3) rfl ⟨_, rfl, row_fr r5 hf3 (fun k hk e => row_ne r5 k5 (by decide) hk e), b5.trans (hf3.below b5.size (fun i hi => by omega))⟩
  | false =>
    rw [if_neg (by simpa using hfb)] at hst2
    subst hst2
    go_wp2_with (first | (at_builtin; refine wpList_app (v := .slice none 0 0) rfl (.tmp 18) (.tmp 20) rfl rfl rfl rfl (World.ownsRow_nil _ w.heap.size 3 1) r2 (ints_one L) (by omega) (by omega) ?_; intro a3 n3 w3 hown3 hgrow3 hat3; have f3 : Fr (fun _ => False) w2 w3 := Fr.grown hgrow3 (fun k hk => by cases hk); have g3 := f3.heap g1 id; have c3 := fun i => blk_cell g3 i; have s3 := f3.size; rw [List.nil_append, Nat.zero_add] at hown3) | (at_builtin; refine wpList_app (v := .slice a3 L.length n3) rfl (.tmp 22) (.tmp 24) rfl rfl rfl rfl (row_fr hown3 ((Fr.refl (fun _ => False) w3).alloc _) (fun _ _ => id)) (base' := 0) (m := 1) (ys := [.int .i64 x]) ⟨rfl, .inr ⟨w3.heap.size, 1, _, rfl, Nat.zero_le _, blk_new w3 _, Nat.le_refl _, by unfold maxLen; omega, rfl, rfl⟩⟩ (by intro u hu; simp at hu; subst hu; rfl) (by omega) (by simp; omega) ?_; intro a4 n4 w4 hown4 hgrow4 hat4; have own3 : ∀ k, (Value.slice a3 L.length n3).ownBlock = some k → w2.heap.size ≤ k := (fun k hk => by rcases hat3 with e | e; (rw [Nat.zero_add, hk] at e; cases e); (rw [Nat.zero_add, hk] at e; cases e; omega)); have hf4 : Fr (fun k => (Value.slice a3 L.length n3).ownBlock = some k) (w3.alloc (.cells #[.int .i64 x] 3)) w4 := Fr.grown hgrow4 (fun k hk => hk); have g4 := hf4.heap (blk_alloc g3 _) (fun e => by have := own3 _ e; have := blk_lt g1; omega); have k4 := hf4.heap (blk_alloc (f3.heap g2 id) _) (fun e => by have := own3 _ e; have := blk_lt g2; omega); have c4 := fun i => blk_cell g4 i; have f4 := fun i => blk_frozen g4 i; have h5 := blk_put g4 0 (.slice a4 (L.length + 1) n4); have c5 := fun i => blk_cell h5 i; have f5 := fun i => blk_frozen h5 i; have h6 := blk_put h5 3 (.int .i64 1); have c6 := fun i => blk_cell h6 i; have f6 := fun i => blk_frozen h6 i))
    have hwr3 : IntKind.i64.wrap (L.length : Int) = L.length := IntWalk.i64_in _ (by omega)
    have hwr : IntKind.i64.wrap ((L.length : Int) + 1 - 1) = L.length := by rw [IntWalk.i64_in _ (by omega)]; omega
    have hb4 : Below w.heap.size w w4 := (ba.trans ((f3.alloc (.cells #[.int .i64 x] 3)).below hb2 (fun _ _ h => h))).trans (hf4.below (by simp; omega) (fun i hi e => by have := own3 _ e; omega))
    have hi2 : ints L ++ [.int .i64 x] = ints (L ++ [x]) := by simp [ints]
    rw [hi2] at hown4
    have hnr : ∀ k, (Value.slice a4 (L.length + 1) n4).ownBlock = some k → k ≠ w.heap.size ∧ k ≠ w.heap.size + 1 := fun k hk => ⟨row_ne hown4 g4 (by decide) hk, row_ne hown4 k4 (by decide) hk⟩
    have F5 : Fr (fun k => k = w.heap.size) w4 ((w4.setCell ⟨w.heap.size, 0, none⟩ (.slice a4 (L.length + 1) n4)).setCell ⟨w.heap.size, 3, none⟩ (.int .i64 1)) := (((Fr.refl (fun k => k = w.heap.size) w4).setCell (p := ⟨w.heap.size, 0, none⟩) (.inl rfl) (.slice a4 (L.length + 1) n4)).setCell (p := ⟨w.heap.size, 3, none⟩) (.inl rfl) (.int .i64 1))
    have g5 : ((w4.setCell ⟨w.heap.size, 0, none⟩ (.slice a4 (L.length + 1) n4)).setCell ⟨w.heap.size, 3, none⟩ (.int .i64 1)).heap[w.heap.size]? = some (.cells #[.slice a4 (L.length + 1) n4, .int .i64 size, .int .i64 safe, .int .i64 (1), .bool fin] 49 (0, 0)) := by simpa using h6
    have k5 := F5.heap k4 (by omega)
    have r5 := row_fr hown4 F5 (fun k hk e => (hnr k hk).1 e)
    have b5 := hb4.trans (F5.below hb4.size (fun i hi => by omega))
    generalize (w4.setCell ⟨w.heap.size, 0, none⟩ (.slice a4 (L.length + 1) n4)).setCell ⟨w.heap.size, 3, none⟩ (.int .i64 1) = w5 at g5 k5 r5 b5 ⊢
    clear F5 h6 c6 f6 h5 c5 f5 g4 k4 c4 f4 hf4
    refine (wpIn_wide (n := 0)).1 ?_
    refine regionIn_stated (P := Try.prog) (fun l vals W => Sst w5 (w.heap.size + 1) #[.slice a4 (L.length + 1) n4, .int .i64 size, .int .i64 safe, .int .i64 (1), .bool fin] 49 5 [.agg #[.slice a4 (L.length + 1) n4, .int .i64 size, .int .i64 safe, .int .i64 (1), .bool fin], .pointer (some ⟨w.heap.size, 0, none⟩), .slice a4 (L.length + 1) n4, .int .i64 ((L.length : Int) + 1), .int .i64 ((L.length : Int)), undef, .int .i64 ((L.length : Int)), .int .i64 (0)] (fun j => l.getD j false) vals W) (fun _ => undef) rfl (by kernel_rfl) (by kernel_rfl) (Sst.start w5 _ _ _ _ _ _ _) ?_ ?_
    · intro j o ho dd vals A Wx hsz hS hj hcl hdep hA hdf
      have hsz2 : dd.size = 8 := hsz
      rcases j with _ | _ | _ | _ | _ | _ | _ | _ | j
      · cases ho
        rw [if_pos (by kernel_rfl)]
        have r1 : A.tmps.getD 2 undef = .pointer (some ⟨w.heap.size, 0, none⟩) := (hA 2 (by decide)).trans (by kernel_rfl)
        have hbx := hS.fr.heap g5 (fun ⟨_, e⟩ => by omega)
        have ca := fun i => blk_cell hbx i
        refine ⟨fun f _ => trivial, ?_⟩
        rw [Oper.semAt_eq _ _ _ (fun c h => by cases h)]
        rw [show (execOp A.eval _).run Try.prog Wx = .ok (.value (.agg #[.slice a4 (L.length + 1) n4, .int .i64 size, .int .i64 safe, .int .i64 (1), .bool fin])) (Wx) by simp [execOp, Act.eval, go_sem, r1, ca]]
        refine ⟨.agg #[.slice a4 (L.length + 1) n4, .int .i64 size, .int .i64 safe, .int .i64 (1), .bool fin], rfl, ?_⟩
        exact hS.op 0 (by decide) (by omega) (Fr.refl _ _) rfl
      · cases ho
        rw [if_pos (by kernel_rfl)]
        have r1 : A.tmps.getD 2 undef = .pointer (some ⟨w.heap.size, 0, none⟩) := (hA 2 (by decide)).trans (by kernel_rfl)
        refine ⟨fun f _ => trivial, ?_⟩
        rw [Oper.semAt_eq _ _ _ (fun c h => by cases h)]
        rw [show (execOp A.eval _).run Try.prog Wx = .ok (.value (.pointer (some ⟨w.heap.size, 0, none⟩))) (Wx) by simp [execOp, Act.eval, go_sem, r1]]
        refine ⟨.pointer (some ⟨w.heap.size, 0, none⟩), rfl, ?_⟩
        exact hS.op 1 (by decide) (by omega) (Fr.refl _ _) rfl
      · cases ho
        rw [if_pos (by kernel_rfl)]
        have r1 : A.tmps.getD 36 undef = vals 1 := (hA 36 (by decide)).trans (by kernel_rfl)
        have hbx := hS.fr.heap g5 (fun ⟨_, e⟩ => by omega)
        have ca := fun i => blk_cell hbx i
        have d1 : dd.getD 1 false = true := hdep 1 (by kernel_rfl)
        have e1 : vals 1 = .pointer (some ⟨w.heap.size, 0, none⟩) := hS.vv 1 (by decide) d1
        refine ⟨fun f _ => trivial, ?_⟩
        rw [Oper.semAt_eq _ _ _ (fun c h => by cases h)]
        rw [show (execOp A.eval _).run Try.prog Wx = .ok (.value (.slice a4 (L.length + 1) n4)) (Wx) by simp [execOp, Act.eval, go_sem, r1, ca, e1]]
        refine ⟨.slice a4 (L.length + 1) n4, rfl, ?_⟩
        exact hS.op 2 (by decide) (by omega) (Fr.refl _ _) rfl
      · cases ho
        rw [if_pos (by kernel_rfl)]
        have r1 : A.tmps.getD 37 undef = vals 2 := (hA 37 (by decide)).trans (by kernel_rfl)
        have d2 : dd.getD 2 false = true := hdep 2 (by kernel_rfl)
        have e2 : vals 2 = .slice a4 (L.length + 1) n4 := hS.vv 2 (by decide) d2
        refine ⟨fun f _ => trivial, ?_⟩
        rw [Oper.semAt_eq _ _ _ (fun c h => by cases h)]
        rw [show (execOp A.eval _).run Try.prog Wx = .ok (.value (.int .i64 ((L.length : Int) + 1))) (Wx) by simp [execOp, Act.eval, go_sem, r1, e2]]
        refine ⟨.int .i64 ((L.length : Int) + 1), rfl, ?_⟩
        exact hS.op 3 (by decide) (by omega) (Fr.refl _ _) rfl
      · cases ho
        rw [if_pos (by kernel_rfl)]
        have r1 : A.tmps.getD 38 undef = vals 3 := (hA 38 (by decide)).trans (by kernel_rfl)
        have d3 : dd.getD 3 false = true := hdep 3 (by kernel_rfl)
        have e3 : vals 3 = .int .i64 ((L.length : Int) + 1) := hS.vv 3 (by decide) d3
        refine ⟨fun f _ => trivial, ?_⟩
        rw [Oper.semAt_eq _ _ _ (fun c h => by cases h)]
        rw [show (execOp A.eval _).run Try.prog Wx = .ok (.value (.int .i64 ((L.length : Int)))) (Wx) by simp [execOp, Act.eval, go_sem, r1, e3, hwr, hwr3]]
        refine ⟨.int .i64 ((L.length : Int)), rfl, ?_⟩
        exact hS.op 4 (by decide) (by omega) (Fr.refl _ _) rfl
      · cases ho
        rw [if_pos (by kernel_rfl)]
        have r1 : A.tmps.getD 4 undef = .pointer (some ⟨w.heap.size + 1, 0, none⟩) := (hA 4 (by decide)).trans (by kernel_rfl)
        have r2 : A.tmps.getD 35 undef = vals 0 := (hA 35 (by decide)).trans (by kernel_rfl)
        have d0 : dd.getD 0 false = true := hdep 0 (by kernel_rfl)
        have e0 : vals 0 = .agg #[.slice a4 (L.length + 1) n4, .int .i64 size, .int .i64 safe, .int .i64 (1), .bool fin] := hS.vv 0 (by decide) d0
        have hcl0 := hS.fr.heap k5 (fun ⟨e, _⟩ => by rw [hj] at e; cases e)
        have ca := fun i => blk_cell hcl0 i
        have fa := fun i => blk_frozen hcl0 i
        refine ⟨fun f _ => trivial, ?_⟩
        rw [Oper.semAt_eq _ _ _ (fun c h => by cases h)]
        simp [execOp, Act.eval, go_sem, r1, r2, e0, ca, fa]
        have hS9 := hS.st (by omega) (put5_fr Wx (w.heap.size + 1) _ _ _ _ _) (put5 hcl0 _ _ _ _ _) undef
        exact ⟨undef, by simpa using hS9⟩
      · cases ho
        rw [if_pos (by kernel_rfl)]
        have r1 : A.tmps.getD 39 undef = vals 4 := (hA 39 (by decide)).trans (by kernel_rfl)
        have d4 : dd.getD 4 false = true := hdep 4 (by kernel_rfl)
        have e4 : vals 4 = .int .i64 ((L.length : Int)) := hS.vv 4 (by decide) d4
        refine ⟨fun f _ => trivial, ?_⟩
        rw [Oper.semAt_eq _ _ _ (fun c h => by cases h)]
        rw [show (execOp A.eval _).run Try.prog Wx = .ok (.value (.int .i64 ((L.length : Int)))) (Wx) by simp [execOp, Act.eval, go_sem, r1, e4]]
        refine ⟨.int .i64 ((L.length : Int)), rfl, ?_⟩
        exact hS.op 6 (by decide) (by omega) (Fr.refl _ _) rfl
      · cases ho
        rw [if_pos (by kernel_rfl)]
        refine ⟨fun f _ => trivial, ?_⟩
        rw [Oper.semAt_eq _ _ _ (fun c h => by cases h)]
        rw [show (execOp A.eval _).run Try.prog Wx = .ok (.value (.int .i64 (0))) (Wx) by simp [execOp, Act.eval, go_sem]]
        refine ⟨.int .i64 (0), rfl, ?_⟩
        exact hS.op 7 (by decide) (by omega) (Fr.refl _ _) rfl
      · cases ho
    · intro vals1 W3 hS
      have ht3 := hS.vt (by simp)
      have hf3 : Fr (fun k => k = w.heap.size + 1) w5 W3 := hS.fr.mono (fun i _ hi => hi.2)
      simp only [goV, Act.put, List.setIfInBounds_toArray, List.set_cons_succ, List.set_cons_zero]
      go_wp2_with fail
      have v6 := hS.vv 6 (by decide) (by simp)
      have v7 := hS.vv 7 (by decide) (by simp)
      exact bodyPost_ret (resR32 rfl v6 v7 ht3) rfl ⟨_, rfl, row_fr r5 hf3 (fun k hk e => row_ne r5 k5 (by decide) hk e), b5.trans (hf3.below b5.size (fun i hi => by omega))⟩
end
end Go.Proofs.Ytlffjkijjggpkaa

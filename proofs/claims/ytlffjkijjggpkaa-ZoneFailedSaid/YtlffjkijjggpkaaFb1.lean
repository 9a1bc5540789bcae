/- One append over another, whatever the order: what holds on the way. Condition: fewer than 1000 numbers. -/
import Derived.Test.YtlffjkijjggpkaaFb0
namespace Go.Proofs.Ytlffjkijjggpkaa
open Go.RowKit Go.Conc

theorem run_app {w : World} {base base' : Nat} {v x : Value} {n m : Nat} {xs ys : List Value} (hown : w.ownsRow base 3 1 v n xs) (hx : w.ownsRow base' 3 1 x m ys) (h1 : ∀ u ∈ ys, u.oneCell' = true) (hn : n + m < 1000) (hb : base ≤ w.heap.size) :
    ∃ v' w', (Builtin.append_ #[39, 39] 39 #[v, x]).run Try.prog w = .ok v' w' ∧ w'.ownsRow base 3 1 v' (n + m) (xs ++ ys) ∧ w.grownBy w' v.ownBlock ∧ (v'.ownBlock = v.ownBlock ∨ v'.ownBlock = some w.heap.size) := by
  obtain ⟨i0, hi, hz0, hz1, hz2⟩ := info_parts info3
  have hlen : ys.length = m * 1 := hx.1
  rcases hx.2 with ⟨rfl, rfl⟩ | ⟨g, cap, cur, rfl, _, hg, hle, _, _, ht⟩
  · obtain rfl : ys = [] := List.length_eq_zero_iff.1 (by omega)
    refine ⟨v, w, ?_, by simpa using hown, ⟨rfl, rfl, rfl, Nat.le_refl _, fun _ _ _ => rfl⟩, .inl rfl⟩
    rcases hown.2 with ⟨rfl, rfl⟩ | ⟨g, cap, cur, rfl, _, _, hle, _⟩
    · simp [Builtin.append_, go_sem]
    · simp [Builtin.append_, go_sem, hle]
  · have hnews : ∀ j u, ys[j]? = some u → w.cell? ((⟨g, 0, none⟩ : Addr).add j) = some u := by
      intro j u hu
      obtain ⟨hj, rfl⟩ := List.getElem?_eq_some_iff.1 hu
      obtain ⟨g', cap', e, hc, -⟩ := row_cell hx hj
      cases e
      rw [show (⟨g, 0, none⟩ : Addr).add j = ⟨g, j, none⟩ by simp [Addr.add]; omega]
      exact hc
    obtain ⟨v', w', h, h2, h3, h4, h5⟩ := run_append_own_at (P := Try.prog) w base 39 39 3 i0 (.int .i64 0) 1 8 Try.underlying39 hi hz0 hz1 hz2 rfl (by decide) v n xs hown ⟨g, 0, none⟩ m cap ys hlen hnews h1 (by unfold maxLen; omega) (by omega) hb
    exact ⟨v', w', h, h2, h3, h5⟩

/-- On the way through 'was = append(append([]int{}, was...), x)'. -/
structure S15 (W1 : World) (base t ob : Nat) (vw : Value) (Lw : List Int) (X : Int) (d : Nat → Bool) (vals : Nat → Value) (W : World) : Prop where
  fr : Fr (fun k => d 7 = true ∧ k = t) W1 W
  v0 : d 0 = true → d 2 = false → W.ownsRow base 3 1 (vals 0) 0 [] ∧ ∀ k, (vals 0).ownBlock = some k → W1.heap.size ≤ k
  v1 : d 1 = true → vals 1 = vw
  v2 : d 2 = true → d 6 = false → W.ownsRow base 3 1 (vals 2) Lw.length (ints Lw) ∧ ∀ k, (vals 2).ownBlock = some k → W1.heap.size ≤ k
  v3 : d 3 = true → vals 3 = .pointer (some ⟨ob, 1, none⟩)
  v4 : d 4 = true → vals 4 = .int .i64 X
  v5 : d 5 = true → d 6 = false → W.ownsRow base 3 1 (vals 5) 1 [.int .i64 X] ∧ (∀ k, (vals 5).ownBlock = some k → W1.heap.size ≤ k ∧ (d 0 = true → d 2 = false → (vals 0).ownBlock ≠ some k) ∧ (d 2 = true → (vals 2).ownBlock ≠ some k))
  v6 : d 6 = true → d 7 = false → W.ownsRow base 3 1 (vals 6) (Lw.length + 1) (ints (Lw ++ [X])) ∧ ∀ k, (vals 6).ownBlock = some k → W1.heap.size ≤ k
  v7 : d 7 = true → ∃ u, W.ownsRow base 3 1 u (Lw.length + 1) (ints (Lw ++ [X])) ∧ (∀ k, u.ownBlock = some k → W1.heap.size ≤ k) ∧ W.heap[t]? = some (.cells #[u] 39 (0, 0))

theorem dset {l : Array Bool} {i : Nat} (h : i < l.size) : (fun j => (l.setIfInBounds i true).getD j false) = fun j => if j = i then true else l.getD j false := by
  funext j
  by_cases e : j = i
  · subst e; rw [if_pos rfl, done_same h]
  · rw [if_neg e, done_other e]

section
variable {W1 W W' : World} {base t ob : Nat} {vw : Value} {Lw : List Int} {X : Int} {d : Nat → Bool} {vals : Nat → Value}
theorem S15.start (W1 : World) : S15 W1 base t ob vw Lw X (fun _ => false) vals W1 := by
  constructor <;> first | exact Fr.refl _ _ | (intro h; cases h)
/-- More is made. -/
theorem S15.more (h : S15 W1 base t ob vw Lw X d vals W) (hf : Fr (fun _ => False) W W') : S15 W1 base t ob vw Lw X d vals W' :=
  ⟨h.fr.trans hf (fun _ _ h => h.elim), fun a b => ⟨row_fr (h.v0 a b).1 hf (fun _ _ => id), (h.v0 a b).2⟩, h.v1, fun a b => ⟨row_fr (h.v2 a b).1 hf (fun _ _ => id), (h.v2 a b).2⟩, h.v3, h.v4,
    fun a b => ⟨row_fr (h.v5 a b).1 hf (fun _ _ => id), (h.v5 a b).2⟩, fun a b => ⟨row_fr (h.v6 a b).1 hf (fun _ _ => id), (h.v6 a b).2⟩,
    fun a => by obtain ⟨u, x, y, z⟩ := h.v7 a; exact ⟨u, row_fr x hf (fun _ _ => id), y, hf.heap z id⟩⟩
theorem S15.op0 (h : S15 W1 base t ob vw Lw X d vals W) (hb : base ≤ W.heap.size) :
    S15 W1 base t ob vw Lw X (fun j => if j = 0 then true else d j) (updV vals 0 (.slice (some ⟨W.heap.size, 0, none⟩) 0 0)) (W.alloc (.cells #[] 3)) := by
  have hs := h.fr.size
  have h' := h.more ((Fr.refl (fun _ => False) W).alloc (.cells #[] 3))
  refine ⟨by simpa using h'.fr, fun _ _ => ?_, by simpa [updV] using h'.v1, by simpa [updV] using h'.v2, by simpa [updV] using h'.v3, by simpa [updV] using h'.v4, fun a b => ?_, by simpa [updV] using h'.v6, by simpa [updV] using h'.v7⟩
  · simp only [updV, if_true]
    refine ⟨World.ownsRow_made W #[] 0 hb (Nat.zero_le _) rfl, fun k hk => ?_⟩
    cases hk; exact hs
  · simp only [updV] at a b ⊢
    obtain ⟨x, y⟩ := h.v5 (by simpa using a) (by simpa using b)
    refine ⟨(h'.v5 (by simpa using a) (by simpa using b)).1, fun k hk => ⟨(y k hk).1, fun _ _ e => ?_, by simpa using (y k hk).2.2⟩⟩
    have e1 : W.heap.size = k := by simpa [Value.ownBlock] using e
    have := (x.lt k hk).2
    omega
theorem S15.op5 (h : S15 W1 base t ob vw Lw X d vals W) (hb : base ≤ W.heap.size) :
    S15 W1 base t ob vw Lw X (fun j => if j = 5 then true else d j) (updV vals 5 (.slice (some ⟨W.heap.size, 0, none⟩) 1 1)) (W.alloc (.cells #[.int .i64 X] 3)) := by
  have hs := h.fr.size
  have h' := h.more ((Fr.refl (fun _ => False) W).alloc (.cells #[.int .i64 X] 3))
  refine ⟨by simpa using h'.fr, by simpa [updV] using h'.v0, by simpa [updV] using h'.v1, by simpa [updV] using h'.v2, by simpa [updV] using h'.v3, by simpa [updV] using h'.v4, fun a b => ?_, by simpa [updV] using h'.v6, by simpa [updV] using h'.v7⟩
  simp only [updV] at a b ⊢
  refine ⟨⟨rfl, .inr ⟨W.heap.size, 1, _, rfl, hb, blk_new W _, Nat.le_refl _, by unfold maxLen; omega, rfl, rfl⟩⟩, fun k hk => ?_⟩
  have e1 : W.heap.size = k := by simpa [Value.ownBlock] using hk
  subst e1
  refine ⟨hs, fun a0 a2 e => ?_, fun a2 e => ?_⟩
  · have := ((h.v0 (by simpa using a0) (by simpa using a2)).1.lt _ (by simpa using e)).2; omega
  · have := ((h.v2 (by simpa using a2) (by simpa using b)).1.lt _ (by simpa using e)).2; omega
/-- The inner append. -/
theorem S15.op2 (h : S15 W1 base t ob vw Lw X d vals W) (h0 : d 0 = true) (h1 : d 1 = true) (h2 : d 2 = false) (h6 : d 6 = false) (h7 : d 7 = false) (hrow : W1.ownsRow base 3 1 vw Lw.length (ints Lw)) (hL : Lw.length < 100) (hb : base ≤ W1.heap.size) :
    ∃ v' w', (Builtin.append_ #[39, 39] 39 #[vals 0, vals 1]).run Try.prog W = .ok v' w' ∧ S15 W1 base t ob vw Lw X (fun j => if j = 2 then true else d j) (updV vals 2 v') w' := by
  have hs := h.fr.size
  obtain ⟨r0, o0⟩ := h.v0 h0 h2
  have hrow' := row_fr hrow h.fr (fun k _ ⟨e, _⟩ => by rw [h7] at e; cases e)
  rw [h.v1 h1]
  obtain ⟨v', w', hr, ho, hg, ha⟩ := run_app r0 hrow' (ints_one Lw) (by omega) (by omega)
  refine ⟨v', w', hr, ?_⟩
  rw [Nat.zero_add, List.nil_append] at ho
  have hf : Fr (fun k => (vals 0).ownBlock = some k) W w' := Fr.grown hg (fun k hk => hk)
  have ho' : ∀ k, v'.ownBlock = some k → W1.heap.size ≤ k := fun k hk => by
    rcases ha with e | e
    · exact o0 k (e.symm.trans hk)
    · rw [hk] at e; cases e; exact hs
  refine ⟨?_, fun a b => ?_, by simpa [updV] using h.v1, fun _ _ => ⟨by simpa [updV] using ho, by simpa [updV] using ho'⟩, by simpa [updV] using h.v3, by simpa [updV] using h.v4, fun a b => ?_, fun a => ?_, fun a => ?_⟩
  · refine (h.fr.trans hf (fun i hi hk => ?_)).mono (fun i _ hi => by simpa using hi)
    have := o0 i hk; omega
  · simp at b
  · simp only [updV] at a b ⊢
    obtain ⟨x, y⟩ := h.v5 (by simpa using a) h6
    refine ⟨row_fr x hf (fun k hk e => (y k hk).2.1 h0 h2 e), fun k hk => ⟨(y k hk).1, by simp, fun _ e => ?_⟩⟩
    have e' : v'.ownBlock = some k := by simpa using e
    rcases ha with e2 | e2
    · exact (y k hk).2.1 h0 h2 (e2.symm.trans e')
    · rw [e'] at e2; cases e2
      have := (x.lt _ hk).2; omega
  · simp [h6] at a
  · simp [h7] at a
/-- The outer append. -/
theorem S15.op6 (h : S15 W1 base t ob vw Lw X d vals W) (h2 : d 2 = true) (h5 : d 5 = true) (h6 : d 6 = false) (h7 : d 7 = false) (hL : Lw.length < 100) (hb : base ≤ W1.heap.size) :
    ∃ v' w', (Builtin.append_ #[39, 39] 39 #[vals 2, vals 5]).run Try.prog W = .ok v' w' ∧ S15 W1 base t ob vw Lw X (fun j => if j = 6 then true else d j) (updV vals 6 v') w' := by
  have hs := h.fr.size
  obtain ⟨r2, o2⟩ := h.v2 h2 h6
  obtain ⟨r5, o5⟩ := h.v5 h5 h6
  obtain ⟨v', w', hr, ho, hg, ha⟩ := run_app r2 r5 (by intro u hu; simp at hu; subst hu; rfl) (by omega) (by omega)
  refine ⟨v', w', hr, ?_⟩
  have hf : Fr (fun k => (vals 2).ownBlock = some k) W w' := Fr.grown hg (fun k hk => hk)
  have ho' : ∀ k, v'.ownBlock = some k → W1.heap.size ≤ k := fun k hk => by
    rcases ha with e | e
    · exact o2 k (e.symm.trans hk)
    · rw [hk] at e; cases e; exact hs
  have hl : ints Lw ++ [.int .i64 X] = ints (Lw ++ [X]) := by simp [ints]
  rw [hl] at ho
  refine ⟨?_, fun a b => by simp [h2] at b, by simpa [updV] using h.v1, fun a b => by simp at b, by simpa [updV] using h.v3, by simpa [updV] using h.v4, fun a b => by simp at b, fun _ _ => ⟨by simpa [updV] using ho, by simpa [updV] using ho'⟩, fun a => by simp [h7] at a⟩
  refine (h.fr.trans hf (fun i hi hk => ?_)).mono (fun i _ hi => by simpa using hi)
  have := o2 i hk; omega
/-- The row is laid into the cell. -/
theorem S15.op7 (h : S15 W1 base t ob vw Lw X d vals W) (h6 : d 6 = true) (h7 : d 7 = false) (hd : ∀ j, j < 7 → d j = true) (ht : W1.heap[t]? = some (.cells #[vw] 39 (0, 0))) :
    S15 W1 base t ob vw Lw X (fun j => if j = 7 then true else d j) (updV vals 7 undef) (W.setCell ⟨t, 0, none⟩ (vals 6)) := by
  obtain ⟨r6, o6⟩ := h.v6 h6 h7
  have hf := Fr.set1 W t 0 (vals 6)
  have htt := h.fr.heap ht (fun ⟨e, _⟩ => by rw [h7] at e; cases e)
  refine ⟨?_, fun a b => by simp [hd 2] at b, by simpa [updV] using h.v1, fun a b => by simp [h6] at b, by simpa [updV] using h.v3, by simpa [updV] using h.v4, fun a b => by simp [h6] at b, fun a b => by simp at b, fun _ => ⟨vals 6, row_fr r6 hf (fun k hk e => ?_), o6, by simpa using blk_put htt 0 (vals 6)⟩⟩
  · refine (h.fr.mono (fun i _ hi => by rw [h7] at hi; exact absurd hi.1 (by simp))).trans hf (fun i _ hk => by simpa using hk)
  · subst e
    have := o6 _ hk
    have := blk_lt ht
    omega
end
end Go.Proofs.Ytlffjkijjggpkaa

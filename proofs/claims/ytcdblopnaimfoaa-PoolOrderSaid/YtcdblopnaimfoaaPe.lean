/- A pool's functions: Has, Give. Condition: the geometry is small. -/
import Derived.Test.YtcdblopnaimfoaaPd
namespace Go.Proofs.Ytcdblopnaimfoaa
open Go.RowKit Go.Conc

/-- The free zones with their domains. -/
def flat (C : Nat → List Int) : Nat → List (Nat × Int)
  | 0 => []
  | d + 1 => flat C d ++ (C d).map fun z => (d, z)
def encP (q : Nat × Int) : Array Value := #[.int .i64 (q.1 : Int), .int .i64 q.2]
theorem pre_eq (C : Nat → List Int) : ∀ n, pre C n = (flat C n).map encP
  | 0 => rfl
  | n + 1 => by rw [pre, flat, pre_eq C n, List.map_append, List.map_map]; rfl
theorem mem_flat (C : Nat → List Int) (q : Nat × Int) : ∀ n, q ∈ flat C n ↔ q.1 < n ∧ q.2 ∈ C q.1
  | 0 => by simp [flat]
  | n + 1 => by
    rw [flat, List.mem_append, mem_flat C q n, List.mem_map]
    constructor
    · rintro (⟨h1, h2⟩ | ⟨z, hz, rfl⟩)
      · exact ⟨by omega, h2⟩
      · exact ⟨by simp, hz⟩
    · rintro ⟨h1, h2⟩
      by_cases e : q.1 = n
      · exact .inr ⟨q.2, e ▸ h2, by rw [← e]⟩
      · exact .inl ⟨by omega, h2⟩
/-- Is a zone free? -/
def hasB (C : Nat → List Int) (n : Nat) (z : Int) : Bool := (flat C n).any fun q => q.2 == z
theorem hasB_iff {C : Nat → List Int} {n : Nat} {z : Int} : hasB C n z = true ↔ ∃ d, d < n ∧ z ∈ C d := by
  unfold hasB
  rw [List.any_eq_true]
  constructor
  · rintro ⟨q, hq, hz⟩
    have := (mem_flat C q n).1 hq
    exact ⟨q.1, this.1, by rw [← (by simpa using hz : q.2 = z)]; exact this.2⟩
  · rintro ⟨d, hd, hz⟩
    exact ⟨(d, z), (mem_flat C (d, z) n).2 ⟨hd, hz⟩, by simp⟩
/-- The channels. -/
def Chs (Dn : Nat) (qc : Nat → Nat) : Nat → Prop := fun k => ∃ d, d < Dn ∧ k = qc d
/-- What waits. -/
def Waits (W : World) (Dn Zn : Nat) (qc : Nat → Nat) (C : Nat → List Int) : Prop := ∀ d, d < Dn → ∃ s r, W.heap[qc d]? = some (.chan Zn (ints (C d)).toArray false s r false)
theorem Waits.same {W W' : World} {Dn Zn : Nat} {qc : Nat → Nat} {C : Nat → List Int} (h : Waits W Dn Zn qc C) (hs : ∀ k, Chs Dn qc k → W'.heap[k]? = W.heap[k]?) : Waits W' Dn Zn qc C := fun d hd => by
  obtain ⟨s, r, hq⟩ := h d hd
  exact ⟨s, r, (hs _ ⟨d, hd, rfl⟩).trans hq⟩
theorem Waits.st {W W' : World} {Dn Zn B : Nat} {qc : Nat → Nat} {C : Nat → List Int} (h : Waits W Dn Zn qc C) (hs : StP B Dn qc W W') : Waits W' Dn Zn qc C := fun d hd => by
  obtain ⟨s, r, hq⟩ := h d hd
  exact hs.2 d hd _ _ _ _ hq
section
variable {base : Nat} {W W' w : World} {p Dn Zn : Nat} {S B P O : Int} {l : Value} {qb qc : Nat → Nat} {C : Nat → List Int} {T : Nat → Prop}
theorem PoolAt.waits (h : PoolAt base W p Dn Zn S B P O l qb qc C) : Waits W Dn Zn qc C := fun d hd => (h.q d hd).2
theorem PoolAt.nch (h : PoolAt base W p Dn Zn S B P O l qb qc C) {k : Nat} {cs : Array Value} {ty : TypeId} {f : Nat × Nat} (hk : W.heap[k]? = some (.cells cs ty f)) : ¬ Chs Dn qc k := by
  rintro ⟨d, hd, e⟩; exact h.cne hd hk e
theorem PoolAt.ofch (h : PoolAt base W p Dn Zn S B P O l qb qc C) (hf : Fr T W W') (hT : ∀ k, T k → Chs Dn qc k ∨ ¬ PFoot p Dn l qb qc k) (hw : Waits W' Dn Zn qc C) : PoolAt base W' p Dn Zn S B P O l qb qc C := by
  have hn : ∀ (k : Nat) (cs : Array Value) (ty : TypeId), W.heap[k]? = some (.cells cs ty (0, 0)) → PFoot p Dn l qb qc k → ¬ T k := fun k cs ty hk hp ht => by
    rcases hT k ht with e | e
    · exact h.nch hk e
    · exact e hp
  refine ⟨h.sm, hf.heap h.pc (hn _ _ _ h.pc (.inl rfl)), row_fr h.row hf (fun k hk => ?_), fun d hd => ⟨hf.heap (h.q d hd).1 (hn _ _ _ (h.q d hd).1 (.inr (.inr ⟨d, hd, .inl rfl⟩))), hw d hd⟩, h.inj, h.zn, h.bp, h.bq⟩
  obtain ⟨cur, hc⟩ := row_obj h.row hk
  exact hn _ _ _ hc (.inr (.inl hk))
theorem resC52 {tmps : Array Value} {w : World} {b : Nat} {v : Bool} (h1 : tmps.getD 4 undef = .pointer (some ⟨b, 0, none⟩)) (h2 : w.cell? ⟨b, 0, none⟩ = some (.bool v)) : (results Try.f52 tmps).run Try.prog w = .ok (.bool v) w := by
  rw [Array.getD_eq_getD_getElem?] at h1
  simp [results, Try.f52, go_sem, h1, h2]

set_option linter.unusedSimpArgs false in
set_option maxRecDepth 100000 in
set_option maxHeartbeats 4000000 in
theorem has_calls (h : PoolAt base w p Dn Zn S B P O l qb qc C) (z : Int) : Calls Try.prog 52 #[.pointer (some ⟨p, 0, none⟩), .int .i64 z] w fun e w' =>
    e = .returned (.bool (hasB C Dn z)) ∧ PoolAt base w' p Dn Zn S B P O l qb qc C ∧ Fr (Chs Dn qc) w w' := by
  obtain ⟨res, hres⟩ : ∃ b, hasB C Dn z = b := ⟨_, rfl⟩
  have HR := Lib.hid hres
  rw [hres]
  clear hres
  refine calls_of_marks Try.func52 rfl ?_
  simp only [Try.ntmps52, List.size_toArray, List.length_cons, List.length_nil, Nat.reduceAdd, Nat.reduceSub, Array.replicate_succ, Array.replicate_zero, List.push_toArray, List.append_toArray, List.nil_append, List.cons_append]
  go_wp2_with fail
  have hF := ((Fr.refl (fun _ => False) w).alloc (.cells #[.int .i64 z] 3)).alloc (.cells #[.bool false] 4)
  have g1 := blk_alloc (blk_new w (.cells #[.int .i64 z] 3)) (.cells #[.bool false] 4)
  have g2 := blk_new (w.alloc (.cells #[.int .i64 z] 3)) (.cells #[.bool false] 4)
  have hs2 : ((w.alloc (.cells #[.int .i64 z] 3)).alloc (.cells #[.bool false] 4)).heap.size = w.heap.size + 2 := by simp
  rw [World.size_alloc] at g2
  generalize (w.alloc (.cells #[.int .i64 z] 3)).alloc (.cells #[.bool false] 4) = w1 at hF g1 g2 hs2 ⊢
  refine (allP p w1).mono ?_
  rintro e w2 ⟨rfl, rfl⟩
  have hF3 := hF.alloc (.cells #[.pointer (some ⟨p, 0, none⟩)] 68)
  have g3 := blk_new w1 (.cells #[.pointer (some ⟨p, 0, none⟩)] 68)
  replace g1 := blk_alloc g1 (.cells #[.pointer (some ⟨p, 0, none⟩)] 68)
  replace g2 := blk_alloc g2 (.cells #[.pointer (some ⟨p, 0, none⟩)] 68)
  have hs3 : (w1.alloc (.cells #[.pointer (some ⟨p, 0, none⟩)] 68)).heap.size = w.heap.size + 3 := by rw [World.size_alloc, hs2]
  rw [hs2] at g3 ⊢
  clear hF hs2
  generalize w1.alloc (.cells #[.pointer (some ⟨p, 0, none⟩)] 68) = w3 at hF3 g1 g2 g3 hs3 ⊢
  clear w1
  have h3 := h.fr0 hF3
  have hfl : ∀ k, PFoot p Dn l qb qc k → k < w.heap.size := fun k hk => (h.lt hk).2
  have hch : ∀ k, Chs Dn qc k → k < w.heap.size := by rintro k ⟨d, hd, rfl⟩; exact hfl _ (.inr (.inr ⟨d, hd, .inr rfl⟩))
  clear h
  go_wp2_with fail
  refine wp_rangeM2 (gf := 65) rfl (enters Try.func65 rfl (by decide)) (xs := pre C Dn) (St := StP (w.heap.size + 5) Dn qc) (fun k => k = w.heap.size + 1) (Chs Dn qc)
    (fun i W => W.heap[w.heap.size + 1]? = some (.cells #[.bool false] 4 (0, 0)) ∧ Waits W Dn Zn qc C ∧ ∀ j (hj : j < (flat C Dn).length), j < i → (flat C Dn)[j].2 ≠ z)
    (fun c W => c = .ret ∧ W.heap[w.heap.size + 1]? = some (.cells #[.bool true] 4 (0, 0)) ∧ Waits W Dn Zn qc C ∧ res = true) ?_ ?_ ?_ ?_ ?_ ?_ ?_ ?_ ?_ ?_ ?_ ?_ ?_
  · intro x hx
    rw [pre_eq] at hx
    obtain ⟨q, hq, rfl⟩ := List.mem_map.1 hx
    rfl
  · intro k hk; omega
  · intro k hk; have := hch k hk; omega
  · rintro i X Y ⟨a1, a2, a3⟩ hk
    exact ⟨(hk _ (.inl rfl)).trans a1, a2.same (fun k h => hk k (.inr h)), a3⟩
  · rintro c X Y ⟨a0, a1, a2, a3⟩ hk
    exact ⟨a0, (hk _ (.inl rfl)).trans a1, a2.same (fun k h => hk k (.inr h)), a3⟩
  · rintro X Y hst
    exact hst.1.mono (fun k _ e => by rcases e with ⟨d, hd, e⟩ | e; exact .inl ⟨d, hd, e⟩; exact .inr (by omega))
  · rintro i X Y ⟨a1, a2, a3⟩ hst
    exact ⟨hst.1.heap a1 (by rintro (e | e); have := hch _ e; omega; omega), a2.st hst, a3⟩
  · rintro c X Y ⟨a0, a1, a2, a3⟩ hst
    exact ⟨a0, hst.1.heap a1 (by rintro (e | e); have := hch _ e; omega; omega), a2.st hst, a3⟩
  · exact ⟨g2, h3.waits, fun j _ h => absurd h (by omega)⟩
  · intro X hf hs
    rw [hs3] at hs ⊢
    exact all_iterP (h3.fr0 hf) (hf.heap g3 id) (by omega) (fun d hd => by have := hch _ ⟨d, hd, rfl⟩; omega) _ (fun k hk => by
      refine ⟨by rcases hk with hk | hk | hk <;> omega, fun h => ?_⟩
      have := hfl k h
      rcases hk with hk | hk | hk <;> omega)
  · intro i args X hx
    rw [pre_eq, List.getElem?_map] at hx
    obtain ⟨q, hq, rfl⟩ := Option.map_eq_some_iff.1 hx
    obtain ⟨hi, hqe⟩ := List.getElem?_eq_some_iff.1 hq
    unfold encP
    rw [zip2]
    clear hx hq
    have hfn : ∀ f, (Fence.wide.inRound (w3.heap.size + 1)).fn f := fun _ => trivial
    have hdp : (Fence.wide.inRound (w3.heap.size + 1)).depth = none := rfl
    gi_wp2_with (rw [Oper.semAt_eq _ _ _ (fun c h => by cases h)]; go_simp; try go_bits)
    refine ⟨rfl, fun X2 hF hJ hs => ?_⟩
    rw [hs3] at hs hfn hdp ⊢
    obtain ⟨a1, a2, a3⟩ := hJ
    have ca := fun i => blk_cell (hF.heap g1 (by rintro (e | e); omega; have := hch _ e; omega)) i
    have cb := fun i => blk_cell a1 i
    have fb := fun i => blk_frozen a1 i
    have A2 := Lib.hid a2
    have A3 := Lib.hid a3
    have HQ := Lib.hid hqe
    clear a2 a3 hqe
    cases hz : (q.2 == z) with
    | true =>
      gi_wp2_with (rw [Oper.semAt_eq _ _ _ (fun c h => by cases h)]; go_simp; try go_bits)
      have f4 := Fr.set1 X2 (w.heap.size + 1) 0 (.bool true)
      refine ⟨f4, rfl, by simpa using blk_put a1 0 (.bool true), A2.out.same (fun k hk => f4.block k (by have := hch k hk; have := hF.size; omega) (by have := hch k hk; omega)), ?_⟩
      rw [← HR.out]
      unfold hasB
      rw [List.any_eq_true]
      exact ⟨q, by rw [← HQ.out]; exact List.getElem_mem _, hz⟩
    | false =>
      gi_wp2_with (rw [Oper.semAt_eq _ _ _ (fun c h => by cases h)]; go_simp; try go_bits)
      refine ⟨Fr.refl _ _, a1, A2.out, fun j hj hji => ?_⟩
      by_cases e : j = i
      · subst e; rw [HQ.out]; simpa using hz
      · exact A3.out j hj (by omega)
  · rintro X hF ⟨a1, a2, a3⟩ hm
    rw [hs3] at hm ⊢
    have hrf : res = false := by
      cases hr : res with
      | false => rfl
      | true =>
        have h9 := HR.out
        rw [hr] at h9
        unfold hasB at h9
        rw [List.any_eq_true] at h9
        obtain ⟨q, hq, hz⟩ := h9
        obtain ⟨j, hj, rfl⟩ := List.mem_iff_getElem.1 hq
        exact absurd (by simpa using hz) (a3 j hj (by rw [pre_eq, List.length_map]; exact hj))
    have HF := Lib.hid hrf
    have A2 := Lib.hid a2
    clear a2 a3 hrf
    have ca := fun i => blk_cell a1 i
    have fa := fun i => blk_frozen a1 i
    go_wp2_with fail
    have f4 := Fr.set1 X (w.heap.size + 1) 0 (.bool false)
    have w4 : Waits (X.setCell ⟨w.heap.size + 1, 0, none⟩ (.bool false)) Dn Zn qc C := A2.out.same (fun k hk => f4.block k (by have := hch k hk; have := hF.size; omega) (by have := hch k hk; omega))
    refine marks_all [w.heap.size + 3] _ ((Marks.nil _).cons (f4.heap hm (by omega)) (by simp)) ?_
    intro w9 hw9
    have w9w : Waits w9 Dn Zn qc C := w4.same (fun k hk => hw9.block k (by have := hch k hk; have := hF.size; have := f4.size; omega) (by have := hch k hk; simp; omega))
    have hFF : Fr (fun k => (k = w.heap.size + 1 ∨ Chs Dn qc k) ∨ k = w.heap.size + 3) w3 w9 := ((hF.mono (fun _ _ e => .inl e)).trans f4 (fun _ _ e => .inl (.inl e))).trans hw9 (fun k _ e => .inr (by simpa using e))
    refine ⟨.bool res, by rw [HF.out]; exact resC52 rfl (blk_cell (hw9.heap (by simpa using blk_put a1 0 (.bool false)) (by simp)) 0), rfl, ?_, ?_⟩
    · exact h3.ofch hFF (fun k e => by
        rcases e with (e | e) | e
        · exact .inr (fun h => by have := hfl k h; omega)
        · exact .inl e
        · exact .inr (fun h => by have := hfl k h; omega)) w9w
    · exact (hF3.mono (fun _ _ h => h.elim)).trans hFF (fun k hk e => by
        rcases e with (e | e) | e
        · omega
        · exact e
        · omega)
  · rintro c X hF ⟨rfl, a1, a2, hrt⟩ hm
    rw [hs3] at hm ⊢
    have HF := Lib.hid hrt
    have A2 := Lib.hid a2
    clear a2 hrt
    go_wp2_with fail
    refine marks_all [w.heap.size + 3] _ ((Marks.nil _).cons hm (by simp)) ?_
    intro w9 hw9
    have w9w : Waits w9 Dn Zn qc C := A2.out.same (fun k hk => hw9.block k (by have := hch k hk; have := hF.size; omega) (by have := hch k hk; simp; omega))
    have hFF : Fr (fun k => (k = w.heap.size + 1 ∨ Chs Dn qc k) ∨ k = w.heap.size + 3) w3 w9 := (hF.mono (fun _ _ e => .inl e)).trans hw9 (fun k _ e => .inr (by simpa using e))
    refine ⟨.bool res, by rw [HF.out]; exact resC52 rfl (blk_cell (hw9.heap a1 (by simp)) 0), rfl, ?_, ?_⟩
    · exact h3.ofch hFF (fun k e => by
        rcases e with (e | e) | e
        · exact .inr (fun h => by have := hfl k h; omega)
        · exact .inl e
        · exact .inr (fun h => by have := hfl k h; omega)) w9w
    · exact (hF3.mono (fun _ _ h => h.elim)).trans hFF (fun k hk e => by
        rcases e with (e | e) | e
        · omega
        · exact e
        · omega)
end
end Go.Proofs.Ytcdblopnaimfoaa

/- Several texts in one. No condition. -/
import Derived.Test.YtcdblopnaimfoaaP1

/- A pool's functions: Has, Give. Condition: the geometry is small. -/
namespace Go.Proofs.Ytcdblopnaimfoaa
open Go.RowKit Go.Conc

/-- The free zones with their domains. -/
def flat (C : Nat → List Int) : Nat → List (Nat × Int)
  | 0 => []
  | d + 1 => flat C d ++ (C d).map fun z => (d, z)
def encP (q : Nat × Int) : Array Value := #[.int .i64 (q.1 : Int), .int .i64 q.2]
theorem pre_eq (C : Nat → List Int) : ∀ n, pre C n = (flat C n).map encP
  | 0 => rfl
  | n + 1 => by rw [pre, flat, pre_eq C n, List.map_append, List.map_map]; rfl
theorem mem_flat (C : Nat → List Int) (q : Nat × Int) : ∀ n, q ∈ flat C n ↔ q.1 < n ∧ q.2 ∈ C q.1
  | 0 => by simp [flat]
  | n + 1 => by
    rw [flat, List.mem_append, mem_flat C q n, List.mem_map]
    constructor
    · rintro (⟨h1, h2⟩ | ⟨z, hz, rfl⟩)
      · exact ⟨by omega, h2⟩
      · exact ⟨by simp, hz⟩
    · rintro ⟨h1, h2⟩
      by_cases e : q.1 = n
      · exact .inr ⟨q.2, e ▸ h2, by rw [← e]⟩
      · exact .inl ⟨by omega, h2⟩
/-- Is a zone free? -/
def hasB (C : Nat → List Int) (n : Nat) (z : Int) : Bool := (flat C n).any fun q => q.2 == z
theorem hasB_iff {C : Nat → List Int} {n : Nat} {z : Int} : hasB C n z = true ↔ ∃ d, d < n ∧ z ∈ C d := by
  unfold hasB
  rw [List.any_eq_true]
  constructor
  · rintro ⟨q, hq, hz⟩
    have := (mem_flat C q n).1 hq
    exact ⟨q.1, this.1, by rw [← (by simpa using hz : q.2 = z)]; exact this.2⟩
  · rintro ⟨d, hd, hz⟩
    exact ⟨(d, z), (mem_flat C (d, z) n).2 ⟨hd, hz⟩, by simp⟩
/-- The channels. -/
def Chs (Dn : Nat) (qc : Nat → Nat) : Nat → Prop := fun k => ∃ d, d < Dn ∧ k = qc d
/-- What waits. -/
def Waits (W : World) (Dn Zn : Nat) (qc : Nat → Nat) (C : Nat → List Int) : Prop := ∀ d, d < Dn → ∃ s r, W.heap[qc d]? = some (.chan Zn (ints (C d)).toArray false s r false)
theorem Waits.same {W W' : World} {Dn Zn : Nat} {qc : Nat → Nat} {C : Nat → List Int} (h : Waits W Dn Zn qc C) (hs : ∀ k, Chs Dn qc k → W'.heap[k]? = W.heap[k]?) : Waits W' Dn Zn qc C := fun d hd => by
  obtain ⟨s, r, hq⟩ := h d hd
  exact ⟨s, r, (hs _ ⟨d, hd, rfl⟩).trans hq⟩
theorem Waits.st {W W' : World} {Dn Zn B : Nat} {qc : Nat → Nat} {C : Nat → List Int} (h : Waits W Dn Zn qc C) (hs : StP B Dn qc W W') : Waits W' Dn Zn qc C := fun d hd => by
  obtain ⟨s, r, hq⟩ := h d hd
  exact hs.2 d hd _ _ _ _ hq
section
variable {base : Nat} {W W' w : World} {p Dn Zn : Nat} {S B P O : Int} {l : Value} {qb qc : Nat → Nat} {C : Nat → List Int} {T : Nat → Prop}
theorem PoolAt.waits (h : PoolAt base W p Dn Zn S B P O l qb qc C) : Waits W Dn Zn qc C := fun d hd => (h.q d hd).2
theorem PoolAt.nch (h : PoolAt base W p Dn Zn S B P O l qb qc C) {k : Nat} {cs : Array Value} {ty : TypeId} {f : Nat × Nat} (hk : W.heap[k]? = some (.cells cs ty f)) : ¬ Chs Dn qc k := by
  rintro ⟨d, hd, e⟩; exact h.cne hd hk e
theorem PoolAt.ofch (h : PoolAt base W p Dn Zn S B P O l qb qc C) (hf : Fr T W W') (hT : ∀ k, T k → Chs Dn qc k ∨ ¬ PFoot p Dn l qb qc k) (hw : Waits W' Dn Zn qc C) : PoolAt base W' p Dn Zn S B P O l qb qc C := by
  have hn : ∀ (k : Nat) (cs : Array Value) (ty : TypeId), W.heap[k]? = some (.cells cs ty (0, 0)) → PFoot p Dn l qb qc k → ¬ T k := fun k cs ty hk hp ht => by
    rcases hT k ht with e | e
    · exact h.nch hk e
    · exact e hp
  refine ⟨h.sm, hf.heap h.pc (hn _ _ _ h.pc (.inl rfl)), row_fr h.row hf (fun k hk => ?_), fun d hd => ⟨hf.heap (h.q d hd).1 (hn _ _ _ (h.q d hd).1 (.inr (.inr ⟨d, hd, .inl rfl⟩))), hw d hd⟩, h.inj, h.zn, h.bp, h.bq⟩
  obtain ⟨cur, hc⟩ := row_obj h.row hk
  exact hn _ _ _ hc (.inr (.inl hk))
theorem resC52 {tmps : Array Value} {w : World} {b : Nat} {v : Bool} (h1 : tmps.getD 4 undef = .pointer (some ⟨b, 0, none⟩)) (h2 : w.cell? ⟨b, 0, none⟩ = some (.bool v)) : (results Try.f52 tmps).run Try.prog w = .ok (.bool v) w := by
  rw [Array.getD_eq_getD_getElem?] at h1
  simp [results, Try.f52, go_sem, h1, h2]

set_option linter.unusedSimpArgs false in
set_option maxRecDepth 100000 in
set_option maxHeartbeats 4000000 in
theorem has_calls (h : PoolAt base w p Dn Zn S B P O l qb qc C) (z : Int) : Calls Try.prog 52 #[.pointer (some ⟨p, 0, none⟩), .int .i64 z] w fun e w' =>
    e = .returned (.bool (hasB C Dn z)) ∧ PoolAt base w' p Dn Zn S B P O l qb qc C ∧ Fr (Chs Dn qc) w w' := by
  obtain ⟨res, hres⟩ : ∃ b, hasB C Dn z = b := ⟨_, rfl⟩
  have HR := Lib.hid hres
  rw [hres]
  clear hres
  refine calls_of_marks Try.func52 rfl ?_
  simp only [Try.ntmps52, List.size_toArray, List.length_cons, List.length_nil, Nat.reduceAdd, Nat.reduceSub, Array.replicate_succ, Array.replicate_zero, List.push_toArray, List.append_toArray, List.nil_append, List.cons_append]
  go_wp2_with fail
  have hF := ((Fr.refl (fun _ => False) w).alloc (.cells #[.int .i64 z] 3)).alloc (.cells #[.bool false] 4)
  have g1 := blk_alloc (blk_new w (.cells #[.int .i64 z] 3)) (.cells #[.bool false] 4)
  have g2 := blk_new (w.alloc (.cells #[.int .i64 z] 3)) (.cells #[.bool false] 4)
  have hs2 : ((w.alloc (.cells #[.int .i64 z] 3)).alloc (.cells #[.bool false] 4)).heap.size = w.heap.size + 2 := by simp
  rw [World.size_alloc] at g2
  generalize (w.alloc (.cells #[.int .i64 z] 3)).alloc (.cells #[.bool false] 4) = w1 at hF g1 g2 hs2 ⊢
  refine (allP p w1).mono ?_
  rintro e w2 ⟨rfl, rfl⟩
  have hF3 := hF.alloc (.cells #[.pointer (some ⟨p, 0, none⟩)] 68)
  have g3 := blk_new w1 (.cells #[.pointer (some ⟨p, 0, none⟩)] 68)
  replace g1 := blk_alloc g1 (.cells #[.pointer (some ⟨p, 0, none⟩)] 68)
  replace g2 := blk_alloc g2 (.cells #[.pointer (some ⟨p, 0, none⟩)] 68)
  have hs3 : (w1.alloc (.cells #[.pointer (some ⟨p, 0, none⟩)] 68)).heap.size = w.heap.size + 3 := by rw [World.size_alloc, hs2]
  rw [hs2] at g3 ⊢
  clear hF hs2
  generalize w1.alloc (.cells #[.pointer (some ⟨p, 0, none⟩)] 68) = w3 at hF3 g1 g2 g3 hs3 ⊢
  clear w1
  have h3 := h.fr0 hF3
  have hfl : ∀ k, PFoot p Dn l qb qc k → k < w.heap.size := fun k hk => (h.lt hk).2
  have hch : ∀ k, Chs Dn qc k → k < w.heap.size := by rintro k ⟨d, hd, rfl⟩; exact hfl _ (.inr (.inr ⟨d, hd, .inr rfl⟩))
  clear h
  go_wp2_with fail
  refine wp_rangeM2 (gf := 65) rfl (enters Try.func65 rfl (by decide)) (xs := pre C Dn) (St := StP (w.heap.size + 5) Dn qc) (fun k => k = w.heap.size + 1) (Chs Dn qc)
    (fun i W => W.heap[w.heap.size + 1]? = some (.cells #[.bool false] 4 (0, 0)) ∧ Waits W Dn Zn qc C ∧ ∀ j (hj : j < (flat C Dn).length), j < i → (flat C Dn)[j].2 ≠ z)
    (fun c W => c = .ret ∧ W.heap[w.heap.size + 1]? = some (.cells #[.bool true] 4 (0, 0)) ∧ Waits W Dn Zn qc C ∧ res = true) ?_ ?_ ?_ ?_ ?_ ?_ ?_ ?_ ?_ ?_ ?_ ?_ ?_
  · intro x hx
    rw [pre_eq] at hx
    obtain ⟨q, hq, rfl⟩ := List.mem_map.1 hx
    rfl
  · intro k hk; omega
  · intro k hk; have := hch k hk; omega
  · rintro i X Y ⟨a1, a2, a3⟩ hk
    exact ⟨(hk _ (.inl rfl)).trans a1, a2.same (fun k h => hk k (.inr h)), a3⟩
  · rintro c X Y ⟨a0, a1, a2, a3⟩ hk
    exact ⟨a0, (hk _ (.inl rfl)).trans a1, a2.same (fun k h => hk k (.inr h)), a3⟩
  · rintro X Y hst
    exact hst.1.mono (fun k _ e => by rcases e with ⟨d, hd, e⟩ | e; exact .inl ⟨d, hd, e⟩; exact .inr (by omega))
  · rintro i X Y ⟨a1, a2, a3⟩ hst
    exact ⟨hst.1.heap a1 (by rintro (e | e); have := hch _ e; omega; omega), a2.st hst, a3⟩
  · rintro c X Y ⟨a0, a1, a2, a3⟩ hst
    exact ⟨a0, hst.1.heap a1 (by rintro (e | e); have := hch _ e; omega; omega), a2.st hst, a3⟩
  · exact ⟨g2, h3.waits, fun j _ h => absurd h (by omega)⟩
  · intro X hf hs
    rw [hs3] at hs ⊢
    exact all_iterP (h3.fr0 hf) (hf.heap g3 id) (by omega) (fun d hd => by have := hch _ ⟨d, hd, rfl⟩; omega) _ (fun k hk => by
      refine ⟨by rcases hk with hk | hk | hk <;> omega, fun h => ?_⟩
      have := hfl k h
      rcases hk with hk | hk | hk <;> omega)
  · intro i args X hx
    rw [pre_eq, List.getElem?_map] at hx
    obtain ⟨q, hq, rfl⟩ := Option.map_eq_some_iff.1 hx
    obtain ⟨hi, hqe⟩ := List.getElem?_eq_some_iff.1 hq
    unfold encP
    rw [zip2]
    clear hx hq
    have hfn : ∀ f, (Fence.wide.inRound (w3.heap.size + 1)).fn f := fun _ => trivial
    have hdp : (Fence.wide.inRound (w3.heap.size + 1)).depth = none := rfl
    gi_wp2_with (rw [Oper.semAt_eq _ _ _ (fun c h => by cases h)]; go_simp; try go_bits)
    refine ⟨rfl, fun X2 hF hJ hs => ?_⟩
    rw [hs3] at hs hfn hdp ⊢
    obtain ⟨a1, a2, a3⟩ := hJ
    have ca := fun i => blk_cell (hF.heap g1 (by rintro (e | e); omega; have := hch _ e; omega)) i
    have cb := fun i => blk_cell a1 i
    have fb := fun i => blk_frozen a1 i
    have A2 := Lib.hid a2
    have A3 := Lib.hid a3
    have HQ := Lib.hid hqe
    clear a2 a3 hqe
    cases hz : (q.2 == z) with
    | true =>
      gi_wp2_with (rw [Oper.semAt_eq _ _ _ (fun c h => by cases h)]; go_simp; try go_bits)
      have f4 := Fr.set1 X2 (w.heap.size + 1) 0 (.bool true)
      refine ⟨f4, rfl, by simpa using blk_put a1 0 (.bool true), A2.out.same (fun k hk => f4.block k (by have := hch k hk; have := hF.size; omega) (by have := hch k hk; omega)), ?_⟩
      rw [← HR.out]
      unfold hasB
      rw [List.any_eq_true]
      exact ⟨q, by rw [← HQ.out]; exact List.getElem_mem _, hz⟩
    | false =>
      gi_wp2_with (rw [Oper.semAt_eq _ _ _ (fun c h => by cases h)]; go_simp; try go_bits)
      refine ⟨Fr.refl _ _, a1, A2.out, fun j hj hji => ?_⟩
      by_cases e : j = i
      · subst e; rw [HQ.out]; simpa using hz
      · exact A3.out j hj (by omega)
  · rintro X hF ⟨a1, a2, a3⟩ hm
    rw [hs3] at hm ⊢
    have hrf : res = false := by
      cases hr : res with
      | false => rfl
      | true =>
        have h9 := HR.out
        rw [hr] at h9
        unfold hasB at h9
        rw [List.any_eq_true] at h9
        obtain ⟨q, hq, hz⟩ := h9
        obtain ⟨j, hj, rfl⟩ := List.mem_iff_getElem.1 hq
        exact absurd (by simpa using hz) (a3 j hj (by rw [pre_eq, List.length_map]; exact hj))
    have HF := Lib.hid hrf
    have A2 := Lib.hid a2
    clear a2 a3 hrf
    have ca := fun i => blk_cell a1 i
    have fa := fun i => blk_frozen a1 i
    go_wp2_with fail
    have f4 := Fr.set1 X (w.heap.size + 1) 0 (.bool false)
    have w4 : Waits (X.setCell ⟨w.heap.size + 1, 0, none⟩ (.bool false)) Dn Zn qc C := A2.out.same (fun k hk => f4.block k (by have := hch k hk; have := hF.size; omega) (by have := hch k hk; omega))
    refine marks_all [w.heap.size + 3] _ ((Marks.nil _).cons (f4.heap hm (by omega)) (by simp)) ?_
    intro w9 hw9
    have w9w : Waits w9 Dn Zn qc C := w4.same (fun k hk => hw9.block k (by have := hch k hk; have := hF.size; have := f4.size; omega) (by have := hch k hk; simp; omega))
    have hFF : Fr (fun k => (k = w.heap.size + 1 ∨ Chs Dn qc k) ∨ k = w.heap.size + 3) w3 w9 := ((hF.mono (fun _ _ e => .inl e)).trans f4 (fun _ _ e => .inl (.inl e))).trans hw9 (fun k _ e => .inr (by simpa using e))
    refine ⟨.bool res, by rw [HF.out]; exact resC52 rfl (blk_cell (hw9.heap (by simpa using blk_put a1 0 (.bool false)) (by simp)) 0), rfl, ?_, ?_⟩
    · exact h3.ofch hFF (fun k e => by
        rcases e with (e | e) | e
        · exact .inr (fun h => by have := hfl k h; omega)
        · exact .inl e
        · exact .inr (fun h => by have := hfl k h; omega)) w9w
    · exact (hF3.mono (fun _ _ h => h.elim)).trans hFF (fun k hk e => by
        rcases e with (e | e) | e
        · omega
        · exact e
        · omega)
  · rintro c X hF ⟨rfl, a1, a2, hrt⟩ hm
    rw [hs3] at hm ⊢
    have HF := Lib.hid hrt
    have A2 := Lib.hid a2
    clear a2 hrt
    go_wp2_with fail
    refine marks_all [w.heap.size + 3] _ ((Marks.nil _).cons hm (by simp)) ?_
    intro w9 hw9
    have w9w : Waits w9 Dn Zn qc C := A2.out.same (fun k hk => hw9.block k (by have := hch k hk; have := hF.size; omega) (by have := hch k hk; simp; omega))
    have hFF : Fr (fun k => (k = w.heap.size + 1 ∨ Chs Dn qc k) ∨ k = w.heap.size + 3) w3 w9 := (hF.mono (fun _ _ e => .inl e)).trans hw9 (fun k _ e => .inr (by simpa using e))
    refine ⟨.bool res, by rw [HF.out]; exact resC52 rfl (blk_cell (hw9.heap a1 (by simp)) 0), rfl, ?_, ?_⟩
    · exact h3.ofch hFF (fun k e => by
        rcases e with (e | e) | e
        · exact .inr (fun h => by have := hfl k h; omega)
        · exact .inl e
        · exact .inr (fun h => by have := hfl k h; omega)) w9w
    · exact (hF3.mono (fun _ _ h => h.elim)).trans hFF (fun k hk e => by
        rcases e with (e | e) | e
        · omega
        · exact e
        · omega)
end
end Go.Proofs.Ytcdblopnaimfoaa

/- A pool's functions: Give, Drop, Pair. Condition: the geometry is small. -/
namespace Go.Proofs.Ytcdblopnaimfoaa
open Go.RowKit Go.Conc

section
variable {base : Nat} {W W' w : World} {p Dn Zn : Nat} {S B P O : Int} {l : Value} {qb qc : Nat → Nat} {C : Nat → List Int} {T : Nat → Prop}
/-- A zone's domain, where there is one. -/
theorem dom_of (h : PoolAt base w p Dn Zn S B P O l qb qc C) {z : Int} (hz : 0 ≤ domP Dn Zn z) : ∃ d : Nat, d < Dn ∧ domP Dn Zn z = d ∧ (d : Int) * Zn ≤ z ∧ z < ((d : Int) + 1) * Zn := by
  have hdz := h.dz
  unfold domP at hz ⊢
  by_cases hc : 0 ≤ z ∧ z < (Dn : Int) * Zn
  · rw [if_pos hc] at hz ⊢
    obtain ⟨d, hd⟩ := Int.eq_ofNat_of_zero_le hz
    rw [hd]
    have h1 : (d : Int) * Zn ≤ z := by rw [← hd]; exact Int.ediv_mul_le z (by omega)
    have h2 : z < ((d : Int) + 1) * Zn := by
      have := Int.lt_ediv_add_one_mul_self z (show (0 : Int) < Zn by omega)
      rw [hd] at this
      exact this
    refine ⟨d, ?_, rfl, h1, h2⟩
    have : (d : Int) * Zn < (Dn : Int) * Zn := by omega
    have := Int.lt_of_mul_lt_mul_right this (by omega)
    omega
  · rw [if_neg hc] at hz; omega
theorem dom_at (h : PoolAt base w p Dn Zn S B P O l qb qc C) {z : Int} {d : Nat} (hd : d < Dn) (h1 : (d : Int) * Zn ≤ z) (h2 : z < ((d : Int) + 1) * Zn) : domP Dn Zn z = d := by
  have hdz := h.dz
  have h0 : 0 ≤ (d : Int) * Zn := Int.mul_nonneg (by omega) (by omega)
  have h3 : ((d : Int) + 1) * Zn ≤ (Dn : Int) * Zn := Int.mul_le_mul_of_nonneg_right (by omega) (by omega)
  unfold domP
  rw [if_pos ⟨by omega, by omega⟩]
  have e1 : z / Zn < (d : Int) + 1 := Int.ediv_lt_of_lt_mul (by omega) h2
  have e2 : (d : Int) ≤ z / Zn := Int.le_ediv_of_mul_le (by omega) h1
  omega
/-- A zone's own queue has it, or none. -/
theorem hasB_at (h : PoolAt base w p Dn Zn S B P O l qb qc C) {z : Int} {d : Nat} (hd : d < Dn) (hdz : domP Dn Zn z = d) : hasB C Dn z = true ↔ z ∈ C d := by
  rw [hasB_iff]
  constructor
  · rintro ⟨e, he, hm⟩
    have := (h.zn e he).2 z hm
    have := dom_at h he this.1 this.2
    have e1 : e = d := by omega
    exact e1 ▸ hm
  · intro hm; exact ⟨d, hd, hm⟩

theorem give_out (h : PoolAt base w p Dn Zn S B P O l qb qc C) {z : Int} (hz : domP Dn Zn z < 0) : Calls Try.prog 47 #[.pointer (some ⟨p, 0, none⟩), .int .i64 z] w fun e w' => e = .returned (.int .i64 13) ∧ Fr (fun _ => False) w w' := by
  have hd := domainI h.sm z
  obtain ⟨d, hdd⟩ : ∃ d, domP Dn Zn z = d := ⟨_, rfl⟩
  rw [hdd] at hd hz
  have cp := fun i => blk_cell h.pc i
  have hdz := h.dz
  clear hdd
  go_enter Try.func47, Try.ntmps47
  go_wp2_with fail
  refine (hd _).mono ?_
  rintro e w1 ⟨rfl, hb⟩
  have hf := Fr.of_below (S := fun _ => False) hb
  clear hd
  go_wp2
  go_ret
  exact ⟨rfl, hf⟩
theorem give_twice (h : PoolAt base w p Dn Zn S B P O l qb qc C) {z : Int} {d : Nat} (hdd : domP Dn Zn z = d) (ht : hasB C Dn z = true) : Calls Try.prog 47 #[.pointer (some ⟨p, 0, none⟩), .int .i64 z] w fun e w' =>
    e = .returned (.int .i64 16) ∧ PoolAt base w' p Dn Zn S B P O l qb qc C ∧ Fr (Chs Dn qc) w w' := by
  have hd := domainI h.sm z
  rw [hdd] at hd
  have cp := fun i => blk_cell h.pc i
  have hdz := h.dz
  have HT := Lib.hid ht
  clear hdd ht
  go_enter Try.func47, Try.ntmps47
  go_wp2_with fail
  refine (hd _).mono ?_
  rintro e w1 ⟨rfl, hb⟩
  have hf := Fr.of_below (S := fun _ => False) hb
  have hh := has_calls (h.fr0 hf) z
  rw [HT.out] at hh
  clear hd
  go_wp2_with fail
  refine hh.mono ?_
  rintro e w2 ⟨rfl, h2, hf2⟩
  go_wp2
  go_ret
  exact ⟨rfl, h2, (hf.mono (fun _ _ h => h.elim)).trans hf2 (fun _ _ h => h)⟩
theorem give_ok (h : PoolAt base w p Dn Zn S B P O l qb qc C) {z : Int} {d : Nat} (hlt : d < Dn) (hdd : domP Dn Zn z = d) (hz1 : (d : Int) * Zn ≤ z) (hz2 : z < ((d : Int) + 1) * Zn) (ht : hasB C Dn z = false) : Calls Try.prog 47 #[.pointer (some ⟨p, 0, none⟩), .int .i64 z] w fun e w' =>
    e = .returned (.int .i64 0) ∧ PoolAt base w' p Dn Zn S B P O l qb qc (setC C d (C d ++ [z])) ∧ Fr (Chs Dn qc) w w' := by
  have hnm : z ∉ C d := fun hm => by rw [(hasB_at h hlt hdd).2 hm] at ht; cases ht
  have hzn : ZonesOf Zn d (C d ++ [z]) := by
    have h1 := h.zn d hlt
    refine ⟨List.nodup_append.2 ⟨h1.1, by simp, ?_⟩, fun y hy => ?_⟩
    · intro a ha b hb e
      simp at hb
      exact hnm (by rw [← hb, ← e]; exact ha)
    · rcases List.mem_append.1 hy with hy | hy
      · exact h1.2 y hy
      · simp at hy; subst hy; exact ⟨hz1, hz2⟩
  have hroom : (C d).length < Zn := by have := hzn.len; simp at this; omega
  have hd := domainI h.sm z
  rw [hdd] at hd
  have cp := fun i => blk_cell h.pc i
  have hdz := h.dz
  have HT := Lib.hid ht
  have HZ := Lib.hid hzn
  clear hdd ht hnm hzn hz1 hz2
  go_enter Try.func47, Try.ntmps47
  go_wp2_with fail
  refine (hd _).mono ?_
  rintro e w1 ⟨rfl, hb⟩
  have hf := Fr.of_below (S := fun _ => False) hb
  have hh := has_calls (h.fr0 hf) z
  rw [HT.out] at hh
  clear hd
  go_wp2_with fail
  refine hh.mono ?_
  rintro e w2 ⟨rfl, h2, hf2⟩
  clear hh cp
  have h2' := h2
  obtain ⟨g, cap, rfl, hcell⟩ := h2.val
  have cp := fun i => blk_cell h2.pc i
  have hc := hcell d hlt
  have hq := h2.q d hlt
  clear hcell
  go_wp2_with fail
  refine (putI_room _ _ z _ _ _ hq (by rw [ints_length]; exact hroom)).mono ?_
  rintro e w3 ⟨rfl, hq3, hf3⟩
  have e9 : ints (C d) ++ [.int .i64 z] = ints (C d ++ [z]) := by simp [ints]
  rw [e9] at hq3
  have h4 := h2'.chan hlt hf3 hq3 HZ.out
  go_wp2
  go_ret
  exact ⟨rfl, h4, ((hf.mono (fun _ _ h => h.elim)).trans hf2 (fun _ _ h => h)).trans hf3 (fun k _ e => ⟨d, hlt, e⟩)⟩

theorem dropC (zb : Nat) (z x : Int) (V : World) (hV : V.heap[zb]? = some (.cells #[.int .i64 z] 3 (0, 0))) : Calls Try.prog 75 #[.int .i64 x, .pointer (some ⟨zb, 0, none⟩)] V fun e V' => e = .returned (.bool (x != z)) ∧ V' = V := by
  have cg := fun i => blk_cell hV i
  go_enter Try.func75, Try.ntmps75
  go_wp2
  go_ret
  exact ⟨rfl, rfl⟩
end
end Go.Proofs.Ytcdblopnaimfoaa

/- Plain words on the domains of a pool: the one with the most zones, the number of pairs. No condition. -/
namespace Go.Proofs.Ytcdblopnaimfoaa
open Go.RowKit

/-- The domain with the most, but for one. -/
theorem fullP_max (C : Nat → List Int) (but : Int) : ∀ n, (fullP C but n = -1 ∧ ∀ i, i < n → (i : Int) = but) ∨
    ∃ f : Nat, fullP C but n = f ∧ f < n ∧ (f : Int) ≠ but ∧ (∀ i, i < n → (i : Int) ≠ but → (C i).length ≤ (C f).length) ∧ ∀ i, i < f → (i : Int) ≠ but → (C i).length < (C f).length
  | 0 => .inl ⟨rfl, fun i h => by omega⟩
  | n + 1 => by
    rcases fullP_max C but n with ⟨h1, h2⟩ | ⟨f, h1, h2, h3, h4, h5⟩
    · by_cases e : (n : Int) = but
      · refine .inl ⟨?_, fun i hi => ?_⟩
        · rw [fullP, if_neg (by simp [e]), h1]
        · by_cases ei : i = n
          · rw [ei]; exact e
          · exact h2 i (by omega)
      · refine .inr ⟨n, ?_, by omega, e, fun i hi hb => ?_, fun i hi hb => absurd (h2 i hi) hb⟩
        · rw [fullP, if_pos ⟨e, .inl (by rw [h1]; decide)⟩]
        · by_cases ei : i = n
          · rw [ei]; exact Nat.le_refl _
          · exact absurd (h2 i (by omega)) hb
    · by_cases hc : (n : Int) ≠ but ∧ (C f).length < (C n).length
      · refine .inr ⟨n, ?_, by omega, hc.1, fun i hi hb => ?_, fun i hi hb => ?_⟩
        · rw [fullP, if_pos ⟨hc.1, .inr (by rw [h1, Int.toNat_natCast]; exact hc.2)⟩]
        · by_cases ei : i = n
          · rw [ei]; exact Nat.le_refl _
          · have := h4 i (by omega) hb; omega
        · have := h4 i (by omega) hb; omega
      · refine .inr ⟨f, ?_, by omega, h3, fun i hi hb => ?_, h5⟩
        · rw [fullP, if_neg, h1]
          rintro ⟨a, b | b⟩
          · rw [h1] at b; omega
          · rw [h1, Int.toNat_natCast] at b; exact hc ⟨a, b⟩
        · by_cases ei : i = n
          · subst ei
            have : ¬ (C f).length < (C i).length := fun h => hc ⟨hb, h⟩
            omega
          · exact h4 i (by omega) hb
theorem sumP_nonneg (C : Nat → List Int) : ∀ n, 0 ≤ sumP C n
  | 0 => by simp [sumP]
  | n + 1 => by have := sumP_nonneg C n; rw [sumP]; omega
theorem sumP_one (C : Nat → List Int) {a : Nat} : ∀ n, a < n → ((C a).length : Int) ≤ sumP C n
  | n + 1, h => by
    have := sumP_nonneg C n
    rw [sumP]
    by_cases e : a = n
    · subst e; omega
    · have := sumP_one C n (by omega : a < n); omega
theorem sumP_two (C : Nat → List Int) {a b : Nat} (hab : a ≠ b) : ∀ n, a < n → b < n → ((C a).length : Int) + (C b).length ≤ sumP C n
  | n + 1, ha, hb => by
    rw [sumP]
    by_cases e : a = n
    · subst e; have := sumP_one C (a := b) a (by omega); omega
    · by_cases e2 : b = n
      · subst e2; have := sumP_one C (a := a) b (by omega); omega
      · have := sumP_two C hab n (by omega) (by omega); omega
theorem sumP_three (C : Nat → List Int) {a b c : Nat} (hab : a ≠ b) (hac : a ≠ c) (hbc : b ≠ c) : ∀ n, a < n → b < n → c < n → ((C a).length : Int) + (C b).length + (C c).length ≤ sumP C n
  | n + 1, ha, hb, hc => by
    rw [sumP]
    by_cases e : a = n
    · subst e; have := sumP_two C hbc a (by omega) (by omega); omega
    · by_cases e2 : b = n
      · subst e2; have := sumP_two C hac b (by omega) (by omega); omega
      · by_cases e3 : c = n
        · subst e3; have := sumP_two C hab c (by omega) (by omega); omega
        · have := sumP_three C hab hac hbc n (by omega) (by omega) (by omega); omega
/-- Where all others are empty. -/
theorem sumP_only (C : Nat → List Int) {a : Nat} : ∀ n, (∀ i, i < n → i ≠ a → C i = []) → sumP C n = if a < n then ((C a).length : Int) else 0
  | 0, _ => by simp [sumP]
  | n + 1, h => by
    rw [sumP, sumP_only C n (fun i hi => h i (by omega))]
    by_cases e : a = n
    · subst e; simp
    · rw [h n (by omega) (Ne.symm e)]
      by_cases h2 : a < n
      · rw [if_pos h2, if_pos (by omega)]; simp
      · rw [if_neg h2, if_neg (by omega)]; simp
theorem sumP_set (C : Nat → List Int) (a : Nat) (L : List Int) : ∀ n, sumP (setC C a L) n = sumP C n + if a < n then (L.length : Int) - (C a).length else 0
  | 0 => by simp [sumP]
  | n + 1 => by
    rw [sumP, sumP, sumP_set C a L n]
    by_cases e : n = a
    · subst e; rw [setC_same, if_neg (by omega), if_pos (by omega)]; omega
    · rw [setC_other _ _ e]
      by_cases h2 : a < n
      · rw [if_pos h2, if_pos (by omega)]; omega
      · rw [if_neg h2, if_neg (by omega)]; omega
/-- The pairs in plain words: M is the greatest number. -/
theorem pairsP_eq (C : Nat → List Int) {n a : Nat} (ha : a < n) (hm : ∀ i, i < n → (C i).length ≤ (C a).length) : pairsP n C = if sumP C n / 2 ≤ sumP C n - (C a).length then sumP C n / 2 else sumP C n - (C a).length := by
  have hc : cntP n C (fullP C (-1) n) = (C a).length := by
    rcases fullP_max C (-1) n with ⟨h1, h2⟩ | ⟨f, h1, h2, h3, h4, h5⟩
    · have := h2 a ha; omega
    · rw [h1, cntP, if_pos (by omega), Int.toNat_natCast]
      have h6 := h4 a ha (by omega)
      have h7 := hm f h2
      omega
  unfold pairsP
  rw [hc]
/-- Where there is a pair: the two domains. -/
theorem pairs_two (C : Nat → List Int) {n : Nat} (h : pairsP n C ≠ 0) : ∃ a b : Nat, a < n ∧ b < n ∧ b ≠ a ∧ fullP C (-1) n = a ∧ fullP C a n = b ∧ C a ≠ [] ∧ C b ≠ [] ∧ (∀ i, i < n → (C i).length ≤ (C a).length) ∧ ∀ i, i < n → i ≠ a → (C i).length ≤ (C b).length := by
  rcases fullP_max C (-1) n with ⟨h1, h2⟩ | ⟨a, h1, h2, h3, h4, h5⟩
  · have hn : n = 0 := by
      cases n with
      | zero => rfl
      | succ m => have := h2 0 (by omega); omega
    subst hn
    exact absurd (by simp [pairsP, sumP, cntP, fullP]) h
  · have hm : ∀ i, i < n → (C i).length ≤ (C a).length := fun i hi => h4 i hi (by omega)
    have hp := pairsP_eq C h2 hm
    have hb : ∃ b : Nat, b < n ∧ b ≠ a ∧ fullP C a n = b ∧ C b ≠ [] ∧ ∀ i, i < n → i ≠ a → (C i).length ≤ (C b).length := by
      have key : (∀ i, i < n → i ≠ a → C i = []) → False := fun h0 => by
        have hs := sumP_only C n h0
        rw [if_pos h2] at hs
        rw [hs] at hp
        have : pairsP n C = 0 := by rw [hp]; split <;> omega
        exact h this
      rcases fullP_max C (a : Int) n with ⟨g1, g2⟩ | ⟨b, g1, g2, g3, g4, g5⟩
      · exact (key fun i hi hia => absurd (g2 i hi) (by omega)).elim
      · refine ⟨b, g2, by omega, g1, fun hbe => key fun i hi hia => ?_, fun i hi hia => g4 i hi (by omega)⟩
        have := g4 i hi (by omega)
        rw [hbe] at this
        exact List.length_eq_zero_iff.1 (by simpa using this)
    obtain ⟨b, b1, b2, b3, b4, b5⟩ := hb
    refine ⟨a, b, h2, b1, b2, h1, b3, fun hae => ?_, b4, hm, b5⟩
    have := hm b b1
    rw [hae] at this
    exact b4 (List.length_eq_zero_iff.1 (by simpa using this))
/-- A pair taken makes one pair less. -/
theorem pairs_less (C : Nat → List Int) {n a b : Nat} (ha : a < n) (hb : b < n) (hba : b ≠ a) (hm : ∀ i, i < n → (C i).length ≤ (C a).length) (hm2 : ∀ i, i < n → i ≠ a → (C i).length ≤ (C b).length) {x y : Int} {ta tb : List Int} (hca : C a = x :: ta) (hcb : C b = y :: tb) :
    pairsP n (setC (setC C a ta) b tb) = pairsP n C - 1 ∧ sumP (setC (setC C a ta) b tb) n = sumP C n - 2 := by
  have hs : sumP (setC (setC C a ta) b tb) n = sumP C n - 2 := by
    rw [sumP_set, sumP_set, if_pos hb, if_pos ha, setC_other _ _ hba, hca, hcb]
    simp; omega
  refine ⟨?_, hs⟩
  have hla : (C a).length = ta.length + 1 := by rw [hca]; rfl
  have hlb : (C b).length = tb.length + 1 := by rw [hcb]; rfl
  have h2 := sumP_two C (Ne.symm hba) n ha hb
  have hp := pairsP_eq C ha hm
  have hba' := hm b hb
  -- the lengths behind
  have hl : ∀ i, i < n → (setC (setC C a ta) b tb i).length = if i = b then tb.length else if i = a then ta.length else (C i).length := fun i _ => by
    unfold setC
    split
    · rfl
    · split <;> rfl
  by_cases h3 : ∃ c, c < n ∧ c ≠ a ∧ c ≠ b ∧ (C c).length = (C a).length
  · obtain ⟨c, hc, hca2, hcb2, hcl⟩ := h3
    have hmx : ∀ i, i < n → (setC (setC C a ta) b tb i).length ≤ (setC (setC C a ta) b tb c).length := fun i hi => by
      rw [hl i hi, hl c hc, if_neg hcb2, if_neg hca2, hcl]
      have := hm i hi
      split
      · omega
      · split <;> omega
    have hp' := pairsP_eq (setC (setC C a ta) b tb) hc hmx
    rw [hl c hc, if_neg hcb2, if_neg hca2, hcl, hs] at hp'
    have h4 := sumP_three C (Ne.symm hba) (Ne.symm hca2) (Ne.symm hcb2) n ha hb hc
    have h5 := hm2 c hc hca2
    rw [hp', hp]
    split <;> split <;> omega
  · have hlt : ∀ i, i < n → i ≠ a → i ≠ b → (C i).length < (C a).length := fun i hi h1 h2 => by
      have := hm i hi
      by_cases e : (C i).length = (C a).length
      · exact absurd ⟨i, hi, h1, h2, e⟩ h3
      · omega
    have hmx : ∀ i, i < n → (setC (setC C a ta) b tb i).length ≤ (setC (setC C a ta) b tb a).length := fun i hi => by
      rw [hl i hi, hl a ha, if_neg (Ne.symm hba), if_pos rfl]
      split
      · omega
      · split
        · omega
        · rename_i e1 e2
          have := hlt i hi e2 e1
          omega
    have hp' := pairsP_eq (setC (setC C a ta) b tb) ha hmx
    rw [hl a ha, if_neg (Ne.symm hba), if_pos rfl, hs] at hp'
    rw [hp', hp]
    split <;> split <;> omega
/-- Two of unlike domains make at least one pair more. -/
theorem pairs_more (C C' : Nat → List Int) {n : Nat} (hn : 0 < n) (hs : sumP C' n = sumP C n + 2) (hl : ∀ i, i < n → (C' i).length ≤ (C i).length + 1) : pairsP n C < pairsP n C' := by
  have key : ∀ D : Nat → List Int, ∃ a : Nat, a < n ∧ ∀ i, i < n → (D i).length ≤ (D a).length := fun D => by
    rcases fullP_max D (-1) n with ⟨h1, h2⟩ | ⟨a, h1, h2, h3, h4, h5⟩
    · have := h2 0 hn; omega
    · exact ⟨a, h2, fun i hi => h4 i hi (by omega)⟩
  obtain ⟨a, ha, hma⟩ := key C
  obtain ⟨b, hb, hmb⟩ := key C'
  rw [pairsP_eq C ha hma, pairsP_eq C' hb hmb, hs]
  have h1 := hl b hb
  have h2 := hma b hb
  split <;> split <;> omega
theorem flat_len (C : Nat → List Int) : ∀ n, ((flat C n).length : Int) = sumP C n
  | 0 => by simp [flat, sumP]
  | n + 1 => by rw [flat, sumP, List.length_append, List.length_map, ← flat_len C n]; push_cast; rfl
/-- Where there is no pair, all are of one domain. -/
theorem pairs_zero (C : Nat → List Int) {n : Nat} (h : pairsP n C = 0) {d e : Nat} (hd : d < n) (he : e < n) (h1 : C d ≠ []) (h2 : C e ≠ []) : d = e := by
  apply Classical.byContradiction
  intro hde
  have l1 : 0 < (C d).length := List.length_pos_iff.2 h1
  have l2 : 0 < (C e).length := List.length_pos_iff.2 h2
  rcases fullP_max C (-1) n with ⟨g1, g2⟩ | ⟨a, g1, g2, g3, g4, g5⟩
  · have := g2 d hd; omega
  · have hp := pairsP_eq C g2 (fun i hi => g4 i hi (by omega))
    rw [h] at hp
    have s2 := sumP_two C hde n hd he
    by_cases ea : a = d
    · subst ea
      split at hp <;> omega
    · have s3 := sumP_two C ea n g2 hd
      split at hp <;> omega
end Go.Proofs.Ytcdblopnaimfoaa

/- A pool's functions: Drop, Pair. Condition: the geometry is small. -/
namespace Go.Proofs.Ytcdblopnaimfoaa
open Go.RowKit Go.Conc

section
variable {base : Nat} {W W' w : World} {p Dn Zn : Nat} {S B P O : Int} {l : Value} {qb qc : Nat → Nat} {C : Nat → List Int} {T : Nat → Prop}
def neB (z : Int) : Int → Bool := fun x => x != z
theorem neB_filter {z : Int} {L : List Int} (h : z ∉ L) : L.filter (neB z) = L := by
  rw [List.filter_eq_self]
  intro a ha
  unfold neB
  have : a ≠ z := fun e => h (e ▸ ha)
  simpa using this
theorem neB_len {z : Int} : ∀ {L : List Int}, L.Nodup → z ∈ L → (L.filter (neB z)).length + 1 = L.length
  | [], _, h => by simp at h
  | a :: t, hn, h => by
    by_cases e : a = z
    · subst e
      have hnt := (List.nodup_cons.1 hn).1
      rw [List.filter_cons, if_neg (by simp [neB]), neB_filter hnt]
      rfl
    · have hzt : z ∈ t := by rcases List.mem_cons.1 h with h | h; exact absurd h.symm e; exact h
      have := neB_len (List.nodup_cons.1 hn).2 hzt
      rw [List.filter_cons, if_pos (by simpa [neB] using e)]
      simp
      omega
theorem zones_filter {d : Nat} {L : List Int} (h : ZonesOf Zn d L) (f : Int → Bool) : ZonesOf Zn d (L.filter f) :=
  ⟨h.1.filter _, fun z hz => h.2 z (List.mem_filter.1 hz).1⟩

set_option linter.unusedSimpArgs false in
set_option maxRecDepth 100000 in
set_option maxHeartbeats 2000000 in
theorem drop_out (h : PoolAt base w p Dn Zn S B P O l qb qc C) {z : Int} (hz : domP Dn Zn z < 0) : Calls Try.prog 70 #[.pointer (some ⟨p, 0, none⟩), .int .i64 z] w fun e w' => e = .returned (.int .i64 15) ∧ Fr (fun _ => False) w w' := by
  have hd := domainI h.sm z
  obtain ⟨d, hdd⟩ : ∃ d, domP Dn Zn z = d := ⟨_, rfl⟩
  rw [hdd] at hd hz
  have hdz := h.dz
  have HD := Lib.hid hd
  clear hdd hd
  have F1 := (Fr.refl (fun _ => False) w).alloc (.cells #[.int .i64 z] 3)
  have g1 := blk_new w (.cells #[.int .i64 z] 3)
  have h1 := h.fr0 F1
  go_enter Try.func70, Try.ntmps70
  go_wp2_with fail
  generalize w.alloc (.cells #[.int .i64 z] 3) = w1 at F1 g1 h1 ⊢
  refine (wpIn_wide (n := 0)).1 ?_
  refine regionIn_seq (fun _ V => Fr (fun _ => False) w1 V) rfl (by kernel_rfl) (by kernel_rfl) (by kernel_rfl) (fun _ => trivial) rfl (Fr.refl _ _).drew ?_
  iterate 7
    apply SeqR.step
    · rfl
    · intro d2 V hV ht
      have h3 := h1.fr0 hV
      have cp := fun i => blk_cell h3.pc i
      have c1 := fun i => blk_cell (hV.heap g1 id) i
      have hdV := HD.out V
      simp [Oper.gives, execOp, Act.eval, go_sem, cp, c1]
      first
      | exact ⟨rfl, hV⟩
      | (refine callsIn_wide.2 (hdV.mono ?_); rintro e W9 ⟨rfl, hb⟩; exact ⟨_, rfl, rfl, hV.trans (Fr.of_below (S := fun _ => False) hb) (fun _ _ h => h)⟩)
    simp only [Act.put, List.setIfInBounds_toArray, List.set_cons_succ, List.set_cons_zero]
  refine SeqR.nil fun V hV => ?_
  go_wp2_with fail
  go_ret
  exact ⟨rfl, F1.trans hV (fun _ _ h => h)⟩
set_option linter.unusedSimpArgs false in
set_option maxRecDepth 100000 in
set_option maxHeartbeats 2000000 in
theorem drop_calls (h : PoolAt base w p Dn Zn S B P O l qb qc C) {z : Int} {d : Nat} (hlt : d < Dn) (hdd : domP Dn Zn z = d) : Calls Try.prog 70 #[.pointer (some ⟨p, 0, none⟩), .int .i64 z] w fun e w' =>
    e = .returned (.int .i64 (if hasB C Dn z = true then 0 else 15)) ∧ PoolAt base w' p Dn Zn S B P O l qb qc (setC C d ((C d).filter (neB z))) ∧ Fr (Chs Dn qc) w w' := by
  have hd := domainI h.sm z
  rw [hdd] at hd
  have hdz := h.dz
  have hmem := hasB_at h hlt hdd
  have HM := Lib.hid hmem
  obtain ⟨r, hr⟩ : ∃ r : Int, (if hasB C Dn z = true then (0 : Int) else 15) = r := ⟨_, rfl⟩
  rw [hr]
  have HR := Lib.hid hr
  clear hr
  have HD := Lib.hid hd
  clear hdd hd hmem
  have F1 := (Fr.refl (fun _ => False) w).alloc (.cells #[.int .i64 z] 3)
  have g1 := blk_new w (.cells #[.int .i64 z] 3)
  have h1 := h.fr0 F1
  have hcl := fun e (he : e < Dn) => (h.q e he).cl
  go_enter Try.func70, Try.ntmps70
  go_wp2_with fail
  generalize w.alloc (.cells #[.int .i64 z] 3) = w1 at F1 g1 h1 ⊢
  refine (wpIn_wide (n := 0)).1 ?_
  refine regionIn_seq (fun _ V => Fr (fun _ => False) w1 V) rfl (by kernel_rfl) (by kernel_rfl) (by kernel_rfl) (fun _ => trivial) rfl (Fr.refl _ _).drew ?_
  iterate 7
    apply SeqR.step
    · rfl
    · intro d2 V hV ht
      have h3 := h1.fr0 hV
      have cp := fun i => blk_cell h3.pc i
      have c1 := fun i => blk_cell (hV.heap g1 id) i
      have hdV := HD.out V
      simp [Oper.gives, execOp, Act.eval, go_sem, cp, c1]
      first
      | exact ⟨rfl, hV⟩
      | (refine callsIn_wide.2 (hdV.mono ?_); rintro e W9 ⟨rfl, hb⟩; exact ⟨_, rfl, rfl, hV.trans (Fr.of_below (S := fun _ => False) hb) (fun _ _ h => h)⟩)
    simp only [Act.put, List.setIfInBounds_toArray, List.set_cons_succ, List.set_cons_zero]
  refine SeqR.nil fun V hV => ?_
  have h3 := h1.fr0 hV
  have h3' := h3
  have gz := hV.heap g1 id
  obtain ⟨g, cap, rfl, hcell⟩ := h3.val
  have cp := fun i => blk_cell h3.pc i
  have hc := hcell d hlt
  clear hcell
  have hlen := h3.len hlt
  have hk := keepQ (h3.q d hlt) (by omega) hlen 75 #[.pointer (some ⟨w.heap.size, 0, none⟩)] (neB z) (enters Try.func75 rfl (by decide)) (fun x V2 hV2 => by
    have := dropC w.heap.size z x V2 (hV2.heap gz (by have := hcl d hlt; omega))
    simpa [neB] using this)
  have hzf := zones_filter (h3.zn d hlt) (neB z)
  have HZ := Lib.hid hzf
  have HN := Lib.hid (h3.zn d hlt).1
  clear hzf
  by_cases hm : z ∈ C d
  · have hlf := neB_len HN.out hm
    have e1 : (C d).length - ((C d).filter (neB z)).length = 1 := by omega
    rw [e1] at hk
    obtain rfl : r = 0 := by rw [← HR.out, if_pos (HM.out.2 hm)]
    clear e1 hlf hm
    go_wp2_with fail
    refine hk.mono ?_
    rintro e w4 ⟨rfl, hq4, hf4⟩
    have h5 := h3'.chan hlt hf4 hq4 HZ.out
    clear hk
    go_wp2_with fail
    go_ret
    exact ⟨rfl, h5, ((F1.mono (fun _ _ h => h.elim)).trans hV (fun _ _ h => h.elim)).trans hf4 (fun k _ e => ⟨d, hlt, e⟩)⟩
  · have e1 : (C d).length - ((C d).filter (neB z)).length = 0 := by rw [neB_filter hm]; omega
    rw [e1] at hk
    obtain rfl : r = 15 := by rw [← HR.out, if_neg (fun hh => hm (HM.out.1 hh))]
    clear e1 hm
    go_wp2_with fail
    refine hk.mono ?_
    rintro e w4 ⟨rfl, hq4, hf4⟩
    have h5 := h3'.chan hlt hf4 hq4 HZ.out
    clear hk
    go_wp2_with fail
    go_ret
    exact ⟨rfl, h5, ((F1.mono (fun _ _ h => h.elim)).trans hV (fun _ _ h => h.elim)).trans hf4 (fun k _ e => ⟨d, hlt, e⟩)⟩

theorem pair_none (h : PoolAt base w p Dn Zn S B P O l qb qc C) (h0 : pairsP Dn C = 0) : Calls Try.prog 51 #[.pointer (some ⟨p, 0, none⟩)] w fun e w' => e = .returned (.tuple #[.int .i64 0, .int .i64 0, .int .i64 15]) ∧ Fr (fun _ => False) w w' := by
  have hp := pairs_calls h
  rw [h0] at hp
  clear h0
  go_enter Try.func51, Try.ntmps51
  go_wp2_with fail
  refine hp.mono ?_
  rintro e w1 ⟨rfl, hf⟩
  clear hp
  go_wp2
  go_ret3
  exact ⟨rfl, hf⟩
set_option maxHeartbeats 1000000 in
theorem pair_some (h : PoolAt base w p Dn Zn S B P O l qb qc C) (h0 : pairsP Dn C ≠ 0) {a b : Nat} (ha : a < Dn) (hb : b < Dn) (hab : b ≠ a) (hfa : fullP C (-1) Dn = a) (hfb : fullP C a Dn = b) {x y : Int} {ta tb : List Int} (hca : C a = x :: ta) (hcb : C b = y :: tb) :
    Calls Try.prog 51 #[.pointer (some ⟨p, 0, none⟩)] w fun e w' => e = .returned (.tuple #[.int .i64 x, .int .i64 y, .int .i64 0]) ∧ PoolAt base w' p Dn Zn S B P O l qb qc (setC (setC C a ta) b tb) ∧ Fr (Chs Dn qc) w w' := by
  have hp := pairs_calls h
  obtain ⟨n, hn⟩ : ∃ n, pairsP Dn C = n := ⟨_, rfl⟩
  rw [hn] at hp h0
  have hb0 : (n == 0) = false := by simpa using h0
  have HP := Lib.hid hp
  have HA := Lib.hid hfa
  have HB := Lib.hid hfb
  have HCA := Lib.hid hca
  have HCB := Lib.hid hcb
  clear hn hp hfa hfb hca hcb h0
  go_enter Try.func51, Try.ntmps51
  go_wp2_with fail
  refine HP.out.mono ?_
  rintro e w1 ⟨rfl, f1⟩
  have h1 := h.fr0 f1
  have c1 := fullest_calls h1 (-1)
  rw [HA.out] at c1
  go_wp2_with fail
  refine c1.mono ?_
  rintro e w2 ⟨rfl, f2⟩
  clear c1
  have h2 := h1.fr0 f2
  have c2 := fullest_calls h2 (a : Int)
  rw [HB.out] at c2
  go_wp2_with fail
  refine c2.mono ?_
  rintro e w3 ⟨rfl, f3⟩
  clear c2
  have h3 := h2.fr0 f3
  have c3 := take_some h3 a ha HCA.out
  go_wp2_with fail
  refine c3.mono ?_
  rintro e w4 ⟨rfl, h4, f4⟩
  clear c3
  have c4 := take_some h4 b hb (x := y) (t := tb) (by rw [setC_other _ _ hab]; exact HCB.out)
  go_wp2_with fail
  refine c4.mono ?_
  rintro e w5 ⟨rfl, h5, f5⟩
  clear c4
  go_wp2
  go_ret3
  exact ⟨rfl, h5, ((((f1.mono (fun _ _ h => h.elim)).trans f2 (fun _ _ h => h.elim)).trans f3 (fun _ _ h => h.elim)).trans f4 (fun k _ e => ⟨a, ha, e⟩)).trans f5 (fun k _ e => ⟨b, hb, e⟩)⟩
end
end Go.Proofs.Ytcdblopnaimfoaa

/- A new pool. No condition. -/
namespace Go.Proofs.Ytcdblopnaimfoaa
open Go.RowKit Go.Conc

theorem info33 : (Try.prog.info? 33).map (fun i => (i.zero, i.size, i.bytes)) = some (some (.pointer none), 1, 8) := by kernel_rfl
theorem wpList_appP {ops : Array Oper} {rest : List Oper} {o : Oper} {a : Act} {Q : Exit → Act → World → Prop} {w : World} {base : Nat} {v x : Value} {n : Nat} {xs : List Value} {e : Value} (hgd : o.guard = none) (s y : Operand)
    (ho : o.op = .call { callee := .builtin .append, args := #[s, y], argTypes := #[96, 96] }) (hty : o.type = 96) (hs : a.eval s = v) (hy : a.eval y = x)
    (hown : w.ownsRow base 33 1 v n xs) {g : Nat} (hx : x = .slice (some ⟨g, 0, none⟩) 1 1) (hc : w.cell? ⟨g, 0, none⟩ = some e) (h1 : e.oneCell' = true) (hn : n < 1000) (hb : base ≤ w.heap.size)
    (h : ∀ a1 c1 w', w'.ownsRow base 33 1 (.slice a1 (n + 1) c1) (n + 1) (xs ++ [e]) → w.grownBy w' v.ownBlock → ((Value.slice a1 (n + 1) c1).ownBlock = v.ownBlock ∨ (Value.slice a1 (n + 1) c1).ownBlock = some w.heap.size) → wpList Try.prog ops Q rest (a.put o.dst (.slice a1 (n + 1) c1)) w') :
    wpList Try.prog ops Q (o :: rest) a w := by
  refine wpList_plain hgd fun _ hK => ?_
  obtain ⟨i0, hi, hz0, hz1, hz2⟩ := info_parts info33
  subst hx
  have hnews : ∀ j u, ([e] : List Value)[j]? = some u → w.cell? ((⟨g, 0, none⟩ : Addr).add j) = some u := by
    intro j u hu
    obtain ⟨hj, rfl⟩ := List.getElem?_eq_some_iff.1 hu
    have : j = 0 := by simp at hj; omega
    subst this
    simpa [Addr.add] using hc
  obtain ⟨v', w', hr, h2, h3, h4, h5⟩ := run_append_own_at (P := Try.prog) w base 96 96 33 i0 (.pointer none) 1 8 Try.underlying96 hi hz0 hz1 hz2 rfl (by decide) v n xs hown ⟨g, 0, none⟩ 1 1 [e] (by simp) hnews (by intro u hu; simp at hu; subst hu; exact h1) (by unfold maxLen; omega) (by omega) hb
  obtain ⟨a1, c1, rfl⟩ := row_val h2
  unfold Oper.wp execOp
  simp only [ho, hty, resolve, invoke, builtin, Sem.run_bind, Sem.run_pure, Result.andThen_ok, List.map_toArray, List.map_cons, List.map_nil, hs, hy, hr]
  exact hK _ _ (h a1 c1 w' h2 h3 h5)

set_option linter.unusedSimpArgs false in
set_option maxRecDepth 100000 in
set_option maxHeartbeats 4000000 in
theorem newP_ok {Dn Zn : Nat} {S B P O : Int} (hS : Small Dn Zn S B P O) (hr : rightB Dn Zn S B P O = true) (w : World) : Calls Try.prog 54 #[.agg #[.int .i64 Dn, .int .i64 Zn, .int .i64 S, .int .i64 B, .int .i64 P, .int .i64 O]] w fun e w' =>
    ∃ p l qb qc, e = .returned (.tuple #[.pointer (some ⟨p, 0, none⟩), .int .i64 0]) ∧ PoolAt w.heap.size w' p Dn Zn S B P O l qb qc (fun _ => []) ∧ Below w.heap.size w w' := by
  have hR := fun V => PGeomRight.geom_Geom_Right.calls Dn Zn S B P O true V (by rw [right_eq, hr])
  have hdz : 3 ≤ Dn ∧ Dn ≤ 8 ∧ 1 ≤ Zn ∧ Zn ≤ 64 := by have := hS.d0; have := hS.d1; have := hS.z0; have := hS.z1; omega
  have HR := Lib.hid hR
  clear hR hr
  have F1 := (Fr.refl (fun _ => False) w).alloc (.cells #[.int .i64 Dn, .int .i64 Zn, .int .i64 S, .int .i64 B, .int .i64 P, .int .i64 O] 42)
  have g1 := blk_new w (.cells #[.int .i64 Dn, .int .i64 Zn, .int .i64 S, .int .i64 B, .int .i64 P, .int .i64 O] 42)
  have hs1 : (w.alloc (.cells #[.int .i64 Dn, .int .i64 Zn, .int .i64 S, .int .i64 B, .int .i64 P, .int .i64 O] 42)).heap.size = w.heap.size + 1 := by simp
  have c1 := fun i => blk_cell g1 i
  go_enter Try.func54, Try.ntmps54
  go_wp2_with fail
  refine (HR.out _).mono ?_
  rintro e w2 ⟨rfl, hb⟩
  have F2 := F1.trans (Fr.of_below (S := fun _ => False) hb) (fun _ _ h => h)
  have g2 := (Fr.of_below (S := fun _ => False) hb).heap g1 id
  have hs2 : w.heap.size + 1 ≤ w2.heap.size := by have := hb.size; omega
  clear F1 g1 hs1 c1 hb HR
  have c2 := fun i => blk_cell g2 i
  have F3 := F2.alloc (.cells #[.int .i64 Dn, .int .i64 Zn, .int .i64 S, .int .i64 B, .int .i64 P, .int .i64 O, .slice none 0 0] 98)
  have g3 := blk_new w2 (.cells #[.int .i64 Dn, .int .i64 Zn, .int .i64 S, .int .i64 B, .int .i64 P, .int .i64 O, .slice none 0 0] 98)
  have g2' := blk_alloc g2 (.cells #[.int .i64 Dn, .int .i64 Zn, .int .i64 S, .int .i64 B, .int .i64 P, .int .i64 O, .slice none 0 0] 98)
  have c2' := fun i => blk_cell g2' i
  obtain ⟨p, hp⟩ : ∃ p, w2.heap.size = p := ⟨_, rfl⟩
  go_wp2_with fail
  try rw [hp]
  rw [hp] at g3 hs2
  generalize w2.alloc (.cells #[.int .i64 Dn, .int .i64 Zn, .int .i64 S, .int .i64 B, .int .i64 P, .int .i64 O, .slice none 0 0] 98) = w3 at F3 g3 g2' ⊢
  have hp3 : p < w3.heap.size := blk_lt g3
  clear g2 c2 c2' F2 hp w2
  go_loopw [15] (fun i W => ∃ (k : Nat) (u : Value) (qb qc : Nat → Nat), k ≤ Dn ∧ i = .int .i64 k ∧ W.heap[p]? = some (.cells #[.int .i64 Dn, .int .i64 Zn, .int .i64 S, .int .i64 B, .int .i64 P, .int .i64 O, u] 98 (0, 0)) ∧
      W.ownsRow w.heap.size 33 1 u k ((List.range k).map fun d => .pointer (some ⟨qb d, 0, none⟩)) ∧ (∀ d, d < k → QAt 92 W (qb d) (qc d) Zn (ints [])) ∧ (∀ d e, d < k → e < k → qc d = qc e → d = e) ∧ (∀ d, d < k → w.heap.size ≤ qb d ∧ w.heap.size ≤ qc d) ∧
      W.heap[w.heap.size]? = some (.cells #[.int .i64 Dn, .int .i64 Zn, .int .i64 S, .int .i64 B, .int .i64 P, .int .i64 O] 42 (0, 0)) ∧ Below w.heap.size w W) (fun i _ => Dn - (intOf i).toNat)
  case atStart => exact ⟨0, _, fun _ => 0, fun _ => 0, by omega, rfl, g3, World.ownsRow_nil _ _ _ _, by intro d hd; omega, by intro d e hd; omega, by intro d hd; omega, g2', F3.below (Nat.le_refl _) (fun _ _ h => h)⟩
  case round =>
    clear g3 g2' F3 hp3
    obtain ⟨k, u, qb, qc, hk, rfl, gp, hrow, hq, hinj, hbq, gg, hb⟩ := hrel
    obtain ⟨au, cu, rfl⟩ := row_val hrow
    have cg := fun i => blk_cell gg i
    have cp := fun i => blk_cell gp i
    have HQ := Lib.hid hq
    have HI := Lib.hid hinj
    have HB := Lib.hid hbq
    clear hq hinj hbq
    by_cases hlt : k < Dn
    · go_wp2_with fail
      refine (newI_ok (Zn : Int) (by omega) (by omega) _).mono ?_
      rintro e w4 ⟨rfl, hqn, hb4, hsz4⟩
      rw [Int.toNat_natCast] at hqn
      clear hsz4
      have f4 := Fr.of_below (S := fun _ => False) hb4
      have gp4 := f4.heap gp id
      have gg4 := f4.heap gg id
      have hrow4 := row_fr hrow f4 (fun _ _ => id)
      have cp4 := fun i => blk_cell gp4 i
      have hsw := hb.size
      have hsz := hb4.size
      clear cg cp
      have gpn : ∀ o i, (w4.alloc o).cell? ⟨p, i, none⟩ = (#[.int .i64 Dn, .int .i64 Zn, .int .i64 S, .int .i64 B, .int .i64 P, .int .i64 O, .slice au k cu] : Array Value)[i]? := fun o i => blk_cell (blk_alloc gp4 o) i
      go_wp2_with (at_builtin; refine wpList_appP (v := .slice au k cu) rfl (.tmp 30) (.tmp 32) rfl rfl rfl rfl (row_fr hrow4 ((Fr.refl (fun _ => False) w4).alloc _) (fun _ _ => id)) (g := w4.heap.size) (e := .pointer (some ⟨wr.heap.size + 1, 0, none⟩)) rfl (blk_cell (blk_new w4 (.cells #[.pointer (some ⟨wr.heap.size + 1, 0, none⟩)] 33)) 0) rfl (by omega) (by simp; omega) ?_; intro a5 n5 w5 hown5 hgrow5 hat5; have hf5 : Fr (fun j => (Value.slice au k cu).ownBlock = some j) (w4.alloc (.cells #[.pointer (some ⟨wr.heap.size + 1, 0, none⟩)] 33)) w5 := Fr.grown hgrow5 (fun k hk => hk); have gp5 := hf5.heap (blk_alloc gp4 _) (fun e => by obtain ⟨cur, hc⟩ := row_obj hrow4 e; rw [gp4] at hc; cases hc); have cp5 := fun i => blk_cell gp5 i; have fp5 := fun i => blk_frozen gp5 i)
      have hf45 : Fr (fun j => (Value.slice au k cu).ownBlock = some j) w4 w5 := ((Fr.refl _ w4).alloc _).trans hf5 (fun _ _ h => h)
      have hne : ∀ (k2 : Nat) (cs : Array Value) (ty : TypeId), w4.heap[k2]? = some (.cells cs ty (0, 0)) → ty ≠ 33 → (Value.slice au k cu).ownBlock ≠ some k2 := fun k2 cs ty hk2 hty e => by
        obtain ⟨cur, hc⟩ := row_obj hrow4 e
        rw [hk2] at hc; cases hc; exact hty rfl
      have hnc : ∀ (k2 : Nat) cap xs s r, w4.heap[k2]? = some (.chan cap xs false s r false) → (Value.slice au k cu).ownBlock ≠ some k2 := fun k2 cap xs s r hk2 e => by
        obtain ⟨cur, hc⟩ := row_obj hrow4 e
        rw [hk2] at hc; cases hc
      have gg5 := hf45.heap gg4 (hne _ _ _ gg4 (by decide))
      have F6 := Fr.set1 w5 p 6 (.slice a5 (k + 1) n5)
      have gp6 := blk_put gp5 6 (.slice a5 (k + 1) n5)
      have gg6 := F6.heap gg5 (by omega)
      have hrow6 := row_fr hown5 F6 (fun j hj e => by obtain ⟨cur, hc⟩ := row_obj hown5 hj; rw [e, gp5] at hc; cases hc)
      have hqs : ∀ bq cq : Nat, QAt 92 w4 bq cq Zn (ints []) → QAt 92 (w5.setCell ⟨p, 6, none⟩ (.slice a5 (k + 1) n5)) bq cq Zn (ints []) := fun bq cq hq => by
        obtain ⟨e1, s, r, e2⟩ := hq
        refine QAt.fr (QAt.fr ⟨e1, s, r, e2⟩ hf45 (hne _ _ _ e1 (by decide)) (hnc _ _ _ _ _ e2)) F6 (fun e => ?_) (fun e => ?_)
        · rw [e, gp4] at e1; cases e1
        · rw [e, gp4] at e2; cases e2
      have hb6 : Below w.heap.size w (w5.setCell ⟨p, 6, none⟩ (.slice a5 (k + 1) n5)) := ((hb.trans (hb4.mono hsw)).trans (hf45.below (by omega) (fun i hi e => by have := (hrow4.lt i e).1; omega))).trans (F6.below (by have := hf45.size; omega) (fun i hi e => by omega))
      generalize hw6 : w5.setCell ⟨p, 6, none⟩ (.slice a5 (k + 1) n5) = w6 at gp6 gg6 hrow6 hqs hb6 F6 ⊢
      have HW := Lib.hid hw6
      have HQS := Lib.hid hqs
      clear hw6 hqs gp5 cp5 fp5 gg5 hown5 hgrow5 hat5 hf5 hf45 gp4 cp4 gg4 hrow4 gpn hne hnc
      have hg6 : w6.heap[p]? = some (.cells #[.int .i64 Dn, .int .i64 Zn, .int .i64 S, .int .i64 B, .int .i64 P, .int .i64 O, .slice a5 (k + 1) n5] 98 (0, 0)) := by simpa using gp6
      clear gp6
      go_roundw
      case rel =>
        refine ⟨k + 1, .slice a5 (k + 1) n5, fun d => if d = k then wr.heap.size + 1 else qb d, fun d => if d = k then wr.heap.size else qc d, by omega, by go_num, hg6, ?_, ?_, ?_, ?_, gg6, hb6⟩
        · have e9 : (List.range (k + 1)).map (fun d => Value.pointer (some ⟨if d = k then wr.heap.size + 1 else qb d, 0, none⟩)) = (List.range k).map (fun d => Value.pointer (some ⟨qb d, 0, none⟩)) ++ [.pointer (some ⟨wr.heap.size + 1, 0, none⟩)] := by
            rw [List.range_succ, List.map_append]
            congr 1
            · apply List.map_congr_left
              intro d hd
              rw [if_neg (by have := List.mem_range.1 hd; omega)]
            · simp
          rw [e9]; exact hrow6
        · intro d hd
          by_cases e : d = k
          · simp only [e, if_true]
            exact HQS.out _ _ hqn
          · simp only [e, if_false]
            exact HQS.out _ _ ((HQ.out d (by omega)).fr f4 id id)
        · intro d e hd he
          have hd2 : d < k → qc d < wr.heap.size := fun h => (HQ.out d h).cl
          have he2 : e < k → qc e < wr.heap.size := fun h => (HQ.out e h).cl
          by_cases e1 : d = k
          · by_cases e2 : e = k
            · intro _; omega
            · simp only [e1, e2, if_true, if_false]
              intro h; have := he2 (by omega); omega
          · by_cases e2 : e = k
            · simp only [e1, e2, if_true, if_false]
              intro h; have := hd2 (by omega); omega
            · simp only [e1, e2, if_false]
              exact HI.out d e (by omega) (by omega)
        · intro d hd
          by_cases e : d = k
          · simp only [e, if_true]; omega
          · simp only [e, if_false]; exact HB.out d (by omega)
      case measure => simp [intOf]; omega
    · obtain rfl : k = Dn := by omega
      go_wp2
      go_ret2
      exact ⟨p, _, qb, qc, rfl, ⟨hS, gp, hrow, HQ.out, HI.out, fun d hd => ⟨List.nodup_nil, by simp⟩, by omega, HB.out⟩, hb⟩
theorem newP_no {D Z S B P O : Int} (hr : rightB D Z S B P O = false) (w : World) : Calls Try.prog 54 #[.agg #[.int .i64 D, .int .i64 Z, .int .i64 S, .int .i64 B, .int .i64 P, .int .i64 O]] w fun e w' =>
    e = .returned (.tuple #[.pointer none, .int .i64 20]) ∧ Fr (fun _ => False) w w' := by
  have hR := fun V => PGeomRight.geom_Geom_Right.calls D Z S B P O false V (by rw [right_eq, hr])
  have HR := Lib.hid hR
  clear hR hr
  go_enter Try.func54, Try.ntmps54
  go_wp2_with fail
  refine (HR.out _).mono ?_
  rintro e w2 ⟨rfl, hb⟩
  have F2 := ((Fr.refl (fun _ => False) w).alloc (.cells #[.int .i64 D, .int .i64 Z, .int .i64 S, .int .i64 B, .int .i64 P, .int .i64 O] 42)).trans (Fr.of_below (S := fun _ => False) hb) (fun _ _ h => h)
  go_wp2
  go_ret2
  exact ⟨rfl, F2⟩
end Go.Proofs.Ytcdblopnaimfoaa

/- The document's example of a pool; both at their beginnings. No condition. -/
namespace Go.Proofs.Ytcdblopnaimfoaa
open Go.RowKit Go.Conc

def Cno : Nat → List Int := fun _ => []
theorem pool_below {base : Nat} {w0 w w' : World} {p Dn Zn : Nat} {S B P O : Int} {l : Value} {qb qc : Nat → Nat} {C : Nat → List Int} (h : PoolAt base w p Dn Zn S B P O l qb qc C) (hb : Below base w0 w) (hs : base ≤ w.heap.size) (hf : Fr (Chs Dn qc) w w') : Below base w0 w' :=
  hb.trans (hf.below hs (fun i hi hk => by obtain ⟨d, hd, rfl⟩ := hk; have := (h.bq d hd).2; omega))
set_option maxHeartbeats 1000000 in
theorem anchor10 (w : World) : Calls Try.prog 45 #[] w fun e w' => e = .returned (.bool true) ∧ Below w.heap.size w w' := by
  have hsm : Small ((3 : Nat) : Int) ((8 : Nat) : Int) 8 1 0 4 := ⟨by decide, by decide, by decide, by decide, by decide, by decide, by decide, by decide, by decide, by decide, by decide, by decide⟩
  have hnew := newP_ok hsm (rightB_iff.2 ⟨hsm, by decide +kernel, by decide +kernel⟩) w
  rw [show ((3 : Nat) : Int) = 3 from rfl, show ((8 : Nat) : Int) = 8 from rfl] at hnew
  go_enter Try.func45, Try.ntmps45
  go_wp2_with fail
  refine hnew.mono ?_
  rintro e w1 ⟨p, l, qb, qc, rfl, h1, b1⟩
  clear hnew
  have hs1 := b1.size
  go_wp2_with fail
  refine (give_ok h1 (z := 0) (d := 0) (by decide) (by decide) (by decide) (by decide) (by decide)).mono ?_
  rintro e w2 ⟨rfl, h2, f2⟩
  have b2 := pool_below h1 b1 hs1 f2
  clear h1 b1 f2
  go_wp2_with fail
  refine (give_ok h2 (z := 1) (d := 0) (by decide) (by decide) (by decide) (by decide) (by decide)).mono ?_
  rintro e w3 ⟨rfl, h3, f3⟩
  have b3 := pool_below h2 b2 b2.size f3
  clear h2 b2 f3
  go_wp2_with fail
  refine (give_ok h3 (z := 8) (d := 1) (by decide) (by decide) (by decide) (by decide) (by decide)).mono ?_
  rintro e w4 ⟨rfl, h4, f4⟩
  have b4 := pool_below h3 b3 b3.size f4
  clear h3 b3 f4
  have hp := pairs_calls h4
  have e1 : pairsP 3 (setC (setC (setC (fun _ => []) 0 ((fun _ => []) 0 ++ [0])) 0 (setC (fun _ => []) 0 ((fun _ => []) 0 ++ [0]) 0 ++ [1])) 1 (setC (setC (fun _ => []) 0 ((fun _ => []) 0 ++ [0])) 0 (setC (fun _ => []) 0 ((fun _ => []) 0 ++ [0]) 0 ++ [1]) 1 ++ [8])) = 1 := by decide +kernel
  rw [e1] at hp
  have hc := fun V (hV : Fr (fun _ => False) w4 V) => count_calls (h4.fr0 hV) 0
  have e2 : cntP 3 (setC (setC (setC (fun _ => []) 0 ((fun _ => []) 0 ++ [0])) 0 (setC (fun _ => []) 0 ((fun _ => []) 0 ++ [0]) 0 ++ [1])) 1 (setC (setC (fun _ => []) 0 ((fun _ => []) 0 ++ [0])) 0 (setC (fun _ => []) 0 ((fun _ => []) 0 ++ [0]) 0 ++ [1]) 1 ++ [8])) 0 = 2 := by decide +kernel
  rw [e2] at hc
  have HC := Lib.hid hc
  clear e1 e2 hc h4
  go_wp2_with fail
  refine hp.mono ?_
  rintro e w5 ⟨rfl, f5⟩
  have hc := HC.out w5 f5
  clear hp
  go_wp2_with fail
  refine hc.mono ?_
  rintro e w6 ⟨rfl, rfl⟩
  go_wp2
  go_ret
  exact ⟨rfl, b4.trans (f5.below b4.size (fun _ _ => id))⟩

theorem resC46 {tmps : Array Value} {w : World} {b : Nat} {v u c0 c1 c2 : Value} (h0 : tmps.getD 2 undef = v) (h1 : tmps.getD 3 undef = .pointer (some ⟨b, 0, none⟩)) (h3 : tmps.getD 4 undef = u) (h2 : w.heap[b]? = some (.cells #[c0, c1, c2] 70 (0, 0))) :
    (results Try.f46 tmps).run Try.prog w = .ok (.tuple #[v, .agg #[c0, c1, c2], u]) w := by
  have c := fun i => blk_cell h2 i
  rw [Array.getD_eq_getD_getElem?] at h0 h1 h3
  simp [results, Try.f46, go_sem, h0, h1, h3, c]
/-- On the way through a statement that lays an answer. -/
def Sres (W : World) (t : Nat) (i : Nat) (o : Obj) (d : Nat → Bool) (V : World) : Prop := Fr (fun k => d i = true ∧ k = t) W V ∧ (d i = true → V.heap[t]? = some o)
theorem Sres.start (W : World) (t i : Nat) (o : Obj) : Sres W t i o (fun _ => false) W := ⟨Fr.refl _ _, by simp⟩
theorem Sres.keep {W : World} {t i j : Nat} {o : Obj} {d : Nat → Bool} {V : World} (h : Sres W t i o d V) (hj : j ≠ i) : Sres W t i o (more d j) V := by
  refine ⟨h.1.mono (fun k _ hk => ⟨by rw [more_other _ (Ne.symm hj)]; exact hk.1, hk.2⟩), fun hd => h.2 (by rwa [more_other _ (Ne.symm hj)] at hd)⟩
theorem Sres.fr {W : World} {t i : Nat} {o : Obj} {d : Nat → Bool} {V V' : World} (h : Sres W t i o d V) (hf : Fr (fun _ => False) V V') : Sres W t i o d V' :=
  ⟨h.1.trans hf (fun _ _ h => h.elim), fun hd => hf.heap (h.2 hd) id⟩
theorem Sres.put {W : World} {t i : Nat} {o : Obj} {d : Nat → Bool} {V V' : World} (h : Sres W t i o d V) (hf : Fr (fun k => k = t) V V') (ho : V'.heap[t]? = some o) : Sres W t i o (more d i) V' :=
  ⟨(h.1.mono (S' := fun k => more d i i = true ∧ k = t) (fun _ _ hk => ⟨more_same _ _, hk.2⟩)).trans hf (fun _ _ hk => ⟨more_same _ _, hk⟩), fun _ => ho⟩
theorem put3 {W : World} {t : Nat} {d0 d1 d2 : Value} {T : TypeId} (h : W.heap[t]? = some (.cells #[d0, d1, d2] T (0, 0))) (c0 c1 c2 : Value) :
    (((W.setCell ⟨t, 0, none⟩ c0).setCell ⟨t, 1, none⟩ c1).setCell ⟨t, 2, none⟩ c2).heap[t]? = some (.cells #[c0, c1, c2] T (0, 0)) := by
  have := blk_put (blk_put (blk_put h 0 c0) 1 c1) 2 c2
  simpa using this
theorem put3_fr (W : World) (t : Nat) (c0 c1 c2 : Value) : Fr (fun k => k = t) W (((W.setCell ⟨t, 0, none⟩ c0).setCell ⟨t, 1, none⟩ c1).setCell ⟨t, 2, none⟩ c2) :=
  (((Fr.refl (fun k => k = t) W).setCell (.inl rfl) _).setCell (.inl rfl) _).setCell (.inl rfl) _

set_option linter.unusedSimpArgs false in
set_option maxRecDepth 100000 in
set_option maxHeartbeats 2000000 in
theorem started_ok {Dn Zn : Nat} {S B P O : Int} (hS : Small Dn Zn S B P O) (hr : rightB Dn Zn S B P O = true) (w : World) : Calls Try.prog 46 #[.agg #[.int .i64 Dn, .int .i64 Zn, .int .i64 S, .int .i64 B, .int .i64 P, .int .i64 O]] w fun e w' =>
    ∃ p l qb qc, e = .returned (.tuple #[.pointer (some ⟨p, 0, none⟩), .agg #[.int .i64 Dn, .int .i64 Zn, .slice none 0 0], .bool true]) ∧ PoolAt w.heap.size w' p Dn Zn S B P O l qb qc (fun _ => []) ∧ Below w.heap.size w w' := by
  have hN := fun V => newP_ok hS hr V
  have hR := fun V => PGeomRight.revetmentref05_G_Right.calls 1000 Dn Zn S B P O true V (by rw [refRight_eq 1000 (by omega), hr])
  have HN := Lib.hid hN
  have HR := Lib.hid hR
  clear hN hR hr
  have F1 := ((Fr.refl (fun _ => False) w).alloc (.cells #[.int .i64 Dn, .int .i64 Zn, .int .i64 S, .int .i64 B, .int .i64 P, .int .i64 O] 42)).alloc (.cells #[.int .i64 0, .int .i64 0, .slice none 0 0] 70)
  have g1 := blk_alloc (blk_new w (.cells #[.int .i64 Dn, .int .i64 Zn, .int .i64 S, .int .i64 B, .int .i64 P, .int .i64 O] 42)) (.cells #[.int .i64 0, .int .i64 0, .slice none 0 0] 70)
  have g2 := blk_new (w.alloc (.cells #[.int .i64 Dn, .int .i64 Zn, .int .i64 S, .int .i64 B, .int .i64 P, .int .i64 O] 42)) (.cells #[.int .i64 0, .int .i64 0, .slice none 0 0] 70)
  have hs1 : ((w.alloc (.cells #[.int .i64 Dn, .int .i64 Zn, .int .i64 S, .int .i64 B, .int .i64 P, .int .i64 O] 42)).alloc (.cells #[.int .i64 0, .int .i64 0, .slice none 0 0] 70)).heap.size = w.heap.size + 2 := by simp
  rw [World.size_alloc] at g2
  have c1 := fun i => blk_cell g1 i
  have b1 : Below w.heap.size w ((w.alloc (.cells #[.int .i64 Dn, .int .i64 Zn, .int .i64 S, .int .i64 B, .int .i64 P, .int .i64 O] 42)).alloc (.cells #[.int .i64 0, .int .i64 0, .slice none 0 0] 70)) := F1.below (Nat.le_refl _) (fun _ _ => id)
  go_enter Try.func46, Try.ntmps46
  go_wp2_with fail
  generalize (w.alloc (.cells #[.int .i64 Dn, .int .i64 Zn, .int .i64 S, .int .i64 B, .int .i64 P, .int .i64 O] 42)).alloc (.cells #[.int .i64 0, .int .i64 0, .slice none 0 0] 70) = w1 at F1 g1 g2 hs1 c1 b1 ⊢
  refine (HN.out w1).mono ?_
  rintro e w2 ⟨p, l, qb, qc, rfl, h2, b2⟩
  have f2 := Fr.of_below (S := fun _ => False) b2
  have g12 := f2.heap g1 id
  have g22 := f2.heap g2 id
  have hs2 := b2.size
  clear c1
  have c1 := fun i => blk_cell g12 i
  go_wp2_with fail
  refine (HR.out w2).mono ?_
  rintro e w3 ⟨rfl, b3⟩
  have f3 := Fr.of_below (S := fun _ => False) b3
  have g13 := f3.heap g12 id
  have g23 := f3.heap g22 id
  have h3 := h2.fr0 f3
  have bb : Below w.heap.size w w3 := (b1.trans (b2.mono (by omega))).trans (b3.mono (by omega))
  clear c1 g1 g2 g12 g22 F1 f2 h2 b1 b2
  go_wp2_with fail
  refine (wpIn_wide (n := 0)).1 ?_
  refine regionIn_seq (Sres w3 (w.heap.size + 1) 7 (.cells #[.int .i64 Dn, .int .i64 Zn, .slice none 0 0] 70 (0, 0))) rfl (by kernel_rfl) (by kernel_rfl) (by kernel_rfl) (fun _ => trivial) rfl ((Sres.start _ _ _ _).fr (Fr.refl _ _).drew) ?_
  iterate 7
    apply SeqR.step
    · rfl
    · intro d V hV ht
      have c1 := fun i => blk_cell (hV.1.heap g13 (by rintro ⟨_, e⟩; omega)) i
      simp [Oper.gives, execOp, Act.eval, go_sem, c1]
      exact ⟨rfl, hV.keep (by decide)⟩
    simp only [Act.put, List.setIfInBounds_toArray, List.set_cons_succ, List.set_cons_zero]
  apply SeqR.step
  · rfl
  · intro d V hV ht
    have n7 : d 7 = false := ht.not
    have hVF : Fr (fun _ => False) w3 V := hV.1.mono (fun _ _ hk => by rw [n7] at hk; cases hk.1)
    have kV := hVF.heap g23 id
    have c1 := fun i => blk_cell kV i
    have c2 := fun i => blk_frozen kV i
    simp [Oper.gives, execOp, Act.eval, go_sem, c1, c2]
    exact ⟨rfl, hV.put (put3_fr _ _ _ _ _) (put3 kV _ _ _)⟩
  simp only [Act.put, List.setIfInBounds_toArray, List.set_cons_succ, List.set_cons_zero]
  apply SeqR.step
  · rfl
  · intro d V hV ht
    simp [Oper.gives, execOp, Act.eval, go_sem]
    exact ⟨rfl, hV.keep (by decide)⟩
  simp only [Act.put, List.setIfInBounds_toArray, List.set_cons_succ, List.set_cons_zero]
  refine SeqR.nil fun V hV => ?_
  go_wp2_with fail
  have hVF : Fr (fun k => k = w.heap.size + 1) w3 V := hV.1.mono (fun _ _ hk => hk.2)
  have hpool : PoolAt w.heap.size V p Dn Zn S B P O l qb qc (fun _ => []) := by
    have := h3.fr hVF (fun k hk e => by have := (h3.lt hk).1; omega)
    exact ⟨this.sm, this.pc, row_base this.row (by omega), this.q, this.inj, this.zn, by have := this.bp; omega, fun d hd => by have := this.bq d hd; omega⟩
  exact bodyPost_ret (resC46 rfl rfl rfl (hV.2 rfl)) rfl ⟨p, l, qb, qc, rfl, hpool, bb.trans (hVF.below bb.size (fun i hi e => by omega))⟩
theorem started_no {D Z S B P O : Int} (hr : rightB D Z S B P O = false) (w : World) : Calls Try.prog 46 #[.agg #[.int .i64 D, .int .i64 Z, .int .i64 S, .int .i64 B, .int .i64 P, .int .i64 O]] w fun e w' =>
    e = .returned (.tuple #[.pointer none, .agg #[.int .i64 0, .int .i64 0, .slice none 0 0], .bool false]) ∧ Fr (fun _ => False) w w' := by
  have hN := fun V => newP_no hr V
  have HN := Lib.hid hN
  clear hN hr
  have F1 := ((Fr.refl (fun _ => False) w).alloc (.cells #[.int .i64 D, .int .i64 Z, .int .i64 S, .int .i64 B, .int .i64 P, .int .i64 O] 42)).alloc (.cells #[.int .i64 0, .int .i64 0, .slice none 0 0] 70)
  have g2 := blk_new (w.alloc (.cells #[.int .i64 D, .int .i64 Z, .int .i64 S, .int .i64 B, .int .i64 P, .int .i64 O] 42)) (.cells #[.int .i64 0, .int .i64 0, .slice none 0 0] 70)
  rw [World.size_alloc] at g2
  have hs1 : ((w.alloc (.cells #[.int .i64 D, .int .i64 Z, .int .i64 S, .int .i64 B, .int .i64 P, .int .i64 O] 42)).alloc (.cells #[.int .i64 0, .int .i64 0, .slice none 0 0] 70)).heap.size = w.heap.size + 2 := by simp
  go_enter Try.func46, Try.ntmps46
  go_wp2_with fail
  generalize (w.alloc (.cells #[.int .i64 D, .int .i64 Z, .int .i64 S, .int .i64 B, .int .i64 P, .int .i64 O] 42)).alloc (.cells #[.int .i64 0, .int .i64 0, .slice none 0 0] 70) = w1 at F1 g2 hs1 ⊢
  refine (HN.out w1).mono ?_
  rintro e w2 ⟨rfl, f2⟩
  have g22 := f2.heap g2 id
  have c2 := fun i => blk_cell g22 i
  have e2 := fun i => blk_frozen g22 i
  go_wp2_with fail
  have F3 := put3_fr w2 (w.heap.size + 1) (.int .i64 0) (.int .i64 0) (.slice none 0 0)
  exact bodyPost_ret (resC46 rfl rfl rfl (put3 g22 _ _ _)) rfl ⟨rfl, (F1.trans f2 (fun _ _ h => h)).trans F3 (fun i hi e => by omega)⟩
end Go.Proofs.Ytcdblopnaimfoaa

/- A pool's memory, and what its functions that read do: Count, fullest, Pairs; Take. Conditions: the geometry is small. -/
import Derived.Test.YtcdblopnaimfoaaQc
import Derived.Test.YtcdblopnaimfoaaGi
namespace Go.Proofs.Ytcdblopnaimfoaa
open Go.RowKit Go.Conc

/-- The zones of a domain: no two alike, all of the domain. -/
def ZonesOf (Zn d : Nat) (L : List Int) : Prop := L.Nodup ∧ ∀ z ∈ L, (d : Int) * Zn ≤ z ∧ z < ((d : Int) + 1) * Zn
theorem nodup_len : ∀ (n : Nat) (a : Int) (l : List Int), l.Nodup → (∀ z ∈ l, a ≤ z ∧ z < a + n) → l.length ≤ n
  | 0, a, l, _, h => by
    cases l with
    | nil => simp
    | cons x t => have := h x (by simp); omega
  | n + 1, a, l, hn, h => by
    by_cases hm : (a + n) ∈ l
    · have h1 := nodup_len n a (l.erase (a + n)) (hn.erase _) (fun z hz => by
        have h2 := (hn.mem_erase_iff).1 hz
        have h3 := h z h2.2
        have := h2.1
        push_cast at h3
        omega)
      rw [List.length_erase_of_mem hm] at h1
      omega
    · have h1 := nodup_len n a l hn (fun z hz => by
        have h3 := h z hz
        have : z ≠ a + n := fun e => hm (e ▸ hz)
        push_cast at h3
        omega)
      omega
theorem ZonesOf.len {Zn d : Nat} {L : List Int} (h : ZonesOf Zn d L) : L.length ≤ Zn :=
  nodup_len Zn ((d : Int) * Zn) L h.1 (fun z hz => by
    have := h.2 z hz
    rw [Int.add_mul, Int.one_mul] at this
    exact this)

structure PoolAt (base : Nat) (W : World) (p : Nat) (Dn Zn : Nat) (S B P O : Int) (l : Value) (qb qc : Nat → Nat) (C : Nat → List Int) : Prop where
  sm : Small Dn Zn S B P O
  pc : W.heap[p]? = some (.cells #[.int .i64 Dn, .int .i64 Zn, .int .i64 S, .int .i64 B, .int .i64 P, .int .i64 O, l] 98 (0, 0))
  row : W.ownsRow base 33 1 l Dn ((List.range Dn).map fun d => .pointer (some ⟨qb d, 0, none⟩))
  q : ∀ d, d < Dn → QAt 92 W (qb d) (qc d) Zn (ints (C d))
  inj : ∀ d e, d < Dn → e < Dn → qc d = qc e → d = e
  zn : ∀ d, d < Dn → ZonesOf Zn d (C d)
  bp : base ≤ p
  bq : ∀ d, d < Dn → base ≤ qb d ∧ base ≤ qc d
/-- Its blocks. -/
def PFoot (p Dn : Nat) (l : Value) (qb qc : Nat → Nat) (k : Nat) : Prop := k = p ∨ l.ownBlock = some k ∨ ∃ d, d < Dn ∧ (k = qb d ∨ k = qc d)
def setC (C : Nat → List Int) (d : Nat) (L : List Int) : Nat → List Int := fun e => if e = d then L else C e
theorem setC_same (C : Nat → List Int) (d : Nat) (L : List Int) : setC C d L d = L := if_pos rfl
theorem setC_other (C : Nat → List Int) {d e : Nat} (L : List Int) (h : e ≠ d) : setC C d L e = C e := if_neg h

section
variable {base : Nat} {W W' : World} {p Dn Zn : Nat} {S B P O : Int} {l : Value} {qb qc : Nat → Nat} {C : Nat → List Int} {T : Nat → Prop}
theorem PoolAt.dz (h : PoolAt base W p Dn Zn S B P O l qb qc C) : 3 ≤ Dn ∧ Dn ≤ 8 ∧ 1 ≤ Zn ∧ Zn ≤ 64 := by
  have := h.sm.d0; have := h.sm.d1; have := h.sm.z0; have := h.sm.z1; omega
theorem PoolAt.len (h : PoolAt base W p Dn Zn S B P O l qb qc C) {d : Nat} (hd : d < Dn) : (C d).length ≤ Zn := (h.zn d hd).len
theorem PoolAt.fr (h : PoolAt base W p Dn Zn S B P O l qb qc C) (hf : Fr T W W') (hT : ∀ k, PFoot p Dn l qb qc k → ¬ T k) : PoolAt base W' p Dn Zn S B P O l qb qc C :=
  ⟨h.sm, hf.heap h.pc (hT _ (.inl rfl)), row_fr h.row hf (fun k hk => hT _ (.inr (.inl hk))), fun d hd => (h.q d hd).fr hf (hT _ (.inr (.inr ⟨d, hd, .inl rfl⟩))) (hT _ (.inr (.inr ⟨d, hd, .inr rfl⟩))), h.inj, h.zn, h.bp, h.bq⟩
theorem PoolAt.fr0 (h : PoolAt base W p Dn Zn S B P O l qb qc C) (hf : Fr (fun _ => False) W W') : PoolAt base W' p Dn Zn S B P O l qb qc C := h.fr hf (fun _ _ => id)
theorem PoolAt.lt (h : PoolAt base W p Dn Zn S B P O l qb qc C) {k : Nat} (hk : PFoot p Dn l qb qc k) : base ≤ k ∧ k < W.heap.size := by
  rcases hk with rfl | hk | ⟨d, hd, rfl | rfl⟩
  · exact ⟨h.bp, blk_lt h.pc⟩
  · exact h.row.lt k hk
  · exact ⟨(h.bq d hd).1, (h.q d hd).bl⟩
  · exact ⟨(h.bq d hd).2, (h.q d hd).cl⟩
/-- Where a queue's cell lies. -/
theorem PoolAt.ptr (h : PoolAt base W p Dn Zn S B P O l qb qc C) {d : Nat} (hd : d < Dn) : ∃ g cap, l = .slice (some ⟨g, 0, none⟩) Dn cap ∧ W.cell? ⟨g, d, none⟩ = some (.pointer (some ⟨qb d, 0, none⟩)) := by
  obtain ⟨g, cap, e, hc, -⟩ := row_cell h.row (i := d) (by simpa using hd)
  exact ⟨g, cap, e, by simpa using hc⟩
theorem PoolAt.val (h : PoolAt base W p Dn Zn S B P O l qb qc C) : ∃ g cap, l = .slice (some ⟨g, 0, none⟩) Dn cap ∧ ∀ d, d < Dn → W.cell? ⟨g, d, none⟩ = some (.pointer (some ⟨qb d, 0, none⟩)) := by
  have := h.dz
  obtain ⟨g, cap, rfl, -⟩ := h.ptr (d := 0) (by omega)
  refine ⟨g, cap, rfl, fun d hd => ?_⟩
  obtain ⟨g', cap', e, hc⟩ := h.ptr hd
  cases e
  exact hc
/-- A channel is no other block. -/
theorem PoolAt.cne (h : PoolAt base W p Dn Zn S B P O l qb qc C) {d : Nat} (hd : d < Dn) {k : Nat} {cs : Array Value} {ty : TypeId} {f : Nat × Nat} (hk : W.heap[k]? = some (.cells cs ty f)) : k ≠ qc d := by
  obtain ⟨_, s, r, h4⟩ := h.q d hd
  rintro rfl
  rw [h4] at hk; cases hk
/-- One queue turns. -/
theorem PoolAt.chan (h : PoolAt base W p Dn Zn S B P O l qb qc C) {d : Nat} (hd : d < Dn) (hf : Fr (fun k => k = qc d) W W') {L : List Int} (hq : QAt 92 W' (qb d) (qc d) Zn (ints L)) (hz : ZonesOf Zn d L) : PoolAt base W' p Dn Zn S B P O l qb qc (setC C d L) := by
  refine ⟨h.sm, hf.heap h.pc (h.cne hd h.pc), row_fr h.row hf (fun k hk => ?_), fun e he => ?_, h.inj, fun e he => ?_, h.bp, h.bq⟩
  · obtain ⟨cur, hc⟩ := row_obj h.row hk
    exact h.cne hd hc
  · by_cases e1 : e = d
    · subst e1; rw [setC_same]; exact hq
    · rw [setC_other _ _ e1]
      exact (h.q e he).fr hf (h.cne hd (h.q e he).1) (fun e2 => e1 (h.inj _ _ he hd e2))
  · by_cases e1 : e = d
    · subst e1; rw [setC_same]; exact hz
    · rw [setC_other _ _ e1]; exact h.zn e he

/-- How many are free. -/
def cntP (Dn : Nat) (C : Nat → List Int) (d : Int) : Int := if 0 ≤ d ∧ d < Dn then (C d.toNat).length else 0
theorem count_calls (h : PoolAt base W p Dn Zn S B P O l qb qc C) (d : Int) : Calls Try.prog 49 #[.pointer (some ⟨p, 0, none⟩), .int .i64 d] W fun e w' => e = .returned (.int .i64 (cntP Dn C d)) ∧ w' = W := by
  obtain ⟨g, cap, rfl, hcell⟩ := h.val
  have hdz := h.dz
  have cp := fun i => blk_cell h.pc i
  by_cases h0 : d < 0
  · have e1 : cntP Dn C d = 0 := if_neg (by omega)
    rw [e1]
    go_enter Try.func49, Try.ntmps49
    go_wp2
    go_ret
    exact ⟨rfl, rfl⟩
  · by_cases h1 : (Dn : Int) ≤ d
    · have e1 : cntP Dn C d = 0 := if_neg (by omega)
      rw [e1]
      have h0' : 0 ≤ d := by omega
      go_enter Try.func49, Try.ntmps49
      go_wp2
      go_ret
      exact ⟨rfl, rfl⟩
    · obtain ⟨k, rfl⟩ := Int.eq_ofNat_of_zero_le (by omega : 0 ≤ d)
      have hk : k < Dn := by omega
      have e1 : cntP Dn C k = (C k).length := by rw [cntP, if_pos (by omega), Int.toNat_natCast]
      rw [e1]
      have hc := hcell k hk
      have hq := h.q k hk
      have hl := lenI _ _ _ _ _ hq
      rw [ints_length] at hl
      clear hcell e1
      go_enter Try.func49, Try.ntmps49
      go_wp2_with fail
      refine hl.mono ?_
      rintro e w' ⟨rfl, rfl⟩
      go_wp2
      go_ret
      exact ⟨rfl, rfl⟩
/-- The zone that is taken. -/
theorem take_out (h : PoolAt base W p Dn Zn S B P O l qb qc C) (d : Int) (hd : d < 0 ∨ Dn ≤ d) : Calls Try.prog 48 #[.pointer (some ⟨p, 0, none⟩), .int .i64 d] W fun e w' => e = .returned (.tuple #[.int .i64 0, .int .i64 13]) ∧ w' = W := by
  obtain ⟨g, cap, rfl, hcell⟩ := h.val
  have hdz := h.dz
  have cp := fun i => blk_cell h.pc i
  clear hcell
  rcases hd with h0 | h1
  · go_enter Try.func48, Try.ntmps48
    go_wp2
    go_ret2
    exact ⟨rfl, rfl⟩
  · have h0' : 0 ≤ d := by omega
    go_enter Try.func48, Try.ntmps48
    go_wp2
    go_ret2
    exact ⟨rfl, rfl⟩
theorem take_none (h : PoolAt base W p Dn Zn S B P O l qb qc C) (d : Nat) (hd : d < Dn) (hC : C d = []) : Calls Try.prog 48 #[.pointer (some ⟨p, 0, none⟩), .int .i64 (d : Int)] W fun e w' => e = .returned (.tuple #[.int .i64 0, .int .i64 15]) ∧ w' = W := by
  obtain ⟨g, cap, rfl, hcell⟩ := h.val
  have hdz := h.dz
  have cp := fun i => blk_cell h.pc i
  have hc := hcell d hd
  have hq := h.q d hd
  rw [hC] at hq
  clear hcell hC
  go_enter Try.func48, Try.ntmps48
  go_wp2_with fail
  refine (takeI_none _ _ _ _ hq).mono ?_
  rintro e w' ⟨rfl, rfl⟩
  go_wp2
  go_ret2
  exact ⟨rfl, rfl⟩
theorem take_some (h : PoolAt base W p Dn Zn S B P O l qb qc C) (d : Nat) (hd : d < Dn) {x : Int} {t : List Int} (hC : C d = x :: t) : Calls Try.prog 48 #[.pointer (some ⟨p, 0, none⟩), .int .i64 (d : Int)] W fun e w' =>
    e = .returned (.tuple #[.int .i64 x, .int .i64 0]) ∧ PoolAt base w' p Dn Zn S B P O l qb qc (setC C d t) ∧ Fr (fun k => k = qc d) W w' := by
  have h' := h
  obtain ⟨g, cap, rfl, hcell⟩ := h.val
  have hdz := h.dz
  have cp := fun i => blk_cell h.pc i
  have hc := hcell d hd
  have hq := h.q d hd
  have hz := h.zn d hd
  rw [hC] at hq hz
  have HZ : Hid (ZonesOf Zn d t) := Lib.hid ⟨(List.nodup_cons.1 hz.1).2, fun z hz' => hz.2 z (by simp [hz'])⟩
  clear hcell hC hz h
  go_enter Try.func48, Try.ntmps48
  go_wp2_with fail
  refine (takeI_some _ _ x _ (ints t) _ hq).mono ?_
  rintro e w' ⟨rfl, hq', hf'⟩
  have hp := h'.chan hd hf' hq' HZ.out
  go_wp2
  go_ret2
  exact ⟨rfl, hp, hf'⟩
end
end Go.Proofs.Ytcdblopnaimfoaa

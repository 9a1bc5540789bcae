/- A pool's functions: Give, Drop, Pair. Condition: the geometry is small. -/
import Derived.Test.YtcdblopnaimfoaaPe
namespace Go.Proofs.Ytcdblopnaimfoaa
open Go.RowKit Go.Conc

section
variable {base : Nat} {W W' w : World} {p Dn Zn : Nat} {S B P O : Int} {l : Value} {qb qc : Nat → Nat} {C : Nat → List Int} {T : Nat → Prop}
/-- A zone's domain, where there is one. -/
theorem dom_of (h : PoolAt base w p Dn Zn S B P O l qb qc C) {z : Int} (hz : 0 ≤ domP Dn Zn z) : ∃ d : Nat, d < Dn ∧ domP Dn Zn z = d ∧ (d : Int) * Zn ≤ z ∧ z < ((d : Int) + 1) * Zn := by
  have hdz := h.dz
  unfold domP at hz ⊢
  by_cases hc : 0 ≤ z ∧ z < (Dn : Int) * Zn
  · rw [if_pos hc] at hz ⊢
    obtain ⟨d, hd⟩ := Int.eq_ofNat_of_zero_le hz
    rw [hd]
    have h1 : (d : Int) * Zn ≤ z := by rw [← hd]; exact Int.ediv_mul_le z (by omega)
    have h2 : z < ((d : Int) + 1) * Zn := by
      have := Int.lt_ediv_add_one_mul_self z (show (0 : Int) < Zn by omega)
      rw [hd] at this
      exact this
    refine ⟨d, ?_, rfl, h1, h2⟩
    have : (d : Int) * Zn < (Dn : Int) * Zn := by omega
    have := Int.lt_of_mul_lt_mul_right this (by omega)
    omega
  · rw [if_neg hc] at hz; omega
theorem dom_at (h : PoolAt base w p Dn Zn S B P O l qb qc C) {z : Int} {d : Nat} (hd : d < Dn) (h1 : (d : Int) * Zn ≤ z) (h2 : z < ((d : Int) + 1) * Zn) : domP Dn Zn z = d := by
  have hdz := h.dz
  have h0 : 0 ≤ (d : Int) * Zn := Int.mul_nonneg (by omega) (by omega)
  have h3 : ((d : Int) + 1) * Zn ≤ (Dn : Int) * Zn := Int.mul_le_mul_of_nonneg_right (by omega) (by omega)
  unfold domP
  rw [if_pos ⟨by omega, by omega⟩]
  have e1 : z / Zn < (d : Int) + 1 := Int.ediv_lt_of_lt_mul (by omega) h2
  have e2 : (d : Int) ≤ z / Zn := Int.le_ediv_of_mul_le (by omega) h1
  omega
/-- A zone's own queue has it, or none. -/
theorem hasB_at (h : PoolAt base w p Dn Zn S B P O l qb qc C) {z : Int} {d : Nat} (hd : d < Dn) (hdz : domP Dn Zn z = d) : hasB C Dn z = true ↔ z ∈ C d := by
  rw [hasB_iff]
  constructor
  · rintro ⟨e, he, hm⟩
    have := (h.zn e he).2 z hm
    have := dom_at h he this.1 this.2
    have e1 : e = d := by omega
    exact e1 ▸ hm
  · intro hm; exact ⟨d, hd, hm⟩

theorem give_out (h : PoolAt base w p Dn Zn S B P O l qb qc C) {z : Int} (hz : domP Dn Zn z < 0) : Calls Try.prog 47 #[.pointer (some ⟨p, 0, none⟩), .int .i64 z] w fun e w' => e = .returned (.int .i64 13) ∧ Fr (fun _ => False) w w' := by
  have hd := domainI h.sm z
  obtain ⟨d, hdd⟩ : ∃ d, domP Dn Zn z = d := ⟨_, rfl⟩
  rw [hdd] at hd hz
  have cp := fun i => blk_cell h.pc i
  have hdz := h.dz
  clear hdd
  go_enter Try.func47, Try.ntmps47
  go_wp2_with fail
  refine (hd _).mono ?_
  rintro e w1 ⟨rfl, hb⟩
  have hf := Fr.of_below (S := fun _ => False) hb
  clear hd
  go_wp2
  go_ret
  exact ⟨rfl, hf⟩
theorem give_twice (h : PoolAt base w p Dn Zn S B P O l qb qc C) {z : Int} {d : Nat} (hdd : domP Dn Zn z = d) (ht : hasB C Dn z = true) : Calls Try.prog 47 #[.pointer (some ⟨p, 0, none⟩), .int .i64 z] w fun e w' =>
    e = .returned (.int .i64 16) ∧ PoolAt base w' p Dn Zn S B P O l qb qc C ∧ Fr (Chs Dn qc) w w' := by
  have hd := domainI h.sm z
  rw [hdd] at hd
  have cp := fun i => blk_cell h.pc i
  have hdz := h.dz
  have HT := Lib.hid ht
  clear hdd ht
  go_enter Try.func47, Try.ntmps47
  go_wp2_with fail
  refine (hd _).mono ?_
  rintro e w1 ⟨rfl, hb⟩
  have hf := Fr.of_below (S := fun _ => False) hb
  have hh := has_calls (h.fr0 hf) z
  rw [HT.out] at hh
  clear hd
  go_wp2_with fail
  refine hh.mono ?_
  rintro e w2 ⟨rfl, h2, hf2⟩
  go_wp2
  go_ret
  exact ⟨rfl, h2, (hf.mono (fun _ _ h => h.elim)).trans hf2 (fun _ _ h => h)⟩
theorem give_ok (h : PoolAt base w p Dn Zn S B P O l qb qc C) {z : Int} {d : Nat} (hlt : d < Dn) (hdd : domP Dn Zn z = d) (hz1 : (d : Int) * Zn ≤ z) (hz2 : z < ((d : Int) + 1) * Zn) (ht : hasB C Dn z = false) : Calls Try.prog 47 #[.pointer (some ⟨p, 0, none⟩), .int .i64 z] w fun e w' =>
    e = .returned (.int .i64 0) ∧ PoolAt base w' p Dn Zn S B P O l qb qc (setC C d (C d ++ [z])) ∧ Fr (Chs Dn qc) w w' := by
  have hnm : z ∉ C d := fun hm => by rw [(hasB_at h hlt hdd).2 hm] at ht; cases ht
  have hzn : ZonesOf Zn d (C d ++ [z]) := by
    have h1 := h.zn d hlt
    refine ⟨List.nodup_append.2 ⟨h1.1, by simp, ?_⟩, fun y hy => ?_⟩
    · intro a ha b hb e
      simp at hb
      exact hnm (by rw [← hb, ← e]; exact ha)
    · rcases List.mem_append.1 hy with hy | hy
      · exact h1.2 y hy
      · simp at hy; subst hy; exact ⟨hz1, hz2⟩
  have hroom : (C d).length < Zn := by have := hzn.len; simp at this; omega
  have hd := domainI h.sm z
  rw [hdd] at hd
  have cp := fun i => blk_cell h.pc i
  have hdz := h.dz
  have HT := Lib.hid ht
  have HZ := Lib.hid hzn
  clear hdd ht hnm hzn hz1 hz2
  go_enter Try.func47, Try.ntmps47
  go_wp2_with fail
  refine (hd _).mono ?_
  rintro e w1 ⟨rfl, hb⟩
  have hf := Fr.of_below (S := fun _ => False) hb
  have hh := has_calls (h.fr0 hf) z
  rw [HT.out] at hh
  clear hd
  go_wp2_with fail
  refine hh.mono ?_
  rintro e w2 ⟨rfl, h2, hf2⟩
  clear hh cp
  have h2' := h2
  obtain ⟨g, cap, rfl, hcell⟩ := h2.val
  have cp := fun i => blk_cell h2.pc i
  have hc := hcell d hlt
  have hq := h2.q d hlt
  clear hcell
  go_wp2_with fail
  refine (putI_room _ _ z _ _ _ hq (by rw [ints_length]; exact hroom)).mono ?_
  rintro e w3 ⟨rfl, hq3, hf3⟩
  have e9 : ints (C d) ++ [.int .i64 z] = ints (C d ++ [z]) := by simp [ints]
  rw [e9] at hq3
  have h4 := h2'.chan hlt hf3 hq3 HZ.out
  go_wp2
  go_ret
  exact ⟨rfl, h4, ((hf.mono (fun _ _ h => h.elim)).trans hf2 (fun _ _ h => h)).trans hf3 (fun k _ e => ⟨d, hlt, e⟩)⟩

theorem dropC (zb : Nat) (z x : Int) (V : World) (hV : V.heap[zb]? = some (.cells #[.int .i64 z] 3 (0, 0))) : Calls Try.prog 75 #[.int .i64 x, .pointer (some ⟨zb, 0, none⟩)] V fun e V' => e = .returned (.bool (x != z)) ∧ V' = V := by
  have cg := fun i => blk_cell hV i
  go_enter Try.func75, Try.ntmps75
  go_wp2
  go_ret
  exact ⟨rfl, rfl⟩
end
end Go.Proofs.Ytcdblopnaimfoaa

/- Several texts in one. No condition. -/
import Derived.Test.YtcdblopnaimfoaaQc
import Derived.Test.YtcdblopnaimfoaaGi
import Derived.WalkLawsBesides
import Derived.Test.YtcdblopnaimfoaaRi

/- A pool's memory, and what its functions that read do: Count, fullest, Pairs; Take. Conditions: the geometry is small. -/
namespace Go.Proofs.Ytcdblopnaimfoaa
open Go.RowKit Go.Conc

/-- The zones of a domain: no two alike, all of the domain. -/
def ZonesOf (Zn d : Nat) (L : List Int) : Prop := L.Nodup ∧ ∀ z ∈ L, (d : Int) * Zn ≤ z ∧ z < ((d : Int) + 1) * Zn
theorem nodup_len : ∀ (n : Nat) (a : Int) (l : List Int), l.Nodup → (∀ z ∈ l, a ≤ z ∧ z < a + n) → l.length ≤ n
  | 0, a, l, _, h => by
    cases l with
    | nil => simp
    | cons x t => have := h x (by simp); omega
  | n + 1, a, l, hn, h => by
    by_cases hm : (a + n) ∈ l
    · have h1 := nodup_len n a (l.erase (a + n)) (hn.erase _) (fun z hz => by
        have h2 := (hn.mem_erase_iff).1 hz
        have h3 := h z h2.2
        have := h2.1
        push_cast at h3
        omega)
      rw [List.length_erase_of_mem hm] at h1
      omega
    · have h1 := nodup_len n a l hn (fun z hz => by
        have h3 := h z hz
        have : z ≠ a + n := fun e => hm (e ▸ hz)
        push_cast at h3
        omega)
      omega
theorem ZonesOf.len {Zn d : Nat} {L : List Int} (h : ZonesOf Zn d L) : L.length ≤ Zn :=
  nodup_len Zn ((d : Int) * Zn) L h.1 (fun z hz => by
    have := h.2 z hz
    rw [Int.add_mul, Int.one_mul] at this
    exact this)

structure PoolAt (base : Nat) (W : World) (p : Nat) (Dn Zn : Nat) (S B P O : Int) (l : Value) (qb qc : Nat → Nat) (C : Nat → List Int) : Prop where
  sm : Small Dn Zn S B P O
  pc : W.heap[p]? = some (.cells #[.int .i64 Dn, .int .i64 Zn, .int .i64 S, .int .i64 B, .int .i64 P, .int .i64 O, l] 98 (0, 0))
  row : W.ownsRow base 33 1 l Dn ((List.range Dn).map fun d => .pointer (some ⟨qb d, 0, none⟩))
  q : ∀ d, d < Dn → QAt 92 W (qb d) (qc d) Zn (ints (C d))
  inj : ∀ d e, d < Dn → e < Dn → qc d = qc e → d = e
  zn : ∀ d, d < Dn → ZonesOf Zn d (C d)
  bp : base ≤ p
  bq : ∀ d, d < Dn → base ≤ qb d ∧ base ≤ qc d
/-- Its blocks. -/
def PFoot (p Dn : Nat) (l : Value) (qb qc : Nat → Nat) (k : Nat) : Prop := k = p ∨ l.ownBlock = some k ∨ ∃ d, d < Dn ∧ (k = qb d ∨ k = qc d)
def setC (C : Nat → List Int) (d : Nat) (L : List Int) : Nat → List Int := fun e => if e = d then L else C e
theorem setC_same (C : Nat → List Int) (d : Nat) (L : List Int) : setC C d L d = L := if_pos rfl
theorem setC_other (C : Nat → List Int) {d e : Nat} (L : List Int) (h : e ≠ d) : setC C d L e = C e := if_neg h

section
variable {base : Nat} {W W' : World} {p Dn Zn : Nat} {S B P O : Int} {l : Value} {qb qc : Nat → Nat} {C : Nat → List Int} {T : Nat → Prop}
theorem PoolAt.dz (h : PoolAt base W p Dn Zn S B P O l qb qc C) : 3 ≤ Dn ∧ Dn ≤ 8 ∧ 1 ≤ Zn ∧ Zn ≤ 64 := by
  have := h.sm.d0; have := h.sm.d1; have := h.sm.z0; have := h.sm.z1; omega
theorem PoolAt.len (h : PoolAt base W p Dn Zn S B P O l qb qc C) {d : Nat} (hd : d < Dn) : (C d).length ≤ Zn := (h.zn d hd).len
theorem PoolAt.fr (h : PoolAt base W p Dn Zn S B P O l qb qc C) (hf : Fr T W W') (hT : ∀ k, PFoot p Dn l qb qc k → ¬ T k) : PoolAt base W' p Dn Zn S B P O l qb qc C :=
  ⟨h.sm, hf.heap h.pc (hT _ (.inl rfl)), row_fr h.row hf (fun _k hk => hT _ (.inr (.inl hk))), fun d hd => (h.q d hd).fr hf (hT _ (.inr (.inr ⟨d, hd, .inl rfl⟩))) (hT _ (.inr (.inr ⟨d, hd, .inr rfl⟩))), h.inj, h.zn, h.bp, h.bq⟩
theorem PoolAt.fr0 (h : PoolAt base W p Dn Zn S B P O l qb qc C) (hf : Fr (fun _ => False) W W') : PoolAt base W' p Dn Zn S B P O l qb qc C := h.fr hf (fun _ _ => id)
theorem PoolAt.lt (h : PoolAt base W p Dn Zn S B P O l qb qc C) {k : Nat} (hk : PFoot p Dn l qb qc k) : base ≤ k ∧ k < W.heap.size := by
  rcases hk with rfl | hk | ⟨d, hd, rfl | rfl⟩
  · exact ⟨h.bp, blk_lt h.pc⟩
  · exact h.row.lt k hk
  · exact ⟨(h.bq d hd).1, (h.q d hd).bl⟩
  · exact ⟨(h.bq d hd).2, (h.q d hd).cl⟩
/-- Where a queue's cell lies. -/
theorem PoolAt.ptr (h : PoolAt base W p Dn Zn S B P O l qb qc C) {d : Nat} (hd : d < Dn) : ∃ g cap, l = .slice (some ⟨g, 0, none⟩) Dn cap ∧ W.cell? ⟨g, d, none⟩ = some (.pointer (some ⟨qb d, 0, none⟩)) := by
  obtain ⟨g, cap, e, hc, -⟩ := row_cell h.row (i := d) (by simpa using hd)
  exact ⟨g, cap, e, by simpa using hc⟩
theorem PoolAt.val (h : PoolAt base W p Dn Zn S B P O l qb qc C) : ∃ g cap, l = .slice (some ⟨g, 0, none⟩) Dn cap ∧ ∀ d, d < Dn → W.cell? ⟨g, d, none⟩ = some (.pointer (some ⟨qb d, 0, none⟩)) := by
  have := h.dz
  obtain ⟨g, cap, rfl, -⟩ := h.ptr (d := 0) (by omega)
  refine ⟨g, cap, rfl, fun d hd => ?_⟩
  obtain ⟨g', cap', e, hc⟩ := h.ptr hd
  cases e
  exact hc
/-- A channel is no other block. -/
theorem PoolAt.cne (h : PoolAt base W p Dn Zn S B P O l qb qc C) {d : Nat} (hd : d < Dn) {k : Nat} {cs : Array Value} {ty : TypeId} {f : Nat × Nat} (hk : W.heap[k]? = some (.cells cs ty f)) : k ≠ qc d := by
  obtain ⟨_, s, r, h4⟩ := h.q d hd
  rintro rfl
  rw [h4] at hk; cases hk
/-- One queue turns. -/
theorem PoolAt.chan (h : PoolAt base W p Dn Zn S B P O l qb qc C) {d : Nat} (hd : d < Dn) (hf : Fr (fun k => k = qc d) W W') {L : List Int} (hq : QAt 92 W' (qb d) (qc d) Zn (ints L)) (hz : ZonesOf Zn d L) : PoolAt base W' p Dn Zn S B P O l qb qc (setC C d L) := by
  refine ⟨h.sm, hf.heap h.pc (h.cne hd h.pc), row_fr h.row hf (fun k hk => ?_), fun e he => ?_, h.inj, fun e he => ?_, h.bp, h.bq⟩
  · obtain ⟨cur, hc⟩ := row_obj h.row hk
    exact h.cne hd hc
  · by_cases e1 : e = d
    · subst e1; rw [setC_same]; exact hq
    · rw [setC_other _ _ e1]
      exact (h.q e he).fr hf (h.cne hd (h.q e he).1) (fun e2 => e1 (h.inj _ _ he hd e2))
  · by_cases e1 : e = d
    · subst e1; rw [setC_same]; exact hz
    · rw [setC_other _ _ e1]; exact h.zn e he

/-- How many are free. -/
def cntP (Dn : Nat) (C : Nat → List Int) (d : Int) : Int := if 0 ≤ d ∧ d < Dn then (C d.toNat).length else 0
theorem count_calls (h : PoolAt base W p Dn Zn S B P O l qb qc C) (d : Int) : Calls Try.prog 49 #[.pointer (some ⟨p, 0, none⟩), .int .i64 d] W fun e w' => e = .returned (.int .i64 (cntP Dn C d)) ∧ w' = W := by
  obtain ⟨g, cap, rfl, hcell⟩ := h.val
  have hdz := h.dz
  have cp := fun i => blk_cell h.pc i
  by_cases h0 : d < 0
  · have e1 : cntP Dn C d = 0 := if_neg (by omega)
    rw [e1]
    go_enter Try.func49, Try.ntmps49
    go_wp2
    go_ret
    exact ⟨rfl, rfl⟩
  · by_cases h1 : (Dn : Int) ≤ d
    · have e1 : cntP Dn C d = 0 := if_neg (by omega)
      rw [e1]
      have h0' : 0 ≤ d := by omega
      go_enter Try.func49, Try.ntmps49
      go_wp2
      go_ret
      exact ⟨rfl, rfl⟩
    · obtain ⟨k, rfl⟩ := Int.eq_ofNat_of_zero_le (by omega : 0 ≤ d)
      have hk : k < Dn := by omega
      have e1 : cntP Dn C k = (C k).length := by rw [cntP, if_pos (by omega), Int.toNat_natCast]
      rw [e1]
      have hc := hcell k hk
      have hq := h.q k hk
      have hl := lenI _ _ _ _ _ hq
      rw [ints_length] at hl
      clear hcell e1
      go_enter Try.func49, Try.ntmps49
      go_wp2_with fail
      refine hl.mono ?_
      rintro e w' ⟨rfl, rfl⟩
      go_wp2
      go_ret
      exact ⟨rfl, rfl⟩
/-- The zone that is taken. -/
theorem take_out (h : PoolAt base W p Dn Zn S B P O l qb qc C) (d : Int) (hd : d < 0 ∨ Dn ≤ d) : Calls Try.prog 48 #[.pointer (some ⟨p, 0, none⟩), .int .i64 d] W fun e w' => e = .returned (.tuple #[.int .i64 0, .int .i64 13]) ∧ w' = W := by
  obtain ⟨g, cap, rfl, hcell⟩ := h.val
  have hdz := h.dz
  have cp := fun i => blk_cell h.pc i
  clear hcell
  rcases hd with h0 | h1
  · go_enter Try.func48, Try.ntmps48
    go_wp2
    go_ret2
    exact ⟨rfl, rfl⟩
  · have h0' : 0 ≤ d := by omega
    go_enter Try.func48, Try.ntmps48
    go_wp2
    go_ret2
    exact ⟨rfl, rfl⟩
theorem take_none (h : PoolAt base W p Dn Zn S B P O l qb qc C) (d : Nat) (hd : d < Dn) (hC : C d = []) : Calls Try.prog 48 #[.pointer (some ⟨p, 0, none⟩), .int .i64 (d : Int)] W fun e w' => e = .returned (.tuple #[.int .i64 0, .int .i64 15]) ∧ w' = W := by
  obtain ⟨g, cap, rfl, hcell⟩ := h.val
  have hdz := h.dz
  have cp := fun i => blk_cell h.pc i
  have hc := hcell d hd
  have hq := h.q d hd
  rw [hC] at hq
  clear hcell hC
  go_enter Try.func48, Try.ntmps48
  go_wp2_with fail
  refine (takeI_none _ _ _ _ hq).mono ?_
  rintro e w' ⟨rfl, rfl⟩
  go_wp2
  go_ret2
  exact ⟨rfl, rfl⟩
theorem take_some (h : PoolAt base W p Dn Zn S B P O l qb qc C) (d : Nat) (hd : d < Dn) {x : Int} {t : List Int} (hC : C d = x :: t) : Calls Try.prog 48 #[.pointer (some ⟨p, 0, none⟩), .int .i64 (d : Int)] W fun e w' =>
    e = .returned (.tuple #[.int .i64 x, .int .i64 0]) ∧ PoolAt base w' p Dn Zn S B P O l qb qc (setC C d t) ∧ Fr (fun k => k = qc d) W w' := by
  have h' := h
  obtain ⟨g, cap, rfl, hcell⟩ := h.val
  have hdz := h.dz
  have cp := fun i => blk_cell h.pc i
  have hc := hcell d hd
  have hq := h.q d hd
  have hz := h.zn d hd
  rw [hC] at hq hz
  have HZ : Hid (ZonesOf Zn d t) := Lib.hid ⟨(List.nodup_cons.1 hz.1).2, fun z hz' => hz.2 z (by simp [hz'])⟩
  clear hcell hC hz h
  go_enter Try.func48, Try.ntmps48
  go_wp2_with fail
  refine (takeI_some _ _ x _ (ints t) _ hq).mono ?_
  rintro e w' ⟨rfl, hq', hf'⟩
  have hp := h'.chan hd hf' hq' HZ.out
  go_wp2
  go_ret2
  exact ⟨rfl, hp, hf'⟩
end
end Go.Proofs.Ytcdblopnaimfoaa

/- A pool's functions that read: fullest, Pairs. Conditions: the geometry is small. -/
namespace Go.Proofs.Ytcdblopnaimfoaa
open Go.RowKit Go.Conc

/-- The domain with the most free zones, of the first ones, but for one. -/
def fullP (C : Nat → List Int) (but : Int) : Nat → Int
  | 0 => -1
  | i + 1 => if (i : Int) ≠ but ∧ (fullP C but i < 0 ∨ (C (fullP C but i).toNat).length < (C i).length) then (i : Int) else fullP C but i
theorem fullP_b (C : Nat → List Int) (but : Int) : ∀ i, -1 ≤ fullP C but i ∧ fullP C but i < i
  | 0 => by simp [fullP]
  | i + 1 => by
    have := fullP_b C but i
    rw [fullP]
    split <;> (push_cast; omega)
def sumP (C : Nat → List Int) : Nat → Int
  | 0 => 0
  | i + 1 => sumP C i + (C i).length
def pairsP (Dn : Nat) (C : Nat → List Int) : Int := if sumP C Dn / 2 ≤ sumP C Dn - cntP Dn C (fullP C (-1) Dn) then sumP C Dn / 2 else sumP C Dn - cntP Dn C (fullP C (-1) Dn)
section
variable {base : Nat} {W W' : World} {p Dn Zn : Nat} {S B P O : Int} {l : Value} {qb qc : Nat → Nat} {C : Nat → List Int} {T : Nat → Prop}
theorem sumP_b (h : PoolAt base W p Dn Zn S B P O l qb qc C) : ∀ i, i ≤ Dn → 0 ≤ sumP C i ∧ sumP C i ≤ 64 * i
  | 0, _ => by simp [sumP]
  | i + 1, hi => by
    have := sumP_b h i (by omega)
    have h2 := h.len (d := i) (by omega)
    have := h.dz
    rw [sumP]
    push_cast
    omega

set_option linter.unusedSimpArgs false in
set_option maxRecDepth 100000 in
set_option maxHeartbeats 4000000 in
theorem fullest_calls (h : PoolAt base W p Dn Zn S B P O l qb qc C) (but : Int) : Calls Try.prog 64 #[.pointer (some ⟨p, 0, none⟩), .int .i64 but] W fun e w' => e = .returned (.int .i64 (fullP C but Dn)) ∧ Fr (fun _ => False) W w' := by
  obtain ⟨g, cap, rfl, hcell⟩ := h.val
  have hdz := h.dz
  have cp := fun i => blk_cell h.pc i
  have HC := Lib.hid hcell
  clear hcell
  go_enter Try.func64, Try.ntmps64
  go_wp2_with fail
  go_loopw [5, 13] (fun b i w => ∃ k : Nat, k ≤ Dn ∧ i = .int .i64 k ∧ b = .int .i64 (fullP C but k) ∧ Fr (fun _ => False) W w) (fun _ i _ => Dn - (intOf i).toNat)
  case atStart => exact ⟨0, by omega, rfl, rfl, Fr.refl _ _⟩
  case round =>
    clear cp
    obtain ⟨k, hk, rfl, rfl, hf⟩ := hrel
    have h2 := h.fr0 hf
    have hfb := fullP_b C but k
    by_cases hlt : k < Dn
    · have hc := hf.cell (HC.out k hlt) id
      have hfs : fullP C but (k + 1) = if (k : Int) ≠ but ∧ (fullP C but k < 0 ∨ (C (fullP C but k).toNat).length < (C k).length) then (k : Int) else fullP C but k := rfl
      have HS := Lib.hid hfs
      clear hfs
      obtain ⟨f, hfe⟩ : ∃ f, fullP C but k = f := ⟨_, rfl⟩
      rw [hfe] at hfb HS ⊢
      clear hfe
      have hlk := lenI _ _ _ _ _ (h2.q k hlt)
      rw [ints_length] at hlk
      go_wp2_with fail
      by_cases hkb : (k : Int) = but
      · have e1 : ((k : Int) != but) = false := by simpa using hkb
        refine (wpIn_wide (n := 0)).1 ?_
        refine regionIn_seq (fun _ V => Fr (fun _ => False) wr V) rfl (by kernel_rfl) (by kernel_rfl) (by kernel_rfl) (fun _ => trivial) rfl (Fr.refl _ _).drew ?_
        iterate 20
          first
          | (apply SeqR.step
             · rfl
             · intro d V hV ht
               simp [Oper.gives, execOp, Act.eval, go_sem, e1]
               exact ⟨rfl, hV⟩)
          | (apply SeqR.pass
             · rfl
             · exact fun d V hV _ => hV)
          simp only [Act.put, List.setIfInBounds_toArray, List.set_cons_succ, List.set_cons_zero]
        refine SeqR.nil fun V hV => ?_
        have e2 : fullP C but (k + 1) = f := by rw [HS.out, if_neg (by simp [hkb])]
        go_wp2_with fail
        go_roundw
        case rel => exact ⟨k + 1, by omega, by go_num, by rw [e2], hf.trans hV (fun _ _ h => h)⟩
        case measure => simp [intOf]; omega
      · have e1 : ((k : Int) != but) = true := by simpa using hkb
        by_cases hf0 : f < 0
        · have e3 : decide (f < 0) = true := decide_eq_true hf0
          refine (wpIn_wide (n := 0)).1 ?_
          refine regionIn_seq (fun _ V => Fr (fun _ => False) wr V) rfl (by kernel_rfl) (by kernel_rfl) (by kernel_rfl) (fun _ => trivial) rfl (Fr.refl _ _).drew ?_
          iterate 20
            first
            | (apply SeqR.step
               · rfl
               · intro d V hV ht
                 simp [Oper.gives, execOp, Act.eval, go_sem, e1, e3]
                 exact ⟨rfl, hV⟩)
            | (apply SeqR.pass
               · rfl
               · exact fun d V hV _ => hV)
            simp only [Act.put, List.setIfInBounds_toArray, List.set_cons_succ, List.set_cons_zero]
          refine SeqR.nil fun V hV => ?_
          have e2 : fullP C but (k + 1) = k := by rw [HS.out, if_pos ⟨hkb, .inl hf0⟩]
          go_wp2_with fail
          go_roundw
          case rel => exact ⟨k + 1, by omega, by go_num, by rw [e2], hf.trans hV (fun _ _ h => h)⟩
          case measure => simp [intOf]; omega
        · obtain ⟨j, rfl⟩ := Int.eq_ofNat_of_zero_le (by omega : 0 ≤ f)
          have hj : j < Dn := by omega
          have hcj := hf.cell (HC.out j hj) id
          have e3 : decide ((j : Int) < 0) = false := decide_eq_false (by omega)
          cases hcmp : decide ((C j).length < (C k).length) with
          | true =>
            have hcmp' : (C j).length < (C k).length := of_decide_eq_true hcmp
            refine (wpIn_wide (n := 0)).1 ?_
            refine regionIn_seq (fun _ V => Fr (fun _ => False) wr V) rfl (by kernel_rfl) (by kernel_rfl) (by kernel_rfl) (fun _ => trivial) rfl (Fr.refl _ _).drew ?_
            iterate 20
              first
              | (apply SeqR.step
                 · rfl
                 · intro d V hV ht
                   have h3 := h2.fr0 hV
                   have cp := fun i => blk_cell h3.pc i
                   have c1 := hV.cell hc id
                   have c2 := hV.cell hcj id
                   have l1 := lenI _ _ _ _ _ (h3.q k hlt)
                   have l2 := lenI _ _ _ _ _ (h3.q j hj)
                   rw [ints_length] at l1 l2
                   simp [Oper.gives, execOp, Act.eval, go_sem, e1, e3, cp, c1, c2, hcmp, hcmp', hj]
                   first
                   | exact ⟨rfl, hV⟩
                   | (refine callsIn_wide.2 (l1.mono ?_); rintro e W9 ⟨rfl, rfl⟩; exact ⟨_, rfl, rfl, hV⟩)
                   | (refine callsIn_wide.2 (l2.mono ?_); rintro e W9 ⟨rfl, rfl⟩; exact ⟨_, rfl, rfl, hV⟩))
              | (apply SeqR.pass
                 · rfl
                 · exact fun d V hV _ => hV)
              simp only [Act.put, List.setIfInBounds_toArray, List.set_cons_succ, List.set_cons_zero]
            refine SeqR.nil fun V hV => ?_
            have e2 : fullP C but (k + 1) = k := by rw [HS.out, if_pos ⟨hkb, .inr (by rw [Int.toNat_natCast]; exact hcmp')⟩]
            go_wp2_with fail
            go_roundw
            case rel => exact ⟨k + 1, by omega, by go_num, by rw [e2], hf.trans hV (fun _ _ h => h)⟩
            case measure => simp [intOf]; omega
          | false =>
            have hcmp' : ¬ (C j).length < (C k).length := of_decide_eq_false hcmp
            refine (wpIn_wide (n := 0)).1 ?_
            refine regionIn_seq (fun _ V => Fr (fun _ => False) wr V) rfl (by kernel_rfl) (by kernel_rfl) (by kernel_rfl) (fun _ => trivial) rfl (Fr.refl _ _).drew ?_
            iterate 20
              first
              | (apply SeqR.step
                 · rfl
                 · intro d V hV ht
                   have h3 := h2.fr0 hV
                   have cp := fun i => blk_cell h3.pc i
                   have c1 := hV.cell hc id
                   have c2 := hV.cell hcj id
                   have l1 := lenI _ _ _ _ _ (h3.q k hlt)
                   have l2 := lenI _ _ _ _ _ (h3.q j hj)
                   rw [ints_length] at l1 l2
                   simp [Oper.gives, execOp, Act.eval, go_sem, e1, e3, cp, c1, c2, hcmp, hcmp', hj]
                   first
                   | exact ⟨rfl, hV⟩
                   | (refine callsIn_wide.2 (l1.mono ?_); rintro e W9 ⟨rfl, rfl⟩; exact ⟨_, rfl, rfl, hV⟩)
                   | (refine callsIn_wide.2 (l2.mono ?_); rintro e W9 ⟨rfl, rfl⟩; exact ⟨_, rfl, rfl, hV⟩))
              | (apply SeqR.pass
                 · rfl
                 · exact fun d V hV _ => hV)
              simp only [Act.put, List.setIfInBounds_toArray, List.set_cons_succ, List.set_cons_zero]
            refine SeqR.nil fun V hV => ?_
            have e2 : fullP C but (k + 1) = (j : Int) := by rw [HS.out, if_neg (by rintro ⟨_, h | h⟩; omega; rw [Int.toNat_natCast] at h; exact hcmp' h)]
            go_wp2_with fail
            go_roundw
            case rel => exact ⟨k + 1, by omega, by go_num, by rw [e2], hf.trans hV (fun _ _ h => h)⟩
            case measure => simp [intOf]; omega
    · obtain rfl : k = Dn := by omega
      go_wp2_with fail
      go_ret
      exact ⟨rfl, hf⟩
end
end Go.Proofs.Ytcdblopnaimfoaa

/- A pool's number of pairs. Condition: the geometry is small. -/
namespace Go.Proofs.Ytcdblopnaimfoaa
open Go.RowKit Go.Conc

section
variable {base : Nat} {W W' : World} {p Dn Zn : Nat} {S B P O : Int} {l : Value} {qb qc : Nat → Nat} {C : Nat → List Int} {T : Nat → Prop}
theorem cntP_b (h : PoolAt base W p Dn Zn S B P O l qb qc C) (d : Int) : 0 ≤ cntP Dn C d ∧ cntP Dn C d ≤ 64 := by
  unfold cntP
  have := h.dz
  split
  · have := h.len (d := d.toNat) (by omega)
    omega
  · omega
set_option maxHeartbeats 1000000 in
theorem pairs_calls (h : PoolAt base W p Dn Zn S B P O l qb qc C) : Calls Try.prog 50 #[.pointer (some ⟨p, 0, none⟩)] W fun e w' => e = .returned (.int .i64 (pairsP Dn C)) ∧ Fr (fun _ => False) W w' := by
  obtain ⟨g, cap, rfl, hcell⟩ := h.val
  have hdz := h.dz
  have cp := fun i => blk_cell h.pc i
  have HC := Lib.hid hcell
  clear hcell
  go_enter Try.func50, Try.ntmps50
  go_wp2_with fail
  go_loopw [3, 11] (fun b i w => ∃ k : Nat, k ≤ Dn ∧ i = .int .i64 k ∧ b = .int .i64 (sumP C k) ∧ w = W) (fun _ i _ => Dn - (intOf i).toNat)
  case atStart => exact ⟨0, by omega, rfl, rfl, rfl⟩
  case round =>
    obtain ⟨k, hk, rfl, rfl, rfl⟩ := hrel
    have hsb := sumP_b h k hk
    by_cases hlt : k < Dn
    · have hc := HC.out k hlt
      have hl := lenI _ _ _ _ _ (h.q k hlt)
      rw [ints_length] at hl
      have hln := h.len hlt
      have hs1 := Lib.hid (show sumP C (k + 1) = sumP C k + (C k).length from rfl)
      obtain ⟨s, hs⟩ : ∃ s, sumP C k = s := ⟨_, rfl⟩
      rw [hs] at hsb hs1 ⊢
      clear hs
      go_wp2_with fail
      refine hl.mono ?_
      rintro e w' ⟨rfl, rfl⟩
      have hw : IntKind.i64.wrap (s + ((C k).length : Int)) = s + (C k).length := IntWalk.i64_in _ (by omega)
      go_wp2_with fail
      go_roundw
      case rel => exact ⟨k + 1, by omega, by go_num, by rw [hs1.out], trivial⟩
      case measure => simp [intOf]; omega
    · obtain rfl : k = Dn := by omega
      have hcb := cntP_b h (fullP C (-1) k)
      have hfull := fullest_calls h (-1)
      have hfb := fullP_b C (-1) k
      have hpp : pairsP k C = if sumP C k / 2 ≤ sumP C k - cntP k C (fullP C (-1) k) then sumP C k / 2 else sumP C k - cntP k C (fullP C (-1) k) := rfl
      have HP := Lib.hid hpp
      have HCN : ∀ V, Fr (fun _ => False) wr V → Calls Try.prog 49 #[.pointer (some ⟨p, 0, none⟩), .int .i64 (fullP C (-1) k)] V fun e w' => e = .returned (.int .i64 (cntP k C (fullP C (-1) k))) ∧ w' = V := fun V hV => count_calls (h.fr0 hV) _
      have HQ := Lib.hid HCN
      clear hpp HCN
      obtain ⟨s, hs⟩ : ∃ s, sumP C k = s := ⟨_, rfl⟩
      obtain ⟨f, hf⟩ : ∃ s, fullP C (-1) k = s := ⟨_, rfl⟩
      rw [hs] at hsb HP ⊢
      rw [hf] at HP hfull hcb HQ
      obtain ⟨c, hcn⟩ : ∃ s, cntP k C f = s := ⟨_, rfl⟩
      rw [hcn] at HP hcb HQ
      clear hs hf hcn
      have hq2 : s.tdiv 2 = s / 2 := Int.tdiv_eq_ediv_of_nonneg (by omega)
      go_wp2_with fail
      refine hfull.mono ?_
      rintro e V ⟨rfl, hV⟩
      have hct := HQ.out V hV
      go_wp2_with fail
      refine hct.mono ?_
      rintro e V2 ⟨rfl, rfl⟩
      have hw : IntKind.i64.wrap (s - c) = s - c := IntWalk.i64_in _ (by omega)
      go_wp2
      · go_ret
        exact ⟨by rw [HP.out, if_neg (by omega)]; rfl, hV⟩
      · go_ret
        exact ⟨by rw [HP.out, if_pos (by omega)]; rfl, hV⟩
end
end Go.Proofs.Ytcdblopnaimfoaa

/- All free zones of a pool, handed out domain by domain. Condition: the geometry is small. -/
namespace Go.Proofs.Ytcdblopnaimfoaa
open Go.RowKit Go.Conc

/-- The free zones of the first domains, each with its domain. -/
def pre (C : Nat → List Int) : Nat → List (Array Value)
  | 0 => []
  | d + 1 => pre C d ++ (C d).map fun z => #[.int .i64 (d : Int), .int .i64 z]
theorem pre_get (C : Nat → List Int) {d i : Nat} (hi : i < (C d).length) : ∀ n, d < n → (pre C n)[(pre C d).length + i]? = some #[.int .i64 (d : Int), .int .i64 (C d)[i]]
  | 0, h => absurd h (Nat.not_lt_zero _)
  | n + 1, h => by
    rw [pre]
    by_cases e : d = n
    · subst e
      rw [List.getElem?_append_right (by omega), Nat.add_sub_cancel_left]
      simp [hi]
    · have := pre_get C hi n (by omega)
      rw [List.getElem?_append_left (List.getElem?_eq_some_iff.1 this).1, this]
/-- What a pool's iterator may turn. -/
def StP (B Dn : Nat) (qc : Nat → Nat) (X Y : World) : Prop := Fr (fun k => (∃ d, d < Dn ∧ k = qc d) ∨ B ≤ k) X Y ∧
  ∀ d, d < Dn → ∀ cap xs s r, X.heap[qc d]? = some (.chan cap xs false s r false) → ∃ s' r', Y.heap[qc d]? = some (.chan cap xs false s' r' false)

section
variable {base : Nat} {W W' w : World} {p Dn Zn : Nat} {S B P O : Int} {l : Value} {qb qc : Nat → Nat} {C : Nat → List Int} {T : Nat → Prop}
theorem allP (p : Nat) (w : World) : Calls Try.prog 53 #[.pointer (some ⟨p, 0, none⟩)] w fun e w' =>
    e = .returned (.func (.func 65) #[] #[.pointer (some ⟨w.heap.size, 0, none⟩)]) ∧ w' = w.alloc (.cells #[.pointer (some ⟨p, 0, none⟩)] 68) := by
  go_enter Try.func53, Try.ntmps53
  go_wp2
  go_ret
  exact ⟨rfl, rfl⟩
theorem PoolAt.stq (h : PoolAt base W p Dn Zn S B P O l qb qc C) {d : Nat} (hd : d < Dn) (hst : StQ (qc d) W W') : PoolAt base W' p Dn Zn S B P O l qb qc C := by
  have hq := h.q d hd
  obtain ⟨h1, s, r, h2⟩ := hq
  obtain ⟨s', r', h3⟩ := hst.2 _ _ _ _ h2
  have := h.chan hd hst.1 (L := C d) ⟨hst.1.heap h1 (h.cne hd h1), s', r', h3⟩ (h.zn d hd)
  have e : setC C d (C d) = C := by
    funext e
    by_cases e1 : e = d
    · subst e1; exact setC_same _ _ _
    · exact setC_other _ _ e1
  rwa [e] at this
theorem StP.of0 {B : Nat} {X Y : World} (hf : Fr (fun k => B ≤ k) X Y) (hB : ∀ d, d < Dn → qc d < B ∧ qc d < X.heap.size) : StP B Dn qc X Y :=
  ⟨hf.mono (fun _ _ h => .inr h), fun d hd cap xs s r h => ⟨s, r, hf.heap h (by have := hB d hd; omega)⟩⟩
theorem StP.ofq (h : ∀ d e, d < Dn → e < Dn → qc d = qc e → d = e) {B : Nat} {d : Nat} (hd : d < Dn) (hst : StQ (qc d) W W') : StP B Dn qc W W' := by
  refine ⟨hst.1.mono (fun k _ e => .inl ⟨d, hd, e⟩), fun e he cap xs s r hx => ?_⟩
  by_cases e1 : e = d
  · subst e1; exact hst.2 _ _ _ _ hx
  · exact ⟨s, r, hst.1.heap hx (fun e2 => e1 (h _ _ he hd e2))⟩

set_option linter.unusedSimpArgs false in
set_option maxRecDepth 100000 in
set_option maxHeartbeats 4000000 in
theorem all_iterP (h : PoolAt base w p Dn Zn S B P O l qb qc C) {bx : Nat} (hbx : w.heap[bx]? = some (.cells #[.pointer (some ⟨p, 0, none⟩)] 68 (0, 0))) {B0 : Nat} (hB : B0 ≤ w.heap.size) (hBf : ∀ d, d < Dn → qc d < B0) (N : Nat → Prop)
    (hN : ∀ k, N k → k < w.heap.size ∧ ¬ PFoot p Dn l qb qc k) :
    IterAt2 Try.prog 65 #[.pointer (some ⟨bx, 0, none⟩)] (pre C Dn) (StP B0 Dn qc) (Fr N) w := by
  intro l0 J Jx hJs hJxs hY h0
  have h' := h
  obtain ⟨g, cap, rfl, hcell⟩ := h.val
  have hdz := h.dz
  have cp := fun i => blk_cell h.pc i
  have cb := fun i => blk_cell hbx i
  have HC := Lib.hid hcell
  have HY := Lib.hid hY
  clear hcell hY
  refine calls_of_marks Try.func65 rfl ?_
  simp only [Try.ntmps65, List.size_toArray, List.length_cons, List.length_nil, Nat.reduceAdd, Nat.reduceSub, Array.replicate_succ, Array.replicate_zero, List.push_toArray, List.append_toArray, List.nil_append, List.cons_append]
  have gy := blk_new w (.cells #[.func (.yield l0) #[] #[]] 46)
  have F1 := (Fr.refl (fun _ => False) w).alloc (.cells #[.func (.yield l0) #[] #[]] 46)
  have h1 := h.fr0 F1
  have cp1 := fun i => blk_cell h1.pc i
  have cb1 := fun i => blk_cell (F1.heap hbx id) i
  have hinj := h.inj
  have hqs : ∀ d, d < Dn → qc d < B0 ∧ qc d < w.heap.size := fun d hd => ⟨hBf d hd, (h.q d hd).cl⟩
  have J1 : J 0 (w.alloc (.cells #[.func (.yield l0) #[] #[]] 46)) := hJs _ _ _ h0 (StP.of0 (F1.mono (fun _ _ h => h.elim)) hqs)
  have hsz : (w.alloc (.cells #[.func (.yield l0) #[] #[]] 46)).heap.size = w.heap.size + 1 := by simp
  go_wp2_with fail
  generalize w.alloc (.cells #[.func (.yield l0) #[] #[]] 46) = w1 at gy F1 h1 cp1 cb1 J1 hsz ⊢
  clear cp cb cp1 cb1
  have hlw : w.heap.size ≤ w1.heap.size := by omega
  have HJ := Lib.hid hJs
  have HX := Lib.hid hJxs
  clear hJs hJxs h0 h'
  refine wp_loop_P (ds0 := []) (fun t => (decide (3 ≤ t) && decide (t ≤ 6)) || decide (12 ≤ t))
    (fun u ds W => ∃ d : Nat, d ≤ Dn ∧ u 12 = .int .i64 d ∧ Marks ds W ∧ (∀ D ∈ ds, w.heap.size + 1 ≤ D) ∧ PoolAt base W p Dn Zn S B P O (.slice (some ⟨g, 0, none⟩) Dn cap) qb qc C ∧ W.heap[w.heap.size]? = some (.cells #[.func (.yield l0) #[] #[]] 46 (0, 0)) ∧
      (∀ d, d < Dn → W.cell? ⟨g, d, none⟩ = some (.pointer (some ⟨qb d, 0, none⟩))) ∧ w.heap.size + 1 ≤ W.heap.size ∧ J (pre C d).length W) (fun u _ => Dn - (intOf (u 12)).toNat)
    ⟨0, by omega, rfl, Marks.nil _, by simp, h1, gy, fun d hd => F1.cell (HC.out d hd) id, by omega, J1⟩ ?_
  clear J1 gy h1 F1 HC hlw hsz h hbx
  intro u ds W hrel
  obtain ⟨d, hd, h12, hM, hge, h, gy, hcell, hsz, hJ⟩ := hrel
  simp only [mixP, List.mapIdx_cons, List.mapIdx_nil, Nat.reduceLeDiff, decide_true, decide_false, Nat.reduceAdd, Nat.zero_add, Bool.and_true, Bool.and_false, Bool.true_and, Bool.false_and, Bool.or_false, Bool.or_true, Bool.false_or, Bool.true_or, if_true, if_false, Bool.false_eq_true, h12]
  clear h12
  by_cases hlt : d < Dn
  · have hc := hcell d hlt
    have HC := Lib.hid hcell
    clear hcell
    have hq := h.q d hlt
    have hll := h.len hlt
    go_wp2_with fail
    have gd := blk_new W (.cells #[.int .i64 d] 3)
    refine (allQ (qb d) (W.alloc (.cells #[.int .i64 d] 3))).mono ?_
    rintro e W' ⟨rfl, rfl⟩
    have hF := ((Fr.refl (fun _ => False) W).alloc (.cells #[.int .i64 d] 3)).alloc (.cells #[.pointer (some ⟨qb d, 0, none⟩)] 33)
    have gd4 := blk_alloc gd (.cells #[.pointer (some ⟨qb d, 0, none⟩)] 33)
    have gx4 := blk_new (W.alloc (.cells #[.int .i64 d] 3)) (.cells #[.pointer (some ⟨qb d, 0, none⟩)] 33)
    rw [World.size_alloc] at gx4
    have hS4 : ((W.alloc (.cells #[.int .i64 d] 3)).alloc (.cells #[.pointer (some ⟨qb d, 0, none⟩)] 33)).heap.size = W.heap.size + 2 := by simp
    have hsz1 : (W.alloc (.cells #[.int .i64 d] 3)).heap.size = W.heap.size + 1 := by simp
    have hMl : ∀ D ∈ ds, D < W.heap.size := fun D hD => hM.lt hD
    have hpl : ∀ k, PFoot p Dn (.slice (some ⟨g, 0, none⟩) Dn cap) qb qc k → k < W.heap.size := fun k hk => (h.lt hk).2
    have J4 := HJ.out _ _ _ hJ (StP.of0 (B := B0) (hF.mono (fun _ _ h => h.elim)) (fun d hd => ⟨(hqs d hd).1, (h.q d hd).cl⟩))
    replace h := h.fr0 hF
    replace hM := hM.fr hF (fun _ _ => id)
    replace gy := hF.heap gy id
    have hcell4 : ∀ d, d < Dn → ((W.alloc (.cells #[.int .i64 d] 3)).alloc (.cells #[.pointer (some ⟨qb d, 0, none⟩)] 33)).cell? ⟨g, d, none⟩ = some (.pointer (some ⟨qb d, 0, none⟩)) → True := fun _ _ _ => trivial
    have HC4 := Lib.hid (fun k hk => hF.cell (HC.out k hk) id : ∀ k, k < Dn → _)
    obtain ⟨nb, hnb⟩ : ∃ nb, W.heap.size = nb := ⟨_, rfl⟩
    rw [hnb] at gd4 gx4 hS4 hMl hpl hsz1 hsz
    try rw [hsz1]
    try rw [hnb]
    clear hcell4 HC hsz1 hF gd hJ hq hc
    generalize (W.alloc (.cells #[.int .i64 d] 3)).alloc (.cells #[.pointer (some ⟨qb d, 0, none⟩)] 33) = W4 at h hM gy HC4 J4 gd4 gx4 hS4 ⊢
    clear hnb W
    have gl : g < nb := hpl g (.inr (.inl rfl))
    go_wp2_with fail
    refine wp_rangeIt2 (gf := 61) rfl (enters Try.func61 rfl (by decide)) (xs := pairs (ints (C d))) (St := StQ (qc d)) (Kp := Fr (NB N W4.heap.size)) ?_
      (fun i W => PoolAt base W p Dn Zn S B P O (.slice (some ⟨g, 0, none⟩) Dn cap) qb qc C ∧ W.heap[w.heap.size]? = some (.cells #[.func (.yield l0) #[] #[]] 46 (0, 0)) ∧ W.heap[nb]? = some (.cells #[.int .i64 d] 3 (0, 0)) ∧
        (∀ d, d < Dn → W.cell? ⟨g, d, none⟩ = some (.pointer (some ⟨qb d, 0, none⟩))) ∧ Marks ds W ∧ nb + 2 ≤ W.heap.size ∧ J ((pre C d).length + i) W)
      (fun c W => c = .ret ∧ Marks ds W ∧ nb + 2 ≤ W.heap.size ∧ Jx W) ?_ ?_ ?_ ?_ ?_ ?_ ?_ ?_ ?_ ?_ ?_ ?_
    · intro x hx
      unfold pairs at hx
      obtain ⟨j, hj, rfl⟩ := List.mem_mapIdx.1 hx
      rfl
    · rintro i X Y ⟨a1, a2, a3, a4, a5, a6, a7⟩ hf
      rw [hS4] at hf
      exact ⟨a1.fr hf (by rintro k hk (e | e) <;> have := hpl k hk <;> omega), hf.heap a2 (by rintro (e | e) <;> omega), hf.heap a3 (by rintro (e | e) <;> omega), fun k hk => hf.cell (a4 k hk) (by rintro (e | e) <;> simp at e <;> omega), a5.fr hf (by rintro D hD (e | e) <;> have := hMl D hD <;> omega), by have := hf.size; omega,
        HJ.out _ _ _ a7 (StP.of0 (hf.mono (by rintro k _ (e | e) <;> omega)) (fun k hk => ⟨(hqs k hk).1, (a1.q k hk).cl⟩))⟩
    · rintro c X Y ⟨rfl, a5, a6, a7⟩ hf
      rw [hS4] at hf
      refine ⟨rfl, a5.fr hf (by rintro D hD (e | e) <;> have := hMl D hD <;> omega), by have := hf.size; omega, HX.out _ _ a7 (StP.of0 (hf.mono (by rintro k _ (e | e) <;> omega)) (fun k hk => ⟨(hqs k hk).1, by have := (hqs k hk).2; omega⟩))⟩
    · rintro i X Y ⟨a1, a2, a3, a4, a5, a6, a7⟩ hst
      have hne : ∀ (k : Nat) (cs : Array Value) (ty : TypeId), X.heap[k]? = some (.cells cs ty (0, 0)) → k ≠ qc d := fun k cs ty hk => a1.cne hlt hk
      exact ⟨a1.stq hlt hst, hst.1.heap a2 (hne _ _ _ a2), hst.1.heap a3 (hne _ _ _ a3), fun k hk => hst.1.cell (a4 k hk) (by
          obtain ⟨cur, hcur⟩ := row_obj a1.row (k := g) rfl
          exact hne _ _ _ hcur), a5.fr hst.1 (fun D hD e => by obtain ⟨_, s, r, h4⟩ := a1.q d hlt; exact ne_obj (a5.2 D hD) h4 (by intro e; cases e) e), by have := hst.1.size; omega,
        HJ.out _ _ _ a7 (StP.ofq hinj hlt hst)⟩
    · rintro c X Y ⟨rfl, a5, a6, a7⟩ hst
      have hqd := hqs d hlt
      exact ⟨rfl, a5.fr hst.1 (fun D hD e => by have := hge D hD; omega), by have := hst.1.size; omega, HX.out _ _ a7 (StP.ofq hinj hlt hst)⟩
    · rintro X Y hs hst k hk
      have hqd := hqs d hlt
      rw [hS4] at hk hs
      rcases hk with rfl | rfl
      · exact hst.1.block _ (by omega) (by omega)
      · exact hst.1.block _ (by omega) (by omega)
    · intro X Y Z h1 h2
      exact h1.trans h2 (fun _ _ h => h)
    · intro X Y hs hf
      exact hf.mono (by rintro k _ (e | e); exact .inr (.inl e); exact .inr (.inr e))
    · exact ⟨h, gy, gd4, HC4.out, hM, by omega, J4⟩
    · intro X hf hs
      have h2 := h.fr0 hf
      have hi := all_iterQ (w := X) (h2.q d hlt) (by have := hdz; omega) hll (hf.heap gx4 id)
      refine hi.two fun X2 Y hXY => ⟨hXY.size, fun k h1 h2 => hXY.block k h2 ?_⟩
      rintro (e | e | e)
      · have := (hN k e).1; omega
      · omega
      · omega
    · rintro i args X hx ⟨a1, a2, a3, a4, a5, a6, a7⟩ hX
      unfold pairs at hx
      rw [List.getElem?_mapIdx] at hx
      obtain ⟨y, hy, rfl⟩ := Option.map_eq_some_iff.1 hx
      obtain ⟨hi, rfl⟩ := List.getElem?_eq_some_iff.1 hy
      have hiL : i < (C d).length := by rwa [ints_length] at hi
      rw [ints_get _ hiL]
      clear hx hy
      rw [zip2]
      have hfn : ∀ f, (Fence.wide.inRound (W4.heap.size + 1)).fn f := fun _ => trivial
      have hdp : (Fence.wide.inRound (W4.heap.size + 1)).depth = none := rfl
      gi_wp2_with (rw [Oper.semAt_eq _ _ _ (fun c h => by cases h)]; go_simp; try go_bits)
      refine ⟨KeepBk.refl _ _, fun X2 hf2 hs2 => ?_⟩
      rw [hS4] at hf2 hX hfn hdp ⊢
      have b1 := a1.fr hf2 (by rintro k hk (e | e) <;> have := hpl k hk <;> omega)
      have b2 := hf2.heap a2 (by rintro (e | e) <;> omega)
      have b3 := hf2.heap a3 (by rintro (e | e) <;> omega)
      have b4 : ∀ d, d < Dn → X2.cell? ⟨g, d, none⟩ = some (.pointer (some ⟨qb d, 0, none⟩)) := fun k hk => hf2.cell (a4 k hk) (by rintro (e | e) <;> simp at e <;> omega)
      have b5 := a5.fr hf2 (by rintro D hD (e | e) <;> have := hMl D hD <;> omega)
      have b7 := HJ.out _ _ _ a7 (StP.of0 (B := B0) (hf2.mono (by rintro k _ (e | e) <;> omega)) (fun k hk => ⟨(hqs k hk).1, (a1.q k hk).cl⟩))
      have hget := pre_get C hiL Dn hlt
      obtain ⟨hlen, hget⟩ := List.getElem?_eq_some_iff.1 hget
      obtain ⟨fn, tmps, assign, body, hyy, hR⟩ := HY.out _ hlen X2 b7
      rw [hget] at hyy
      have hB4 := Lib.hid b4
      have hB7 := Lib.hid (show nb + 2 ≤ X2.heap.size by omega)
      clear a1 a2 a3 a4 a5 a7 b4 b7 hget
      have ca := fun i => blk_cell b2 i
      have cd := fun i => blk_cell b3 i
      gi_wp2_with (rw [Oper.semAt_eq _ _ _ (fun c h => by cases h)]; go_simp; try go_bits)
      refine ⟨rfl, RoundIn.mono (show RoundIn (Fence.wide.inRound (nb + 2 + 1)) 0 Try.prog l0 fn tmps assign body X2 _ from hR) ?_⟩
      have hfoot : ∀ k, PFoot p Dn (.slice (some ⟨g, 0, none⟩) Dn cap) qb qc k → ¬ N k := fun k hk hn => (hN k hn).2 hk
      have hkeep : ∀ Y, Fr N X2 Y → KeepBk (nb + 2) X2 Y ∧ PoolAt base Y p Dn Zn S B P O (.slice (some ⟨g, 0, none⟩) Dn cap) qb qc C ∧ Y.heap[w.heap.size]? = some (.cells #[.func (.yield l0) #[] #[]] 46 (0, 0)) ∧ Y.heap[nb]? = some (.cells #[.int .i64 d] 3 (0, 0)) ∧
          (∀ d, d < Dn → Y.cell? ⟨g, d, none⟩ = some (.pointer (some ⟨qb d, 0, none⟩))) ∧ Marks ds Y ∧ nb + 2 ≤ Y.heap.size ∧ Fr (NB N (nb + 2)) X Y := fun Y hY => by
        refine ⟨?_, b1.fr hY hfoot, hY.heap b2 (fun e => by have := (hN _ e).1; omega), hY.heap b3 (fun e => by have := (hN _ e).1; omega), fun k hk => hY.cell (hB4.out k hk) (hfoot _ (.inr (.inl rfl))), b5.fr hY (fun D hD e => by have := (hN _ e).1; have := hge D hD; omega), by have := hY.size; have := hB7.out; omega,
          (hf2.mono (by rintro k _ (e | e); exact .inr (.inl e); exact .inr (.inr e))).trans hY (fun _ _ e => .inl e)⟩
        rintro k (rfl | rfl)
        · exact hY.block _ (by omega) (fun e => by have := (hN _ e).1; omega)
        · exact hY.block _ (by omega) (fun e => by have := (hN _ e).1; omega)
      have HK := Lib.hid hkeep
      clear hkeep hfoot ca cd
      rintro e Y (⟨rfl, hJ3, hT3⟩ | ⟨rfl, hJx3, hT3⟩)
      · obtain ⟨k1, k2, k3, k4, k5, k6, k7, k8⟩ := HK.out Y hT3
        gi_wp2_with (rw [Oper.semAt_eq _ _ _ (fun c h => by cases h)]; go_simp; try go_bits)
        exact ⟨k1, ⟨k2, k3, k4, k5, k6, k7, hJ3⟩, k8⟩
      · obtain ⟨k1, k2, k3, k4, k5, k6, k7, k8⟩ := HK.out Y hT3
        gi_wp2_with (rw [Oper.semAt_eq _ _ _ (fun c h => by cases h)]; go_simp; try go_bits)
        exact ⟨k1, ⟨rfl, k6, k7, hJx3⟩, k8⟩
    · rintro X ⟨a1, a2, a3, a4, a5, a6, a7⟩ hm
      rw [hS4] at hm ⊢
      have e1 : (pre C d).length + (pairs (ints (C d))).length = (pre C (d + 1)).length := by rw [pre, List.length_append]; simp [pairs, ints]
      rw [e1] at a7
      have HE := Lib.hid a7
      clear e1 a7
      go_wp2_with fail
      refine ⟨rfl, (nb + 2) :: ds, rfl, ⟨d + 1, by omega, by show Value.int IntKind.i64 ((d : Int) + 1) = _; simp, a5.cons hm (fun h => by have := hMl _ h; omega), fun D hD => ?_, a1, a2, a4, by omega, HE.out⟩, ?_⟩
      · rcases List.mem_cons.1 hD with rfl | hD
        · omega
        · exact hge D hD
      · show Dn - (intOf (.int .i64 ((d : Int) + 1))).toNat < _
        simp only [intOf]
        omega
    · rintro c X ⟨rfl, a5, a6, a7⟩ hm
      rw [hS4] at hm ⊢
      have hM9 : Marks ((nb + 2) :: ds) X := a5.cons hm (fun h => by have := hMl _ h; omega)
      have HE := Lib.hid a7
      clear a7
      go_wp2_with fail
      refine marks_all ((nb + 2) :: ds) _ hM9 ?_
      intro w9 hw9
      refine ⟨_, results_none rfl _ _ _, ⟨_, rfl⟩, .inr (HX.out _ _ HE.out (StP.of0 (hw9.mono (fun k _ e => ?_)) (fun k hk => ⟨(hqs k hk).1, by have := (hqs k hk).2; omega⟩)))⟩
      rcases List.mem_cons.1 e with rfl | e
      · omega
      · have := hge _ e; omega
  · obtain rfl : d = Dn := by omega
    have HE := Lib.hid hJ
    clear hJ hcell
    go_wp2_with fail
    refine marks_all ds _ hM ?_
    intro w9 hw9
    exact ⟨_, results_none rfl _ _ _, ⟨_, rfl⟩, .inl (HJ.out _ _ _ HE.out (StP.of0 (hw9.mono (fun k _ e => by have := hge _ e; omega)) (fun k hk => ⟨(hqs k hk).1, (h.q k hk).cl⟩)))⟩
end
end Go.Proofs.Ytcdblopnaimfoaa

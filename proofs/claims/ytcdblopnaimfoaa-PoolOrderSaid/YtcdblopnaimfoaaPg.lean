/- A pool's functions: Drop, Pair. Condition: the geometry is small. -/
import Derived.Test.YtcdblopnaimfoaaPf
namespace Go.Proofs.Ytcdblopnaimfoaa
open Go.RowKit Go.Conc

section
variable {base : Nat} {W W' w : World} {p Dn Zn : Nat} {S B P O : Int} {l : Value} {qb qc : Nat → Nat} {C : Nat → List Int} {T : Nat → Prop}
def neB (z : Int) : Int → Bool := fun x => x != z
theorem neB_filter {z : Int} {L : List Int} (h : z ∉ L) : L.filter (neB z) = L := by
  rw [List.filter_eq_self]
  intro a ha
  unfold neB
  have : a ≠ z := fun e => h (e ▸ ha)
  simpa using this
theorem neB_len {z : Int} : ∀ {L : List Int}, L.Nodup → z ∈ L → (L.filter (neB z)).length + 1 = L.length
  | [], _, h => by simp at h
  | a :: t, hn, h => by
    by_cases e : a = z
    · subst e
      have hnt := (List.nodup_cons.1 hn).1
      rw [List.filter_cons, if_neg (by simp [neB]), neB_filter hnt]
      rfl
    · have hzt : z ∈ t := by rcases List.mem_cons.1 h with h | h; exact absurd h.symm e; exact h
      have := neB_len (List.nodup_cons.1 hn).2 hzt
      rw [List.filter_cons, if_pos (by simpa [neB] using e)]
      simp
      omega
theorem zones_filter {d : Nat} {L : List Int} (h : ZonesOf Zn d L) (f : Int → Bool) : ZonesOf Zn d (L.filter f) :=
  ⟨h.1.filter _, fun z hz => h.2 z (List.mem_filter.1 hz).1⟩

set_option linter.unusedSimpArgs false in
set_option maxRecDepth 100000 in
set_option maxHeartbeats 2000000 in
theorem drop_out (h : PoolAt base w p Dn Zn S B P O l qb qc C) {z : Int} (hz : domP Dn Zn z < 0) : Calls Try.prog 70 #[.pointer (some ⟨p, 0, none⟩), .int .i64 z] w fun e w' => e = .returned (.int .i64 15) ∧ Fr (fun _ => False) w w' := by
  have hd := domainI h.sm z
  obtain ⟨d, hdd⟩ : ∃ d, domP Dn Zn z = d := ⟨_, rfl⟩
  rw [hdd] at hd hz
  have hdz := h.dz
  have HD := Lib.hid hd
  clear hdd hd
  have F1 := (Fr.refl (fun _ => False) w).alloc (.cells #[.int .i64 z] 3)
  have g1 := blk_new w (.cells #[.int .i64 z] 3)
  have h1 := h.fr0 F1
  go_enter Try.func70, Try.ntmps70
  go_wp2_with fail
  generalize w.alloc (.cells #[.int .i64 z] 3) = w1 at F1 g1 h1 ⊢
  refine (wpIn_wide (n := 0)).1 ?_
  refine regionIn_seq (fun _ V => Fr (fun _ => False) w1 V) rfl (by kernel_rfl) (by kernel_rfl) (by kernel_rfl) (fun _ => trivial) rfl (Fr.refl _ _).drew ?_
  iterate 7
    apply SeqR.step
    · rfl
    · intro d2 V hV ht
      have h3 := h1.fr0 hV
      have cp := fun i => blk_cell h3.pc i
      have c1 := fun i => blk_cell (hV.heap g1 id) i
      have hdV := HD.out V
      simp [Oper.gives, execOp, Act.eval, go_sem, cp, c1]
      first
      | exact ⟨rfl, hV⟩
      | (refine callsIn_wide.2 (hdV.mono ?_); rintro e W9 ⟨rfl, hb⟩; exact ⟨_, rfl, rfl, hV.trans (Fr.of_below (S := fun _ => False) hb) (fun _ _ h => h)⟩)
    simp only [Act.put, List.setIfInBounds_toArray, List.set_cons_succ, List.set_cons_zero]
  refine SeqR.nil fun V hV => ?_
  go_wp2_with fail
  go_ret
  exact ⟨rfl, F1.trans hV (fun _ _ h => h)⟩
set_option linter.unusedSimpArgs false in
set_option maxRecDepth 100000 in
set_option maxHeartbeats 2000000 in
theorem drop_calls (h : PoolAt base w p Dn Zn S B P O l qb qc C) {z : Int} {d : Nat} (hlt : d < Dn) (hdd : domP Dn Zn z = d) : Calls Try.prog 70 #[.pointer (some ⟨p, 0, none⟩), .int .i64 z] w fun e w' =>
    e = .returned (.int .i64 (if hasB C Dn z = true then 0 else 15)) ∧ PoolAt base w' p Dn Zn S B P O l qb qc (setC C d ((C d).filter (neB z))) ∧ Fr (Chs Dn qc) w w' := by
  have hd := domainI h.sm z
  rw [hdd] at hd
  have hdz := h.dz
  have hmem := hasB_at h hlt hdd
  have HM := Lib.hid hmem
  obtain ⟨r, hr⟩ : ∃ r : Int, (if hasB C Dn z = true then (0 : Int) else 15) = r := ⟨_, rfl⟩
  rw [hr]
  have HR := Lib.hid hr
  clear hr
  have HD := Lib.hid hd
  clear hdd hd hmem
  have F1 := (Fr.refl (fun _ => False) w).alloc (.cells #[.int .i64 z] 3)
  have g1 := blk_new w (.cells #[.int .i64 z] 3)
  have h1 := h.fr0 F1
  have hcl := fun e (he : e < Dn) => (h.q e he).cl
  go_enter Try.func70, Try.ntmps70
  go_wp2_with fail
  generalize w.alloc (.cells #[.int .i64 z] 3) = w1 at F1 g1 h1 ⊢
  refine (wpIn_wide (n := 0)).1 ?_
  refine regionIn_seq (fun _ V => Fr (fun _ => False) w1 V) rfl (by kernel_rfl) (by kernel_rfl) (by kernel_rfl) (fun _ => trivial) rfl (Fr.refl _ _).drew ?_
  iterate 7
    apply SeqR.step
    · rfl
    · intro d2 V hV ht
      have h3 := h1.fr0 hV
      have cp := fun i => blk_cell h3.pc i
      have c1 := fun i => blk_cell (hV.heap g1 id) i
      have hdV := HD.out V
      simp [Oper.gives, execOp, Act.eval, go_sem, cp, c1]
      first
      | exact ⟨rfl, hV⟩
      | (refine callsIn_wide.2 (hdV.mono ?_); rintro e W9 ⟨rfl, hb⟩; exact ⟨_, rfl, rfl, hV.trans (Fr.of_below (S := fun _ => False) hb) (fun _ _ h => h)⟩)
    simp only [Act.put, List.setIfInBounds_toArray, List.set_cons_succ, List.set_cons_zero]
  refine SeqR.nil fun V hV => ?_
  have h3 := h1.fr0 hV
  have h3' := h3
  have gz := hV.heap g1 id
  obtain ⟨g, cap, rfl, hcell⟩ := h3.val
  have cp := fun i => blk_cell h3.pc i
  have hc := hcell d hlt
  clear hcell
  have hlen := h3.len hlt
  have hk := keepQ (h3.q d hlt) (by omega) hlen 75 #[.pointer (some ⟨w.heap.size, 0, none⟩)] (neB z) (enters Try.func75 rfl (by decide)) (fun x V2 hV2 => by
    have := dropC w.heap.size z x V2 (hV2.heap gz (by have := hcl d hlt; omega))
    simpa [neB] using this)
  have hzf := zones_filter (h3.zn d hlt) (neB z)
  have HZ := Lib.hid hzf
  have HN := Lib.hid (h3.zn d hlt).1
  clear hzf
  by_cases hm : z ∈ C d
  · have hlf := neB_len HN.out hm
    have e1 : (C d).length - ((C d).filter (neB z)).length = 1 := by omega
    rw [e1] at hk
    obtain rfl : r = 0 := by rw [← HR.out, if_pos (HM.out.2 hm)]
    clear e1 hlf hm
    go_wp2_with fail
    refine hk.mono ?_
    rintro e w4 ⟨rfl, hq4, hf4⟩
    have h5 := h3'.chan hlt hf4 hq4 HZ.out
    clear hk
    go_wp2_with fail
    go_ret
    exact ⟨rfl, h5, ((F1.mono (fun _ _ h => h.elim)).trans hV (fun _ _ h => h.elim)).trans hf4 (fun k _ e => ⟨d, hlt, e⟩)⟩
  · have e1 : (C d).length - ((C d).filter (neB z)).length = 0 := by rw [neB_filter hm]; omega
    rw [e1] at hk
    obtain rfl : r = 15 := by rw [← HR.out, if_neg (fun hh => hm (HM.out.1 hh))]
    clear e1 hm
    go_wp2_with fail
    refine hk.mono ?_
    rintro e w4 ⟨rfl, hq4, hf4⟩
    have h5 := h3'.chan hlt hf4 hq4 HZ.out
    clear hk
    go_wp2_with fail
    go_ret
    exact ⟨rfl, h5, ((F1.mono (fun _ _ h => h.elim)).trans hV (fun _ _ h => h.elim)).trans hf4 (fun k _ e => ⟨d, hlt, e⟩)⟩

theorem pair_none (h : PoolAt base w p Dn Zn S B P O l qb qc C) (h0 : pairsP Dn C = 0) : Calls Try.prog 51 #[.pointer (some ⟨p, 0, none⟩)] w fun e w' => e = .returned (.tuple #[.int .i64 0, .int .i64 0, .int .i64 15]) ∧ Fr (fun _ => False) w w' := by
  have hp := pairs_calls h
  rw [h0] at hp
  clear h0
  go_enter Try.func51, Try.ntmps51
  go_wp2_with fail
  refine hp.mono ?_
  rintro e w1 ⟨rfl, hf⟩
  clear hp
  go_wp2
  go_ret3
  exact ⟨rfl, hf⟩
set_option maxHeartbeats 1000000 in
theorem pair_some (h : PoolAt base w p Dn Zn S B P O l qb qc C) (h0 : pairsP Dn C ≠ 0) {a b : Nat} (ha : a < Dn) (hb : b < Dn) (hab : b ≠ a) (hfa : fullP C (-1) Dn = a) (hfb : fullP C a Dn = b) {x y : Int} {ta tb : List Int} (hca : C a = x :: ta) (hcb : C b = y :: tb) :
    Calls Try.prog 51 #[.pointer (some ⟨p, 0, none⟩)] w fun e w' => e = .returned (.tuple #[.int .i64 x, .int .i64 y, .int .i64 0]) ∧ PoolAt base w' p Dn Zn S B P O l qb qc (setC (setC C a ta) b tb) ∧ Fr (Chs Dn qc) w w' := by
  have hp := pairs_calls h
  obtain ⟨n, hn⟩ : ∃ n, pairsP Dn C = n := ⟨_, rfl⟩
  rw [hn] at hp h0
  have hb0 : (n == 0) = false := by simpa using h0
  have HP := Lib.hid hp
  have HA := Lib.hid hfa
  have HB := Lib.hid hfb
  have HCA := Lib.hid hca
  have HCB := Lib.hid hcb
  clear hn hp hfa hfb hca hcb h0
  go_enter Try.func51, Try.ntmps51
  go_wp2_with fail
  refine HP.out.mono ?_
  rintro e w1 ⟨rfl, f1⟩
  have h1 := h.fr0 f1
  have c1 := fullest_calls h1 (-1)
  rw [HA.out] at c1
  go_wp2_with fail
  refine c1.mono ?_
  rintro e w2 ⟨rfl, f2⟩
  clear c1
  have h2 := h1.fr0 f2
  have c2 := fullest_calls h2 (a : Int)
  rw [HB.out] at c2
  go_wp2_with fail
  refine c2.mono ?_
  rintro e w3 ⟨rfl, f3⟩
  clear c2
  have h3 := h2.fr0 f3
  have c3 := take_some h3 a ha HCA.out
  go_wp2_with fail
  refine c3.mono ?_
  rintro e w4 ⟨rfl, h4, f4⟩
  clear c3
  have c4 := take_some h4 b hb (x := y) (t := tb) (by rw [setC_other _ _ hab]; exact HCB.out)
  go_wp2_with fail
  refine c4.mono ?_
  rintro e w5 ⟨rfl, h5, f5⟩
  clear c4
  go_wp2
  go_ret3
  exact ⟨rfl, h5, ((((f1.mono (fun _ _ h => h.elim)).trans f2 (fun _ _ h => h.elim)).trans f3 (fun _ _ h => h.elim)).trans f4 (fun k _ e => ⟨a, ha, e⟩)).trans f5 (fun k _ e => ⟨b, hb, e⟩)⟩
end
end Go.Proofs.Ytcdblopnaimfoaa

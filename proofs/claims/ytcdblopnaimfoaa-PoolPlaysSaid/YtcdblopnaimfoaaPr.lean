/- The walk of the law on a pool's plays. No condition. -/
import Derived.Test.YtcdblopnaimfoaaP6
import Derived.Test.YtcdblopnaimfoaaArgs
namespace Go.Proofs.Ytcdblopnaimfoaa
open Go.RowKit Go.Conc

set_option linter.unusedSimpArgs false in
set_option linter.unusedVariables false in
set_option maxRecDepth 100000 in
set_option maxHeartbeats 8000000 in
theorem poolPlays_walk (w : World) (D Z S B P O : Int) (v : Value) (ops : List (Int × Int)) (_ : ops.length ≤ maxLen) (_ : ∀ z ∈ ops, Fits z.1 ∧ Fits z.2) (hs : Sl2 w w.heap.size v ops) (zone : Int) :
    Calls Try.prog 13 #[.agg #[.int .i64 D, .int .i64 Z, .int .i64 S, .int .i64 B, .int .i64 P, .int .i64 O], v, .int .i64 zone] w fun e w' => e = .returned (.bool true) ∧ Below w.heap.size w w' := by
  obtain ⟨a, cap0, rfl, hc⟩ := hs
  have HC := Lib.hid hc
  clear hc
  have g0 := blk_new w (.cells #[.int .i64 D, .int .i64 Z, .int .i64 S, .int .i64 B, .int .i64 P, .int .i64 O] 42)
  have b0 : Below w.heap.size w (w.alloc (.cells #[.int .i64 D, .int .i64 Z, .int .i64 S, .int .i64 B, .int .i64 P, .int .i64 O] 42)) := (Below.refl _ w).alloc (Nat.le_refl _) _
  have hs0 : (w.alloc (.cells #[.int .i64 D, .int .i64 Z, .int .i64 S, .int .i64 B, .int .i64 P, .int .i64 O] 42)).heap.size = w.heap.size + 1 := by simp
  go_enter Try.func13, Try.ntmps13
  go_wp2_with fail
  generalize w.alloc (.cells #[.int .i64 D, .int .i64 Z, .int .i64 S, .int .i64 B, .int .i64 P, .int .i64 O] 42) = w0 at g0 b0 hs0 ⊢
  refine (anchor10 w0).mono ?_
  rintro e w1 ⟨rfl, hb⟩
  have f1 := Fr.of_below (S := fun _ => False) hb
  have g1 := f1.heap g0 id
  have b1 := b0.trans (hb.mono (by omega))
  have hs1 : w.heap.size + 1 ≤ w1.heap.size := by have := hb.size; omega
  clear hb f1 b0 g0 hs0
  have c1 := fun i => blk_cell g1 i
  by_cases hl : 60 < ops.length
  · go_wp2
    go_ret
    exact ⟨rfl, b1⟩
  cases hr : rightB D Z S B P O with
  | false =>
    have hst := fun V => started_no hr V
    have HST := Lib.hid hst
    clear hst
    have hR := fun V => PGeomRight.revetmentref05_G_Right.calls 1000 D Z S B P O false V (by rw [refRight_eq 1000 (by omega), hr])
    have hN := fun V => newP_no hr V
    have HR := Lib.hid hR
    have HN := Lib.hid hN
    clear hR hN hr
    go_wp2_with fail
    refine (HST.out w1).mono ?_
    rintro e w2 ⟨rfl, f2⟩
    have g2 := f2.heap g1 id
    have c2 := fun o i => blk_cell (blk_alloc g2 o) i
    go_wp2_with fail
    refine (HN.out _).mono ?_
    rintro e w3 ⟨rfl, f3⟩
    have g3 := f3.heap (blk_alloc g2 (.cells #[.int .i64 0, .int .i64 0, .slice none 0 0] 70)) id
    have c3 := fun i => blk_cell g3 i
    have F3 := (f2.alloc (.cells #[.int .i64 0, .int .i64 0, .slice none 0 0] 70)).trans f3 (fun _ _ h => h)
    go_wp2_with fail
    refine (HR.out _).mono ?_
    rintro e w4 ⟨rfl, b4⟩
    have F4 := F3.trans (Fr.of_below (S := fun _ => False) b4) (fun _ _ h => h)
    go_wp2
    go_ret
    exact ⟨rfl, b1.trans (F4.below b1.size (fun _ _ => id))⟩
  | true =>
    have hSm := (rightB_iff.1 hr).1
    obtain ⟨Dn, rfl⟩ := Int.eq_ofNat_of_zero_le (by have := hSm.d0; omega : 0 ≤ D)
    obtain ⟨Zn, rfl⟩ := Int.eq_ofNat_of_zero_le (by have := hSm.z0; omega : 0 ≤ Z)
    have hst := fun V => started_ok hSm hr V
    have hdi := fun z V => domainI hSm z V
    have HST := Lib.hid hst
    have HDI := Lib.hid hdi
    clear hst hdi hr
    go_wp2_with fail
    refine (HST.out w1).mono ?_
    rintro e w2 ⟨p, l, qb, qc, rfl, h2, b2⟩
    have hfl : ∀ k, PFoot p Dn l qb qc k → k < w2.heap.size := fun k hk => (h2.lt hk).2
    have f2 := Fr.of_below (S := fun _ => False) b2
    have g2 := f2.heap g1 id
    have bb2 := b1.trans (b2.mono (by omega))
    have hs2 := b2.size
    have hdz := h2.dz
    have hmul : (Dn : Int) * Zn ≤ 512 ∧ 0 ≤ (Dn : Int) * Zn := by
      have h1 : Dn * Zn ≤ 8 * 64 := Nat.mul_le_mul hdz.2.1 hdz.2.2.2
      have h2 : ((Dn * Zn : Nat) : Int) = (Dn : Int) * Zn := by push_cast; rfl
      omega
    go_wp2_with fail
    have hq : Pp w w1 (w2.alloc (.cells #[.int .i64 Dn, .int .i64 Zn, .slice none 0 0] 70)) p Dn Zn S B P O l qb qc (fun _ => []) w2.heap.size (.slice none 0 0) [] :=
      ⟨h2.fr0 ((Fr.refl (fun _ => False) w2).alloc _), ⟨rfl, RdAt.nil _ _, Lk.nil, ⟨by omega, by omega⟩, by omega, hmul⟩, blk_new w2 _, blk_alloc g2 _, bb2.alloc bb2.size _, hfl, hs1⟩
    generalize w2.alloc (.cells #[.int .i64 Dn, .int .i64 Zn, .slice none 0 0] 70) = w3 at hq ⊢
    obtain ⟨nb, hnb⟩ : ∃ nb, w2.heap.size = nb := ⟨_, rfl⟩
    rw [hnb] at hq
    try rw [hnb]
    clear c1 g1 g2 f2 h2 bb2 hs2 b2 b1 hnb hfl w2
    go_loopw [41] (fun i W => ∃ (k : Nat) (C : Nat → List Int) (u : Value) (L : List Int), k ≤ ops.length ∧ i = .int .i64 k ∧ Pp w w1 W p Dn Zn S B P O l qb qc C nb u L) (fun i _ => ops.length - (intOf i).toNat)
    case atStart => exact ⟨0, _, _, _, by omega, rfl, hq⟩
    case round =>
      clear hq
      obtain ⟨k, C, u, L, hk, rfl, hq⟩ := hrel
      have hn := hq.nb1
      by_cases hlt : k < ops.length
      · obtain ⟨bb, o, rfl, hbl, hcell⟩ := HC.out (List.ne_nil_of_length_pos (by omega))
        have hcc := hcell k hlt
        generalize ops[k] = kxy at hcc
        obtain ⟨K, X⟩ := kxy
        obtain ⟨d1, d2⟩ := hcc
        have hB := fun (j : Nat) (u : Value) (h : w.cell? ⟨bb, j, none⟩ = some u) => (World.cell?_of_block (a := ⟨bb, j, none⟩) (hq.bl.block bb hbl)).trans h
        replace d1 := hB _ _ d1
        replace d2 := hB _ _ d2
        clear hB hcell
        rw [← Nat.add_assoc] at d2
        obtain ⟨a9, n9, rfl⟩ := hq.rp.rd.val
        obtain ⟨m9, hm9⟩ : ∃ m9, (ints L).length = m9 := ⟨_, rfl⟩
        rw [hm9] at hq
        clear hm9
        have hq1 := hq.fr0 ((Fr.refl (fun _ => False) wr).alloc (.cells #[.int .i64 K, .int .i64 X] 81))
        have ho := blk_new wr (.cells #[.int .i64 K, .int .i64 X] 81)
        go_upto_region 12 with fail
        obtain ⟨ob, hob⟩ : ∃ ob, wr.heap.size = ob := ⟨_, rfl⟩
        rw [hob] at ho hn
        try rw [hob]
        generalize wr.alloc (.cells #[.int .i64 K, .int .i64 X] 81) = W1 at hq1 ho ⊢
        clear hob d1 d2 hq wr
        have co := fun i => blk_cell ho i
        have cx := fun i => blk_cell hq1.xb i
        have hst := step_calls hq1.po hq1.rp K X
        go_wp2_with fail
        refine hst.mono ?_
        rintro e W2 ⟨C', u', L', rfl, hp2, hr2, hf2⟩
        obtain ⟨a8, n8, rfl⟩ := hr2.rd.val
        obtain ⟨m8, hm8⟩ : ∃ m8, (ints L').length = m8 := ⟨_, rfl⟩
        rw [hm8] at hr2 ⊢
        clear hm8 hst
        have hq2 := hq1.step hp2 hr2 hf2
        have hxb := hf2.heap hq1.xb (fun e => by have := hq1.chw e; omega)
        clear co cx
        have cx := fun i => blk_cell hxb i
        have ex := fun i => blk_frozen hxb i
        have hsm := same_calls hq2.po hq2.rp zone
        have ho2 := hq2.xb
        have cx2 := fun i => blk_cell ho2 i
        go_upto_region 13 with fail
        generalize ((W2.setCell ⟨nb, 0, none⟩ (.int .i64 Dn)).setCell ⟨nb, 1, none⟩ (.int .i64 Zn)).setCell ⟨nb, 2, none⟩ (.slice a8 m8 n8) = W3 at hq2 hsm ho2 cx2 ⊢
        clear cx ex
        go_wp2_with fail
        refine hsm.mono ?_
        rintro e W4 ⟨rfl, hp4, hf4⟩
        have hq4 := hq2.pool hp4 hf4
        clear hsm
        go_wp2_with fail
        go_roundw
        case rel => exact ⟨k + 1, _, _, _, by omega, by go_num, hq4⟩
        case measure => simp [intOf]; omega
      · obtain rfl : k = ops.length := by omega
        go_wp2_with fail
        go_ret
        exact ⟨rfl, hq.bl⟩
end Go.Proofs.Ytcdblopnaimfoaa

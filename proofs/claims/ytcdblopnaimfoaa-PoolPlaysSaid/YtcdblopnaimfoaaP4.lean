/- Several texts in one. No condition. -/
import Derived.Test.YtcdblopnaimfoaaP3

/- The document's pool: most, Pairs, Pair. Conditions: the geometry is small. -/
namespace Go.Proofs.Ytcdblopnaimfoaa
open Go.RowKit Go.Conc

section
variable {w : World} {D : Nat → Prop} {s : Value} {L : List Int} {Dn Zn : Nat} {C : Nat → List Int}
set_option linter.unusedSimpArgs false in
set_option maxRecDepth 100000 in
set_option maxHeartbeats 4000000 in
theorem refMostR (h : RdAt D w s (ints L)) (hz : ∀ z ∈ L, 0 ≤ z ∧ z < 1000) (hl : L.length < 1000) (hZ : 1 ≤ Zn ∧ Zn ≤ 64) (hD : Dn ≤ 8) (but : Int) : Calls Try.prog 74 #[.agg #[.int .i64 Dn, .int .i64 Zn, s], .int .i64 but] w fun e w' =>
    e = .returned (.int .i64 (mostR (fun d => (L.filter (inD Zn d)).length) but Dn Dn)) ∧ Fr (fun _ => False) w w' := by
  obtain ⟨c, hc⟩ : ∃ c : Int → Nat, (fun d => (L.filter (inD Zn d)).length) = c := ⟨_, rfl⟩
  rw [hc]
  have HC := Lib.hid (fun d => congrFun hc d)
  clear hc
  obtain ⟨a, cp, rfl⟩ := h.val
  rw [ints_length] at h ⊢
  have HZ := Lib.hid hz
  clear hz
  have F1 := (Fr.refl (fun _ => False) w).alloc (.cells #[.int .i64 Dn, .int .i64 Zn, .slice a L.length cp] 70)
  have g1 := blk_new w (.cells #[.int .i64 Dn, .int .i64 Zn, .slice a L.length cp] 70)
  have h1 := h.fr F1 (fun _ _ => id)
  have c1 := fun i => blk_cell g1 i
  go_enter Try.func74, Try.ntmps74
  go_wp2_with fail
  generalize w.alloc (.cells #[.int .i64 Dn, .int .i64 Zn, .slice a L.length cp] 70) = w1 at F1 g1 h1 c1 ⊢
  go_wp2_with fail
  go_loopw [5, 6] (fun b i W => ∃ k : Nat, k ≤ Dn ∧ i = .int .i64 ((Dn : Int) - 1 - k) ∧ b = .int .i64 (mostR c but Dn k) ∧ Fr (fun _ => False) w1 W) (fun _ i _ => (intOf i + 1).toNat)
  case atStart => exact ⟨0, by omega, by simp, rfl, Fr.refl _ _⟩
  case round =>
    clear c1
    obtain ⟨k, hk, rfl, rfl, hf⟩ := hrel
    have g2 := hf.heap g1 id
    have h2 := h1.fr hf (fun _ _ => id)
    have hfb := mostR_b c but Dn k hk
    by_cases hlt : k < Dn
    · have hfs : mostR c but Dn (k + 1) = if (Dn : Int) - 1 - k ≠ but ∧ (mostR c but Dn k < 0 ∨ c (mostR c but Dn k) ≤ c ((Dn : Int) - 1 - k)) then (Dn : Int) - 1 - k else mostR c but Dn k := rfl
      obtain ⟨f, hfe⟩ : ∃ f, mostR c but Dn k = f := ⟨_, rfl⟩
      obtain ⟨dd, hdd⟩ : ∃ dd : Int, (Dn : Int) - 1 - k = dd := ⟨_, rfl⟩
      rw [hfe] at hfb hfs ⊢
      rw [hdd] at hfs ⊢
      have HS := Lib.hid hfs
      clear hfs hfe
      go_wp2_with fail
      by_cases hkb : dd = but
      · have e1 : (dd != but) = false := by simpa using hkb
        have e2 : mostR c but Dn (k + 1) = f := by rw [HS.out, if_neg (by simp [hkb])]
        have E2 := Lib.hid e2
        clear e2
        refine (wpIn_wide (n := 0)).1 ?_
        refine regionIn_seq (fun _ V => Fr (fun _ => False) wr V) rfl (by kernel_rfl) (by kernel_rfl) (by kernel_rfl) (fun _ => trivial) rfl (Fr.refl _ _).drew ?_
        iterate 16
          first
          | (apply SeqR.step
             · rfl
             · intro d2 V hV ht
               have c3 := fun i => blk_cell (hV.heap g2 id) i
               simp [Oper.gives, execOp, Act.eval, go_sem, c3, e1]
               exact ⟨rfl, hV⟩)
          | (apply SeqR.pass
             · rfl
             · exact fun d V hV _ => hV)
          simp only [Act.put, List.setIfInBounds_toArray, List.set_cons_succ, List.set_cons_zero]
        refine SeqR.nil fun V hV => ?_
        go_wp2_with fail
        go_roundw
        case rel => exact ⟨k + 1, by omega, by show Value.int IntKind.i64 _ = _; congr 1; omega, by rw [E2.out], hf.trans hV (fun _ _ h => h)⟩
        case measure => simp [intOf]; omega
      · have e1 : (dd != but) = true := by simpa using hkb
        by_cases hf0 : f < 0
        · have e3 : decide (f < 0) = true := decide_eq_true hf0
          have e2 : mostR c but Dn (k + 1) = dd := by rw [HS.out, if_pos ⟨hkb, .inl hf0⟩]
          have E2 := Lib.hid e2
          clear e2
          refine (wpIn_wide (n := 0)).1 ?_
          refine regionIn_seq (fun _ V => Fr (fun _ => False) wr V) rfl (by kernel_rfl) (by kernel_rfl) (by kernel_rfl) (fun _ => trivial) rfl (Fr.refl _ _).drew ?_
          iterate 16
            first
            | (apply SeqR.step
               · rfl
               · intro d2 V hV ht
                 have c3 := fun i => blk_cell (hV.heap g2 id) i
                 simp [Oper.gives, execOp, Act.eval, go_sem, c3, e1, e3]
                 exact ⟨rfl, hV⟩)
            | (apply SeqR.pass
               · rfl
               · exact fun d V hV _ => hV)
            simp only [Act.put, List.setIfInBounds_toArray, List.set_cons_succ, List.set_cons_zero]
          refine SeqR.nil fun V hV => ?_
          go_wp2_with fail
          go_roundw
          case rel => exact ⟨k + 1, by omega, by show Value.int IntKind.i64 _ = _; congr 1; omega, by rw [E2.out], hf.trans hV (fun _ _ h => h)⟩
          case measure => simp [intOf]; omega
        · have e3 : decide (f < 0) = false := decide_eq_false hf0
          obtain ⟨nd, hnd⟩ : ∃ nd, (L.filter (inD Zn dd)).length = nd := ⟨_, rfl⟩
          obtain ⟨nf, hnf⟩ : ∃ nf, (L.filter (inD Zn f)).length = nf := ⟨_, rfl⟩
          have cd : c dd = nd := (HC.out dd).symm.trans hnd
          have cf : c f = nf := (HC.out f).symm.trans hnf
          have HND := Lib.hid hnd
          have HNF := Lib.hid hnf
          clear hnd hnf
          cases hcmp : decide (nf ≤ nd) with
          | true =>
            have hcmp' : nf ≤ nd := of_decide_eq_true hcmp
            have e2 : mostR c but Dn (k + 1) = dd := by rw [HS.out, if_pos ⟨hkb, .inr (by rw [cd, cf]; exact hcmp')⟩]
            have E2 := Lib.hid e2
            clear e2 cd cf
            refine (wpIn_wide (n := 0)).1 ?_
            refine regionIn_seq (fun _ V => Fr (fun _ => False) wr V) rfl (by kernel_rfl) (by kernel_rfl) (by kernel_rfl) (fun _ => trivial) rfl (Fr.refl _ _).drew ?_
            iterate 9
              first
              | (apply SeqR.step
                 · rfl
                 · intro d2 V hV ht
                   have c3 := fun i => blk_cell (hV.heap g2 id) i
                   simp [Oper.gives, execOp, Act.eval, go_sem, c3, e1, e3, hcmp, hcmp']
                   exact ⟨rfl, hV⟩)
              | (apply SeqR.pass
                 · rfl
                 · exact fun d V hV _ => hV)
              simp only [Act.put, List.setIfInBounds_toArray, List.set_cons_succ, List.set_cons_zero]
            iterate 1
              first
              | (apply SeqR.step
                 · rfl
                 · intro d2 V hV ht
                   have c3 := fun i => blk_cell (hV.heap g2 id) i
                   have rd := refCount (Dn := Dn) (Zn := Zn) (h2.fr hV (fun _ _ => id)) HZ.out hl hZ dd
                   rw [HND.out] at rd
                   simp [Oper.gives, execOp, Act.eval, go_sem, c3, e1, e3, hcmp, hcmp']
                   refine callsIn_wide.2 (rd.mono ?_); rintro e W9 ⟨rfl, hb⟩; exact ⟨_, rfl, rfl, hV.trans hb (fun _ _ h => h)⟩)
              | (apply SeqR.pass
                 · rfl
                 · exact fun d V hV _ => hV)
              simp only [Act.put, List.setIfInBounds_toArray, List.set_cons_succ, List.set_cons_zero]
            iterate 2
              first
              | (apply SeqR.step
                 · rfl
                 · intro d2 V hV ht
                   have c3 := fun i => blk_cell (hV.heap g2 id) i
                   simp [Oper.gives, execOp, Act.eval, go_sem, c3, e1, e3, hcmp, hcmp']
                   exact ⟨rfl, hV⟩)
              | (apply SeqR.pass
                 · rfl
                 · exact fun d V hV _ => hV)
              simp only [Act.put, List.setIfInBounds_toArray, List.set_cons_succ, List.set_cons_zero]
            iterate 1
              first
              | (apply SeqR.step
                 · rfl
                 · intro d2 V hV ht
                   have c3 := fun i => blk_cell (hV.heap g2 id) i
                   have rd := refCount (Dn := Dn) (Zn := Zn) (h2.fr hV (fun _ _ => id)) HZ.out hl hZ f
                   rw [HNF.out] at rd
                   simp [Oper.gives, execOp, Act.eval, go_sem, c3, e1, e3, hcmp, hcmp']
                   refine callsIn_wide.2 (rd.mono ?_); rintro e W9 ⟨rfl, hb⟩; exact ⟨_, rfl, rfl, hV.trans hb (fun _ _ h => h)⟩)
              | (apply SeqR.pass
                 · rfl
                 · exact fun d V hV _ => hV)
              simp only [Act.put, List.setIfInBounds_toArray, List.set_cons_succ, List.set_cons_zero]
            iterate 3
              first
              | (apply SeqR.step
                 · rfl
                 · intro d2 V hV ht
                   have c3 := fun i => blk_cell (hV.heap g2 id) i
                   simp [Oper.gives, execOp, Act.eval, go_sem, c3, e1, e3, hcmp, hcmp']
                   exact ⟨rfl, hV⟩)
              | (apply SeqR.pass
                 · rfl
                 · exact fun d V hV _ => hV)
              simp only [Act.put, List.setIfInBounds_toArray, List.set_cons_succ, List.set_cons_zero]
            refine SeqR.nil fun V hV => ?_
            go_wp2_with fail
            go_roundw
            case rel => exact ⟨k + 1, by omega, by show Value.int IntKind.i64 _ = _; congr 1; omega, by rw [E2.out], hf.trans hV (fun _ _ h => h)⟩
            case measure => simp [intOf]; omega
          | false =>
            have hcmp' : ¬ nf ≤ nd := of_decide_eq_false hcmp
            have e2 : mostR c but Dn (k + 1) = f := by rw [HS.out, if_neg (by rintro ⟨_, h | h⟩; omega; rw [cd, cf] at h; exact hcmp' h)]
            have E2 := Lib.hid e2
            clear e2 cd cf
            refine (wpIn_wide (n := 0)).1 ?_
            refine regionIn_seq (fun _ V => Fr (fun _ => False) wr V) rfl (by kernel_rfl) (by kernel_rfl) (by kernel_rfl) (fun _ => trivial) rfl (Fr.refl _ _).drew ?_
            iterate 9
              first
              | (apply SeqR.step
                 · rfl
                 · intro d2 V hV ht
                   have c3 := fun i => blk_cell (hV.heap g2 id) i
                   simp [Oper.gives, execOp, Act.eval, go_sem, c3, e1, e3, hcmp, hcmp']
                   exact ⟨rfl, hV⟩)
              | (apply SeqR.pass
                 · rfl
                 · exact fun d V hV _ => hV)
              simp only [Act.put, List.setIfInBounds_toArray, List.set_cons_succ, List.set_cons_zero]
            iterate 1
              first
              | (apply SeqR.step
                 · rfl
                 · intro d2 V hV ht
                   have c3 := fun i => blk_cell (hV.heap g2 id) i
                   have rd := refCount (Dn := Dn) (Zn := Zn) (h2.fr hV (fun _ _ => id)) HZ.out hl hZ dd
                   rw [HND.out] at rd
                   simp [Oper.gives, execOp, Act.eval, go_sem, c3, e1, e3, hcmp, hcmp']
                   refine callsIn_wide.2 (rd.mono ?_); rintro e W9 ⟨rfl, hb⟩; exact ⟨_, rfl, rfl, hV.trans hb (fun _ _ h => h)⟩)
              | (apply SeqR.pass
                 · rfl
                 · exact fun d V hV _ => hV)
              simp only [Act.put, List.setIfInBounds_toArray, List.set_cons_succ, List.set_cons_zero]
            iterate 2
              first
              | (apply SeqR.step
                 · rfl
                 · intro d2 V hV ht
                   have c3 := fun i => blk_cell (hV.heap g2 id) i
                   simp [Oper.gives, execOp, Act.eval, go_sem, c3, e1, e3, hcmp, hcmp']
                   exact ⟨rfl, hV⟩)
              | (apply SeqR.pass
                 · rfl
                 · exact fun d V hV _ => hV)
              simp only [Act.put, List.setIfInBounds_toArray, List.set_cons_succ, List.set_cons_zero]
            iterate 1
              first
              | (apply SeqR.step
                 · rfl
                 · intro d2 V hV ht
                   have c3 := fun i => blk_cell (hV.heap g2 id) i
                   have rd := refCount (Dn := Dn) (Zn := Zn) (h2.fr hV (fun _ _ => id)) HZ.out hl hZ f
                   rw [HNF.out] at rd
                   simp [Oper.gives, execOp, Act.eval, go_sem, c3, e1, e3, hcmp, hcmp']
                   refine callsIn_wide.2 (rd.mono ?_); rintro e W9 ⟨rfl, hb⟩; exact ⟨_, rfl, rfl, hV.trans hb (fun _ _ h => h)⟩)
              | (apply SeqR.pass
                 · rfl
                 · exact fun d V hV _ => hV)
              simp only [Act.put, List.setIfInBounds_toArray, List.set_cons_succ, List.set_cons_zero]
            iterate 3
              first
              | (apply SeqR.step
                 · rfl
                 · intro d2 V hV ht
                   have c3 := fun i => blk_cell (hV.heap g2 id) i
                   simp [Oper.gives, execOp, Act.eval, go_sem, c3, e1, e3, hcmp, hcmp']
                   exact ⟨rfl, hV⟩)
              | (apply SeqR.pass
                 · rfl
                 · exact fun d V hV _ => hV)
              simp only [Act.put, List.setIfInBounds_toArray, List.set_cons_succ, List.set_cons_zero]
            refine SeqR.nil fun V hV => ?_
            go_wp2_with fail
            go_roundw
            case rel => exact ⟨k + 1, by omega, by show Value.int IntKind.i64 _ = _; congr 1; omega, by rw [E2.out], hf.trans hV (fun _ _ h => h)⟩
            case measure => simp [intOf]; omega
    · obtain rfl : k = Dn := by omega
      go_wp2_with fail
      go_ret
      exact ⟨rfl, F1.trans hf (fun _ _ h => h)⟩
end
end Go.Proofs.Ytcdblopnaimfoaa

/- The document's pool: Pairs, Pair. Conditions: the geometry is small. -/
namespace Go.Proofs.Ytcdblopnaimfoaa
open Go.RowKit Go.Conc

theorem pairsP_b (C : Nat → List Int) (n : Nat) : 0 ≤ pairsP n C ∧ pairsP n C ≤ sumP C n := by
  have h0 := sumP_nonneg C n
  have h4 : 0 ≤ cntP n C (fullP C (-1) n) ∧ cntP n C (fullP C (-1) n) ≤ sumP C n := by
    rcases fullP_max C (-1) n with ⟨g1, g2⟩ | ⟨a, g1, g2, g3, g4, g5⟩
    · rw [g1, cntP, if_neg (by omega)]; omega
    · rw [g1, cntP, if_pos (by omega), Int.toNat_natCast]; exact ⟨by omega, sumP_one C n g2⟩
  unfold pairsP
  split <;> omega
/-- Where there is no pair, the second domain has none. -/
theorem pairs_none (C : Nat → List Int) {n : Nat} (h : pairsP n C = 0) : cntP n C (fullP C (fullP C (-1) n) n) = 0 := by
  rcases fullP_max C (-1) n with ⟨h1, h2⟩ | ⟨a, h1, h2, h3, h4, h5⟩
  · have hn : n = 0 := by
      cases n with
      | zero => rfl
      | succ m => have := h2 0 (by omega); omega
    subst hn
    rw [cntP, if_neg (by omega)]
  · rw [h1]
    rcases fullP_max C (a : Int) n with ⟨g1, g2⟩ | ⟨b, g1, g2, g3, g4, g5⟩
    · rw [g1, cntP, if_neg (by omega)]
    · rw [g1, cntP, if_pos (by omega), Int.toNat_natCast]
      apply Classical.byContradiction
      intro hb
      have hb0 : C b ≠ [] := fun e => hb (by rw [e]; rfl)
      have hl := h4 b g2 (by omega)
      have ha0 : C a ≠ [] := fun e => by
        rw [e] at hl
        exact hb0 (List.length_eq_zero_iff.1 (by simpa using hl))
      have := pairs_zero C h h2 g2 ha0 hb0
      omega
/-- The document's pool. -/
structure RP (D : Nat → Prop) (w : World) (v : Value) (Dn Zn : Nat) (C : Nat → List Int) (s : Value) (L : List Int) : Prop where
  e : v = .agg #[.int .i64 Dn, .int .i64 Zn, s]
  rd : RdAt D w s (ints L)
  lk : Lk Dn Zn C L
  z1 : 1 ≤ Zn ∧ Zn ≤ 64
  d1 : Dn ≤ 8
  dz : (Dn : Int) * Zn ≤ 512 ∧ 0 ≤ (Dn : Int) * Zn
section
variable {w w' : World} {D : Nat → Prop} {s v : Value} {L : List Int} {Dn Zn : Nat} {C : Nat → List Int} {S : Nat → Prop}
theorem RP.fr (h : RP D w v Dn Zn C s L) (hf : Fr S w w') (hn : ∀ k, D k → ¬ S k) : RP D w' v Dn Zn C s L := ⟨h.e, h.rd.fr hf hn, h.lk, h.z1, h.d1, h.dz⟩
theorem RP.fr0 (h : RP D w v Dn Zn C s L) (hf : Fr (fun _ => False) w w') : RP D w' v Dn Zn C s L := h.fr hf (fun _ _ => id)
theorem RP.mono {D' : Nat → Prop} (h : RP D w v Dn Zn C s L) (hd : ∀ k, D k → D' k) : RP D' w v Dn Zn C s L := ⟨h.e, h.rd.mono hd, h.lk, h.z1, h.d1, h.dz⟩
theorem RP.sharp (h : RP D w v Dn Zn C s L) : RP (fun k => D k ∧ k < w.heap.size) w v Dn Zn C s L := by
  refine ⟨h.e, ?_, h.lk, h.z1, h.d1, h.dz⟩
  obtain ⟨a, cp, h1, h2, h3⟩ := h.rd
  refine ⟨a, cp, h1, h2, fun hne => ?_⟩
  obtain ⟨g, o, e, hD, hc⟩ := h3 hne
  exact ⟨g, o, e, ⟨hD, cell_lt (hc 0 (List.length_pos_iff.2 hne))⟩, hc⟩
theorem RP.len (h : RP D w v Dn Zn C s L) : L.length < 1000 := h.lk.len h.dz.1
theorem RP.row {base n : Nat} {u : Value} {L' : List Int} {C' : Nat → List Int} (h : RP D w v Dn Zn C s L) (hr : w'.ownsRow base 3 1 u n (ints L')) (hl : Lk Dn Zn C' L') : RP (fun k => base ≤ k) w' (.agg #[.int .i64 Dn, .int .i64 Zn, u]) Dn Zn C' u L' :=
  ⟨rfl, (row_rd hr).mono (fun k hk => (hr.lt k hk).1), hl, h.z1, h.d1, h.dz⟩
theorem rp_count (h : RP D w v Dn Zn C s L) (d : Int) : Calls Try.prog 72 #[v, .int .i64 d] w fun e w' => e = .returned (.int .i64 (cntP Dn C d)) ∧ Fr (fun _ => False) w w' := by
  have := refCount (Dn := Dn) h.rd (h.lk.lt h.dz.1) h.len h.z1 d
  rw [h.lk.cnt h.z1.1] at this
  rw [h.e]; exact this
theorem rp_has (h : RP D w v Dn Zn C s L) (z : Int) : Calls Try.prog 71 #[v, .int .i64 z] w fun e w' => e = .returned (.bool (hasB C Dn z)) ∧ Fr (fun _ => False) w w' := by
  have := refHas (Dn := Dn) (Zn := Zn) h.rd h.len z
  rw [h.lk.has h.z1.1] at this
  rw [h.e]; exact this
theorem rp_most (h : RP D w v Dn Zn C s L) (but : Int) : Calls Try.prog 74 #[v, .int .i64 but] w fun e w' => e = .returned (.int .i64 (fullP C but Dn)) ∧ Fr (fun _ => False) w w' := by
  have := refMostR (Dn := Dn) h.rd (h.lk.lt h.dz.1) h.len h.z1 h.d1 but
  rw [mostR_eq C _ but Dn (fun i hi => by rw [h.lk.cc i hi])] at this
  rw [h.e]; exact this
theorem rp_take_some (h : RP D w v Dn Zn C s L) {d : Nat} (hd : d < Dn) {x : Int} {t : List Int} (hC : C d = x :: t) : Calls Try.prog 67 #[v, .int .i64 (d : Int)] w fun e w' =>
    ∃ u, e = .returned (.tuple #[.agg #[.int .i64 Dn, .int .i64 Zn, u], .int .i64 x, .int .i64 0]) ∧ RP (fun k => w.heap.size ≤ k) w' (.agg #[.int .i64 Dn, .int .i64 Zn, u]) Dn Zn (setC C d t) u (L.filter (neB x)) ∧ Fr (fun _ => False) w w' := by
  have := refTakeP_some (Dn := Dn) h.rd (h.lk.lt h.dz.1) h.len h.z1 (d : Int) (by omega) (x := x) (t := t) (by rw [h.lk.cc d hd]; exact hC)
  rw [h.e]
  refine this.mono ?_
  rintro e w' ⟨u, rfl, hr, hf⟩
  exact ⟨u, rfl, h.row hr (h.lk.take hd hC), hf⟩
theorem rp_take_none (h : RP D w v Dn Zn C s L) {d : Nat} (hd : d < Dn) (hC : C d = []) : Calls Try.prog 67 #[v, .int .i64 (d : Int)] w fun e w' =>
    e = .returned (.tuple #[v, .int .i64 0, .int .i64 15]) ∧ Fr (fun _ => False) w w' := by
  have := refTakeP_none (Dn := Dn) h.rd (h.lk.lt h.dz.1) h.len h.z1 (d : Int) (by omega) (by rw [h.lk.cc d hd]; exact hC)
  rw [h.e]; exact this
theorem rp_take_out (h : RP D w v Dn Zn C s L) {d : Int} (hd : d < 0 ∨ (Dn : Int) ≤ d) : Calls Try.prog 67 #[v, .int .i64 d] w fun e w' =>
    e = .returned (.tuple #[v, .int .i64 0, .int .i64 13]) ∧ Fr (fun _ => False) w w' := by
  have := refTakeP_out (Dn := Dn) (Zn := Zn) h.rd d hd
  rw [h.e]; exact this
theorem rp_give_out (h : RP D w v Dn Zn C s L) {z : Int} (hz : z < 0 ∨ (Dn : Int) * Zn ≤ z) : Calls Try.prog 66 #[v, .int .i64 z] w fun e w' =>
    e = .returned (.tuple #[v, .int .i64 13]) ∧ Fr (fun _ => False) w w' := by
  have := refGive_out h.rd h.dz z hz
  rw [h.e]; exact this
theorem rp_give_twice (h : RP D w v Dn Zn C s L) {z : Int} (hz : 0 ≤ z ∧ z < (Dn : Int) * Zn) (hm : hasB C Dn z = true) : Calls Try.prog 66 #[v, .int .i64 z] w fun e w' =>
    e = .returned (.tuple #[v, .int .i64 16]) ∧ Fr (fun _ => False) w w' := by
  have := refGive_twice h.rd h.len h.dz z hz (of_decide_eq_true (by rw [h.lk.has h.z1.1]; exact hm))
  rw [h.e]; exact this
theorem rp_give_ok (h : RP D w v Dn Zn C s L) {z : Int} {d : Nat} (hz : 0 ≤ z ∧ z < (Dn : Int) * Zn) (hd : Int.tdiv z Zn = d) (hm : hasB C Dn z = false) : Calls Try.prog 66 #[v, .int .i64 z] w fun e w' =>
    ∃ u, e = .returned (.tuple #[.agg #[.int .i64 Dn, .int .i64 Zn, u], .int .i64 0]) ∧ RP (fun k => w.heap.size ≤ k) w' (.agg #[.int .i64 Dn, .int .i64 Zn, u]) Dn Zn (setC C d (C d ++ [z])) u (L ++ [z]) ∧ Fr (fun _ => False) w w' := by
  have hn : z ∉ L := of_decide_eq_false (by rw [h.lk.has h.z1.1]; exact hm)
  have := refGive_ok h.rd h.len h.dz z hz hn
  rw [h.e]
  refine this.mono ?_
  rintro e w' ⟨u, rfl, hr, hf⟩
  exact ⟨u, rfl, h.row hr (h.lk.give hz hd hn), hf⟩
theorem rp_drop_no (h : RP D w v Dn Zn C s L) {z : Int} (hm : hasB C Dn z = false) : Calls Try.prog 69 #[v, .int .i64 z] w fun e w' =>
    e = .returned (.tuple #[v, .int .i64 15]) ∧ Fr (fun _ => False) w w' := by
  have := refDrop_no (Dn := Dn) (Zn := Zn) h.rd h.len z (of_decide_eq_false (by rw [h.lk.has h.z1.1]; exact hm))
  rw [h.e]; exact this
theorem rp_drop_yes (h : RP D w v Dn Zn C s L) {z : Int} {d : Nat} (hd : Int.tdiv z Zn = d) (hm : hasB C Dn z = true) : Calls Try.prog 69 #[v, .int .i64 z] w fun e w' =>
    ∃ u, e = .returned (.tuple #[.agg #[.int .i64 Dn, .int .i64 Zn, u], .int .i64 0]) ∧ RP (fun k => w.heap.size ≤ k) w' (.agg #[.int .i64 Dn, .int .i64 Zn, u]) Dn Zn (setC C d ((C d).filter (neB z))) u (L.filter (neB z)) ∧ Fr (fun _ => False) w w' := by
  have := refDrop_yes (Dn := Dn) (Zn := Zn) h.rd h.len z (of_decide_eq_true (by rw [h.lk.has h.z1.1]; exact hm))
  rw [h.e]
  refine this.mono ?_
  rintro e w' ⟨u, rfl, hr, hf⟩
  exact ⟨u, rfl, h.row hr (h.lk.drop hd), hf⟩
theorem resC68 {tmps : Array Value} {w : World} {b : Nat} {u1 u2 u3 c0 c1 c2 : Value} (h1 : tmps.getD 2 undef = .pointer (some ⟨b, 0, none⟩)) (h3 : tmps.getD 3 undef = u1) (h4 : tmps.getD 4 undef = u2) (h5 : tmps.getD 5 undef = u3) (h2 : w.heap[b]? = some (.cells #[c0, c1, c2] 70 (0, 0))) :
    (results Try.f68 tmps).run Try.prog w = .ok (.tuple #[.agg #[c0, c1, c2], u1, u2, u3]) w := by
  have c := fun i => blk_cell h2 i
  rw [Array.getD_eq_getD_getElem?] at h1 h3 h4 h5
  simp [results, Try.f68, go_sem, h1, h3, h4, h5, c]
set_option maxRecDepth 100000 in
set_option maxHeartbeats 4000000 in
theorem rp_pair_none (h : RP D w v Dn Zn C s L) (h0 : pairsP Dn C = 0) : Calls Try.prog 68 #[v] w fun e w' =>
    e = .returned (.tuple #[v, .int .i64 0, .int .i64 0, .int .i64 15]) ∧ Fr (fun _ => False) w w' := by
  have hn := pairs_none C h0
  obtain ⟨a, cp, rfl⟩ := h.rd.val
  obtain ⟨n, hln⟩ : ∃ n, (ints L).length = n := ⟨_, rfl⟩
  rw [hln] at h
  have he := h.e
  subst he
  obtain ⟨A, hA⟩ : ∃ A, fullP C (-1) Dn = A := ⟨_, rfl⟩
  obtain ⟨B, hB⟩ : ∃ B, fullP C A Dn = B := ⟨_, rfl⟩
  rw [hA, hB] at hn
  have HN := Lib.hid hn
  have HA := Lib.hid hA
  have HB := Lib.hid hB
  clear hn hA hB h0 hln
  have hst := two w (.cells #[.int .i64 Dn, .int .i64 Zn, .slice a n cp] 70) (.cells #[.int .i64 0, .int .i64 0, .slice none 0 0] 70)
  go_enter Try.func68, Try.ntmps68
  go_wp2_with fail
  generalize (w.alloc (.cells #[.int .i64 Dn, .int .i64 Zn, .slice a n cp] 70)).alloc (.cells #[.int .i64 0, .int .i64 0, .slice none 0 0] 70) = w1 at hst ⊢
  obtain ⟨f1, g1, gb, s1⟩ := hst
  have r1 := h.fr0 f1
  have c1 := fun i => blk_cell g1 i
  have m1 := rp_most r1 (-1)
  rw [HA.out] at m1
  go_wp2_with fail
  refine m1.mono ?_
  rintro e w2 ⟨rfl, f2⟩
  have g2 := f2.heap g1 id
  have gb2 := f2.heap gb id
  have r2 := r1.fr0 f2
  clear c1 m1
  have c1 := fun i => blk_cell g2 i
  have m1 := rp_most r2 A
  rw [HB.out] at m1
  go_wp2_with fail
  refine m1.mono ?_
  rintro e w3 ⟨rfl, f3⟩
  have g3 := f3.heap g2 id
  have gb3 := f3.heap gb2 id
  have r3 := r2.fr0 f3
  clear c1 m1
  have c1 := fun i => blk_cell g3 i
  have m1 := rp_count r3 B
  rw [HN.out] at m1
  go_wp2_with fail
  refine m1.mono ?_
  rintro e w4 ⟨rfl, f4⟩
  have g4 := f4.heap g3 id
  have gb4 := f4.heap gb3 id
  clear c1 m1
  have c1 := fun i => blk_cell g4 i
  have c2 := fun i => blk_cell gb4 i
  have e2 := fun i => blk_frozen gb4 i
  go_wp2_with fail
  exact bodyPost_ret (resC68 rfl rfl rfl rfl (put3 gb4 _ _ _)) rfl ⟨rfl, (((f1.trans f2 (fun _ _ h => h)).trans f3 (fun _ _ h => h)).trans f4 (fun _ _ h => h)).trans (put3_fr _ _ _ _ _) (fun i hi e => by omega)⟩
set_option maxRecDepth 100000 in
set_option maxHeartbeats 4000000 in
theorem rp_pair_some (h : RP D w v Dn Zn C s L) {A B : Nat} (ha : A < Dn) (hb : B < Dn) (hab : B ≠ A) (hfa : fullP C (-1) Dn = A) (hfb : fullP C A Dn = B) {x y : Int} {ta tb : List Int} (hca : C A = x :: ta) (hcb : C B = y :: tb) : Calls Try.prog 68 #[v] w fun e w' =>
    ∃ u, e = .returned (.tuple #[.agg #[.int .i64 Dn, .int .i64 Zn, u], .int .i64 x, .int .i64 y, .int .i64 0]) ∧ RP (fun k => w.heap.size ≤ k) w' (.agg #[.int .i64 Dn, .int .i64 Zn, u]) Dn Zn (setC (setC C A ta) B tb) u ((L.filter (neB x)).filter (neB y)) ∧ Fr (fun _ => False) w w' := by
  obtain ⟨a, cp, rfl⟩ := h.rd.val
  obtain ⟨n, hln⟩ : ∃ n, (ints L).length = n := ⟨_, rfl⟩
  rw [hln] at h
  have he := h.e
  subst he
  have hn : cntP Dn C (B : Int) = tb.length + 1 := by rw [cntP, if_pos (by omega), Int.toNat_natCast, hcb]; rfl
  have hcb2 : setC C A ta B = y :: tb := by rw [setC_other _ _ hab]; exact hcb
  have HN := Lib.hid hn
  have HA := Lib.hid hfa
  have HB := Lib.hid hfb
  have HCA := Lib.hid hca
  have HCB := Lib.hid hcb2
  clear hn hfa hfb hln hca hcb hcb2
  have hst := two w (.cells #[.int .i64 Dn, .int .i64 Zn, .slice a n cp] 70) (.cells #[.int .i64 0, .int .i64 0, .slice none 0 0] 70)
  go_enter Try.func68, Try.ntmps68
  go_wp2_with fail
  generalize (w.alloc (.cells #[.int .i64 Dn, .int .i64 Zn, .slice a n cp] 70)).alloc (.cells #[.int .i64 0, .int .i64 0, .slice none 0 0] 70) = w1 at hst ⊢
  obtain ⟨f1, g1, gb, s1⟩ := hst
  have r1 := h.fr0 f1
  have c1 := fun i => blk_cell g1 i
  have m1 := rp_most r1 (-1)
  rw [HA.out] at m1
  go_wp2_with fail
  refine m1.mono ?_
  rintro e w2 ⟨rfl, f2⟩
  have g2 := f2.heap g1 id
  have gb2 := f2.heap gb id
  have r2 := r1.fr0 f2
  clear c1 m1
  have c1 := fun i => blk_cell g2 i
  have m1 := rp_most r2 (A : Int)
  rw [HB.out] at m1
  go_wp2_with fail
  refine m1.mono ?_
  rintro e w3 ⟨rfl, f3⟩
  have g3 := f3.heap g2 id
  have gb3 := f3.heap gb2 id
  have r3 := r2.fr0 f3
  clear c1 m1
  have c1 := fun i => blk_cell g3 i
  have m1 := rp_count r3 (B : Int)
  rw [HN.out] at m1
  go_wp2_with fail
  refine m1.mono ?_
  rintro e w4 ⟨rfl, f4⟩
  have g4 := f4.heap g3 id
  have gb4 := f4.heap gb3 id
  have r4 := r3.fr0 f4
  have s4 : w.heap.size + 2 ≤ w4.heap.size := by have := f2.size; have := f3.size; have := f4.size; omega
  clear c1 m1
  have c1 := fun i => blk_cell g4 i
  have m1 := rp_take_some r4 ha HCA.out
  go_wp2_with fail
  refine m1.mono ?_
  rintro e w5 ⟨u5, rfl, r5, f5⟩
  clear c1 m1
  obtain ⟨a5, cp5, rfl⟩ := r5.rd.val
  obtain ⟨n5, hln5⟩ : ∃ n5, (ints (L.filter (neB x))).length = n5 := ⟨_, rfl⟩
  rw [hln5] at r5 ⊢
  clear hln5
  have g5 := f5.heap g4 id
  have gb5 := f5.heap gb4 id
  have c1 := fun i => blk_cell g5 i
  have e1 := fun i => blk_frozen g5 i
  have f6 := put3_fr w5 w.heap.size (.int .i64 Dn) (.int .i64 Zn) (.slice a5 n5 cp5)
  have g6 := put3 g5 (.int .i64 Dn) (.int .i64 Zn) (.slice a5 n5 cp5)
  have gb6 := f6.heap gb5 (by omega)
  have r6 := r5.fr f6 (fun k hk e => by omega)
  have s6 := f6.size
  have s5 := f5.size
  go_upto_region 6 with fail
  generalize ((w5.setCell ⟨w.heap.size, 0, none⟩ (.int .i64 Dn)).setCell ⟨w.heap.size, 1, none⟩ (.int .i64 Zn)).setCell ⟨w.heap.size, 2, none⟩ (.slice a5 n5 cp5) = w6 at f6 g6 gb6 r6 s6 ⊢
  clear c1 e1
  have c1 := fun i => blk_cell g6 i
  have m1 := rp_take_some r6 hb HCB.out
  go_wp2_with fail
  refine m1.mono ?_
  rintro e w7 ⟨u7, rfl, r7, f7⟩
  clear c1 m1
  obtain ⟨a7, cp7, rfl⟩ := r7.rd.val
  obtain ⟨n7, hln7⟩ : ∃ n7, (ints ((L.filter (neB x)).filter (neB y))).length = n7 := ⟨_, rfl⟩
  rw [hln7] at r7 ⊢
  clear hln7
  have g7 := f7.heap g6 id
  have gb7 := f7.heap gb6 id
  have c1 := fun i => blk_cell g7 i
  have e1 := fun i => blk_frozen g7 i
  have f8 := put3_fr w7 w.heap.size (.int .i64 Dn) (.int .i64 Zn) (.slice a7 n7 cp7)
  have g8 := put3 g7 (.int .i64 Dn) (.int .i64 Zn) (.slice a7 n7 cp7)
  have gb8 := f8.heap gb7 (by omega)
  have r8 := r7.fr f8 (fun k hk e => by omega)
  go_upto_region 7 with fail
  generalize ((w7.setCell ⟨w.heap.size, 0, none⟩ (.int .i64 Dn)).setCell ⟨w.heap.size, 1, none⟩ (.int .i64 Zn)).setCell ⟨w.heap.size, 2, none⟩ (.slice a7 n7 cp7) = w8 at f8 g8 gb8 r8 ⊢
  clear c1 e1
  have c1 := fun i => blk_cell g8 i
  have c2 := fun i => blk_cell gb8 i
  have e2 := fun i => blk_frozen gb8 i
  have f9 := put3_fr w8 (w.heap.size + 1) (.int .i64 Dn) (.int .i64 Zn) (.slice a7 n7 cp7)
  go_wp2_with fail
  refine bodyPost_ret (resC68 rfl rfl rfl rfl (put3 gb8 _ _ _)) rfl ⟨_, rfl, (r8.fr f9 (fun k hk e => by omega)).mono (fun k hk => by omega), ?_⟩
  exact (((((((f1.trans f2 (fun _ _ h => h)).trans f3 (fun _ _ h => h)).trans f4 (fun _ _ h => h)).trans f5 (fun _ _ h => h)).trans f6 (fun i hi e => by omega)).trans f7 (fun _ _ h => h)).trans f8 (fun i hi e => by omega)).trans f9 (fun i hi e => by omega)
end
end Go.Proofs.Ytcdblopnaimfoaa

/- The document's pool: Pairs. Conditions: the geometry is small. -/
namespace Go.Proofs.Ytcdblopnaimfoaa
open Go.RowKit Go.Conc

section
variable {w w' : World} {D : Nat → Prop} {s v : Value} {L : List Int} {Dn Zn : Nat} {C : Nat → List Int} {S : Nat → Prop}
set_option maxRecDepth 100000 in
set_option maxHeartbeats 4000000 in
theorem rp_pairs (h : RP D w v Dn Zn C s L) : Calls Try.prog 73 #[v] w fun e w' => e = .returned (.int .i64 (pairsP Dn C)) ∧ Fr (fun _ => False) w w' := by
  obtain ⟨p, hp⟩ := Int.eq_ofNat_of_zero_le (pairsP_b C Dn).1
  have hps := (pairsP_b C Dn).2
  rw [← h.lk.sum h.z1.1, hp] at hps
  have hl := h.len
  rw [hp]
  have HP := Lib.hid hp
  clear hp
  obtain ⟨a, cp, rfl⟩ := h.rd.val
  obtain ⟨n, hln⟩ : ∃ n, (ints L).length = n := ⟨_, rfl⟩
  rw [hln] at h
  have he := h.e
  subst he
  clear hln
  have f1 := (Fr.refl (fun _ => False) w).alloc (.cells #[.int .i64 Dn, .int .i64 Zn, .slice a n cp] 70)
  have g1 := blk_new w (.cells #[.int .i64 Dn, .int .i64 Zn, .slice a n cp] 70)
  have s1 : (w.alloc (.cells #[.int .i64 Dn, .int .i64 Zn, .slice a n cp] 70)).heap.size = w.heap.size + 1 := by simp
  have r1 := (h.sharp.fr0 f1).mono (D' := fun k => k ≠ w.heap.size) (fun k hk => by omega)
  go_enter Try.func73, Try.ntmps73
  go_wp2_with fail
  generalize w.alloc (.cells #[.int .i64 Dn, .int .i64 Zn, .slice a n cp] 70) = w1 at f1 g1 s1 r1 ⊢
  go_loopw [3, 4, 5] (fun i _ _ W => ∃ (m : Nat) (C' : Nat → List Int) (s' : Value) (L' : List Int), i = .int .i64 m ∧ (m : Int) + pairsP Dn C' = p ∧ W.heap[w.heap.size]? = some (.cells #[.int .i64 Dn, .int .i64 Zn, s'] 70 (0, 0)) ∧
      RP (fun k => k ≠ w.heap.size) W (.agg #[.int .i64 Dn, .int .i64 Zn, s']) Dn Zn C' s' L' ∧ Fr (fun k => k = w.heap.size) w1 W) (fun i _ _ _ => p - (intOf i).toNat)
  case atStart => exact ⟨0, C, _, L, rfl, by rw [HP.out]; simp, g1, r1, Fr.refl _ _⟩
  case round =>
    clear g1 r1
    obtain ⟨m, C', s', L', rfl, hm, g1, r1, hf⟩ := hrel
    have hsz := hf.size
    obtain ⟨a', cp', rfl⟩ := r1.rd.val
    obtain ⟨n', hln⟩ : ∃ n', (ints L').length = n' := ⟨_, rfl⟩
    rw [hln] at r1 g1
    clear hln
    have c1 := fun i => blk_cell g1 i
    have m1 := rp_most r1 (-1)
    by_cases h0 : pairsP Dn C' = 0
    · have hn := pairs_none C' h0
      obtain ⟨A, hA⟩ : ∃ A, fullP C' (-1) Dn = A := ⟨_, rfl⟩
      obtain ⟨B, hB⟩ : ∃ B, fullP C' A Dn = B := ⟨_, rfl⟩
      rw [hA, hB] at hn
      rw [hA] at m1
      have HN := Lib.hid hn
      have HB := Lib.hid hB
      have hmp : m = p := by omega
      subst hmp
      clear hn hA hB h0 hm
      go_wp2_with fail
      refine m1.mono ?_
      rintro e w2 ⟨rfl, f2⟩
      have g2 := f2.heap g1 id
      have r2 := r1.fr0 f2
      clear c1 m1
      have c1 := fun i => blk_cell g2 i
      have m1 := rp_most r2 A
      rw [HB.out] at m1
      go_wp2_with fail
      refine m1.mono ?_
      rintro e w3 ⟨rfl, f3⟩
      have g3 := f3.heap g2 id
      have r3 := r2.fr0 f3
      clear c1 m1
      have c1 := fun i => blk_cell g3 i
      have m1 := rp_count r3 B
      rw [HN.out] at m1
      go_wp2_with fail
      refine m1.mono ?_
      rintro e w4 ⟨rfl, f4⟩
      go_wp2_with fail
      go_ret
      exact ⟨rfl, (((f1.trans hf (fun i hi e => by omega)).trans f2 (fun _ _ h => h)).trans f3 (fun _ _ h => h)).trans f4 (fun _ _ h => h)⟩
    · obtain ⟨A, B, ha, hb, hab, hfa, hfb, hna, hnb, hm1, hm2⟩ := pairs_two C' h0
      obtain ⟨x, ta, hca⟩ : ∃ x ta, C' A = x :: ta := by
        cases h : C' A with
        | nil => exact absurd h hna
        | cons x t => exact ⟨x, t, rfl⟩
      obtain ⟨y, tb, hcb⟩ : ∃ y tb, C' B = y :: tb := by
        cases h : C' B with
        | nil => exact absurd h hnb
        | cons x t => exact ⟨x, t, rfl⟩
      have hless := (pairs_less C' ha hb hab hm1 hm2 hca hcb).1
      have hnn := (pairsP_b C' Dn).1
      have hn : cntP Dn C' (B : Int) = tb.length + 1 := by rw [cntP, if_pos (by omega), Int.toNat_natCast, hcb]; rfl
      have hcb2 : setC C' A ta B = y :: tb := by rw [setC_other _ _ hab]; exact hcb
      have hmp : m < p := by omega
      rw [hfa] at m1
      have HN := Lib.hid hn
      have HB := Lib.hid hfb
      have HCA := Lib.hid hca
      have HCB := Lib.hid hcb2
      have HL := Lib.hid hless
      have HM := Lib.hid hm
      clear hn hfa hfb hca hcb hcb2 hless hm h0 hm1 hm2 hna hnb hnn
      go_wp2_with fail
      refine m1.mono ?_
      rintro e w2 ⟨rfl, f2⟩
      have g2 := f2.heap g1 id
      have r2 := r1.fr0 f2
      clear c1 m1
      have c1 := fun i => blk_cell g2 i
      have m1 := rp_most r2 (A : Int)
      rw [HB.out] at m1
      go_wp2_with fail
      refine m1.mono ?_
      rintro e w3 ⟨rfl, f3⟩
      have g3 := f3.heap g2 id
      have r3 := r2.fr0 f3
      clear c1 m1
      have c1 := fun i => blk_cell g3 i
      have m1 := rp_count r3 (B : Int)
      rw [HN.out] at m1
      go_wp2_with fail
      refine m1.mono ?_
      rintro e w4 ⟨rfl, f4⟩
      have g4 := f4.heap g3 id
      have r4 := r3.fr0 f4
      have s4 : w.heap.size + 1 ≤ w4.heap.size := by have := f2.size; have := f3.size; have := f4.size; omega
      clear c1 m1
      have c1 := fun i => blk_cell g4 i
      have m1 := rp_take_some r4 ha HCA.out
      go_wp2_with fail
      refine m1.mono ?_
      rintro e w5 ⟨u5, rfl, r5, f5⟩
      clear c1 m1
      obtain ⟨a5, cp5, rfl⟩ := r5.rd.val
      obtain ⟨n5, hln5⟩ : ∃ n5, (ints (L'.filter (neB x))).length = n5 := ⟨_, rfl⟩
      rw [hln5] at r5 ⊢
      clear hln5
      have g5 := f5.heap g4 id
      have c1 := fun i => blk_cell g5 i
      have e1 := fun i => blk_frozen g5 i
      have f6 := put3_fr w5 w.heap.size (.int .i64 Dn) (.int .i64 Zn) (.slice a5 n5 cp5)
      have g6 := put3 g5 (.int .i64 Dn) (.int .i64 Zn) (.slice a5 n5 cp5)
      have r6 := r5.fr f6 (fun k hk e => by omega)
      have s6 := f6.size
      have s5 := f5.size
      go_upto_region 7 with fail
      generalize ((w5.setCell ⟨w.heap.size, 0, none⟩ (.int .i64 Dn)).setCell ⟨w.heap.size, 1, none⟩ (.int .i64 Zn)).setCell ⟨w.heap.size, 2, none⟩ (.slice a5 n5 cp5) = w6 at f6 g6 r6 s6 ⊢
      clear c1 e1
      have c1 := fun i => blk_cell g6 i
      have m1 := rp_take_some r6 hb HCB.out
      go_wp2_with fail
      refine m1.mono ?_
      rintro e w7 ⟨u7, rfl, r7, f7⟩
      clear c1 m1
      obtain ⟨a7, cp7, rfl⟩ := r7.rd.val
      obtain ⟨n7, hln7⟩ : ∃ n7, (ints ((L'.filter (neB x)).filter (neB y))).length = n7 := ⟨_, rfl⟩
      rw [hln7] at r7 ⊢
      clear hln7
      have g7 := f7.heap g6 id
      have c1 := fun i => blk_cell g7 i
      have e1 := fun i => blk_frozen g7 i
      have f8 := put3_fr w7 w.heap.size (.int .i64 Dn) (.int .i64 Zn) (.slice a7 n7 cp7)
      have g8 := put3 g7 (.int .i64 Dn) (.int .i64 Zn) (.slice a7 n7 cp7)
      have r8 := r7.fr f8 (fun k hk e => by omega)
      go_upto_region 8 with fail
      generalize ((w7.setCell ⟨w.heap.size, 0, none⟩ (.int .i64 Dn)).setCell ⟨w.heap.size, 1, none⟩ (.int .i64 Zn)).setCell ⟨w.heap.size, 2, none⟩ (.slice a7 n7 cp7) = w8 at f8 g8 r8 ⊢
      clear c1 e1
      go_wp2_with fail
      go_roundw
      case rel => exact ⟨m + 1, _, _, _, by go_num, by have h1 := HL.out; have h2 := HM.out; omega, g8, r8.mono (fun k hk => by omega), ((((((hf.trans (f2.mono (fun _ _ h => h.elim)) (fun _ _ h => h)).trans (f3.mono (fun _ _ h => h.elim)) (fun _ _ h => h)).trans (f4.mono (fun _ _ h => h.elim)) (fun _ _ h => h)).trans (f5.mono (fun _ _ h => h.elim)) (fun _ _ h => h)).trans f6 (fun _ _ h => h)).trans (f7.mono (fun _ _ h => h.elim)) (fun _ _ h => h)).trans f8 (fun _ _ h => h)⟩
      case measure => simp [intOf]; omega
end
end Go.Proofs.Ytcdblopnaimfoaa

/- A pool and the document's: each of the four operations, on both. Conditions: the geometry is small. -/
namespace Go.Proofs.Ytcdblopnaimfoaa
open Go.RowKit Go.Conc

section
variable {w w' : World} {D T : Nat → Prop} {s v : Value} {L : List Int} {p Dn Zn base : Nat} {S B P O : Int} {l : Value} {qb qc : Nat → Nat} {C C0 : Nat → List Int}
/-- What is read does not lie in a channel. -/
theorem RP.frc (h : RP D w v Dn Zn C s L) (hw : Waits w Dn Zn qc C0) (hf : Fr T w w') (hT : ∀ k, T k → Chs Dn qc k ∨ ¬ D k) : RP D w' v Dn Zn C s L := by
  refine ⟨h.e, ?_, h.lk, h.z1, h.d1, h.dz⟩
  obtain ⟨a, cp, h1, h2, h3⟩ := h.rd
  refine ⟨a, cp, h1, h2, fun hne => ?_⟩
  obtain ⟨g, o, e, hD, hc⟩ := h3 hne
  refine ⟨g, o, e, hD, fun i hi => hf.cell (hc i hi) (fun ht => ?_)⟩
  rcases hT _ ht with ⟨d, hd, e2⟩ | h4
  · obtain ⟨s2, r2, h5⟩ := hw d hd
    have h6 := hc i hi
    simp only at e2
    rw [← e2] at h5
    simp [World.cell?, h5] at h6
  · exact h4 hD
theorem dom_out {z : Int} (h : domP Dn Zn z < 0) (_hZ : 1 ≤ Zn) : z < 0 ∨ (Dn : Int) * Zn ≤ z := by
  unfold domP at h
  split at h
  · rename_i h2
    have := Int.ediv_nonneg h2.1 (Int.natCast_nonneg Zn)
    omega
  · omega
theorem dom_in {z : Int} (h : ¬ domP Dn Zn z < 0) : 0 ≤ z ∧ z < (Dn : Int) * Zn := by
  unfold domP at h
  split at h
  · assumption
  · omega
theorem dom_tdiv {z : Int} {d : Nat} (h : domP Dn Zn z = d) : Int.tdiv z Zn = d := by
  unfold domP at h
  split at h
  · rename_i h2
    rw [Int.tdiv_eq_ediv_of_nonneg h2.1]; exact h
  · omega
theorem RP.wide {D' : Nat → Prop} (h : RP D w v Dn Zn C s L) : RP (fun k => D k ∨ D' k) w v Dn Zn C s L := h.mono (fun _ h => .inl h)
theorem RP.wide2 {D' : Nat → Prop} (h : RP D w v Dn Zn C s L) : RP (fun k => D' k ∨ D k) w v Dn Zn C s L := h.mono (fun _ h => .inr h)

/-- What a call of the pool's does. -/
def PDoes (base p Dn Zn : Nat) (S B P O : Int) (l : Value) (qb qc : Nat → Nat) (C C' : Nat → List Int) (f : FuncId) (args : Array Value) (r : Value) : Prop :=
  ∀ w, PoolAt base w p Dn Zn S B P O l qb qc C → Calls Try.prog f (#[.pointer (some ⟨p, 0, none⟩)] ++ args) w fun e w' => e = .returned r ∧ PoolAt base w' p Dn Zn S B P O l qb qc C' ∧ Fr (Chs Dn qc) w w'
/-- What a call of the document's does. -/
def RDoes (Dn Zn : Nat) (C C' : Nat → List Int) (f : FuncId) (args : Array Value) (r : Array Value) : Prop :=
  ∀ w D v s L, RP D w v Dn Zn C s L → Calls Try.prog f (#[v] ++ args) w fun e w' => ∃ u L', e = .returned (.tuple (#[.agg #[.int .i64 Dn, .int .i64 Zn, u]] ++ r)) ∧ RP (fun k => D k ∨ w.heap.size ≤ k) w' (.agg #[.int .i64 Dn, .int .i64 Zn, u]) Dn Zn C' u L' ∧ Fr (fun _ => False) w w'
/-- Where the document's stays as it is. -/
theorem rdoes_id {f : FuncId} {args r : Array Value} (h : ∀ w D v s L, RP D w v Dn Zn C s L → Calls Try.prog f (#[v] ++ args) w fun e w' => e = .returned (.tuple (#[v] ++ r)) ∧ Fr (fun _ => False) w w') : RDoes Dn Zn C C f args r := by
  intro w D v s L hr
  refine (h w D v s L hr).mono ?_
  rintro e w' ⟨rfl, hf⟩
  have := hr.e
  subst this
  exact ⟨s, L, rfl, (hr.fr0 hf).wide, hf⟩
theorem both_give (hp : PoolAt base w p Dn Zn S B P O l qb qc C) (z : Int) : ∃ (C' : Nat → List Int) (f : Int), PDoes base p Dn Zn S B P O l qb qc C C' 47 #[.int .i64 z] (.int .i64 f) ∧ RDoes Dn Zn C C' 66 #[.int .i64 z] #[.int .i64 f] := by
  have hdz := hp.dz
  by_cases hdn : domP Dn Zn z < 0
  · refine ⟨C, 13, fun w hw => ?_, rdoes_id fun w D v s L hr => ?_⟩
    · refine (give_out hw hdn).mono ?_
      rintro e w' ⟨rfl, hf⟩
      exact ⟨rfl, hw.fr0 hf, hf.mono (fun _ _ h => h.elim)⟩
    · exact rp_give_out hr (dom_out hdn (by omega))
  · obtain ⟨d, hd, hdd, hz1, hz2⟩ := dom_of hp (z := z) (by omega)
    cases ht : hasB C Dn z with
    | true =>
      refine ⟨C, 16, fun w hw => ?_, rdoes_id fun w D v s L hr => ?_⟩
      · refine (give_twice hw hdd ht).mono ?_
        rintro e w' ⟨rfl, h2, hf⟩
        exact ⟨rfl, h2, hf⟩
      · exact rp_give_twice hr (dom_in hdn) ht
    | false =>
      refine ⟨setC C d (C d ++ [z]), 0, fun w hw => ?_, fun w D v s L hr => ?_⟩
      · refine (give_ok hw hd hdd hz1 hz2 ht).mono ?_
        rintro e w' ⟨rfl, h2, hf⟩
        exact ⟨rfl, h2, hf⟩
      · refine (rp_give_ok hr (dom_in hdn) (dom_tdiv hdd) ht).mono ?_
        rintro e w' ⟨u, rfl, h2, hf⟩
        exact ⟨u, _, rfl, h2.wide2, hf⟩
theorem both_take (_hp : PoolAt base w p Dn Zn S B P O l qb qc C) (d : Int) : ∃ (C' : Nat → List Int) (x f : Int), PDoes base p Dn Zn S B P O l qb qc C C' 48 #[.int .i64 d] (.tuple #[.int .i64 x, .int .i64 f]) ∧ RDoes Dn Zn C C' 67 #[.int .i64 d] #[.int .i64 x, .int .i64 f] := by
  by_cases hd : d < 0 ∨ (Dn : Int) ≤ d
  · refine ⟨C, 0, 13, fun w hw => ?_, rdoes_id fun w D v s L hr => ?_⟩
    · refine (take_out hw d hd).mono ?_
      rintro e w' ⟨rfl, rfl⟩
      exact ⟨rfl, hw, Fr.refl _ _⟩
    · exact rp_take_out hr hd
  · obtain ⟨n, rfl⟩ := Int.eq_ofNat_of_zero_le (by omega : 0 ≤ d)
    have hn : n < Dn := by omega
    cases hC : C n with
    | nil =>
      refine ⟨C, 0, 15, fun w hw => ?_, rdoes_id fun w D v s L hr => ?_⟩
      · refine (take_none hw n hn hC).mono ?_
        rintro e w' ⟨rfl, rfl⟩
        exact ⟨rfl, hw, Fr.refl _ _⟩
      · exact rp_take_none hr hn hC
    | cons x t =>
      refine ⟨setC C n t, x, 0, fun w hw => ?_, fun w D v s L hr => ?_⟩
      · refine (take_some hw n hn hC).mono ?_
        rintro e w' ⟨rfl, h2, hf⟩
        exact ⟨rfl, h2, hf.mono (fun k _ e => ⟨n, hn, e⟩)⟩
      · refine (rp_take_some hr hn hC).mono ?_
        rintro e w' ⟨u, rfl, h2, hf⟩
        exact ⟨u, _, rfl, h2.wide2, hf⟩
theorem both_drop (hp : PoolAt base w p Dn Zn S B P O l qb qc C) (z : Int) : ∃ (C' : Nat → List Int) (f : Int), PDoes base p Dn Zn S B P O l qb qc C C' 70 #[.int .i64 z] (.int .i64 f) ∧ RDoes Dn Zn C C' 69 #[.int .i64 z] #[.int .i64 f] := by
  have hdz := hp.dz
  by_cases hdn : domP Dn Zn z < 0
  · refine ⟨C, 15, fun w hw => ?_, rdoes_id fun w D v s L hr => ?_⟩
    · refine (drop_out hw hdn).mono ?_
      rintro e w' ⟨rfl, hf⟩
      exact ⟨rfl, hw.fr0 hf, hf.mono (fun _ _ h => h.elim)⟩
    · refine rp_drop_no hr ?_
      cases hb : hasB C Dn z with
      | false => rfl
      | true =>
        obtain ⟨d, hd, hm⟩ := hasB_iff.1 hb
        have h1 := dom_at hp hd ((hp.zn d hd).2 z hm).1 ((hp.zn d hd).2 z hm).2
        omega
  · obtain ⟨d, hd, hdd, hz1, hz2⟩ := dom_of hp (z := z) (by omega)
    cases ht : hasB C Dn z with
    | true =>
      refine ⟨setC C d ((C d).filter (neB z)), 0, fun w hw => ?_, fun w D v s L hr => ?_⟩
      · have := drop_calls hw hd hdd
        rw [ht] at this
        exact this
      · refine (rp_drop_yes hr (dom_tdiv hdd) ht).mono ?_
        rintro e w' ⟨u, rfl, h2, hf⟩
        exact ⟨u, _, rfl, h2.wide2, hf⟩
    | false =>
      refine ⟨C, 15, fun w hw => ?_, rdoes_id fun w D v s L hr => ?_⟩
      · have h1 := drop_calls hw hd hdd
        have h2 : z ∉ C d := fun hm => by rw [(hasB_at hp hd hdd).2 hm] at ht; cases ht
        have h3 : setC C d ((C d).filter (neB z)) = C := by
          rw [neB_filter h2]; funext e; unfold setC; split
          · rename_i h; rw [h]
          · rfl
        rw [h3, ht] at h1
        exact h1
      · exact rp_drop_no hr ht
theorem both_pair (_hp : PoolAt base w p Dn Zn S B P O l qb qc C) : ∃ (C' : Nat → List Int) (x y f : Int), PDoes base p Dn Zn S B P O l qb qc C C' 51 #[] (.tuple #[.int .i64 x, .int .i64 y, .int .i64 f]) ∧ RDoes Dn Zn C C' 68 #[] #[.int .i64 x, .int .i64 y, .int .i64 f] := by
  by_cases h0 : pairsP Dn C = 0
  · refine ⟨C, 0, 0, 15, fun w hw => ?_, rdoes_id fun w D v s L hr => ?_⟩
    · refine (pair_none hw h0).mono ?_
      rintro e w' ⟨rfl, hf⟩
      exact ⟨rfl, hw.fr0 hf, hf.mono (fun _ _ h => h.elim)⟩
    · exact rp_pair_none hr h0
  · obtain ⟨a, b, ha, hb, hab, hfa, hfb, hna, hnb, hm1, hm2⟩ := pairs_two C h0
    obtain ⟨x, ta, hca⟩ : ∃ x ta, C a = x :: ta := by
      cases h : C a with
      | nil => exact absurd h hna
      | cons x t => exact ⟨x, t, rfl⟩
    obtain ⟨y, tb, hcb⟩ : ∃ y tb, C b = y :: tb := by
      cases h : C b with
      | nil => exact absurd h hnb
      | cons x t => exact ⟨x, t, rfl⟩
    refine ⟨setC (setC C a ta) b tb, x, y, 0, fun w hw => ?_, fun w D v s L hr => ?_⟩
    · exact pair_some hw h0 ha hb hab hfa hfb hca hcb
    · refine (rp_pair_some hr ha hb hab hfa hfb hca hcb).mono ?_
      rintro e w' ⟨u, rfl, h2, hf⟩
      exact ⟨u, _, rfl, h2.wide2, hf⟩
end
end Go.Proofs.Ytcdblopnaimfoaa

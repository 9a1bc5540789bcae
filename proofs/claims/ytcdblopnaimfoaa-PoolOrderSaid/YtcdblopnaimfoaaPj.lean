/- The walk of the law on a pool's order. No condition. -/
import Derived.Test.YtcdblopnaimfoaaPi
import Derived.Test.YtcdblopnaimfoaaArgs
namespace Go.Proofs.Ytcdblopnaimfoaa
open Go.RowKit Go.Conc

/-- What is waited for: the zones of a domain, in their order. -/
def wantP (Dn : Nat) (C : Nat → List Int) (dm : Int) : List Int := if 0 ≤ dm ∧ dm < Dn then C dm.toNat else []
theorem wantP_in {Dn d : Nat} (C : Nat → List Int) (h : d < Dn) : wantP Dn C d = C d := by rw [wantP, if_pos (by omega), Int.toNat_natCast]
theorem wantP_out {Dn : Nat} (C : Nat → List Int) {dm : Int} (h : dm < 0 ∨ Dn ≤ dm) : wantP Dn C dm = [] := if_neg (by omega)

set_option linter.unusedSimpArgs false in
set_option linter.unusedVariables false in
set_option maxRecDepth 100000 in
set_option maxHeartbeats 8000000 in
theorem poolOrder_walk (w : World) (D Z S B P O : Int) (v : Value) (zs : List Int) (hm : zs.length ≤ maxLen) (hs : Sl1 w w.heap.size v (zs.map (.int .i64))) (dm : Int) :
    Calls Try.prog 11 #[.agg #[.int .i64 D, .int .i64 Z, .int .i64 S, .int .i64 B, .int .i64 P, .int .i64 O], v, .int .i64 dm] w fun e w' => e = .returned (.bool true) ∧ Below w.heap.size w w' := by
  obtain ⟨a, cap0, rfl, hc⟩ := hs
  rw [List.length_map]
  have HC := Lib.hid hc
  clear hc
  have g0 := blk_new w (.cells #[.int .i64 D, .int .i64 Z, .int .i64 S, .int .i64 B, .int .i64 P, .int .i64 O] 42)
  have b0 : Below w.heap.size w (w.alloc (.cells #[.int .i64 D, .int .i64 Z, .int .i64 S, .int .i64 B, .int .i64 P, .int .i64 O] 42)) := (Below.refl _ w).alloc (Nat.le_refl _) _
  have hs0 : (w.alloc (.cells #[.int .i64 D, .int .i64 Z, .int .i64 S, .int .i64 B, .int .i64 P, .int .i64 O] 42)).heap.size = w.heap.size + 1 := by simp
  go_enter Try.func11, Try.ntmps11
  go_wp2_with fail
  generalize w.alloc (.cells #[.int .i64 D, .int .i64 Z, .int .i64 S, .int .i64 B, .int .i64 P, .int .i64 O] 42) = w0 at g0 b0 hs0 ⊢
  refine (anchor10 w0).mono ?_
  rintro e w1 ⟨rfl, hb⟩
  have f1 := Fr.of_below (S := fun _ => False) hb
  have g1 := f1.heap g0 id
  have b1 := b0.trans (hb.mono (by omega))
  have hs1 : w.heap.size + 1 ≤ w1.heap.size := by have := hb.size; omega
  clear hb f1 b0 g0 hs0
  have c1 := fun i => blk_cell g1 i
  cases hr : rightB D Z S B P O with
  | false =>
    have hst := fun V => started_no hr V
    have hR := fun V => PGeomRight.geom_Geom_Right.calls D Z S B P O false V (by rw [right_eq, hr])
    have HST := Lib.hid hst
    have HR := Lib.hid hR
    clear hst hR hr
    go_wp2_with fail
    refine (HST.out w1).mono ?_
    rintro e w2 ⟨rfl, f2⟩
    have g2 := f2.heap g1 id
    have c2 := fun o i => blk_cell (blk_alloc g2 o) i
    go_wp2_with fail
    refine (HR.out _).mono ?_
    rintro e w3 ⟨rfl, b3⟩
    have F3 := (f2.alloc (.cells #[.int .i64 0, .int .i64 0, .slice none 0 0] 70)).trans (Fr.of_below (S := fun _ => False) b3) (fun _ _ h => h)
    go_wp2
    go_ret
    exact ⟨rfl, b1.trans (F3.below b1.size (fun _ _ => id))⟩
  | true =>
    have hSm := (rightB_iff.1 hr).1
    obtain ⟨Dn, rfl⟩ := Int.eq_ofNat_of_zero_le (by have := hSm.d0; omega : 0 ≤ D)
    obtain ⟨Zn, rfl⟩ := Int.eq_ofNat_of_zero_le (by have := hSm.z0; omega : 0 ≤ Z)
    have hst := fun V => started_ok hSm hr V
    have hR := fun V => PGeomRight.geom_Geom_Right.calls Dn Zn S B P O true V (by rw [right_eq, hr])
    have hdi := fun z V => domainI hSm z V
    have HST := Lib.hid hst
    have HR := Lib.hid hR
    have HDI := Lib.hid hdi
    clear hst hR hdi hr
    go_wp2_with fail
    refine (HST.out w1).mono ?_
    rintro e w2 ⟨p, l, qb, qc, rfl, h2, b2⟩
    have f2 := Fr.of_below (S := fun _ => False) b2
    have g2 := f2.heap g1 id
    have c2 := fun o i => blk_cell (blk_alloc g2 o) i
    have bb2 := b1.trans (b2.mono (by omega))
    have hs2 := b2.size
    by_cases hl : 60 < zs.length
    · go_wp2_with fail
      refine (HR.out _).mono ?_
      rintro e w3 ⟨rfl, b3⟩
      have F3 := ((Fr.refl (fun _ => False) w2).alloc (.cells #[.int .i64 Dn, .int .i64 Zn, .slice none 0 0] 70)).trans (Fr.of_below (S := fun _ => False) b3) (fun _ _ h => h)
      go_wp2
      go_ret
      exact ⟨rfl, bb2.trans (F3.below bb2.size (fun _ _ => id))⟩
    · go_wp2_with fail
      have hp3 := h2.fr0 ((Fr.refl (fun _ => False) w2).alloc (.cells #[.int .i64 Dn, .int .i64 Zn, .slice none 0 0] 70))
      have g3 := blk_alloc g2 (.cells #[.int .i64 Dn, .int .i64 Zn, .slice none 0 0] 70)
      have b3 := bb2.alloc bb2.size (.cells #[.int .i64 Dn, .int .i64 Zn, .slice none 0 0] 70)
      generalize w2.alloc (.cells #[.int .i64 Dn, .int .i64 Zn, .slice none 0 0] 70) = w3 at hp3 g3 b3 ⊢
      clear c1 c2 g1 g2 f2 h2 bb2 hs2 b2
      go_loopw [10, 44] (fun u i W => ∃ (k : Nat) (C : Nat → List Int), k ≤ zs.length ∧ i = .int .i64 k ∧ PoolAt w1.heap.size W p Dn Zn S B P O l qb qc C ∧ W.ownsRow w.heap.size 3 1 u (wantP Dn C dm).length (ints (wantP Dn C dm)) ∧ (wantP Dn C dm).length ≤ k ∧
          W.heap[w.heap.size]? = some (.cells #[.int .i64 Dn, .int .i64 Zn, .int .i64 S, .int .i64 B, .int .i64 P, .int .i64 O] 42 (0, 0)) ∧ Below w.heap.size w W) (fun _ i _ => zs.length - (intOf i).toNat)
      case atStart => 
        have e0 : wantP Dn (fun _ => []) dm = [] := by unfold wantP; split <;> rfl
        exact ⟨0, _, by omega, rfl, hp3, by rw [e0]; exact World.ownsRow_nil _ _ _ _, by rw [e0]; simp, g3, b3⟩
      case round =>
        clear hp3 g3 b3
        obtain ⟨k, C, hk, rfl, hp, hrow, hwl, gg, hb⟩ := hrel
        obtain ⟨au, cu, rfl⟩ := row_val hrow
        have hdz := hp.dz
        by_cases hlt : k < zs.length
        · obtain ⟨bb, o, rfl, hbl, hcell⟩ := HC.out (List.ne_nil_of_length_pos (by rw [List.length_map]; omega))
          have hcc : wr.cell? ⟨bb, o + k, none⟩ = some (.int .i64 zs[k]) := (World.cell?_of_block (hb.block bb hbl)).trans (by have := hcell k (by simpa using hlt); simpa using this)
          clear hcell
          obtain ⟨n, hn⟩ : ∃ n, (wantP Dn C dm).length = n := ⟨_, rfl⟩
          obtain ⟨M, hM⟩ : ∃ M, wantP Dn C dm = M := ⟨_, rfl⟩
          rw [hM] at hn hrow hwl
          try rw [hM]
          rw [hn] at hrow hwl
          try rw [hn]
          have HM := Lib.hid hM
          have HN := Lib.hid hn
          clear hM hn
          generalize zs[k] = z at hcc
          go_wp2_with fail
          by_cases hdn : domP Dn Zn z < 0
          · refine (give_out hp hdn).mono ?_
            rintro e w4 ⟨rfl, f4⟩
            have hp4 := hp.fr0 f4
            have hrow4 := row_fr hrow f4 (fun _ _ => id)
            have gg4 := f4.heap gg id
            have hb4 := hb.trans (f4.below hb.size (fun _ _ => id))
            go_wp2_with fail
            go_roundw
            case rel => exact ⟨k + 1, C, by omega, by go_num, hp4, by rw [HM.out, HN.out]; exact hrow4, by rw [HM.out, HN.out]; omega, gg4, hb4⟩
            case measure => simp [intOf]; omega
          · obtain ⟨d, hd, hdd, hz1, hz2⟩ := dom_of hp (z := z) (by omega)
            cases ht : hasB C Dn z with
            | true =>
              refine (give_twice hp hdd ht).mono ?_
              rintro e w4 ⟨rfl, hp4, f4⟩
              have hcg := fun j (hj : Chs Dn qc j) => (show w1.heap.size ≤ j by obtain ⟨d2, hd2, rfl⟩ := hj; exact (hp.bq d2 hd2).2)
              have hrow4 := row_fr hrow f4 (fun j hj e => by obtain ⟨cur, hc⟩ := row_obj hrow hj; exact hp.nch hc e)
              have gg4 := f4.heap gg (hp.nch gg)
              have hb4 := hb.trans (f4.below hb.size (fun i hi e => by have := hcg _ e; omega))
              clear hdd ht
              go_wp2_with fail
              go_roundw
              case rel => exact ⟨k + 1, C, by omega, by go_num, hp4, by rw [HM.out, HN.out]; exact hrow4, by rw [HM.out, HN.out]; omega, gg4, hb4⟩
              case measure => simp [intOf]; omega
            | false =>
              refine (give_ok hp hd hdd hz1 hz2 ht).mono ?_
              rintro e w4 ⟨rfl, hp4, f4⟩
              have hcg := fun j (hj : Chs Dn qc j) => (show w1.heap.size ≤ j by obtain ⟨d2, hd2, rfl⟩ := hj; exact (hp.bq d2 hd2).2)
              have hrow4 := row_fr hrow f4 (fun j hj e => by obtain ⟨cur, hc⟩ := row_obj hrow hj; exact hp.nch hc e)
              have gg4 := f4.heap gg (hp.nch gg)
              have hb4 := hb.trans (f4.below hb.size (fun i hi e => by have := hcg _ e; omega))
              have hdo := HDI.out z
              rw [hdd] at hdo
              have HDO := Lib.hid hdo
              have cg := fun i => blk_cell gg4 i
              have HDD := Lib.hid hdd
              clear hdo hdd ht
              go_wp2_with fail
              refine (HDO.out _).mono ?_
              rintro e w5 ⟨rfl, b5⟩
              have f5 := Fr.of_below (S := fun _ => False) b5
              have hp5 := hp4.fr0 f5
              have hrow5 := row_fr hrow4 f5 (fun _ _ => id)
              have gg5 := f5.heap gg4 id
              have hb5 := hb4.trans (b5.mono hb4.size)
              have hsz5 := hb5.size
              clear cg
              by_cases hde : (d : Int) = dm
              · have hde' : ((d : Int) == dm) = true := by simpa using hde
                go_wp2_with (at_builtin; refine wpList_app (v := .slice au n cu) (m := 1) rfl (.tmp 59) (.tmp 61) rfl rfl rfl rfl (row_fr hrow5 ((Fr.refl (fun _ => False) w5).alloc _) (fun _ _ => id)) (one_rd w5 (.int .i64 z)) rfl (by intro u hu; simp at hu; subst hu; rfl) (by omega) (by simp; omega) ?_; intro a6 n6 w6 hown6 hgrow6 hat6)
                have hf6 : Fr (fun j => (Value.slice au n cu).ownBlock = some j) (w5.alloc (.cells #[.int .i64 z] 3)) w6 := Fr.grown hgrow6 (fun k hk => hk)
                have hf7 : Fr (fun j => (Value.slice au n cu).ownBlock = some j) w5 w6 := ((Fr.refl _ w5).alloc _).trans hf6 (fun _ _ h => h)
                have hnr : ∀ (j : Nat) (o : Obj), w5.heap[j]? = some o → (∀ cur, o ≠ .cells cur 3 (0, 0)) → (Value.slice au n cu).ownBlock ≠ some j := fun j o hj hne e => by
                  obtain ⟨cur, hc⟩ := row_obj hrow5 e
                  rw [hj] at hc; cases hc; exact hne _ rfl
                have hp7 := hp5.fr hf7 (fun j hj e => by
                  obtain ⟨cur, hc⟩ := row_obj hrow5 e
                  rcases hj with rfl | hj | ⟨d2, hd2, rfl | rfl⟩
                  · rw [hp5.pc] at hc; cases hc
                  · obtain ⟨cur2, hc2⟩ := row_obj hp5.row hj
                    rw [hc2] at hc; cases hc
                  · rw [(hp5.q d2 hd2).1] at hc; cases hc
                  · exact hp5.cne hd2 hc rfl)
                have gg7 := hf7.heap gg5 (hnr _ _ gg5 (by intro c e; cases e))
                have hb7 := hb5.trans (hf7.below hsz5 (fun i hi e => by have := (hrow5.lt i e).1; omega))
                have e9 : ints M ++ [.int .i64 z] = ints (wantP Dn (setC C d (C d ++ [z])) dm) := by
                  rw [← hde, wantP_in _ hd, setC_same, ← HM.out, ← hde, wantP_in _ hd]; simp [ints]
                have e8 : n + 1 = (wantP Dn (setC C d (C d ++ [z])) dm).length := by
                  rw [← hde, wantP_in _ hd, setC_same, ← HN.out, ← HM.out, ← hde, wantP_in _ hd]; simp
                rw [e9] at hown6
                have E8 := Lib.hid e8
                clear e8 e9 hgrow6 hat6 hf6 hf7 hnr hp5 hp4 hp
                go_roundw
                case rel => exact ⟨k + 1, _, by omega, by go_num, hp7, by rw [← E8.out]; exact hown6, by rw [← E8.out]; omega, gg7, hb7⟩
                case measure => simp [intOf]; omega
              · have hde' : ((d : Int) == dm) = false := by simpa using hde
                have e9 : wantP Dn (setC C d (C d ++ [z])) dm = M := by
                  rw [← HM.out]
                  unfold wantP
                  split
                  · rw [setC_other _ _ (by omega)]
                  · rfl
                have E9 := Lib.hid e9
                clear e9
                go_wp2_with fail
                go_roundw
                case rel => exact ⟨k + 1, _, by omega, by go_num, hp5, by rw [E9.out, HN.out]; exact hrow5, by rw [E9.out, HN.out]; omega, gg5, hb5⟩
                case measure => simp [intOf]; omega
        · obtain ⟨M, hM⟩ : ∃ M, wantP Dn C dm = M := ⟨_, rfl⟩
          rw [hM] at hrow hwl
          try rw [hM]
          have HM := Lib.hid hM
          clear hM
          by_cases hdm : 0 ≤ dm ∧ dm < Dn
          · obtain ⟨d, rfl⟩ := Int.eq_ofNat_of_zero_le hdm.1
            have hd : d < Dn := by omega
            have hMC : C d = M := by rw [← HM.out, wantP_in _ hd]
            go_wp2_with fail
            go_loopw [66] (fun i W => ∃ (j : Nat) (C2 : Nat → List Int), j ≤ M.length ∧ i = .int .i64 j ∧ PoolAt w1.heap.size W p Dn Zn S B P O l qb qc C2 ∧ C2 d = M.drop j ∧ W.ownsRow w.heap.size 3 1 (.slice au M.length cu) M.length (ints M) ∧ Below w.heap.size w W) (fun i _ => M.length - (intOf i).toNat)
            case atStart => exact ⟨0, C, by omega, rfl, hp, by simpa using hMC, hrow, hb⟩
            case round =>
              clear hp hrow hb gg hMC HM
              obtain ⟨j, C2, hj, rfl, hp, hCd, hrow, hb⟩ := hrel
              by_cases hjl : j < M.length
              · obtain ⟨g, cap', e, hcl, -⟩ := row_cell (L := ints M) hrow (i := j) (by rw [ints_length]; exact hjl)
                rw [ints_get M hjl] at hcl
                cases e
                rw [List.drop_eq_getElem_cons hjl] at hCd
                have htk := take_some hp d hd hCd
                have HD1 := Lib.hid (setC_same C2 d (M.drop (j + 1)))
                clear hCd
                go_wp2_with fail
                refine htk.mono ?_
                rintro e w5 ⟨rfl, hp5, f5⟩
                have hrow5 := row_fr hrow f5 (fun i hi e => by obtain ⟨cur, hc⟩ := row_obj hrow hi; exact hp.cne hd hc e)
                have hb5 := hb.trans (f5.below hb.size (fun i hi e => by have := (hp.bq d hd).2; omega))
                clear htk hp hrow hb f5
                go_wp2_with fail
                go_roundw
                case rel => exact ⟨j + 1, _, by omega, by go_num, hp5, HD1.out, hrow5, hb5⟩
                case measure => simp [intOf]; omega
              · obtain rfl : j = M.length := by omega
                rw [List.drop_length] at hCd
                have htk := take_none hp d hd hCd
                have hcn := count_calls hp (d : Int)
                have e0 : cntP Dn C2 (d : Int) = 0 := by rw [cntP, if_pos (by omega), Int.toNat_natCast, hCd]; rfl
                rw [e0] at hcn
                clear e0 hCd
                go_wp2_with fail
                refine htk.mono ?_
                rintro e w5 ⟨rfl, rfl⟩
                go_wp2_with fail
                refine hcn.mono ?_
                rintro e w6 ⟨rfl, rfl⟩
                go_wp2
                go_ret
                exact ⟨rfl, hb⟩
          · have hout : dm < 0 ∨ Dn ≤ dm := by omega
            have hM0 : M = [] := by rw [← HM.out, wantP_out _ hout]
            subst hM0
            have htk := take_out hp dm hout
            have hcn := count_calls hp dm
            have e0 : cntP Dn C dm = 0 := if_neg hdm
            rw [e0] at hcn
            clear e0 hdm hout
            go_wp2_with fail
            go_loopw [66] (fun i W => i = .int .i64 0 ∧ W = wr) (fun i _ => 0)
            case atStart => exact ⟨rfl, rfl⟩
            case round =>
              obtain ⟨rfl, rfl⟩ := hrel
              go_wp2_with fail
              refine htk.mono ?_
              rintro e w5 ⟨rfl, rfl⟩
              go_wp2_with fail
              refine hcn.mono ?_
              rintro e w6 ⟨rfl, rfl⟩
              go_wp2
              go_ret
              exact ⟨rfl, hb⟩
end Go.Proofs.Ytcdblopnaimfoaa

/- A new pool. No condition. -/
import Derived.Test.YtcdblopnaimfoaaPg
namespace Go.Proofs.Ytcdblopnaimfoaa
open Go.RowKit Go.Conc

theorem info33 : (Try.prog.info? 33).map (fun i => (i.zero, i.size, i.bytes)) = some (some (.pointer none), 1, 8) := by kernel_rfl
theorem wpList_appP {ops : Array Oper} {rest : List Oper} {o : Oper} {a : Act} {Q : Exit → Act → World → Prop} {w : World} {base : Nat} {v x : Value} {n : Nat} {xs : List Value} {e : Value} (hgd : o.guard = none) (s y : Operand)
    (ho : o.op = .call { callee := .builtin .append, args := #[s, y], argTypes := #[96, 96] }) (hty : o.type = 96) (hs : a.eval s = v) (hy : a.eval y = x)
    (hown : w.ownsRow base 33 1 v n xs) {g : Nat} (hx : x = .slice (some ⟨g, 0, none⟩) 1 1) (hc : w.cell? ⟨g, 0, none⟩ = some e) (h1 : e.oneCell' = true) (hn : n < 1000) (hb : base ≤ w.heap.size)
    (h : ∀ a1 c1 w', w'.ownsRow base 33 1 (.slice a1 (n + 1) c1) (n + 1) (xs ++ [e]) → w.grownBy w' v.ownBlock → ((Value.slice a1 (n + 1) c1).ownBlock = v.ownBlock ∨ (Value.slice a1 (n + 1) c1).ownBlock = some w.heap.size) → wpList Try.prog ops Q rest (a.put o.dst (.slice a1 (n + 1) c1)) w') :
    wpList Try.prog ops Q (o :: rest) a w := by
  refine wpList_plain hgd fun _ hK => ?_
  obtain ⟨i0, hi, hz0, hz1, hz2⟩ := info_parts info33
  subst hx
  have hnews : ∀ j u, ([e] : List Value)[j]? = some u → w.cell? ((⟨g, 0, none⟩ : Addr).add j) = some u := by
    intro j u hu
    obtain ⟨hj, rfl⟩ := List.getElem?_eq_some_iff.1 hu
    have : j = 0 := by simp at hj; omega
    subst this
    simpa [Addr.add] using hc
  obtain ⟨v', w', hr, h2, h3, h4, h5⟩ := run_append_own_at (P := Try.prog) w base 96 96 33 i0 (.pointer none) 1 8 Try.underlying96 hi hz0 hz1 hz2 rfl (by decide) v n xs hown ⟨g, 0, none⟩ 1 1 [e] (by simp) hnews (by intro u hu; simp at hu; subst hu; exact h1) (by unfold maxLen; omega) (by omega) hb
  obtain ⟨a1, c1, rfl⟩ := row_val h2
  unfold Oper.wp execOp
  simp only [ho, hty, resolve, invoke, builtin, Sem.run_bind, Sem.run_pure, Result.andThen_ok, List.map_toArray, List.map_cons, List.map_nil, hs, hy, hr]
  exact hK _ _ (h a1 c1 w' h2 h3 h5)

set_option linter.unusedSimpArgs false in
set_option maxRecDepth 100000 in
set_option maxHeartbeats 4000000 in
theorem newP_ok {Dn Zn : Nat} {S B P O : Int} (hS : Small Dn Zn S B P O) (hr : rightB Dn Zn S B P O = true) (w : World) : Calls Try.prog 54 #[.agg #[.int .i64 Dn, .int .i64 Zn, .int .i64 S, .int .i64 B, .int .i64 P, .int .i64 O]] w fun e w' =>
    ∃ p l qb qc, e = .returned (.tuple #[.pointer (some ⟨p, 0, none⟩), .int .i64 0]) ∧ PoolAt w.heap.size w' p Dn Zn S B P O l qb qc (fun _ => []) ∧ Below w.heap.size w w' := by
  have hR := fun V => PGeomRight.geom_Geom_Right.calls Dn Zn S B P O true V (by rw [right_eq, hr])
  have hdz : 3 ≤ Dn ∧ Dn ≤ 8 ∧ 1 ≤ Zn ∧ Zn ≤ 64 := by have := hS.d0; have := hS.d1; have := hS.z0; have := hS.z1; omega
  have HR := Lib.hid hR
  clear hR hr
  have F1 := (Fr.refl (fun _ => False) w).alloc (.cells #[.int .i64 Dn, .int .i64 Zn, .int .i64 S, .int .i64 B, .int .i64 P, .int .i64 O] 42)
  have g1 := blk_new w (.cells #[.int .i64 Dn, .int .i64 Zn, .int .i64 S, .int .i64 B, .int .i64 P, .int .i64 O] 42)
  have hs1 : (w.alloc (.cells #[.int .i64 Dn, .int .i64 Zn, .int .i64 S, .int .i64 B, .int .i64 P, .int .i64 O] 42)).heap.size = w.heap.size + 1 := by simp
  have c1 := fun i => blk_cell g1 i
  go_enter Try.func54, Try.ntmps54
  go_wp2_with fail
  refine (HR.out _).mono ?_
  rintro e w2 ⟨rfl, hb⟩
  have F2 := F1.trans (Fr.of_below (S := fun _ => False) hb) (fun _ _ h => h)
  have g2 := (Fr.of_below (S := fun _ => False) hb).heap g1 id
  have hs2 : w.heap.size + 1 ≤ w2.heap.size := by have := hb.size; omega
  clear F1 g1 hs1 c1 hb HR
  have c2 := fun i => blk_cell g2 i
  have F3 := F2.alloc (.cells #[.int .i64 Dn, .int .i64 Zn, .int .i64 S, .int .i64 B, .int .i64 P, .int .i64 O, .slice none 0 0] 98)
  have g3 := blk_new w2 (.cells #[.int .i64 Dn, .int .i64 Zn, .int .i64 S, .int .i64 B, .int .i64 P, .int .i64 O, .slice none 0 0] 98)
  have g2' := blk_alloc g2 (.cells #[.int .i64 Dn, .int .i64 Zn, .int .i64 S, .int .i64 B, .int .i64 P, .int .i64 O, .slice none 0 0] 98)
  have c2' := fun i => blk_cell g2' i
  obtain ⟨p, hp⟩ : ∃ p, w2.heap.size = p := ⟨_, rfl⟩
  go_wp2_with fail
  try rw [hp]
  rw [hp] at g3 hs2
  generalize w2.alloc (.cells #[.int .i64 Dn, .int .i64 Zn, .int .i64 S, .int .i64 B, .int .i64 P, .int .i64 O, .slice none 0 0] 98) = w3 at F3 g3 g2' ⊢
  have hp3 : p < w3.heap.size := blk_lt g3
  clear g2 c2 c2' F2 hp w2
  go_loopw [15] (fun i W => ∃ (k : Nat) (u : Value) (qb qc : Nat → Nat), k ≤ Dn ∧ i = .int .i64 k ∧ W.heap[p]? = some (.cells #[.int .i64 Dn, .int .i64 Zn, .int .i64 S, .int .i64 B, .int .i64 P, .int .i64 O, u] 98 (0, 0)) ∧
      W.ownsRow w.heap.size 33 1 u k ((List.range k).map fun d => .pointer (some ⟨qb d, 0, none⟩)) ∧ (∀ d, d < k → QAt 92 W (qb d) (qc d) Zn (ints [])) ∧ (∀ d e, d < k → e < k → qc d = qc e → d = e) ∧ (∀ d, d < k → w.heap.size ≤ qb d ∧ w.heap.size ≤ qc d) ∧
      W.heap[w.heap.size]? = some (.cells #[.int .i64 Dn, .int .i64 Zn, .int .i64 S, .int .i64 B, .int .i64 P, .int .i64 O] 42 (0, 0)) ∧ Below w.heap.size w W) (fun i _ => Dn - (intOf i).toNat)
  case atStart => exact ⟨0, _, fun _ => 0, fun _ => 0, by omega, rfl, g3, World.ownsRow_nil _ _ _ _, by intro d hd; omega, by intro d e hd; omega, by intro d hd; omega, g2', F3.below (Nat.le_refl _) (fun _ _ h => h)⟩
  case round =>
    clear g3 g2' F3 hp3
    obtain ⟨k, u, qb, qc, hk, rfl, gp, hrow, hq, hinj, hbq, gg, hb⟩ := hrel
    obtain ⟨au, cu, rfl⟩ := row_val hrow
    have cg := fun i => blk_cell gg i
    have cp := fun i => blk_cell gp i
    have HQ := Lib.hid hq
    have HI := Lib.hid hinj
    have HB := Lib.hid hbq
    clear hq hinj hbq
    by_cases hlt : k < Dn
    · go_wp2_with fail
      refine (newI_ok (Zn : Int) (by omega) (by omega) _).mono ?_
      rintro e w4 ⟨rfl, hqn, hb4, hsz4⟩
      rw [Int.toNat_natCast] at hqn
      clear hsz4
      have f4 := Fr.of_below (S := fun _ => False) hb4
      have gp4 := f4.heap gp id
      have gg4 := f4.heap gg id
      have hrow4 := row_fr hrow f4 (fun _ _ => id)
      have cp4 := fun i => blk_cell gp4 i
      have hsw := hb.size
      have hsz := hb4.size
      clear cg cp
      have gpn : ∀ o i, (w4.alloc o).cell? ⟨p, i, none⟩ = (#[.int .i64 Dn, .int .i64 Zn, .int .i64 S, .int .i64 B, .int .i64 P, .int .i64 O, .slice au k cu] : Array Value)[i]? := fun o i => blk_cell (blk_alloc gp4 o) i
      go_wp2_with (at_builtin; refine wpList_appP (v := .slice au k cu) rfl (.tmp 30) (.tmp 32) rfl rfl rfl rfl (row_fr hrow4 ((Fr.refl (fun _ => False) w4).alloc _) (fun _ _ => id)) (g := w4.heap.size) (e := .pointer (some ⟨wr.heap.size + 1, 0, none⟩)) rfl (blk_cell (blk_new w4 (.cells #[.pointer (some ⟨wr.heap.size + 1, 0, none⟩)] 33)) 0) rfl (by omega) (by simp; omega) ?_; intro a5 n5 w5 hown5 hgrow5 hat5; have hf5 : Fr (fun j => (Value.slice au k cu).ownBlock = some j) (w4.alloc (.cells #[.pointer (some ⟨wr.heap.size + 1, 0, none⟩)] 33)) w5 := Fr.grown hgrow5 (fun k hk => hk); have gp5 := hf5.heap (blk_alloc gp4 _) (fun e => by obtain ⟨cur, hc⟩ := row_obj hrow4 e; rw [gp4] at hc; cases hc); have cp5 := fun i => blk_cell gp5 i; have fp5 := fun i => blk_frozen gp5 i)
      have hf45 : Fr (fun j => (Value.slice au k cu).ownBlock = some j) w4 w5 := ((Fr.refl _ w4).alloc _).trans hf5 (fun _ _ h => h)
      have hne : ∀ (k2 : Nat) (cs : Array Value) (ty : TypeId), w4.heap[k2]? = some (.cells cs ty (0, 0)) → ty ≠ 33 → (Value.slice au k cu).ownBlock ≠ some k2 := fun k2 cs ty hk2 hty e => by
        obtain ⟨cur, hc⟩ := row_obj hrow4 e
        rw [hk2] at hc; cases hc; exact hty rfl
      have hnc : ∀ (k2 : Nat) cap xs s r, w4.heap[k2]? = some (.chan cap xs false s r false) → (Value.slice au k cu).ownBlock ≠ some k2 := fun k2 cap xs s r hk2 e => by
        obtain ⟨cur, hc⟩ := row_obj hrow4 e
        rw [hk2] at hc; cases hc
      have gg5 := hf45.heap gg4 (hne _ _ _ gg4 (by decide))
      have F6 := Fr.set1 w5 p 6 (.slice a5 (k + 1) n5)
      have gp6 := blk_put gp5 6 (.slice a5 (k + 1) n5)
      have gg6 := F6.heap gg5 (by omega)
      have hrow6 := row_fr hown5 F6 (fun j hj e => by obtain ⟨cur, hc⟩ := row_obj hown5 hj; rw [e, gp5] at hc; cases hc)
      have hqs : ∀ bq cq : Nat, QAt 92 w4 bq cq Zn (ints []) → QAt 92 (w5.setCell ⟨p, 6, none⟩ (.slice a5 (k + 1) n5)) bq cq Zn (ints []) := fun bq cq hq => by
        obtain ⟨e1, s, r, e2⟩ := hq
        refine QAt.fr (QAt.fr ⟨e1, s, r, e2⟩ hf45 (hne _ _ _ e1 (by decide)) (hnc _ _ _ _ _ e2)) F6 (fun e => ?_) (fun e => ?_)
        · rw [e, gp4] at e1; cases e1
        · rw [e, gp4] at e2; cases e2
      have hb6 : Below w.heap.size w (w5.setCell ⟨p, 6, none⟩ (.slice a5 (k + 1) n5)) := ((hb.trans (hb4.mono hsw)).trans (hf45.below (by omega) (fun i hi e => by have := (hrow4.lt i e).1; omega))).trans (F6.below (by have := hf45.size; omega) (fun i hi e => by omega))
      generalize hw6 : w5.setCell ⟨p, 6, none⟩ (.slice a5 (k + 1) n5) = w6 at gp6 gg6 hrow6 hqs hb6 F6 ⊢
      have HW := Lib.hid hw6
      have HQS := Lib.hid hqs
      clear hw6 hqs gp5 cp5 fp5 gg5 hown5 hgrow5 hat5 hf5 hf45 gp4 cp4 gg4 hrow4 gpn hne hnc
      have hg6 : w6.heap[p]? = some (.cells #[.int .i64 Dn, .int .i64 Zn, .int .i64 S, .int .i64 B, .int .i64 P, .int .i64 O, .slice a5 (k + 1) n5] 98 (0, 0)) := by simpa using gp6
      clear gp6
      go_roundw
      case rel =>
        refine ⟨k + 1, .slice a5 (k + 1) n5, fun d => if d = k then wr.heap.size + 1 else qb d, fun d => if d = k then wr.heap.size else qc d, by omega, by go_num, hg6, ?_, ?_, ?_, ?_, gg6, hb6⟩
        · have e9 : (List.range (k + 1)).map (fun d => Value.pointer (some ⟨if d = k then wr.heap.size + 1 else qb d, 0, none⟩)) = (List.range k).map (fun d => Value.pointer (some ⟨qb d, 0, none⟩)) ++ [.pointer (some ⟨wr.heap.size + 1, 0, none⟩)] := by
            rw [List.range_succ, List.map_append]
            congr 1
            · apply List.map_congr_left
              intro d hd
              rw [if_neg (by have := List.mem_range.1 hd; omega)]
            · simp
          rw [e9]; exact hrow6
        · intro d hd
          by_cases e : d = k
          · simp only [e, if_true]
            exact HQS.out _ _ hqn
          · simp only [e, if_false]
            exact HQS.out _ _ ((HQ.out d (by omega)).fr f4 id id)
        · intro d e hd he
          have hd2 : d < k → qc d < wr.heap.size := fun h => (HQ.out d h).cl
          have he2 : e < k → qc e < wr.heap.size := fun h => (HQ.out e h).cl
          by_cases e1 : d = k
          · by_cases e2 : e = k
            · intro _; omega
            · simp only [e1, e2, if_true, if_false]
              intro h; have := he2 (by omega); omega
          · by_cases e2 : e = k
            · simp only [e1, e2, if_true, if_false]
              intro h; have := hd2 (by omega); omega
            · simp only [e1, e2, if_false]
              exact HI.out d e (by omega) (by omega)
        · intro d hd
          by_cases e : d = k
          · simp only [e, if_true]; omega
          · simp only [e, if_false]; exact HB.out d (by omega)
      case measure => simp [intOf]; omega
    · obtain rfl : k = Dn := by omega
      go_wp2
      go_ret2
      exact ⟨p, _, qb, qc, rfl, ⟨hS, gp, hrow, HQ.out, HI.out, fun d hd => ⟨List.nodup_nil, by simp⟩, by omega, HB.out⟩, hb⟩
theorem newP_no {D Z S B P O : Int} (hr : rightB D Z S B P O = false) (w : World) : Calls Try.prog 54 #[.agg #[.int .i64 D, .int .i64 Z, .int .i64 S, .int .i64 B, .int .i64 P, .int .i64 O]] w fun e w' =>
    e = .returned (.tuple #[.pointer none, .int .i64 20]) ∧ Fr (fun _ => False) w w' := by
  have hR := fun V => PGeomRight.geom_Geom_Right.calls D Z S B P O false V (by rw [right_eq, hr])
  have HR := Lib.hid hR
  clear hR hr
  go_enter Try.func54, Try.ntmps54
  go_wp2_with fail
  refine (HR.out _).mono ?_
  rintro e w2 ⟨rfl, hb⟩
  have F2 := ((Fr.refl (fun _ => False) w).alloc (.cells #[.int .i64 D, .int .i64 Z, .int .i64 S, .int .i64 B, .int .i64 P, .int .i64 O] 42)).trans (Fr.of_below (S := fun _ => False) hb) (fun _ _ h => h)
  go_wp2
  go_ret2
  exact ⟨rfl, F2⟩
end Go.Proofs.Ytcdblopnaimfoaa

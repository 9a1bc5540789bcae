/- A queue of numbers listed, ranged over, kept in part. Conditions: no more things than room, room up to 4096. -/
import Derived.Test.YtcdblopnaimfoaaRw
namespace Go.Proofs.Ytcdblopnaimfoaa
open Go.RowKit Go.Conc

theorem QAt.cl {T : TypeId} {w : World} {b c cap : Nat} {xs : List Value} (h : QAt T w b c cap xs) : c < w.heap.size := by obtain ⟨_, s, r, h2⟩ := h; exact blk_lt h2
theorem QAt.bl {T : TypeId} {w : World} {b c cap : Nat} {xs : List Value} (h : QAt T w b c cap xs) : b < w.heap.size := blk_lt h.1
theorem ints_take_succ {L : List Int} {k : Nat} (h : k < L.length) : ints (L.take (k + 1)) = ints (L.take k) ++ [.int .i64 L[k]] := by
  rw [List.take_succ_eq_append_getElem h, ints, ints, List.map_append]; rfl
theorem ints_drop {L : List Int} {k : Nat} (h : k < L.length) : ints (L.drop k) = .int .i64 L[k] :: ints (L.drop (k + 1)) := by
  rw [List.drop_eq_getElem_cons h]; rfl
theorem ints_app (L M : List Int) : ints (L ++ M) = ints L ++ ints M := by simp [ints]

section
variable {w : World} {b c cap : Nat} {L : List Int}
set_option maxHeartbeats 4000000 in
theorem listI (hq : QAt 92 w b c cap (ints L)) (hl : L.length ≤ 4096) (hcap : L.length ≤ cap) : Calls Try.prog 62 #[.pointer (some ⟨b, 0, none⟩)] w fun e w' =>
    ∃ u, e = .returned u ∧ w'.ownsRow w.heap.size 3 1 u L.length (ints L) ∧ QAt 92 w' b c cap (ints L) ∧ Fr (fun k => k = c) w w' := by
  have hcl := hq.cl
  go_enter Try.func62, Try.ntmps62
  go_wp2_with fail
  refine (lenI b c cap _ _ hq).mono ?_
  rintro e w1 ⟨rfl, rfl⟩
  rw [ints_length]
  go_wp2_with fail
  go_loopw [3, 10] (fun u i W => ∃ k : Nat, k ≤ L.length ∧ i = .int .i64 k ∧ W.ownsRow w1.heap.size 3 1 u k (ints (L.take k)) ∧ QAt 92 W b c cap (ints (L.drop k)) ∧ Fr (fun k => k = c) w1 W) (fun _ i _ => L.length - (intOf i).toNat)
  case atStart => exact ⟨0, by omega, rfl, World.ownsRow_nil _ _ _ _, hq, Fr.refl _ _⟩
  case round =>
    obtain ⟨k, hk, rfl, hrow, hq1, hf⟩ := hrel
    obtain ⟨au, cu, rfl⟩ := row_val hrow
    by_cases hlt : k < L.length
    · rw [ints_drop hlt] at hq1
      go_wp2_with fail
      refine (takeI_some b c L[k] cap _ _ hq1).mono ?_
      rintro e W2 ⟨rfl, hq2, hf2⟩
      have hrow2 := row_fr hrow hf2 (fun j hj e => by have := (hrow.lt j hj).1; omega)
      have hs2 : w1.heap.size ≤ W2.heap.size := Nat.le_trans hf.size hf2.size
      go_wp2_with (at_builtin; refine wpList_app (v := .slice au k cu) (m := 1) rfl (.tmp 19) (.tmp 21) rfl rfl rfl rfl (row_fr hrow2 ((Fr.refl (fun _ => False) W2).alloc _) (fun _ _ => id)) (one_rd W2 (.int .i64 L[k])) rfl (by intro u hu; simp at hu; subst hu; rfl) (by omega) (by simp; omega) ?_; intro a4 n4 w4 hown4 hgrow4 hat4)
      have hf4 : Fr (fun j => (Value.slice au k cu).ownBlock = some j) (W2.alloc (.cells #[.int .i64 L[k]] 3)) w4 := Fr.grown hgrow4 (fun k hk => hk)
      have hf5 : Fr (fun j => (Value.slice au k cu).ownBlock = some j) W2 w4 := ((Fr.refl _ W2).alloc _).trans hf4 (fun _ _ h => h)
      rw [← ints_take_succ hlt] at hown4
      have hq3 := hq2.fr hf5 (fun e => by have := (hrow.lt b e).1; have := hq.bl; omega) (fun e => by have := (hrow.lt c e).1; omega)
      have hf6 : Fr (fun k => k = c) w1 w4 := (hf.trans hf2 (fun _ _ h => h)).trans hf5 (fun i hi e => by have := (hrow.lt i e).1; omega)
      clear hq hq1 hrow hrow2 hf hf2 hf4 hf5 hgrow4 hat4 hq2
      go_roundw
      case rel => exact ⟨k + 1, by omega, by go_num, hown4, hq3, hf6⟩
      case measure => simp [intOf]; omega
    · obtain rfl : k = L.length := by omega
      rw [List.take_length] at hrow
      rw [List.drop_length] at hq1
      have hs1 := hf.size
      go_wp2_with fail
      go_loopw [26] (fun i W => ∃ k : Nat, k ≤ L.length ∧ i = .int .i64 k ∧ W.ownsRow w1.heap.size 3 1 (.slice au L.length cu) L.length (ints L) ∧ QAt 92 W b c cap (ints (L.take k)) ∧ Fr (fun k => k = c) w1 W) (fun i _ => L.length - (intOf i).toNat)
      case atStart => exact ⟨0, by omega, rfl, hrow, hq1, hf⟩
      case round =>
        clear hrow hq1 hf
        obtain ⟨k, hk, rfl, hrow, hq1, hf⟩ := hrel
        by_cases hlt2 : k < L.length
        · obtain ⟨g, cap', e, hcl2, -⟩ := row_cell (L := ints L) hrow (i := k) (by rw [ints_length]; exact hlt2)
          rw [ints_get L hlt2] at hcl2
          cases e
          go_wp2_with fail
          refine (putI_room b c L[k] cap _ _ hq1 (by rw [ints_length, List.length_take]; omega)).mono ?_
          rintro e W2 ⟨rfl, hq2, hf2⟩
          rw [← ints_take_succ hlt2] at hq2
          have hrow2 := row_fr hrow hf2 (fun j hj e => by have := (hrow.lt j hj).1; omega)
          have hf3 := hf.trans hf2 (fun _ _ h => h)
          clear hrow hq1 hf hcl2
          go_wp2_with fail
          go_roundw
          case rel => exact ⟨k + 1, by omega, by go_num, hrow2, hq2, hf3⟩
          case measure => simp [intOf]; omega
        · obtain rfl : k = L.length := by omega
          rw [List.take_length] at hq1
          go_wp2_with fail
          go_ret
          exact ⟨_, rfl, hrow, hq1, hf⟩
theorem allQ (b : Nat) (w : World) : Calls Try.prog 42 #[.pointer (some ⟨b, 0, none⟩)] w fun e w' =>
    e = .returned (.func (.func 61) #[] #[.pointer (some ⟨w.heap.size, 0, none⟩)]) ∧ w' = w.alloc (.cells #[.pointer (some ⟨b, 0, none⟩)] 33) := by
  go_enter Try.func42, Try.ntmps42
  go_wp2
  go_ret
  exact ⟨rfl, rfl⟩
/-- What lies from B on stays. -/
def KpB (B : Nat) (X Y : World) : Prop := X.heap.size ≤ Y.heap.size ∧ ∀ k, B ≤ k → k < X.heap.size → Y.heap[k]? = X.heap[k]?
/-- Between two rounds a queue may be as it was, its counts apart. -/
def StQ (c : Nat) (X Y : World) : Prop := Fr (fun k => k = c) X Y ∧ ∀ cap xs s r, X.heap[c]? = some (.chan cap xs false s r false) → ∃ s' r', Y.heap[c]? = some (.chan cap xs false s' r' false)
set_option maxRecDepth 100000 in
set_option maxHeartbeats 1000000 in
theorem all_iterQ (hq : QAt 92 w b c cap (ints L)) (hl : L.length ≤ 4096) (hcap : L.length ≤ cap) {bx : Nat} (hb : w.heap[bx]? = some (.cells #[.pointer (some ⟨b, 0, none⟩)] 33 (0, 0))) :
    IterAt Try.prog 61 #[.pointer (some ⟨bx, 0, none⟩)] (pairs (ints L)) (StQ c) (KpB w.heap.size) w := by
  intro l J Jx hJs _ hY h0
  refine (callsIn_wide (n := 0)).1 (callsIn_of_wp Try.func61 rfl trivial ?_)
  simp only [Try.ntmps61, List.size_toArray, List.length_cons, List.length_nil, Nat.reduceAdd, Nat.reduceSub, Array.replicate_succ, Array.replicate_zero, List.push_toArray, List.append_toArray, List.nil_append, List.cons_append]
  have c0 : w.cell? ⟨bx, 0, none⟩ = some (.pointer (some ⟨b, 0, none⟩)) := blk_cell hb 0
  have hfn : ∀ f, Fence.wide.fn f := fun _ => trivial
  have hdp : Fence.wide.depth = none := rfl
  have HN : Hid ((pairs (ints L)).length = L.length) := Lib.hid (by simp [pairs, ints])
  replace hY := Lib.hid hY
  gi_wp2_with fail
  refine callsIn_wide.2 ((listI hq hl hcap).mono ?_)
  rintro e W1 ⟨u, rfl, hrow, hq1, hf1⟩
  obtain ⟨au, cu, rfl⟩ := row_val hrow
  have h1 : J 0 W1 := by
    refine hJs 0 _ _ h0 ⟨hf1, fun cap' xs s r e2 => ?_⟩
    obtain ⟨_, s', r', e3⟩ := hq
    rw [e2] at e3
    cases e3
    obtain ⟨e4, s4, r4, e5⟩ := hq1
    exact ⟨s4, r4, e5⟩
  have hsz := hf1.size
  clear h0 c0 hb hq hq1 hf1 hJs
  gi_wp2_with fail
  gi_loopw [8] (fun i wr => ∃ k : Nat, k ≤ L.length ∧ i = .int .i64 k ∧ J k wr ∧ wr.ownsRow w.heap.size 3 1 (.slice au L.length cu) L.length (ints L)) (fun i _ => L.length - (intOf i).toNat)
  case atStart => exact ⟨0, by omega, rfl, h1, hrow⟩
  case round =>
    clear hrow h1
    obtain ⟨k, hk, rfl, hJ, hrow⟩ := hrel
    by_cases hlt : k < L.length
    · obtain ⟨fn, tmps, assign, body, hy, hR⟩ := hY.out k (by rw [HN.out]; omega) wr hJ
      have e1 : (pairs (ints L))[k]'(by rw [HN.out]; omega) = #[.int .i64 (k : Int), .int .i64 L[k]] := by simp [pairs, ints]
      rw [e1] at hy
      obtain ⟨g, cap', e, hc', -⟩ := row_cell (L := ints L) hrow (i := k) (by rw [ints_length]; exact hlt)
      rw [ints_get L hlt] at hc'
      cases e
      gi_wp2_with fail
      refine hR.mono ?_
      rintro e W3 (⟨rfl, hJ3, hT3⟩ | ⟨rfl, hJx3⟩)
      · have hrow3 : W3.ownsRow w.heap.size 3 1 (.slice (some ⟨g, 0, none⟩) L.length cu) L.length (ints L) := by
          refine ⟨hrow.1, ?_⟩
          rcases hrow.2 with ⟨he, h0⟩ | ⟨g1, cap1, cur, he, hb1, hg1, h1⟩
          · cases he
          · exact .inr ⟨g1, cap1, cur, he, hb1, (hT3.2 _ hb1 (blk_lt hg1)).trans hg1, h1⟩
        clear hrow hc' hT3
        gi_wp2_with fail
        go_roundw
        case rel => exact ⟨k + 1, by omega, by go_num, hJ3, hrow3⟩
        case measure => simp [intOf]; omega
      · gi_wp2_with fail
        refine bodyPost_ret (results_none rfl _ _ _) rfl ⟨⟨_, rfl⟩, .inr hJx3⟩
    · have hkz : k = (pairs (ints L)).length := by rw [HN.out]; omega
      have hJ' : J (pairs (ints L)).length wr := by rw [← hkz]; exact hJ
      clear hkz
      gi_wp2_with fail
      go_end0
      exact ⟨⟨_, rfl⟩, .inl hJ'⟩

/-- How many of the first k stay. -/
def keepN (L : List Int) (p : Int → Bool) (k : Nat) : Nat := ((L.take k).filter p).length
set_option maxHeartbeats 4000000 in
theorem keepQ (hq : QAt 92 w b c cap (ints L)) (hl : L.length ≤ 4096) (hcap : L.length ≤ cap) (g : Nat) (cv : Array Value) (p : Int → Bool) (heg : ∀ args w, (callFunc g args).run Try.prog w = .ok (.enter g args) w)
    (hp : ∀ x V, Fr (fun k => k = c) w V → Calls Try.prog g (#[.int .i64 x] ++ cv) V fun e V' => e = .returned (.bool (p x)) ∧ V' = V) :
    Calls Try.prog 40 #[.pointer (some ⟨b, 0, none⟩), .func (.func g) #[] cv] w fun e w' =>
      e = .returned (.int .i64 ((L.length - (L.filter p).length : Nat) : Int)) ∧ QAt 92 w' b c cap (ints (L.filter p)) ∧ Fr (fun k => k = c) w w' := by
  have HP := Lib.hid hp
  have HG := Lib.hid heg
  clear hp heg
  go_enter Try.func40, Try.ntmps40
  go_wp2_with fail
  refine (lenI b c cap _ _ hq).mono ?_
  rintro e w1 ⟨rfl, rfl⟩
  rw [ints_length]
  go_wp2_with fail
  go_loopw [5, 10] (fun n i W => ∃ k : Nat, k ≤ L.length ∧ i = .int .i64 k ∧ n = .int .i64 ((k - keepN L p k : Nat) : Int) ∧ QAt 92 W b c cap (ints (L.drop k ++ (L.take k).filter p)) ∧ Fr (fun k => k = c) w1 W) (fun _ i _ => L.length - (intOf i).toNat)
  case atStart => exact ⟨0, by omega, rfl, by simp, by simpa using hq, Fr.refl _ _⟩
  case round =>
    clear hq
    obtain ⟨k, hk, rfl, rfl, hq1, hf⟩ := hrel
    have hkn : keepN L p k ≤ k := by unfold keepN; exact Nat.le_trans (List.length_filter_le _ _) (by rw [List.length_take]; omega)
    by_cases hlt : k < L.length
    · rw [List.drop_eq_getElem_cons hlt, List.cons_append] at hq1
      have hts : (L.take (k + 1)).filter p = (L.take k).filter p ++ (if p L[k] = true then [L[k]] else []) := by
        rw [List.take_succ_eq_append_getElem hlt, List.filter_append]
        cases hpk : p L[k] <;> simp [hpk]
      have HT := Lib.hid hts
      clear hts
      go_wp2_with fail
      refine (takeI_some b c L[k] cap _ _ hq1).mono ?_
      rintro e W2 ⟨rfl, hq2, hf2⟩
      have hf3 := hf.trans hf2 (fun _ _ h => h)
      go_wp2_with fail
      rw [HG.out]
      refine (HP.out L[k] _ hf3).mono ?_
      rintro e W3 ⟨rfl, rfl⟩
      have hnl : ((k - keepN L p k : Nat) : Int) = (k : Int) - keepN L p k := by omega
      cases hpk : p L[k] with
      | true =>
        have ek : keepN L p (k + 1) = keepN L p k + 1 := by unfold keepN; rw [HT.out, hpk]; simp
        have e2 : (k + 1 - keepN L p (k + 1) : Nat) = k - keepN L p k := by omega
        have E2 := Lib.hid e2
        clear ek e2 hnl
        go_wp2_with fail
        refine (putI_room b c L[k] cap _ _ hq2 (by rw [List.length_map, List.length_append, List.length_drop]; unfold keepN at hkn; omega)).mono ?_
        rintro e W4 ⟨rfl, hq4, hf4⟩
        have hq5 : QAt 92 W4 b c cap (ints (L.drop (k + 1) ++ (L.take (k + 1)).filter p)) := by
          rw [HT.out, hpk, ← List.append_assoc, ints_app]; exact hq4
        have hf5 := hf3.trans hf4 (fun _ _ h => h)
        clear hq1 hq2 hq4 hf hf2 hf3 hf4
        go_wp2_with fail
        go_roundw
        case rel => exact ⟨k + 1, by omega, by go_num, by rw [E2.out], hq5, hf5⟩
        case measure => simp [intOf]; omega
      | false =>
        have ek : keepN L p (k + 1) = keepN L p k := by unfold keepN; rw [HT.out, hpk]; simp
        have E2 := Lib.hid (show ((k + 1 - keepN L p (k + 1) : Nat) : Int) = ((k - keepN L p k : Nat) : Int) + 1 by rw [ek]; omega)
        clear ek hnl
        have hq5 : QAt 92 W3 b c cap (ints (L.drop (k + 1) ++ (L.take (k + 1)).filter p)) := by
          rw [HT.out, hpk]; simpa [ints] using hq2
        clear hq1 hq2 hf hf2
        go_wp2_with fail
        go_roundw
        case rel => exact ⟨k + 1, by omega, by go_num, by rw [E2.out], hq5, hf3⟩
        case measure => simp [intOf]; omega
    · obtain rfl : k = L.length := by omega
      have e3 : keepN L p L.length = (L.filter p).length := by unfold keepN; rw [List.take_length]
      rw [List.take_length, List.drop_length, List.nil_append] at hq1
      rw [e3]
      clear e3
      go_wp2_with fail
      go_ret
      exact ⟨rfl, hq1, hf⟩
end
end Go.Proofs.Ytcdblopnaimfoaa

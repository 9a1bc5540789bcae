/- Rows of numbers, slices that are read, appends. Conditions: fewer than 100000 numbers. -/
import Derived.Test.YtcdblopnaimfoaaRh
import Derived.Test.YtcdblopnaimfoaaQ
import Derived.Maps.AppendAt
import Derived.OwnWalk
import Derived.BigQuiet
import Derived.Lib.Hide
import Derived.OwnWalkIn
import Derived.Deep.CutBlock
namespace Go.Proofs.Ytcdblopnaimfoaa
open Go.RowKit Go.Conc

def ints (L : List Int) : List Value := L.map (.int .i64)
theorem ints_length (L : List Int) : (ints L).length = L.length := List.length_map _
theorem ints_one (L : List Int) : ∀ u ∈ ints L, u.oneCell' = true := by
  intro u hu; obtain ⟨x, -, rfl⟩ := List.mem_map.1 hu; rfl
theorem ints_get (L : List Int) {i : Nat} (h : i < L.length) : (ints L)[i]'(by rw [ints_length]; exact h) = .int .i64 L[i] := by simp [ints]
def pairs (L : List Value) : List (Array Value) := L.mapIdx fun i x => #[.int .i64 (i : Int), x]
theorem pairs_length (L : List Value) : (pairs L).length = L.length := by simp [pairs]

section
variable {w w' W : World} {base : Nat} {v : Value} {L : List Value} {S D : Nat → Prop}
theorem row_fr {e : TypeId} {n : Nat} {size : Nat} (h : w.ownsRow base e size v n L) (hf : Fr S w w') (hn : ∀ k, v.ownBlock = some k → ¬ S k) : w'.ownsRow base e size v n L := by
  refine ⟨h.1, ?_⟩
  rcases h.2 with h0 | ⟨g, cap, cur, rfl, hb, hg, h1⟩
  · exact .inl h0
  · exact .inr ⟨g, cap, cur, rfl, hb, hf.heap hg (hn g rfl), h1⟩
theorem row_val {e : TypeId} {n : Nat} {size : Nat} (h : w.ownsRow base e size v n L) : ∃ a cap, v = .slice a n cap := by
  rcases h.2 with ⟨rfl, rfl⟩ | ⟨g, cap, cur, rfl, _⟩
  · exact ⟨none, 0, rfl⟩
  · exact ⟨_, cap, rfl⟩
theorem row_cell {e : TypeId} {n : Nat} (h : w.ownsRow base e 1 v n L) {i : Nat} (hi : i < L.length) : ∃ g cap, v = .slice (some ⟨g, 0, none⟩) n cap ∧ w.cell? ⟨g, i, none⟩ = some L[i] ∧ w.frozen? ⟨g, i, none⟩ = false := by
  rcases h.2 with ⟨rfl, rfl⟩ | ⟨g, cap, cur, rfl, hb, hg, h1, h2, h3, h4⟩
  · have := h.1; omega
  · refine ⟨g, cap, rfl, ?_, blk_frozen hg i⟩
    rw [blk_cell hg i]
    have h5 : cur.toList[i]? = some L[i] := by
      have h6 : (cur.toList.take (n * 1))[i]? = some L[i] := by rw [h4]; exact List.getElem?_eq_getElem hi
      rw [List.getElem?_take] at h6
      split at h6
      · exact h6
      · cases h6
    simpa using h5
theorem row_len {e : TypeId} {n : Nat} (h : w.ownsRow base e 1 v n L) : L.length = n := by have := h.1; omega
theorem row_base {e : TypeId} {n : Nat} {base' : Nat} (h : w.ownsRow base e 1 v n L) (hb : base' ≤ base) : w.ownsRow base' e 1 v n L := by
  refine ⟨h.1, ?_⟩
  rcases h.2 with h0 | ⟨g, cap, cur, rfl, hg, r⟩
  · exact .inl h0
  · exact .inr ⟨g, cap, cur, rfl, Nat.le_trans hb hg, r⟩
theorem row_obj {e : TypeId} {n : Nat} (h : w.ownsRow base e 1 v n L) {k : Nat} (hk : v.ownBlock = some k) : ∃ cur, w.heap[k]? = some (.cells cur e (0, 0)) := by
  rcases h.2 with ⟨rfl, _⟩ | ⟨g, cap, cur, rfl, _, hg, _⟩
  · cases hk
  · cases hk; exact ⟨cur, hg⟩
theorem Fr.grown {row : Option Nat} (h : w.grownBy w' row) (hs : ∀ k, row = some k → S k) : Fr S w w' :=
  ⟨h.os, h.tape, h.output, h.size, fun k hk hn => h.block k hk (fun e => hn (hs k e.symm))⟩
theorem ne_obj {k j : Nat} {o o' : Obj} (h : W.heap[k]? = some o) (h' : W.heap[j]? = some o') (hn : o ≠ o') : k ≠ j := by
  rintro rfl; rw [h] at h'; cases h'; exact hn rfl

/-- A slice value that reads xs, in a block that D picks. -/
def RdAt (D : Nat → Prop) (W : World) (v : Value) (xs : List Value) : Prop :=
  ∃ a cap, v = .slice a xs.length cap ∧ xs.length ≤ cap ∧ (xs ≠ [] → ∃ g o, a = some ⟨g, o, none⟩ ∧ D g ∧ ∀ i (h : i < xs.length), W.cell? ⟨g, o + i, none⟩ = some xs[i])
theorem cell_lt {p : Addr} {x : Value} (hv : w.cell? p = some x) : p.block < w.heap.size := by
  rcases Nat.lt_or_ge p.block w.heap.size with h' | h'
  · exact h'
  · simp [World.cell?, Array.getElem?_eq_none h'] at hv
theorem RdAt.fr (h : RdAt D w v L) (hf : Fr S w w') (hn : ∀ k, D k → ¬ S k) : RdAt D w' v L := by
  obtain ⟨a, cap, h1, h2, h3⟩ := h
  refine ⟨a, cap, h1, h2, fun hne => ?_⟩
  obtain ⟨g, o, e, hD, hc⟩ := h3 hne
  exact ⟨g, o, e, hD, fun i hi => hf.cell (hc i hi) (hn g hD)⟩
theorem RdAt.mono {D' : Nat → Prop} (h : RdAt D w v L) (hd : ∀ k, D k → D' k) : RdAt D' w v L := by
  obtain ⟨a, cap, h1, h2, h3⟩ := h
  refine ⟨a, cap, h1, h2, fun hne => ?_⟩
  obtain ⟨g, o, e, hD, hc⟩ := h3 hne
  exact ⟨g, o, e, hd _ hD, hc⟩
theorem RdAt.nil (D : Nat → Prop) (w : World) : RdAt D w (.slice none 0 0) [] := ⟨none, 0, rfl, Nat.le_refl _, fun h => absurd rfl h⟩
theorem row_rd {e : TypeId} {n : Nat} (h : w.ownsRow base e 1 v n L) : RdAt (fun k => v.ownBlock = some k) w v L := by
  have hl := row_len h
  rcases h.2 with ⟨rfl, rfl⟩ | ⟨g, cap, cur, rfl, hb, hg, h1, h2, h3, h4⟩
  · obtain rfl : L = [] := List.length_eq_zero_iff.1 hl
    exact RdAt.nil _ _
  · refine ⟨_, cap, by rw [hl], by omega, fun _ => ⟨g, 0, rfl, rfl, fun i hi => ?_⟩⟩
    obtain ⟨g', c', e, hc, -⟩ := row_cell h hi
    cases e
    simpa using hc
end

theorem info3 : (Try.prog.info? 3).map (fun i => (i.zero, i.size, i.bytes)) = some (some (.int .i64 0), 1, 8) := by kernel_rfl
/-- A slice appended to a row. -/
theorem run_app {w : World} {base : Nat} {D : Nat → Prop} {v x : Value} {n m : Nat} {xs ys : List Value} (hown : w.ownsRow base 3 1 v n xs) (hx : RdAt D w x ys) (hym : ys.length = m) (h1 : ∀ u ∈ ys, u.oneCell' = true) (hn : n + m < 100000) (hb : base ≤ w.heap.size) :
    ∃ v' w', (Builtin.append_ #[32, 32] 32 #[v, x]).run Try.prog w = .ok v' w' ∧ w'.ownsRow base 3 1 v' (n + m) (xs ++ ys) ∧ w.grownBy w' v.ownBlock ∧ (v'.ownBlock = v.ownBlock ∨ v'.ownBlock = some w.heap.size) := by
  obtain ⟨i0, hi, hz0, hz1, hz2⟩ := info_parts info3
  obtain ⟨a, cap, rfl, hcap, hcell⟩ := hx
  subst hym
  by_cases hne : ys = []
  · subst hne
    refine ⟨v, w, ?_, by simpa using hown, ⟨rfl, rfl, rfl, Nat.le_refl _, fun _ _ _ => rfl⟩, .inl rfl⟩
    rcases hown.2 with ⟨rfl, rfl⟩ | ⟨g, cap, cur, rfl, _, _, hle, _⟩
    · cases a <;> simp [Builtin.append_, go_sem]
    · cases a <;> simp [Builtin.append_, go_sem, hle]
  · obtain ⟨g, o, rfl, -, hc⟩ := hcell hne
    have hnews : ∀ j u, ys[j]? = some u → w.cell? ((⟨g, o, none⟩ : Addr).add j) = some u := by
      intro j u hu
      obtain ⟨hj, rfl⟩ := List.getElem?_eq_some_iff.1 hu
      rw [show (⟨g, o, none⟩ : Addr).add j = ⟨g, o + j, none⟩ by simp [Addr.add]]
      exact hc j hj
    obtain ⟨v', w', h, h2, h3, h4, h5⟩ := run_append_own_at (P := Try.prog) w base 32 32 3 i0 (.int .i64 0) 1 8 Try.underlying32 hi hz0 hz1 hz2 rfl (by decide) v n xs hown ⟨g, o, none⟩ ys.length cap ys (by omega) hnews h1 (by unfold maxLen; omega) (by omega) hb
    exact ⟨v', w', h, h2, h3, h5⟩
theorem wpList_app {ops : Array Oper} {rest : List Oper} {o : Oper} {a : Act} {Q : Exit → Act → World → Prop} {w : World} {base : Nat} {D : Nat → Prop} {v x : Value} {n m : Nat} {xs ys : List Value} (hgd : o.guard = none) (s y : Operand)
    (ho : o.op = .call { callee := .builtin .append, args := #[s, y], argTypes := #[32, 32] }) (hty : o.type = 32) (hs : a.eval s = v) (hy : a.eval y = x)
    (hown : w.ownsRow base 3 1 v n xs) (hx : RdAt D w x ys) (hym : ys.length = m) (h1 : ∀ u ∈ ys, u.oneCell' = true) (hn : n + m < 100000) (hb : base ≤ w.heap.size)
    (h : ∀ a1 c1 w', w'.ownsRow base 3 1 (.slice a1 (n + m) c1) (n + m) (xs ++ ys) → w.grownBy w' v.ownBlock → ((Value.slice a1 (n + m) c1).ownBlock = v.ownBlock ∨ (Value.slice a1 (n + m) c1).ownBlock = some w.heap.size) → wpList Try.prog ops Q rest (a.put o.dst (.slice a1 (n + m) c1)) w') :
    wpList Try.prog ops Q (o :: rest) a w := by
  refine wpList_plain hgd fun _ hK => ?_
  obtain ⟨v', w', hr, h2, h3, h4⟩ := run_app hown hx hym h1 hn hb
  obtain ⟨a1, c1, rfl⟩ := row_val h2
  unfold Oper.wp execOp
  simp only [ho, hty, resolve, invoke, builtin, Sem.run_bind, Sem.run_pure, Result.andThen_ok, List.map_toArray, List.map_cons, List.map_nil, hs, hy, hr]
  exact hK _ _ (h a1 c1 w' h2 h3 h4)
theorem one_rd (w : World) (x : Value) : RdAt (fun k => k = w.heap.size) (w.alloc (.cells #[x] 3)) (.slice (some ⟨w.heap.size, 0, none⟩) 1 1) [x] :=
  ⟨_, 1, rfl, Nat.le_refl _, fun _ => ⟨w.heap.size, 0, rfl, rfl, fun i hi => by
    have : i = 0 := by simp at hi; omega
    subst this
    rw [blk_cell (blk_new w (.cells #[x] 3)) _]; rfl⟩⟩
end Go.Proofs.Ytcdblopnaimfoaa

/- What the arguments of the laws of this seat hold, where they are lists of steps of two numbers. No condition. -/
import Derived.Test.YtcdblopnaimfoaaArgs
import Derived.Deep.Slices
import Derived.Deep.Strs
import Derived.ChangeSame
namespace Go.Proofs.Ytcdblopnaimfoaa
open Go.ChangeShapes Go.WideShapes Go.ChangeAt Go.RowKit Go.Deep
section
variable {H : Type} {enc : TypeId × Value → H} {W : World} {v : Value} {d : DataW H} {p : List MemPlace} {base : Nat}

theorem cells54 : Try.prog.cellsOf 54 = 2 := by kernel_rfl
set_option maxRecDepth 100000 in
theorem arg_ops9 (hok : Value.okWide Try.prog W .any base 52 v)
    (h : DataW.Trod enc Try.prog W 0 (fun _ => true) true 52 v d p) (hlt : ∀ x ∈ p, x.block < W.heap.size) :
    ∃ zs : List (Int × Int), zs.length ≤ maxLen ∧ (∀ z ∈ zs, Fits z.1 ∧ Fits z.2) ∧ Sl2 W W.heap.size v zs := by
  obtain ⟨a0, len, cap, rfl⟩ := okWide_slice Try.underlying52 hok
  obtain ⟨fuel, hf⟩ := h
  rcases open_slice Try.underlying52 hf with ⟨hcs, hx⟩ | ⟨a, len', cap', m, n, D, Pl, hcs, _, hl, hm, hmm, hx, hel⟩
  · simp [Value.cells] at hcs
    obtain ⟨rfl, rfl, rfl⟩ := hcs
    exact ⟨[], Nat.zero_le _, by simp, none, 0, rfl, fun h => absurd rfl h⟩
  · simp [Value.cells] at hcs
    obtain ⟨rfl, rfl, rfl⟩ := hcs
    simp only [Prod.mk.injEq] at hx
    obtain ⟨-, rfl⟩ := hx
    rw [if_pos rfl] at hmm
    subst hmm
    rw [cells54] at hlt hel
    obtain ⟨b, off, spot⟩ := a
    have hr : List.range 2 = [0, 1] := rfl
    have hspot : 0 < len → spot = none := by
      intro h0
      obtain ⟨cs', h1, -⟩ := hel 0 (by omega)
      simp only [World.cells?, Nat.zero_le, if_true, hr] at h1
      simp only [List.mapM_cons, List.mapM_nil, Option.bind_eq_bind, Option.pure_def, Option.bind_eq_some_iff] at h1
      obtain ⟨v0, q0, -⟩ := h1
      simpa [Addr.add] using World.cell?_spot q0
    have key : ∀ i, i < len → ∃ z : Int × Int, (Fits z.1 ∧ Fits z.2) ∧ spot = none ∧ W.cell? ⟨b, off + i * 2, none⟩ = some (.int .i64 z.1) ∧ W.cell? ⟨b, off + (i * 2 + 1), none⟩ = some (.int .i64 z.2) := by
      intro i hi
      obtain ⟨cs', h1, h2⟩ := hel i (by omega)
      obtain ⟨y0, y1, n', _, hlen, g0, g1⟩ := trod_struct2 Try.underlying54 h2
      rw [cells54] at hlen
      match cs', hlen with
      | [u0, u1], _ =>
        simp [cells3] at g0 g1
        obtain ⟨z0, rfl, w0⟩ := one_int g0
        obtain ⟨z1, rfl, w1⟩ := one_int g1
        simp only [World.cells?, Nat.zero_le, if_true] at h1
        rw [hr] at h1
        simp only [List.mapM_cons, List.mapM_nil, Option.bind_eq_bind, Option.pure_def, Option.bind_eq_some_iff, Option.some.injEq, List.cons.injEq] at h1
        obtain ⟨v0, q0, r0, ⟨v1, q1, _, rfl, rfl⟩, e0, e1⟩ := h1
        subst e0
        obtain rfl : v1 = .int .i64 z1 := by simpa using e1
        have hsp : spot = none := hspot (by omega)
        subst hsp
        rw [add_plain, add_plain] at q0 q1
        refine ⟨(z0, z1), ⟨w0, w1⟩, rfl, ?_, ?_⟩
        · simpa using q0
        · simpa [Nat.add_assoc] using q1
    refine ⟨List.ofFn fun i : Fin len => Classical.choose (key i.1 i.2), by simp; omega, ?_, some ⟨b, off, spot⟩, m, by simp, fun hne => ?_⟩
    · intro z hz
      obtain ⟨i, rfl⟩ := List.mem_ofFn.1 hz
      exact (Classical.choose_spec (key i.1 i.2)).1
    · have hpos : 0 < len := by
        rcases Nat.eq_zero_or_pos len with h0 | h0
        · exfalso; apply hne; subst h0; simp
        · exact h0
      have hsp := (Classical.choose_spec (key 0 hpos)).2.1
      subst hsp
      refine ⟨b, off, rfl, hlt (.cell b off) ?_, fun i hi => ?_⟩
      · exact List.mem_append.2 (.inl (MemPlace.mem_row.2 ⟨0, by omega, by simp⟩))
      · have hi' : i < len := by simpa using hi
        have := (Classical.choose_spec (key i hi')).2.2
        simpa using this

theorem cells81 : Try.prog.cellsOf 81 = 2 := by kernel_rfl
set_option maxRecDepth 100000 in
theorem arg_ops10 (hok : Value.okWide Try.prog W .any base 78 v)
    (h : DataW.Trod enc Try.prog W 0 (fun _ => true) true 78 v d p) (hlt : ∀ x ∈ p, x.block < W.heap.size) :
    ∃ zs : List (Int × Int), zs.length ≤ maxLen ∧ (∀ z ∈ zs, Fits z.1 ∧ Fits z.2) ∧ Sl2 W W.heap.size v zs := by
  obtain ⟨a0, len, cap, rfl⟩ := okWide_slice Try.underlying78 hok
  obtain ⟨fuel, hf⟩ := h
  rcases open_slice Try.underlying78 hf with ⟨hcs, hx⟩ | ⟨a, len', cap', m, n, D, Pl, hcs, _, hl, hm, hmm, hx, hel⟩
  · simp [Value.cells] at hcs
    obtain ⟨rfl, rfl, rfl⟩ := hcs
    exact ⟨[], Nat.zero_le _, by simp, none, 0, rfl, fun h => absurd rfl h⟩
  · simp [Value.cells] at hcs
    obtain ⟨rfl, rfl, rfl⟩ := hcs
    simp only [Prod.mk.injEq] at hx
    obtain ⟨-, rfl⟩ := hx
    rw [if_pos rfl] at hmm
    subst hmm
    rw [cells81] at hlt hel
    obtain ⟨b, off, spot⟩ := a
    have hr : List.range 2 = [0, 1] := rfl
    have hspot : 0 < len → spot = none := by
      intro h0
      obtain ⟨cs', h1, -⟩ := hel 0 (by omega)
      simp only [World.cells?, Nat.zero_le, if_true, hr] at h1
      simp only [List.mapM_cons, List.mapM_nil, Option.bind_eq_bind, Option.pure_def, Option.bind_eq_some_iff] at h1
      obtain ⟨v0, q0, -⟩ := h1
      simpa [Addr.add] using World.cell?_spot q0
    have key : ∀ i, i < len → ∃ z : Int × Int, (Fits z.1 ∧ Fits z.2) ∧ spot = none ∧ W.cell? ⟨b, off + i * 2, none⟩ = some (.int .i64 z.1) ∧ W.cell? ⟨b, off + (i * 2 + 1), none⟩ = some (.int .i64 z.2) := by
      intro i hi
      obtain ⟨cs', h1, h2⟩ := hel i (by omega)
      obtain ⟨y0, y1, n', _, hlen, g0, g1⟩ := trod_struct2 Try.underlying81 h2
      rw [cells81] at hlen
      match cs', hlen with
      | [u0, u1], _ =>
        simp [cells3] at g0 g1
        obtain ⟨z0, rfl, w0⟩ := one_int g0
        obtain ⟨z1, rfl, w1⟩ := one_int g1
        simp only [World.cells?, Nat.zero_le, if_true] at h1
        rw [hr] at h1
        simp only [List.mapM_cons, List.mapM_nil, Option.bind_eq_bind, Option.pure_def, Option.bind_eq_some_iff, Option.some.injEq, List.cons.injEq] at h1
        obtain ⟨v0, q0, r0, ⟨v1, q1, _, rfl, rfl⟩, e0, e1⟩ := h1
        subst e0
        obtain rfl : v1 = .int .i64 z1 := by simpa using e1
        have hsp : spot = none := hspot (by omega)
        subst hsp
        rw [add_plain, add_plain] at q0 q1
        refine ⟨(z0, z1), ⟨w0, w1⟩, rfl, ?_, ?_⟩
        · simpa using q0
        · simpa [Nat.add_assoc] using q1
    refine ⟨List.ofFn fun i : Fin len => Classical.choose (key i.1 i.2), by simp; omega, ?_, some ⟨b, off, spot⟩, m, by simp, fun hne => ?_⟩
    · intro z hz
      obtain ⟨i, rfl⟩ := List.mem_ofFn.1 hz
      exact (Classical.choose_spec (key i.1 i.2)).1
    · have hpos : 0 < len := by
        rcases Nat.eq_zero_or_pos len with h0 | h0
        · exfalso; apply hne; subst h0; simp
        · exact h0
      have hsp := (Classical.choose_spec (key 0 hpos)).2.1
      subst hsp
      refine ⟨b, off, rfl, hlt (.cell b off) ?_, fun i hi => ?_⟩
      · exact List.mem_append.2 (.inl (MemPlace.mem_row.2 ⟨0, by omega, by simp⟩))
      · have hi' : i < len := by simpa using hi
        have := (Classical.choose_spec (key i hi')).2.2
        simpa using this
end
end Go.Proofs.Ytcdblopnaimfoaa

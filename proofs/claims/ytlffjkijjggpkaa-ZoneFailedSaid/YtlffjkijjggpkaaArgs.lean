/- What the arguments of the laws of this seat hold: texts, numbers, steps; read off the reading of the call's start. No condition. -/
import Derived.Test.YtlffjkijjggpkaaLaw
import Derived.Deep.Slices
import Derived.Deep.Strs
namespace Go.Proofs.Ytlffjkijjggpkaa
open Go.ChangeShapes Go.WideShapes Go.ChangeAt Go.RowKit Go.Deep

/-- A slice value whose elements are one cell each: 'vs', in blocks below B. -/
def Sl1 (W : World) (B : Nat) (v : Value) (vs : List Value) : Prop :=
  ∃ a cap, v = .slice a vs.length cap ∧ (vs ≠ [] → ∃ b o, a = some ⟨b, o, none⟩ ∧ b < B ∧ ∀ i (h : i < vs.length), W.cell? ⟨b, o + i, none⟩ = some vs[i])
/-- A slice value whose elements are three numbers each. -/
def Sl3 (W : World) (B : Nat) (v : Value) (ps : List (Int × Int × Int)) : Prop :=
  ∃ a cap, v = .slice a ps.length cap ∧ (ps ≠ [] → ∃ b o, a = some ⟨b, o, none⟩ ∧ b < B ∧ ∀ i (h : i < ps.length), W.cell? ⟨b, o + i * 3, none⟩ = some (.int .i64 ps[i].1) ∧ W.cell? ⟨b, o + (i * 3 + 1), none⟩ = some (.int .i64 ps[i].2.1) ∧ W.cell? ⟨b, o + (i * 3 + 2), none⟩ = some (.int .i64 ps[i].2.2))
/-- A number fits an int. -/
def Fits (x : Int) : Prop := -9223372036854775808 ≤ x ∧ x ≤ 9223372036854775807
theorem fits_of_wf {x : Int} (h : (Lit.int .i64 x).wf = true) : Fits x := by
  have h1 : IntKind.i64.min = -9223372036854775808 := rfl
  have h2 : IntKind.i64.max = 9223372036854775807 := rfl
  simp only [Lit.wf, Bool.and_eq_true, decide_eq_true_eq] at h
  unfold Fits; omega

theorem cells3 : Try.prog.cellsOf 3 = 1 := by kernel_rfl
theorem cells9 : Try.prog.cellsOf 9 = 1 := by kernel_rfl

section
variable {H : Type} {enc : TypeId × Value → H} {W : World} {v : Value} {d : DataW H} {p : List MemPlace} {base : Nat}

set_option maxRecDepth 100000 in
theorem arg_int (hok : Value.okWide Try.prog W .any base 3 v) (h : DataW.Trod enc Try.prog W 0 (fun _ => true) true 3 v d p) : ∃ x, v = .int .i64 x ∧ Fits x := by
  obtain ⟨a, rfl, rfl, rfl, wa⟩ := open_int Try.underlying3 hok h
  exact ⟨a, rfl, fits_of_wf wa⟩

set_option maxRecDepth 100000 in
theorem arg_strs (hok : Value.okWide Try.prog W .any base 22 v)
    (h : DataW.Trod enc Try.prog W 0 (fun _ => true) true 22 v d p) (hlt : ∀ x ∈ p, x.block < W.heap.size) : ∃ ss : List ByteArray, ss.length ≤ maxLen ∧ Sl1 W W.heap.size v (ss.map .string) := by
  obtain ⟨a0, len, cap, rfl⟩ := okWide_slice Try.underlying22 hok
  obtain ⟨fuel, hf⟩ := h
  rcases open_strings Try.underlying22 Try.underlying9 cells9 hf with ⟨hcs, hx⟩ | ⟨a, len', cap', ss, hcs, _, hl, hm, hz, hx, hcell, hws⟩
  · simp [Value.cells] at hcs
    obtain ⟨rfl, rfl, rfl⟩ := hcs
    exact ⟨[], Nat.zero_le _, none, 0, rfl, fun h => absurd rfl h⟩
  · simp [Value.cells] at hcs
    obtain ⟨rfl, rfl, rfl⟩ := hcs
    simp only [Prod.mk.injEq] at hx
    obtain ⟨rfl, rfl⟩ := hx
    simp only [if_true] at hz
    have hlen : (ss.take len).length = len := by rw [List.length_take]; omega
    refine ⟨ss.take len, by omega, some a, cap, by rw [List.length_map, hlen], fun hne => ?_⟩
    have hpos : 0 < len := by
      rcases Nat.eq_zero_or_pos len with h0 | h0
      · exfalso; apply hne; simp [h0]
      · exact h0
    obtain ⟨b, off, spot⟩ := a
    have hspot : spot = none := by simpa [Addr.add] using World.cell?_spot (hcell 0 (by omega))
    subst hspot
    refine ⟨b, off, rfl, hlt (.cell b off) (MemPlace.mem_row.2 ⟨0, by omega, by simp⟩), fun i hi => ?_⟩
    have hi' : i < len := by rw [List.length_map, hlen] at hi; exact hi
    rw [← add_plain, hcell i (by omega)]
    simp [List.getD, List.getElem?_eq_getElem (show i < ss.length by omega)]

theorem cells41 : Try.prog.cellsOf 41 = 3 := by kernel_rfl
theorem one_int {n : Nat} {c : Value} {y : DataW H × List MemPlace} {w : World} {sp : Nat → Bool} {hd : Bool} {b0 : Nat} (h : DataW.trod enc Try.prog w b0 sp hd n 3 [c] = some y) : ∃ x, c = .int .i64 x ∧ Fits x := by
  obtain ⟨x, hx, _, hw⟩ := DataW.trod_int Try.underlying3 h
  exact ⟨x, by simpa using hx, fits_of_wf hw⟩

set_option maxRecDepth 100000 in
theorem arg_ops (hok : Value.okWide Try.prog W .any base 35 v)
    (h : DataW.Trod enc Try.prog W 0 (fun _ => true) true 35 v d p) (hlt : ∀ x ∈ p, x.block < W.heap.size) :
    ∃ zs : List (Int × Int × Int), zs.length ≤ maxLen ∧ (∀ z ∈ zs, Fits z.1 ∧ Fits z.2.1 ∧ Fits z.2.2) ∧ Sl3 W W.heap.size v zs := by
  obtain ⟨a0, len, cap, rfl⟩ := okWide_slice Try.underlying35 hok
  obtain ⟨fuel, hf⟩ := h
  rcases open_slice Try.underlying35 hf with ⟨hcs, hx⟩ | ⟨a, len', cap', m, n, D, Pl, hcs, _, hl, hm, hmm, hx, hel⟩
  · simp [Value.cells] at hcs
    obtain ⟨rfl, rfl, rfl⟩ := hcs
    exact ⟨[], Nat.zero_le _, by simp, none, 0, rfl, fun h => absurd rfl h⟩
  · simp [Value.cells] at hcs
    obtain ⟨rfl, rfl, rfl⟩ := hcs
    simp only [Prod.mk.injEq] at hx
    obtain ⟨-, rfl⟩ := hx
    rw [if_pos rfl] at hmm
    subst hmm
    rw [cells41] at hlt hel
    obtain ⟨b, off, spot⟩ := a
    have hr : List.range 3 = [0, 1, 2] := rfl
    have hspot : 0 < len → spot = none := by
      intro h0
      obtain ⟨cs', h1, -⟩ := hel 0 (by omega)
      simp only [World.cells?, Nat.zero_le, if_true, hr] at h1
      simp only [List.mapM_cons, List.mapM_nil, Option.bind_eq_bind, Option.pure_def, Option.bind_eq_some_iff] at h1
      obtain ⟨v0, q0, -⟩ := h1
      simpa [Addr.add] using World.cell?_spot q0
    have key : ∀ i, i < len → ∃ z : Int × Int × Int, (Fits z.1 ∧ Fits z.2.1 ∧ Fits z.2.2) ∧ spot = none ∧ W.cell? ⟨b, off + i * 3, none⟩ = some (.int .i64 z.1) ∧ W.cell? ⟨b, off + (i * 3 + 1), none⟩ = some (.int .i64 z.2.1) ∧ W.cell? ⟨b, off + (i * 3 + 2), none⟩ = some (.int .i64 z.2.2) := by
      intro i hi
      obtain ⟨cs', h1, h2⟩ := hel i (by omega)
      obtain ⟨y0, y1, y2, n', _, hlen, g0, g1, g2⟩ := trod_struct3 Try.underlying41 h2
      rw [cells41] at hlen
      match cs', hlen with
      | [u0, u1, u2], _ =>
        simp [cells3] at g0 g1 g2
        obtain ⟨z0, rfl, w0⟩ := one_int g0
        obtain ⟨z1, rfl, w1⟩ := one_int g1
        obtain ⟨z2, rfl, w2⟩ := one_int g2
        simp only [World.cells?, Nat.zero_le, if_true] at h1
        rw [hr] at h1
        simp only [List.mapM_cons, List.mapM_nil, Option.bind_eq_bind, Option.pure_def, Option.bind_eq_some_iff, Option.some.injEq, List.cons.injEq] at h1
        obtain ⟨v0, q0, r0, ⟨v1, q1, r1, ⟨v2, q2, r2, rfl, rfl⟩, rfl⟩, e0, rfl, rfl, -⟩ := h1
        subst e0
        have hsp : spot = none := hspot (by omega)
        subst hsp
        rw [add_plain, add_plain] at q0 q1 q2
        refine ⟨(z0, z1, z2), ⟨w0, w1, w2⟩, rfl, ?_, ?_, ?_⟩
        · simpa using q0
        · simpa [Nat.add_assoc] using q1
        · simpa [Nat.add_assoc] using q2
    refine ⟨List.ofFn fun i : Fin len => Classical.choose (key i.1 i.2), by simp; omega, ?_, some ⟨b, off, spot⟩, m, by simp, fun hne => ?_⟩
    · intro z hz
      obtain ⟨i, rfl⟩ := List.mem_ofFn.1 hz
      exact (Classical.choose_spec (key i.1 i.2)).1
    · have hpos : 0 < len := by
        rcases Nat.eq_zero_or_pos len with h0 | h0
        · exfalso; apply hne; subst h0; simp
        · exact h0
      have hsp := (Classical.choose_spec (key 0 hpos)).2.1
      subst hsp
      refine ⟨b, off, rfl, hlt (.cell b off) ?_, fun i hi => ?_⟩
      · exact List.mem_append.2 (.inl (MemPlace.mem_row.2 ⟨0, by omega, by simp⟩))
      · have hi' : i < len := by simpa using hi
        have := (Classical.choose_spec (key i hi')).2.2
        simpa using this
end
end Go.Proofs.Ytlffjkijjggpkaa

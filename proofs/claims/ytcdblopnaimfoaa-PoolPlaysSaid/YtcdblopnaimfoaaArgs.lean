/- What the arguments of the laws of this seat hold: texts, numbers, geometries, steps; read off the reading of the call's start. No condition. -/
import Derived.Test.YtcdblopnaimfoaaLaw
import Derived.Deep.SlicePairs
namespace Go.Proofs.Ytcdblopnaimfoaa
open Go.ChangeShapes Go.WideShapes Go.ChangeAt Go.RowKit Go.Deep

/-- A slice value whose elements are one cell each: 'vs', in blocks below B. -/
def Sl1 (W : World) (B : Nat) (v : Value) (vs : List Value) : Prop :=
  ∃ a cap, v = .slice a vs.length cap ∧ (vs ≠ [] → ∃ b o, a = some ⟨b, o, none⟩ ∧ b < B ∧ ∀ i (h : i < vs.length), W.cell? ⟨b, o + i, none⟩ = some vs[i])
/-- A slice value whose elements are two numbers each. -/
def Sl2 (W : World) (B : Nat) (v : Value) (ps : List (Int × Int)) : Prop :=
  ∃ a cap, v = .slice a ps.length cap ∧ (ps ≠ [] → ∃ b o, a = some ⟨b, o, none⟩ ∧ b < B ∧ ∀ i (h : i < ps.length), W.cell? ⟨b, o + i * 2, none⟩ = some (.int .i64 ps[i].1) ∧ W.cell? ⟨b, o + (i * 2 + 1), none⟩ = some (.int .i64 ps[i].2))
/-- A number fits an int. -/
def Fits (x : Int) : Prop := -9223372036854775808 ≤ x ∧ x ≤ 9223372036854775807
theorem fits_of_wf {x : Int} (h : (Lit.int .i64 x).wf = true) : Fits x := by
  have h1 : IntKind.i64.min = -9223372036854775808 := rfl
  have h2 : IntKind.i64.max = 9223372036854775807 := rfl
  simp only [Lit.wf, Bool.and_eq_true, decide_eq_true_eq] at h
  unfold Fits; omega

theorem cells3 : Try.prog.cellsOf 3 = 1 := by kernel_rfl
theorem cells9 : Try.prog.cellsOf 9 = 1 := by kernel_rfl

section
variable {H : Type} {enc : TypeId × Value → H} {W : World} {v : Value} {d : DataW H} {p : List MemPlace} {base : Nat}

set_option maxRecDepth 100000 in
theorem arg_int (hok : Value.okWide Try.prog W .any base 3 v) (h : DataW.Trod enc Try.prog W 0 (fun _ => true) true 3 v d p) : ∃ x, v = .int .i64 x ∧ Fits x := by
  obtain ⟨a, rfl, rfl, rfl, wa⟩ := open_int Try.underlying3 hok h
  exact ⟨a, rfl, fits_of_wf wa⟩

set_option maxRecDepth 100000 in
theorem arg_strs (hok : Value.okWide Try.prog W .any base 22 v)
    (h : DataW.Trod enc Try.prog W 0 (fun _ => true) true 22 v d p) (hlt : ∀ x ∈ p, x.block < W.heap.size) : ∃ ss : List ByteArray, ss.length ≤ maxLen ∧ Sl1 W W.heap.size v (ss.map .string) := by
  obtain ⟨a0, len, cap, rfl⟩ := okWide_slice Try.underlying22 hok
  obtain ⟨fuel, hf⟩ := h
  rcases open_strings Try.underlying22 Try.underlying9 cells9 hf with ⟨hcs, hx⟩ | ⟨a, len', cap', ss, hcs, _, hl, hm, hz, hx, hcell, hws⟩
  · simp [Value.cells] at hcs
    obtain ⟨rfl, rfl, rfl⟩ := hcs
    exact ⟨[], Nat.zero_le _, none, 0, rfl, fun h => absurd rfl h⟩
  · simp [Value.cells] at hcs
    obtain ⟨rfl, rfl, rfl⟩ := hcs
    simp only [Prod.mk.injEq] at hx
    obtain ⟨rfl, rfl⟩ := hx
    simp only [if_true] at hz
    have hlen : (ss.take len).length = len := by rw [List.length_take]; omega
    refine ⟨ss.take len, by omega, some a, cap, by rw [List.length_map, hlen], fun hne => ?_⟩
    have hpos : 0 < len := by
      rcases Nat.eq_zero_or_pos len with h0 | h0
      · exfalso; apply hne; simp [h0]
      · exact h0
    obtain ⟨b, off, spot⟩ := a
    have hspot : spot = none := by simpa [Addr.add] using World.cell?_spot (hcell 0 (by omega))
    subst hspot
    refine ⟨b, off, rfl, hlt (.cell b off) (MemPlace.mem_row.2 ⟨0, by omega, by simp⟩), fun i hi => ?_⟩
    have hi' : i < len := by rw [List.length_map, hlen] at hi; exact hi
    rw [← add_plain, hcell i (by omega)]
    simp [List.getD, List.getElem?_eq_getElem (show i < ss.length by omega)]

set_option maxRecDepth 100000 in
theorem arg_ints (hok : Value.okWide Try.prog W .any base 32 v)
    (h : DataW.Trod enc Try.prog W 0 (fun _ => true) true 32 v d p) (hlt : ∀ x ∈ p, x.block < W.heap.size) :
    ∃ zs : List Int, zs.length ≤ maxLen ∧ (∀ z ∈ zs, Fits z) ∧ Sl1 W W.heap.size v (zs.map (.int .i64)) := by
  obtain ⟨a0, len, cap, rfl⟩ := okWide_slice Try.underlying32 hok
  obtain ⟨fuel, hf⟩ := h
  rcases open_ints Try.underlying32 Try.underlying3 cells3 hf with ⟨hcs, hx⟩ | ⟨a, len', cap', zs, hcs, _, hl, hm, hz, hx, hcell, hws⟩
  · simp [Value.cells] at hcs
    obtain ⟨rfl, rfl, rfl⟩ := hcs
    exact ⟨[], Nat.zero_le _, by simp, none, 0, rfl, fun h => absurd rfl h⟩
  · simp [Value.cells] at hcs
    obtain ⟨rfl, rfl, rfl⟩ := hcs
    simp only [Prod.mk.injEq] at hx
    obtain ⟨rfl, rfl⟩ := hx
    simp only [if_true] at hz
    have hlen : (zs.take len).length = len := by rw [List.length_take]; omega
    refine ⟨zs.take len, by omega, fun z hz => fits_of_wf (hws z (List.mem_of_mem_take hz)), some a, cap, by rw [List.length_map, hlen], fun hne => ?_⟩
    have hpos : 0 < len := by
      rcases Nat.eq_zero_or_pos len with h0 | h0
      · exfalso; apply hne; simp [h0]
      · exact h0
    obtain ⟨b, off, spot⟩ := a
    have hspot : spot = none := by simpa [Addr.add] using World.cell?_spot (hcell 0 (by omega))
    subst hspot
    refine ⟨b, off, rfl, hlt (.cell b off) (MemPlace.mem_row.2 ⟨0, by omega, by simp⟩), fun i hi => ?_⟩
    have hi' : i < len := by rw [List.length_map, hlen] at hi; exact hi
    rw [← add_plain, hcell i (by omega)]
    simp [List.getD, List.getElem?_eq_getElem (show i < zs.length by omega)]

theorem cells42 : Try.prog.cellsOf 42 = 6 := by kernel_rfl
theorem one_int {n : Nat} {c : Value} {y : DataW H × List MemPlace} {w : World} {sp : Nat → Bool} {hd : Bool} {b0 : Nat} (h : DataW.trod enc Try.prog w b0 sp hd n 3 [c] = some y) : ∃ x, c = .int .i64 x ∧ Fits x := by
  obtain ⟨x, hx, _, hw⟩ := DataW.trod_int Try.underlying3 h
  exact ⟨x, by simpa using hx, fits_of_wf hw⟩
set_option maxRecDepth 100000 in
theorem arg_geom (hok : Value.okWide Try.prog W .any base 42 v) (h : DataW.Trod enc Try.prog W 0 (fun _ => true) true 42 v d p) :
    ∃ D Z S B P O : Int, v = .agg #[.int .i64 D, .int .i64 Z, .int .i64 S, .int .i64 B, .int .i64 P, .int .i64 O] ∧ Fits D ∧ Fits Z ∧ Fits S ∧ Fits B ∧ Fits P ∧ Fits O := by
  obtain ⟨cs, rfl, hsz⟩ := okWide_struct Try.underlying42 hok
  rw [cells42] at hsz
  obtain ⟨fuel, hf⟩ := h
  obtain ⟨xs, n, _, _, _, hxl, hx⟩ := DataW.trod_struct Try.underlying42 hf
  obtain ⟨l⟩ := cs
  match l, hsz with
  | [c0, c1, c2, c3, c4, c5], _ =>
    have e3 : Try.prog.cellsOf 3 = 1 := cells3
    match xs, hxl with
    | [y0, y1, y2, y3, y4, y5], _ =>
      have g0 := hx 0 _ rfl
      have g1 := hx 1 _ rfl
      have g2 := hx 2 _ rfl
      have g3 := hx 3 _ rfl
      have g4 := hx 4 _ rfl
      have g5 := hx 5 _ rfl
      simp [Value.cells, e3] at g0 g1 g2 g3 g4 g5
      obtain ⟨D, rfl, w0⟩ := one_int g0
      obtain ⟨Z, rfl, w1⟩ := one_int g1
      obtain ⟨S, rfl, w2⟩ := one_int g2
      obtain ⟨B, rfl, w3⟩ := one_int g3
      obtain ⟨P, rfl, w4⟩ := one_int g4
      obtain ⟨O, rfl, w5⟩ := one_int g5
      exact ⟨D, Z, S, B, P, O, rfl, w0, w1, w2, w3, w4, w5⟩
end
end Go.Proofs.Ytcdblopnaimfoaa

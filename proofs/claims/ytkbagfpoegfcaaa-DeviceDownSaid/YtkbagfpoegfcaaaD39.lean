/- What the arguments of the laws of the device hold: numbers, steps, lists of numbers. No condition. -/
import Derived.Test.YtkbagfpoegfcaaaD38
import Derived.Test.YtkbagfpoegfcaaaLaw
import Derived.Deep.Slices
import Derived.ChangeSame
import Derived.OpenShut
namespace Go.Proofs.Ytkbagfpoegfcaaa
open Go.ChangeShapes Go.WideShapes Go.ChangeAt Go.RowKit Go.Deep
open Go.Extern.Stop (cell)
/-- A number fits an int. -/
def Fits (x : Int) : Prop := -9223372036854775808 ≤ x ∧ x ≤ 9223372036854775807
theorem fits_of_wf {x : Int} (h : (Lit.int .i64 x).wf = true) : Fits x := by
  have h1 : IntKind.i64.min = -9223372036854775808 := rfl
  have h2 : IntKind.i64.max = 9223372036854775807 := rfl
  simp only [Lit.wf, Bool.and_eq_true, decide_eq_true_eq] at h
  unfold Fits; omega
theorem ofEach {α : Type} {n : Nat} {p : Nat → α → Prop} (h : ∀ i, i < n → ∃ a, p i a) : ∃ L : List α, L.length = n ∧ ∀ i (hi : i < L.length), p i L[i] :=
  ⟨List.ofFn fun i : Fin n => Classical.choose (h i.1 i.2), by simp, fun i hi => by
    simp only [List.getElem_ofFn]
    exact Classical.choose_spec (h i (by simpa using hi))⟩
theorem cells3 : Try.prog.cellsOf 3 = 1 := by kernel_rfl
theorem cells5 : Try.prog.cellsOf 5 = 1 := by kernel_rfl
theorem cells35 : Try.prog.cellsOf 35 = 64 := by kernel_rfl
theorem cells36 : Try.prog.cellsOf 36 = 1 := by kernel_rfl
theorem cells62 : Try.prog.cellsOf 62 = 68 := by kernel_rfl
section
variable {H : Type} {enc : TypeId × Value → H} {W : World} {v : Value} {d : DataW H} {p : List MemPlace} {base : Nat}
set_option maxRecDepth 100000 in
theorem arg_int (hok : Value.okWide Try.prog W .any base 3 v) (h : DataW.Trod enc Try.prog W 0 (fun _ => true) true 3 v d p) : ∃ x, v = .int .i64 x ∧ Fits x := by
  obtain ⟨a, rfl, rfl, rfl, wa⟩ := open_int Try.underlying3 hok h
  exact ⟨a, rfl, fits_of_wf wa⟩
theorem one_int {n : Nat} {cs : List Value} {y : DataW H × List MemPlace} {w : World} {sp : Nat → Bool} {hd : Bool} {b0 : Nat} (h : DataW.trod enc Try.prog w b0 sp hd n 3 cs = some y) : ∃ x, cs = [.int .i64 x] ∧ Fits x := by
  obtain ⟨x, hx, _, hw⟩ := DataW.trod_int Try.underlying3 h
  exact ⟨x, hx, fits_of_wf hw⟩
theorem one_u8 {n : Nat} {cs : List Value} {y : DataW H × List MemPlace} {w : World} {sp : Nat → Bool} {hd : Bool} {b0 : Nat} (h : DataW.trod enc Try.prog w b0 sp hd n 5 cs = some y) : ∃ x : UInt8, cs = [cell x] := by
  obtain ⟨x, hx, _, hw⟩ := DataW.trod_int Try.underlying5 h
  have h1 : IntKind.u8.min = 0 := rfl
  have h2 : IntKind.u8.max = 255 := rfl
  simp only [Lit.wf, Bool.and_eq_true, decide_eq_true_eq] at hw
  refine ⟨UInt8.ofNat x.toNat, ?_⟩
  rw [hx]
  unfold cell
  have : (UInt8.ofNat x.toNat).toNat = x.toNat := by rw [UInt8.toNat_ofNat']; omega
  rw [this]
  have e : (Int.ofNat x.toNat) = x := by show (x.toNat : Int) = x; omega
  rw [e]
theorem one_sector {n : Nat} {cs : List Value} {y : DataW H × List MemPlace} {w : World} {sp : Nat → Bool} {hd : Bool} {b0 : Nat} (h : DataW.trod enc Try.prog w b0 sp hd n 35 cs = some y) : ∃ s : Sec, cs = secL s := by
  obtain ⟨xs, m, _, _, hl, hxl, hx⟩ := DataW.trod_array Try.underlying35 h
  rw [cells35] at hl
  have key : ∀ i, i < 64 → ∃ b : UInt8, cs[i]? = some (cell b) := by
    intro i hi
    have hi2 : i < xs.length := by omega
    have h1 := hx i hi
    rw [cells5, List.getElem?_eq_getElem hi2] at h1
    obtain ⟨b, hb⟩ := one_u8 h1
    refine ⟨b, ?_⟩
    have h2 := congrArg (·[0]?) hb
    simpa using h2
  have hex : ∃ bs : List UInt8, cs = bs.map cell := by
    obtain ⟨bs, h1, h2⟩ := ofEach key
    refine ⟨bs, ?_⟩
    apply List.ext_getElem?
    intro i
    by_cases hi : i < 64
    · rw [h2 i (by omega), List.getElem?_map, List.getElem?_eq_getElem (by omega)]
      rfl
    · rw [List.getElem?_eq_none (by omega), List.getElem?_eq_none (by simp; omega)]
  obtain ⟨bs, hb⟩ := hex
  subst hb
  refine ⟨⟨bs, by rw [List.length_map] at hl; exact hl⟩, ?_⟩
  unfold secL
  rw [secA_list]
theorem one_ints {n : Nat} {cs : List Value} {y : DataW H × List MemPlace} {w : World} (h : DataW.trod enc Try.prog w 0 (fun _ => true) true n 36 cs = some y) (hlt : ∀ x ∈ y.2, x.block < w.heap.size) :
    ∃ (a : Option Addr) (c : Nat) (zs : List Int), cs = [.slice a zs.length c] ∧ zs.length ≤ maxLen ∧ RdAt (fun k => k < w.heap.size) w (.slice a zs.length c) zs.length (ints zs) := by
  rcases open_ints Try.underlying36 Try.underlying3 cells3 h with ⟨hcs, hx⟩ | ⟨a, len', cap', zs, hcs, _, hl, hm, hz, hx, hcell, hws⟩
  · exact ⟨none, 0, [], hcs, Nat.zero_le _, RdAt.nil _ _⟩
  · subst hx
    simp only [if_true] at hz
    have hlen : (zs.take len').length = len' := by rw [List.length_take]; omega
    refine ⟨some a, cap', zs.take len', by rw [hlen]; exact hcs, by omega, some a, cap', rfl, by omega, fun e => (by cases e), fun hne => ?_⟩
    have hpos : 0 < len' := by
      rcases Nat.eq_zero_or_pos len' with h0 | h0
      · exfalso; apply hne; simp [h0, ints]
      · exact h0
    obtain ⟨b, off, spot⟩ := a
    have hspot : spot = none := by simpa [Addr.add] using World.cell?_spot (hcell 0 (by omega))
    subst hspot
    refine ⟨b, off, rfl, hlt (.cell b off) (MemPlace.mem_row.2 ⟨0, by omega, by simp⟩), fun i u hu => ?_⟩
    unfold ints at hu
    rw [List.getElem?_map] at hu
    obtain ⟨z, hz1, rfl⟩ := Option.map_eq_some_iff.1 hu
    obtain ⟨hi, rfl⟩ := List.getElem?_eq_some_iff.1 hz1
    have hi' : i < len' := by rw [hlen] at hi; exact hi
    have hc := hcell i (by omega)
    have e : (⟨b, off, none⟩ : Addr).add i = ⟨b, off + i, none⟩ := by simp [Addr.add]
    rw [e] at hc
    rw [hc]
    simp [List.getD, List.getElem?_eq_getElem (show i < zs.length by omega)]
theorem one_op {n : Nat} {cs : List Value} {y : DataW H × List MemPlace} {w : World} (h : DataW.trod enc Try.prog w 0 (fun _ => true) true n 62 cs = some y) (hlt : ∀ x ∈ y.2, x.block < w.heap.size) :
    ∃ o : Op7, cs = (op7A o).toList ∧ o.keep.length ≤ maxLen ∧ KpAt (fun k => k < w.heap.size) w o := by
  obtain ⟨xs, m, _, hy, hl, hxl, hx⟩ := DataW.trod_struct Try.underlying62 h
  rw [cells62] at hl
  match xs, hxl with
  | [y0, y1, y2, y3, y4], _ =>
    have q0 : DataW.trod enc Try.prog w 0 (fun _ => true) true m 3 ((cs.drop 0).take (Try.prog.cellsOf 3)) = some y0 := hx 0 _ rfl
    have q1 : DataW.trod enc Try.prog w 0 (fun _ => true) true m 3 ((cs.drop 1).take (Try.prog.cellsOf 3)) = some y1 := hx 1 _ rfl
    have q2 : DataW.trod enc Try.prog w 0 (fun _ => true) true m 3 ((cs.drop 2).take (Try.prog.cellsOf 3)) = some y2 := hx 2 _ rfl
    have q3 : DataW.trod enc Try.prog w 0 (fun _ => true) true m 35 ((cs.drop 3).take (Try.prog.cellsOf 35)) = some y3 := hx 3 _ rfl
    have q4 : DataW.trod enc Try.prog w 0 (fun _ => true) true m 36 ((cs.drop 67).take (Try.prog.cellsOf 36)) = some y4 := hx 4 _ rfl
    rw [cells3] at q0 q1 q2
    rw [cells35] at q3
    rw [cells36] at q4
    obtain ⟨kd, e0, -⟩ := one_int q0
    obtain ⟨z, e1, -⟩ := one_int q1
    obtain ⟨f, e2, -⟩ := one_int q2
    obtain ⟨s, e3⟩ := one_sector q3
    obtain ⟨a, c, zs, e4, hzl, hrd⟩ := one_ints q4 (fun x hx => hlt x (by rw [hy]; simp; exact .inr (.inr (.inr (.inr hx)))))
    refine ⟨⟨kd, z, f, s, a, c, zs⟩, ?_, hzl, hrd⟩
    rw [op7_list]
    have d0 : cs = (cs.drop 0).take 1 ++ ((cs.drop 1).take 1 ++ ((cs.drop 2).take 1 ++ ((cs.drop 3).take 64 ++ (cs.drop 67).take 1))) := by
      have t4 : (cs.drop 67).take 1 = cs.drop 67 := List.take_of_length_le (by simp; omega)
      have t3 : (cs.drop 3).take 64 ++ cs.drop 67 = cs.drop 3 := by
        rw [show (67 : Nat) = 3 + 64 from rfl, ← List.drop_drop, List.take_append_drop]
      have t2 : (cs.drop 2).take 1 ++ cs.drop 3 = cs.drop 2 := by
        rw [show (3 : Nat) = 2 + 1 from rfl, ← List.drop_drop, List.take_append_drop]
      have t1 : (cs.drop 1).take 1 ++ cs.drop 2 = cs.drop 1 := by
        rw [show (2 : Nat) = 1 + 1 from rfl, ← List.drop_drop, List.take_append_drop]
      have t0 : (cs.drop 0).take 1 ++ cs.drop 1 = cs := by
        rw [List.drop_zero, List.take_append_drop]
      rw [t4, t3, t2, t1, t0]
    rw [d0, e0, e1, e2, e3, e4]
    rfl
/-- The steps of a slice. -/
def OpsAt (W : World) (B : Nat) (v : Value) (os : List Op7) : Prop := RdAt (fun k => k < B) W v os.length (flat (fun o => (op7A o).toList) os) ∧ (∀ o ∈ os, o.keep.length ≤ maxLen ∧ KpAt (fun k => k < B) W o) ∧ os.length ≤ maxLen
set_option maxRecDepth 100000 in
theorem arg_ops (hok : Value.okWide Try.prog W .any base 55 v)
    (h : DataW.Trod enc Try.prog W 0 (fun _ => true) true 55 v d p) (hlt : ∀ x ∈ p, x.block < W.heap.size) : ∃ os : List Op7, OpsAt W W.heap.size v os := by
  obtain ⟨a0, len, cap, rfl⟩ := okWide_slice Try.underlying55 hok
  obtain ⟨fuel, hf⟩ := h
  rcases open_slice Try.underlying55 hf with ⟨hcs, hx⟩ | ⟨a, len', cap', m, n, D, Pl, hcs, _, hl, hm, hmm, hx, hel⟩
  · simp [Value.cells] at hcs
    obtain ⟨rfl, rfl, rfl⟩ := hcs
    exact ⟨[], RdAt.nil _ _, by simp, Nat.zero_le _⟩
  · simp [Value.cells] at hcs
    obtain ⟨rfl, rfl, rfl⟩ := hcs
    simp only [Prod.mk.injEq] at hx
    obtain ⟨-, rfl⟩ := hx
    rw [if_pos rfl] at hmm
    subst hmm
    rw [cells62] at hlt hel
    obtain ⟨b, off, spot⟩ := a
    have hspot : 0 < len → spot = none := fun h0 => by
      obtain ⟨cs', h1, h2⟩ := hel 0 (by omega)
      obtain ⟨o, e, -⟩ := one_op h2 (fun x hx => hlt x (List.mem_append.2 (.inr (List.mem_flatMap.2 ⟨0, List.mem_range.2 (by omega), hx⟩))))
      obtain ⟨-, hl2, h5⟩ := World.cells?_some h1
      have h6 := h5 0 (by omega)
      rw [e, op7_list] at h6
      simpa [Addr.add] using World.cell?_spot h6
    have key : ∀ i, i < len → ∃ o : Op7, (o.keep.length ≤ maxLen ∧ KpAt (fun k => k < W.heap.size) W o) ∧ ∀ j u, (op7A o).toList[j]? = some u → W.cell? ((⟨b, off, spot⟩ : Addr).add (i * 68 + j)) = some u := by
      intro i hi
      obtain ⟨cs', h1, h2⟩ := hel i (by omega)
      obtain ⟨o, e, h3, h4⟩ := one_op h2 (fun x hx => hlt x (List.mem_append.2 (.inr (List.mem_flatMap.2 ⟨i, List.mem_range.2 (by omega), hx⟩))))
      obtain ⟨-, hl2, h5⟩ := World.cells?_some h1
      refine ⟨o, ⟨h3, h4⟩, fun j u hu => ?_⟩
      rw [← e] at hu
      have hj : j < 68 := by have := (List.getElem?_eq_some_iff.1 hu).1; omega
      have := h5 j hj
      rw [hu] at this
      rw [← this]
      obtain rfl := hspot (by omega)
      rw [add_plain, add_plain, add_plain, Nat.add_assoc]
    obtain ⟨os, hlen, hget⟩ := ofEach key
    have hl68 : ∀ o : Op7, ((op7A o).toList).length = 68 := fun o => (op7_bx o).len
    refine ⟨os, ⟨some ⟨b, off, spot⟩, m, by rw [hlen], by omega, fun e => (by cases e), fun hne => ?_⟩, fun o ho => ?_, by omega⟩
    · have hpos : 0 < len := by
        rcases Nat.eq_zero_or_pos len with h0 | h0
        · exfalso; apply hne
          have : os = [] := List.length_eq_zero_iff.1 (by omega)
          rw [this]; rfl
        · exact h0
      obtain rfl := hspot hpos
      refine ⟨b, off, rfl, hlt (.cell b off) (List.mem_append.2 (.inl (MemPlace.mem_row.2 ⟨0, by omega, by simp⟩))), fun j u hu => ?_⟩
      have hj : j < os.length * 68 := by have := (List.getElem?_eq_some_iff.1 hu).1; rwa [flat_len hl68] at this
      have hi : j / 68 < os.length := by omega
      have e := flat_get hl68 os (j / 68) hi (j % 68) (by omega)
      rw [show j / 68 * 68 + j % 68 = j by omega] at e
      rw [e] at hu
      have h9 := (hget (j / 68) hi).2 _ _ hu
      rw [show j / 68 * 68 + j % 68 = j by omega] at h9
      rwa [add_plain] at h9
    · obtain ⟨i, hi, rfl⟩ := List.mem_iff_getElem.1 ho
      exact (hget i hi).1
set_option maxRecDepth 100000 in
theorem arg_ints (hok : Value.okWide Try.prog W .any base 36 v)
    (h : DataW.Trod enc Try.prog W 0 (fun _ => true) true 36 v d p) (hlt : ∀ x ∈ p, x.block < W.heap.size) : ∃ zs : List Int, zs.length ≤ maxLen ∧ RdAt (fun k => k < W.heap.size) W v zs.length (ints zs) := by
  obtain ⟨a0, len, cap, rfl⟩ := okWide_slice Try.underlying36 hok
  obtain ⟨fuel, hf⟩ := h
  obtain ⟨a, c, zs, e, h1, h2⟩ := one_ints hf hlt
  simp [Value.cells] at e
  obtain ⟨rfl, rfl, rfl⟩ := e
  exact ⟨zs, h1, h2⟩
end
end Go.Proofs.Ytkbagfpoegfcaaa

/- A geometry's domain, ranged over: 'within', 'In', the function that it hands back. Conditions: the geometry's numbers are small. -/
import Derived.Test.YtcdblopnaimfoaaRf
import Derived.Test.YtcdblopnaimfoaaProg
import Derived.Lib.Hide
namespace Go.Proofs.Ytcdblopnaimfoaa
open Go.RowKit Go.Conc

theorem within_any (n a b : Int) (w : World) : Calls Try.prog 59 #[.int .i64 n, .int .i64 a, .int .i64 b] w fun e w' => e = .returned (.bool (decide (a ≤ n ∧ n ≤ b))) ∧ w' = w := by
  by_cases h : a ≤ n
  · go_enter Try.func59, Try.ntmps59
    go_wp2
    go_ret
    exact ⟨by simp [h], rfl⟩
  · have h' : n < a := by omega
    go_enter Try.func59, Try.ntmps59
    go_wp2
    go_ret
    exact ⟨by simp; omega, rfl⟩

/-- A geometry's six numbers, as a value. -/
def gv (D Z S B P O : Int) : Value := .agg #[.int .i64 D, .int .i64 Z, .int .i64 S, .int .i64 B, .int .i64 P, .int .i64 O]

theorem geomIn (D Z S B P O d : Int) (w : World) : Calls Try.prog 35 #[.agg #[.int .i64 D, .int .i64 Z, .int .i64 S, .int .i64 B, .int .i64 P, .int .i64 O], .int .i64 d] w fun e w' =>
    e = .returned (.func (.func 60) #[] #[.pointer (some ⟨w.heap.size + 1, 0, none⟩), .pointer (some ⟨w.heap.size, 0, none⟩)]) ∧
    w' = (w.alloc (.cells #[.int .i64 D, .int .i64 Z, .int .i64 S, .int .i64 B, .int .i64 P, .int .i64 O] 42)).alloc (.cells #[.int .i64 d] 3) := by
  go_enter Try.func35, Try.ntmps35
  go_wp2
  go_ret
  exact ⟨rfl, rfl⟩

/-- What a domain's zones are. -/
def inList (D Z d : Int) : List (Array Value) := if 0 ≤ d ∧ d ≤ D - 1 then (List.range Z.toNat).map fun (z : Nat) => #[.int .i64 (d * Z + z)] else []

def Two (b1 b2 : Nat) (X Y : World) : Prop := Y.heap[b1]? = X.heap[b1]? ∧ Y.heap[b2]? = X.heap[b2]?

set_option maxRecDepth 100000 in
set_option maxHeartbeats 1000000 in
theorem geomIn_iter (D Z S B P O d : Int) (hD : 3 ≤ D ∧ D ≤ 8) (hZ : 1 ≤ Z ∧ Z ≤ 64) (bd bg : Nat) (W : World) (hbd : W.heap[bd]? = some (.cells #[.int .i64 d] 3 (0, 0)))
    (hbg : W.heap[bg]? = some (.cells #[.int .i64 D, .int .i64 Z, .int .i64 S, .int .i64 B, .int .i64 P, .int .i64 O] 42 (0, 0))) :
    IterAt Try.prog 60 #[.pointer (some ⟨bd, 0, none⟩), .pointer (some ⟨bg, 0, none⟩)] (inList D Z d) Eq (Two bd bg) W := by
  intro l J Jx _ _ hY h0
  refine (callsIn_wide (n := 0)).1 (callsIn_of_wp Try.func60 rfl trivial ?_)
  simp only [Try.ntmps60, List.size_toArray, List.length_cons, List.length_nil, Nat.reduceAdd, Nat.reduceSub, Array.replicate_succ, Array.replicate_zero, List.push_toArray, List.append_toArray, List.nil_append, List.cons_append]
  have c0 : W.cell? ⟨bd, 0, none⟩ = some (.int .i64 d) := blk_cell hbd 0
  have c1 : W.cell? ⟨bg, 0, none⟩ = some (.int .i64 D) := blk_cell hbg 0
  have c2 : W.cell? ⟨bg, 1, none⟩ = some (.int .i64 Z) := blk_cell hbg 1
  have hfn : ∀ f, Fence.wide.fn f := fun _ => trivial
  have hdp : Fence.wide.depth = none := rfl
  by_cases hd : 0 ≤ d ∧ d ≤ D - 1
  · have hl : inList D Z d = (List.range Z.toNat).map fun (z : Nat) => #[.int .i64 (d * Z + z)] := if_pos hd
    have hn : (inList D Z d).length = Z.toNat := by rw [hl]; simp
    have HN := Lib.hid hn
    replace hY := Lib.hid hY
    clear hn
    gi_wp2_with fail
    refine callsIn_wide.2 ((within_any _ _ _ _).mono ?_)
    rintro e w1 ⟨rfl, rfl⟩
    have hdb : decide (0 ≤ d ∧ d ≤ D - 1) = true := decide_eq_true hd
    gi_wp2_with fail
    gi_loopw [13] (fun i wr => ∃ k : Nat, (k : Int) ≤ Z ∧ i = .int .i64 k ∧ J k wr ∧ Two bd bg w1 wr) (fun i _ => Z.toNat - (intOf i).toNat)
    case atStart => exact ⟨0, by omega, rfl, h0, rfl, rfl⟩
    case round =>
      obtain ⟨k, hk, rfl, hJ, hT⟩ := hrel
      by_cases hlt : (k : Int) < Z
      · obtain ⟨fn, tmps, assign, body, hy, hR⟩ := hY.out k (by rw [HN.out]; omega) wr hJ
        have e1 : (inList D Z d)[k]'(by rw [HN.out]; omega) = #[.int .i64 (d * Z + k)] := by simp [hl]
        rw [e1] at hy
        have c0 : wr.cell? ⟨bd, 0, none⟩ = some (.int .i64 d) := blk_cell (hT.1.trans hbd) 0
        have c1 : wr.cell? ⟨bg, 0, none⟩ = some (.int .i64 D) := blk_cell (hT.2.trans hbg) 0
        have c2 : wr.cell? ⟨bg, 1, none⟩ = some (.int .i64 Z) := blk_cell (hT.2.trans hbg) 1
        have hm0 : 0 ≤ d * Z := Int.mul_nonneg hd.1 (by omega)
        have hm1 : d * Z ≤ 448 := by have := Int.mul_le_mul (a := d) (b := Z) (c := 7) (d := 64) (by omega) (by omega) (by omega) (by omega); omega
        gi_wp2_with fail
        refine hR.mono ?_
        rintro e W3 (⟨rfl, hJ3, hT3⟩ | ⟨rfl, hJx3⟩)
        · gi_wp2_with fail
          go_roundw
          case rel => exact ⟨k + 1, by omega, by go_num, hJ3, hT3.1.trans hT.1, hT3.2.trans hT.2⟩
          case measure => simp [intOf]; omega
        · gi_wp2_with fail
          refine bodyPost_ret (results_none rfl _ _ _) rfl ⟨⟨_, rfl⟩, .inr hJx3⟩
      · have hkz : k = Z.toNat := by omega
        have hJ' : J Z.toNat wr := by rw [← hkz]; exact hJ
        clear hkz
        gi_wp2_with fail
        go_end0
        exact ⟨⟨_, rfl⟩, .inl hJ'⟩
  · have hl : inList D Z d = [] := if_neg hd
    have hJ' : J (inList D Z d).length W := by rw [hl]; exact h0
    have HD := Lib.hid hd
    clear hl hd hY
    gi_wp2_with fail
    refine callsIn_wide.2 ((within_any _ _ _ _).mono ?_)
    rintro e w1 ⟨rfl, rfl⟩
    rw [decide_eq_false HD.out]
    gi_wp2_with fail
    refine bodyPost_ret (results_none rfl _ _ _) rfl ⟨⟨_, rfl⟩, .inl hJ'⟩
end Go.Proofs.Ytcdblopnaimfoaa

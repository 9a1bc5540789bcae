/- right, anchor. No condition. -/
import Derived.Test.YtkbagfpoegfcaaaD35
namespace Go.Proofs.Ytkbagfpoegfcaaa
open Go.RowKit Go.Conc

section
variable {w : World}
theorem right_yes {x y z : Int} (h1 : 1 ≤ x) (h2 : x ≤ 512) (h3 : 1 ≤ y) (h4 : y ≤ 64) (h5 : 1 ≤ z) (h6 : z ≤ 64) : Calls Try.prog 23 #[.int .i64 x, .int .i64 y, .int .i64 z] w fun e w' => e = .returned (.bool true) ∧ w' = w := by
  have t1 : decide (1 ≤ x) = true := decide_eq_true h1
  have t2 : decide (x ≤ 512) = true := decide_eq_true h2
  have t3 : decide (1 ≤ y) = true := decide_eq_true h3
  have t4 : decide (y ≤ 64) = true := decide_eq_true h4
  have t5 : decide (1 ≤ z) = true := decide_eq_true h5
  have t6 : decide (z ≤ 64) = true := decide_eq_true h6
  go_enter Try.func23, Try.ntmps23
  go_wp2
  go_ret
  exact ⟨rfl, rfl⟩
def rightB (x y z : Int) : Bool := decide (1 ≤ x) && (decide (x ≤ 512) && (decide (1 ≤ y) && (decide (y ≤ 64) && (decide (1 ≤ z) && decide (z ≤ 64)))))
theorem right_calls (x y z : Int) : Calls Try.prog 23 #[.int .i64 x, .int .i64 y, .int .i64 z] w fun e w' => e = .returned (.bool (rightB x y z)) ∧ w' = w := by
  unfold rightB
  go_enter Try.func23, Try.ntmps23
  cases h1 : decide (1 ≤ x) with
  | false =>
    go_wp2
    go_ret
    exact ⟨rfl, rfl⟩
  | true =>
    cases h2 : decide (x ≤ 512) with
    | false =>
      go_wp2
      go_ret
      exact ⟨rfl, rfl⟩
    | true =>
      cases h3 : decide (1 ≤ y) with
      | false =>
        go_wp2
        go_ret
        exact ⟨rfl, rfl⟩
      | true =>
        cases h4 : decide (y ≤ 64) with
        | false =>
          go_wp2
          go_ret
          exact ⟨rfl, rfl⟩
        | true =>
          cases h5 : decide (1 ≤ z) with
          | false =>
            go_wp2
            go_ret
            exact ⟨rfl, rfl⟩
          | true =>
            cases h6 : decide (z ≤ 64) <;>
            · go_wp2
              go_ret
              exact ⟨rfl, rfl⟩
def Sec.one : Sec := ⟨1 :: List.replicate 63 0, rfl⟩
theorem one_sec : secA Sec.one = (Array.mk (.int .u8 1 :: List.replicate 63 (.int .u8 0))) := by unfold secA; rfl
theorem build1 (w : World) : (Instr.build 35 #[(0, .int .u8 1)]).run Try.prog w = .ok (.agg (secA Sec.one)) w := by rw [one_sec]; kernel_rfl
end
end Go.Proofs.Ytkbagfpoegfcaaa

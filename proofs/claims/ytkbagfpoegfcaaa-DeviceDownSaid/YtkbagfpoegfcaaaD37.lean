/- anchor. No condition. -/
import Derived.Test.YtkbagfpoegfcaaaD36
namespace Go.Proofs.Ytkbagfpoegfcaaa
open Go.RowKit Go.Conc

section
variable {ops : Array Oper} {Q : Exit → Act → World → Prop} {rest : List Oper} {o : Oper} {a : Act} {w : World}
theorem wpList_build1 (hg : o.guard = none) (ho : o.op = .build 35 #[(0, .const (.int .u8 1))]) (h : wpList Try.prog ops Q rest (a.put o.dst (.agg (secA Sec.one))) w) : wpList Try.prog ops Q (o :: rest) a w := by
  refine Go.Great.wpList_runTo hg o.dst rfl _ w ?_ h
  unfold execOp
  simp only [ho]
  simp [build1, Act.eval]
end
section
variable {w : World}
def X0 : DS := DS.new 2 2 1
def X1 : DS := X0.tick.set 0 (ZS.zero.app 2 Sec.one)
def X2 : DS := X1.tick
theorem app1 : AppR X0 0 Sec.one X1 0 0 := AppR.ok (X := X0) (i := 0) (s := Sec.one) 0 (by decide) rfl rfl (fun _ => by decide) rfl (by decide)
theorem app2 : AppR X1 1 Sec.one X2 0 33 := AppR.many (X := X1) (i := 1) (s := Sec.one) 1 (by decide) rfl rfl rfl (by decide)
set_option maxHeartbeats 2000000 in
theorem anchor_calls : Calls Try.prog 22 #[] w fun e w' => e = .returned (.bool true) ∧ Fr (fun _ => False) w w' := by
  have hc1 : Calls Try.prog 24 #[.int .i64 2, .int .i64 2, .int .i64 1] w _ := dev_new w (zones := 2) (size := 2) (op := 1) (by decide) (by decide) (by decide) (by decide) (by decide) (by decide)
  go_enter Try.func22, Try.ntmps22
  go_wp2_with fail
  refine hc1.mono ?_
  rintro e w1 ⟨rfl, hd1, f1⟩
  obtain ⟨d, hde⟩ : ∃ d, w.heap.size = d := ⟨_, rfl⟩
  rw [hde] at hd1
  rw [hde]
  have HDE := Lib.hid hde
  clear hde hc1
  have hc2 := dev_append hd1 (by decide) app1
  go_wp2_with (first | ((with_reducible refine is_build 35 rfl ?_); refine wpList_build1 rfl rfl ?_))
  refine hc2.mono ?_
  rintro e w2 ⟨rfl, hd2, f2⟩
  have hc3 := dev_append hd2 (by decide) app2
  clear hc2
  go_wp2_with (first | ((with_reducible refine is_build 35 rfl ?_); refine wpList_build1 rfl rfl ?_))
  refine hc3.mono ?_
  rintro e w3 ⟨rfl, hd3, f3⟩
  have hc4 := dev_count hd3
  have hc5 := dev_state hd3 (k := 0) (by decide)
  clear hc3
  go_wp2_with fail
  refine hc4.mono ?_
  rintro e w4 ⟨rfl, rfl⟩
  go_wp2_with fail
  refine hc5.mono ?_
  rintro e w5 ⟨rfl, rfl⟩
  have e1 : ((X2.n : Nat) : Int) = 2 := rfl
  have e2 : (X2.zs[0]'(by decide)).st = 1 := rfl
  go_wp2_with fail
  go_ret
  exact ⟨rfl, (f1.trans f2 (fun k hk h => by have := HDE.out; omega)).trans f3 (fun k hk h => by have := HDE.out; have := f1.size; omega)⟩
end
end Go.Proofs.Ytkbagfpoegfcaaa

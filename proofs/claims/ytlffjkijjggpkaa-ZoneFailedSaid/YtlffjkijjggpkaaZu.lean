/- A sector changed, in the program's zone. Conditions: fewer than 100 sectors, small numbers. -/
import Derived.Test.YtlffjkijjggpkaaZt
namespace Go.Proofs.Ytlffjkijjggpkaa
open Go.RowKit Go.Conc

theorem xorC (ob : Nat) (a x y z : Int) (w : World) (h : w.heap[ob]? = some (.cells #[.int .i64 x, .int .i64 y, .int .i64 z] 41 (0, 0))) : Calls Try.prog 40 #[.int .i64 a, .pointer (some ⟨ob, 0, none⟩)] w fun e w' => e = .returned (.int .i64 (xorP a z)) ∧ w' = w := by
  have cg := fun i => blk_cell h i
  go_enter Try.func40, Try.ntmps40
  go_wp2
  go_ret
  exact ⟨rfl, rfl⟩

section
variable {base : Nat} {w : World} {b ob : Nat} {v : Value} {L : List Int} {size safe st K X Y : Int} {fin : Bool}
theorem changeI_no (h : ZAt 58 3 base w b v (ints L) size safe st fin) (x : Int) (hx : x < 0 ∨ L.length ≤ x) (f : Value) : Calls Try.prog 39 #[.pointer (some ⟨b, 0, none⟩), .int .i64 x, f] w fun e w' => e = .returned (.int .i64 31) ∧ w' = w := by
  obtain ⟨a, cap, rfl⟩ := row_val h.row
  have cg := fun i => blk_cell h.z i
  rw [ints_length] at cg
  rcases hx with hx | hx
  · go_enter Try.func39, Try.ntmps39
    go_wp2
    go_ret
    exact ⟨rfl, rfl⟩
  · have h0 : 0 ≤ x := by omega
    go_enter Try.func39, Try.ntmps39
    go_wp2
    go_ret
    exact ⟨rfl, rfl⟩
set_option linter.unusedSimpArgs false in
set_option maxHeartbeats 4000000 in
theorem changeI_ok (h : ZAt 58 3 base w b v (ints L) size safe st fin) (k : Nat) (hk : k < L.length) (ho : w.heap[ob]? = some (.cells #[.int .i64 K, .int .i64 X, .int .i64 Y] 41 (0, 0))) :
    Calls Try.prog 39 #[.pointer (some ⟨b, 0, none⟩), .int .i64 k, .func (.func 40) #[] #[.pointer (some ⟨ob, 0, none⟩)]] w fun e w' => e = .returned (.int .i64 0) ∧ ZAt 58 3 base w' b v (ints (chL L k Y)) size safe st fin ∧ Fr (Zf b v) w w' := by
  obtain ⟨g, cap, rfl, hcl0, -⟩ := row_cell (L := ints L) h.row (i := k) (by rw [ints_length]; exact hk)
  have hye : (ints L)[k]'(by rw [ints_length]; exact hk) = .int .i64 L[k] := by simp [ints]
  rw [hye] at hcl0
  obtain ⟨cur, hg⟩ := row_obj h.row (k := g) rfl
  rw [ints_length] at h
  have cg := fun i => blk_cell h.z i
  go_enter Try.func39, Try.ntmps39
  go_wp2_with fail
  refine (wpIn_wide (n := 0)).1 ?_
  refine regionIn_stated (P := Try.prog) (fun l vals W => Sst w g (cur.setIfInBounds k (.int .i64 (xorP L[k] Y))) 3 15 [.pointer (some ⟨b, 0, none⟩), .pointer (some ⟨b, 0, none⟩), .pointer (some ⟨b, 0, none⟩), .slice (some ⟨g, 0, none⟩) L.length cap, .int .i64 ((k : Int)), .func (.func 40) #[] #[.pointer (some ⟨ob, 0, none⟩)], .pointer (some ⟨b, 0, none⟩), .pointer (some ⟨b, 0, none⟩), .pointer (some ⟨b, 0, none⟩), .slice (some ⟨g, 0, none⟩) L.length cap, .int .i64 ((k : Int)), .pointer (some ⟨g, k, none⟩), .int .i64 (L[k]), .int .i64 (xorP L[k] Y), .pointer (some ⟨g, k, none⟩), undef] (fun j => l.getD j false) vals W) (fun _ => undef) rfl (by kernel_rfl) (by kernel_rfl) (Sst.start w _ _ _ _ _ _ _) ?_ ?_
  · intro j o ho dd vals A Wx hsz hS hj hcl hdep hA hdf
    have hsz2 : dd.size = 16 := hsz
    rcases j with _ | _ | _ | _ | _ | _ | _ | _ | _ | _ | _ | _ | _ | _ | _ | _ | j
    · cases ho
      rw [if_pos (by kernel_rfl)]
      have r1 : A.tmps.getD 0 undef = .pointer (some ⟨b, 0, none⟩) := (hA 0 (by decide)).trans (by kernel_rfl)
      refine ⟨fun f _ => trivial, ?_⟩
      rw [Oper.semAt_eq _ _ _ (fun c h => by cases h)]
      rw [show (execOp A.eval _).run Try.prog Wx = .ok (.value (.pointer (some ⟨b, 0, none⟩))) (Wx) by simp [execOp, Act.eval, go_sem, r1]]
      refine ⟨.pointer (some ⟨b, 0, none⟩), rfl, ?_⟩
      exact hS.op 0 (by decide) (by omega) (Fr.refl _ _) rfl
    · cases ho
      rw [if_pos (by kernel_rfl)]
      have r1 : A.tmps.getD 18 undef = vals 0 := (hA 18 (by decide)).trans (by kernel_rfl)
      have d0 : dd.getD 0 false = true := hdep 0 (by kernel_rfl)
      have e0 : vals 0 = .pointer (some ⟨b, 0, none⟩) := hS.vv 0 (by decide) d0
      refine ⟨fun f _ => trivial, ?_⟩
      rw [Oper.semAt_eq _ _ _ (fun c h => by cases h)]
      rw [show (execOp A.eval _).run Try.prog Wx = .ok (.value (.pointer (some ⟨b, 0, none⟩))) (Wx) by simp [execOp, Act.eval, go_sem, r1, e0]]
      refine ⟨.pointer (some ⟨b, 0, none⟩), rfl, ?_⟩
      exact hS.op 1 (by decide) (by omega) (Fr.refl _ _) rfl
    · cases ho
      rw [if_pos (by kernel_rfl)]
      have r1 : A.tmps.getD 19 undef = vals 1 := (hA 19 (by decide)).trans (by kernel_rfl)
      have d1 : dd.getD 1 false = true := hdep 1 (by kernel_rfl)
      have e1 : vals 1 = .pointer (some ⟨b, 0, none⟩) := hS.vv 1 (by decide) d1
      refine ⟨fun f _ => trivial, ?_⟩
      rw [Oper.semAt_eq _ _ _ (fun c h => by cases h)]
      rw [show (execOp A.eval _).run Try.prog Wx = .ok (.value (.pointer (some ⟨b, 0, none⟩))) (Wx) by simp [execOp, Act.eval, go_sem, r1, e1]]
      refine ⟨.pointer (some ⟨b, 0, none⟩), rfl, ?_⟩
      exact hS.op 2 (by decide) (by omega) (Fr.refl _ _) rfl
    · cases ho
      rw [if_pos (by kernel_rfl)]
      have r1 : A.tmps.getD 20 undef = vals 2 := (hA 20 (by decide)).trans (by kernel_rfl)
      have hbx := hS.fr.heap h.z (fun ⟨_, e⟩ => h.ne (by rw [e]; rfl))
      have ca := fun i => blk_cell hbx i
      have d2 : dd.getD 2 false = true := hdep 2 (by kernel_rfl)
      have e2 : vals 2 = .pointer (some ⟨b, 0, none⟩) := hS.vv 2 (by decide) d2
      refine ⟨fun f _ => trivial, ?_⟩
      rw [Oper.semAt_eq _ _ _ (fun c h => by cases h)]
      rw [show (execOp A.eval _).run Try.prog Wx = .ok (.value (.slice (some ⟨g, 0, none⟩) L.length cap)) (Wx) by simp [execOp, Act.eval, go_sem, r1, e2, ca]]
      refine ⟨.slice (some ⟨g, 0, none⟩) L.length cap, rfl, ?_⟩
      exact hS.op 3 (by decide) (by omega) (Fr.refl _ _) rfl
    · cases ho
      rw [if_pos (by kernel_rfl)]
      have r1 : A.tmps.getD 1 undef = .int .i64 ((k : Int)) := (hA 1 (by decide)).trans (by kernel_rfl)
      refine ⟨fun f _ => trivial, ?_⟩
      rw [Oper.semAt_eq _ _ _ (fun c h => by cases h)]
      rw [show (execOp A.eval _).run Try.prog Wx = .ok (.value (.int .i64 ((k : Int)))) (Wx) by simp [execOp, Act.eval, go_sem, r1]]
      refine ⟨.int .i64 ((k : Int)), rfl, ?_⟩
      exact hS.op 4 (by decide) (by omega) (Fr.refl _ _) rfl
    · cases ho
      rw [if_pos (by kernel_rfl)]
      have r1 : A.tmps.getD 2 undef = .func (.func 40) #[] #[.pointer (some ⟨ob, 0, none⟩)] := (hA 2 (by decide)).trans (by kernel_rfl)
      refine ⟨fun f _ => trivial, ?_⟩
      rw [Oper.semAt_eq _ _ _ (fun c h => by cases h)]
      rw [show (execOp A.eval _).run Try.prog Wx = .ok (.value (.func (.func 40) #[] #[.pointer (some ⟨ob, 0, none⟩)])) (Wx) by simp [execOp, Act.eval, go_sem, r1]]
      refine ⟨.func (.func 40) #[] #[.pointer (some ⟨ob, 0, none⟩)], rfl, ?_⟩
      exact hS.op 5 (by decide) (by omega) (Fr.refl _ _) rfl
    · cases ho
      rw [if_pos (by kernel_rfl)]
      have r1 : A.tmps.getD 0 undef = .pointer (some ⟨b, 0, none⟩) := (hA 0 (by decide)).trans (by kernel_rfl)
      refine ⟨fun f _ => trivial, ?_⟩
      rw [Oper.semAt_eq _ _ _ (fun c h => by cases h)]
      rw [show (execOp A.eval _).run Try.prog Wx = .ok (.value (.pointer (some ⟨b, 0, none⟩))) (Wx) by simp [execOp, Act.eval, go_sem, r1]]
      refine ⟨.pointer (some ⟨b, 0, none⟩), rfl, ?_⟩
      exact hS.op 6 (by decide) (by omega) (Fr.refl _ _) rfl
    · cases ho
      rw [if_pos (by kernel_rfl)]
      have r1 : A.tmps.getD 24 undef = vals 6 := (hA 24 (by decide)).trans (by kernel_rfl)
      have d6 : dd.getD 6 false = true := hdep 6 (by kernel_rfl)
      have e6 : vals 6 = .pointer (some ⟨b, 0, none⟩) := hS.vv 6 (by decide) d6
      refine ⟨fun f _ => trivial, ?_⟩
      rw [Oper.semAt_eq _ _ _ (fun c h => by cases h)]
      rw [show (execOp A.eval _).run Try.prog Wx = .ok (.value (.pointer (some ⟨b, 0, none⟩))) (Wx) by simp [execOp, Act.eval, go_sem, r1, e6]]
      refine ⟨.pointer (some ⟨b, 0, none⟩), rfl, ?_⟩
      exact hS.op 7 (by decide) (by omega) (Fr.refl _ _) rfl
    · cases ho
      rw [if_pos (by kernel_rfl)]
      have r1 : A.tmps.getD 25 undef = vals 7 := (hA 25 (by decide)).trans (by kernel_rfl)
      have d7 : dd.getD 7 false = true := hdep 7 (by kernel_rfl)
      have e7 : vals 7 = .pointer (some ⟨b, 0, none⟩) := hS.vv 7 (by decide) d7
      refine ⟨fun f _ => trivial, ?_⟩
      rw [Oper.semAt_eq _ _ _ (fun c h => by cases h)]
      rw [show (execOp A.eval _).run Try.prog Wx = .ok (.value (.pointer (some ⟨b, 0, none⟩))) (Wx) by simp [execOp, Act.eval, go_sem, r1, e7]]
      refine ⟨.pointer (some ⟨b, 0, none⟩), rfl, ?_⟩
      exact hS.op 8 (by decide) (by omega) (Fr.refl _ _) rfl
    · cases ho
      rw [if_pos (by kernel_rfl)]
      have r1 : A.tmps.getD 26 undef = vals 8 := (hA 26 (by decide)).trans (by kernel_rfl)
      have hbx := hS.fr.heap h.z (fun ⟨_, e⟩ => h.ne (by rw [e]; rfl))
      have ca := fun i => blk_cell hbx i
      have d8 : dd.getD 8 false = true := hdep 8 (by kernel_rfl)
      have e8 : vals 8 = .pointer (some ⟨b, 0, none⟩) := hS.vv 8 (by decide) d8
      refine ⟨fun f _ => trivial, ?_⟩
      rw [Oper.semAt_eq _ _ _ (fun c h => by cases h)]
      rw [show (execOp A.eval _).run Try.prog Wx = .ok (.value (.slice (some ⟨g, 0, none⟩) L.length cap)) (Wx) by simp [execOp, Act.eval, go_sem, r1, e8, ca]]
      refine ⟨.slice (some ⟨g, 0, none⟩) L.length cap, rfl, ?_⟩
      exact hS.op 9 (by decide) (by omega) (Fr.refl _ _) rfl
    · cases ho
      rw [if_pos (by kernel_rfl)]
      have r1 : A.tmps.getD 1 undef = .int .i64 ((k : Int)) := (hA 1 (by decide)).trans (by kernel_rfl)
      refine ⟨fun f _ => trivial, ?_⟩
      rw [Oper.semAt_eq _ _ _ (fun c h => by cases h)]
      rw [show (execOp A.eval _).run Try.prog Wx = .ok (.value (.int .i64 ((k : Int)))) (Wx) by simp [execOp, Act.eval, go_sem, r1]]
      refine ⟨.int .i64 ((k : Int)), rfl, ?_⟩
      exact hS.op 10 (by decide) (by omega) (Fr.refl _ _) rfl
    · cases ho
      rw [if_pos (by kernel_rfl)]
      have r1 : A.tmps.getD 27 undef = vals 9 := (hA 27 (by decide)).trans (by kernel_rfl)
      have r2 : A.tmps.getD 28 undef = vals 10 := (hA 28 (by decide)).trans (by kernel_rfl)
      have d9 : dd.getD 9 false = true := hdep 9 (by kernel_rfl)
      have e9 : vals 9 = .slice (some ⟨g, 0, none⟩) L.length cap := hS.vv 9 (by decide) d9
      have d10 : dd.getD 10 false = true := hdep 10 (by kernel_rfl)
      have e10 : vals 10 = .int .i64 ((k : Int)) := hS.vv 10 (by decide) d10
      refine ⟨fun f _ => trivial, ?_⟩
      rw [Oper.semAt_eq _ _ _ (fun c h => by cases h)]
      rw [show (execOp A.eval _).run Try.prog Wx = .ok (.value (.pointer (some ⟨g, k, none⟩))) (Wx) by simp [execOp, Act.eval, go_sem, r1, r2, e9, e10, hk]]
      refine ⟨.pointer (some ⟨g, k, none⟩), rfl, ?_⟩
      exact hS.op 11 (by decide) (by omega) (Fr.refl _ _) rfl
    · cases ho
      rw [if_pos (by kernel_rfl)]
      have r1 : A.tmps.getD 29 undef = vals 11 := (hA 29 (by decide)).trans (by kernel_rfl)
      have d11 : dd.getD 11 false = true := hdep 11 (by kernel_rfl)
      have e11 : vals 11 = .pointer (some ⟨g, k, none⟩) := hS.vv 11 (by decide) d11
      have n15 : dd.getD 15 false = false := not_later hcl (j := 15) rfl (by kernel_rfl) hj
      have hcl2 := hS.fr.cell hcl0 (fun ⟨e, _⟩ => by rw [n15] at e; cases e)
      refine ⟨fun f _ => trivial, ?_⟩
      rw [Oper.semAt_eq _ _ _ (fun c h => by cases h)]
      rw [show (execOp A.eval _).run Try.prog Wx = .ok (.value (.int .i64 (L[k]))) (Wx) by simp [execOp, Act.eval, go_sem, r1, e11, hcl2]]
      refine ⟨.int .i64 (L[k]), rfl, ?_⟩
      exact hS.op 12 (by decide) (by omega) (Fr.refl _ _) rfl
    · cases ho
      rw [if_pos (by kernel_rfl)]
      have r1 : A.tmps.getD 23 undef = vals 5 := (hA 23 (by decide)).trans (by kernel_rfl)
      have r2 : A.tmps.getD 30 undef = vals 12 := (hA 30 (by decide)).trans (by kernel_rfl)
      have d5 : dd.getD 5 false = true := hdep 5 (by kernel_rfl)
      have e5 : vals 5 = .func (.func 40) #[] #[.pointer (some ⟨ob, 0, none⟩)] := hS.vv 5 (by decide) d5
      have d12 : dd.getD 12 false = true := hdep 12 (by kernel_rfl)
      have e12 : vals 12 = .int .i64 (L[k]) := hS.vv 12 (by decide) d12
      have n15 : dd.getD 15 false = false := not_later hcl (j := 15) rfl (by kernel_rfl) hj
      refine ⟨fun f _ => trivial, ?_⟩
      rw [Oper.semAt_eq _ _ _ (fun c h => by cases h)]
      simp [execOp, Act.eval, go_sem, r1, r2, e5, e12]
      have hob := hS.fr.heap ho (fun ⟨_, e⟩ => ne_obj ho hg (by intro q; cases q) e)
      refine ⟨rfl, callsIn_wide.2 ((xorC ob _ K X Y _ hob).mono ?_)⟩
      rintro e W9 ⟨rfl, rfl⟩
      refine ⟨.int .i64 (xorP L[k] Y), rfl, ?_⟩
      have hS9 := hS.op (u := .int .i64 (xorP L[k] Y)) 13 (by decide) (by omega) (Fr.refl (fun _ => False) W9) rfl
      simpa using hS9
    · cases ho
      rw [if_pos (by kernel_rfl)]
      have r1 : A.tmps.getD 21 undef = vals 3 := (hA 21 (by decide)).trans (by kernel_rfl)
      have r2 : A.tmps.getD 22 undef = vals 4 := (hA 22 (by decide)).trans (by kernel_rfl)
      have d3 : dd.getD 3 false = true := hdep 3 (by kernel_rfl)
      have e3 : vals 3 = .slice (some ⟨g, 0, none⟩) L.length cap := hS.vv 3 (by decide) d3
      have d4 : dd.getD 4 false = true := hdep 4 (by kernel_rfl)
      have e4 : vals 4 = .int .i64 ((k : Int)) := hS.vv 4 (by decide) d4
      refine ⟨fun f _ => trivial, ?_⟩
      rw [Oper.semAt_eq _ _ _ (fun c h => by cases h)]
      rw [show (execOp A.eval _).run Try.prog Wx = .ok (.value (.pointer (some ⟨g, k, none⟩))) (Wx) by simp [execOp, Act.eval, go_sem, r1, r2, e3, e4, hk]]
      refine ⟨.pointer (some ⟨g, k, none⟩), rfl, ?_⟩
      exact hS.op 14 (by decide) (by omega) (Fr.refl _ _) rfl
    · cases ho
      rw [if_pos (by kernel_rfl)]
      have r1 : A.tmps.getD 32 undef = vals 14 := (hA 32 (by decide)).trans (by kernel_rfl)
      have r2 : A.tmps.getD 31 undef = vals 13 := (hA 31 (by decide)).trans (by kernel_rfl)
      have d13 : dd.getD 13 false = true := hdep 13 (by kernel_rfl)
      have e13 : vals 13 = .int .i64 (xorP L[k] Y) := hS.vv 13 (by decide) d13
      have d14 : dd.getD 14 false = true := hdep 14 (by kernel_rfl)
      have e14 : vals 14 = .pointer (some ⟨g, k, none⟩) := hS.vv 14 (by decide) d14
      have hgg := hS.fr.heap hg (fun ⟨e, _⟩ => by rw [hj] at e; cases e)
      have ca := fun i => blk_cell hgg i
      have fa := fun i => blk_frozen hgg i
      refine ⟨fun f _ => trivial, ?_⟩
      rw [Oper.semAt_eq _ _ _ (fun c h => by cases h)]
      have hcx := hS.fr.cell hcl0 (fun ⟨e, _⟩ => by rw [hj] at e; cases e)
      simp [execOp, Act.eval, go_sem, r1, r2, e13, e14, hcx, fa]
      have hS9 := hS.st (by omega) (Fr.set1 Wx g k (.int .i64 (xorP L[k] Y))) (blk_put hgg k _) undef
      exact ⟨undef, by simpa using hS9⟩
    · cases ho
  · intro vals1 W3 hS
    have ht3 := hS.vt (by simp)
    have hf3 : Fr (fun k => k = g) w W3 := hS.fr.mono (fun i _ hi => hi.2)
    simp only [goV, Act.put, List.setIfInBounds_toArray, List.set_cons_succ, List.set_cons_zero]
    go_wp2_with fail
    go_ret
    have hch : chL L k Y = L.set k (xorP L[k] Y) := by rw [chL, List.getD_eq_getElem?_getD, List.getElem?_eq_getElem hk]; rfl
    have hrow := h.row
    rw [ints_length] at hrow ⊢
    have r4 := row_set hrow k (xorP L[k] Y)
    rw [← hch] at r4
    have r5 : W3.ownsRow base 3 1 (.slice (some ⟨g, 0, none⟩) L.length cap) L.length (ints (chL L k Y)) := by
      refine ⟨r4.1, ?_⟩
      rcases r4.2 with ⟨he, h0⟩ | ⟨g1, c1, u1, he, hb1, hg1, q1⟩
      · cases he
      · cases he
        rw [blk_put hg k _] at hg1
        cases hg1
        exact .inr ⟨g, cap, _, rfl, hb1, ht3, q1⟩
    exact ⟨rfl, ⟨hf3.heap h.z (fun e => h.ne (by rw [e]; rfl)), by rw [ints_length, chL, List.length_set, ← chL]; exact r5, h.ne, h.bb⟩, hf3.mono (fun i _ hi => .inr (by rw [hi]; rfl))⟩
end
end Go.Proofs.Ytlffjkijjggpkaa

/- A device: what only reads; begin, Crash, Reset, Finish, Fail, Read. Conditions: a device is small. -/
import Derived.Test.YtkbagfpoegfcaaaD8
namespace Go.Proofs.Ytkbagfpoegfcaaa
open Go.RowKit Go.Conc

section
variable {w w' : World} {d : Nat} {v : Value} {zb : Nat → Nat} {zv : Nat → Value} {X : DS} {S F : Nat → Prop}
theorem dev_state (hd : DvS F w d X) {k : Nat} (hk : k < X.zs.length) : Calls Try.prog 26 #[.pointer (some ⟨d, 0, none⟩), .int .i64 k] w fun e w' => e = .returned (.int .i64 X.zs[k].st) ∧ w' = w := by
  obtain ⟨hok, v, zb, zv, h, hF⟩ := hd
  obtain ⟨g, cap, hv, hp⟩ := h.val hok.l1
  have hn1 := hok.l1
  have hn2 := hok.l2
  subst hv
  have cg := fun i => blk_cell h.dev i
  have ck := hp k hk
  have hs := stateZ (h.z k hk)
  have hy := has_yes h hk
  clear hp
  have h1 : (k : Int) < (X.zs.length : Int) := by omega
  have h2 : (0 : Int) ≤ (k : Int) := by omega
  go_enter Try.func26, Try.ntmps26
  go_wp2_with fail
  refine hy.mono ?_
  rintro e w1 ⟨rfl, rfl⟩
  go_wp2_with fail
  refine hs.mono ?_
  rintro e w1 ⟨rfl, rfl⟩
  go_wp2
  go_ret
  exact ⟨rfl, rfl⟩
theorem dev_state_no (hd : DvS F w d X) {x : Int} (hx : x < 0 ∨ X.zs.length ≤ x) : Calls Try.prog 26 #[.pointer (some ⟨d, 0, none⟩), .int .i64 x] w fun e w' => e = .returned (.int .i64 4) ∧ w' = w := by
  obtain ⟨hok, v, zb, zv, h, hF⟩ := hd
  obtain ⟨g, cap, hv, hp⟩ := h.val hok.l1
  have hn1 := hok.l1
  have hn2 := hok.l2
  have hy := has_no h hx
  go_enter Try.func26, Try.ntmps26
  go_wp2_with fail
  refine hy.mono ?_
  rintro e w1 ⟨rfl, rfl⟩
  go_wp2
  go_ret
  exact ⟨rfl, rfl⟩
theorem dev_len (hd : DvS F w d X) {k : Nat} (hk : k < X.zs.length) : Calls Try.prog 17 #[.pointer (some ⟨d, 0, none⟩), .int .i64 k] w fun e w' => e = .returned (.int .i64 X.zs[k].L.length) ∧ w' = w := by
  obtain ⟨hok, v, zb, zv, h, hF⟩ := hd
  obtain ⟨g, cap, hv, hp⟩ := h.val hok.l1
  have hn1 := hok.l1
  have hn2 := hok.l2
  subst hv
  have cg := fun i => blk_cell h.dev i
  have ck := hp k hk
  have hs := lenZ (h.z k hk)
  have hy := has_yes h hk
  clear hp
  have h1 : (k : Int) < (X.zs.length : Int) := by omega
  have h2 : (0 : Int) ≤ (k : Int) := by omega
  go_enter Try.func17, Try.ntmps17
  go_wp2_with fail
  refine hy.mono ?_
  rintro e w1 ⟨rfl, rfl⟩
  go_wp2_with fail
  refine hs.mono ?_
  rintro e w1 ⟨rfl, rfl⟩
  go_wp2
  go_ret
  exact ⟨rfl, rfl⟩
theorem dev_len_no (hd : DvS F w d X) {x : Int} (hx : x < 0 ∨ X.zs.length ≤ x) : Calls Try.prog 17 #[.pointer (some ⟨d, 0, none⟩), .int .i64 x] w fun e w' => e = .returned (.int .i64 0) ∧ w' = w := by
  obtain ⟨hok, v, zb, zv, h, hF⟩ := hd
  obtain ⟨g, cap, hv, hp⟩ := h.val hok.l1
  have hn1 := hok.l1
  have hn2 := hok.l2
  have hy := has_no h hx
  go_enter Try.func17, Try.ntmps17
  go_wp2_with fail
  refine hy.mono ?_
  rintro e w1 ⟨rfl, rfl⟩
  go_wp2
  go_ret
  exact ⟨rfl, rfl⟩
theorem dev_down (hd : DvS F w d X) : Calls Try.prog 29 #[.pointer (some ⟨d, 0, none⟩)] w fun e w' => e = .returned (.bool X.down) ∧ w' = w := by
  obtain ⟨hok, v, zb, zv, h, hF⟩ := hd
  obtain ⟨g, cap, hv, hp⟩ := h.val hok.l1
  have hn1 := hok.l1
  have hn2 := hok.l2
  have cg := fun i => blk_cell h.dev i
  go_enter Try.func29, Try.ntmps29
  go_wp2
  go_ret
  exact ⟨rfl, rfl⟩
theorem dev_count (hd : DvS F w d X) : Calls Try.prog 34 #[.pointer (some ⟨d, 0, none⟩)] w fun e w' => e = .returned (.int .i64 X.n) ∧ w' = w := by
  obtain ⟨hok, v, zb, zv, h, hF⟩ := hd
  obtain ⟨g, cap, hv, hp⟩ := h.val hok.l1
  have hn1 := hok.l1
  have hn2 := hok.l2
  have cg := fun i => blk_cell h.dev i
  go_enter Try.func34, Try.ntmps34
  go_wp2
  go_ret
  exact ⟨rfl, rfl⟩
theorem dev_zones (hd : DvS F w d X) : Calls Try.prog 64 #[.pointer (some ⟨d, 0, none⟩)] w fun e w' => e = .returned (.int .i64 X.zs.length) ∧ w' = w := by
  obtain ⟨hok, v, zb, zv, h, hF⟩ := hd
  obtain ⟨g, cap, hv, hp⟩ := h.val hok.l1
  have hn1 := hok.l1
  have hn2 := hok.l2
  subst hv
  have cg := fun i => blk_cell h.dev i
  go_enter Try.func64, Try.ntmps64
  go_wp2
  go_ret
  exact ⟨rfl, rfl⟩
theorem dev_size (hd : DvS F w d X) : Calls Try.prog 79 #[.pointer (some ⟨d, 0, none⟩)] w fun e w' => e = .returned (.int .i64 X.size) ∧ w' = w := by
  obtain ⟨hok, v, zb, zv, h, hF⟩ := hd
  obtain ⟨g, cap, hv, hp⟩ := h.val hok.l1
  have hn1 := hok.l1
  have hn2 := hok.l2
  have cg := fun i => blk_cell h.dev i
  go_enter Try.func79, Try.ntmps79
  go_wp2
  go_ret
  exact ⟨rfl, rfl⟩
theorem dev_crash (hd : DvS F w d X) : Calls Try.prog 31 #[.pointer (some ⟨d, 0, none⟩)] w fun e w' => (∃ u, e = .returned u) ∧ DvQ F w d { X with down := true } w' := by
  obtain ⟨hok, v, zb, zv, h, hF⟩ := hd
  obtain ⟨g, cap, hv, hp⟩ := h.val hok.l1
  have hn1 := hok.l1
  have hn2 := hok.l2
  have cg := fun i => blk_cell h.dev i
  have fg := fun i => blk_frozen h.dev i
  have h4 := h.put4 true
  go_enter Try.func31, Try.ntmps31
  go_wp2
  go_end0
  exact ⟨⟨_, rfl⟩, ⟨⟨hok.s1, hok.s2, hok.o1, hok.o2, hok.l1, hok.l2, hok.z⟩, _, _, _, h4, fun k hk => .inl (hF k hk)⟩, (Fr.set1 w d 4 _).mono (fun k _ e => hF k (.inl e))⟩
/-- begin. -/
theorem beg_down (h : DvAt w d v zb zv X) (hdn : X.down = true) (x : Int) : Calls Try.prog 72 #[.pointer (some ⟨d, 0, none⟩), .int .i64 x] w fun e w' => e = .returned (.int .i64 34) ∧ w' = w := by
  have cg := fun i => blk_cell h.dev i
  rw [hdn] at cg
  go_enter Try.func72, Try.ntmps72
  go_wp2
  go_ret
  exact ⟨rfl, rfl⟩
theorem beg_out (h : DvAt w d v zb zv X) (hdn : X.down = false) {x : Int} (hx : x < 0 ∨ X.zs.length ≤ x) : Calls Try.prog 72 #[.pointer (some ⟨d, 0, none⟩), .int .i64 x] w fun e w' => e = .returned (.int .i64 13) ∧ w' = w := by
  have cg := fun i => blk_cell h.dev i
  rw [hdn] at cg
  have hy := has_no h hx
  go_enter Try.func72, Try.ntmps72
  go_wp2_with fail
  refine hy.mono ?_
  rintro e w1 ⟨rfl, rfl⟩
  go_wp2
  go_ret
  exact ⟨rfl, rfl⟩
theorem beg_ok (h : DvAt w d v zb zv X) (hdn : X.down = false) (hn : X.n < 1000000) {k : Nat} (hk : k < X.zs.length) : Calls Try.prog 72 #[.pointer (some ⟨d, 0, none⟩), .int .i64 k] w fun e w' => e = .returned (.int .i64 0) ∧ DvAt w' d v zb zv X.tick ∧ Fr (fun k => k = d) w w' := by
  have cg := fun i => blk_cell h.dev i
  have fg := fun i => blk_frozen h.dev i
  rw [hdn] at cg
  have hy := has_yes h hk
  have h3 := h.put3 (X.n + 1)
  go_enter Try.func72, Try.ntmps72
  go_wp2_with fail
  refine hy.mono ?_
  rintro e w1 ⟨rfl, rfl⟩
  go_wp2
  go_ret
  exact ⟨rfl, h3, Fr.set1 w1 d 3 _⟩
theorem DvAt.quit {d' : Nat} (hok : X.Ok) (h : DvAt w' d' v zb zv X) (hF : ∀ k, DFoot d' v zb zv X.zs.length k → F k) (hf : Fr F w w') : DvQ F w d' X w' := ⟨⟨hok, v, zb, zv, h, fun k hk => .inl (hF k hk)⟩, hf⟩
/-- A zone turned, the device's word. -/
theorem DvAt.quitZ (hok : X.Ok) {w1 : World} (h : DvAt w1 d v zb zv X) (hF : ∀ k, DFoot d v zb zv X.zs.length k → F k) (hf : Fr F w w1) {i : Nat} (hi : i < X.zs.length) {v' : Value} {z : ZS} (hz : ZAt w' (zb i) v' z.L X.size z.safe z.st z.fin) (hf2 : Fr (Zf (zb i) (zv i)) w1 w') (hv : ∀ k, v'.ownBlock = some k → (zv i).ownBlock = some k ∨ w1.heap.size ≤ k) (hzo : z.Ok X.size) : DvQ F w d (X.set i z) w' := by
  obtain ⟨h1, h2⟩ := h.zone hi hz hf2 hv
  refine ⟨⟨hok.set hzo, _, _, _, h1, fun k hk => ?_⟩, hf.trans hf2 (fun k _ hk => hF k (.inr (.inr ⟨i, hi, hk⟩)))⟩
  rcases h2 k hk with h3 | h3
  · exact .inl (hF k h3)
  · exact .inr (by have := hf.size; omega)
end
theorem failed_cases {st : Int} (h : failedOf st ≠ 0) : st = 4 ∨ st = 3 := by
  unfold failedOf at h
  split at h
  · exact .inl (by assumption)
  · split at h
    · exact .inr (by assumption)
    · exact absurd rfl h
theorem failed_zero {st : Int} (h : failedOf st = 0) : st ≠ 4 ∧ st ≠ 3 := by
  unfold failedOf at h
  split at h
  · cases h
  · split at h
    · cases h
    · exact ⟨by assumption, by assumption⟩
/-- What Reset, Finish come to. -/
inductive RstR (X : DS) (i : Int) (f : ZS → ZS) : DS → Int → Prop
  | down : X.down = true → RstR X i f X 34
  | out : X.down = false → (i < 0 ∨ X.zs.length ≤ i) → RstR X i f X 13
  | failed (k : Nat) (hk : k < X.zs.length) : X.down = false → i = k → failedOf X.zs[k].st ≠ 0 → RstR X i f X.tick (failedOf X.zs[k].st)
  | ok (k : Nat) (hk : k < X.zs.length) : X.down = false → i = k → failedOf X.zs[k].st = 0 → RstR X i f (X.tick.set k (f X.zs[k])) 0
theorem inside {i : Int} {n : Nat} (h : ¬ (i < 0 ∨ (n : Int) ≤ i)) : ∃ k : Nat, k < n ∧ i = k := ⟨i.toNat, by omega, by omega⟩
theorem RstR.total (X : DS) (i : Int) (f : ZS → ZS) : ∃ Y e, RstR X i f Y e := by
  cases hd : X.down with
  | true => exact ⟨_, _, .down hd⟩
  | false =>
    by_cases hi : i < 0 ∨ (X.zs.length : Int) ≤ i
    · exact ⟨_, _, .out hd hi⟩
    · obtain ⟨k, hk, e⟩ := inside hi
      by_cases hf : failedOf X.zs[k].st = 0
      · exact ⟨_, _, .ok k hk hd e hf⟩
      · exact ⟨_, _, .failed k hk hd e hf⟩
def ZS.finish (z : ZS) : ZS := { z with st := 2, fin := true }
theorem ZS.zero_ok {s : Nat} (hs : 1 ≤ s) : ZS.zero.Ok s := ⟨by simp [ZS.zero], by simp [ZS.zero], by simp [ZS.zero], by simp [ZS.zero], fun _ => by simp [ZS.zero]; omega⟩
theorem ZS.Ok.finish {s : Nat} {z : ZS} (h : z.Ok s) : z.finish.Ok s := ⟨h.len, h.safe, by simp [ZS.finish], by simp [ZS.finish], fun e => by simp [ZS.finish] at e⟩
section
variable {w w' : World} {d : Nat} {X Y : DS} {F : Nat → Prop} {e0 : Int}
theorem tick_zs (X : DS) : X.tick.zs = X.zs := rfl
theorem dev_reset (hd : DvS F w d X) (hn : X.n < 1000000) {x : Int} (hr : RstR X x (fun _ => .zero) Y e0) : Calls Try.prog 38 #[.pointer (some ⟨d, 0, none⟩), .int .i64 x] w fun e w' => e = .returned (.int .i64 e0) ∧ DvQ F w d Y w' := by
  have hd' := hd
  obtain ⟨hok, v, zb, zv, h, hF⟩ := hd
  obtain ⟨g, cap, hv, hp⟩ := h.val hok.l1
  have hn1 := hok.l1
  have hn2 := hok.l2
  cases hr with
  | down hdn =>
    have hb := beg_down h hdn x
    go_enter Try.func38, Try.ntmps38
    go_wp2_with fail
    refine hb.mono ?_
    rintro e w1 ⟨rfl, rfl⟩
    go_wp2
    go_ret
    exact ⟨rfl, DvQ.same hd' (Fr.refl _ _)⟩
  | out hdn hx =>
    have hb := beg_out h hdn hx
    go_enter Try.func38, Try.ntmps38
    go_wp2_with fail
    refine hb.mono ?_
    rintro e w1 ⟨rfl, rfl⟩
    go_wp2
    go_ret
    exact ⟨rfl, DvQ.same hd' (Fr.refl _ _)⟩
  | failed k hk hdn e1 hf =>
    subst e1
    have hb := beg_ok h hdn hn hk
    have h1 : (k : Int) < (X.zs.length : Int) := by omega
    have h2 : (0 : Int) ≤ (k : Int) := by omega
    subst hv
    go_enter Try.func38, Try.ntmps38
    go_wp2_with fail
    refine hb.mono ?_
    rintro e w1 ⟨rfl, h3, f3⟩
    have hok' := hok.tick
    have f3' : Fr F w w1 := f3.mono (fun k _ e => hF k (.inl e))
    have cg := fun i => blk_cell h3.dev i
    obtain ⟨g2, cap2, e2, hp2⟩ := h3.val hok'.l1
    have e2' : g = g2 ∧ cap = cap2 := by simp only [Value.slice.injEq, Option.some.injEq, Addr.mk.injEq] at e2; exact ⟨e2.1.1, e2.2.2⟩
    obtain ⟨rfl, rfl⟩ := e2'
    have ck := hp2 k hk
    have hs := resetZ_no (h3.z k hk) hf
    clear hp hp2 e2
    go_wp2_with fail
    refine hs.mono ?_
    rintro e w2 ⟨rfl, rfl⟩
    go_wp2
    go_ret
    exact ⟨rfl, h3.quit hok' hF f3'⟩
  | ok k hk hdn e1 hf =>
    subst e1
    have hb := beg_ok h hdn hn hk
    have h1 : (k : Int) < (X.zs.length : Int) := by omega
    have h2 : (0 : Int) ≤ (k : Int) := by omega
    subst hv
    go_enter Try.func38, Try.ntmps38
    go_wp2_with fail
    refine hb.mono ?_
    rintro e w1 ⟨rfl, h3, f3⟩
    have hok' := hok.tick
    have f3' : Fr F w w1 := f3.mono (fun k _ e => hF k (.inl e))
    have cg := fun i => blk_cell h3.dev i
    obtain ⟨g2, cap2, e2, hp2⟩ := h3.val hok'.l1
    have e2' : g = g2 ∧ cap = cap2 := by simp only [Value.slice.injEq, Option.some.injEq, Addr.mk.injEq] at e2; exact ⟨e2.1.1, e2.2.2⟩
    obtain ⟨rfl, rfl⟩ := e2'
    have ck := hp2 k hk
    have hs := resetZ_ok (h3.z k hk) hf
    clear hp hp2 e2
    go_wp2_with fail
    refine hs.mono ?_
    rintro e w2 ⟨rfl, h4, f4⟩
    go_wp2
    go_ret
    exact ⟨rfl, h3.quitZ hok' hF f3' hk (z := .zero) h4 f4 (fun k hk => by cases hk) (ZS.zero_ok hok.s1)⟩
end
end Go.Proofs.Ytkbagfpoegfcaaa

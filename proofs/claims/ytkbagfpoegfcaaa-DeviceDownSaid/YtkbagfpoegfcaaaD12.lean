/- A device: Append, Spoil, New. Conditions: a device is small. -/
import Derived.Test.YtkbagfpoegfcaaaD11
namespace Go.Proofs.Ytkbagfpoegfcaaa
open Go.RowKit Go.Conc

def ZS.app (size : Nat) (s : Sec) (z : ZS) : ZS := ⟨z.L ++ [s], z.safe, if z.L.length + 1 = size then 2 else 1, z.fin⟩
theorem ZS.Ok.app {n : Nat} {z : ZS} (h : z.Ok n) (s : Sec) (h0 : failedOf z.st = 0) (h2 : z.st ≠ 2) : (z.app n s).Ok n := by
  have h3 := failed_zero h0
  have h4 := h.st4
  have hl := h.lt (by omega)
  have hs := h.safe
  refine ⟨?_, ?_, ?_, ?_, fun e => ?_⟩
  · simp [ZS.app]; omega
  · simp [ZS.app]; omega
  · simp only [ZS.app]; split <;> omega
  · simp only [ZS.app]; split <;> omega
  · simp only [ZS.app] at e
    simp only [ZS.app, List.length_append, List.length_cons, List.length_nil]
    split at e <;> omega
theorem failed_of0 {st : Int} (h : st = 0) : failedOf st = 0 := by subst h; rfl
/-- What Append comes to. -/
inductive AppR (X : DS) (i : Int) (s : Sec) : DS → Int → Int → Prop
  | down : X.down = true → AppR X i s X 0 34
  | out : X.down = false → (i < 0 ∨ X.zs.length ≤ i) → AppR X i s X 0 13
  | many (k : Nat) (hk : k < X.zs.length) : X.down = false → i = k → X.zs[k].st = 0 → X.op ≤ X.opened → AppR X i s X.tick 0 33
  | failed (k : Nat) (hk : k < X.zs.length) : X.down = false → i = k → failedOf X.zs[k].st ≠ 0 → AppR X i s X.tick 0 (failedOf X.zs[k].st)
  | full (k : Nat) (hk : k < X.zs.length) : X.down = false → i = k → X.zs[k].st = 2 → AppR X i s X.tick 0 17
  | ok (k : Nat) (hk : k < X.zs.length) : X.down = false → i = k → (X.zs[k].st = 0 → X.opened < X.op) → failedOf X.zs[k].st = 0 → X.zs[k].st ≠ 2 → AppR X i s (X.tick.set k (X.zs[k].app X.size s)) X.zs[k].L.length 0
theorem AppR.total (X : DS) (i : Int) (s : Sec) : ∃ Y a e, AppR X i s Y a e := by
  cases hd : X.down with
  | true => exact ⟨_, _, _, .down hd⟩
  | false =>
    by_cases hi : i < 0 ∨ (X.zs.length : Int) ≤ i
    · exact ⟨_, _, _, .out hd hi⟩
    · obtain ⟨k, hk, e⟩ := inside hi
      by_cases h0 : X.zs[k].st = 0 ∧ X.op ≤ X.opened
      · exact ⟨_, _, _, .many k hk hd e h0.1 h0.2⟩
      · by_cases hf : failedOf X.zs[k].st = 0
        · by_cases h2 : X.zs[k].st = 2
          · exact ⟨_, _, _, .full k hk hd e h2⟩
          · exact ⟨_, _, _, .ok k hk hd e (fun h => by
              rcases Nat.lt_or_ge X.opened X.op with h3 | h3
              · exact h3
              · exact absurd ⟨h, h3⟩ h0) hf h2⟩
        · exact ⟨_, _, _, .failed k hk hd e hf⟩
/-- What Spoil comes to. -/
inductive SpR (X : DS) (i off : Int) (p : Sec) : DS → Int → Prop
  | out : (i < 0 ∨ X.zs.length ≤ i) → SpR X i off p X 13
  | no (k : Nat) (hk : k < X.zs.length) : i = k → (off < 0 ∨ X.zs[k].L.length ≤ off) → SpR X i off p X 31
  | ok (k : Nat) (hk : k < X.zs.length) (o : Nat) (ho : o < X.zs[k].L.length) : i = k → off = o → SpR X i off p (X.set k { X.zs[k] with L := X.zs[k].L.set o (X.zs[k].L[o].xor p) }) 0
theorem SpR.total (X : DS) (i off : Int) (p : Sec) : ∃ Y e, SpR X i off p Y e := by
  by_cases hi : i < 0 ∨ (X.zs.length : Int) ≤ i
  · exact ⟨_, _, .out hi⟩
  · obtain ⟨k, hk, e⟩ := inside hi
    by_cases ho : off < 0 ∨ (X.zs[k].L.length : Int) ≤ off
    · exact ⟨_, _, .no k hk e ho⟩
    · obtain ⟨o, ho, e2⟩ := inside ho
      exact ⟨_, _, .ok k hk o ho e e2⟩
theorem ZS.Ok.setL {n : Nat} {z : ZS} (h : z.Ok n) (o : Nat) (s : Sec) : ZS.Ok n { z with L := z.L.set o s } :=
  ⟨by simpa using h.len, by simpa using h.safe, h.st0, h.st4, fun e => by simpa using h.lt e⟩
section
variable {w w' : World} {d : Nat} {v : Value} {zb : Nat → Nat} {zv : Nat → Value} {X Y : DS} {F : Nat → Prop} {e0 a0 : Int}
set_option maxHeartbeats 1000000 in
theorem dev_spoil (hd : DvS F w d X) {x off : Int} {p : Sec} (hr : SpR X x off p Y e0) : Calls Try.prog 35 #[.pointer (some ⟨d, 0, none⟩), .int .i64 x, .int .i64 off, .agg (secA p)] w fun e w' => e = .returned (.int .i64 e0) ∧ DvQ F w d Y w' := by
  have hd' := hd
  have F0 := (Fr.refl (fun _ => False) w).alloc (.cells (secA p) 35)
  have gr := blk_new w (.cells (secA p) 35)
  obtain ⟨hok, v, zb, zv, hh, hF⟩ := hd
  have h := hh.fr0 F0
  obtain ⟨g, cap, hv, hp⟩ := h.val hok.l1
  have hn1 := hok.l1
  have hn2 := hok.l2
  cases hr with
  | out hx =>
    have hb := has_no h hx
    go_enter Try.func35, Try.ntmps35
    go_wp2_with fail
    generalize w.alloc (.cells (secA p) 35) = w0 at *
    refine hb.mono ?_
    rintro e w1 ⟨rfl, rfl⟩
    go_wp2
    go_ret
    exact ⟨rfl, DvQ.same hd' F0⟩
  | no k hk e1 ho =>
    subst e1 hv
    have hb := has_yes h hk
    have h1 : (k : Int) < (X.zs.length : Int) := by omega
    have h2 : (0 : Int) ≤ (k : Int) := by omega
    have cg := fun i => blk_cell h.dev i
    have ck := hp k hk
    clear hp
    have hs := changeZ_no (h.z k hk) off ho (.func (.func 77) #[] #[.pointer (some ⟨w.heap.size, 0, none⟩)])
    go_enter Try.func35, Try.ntmps35
    go_wp2_with fail
    generalize w.alloc (.cells (secA p) 35) = w0 at *
    refine hb.mono ?_
    rintro e w1 ⟨rfl, rfl⟩
    go_wp2_with fail
    refine hs.mono ?_
    rintro e w1 ⟨rfl, rfl⟩
    go_wp2
    go_ret
    exact ⟨rfl, DvQ.same hd' F0⟩
  | ok k hk o ho e1 e2 =>
    subst e2
    subst e1 hv
    have hb := has_yes h hk
    have h1 : (k : Int) < (X.zs.length : Int) := by omega
    have h2 : (0 : Int) ≤ (k : Int) := by omega
    have cg := fun i => blk_cell h.dev i
    have ck := hp k hk
    clear hp
    have hs := changeZ (h.z k hk) ho gr
    go_enter Try.func35, Try.ntmps35
    go_wp2_with fail
    generalize w.alloc (.cells (secA p) 35) = w0 at *
    refine hb.mono ?_
    rintro e w1 ⟨rfl, rfl⟩
    go_wp2_with fail
    refine hs.mono ?_
    rintro e w1 ⟨rfl, h4, f4⟩
    go_wp2
    go_ret
    exact ⟨rfl, h.quitZ hok hF (F0.mono (fun _ _ h => h.elim)) hk (z := { X.zs[k] with L := X.zs[k].L.set o (X.zs[k].L[o].xor p) }) h4 f4 (fun _ hk => .inl hk) ((hok.at hk).setL _ _)⟩
theorem dev_append_dn (hd : DvS F w d X) (hdn : X.down = true) (x : Int) (s : Sec) : Calls Try.prog 30 #[.pointer (some ⟨d, 0, none⟩), .int .i64 x, .agg (secA s)] w fun e w' => e = .returned (.tuple #[.int .i64 0, .int .i64 34]) ∧ DvQ F w d X w' := by
  have hd' := hd
  have F0 := (Fr.refl (fun _ => False) w).alloc (.cells (secA s) 35)
  obtain ⟨hok, v, zb, zv, hh, hF⟩ := hd
  have h := hh.fr0 F0
  have hb := beg_down h hdn x
  go_enter Try.func30, Try.ntmps30
  go_wp2_with fail
  generalize w.alloc (.cells (secA s) 35) = w0 at *
  refine hb.mono ?_
  rintro e w1 ⟨rfl, rfl⟩
  go_wp2
  go_ret2
  exact ⟨rfl, DvQ.same hd' F0⟩
theorem dev_append_out (hd : DvS F w d X) (hdn : X.down = false) {x : Int} (hx : x < 0 ∨ X.zs.length ≤ x) (s : Sec) : Calls Try.prog 30 #[.pointer (some ⟨d, 0, none⟩), .int .i64 x, .agg (secA s)] w fun e w' => e = .returned (.tuple #[.int .i64 0, .int .i64 13]) ∧ DvQ F w d X w' := by
  have hd' := hd
  have F0 := (Fr.refl (fun _ => False) w).alloc (.cells (secA s) 35)
  obtain ⟨hok, v, zb, zv, hh, hF⟩ := hd
  have h := hh.fr0 F0
  have hb := beg_out h hdn hx
  go_enter Try.func30, Try.ntmps30
  go_wp2_with fail
  generalize w.alloc (.cells (secA s) 35) = w0 at *
  refine hb.mono ?_
  rintro e w1 ⟨rfl, rfl⟩
  go_wp2
  go_ret2
  exact ⟨rfl, DvQ.same hd' F0⟩
set_option linter.unusedSimpArgs false
set_option maxRecDepth 100000 in
set_option maxHeartbeats 4000000 in
theorem dev_append_many (hd : DvS F w d X) (hn : X.n < 1000000) (hdn : X.down = false) {k : Nat} (hk : k < X.zs.length) (h0 : X.zs[k].st = 0) (hop : X.op ≤ X.opened) (s : Sec) : Calls Try.prog 30 #[.pointer (some ⟨d, 0, none⟩), .int .i64 k, .agg (secA s)] w fun e w' => e = .returned (.tuple #[.int .i64 0, .int .i64 33]) ∧ DvQ F w d X.tick w' := by
  have F0 := (Fr.refl (fun _ => False) w).alloc (.cells (secA s) 35)
  have gr := blk_new w (.cells (secA s) 35)
  obtain ⟨hok, v, zb, zv, hh, hF⟩ := hd
  have hlt : ∀ k, DFoot d v zb zv X.zs.length k → k < w.heap.size := fun k hk => hh.lt hk
  have h := hh.fr0 F0
  have hdl := hlt d (.inl rfl)
  obtain ⟨g, cap, hv, hp⟩ := h.val hok.l1
  have hn1 := hok.l1
  have hn2 := hok.l2
  have hb := beg_ok h hdn hn hk
  have h1 : (k : Int) < (X.zs.length : Int) := by omega
  have h2 : (0 : Int) ≤ (k : Int) := by omega
  subst hv
  go_enter Try.func30, Try.ntmps30
  go_wp2_with fail
  generalize w.alloc (.cells (secA s) 35) = w0 at *
  refine hb.mono ?_
  rintro e w1 ⟨rfl, h3, f3⟩
  have gr1 := f3.heap gr (by omega)
  have f3 : Fr (fun k => k = d) w w1 := (F0.mono (fun _ _ h => h.elim)).trans f3 (fun _ _ h => h)
  have hok' := hok.tick
  have f3' : Fr F w w1 := f3.mono (fun k _ e => hF k (.inl e))
  have cg := fun i => blk_cell h3.dev i
  obtain ⟨g2, cap2, e2, hp2⟩ := h3.val hok'.l1
  have e2' : g = g2 ∧ cap = cap2 := by simp only [Value.slice.injEq, Option.some.injEq, Addr.mk.injEq] at e2; exact ⟨e2.1.1, e2.2.2⟩
  obtain ⟨rfl, rfl⟩ := e2'
  have ck := hp2 k hk
  clear hp hp2 e2
  have e0 : (X.zs[k].st == 0) = true := by rw [h0]; rfl
  have hop' : decide (X.tick.op ≤ X.tick.opened) = true := decide_eq_true hop
  have h3k := h3.z k hk
  have hzk : ∀ V, Fr (fun _ => False) w1 V → Calls Try.prog 67 #[.pointer (some ⟨zb k, 0, none⟩)] V fun e w' => e = .returned (.int .i64 X.zs[k].st) ∧ w' = V := fun V hV => stateZ (h3k.fr0 hV)
  have HZ := Lib.hid hzk
  clear hzk
  go_wp2_with fail
  refine (wpIn_wide (n := 0)).1 ?_
  refine regionIn_seqC (fun _ V => Fr (fun _ => False) w1 V) rfl (by kernel_rfl) (by kernel_rfl) (by kernel_rfl) (fun _ => trivial) rfl ((Fr.refl _ _).drew) ?_
  iterate 7
    apply SeqC.step
    · rfl
    · intro dn V hV ht hcl
      have ca := fun i => blk_cell (hV.heap h3.dev id) i; have cb := hV.cell ck id
      simp [Oper.gives, execOp, Act.eval, go_sem, ca, cb, h1, h2, hk]
      exact ⟨rfl, hV⟩
    simp only [Act.put, List.setIfInBounds_toArray, List.set_cons_succ, List.set_cons_zero]
  apply SeqC.step
  · rfl
  · intro dn V hV ht hcl
    skip
    simp [Oper.gives, execOp, Act.eval, go_sem]
    refine callsIn_wide.2 ((HZ.out V hV).mono ?_); rintro e W9 ⟨rfl, rfl⟩; exact ⟨_, rfl, rfl, hV⟩
  simp only [Act.put, List.setIfInBounds_toArray, List.set_cons_succ, List.set_cons_zero]
  iterate 3
    apply SeqC.step
    · rfl
    · intro dn V hV ht hcl
      have ca := fun i => blk_cell (hV.heap h3.dev id) i
      simp [Oper.gives, execOp, Act.eval, go_sem, ca, e0]
      exact ⟨rfl, hV⟩
    simp only [Act.put, List.setIfInBounds_toArray, List.set_cons_succ, List.set_cons_zero]
  apply SeqC.step
  · rfl
  · intro dn V hV ht hcl
    skip
    simp [Oper.gives, execOp, Act.eval, go_sem]
    refine callsIn_wide.2 ((opened_calls hok' (h3.fr0 hV)).mono ?_); rintro e W9 ⟨rfl, rfl⟩; exact ⟨_, rfl, rfl, hV⟩
  simp only [Act.put, List.setIfInBounds_toArray, List.set_cons_succ, List.set_cons_zero]
  iterate 6
    apply SeqC.step
    · rfl
    · intro dn V hV ht hcl
      have ca := fun i => blk_cell (hV.heap h3.dev id) i
      simp [Oper.gives, execOp, Act.eval, go_sem, ca, e0, hop']
      exact ⟨rfl, hV⟩
    simp only [Act.put, List.setIfInBounds_toArray, List.set_cons_succ, List.set_cons_zero]
  refine SeqC.nil fun V hV => ?_
  clear cg ck
  go_wp2
  go_ret2
  exact ⟨rfl, (h3.fr0 hV).quit hok' hF (f3'.trans hV (fun _ _ h => h.elim))⟩
set_option maxRecDepth 100000 in
set_option maxHeartbeats 4000000 in
theorem dev_append_some (hd : DvS F w d X) (hn : X.n < 1000000) (hdn : X.down = false) {k : Nat} (hk : k < X.zs.length) (h0 : X.zs[k].st = 0 → X.opened < X.op) (s : Sec) (r1 r2 : Int) (Z : DS)
    (hz : ∀ V b v, (∀ (hh : ZAt V b v X.zs[k].L X.size X.zs[k].safe X.zs[k].st X.zs[k].fin), Calls Try.prog 74 #[.pointer (some ⟨b, 0, none⟩), .agg (secA s)] V fun e W => e = .returned (.tuple #[.int .i64 r1, .int .i64 r2]) ∧
      ∃ v' z, ZAt W b v' z.L X.size z.safe z.st z.fin ∧ Fr (Zf b v) V W ∧ (∀ k, v'.ownBlock = some k → v.ownBlock = some k ∨ V.heap.size ≤ k) ∧ z.Ok X.size ∧ X.tick.set k z = Z)) : Calls Try.prog 30 #[.pointer (some ⟨d, 0, none⟩), .int .i64 k, .agg (secA s)] w fun e w' => e = .returned (.tuple #[.int .i64 r1, .int .i64 r2]) ∧ DvQ F w d Z w' := by
  have HZZ := Lib.hid hz
  clear hz
  have F0 := (Fr.refl (fun _ => False) w).alloc (.cells (secA s) 35)
  have gr := blk_new w (.cells (secA s) 35)
  obtain ⟨hok, v, zb, zv, hh, hF⟩ := hd
  have hlt : ∀ k, DFoot d v zb zv X.zs.length k → k < w.heap.size := fun k hk => hh.lt hk
  have h := hh.fr0 F0
  have hdl := hlt d (.inl rfl)
  obtain ⟨g, cap, hv, hp⟩ := h.val hok.l1
  have hn1 := hok.l1
  have hn2 := hok.l2
  have hb := beg_ok h hdn hn hk
  have h1 : (k : Int) < (X.zs.length : Int) := by omega
  have h2 : (0 : Int) ≤ (k : Int) := by omega
  subst hv
  go_enter Try.func30, Try.ntmps30
  go_wp2_with fail
  generalize w.alloc (.cells (secA s) 35) = w0 at *
  refine hb.mono ?_
  rintro e w1 ⟨rfl, h3, f3⟩
  have gr1 := f3.heap gr (by omega)
  have f3 : Fr (fun k => k = d) w w1 := (F0.mono (fun _ _ h => h.elim)).trans f3 (fun _ _ h => h)
  have hok' := hok.tick
  have f3' : Fr F w w1 := f3.mono (fun k _ e => hF k (.inl e))
  have cg := fun i => blk_cell h3.dev i
  obtain ⟨g2, cap2, e2, hp2⟩ := h3.val hok'.l1
  have e2' : g = g2 ∧ cap = cap2 := by simp only [Value.slice.injEq, Option.some.injEq, Addr.mk.injEq] at e2; exact ⟨e2.1.1, e2.2.2⟩
  obtain ⟨rfl, rfl⟩ := e2'
  have ck := hp2 k hk
  clear hp hp2 e2
  have h3k := h3.z k hk
  have hzk : ∀ V, Fr (fun _ => False) w1 V → Calls Try.prog 67 #[.pointer (some ⟨zb k, 0, none⟩)] V fun e w' => e = .returned (.int .i64 X.zs[k].st) ∧ w' = V := fun V hV => stateZ (h3k.fr0 hV)
  have HZ := Lib.hid hzk
  clear hzk
  by_cases hs0 : X.zs[k].st = 0
  · have e0 : (X.zs[k].st == 0) = true := by rw [hs0]; rfl
    have hop' : decide (X.tick.op ≤ X.tick.opened) = false := decide_eq_false (by have := h0 hs0; exact Nat.not_le.2 this)
    clear hs0
    go_wp2_with fail
    refine (wpIn_wide (n := 0)).1 ?_
    refine regionIn_seqC (fun _ V => Fr (fun _ => False) w1 V) rfl (by kernel_rfl) (by kernel_rfl) (by kernel_rfl) (fun _ => trivial) rfl ((Fr.refl _ _).drew) ?_
    iterate 7
      apply SeqC.step
      · rfl
      · intro dn V hV ht hcl
        have ca := fun i => blk_cell (hV.heap h3.dev id) i; have cb := hV.cell ck id
        simp [Oper.gives, execOp, Act.eval, go_sem, ca, cb, h1, h2, hk]
        exact ⟨rfl, hV⟩
      simp only [Act.put, List.setIfInBounds_toArray, List.set_cons_succ, List.set_cons_zero]
    apply SeqC.step
    · rfl
    · intro dn V hV ht hcl
      skip
      simp [Oper.gives, execOp, Act.eval, go_sem]
      refine callsIn_wide.2 ((HZ.out V hV).mono ?_); rintro e W9 ⟨rfl, rfl⟩; exact ⟨_, rfl, rfl, hV⟩
    simp only [Act.put, List.setIfInBounds_toArray, List.set_cons_succ, List.set_cons_zero]
    iterate 3
      apply SeqC.step
      · rfl
      · intro dn V hV ht hcl
        have ca := fun i => blk_cell (hV.heap h3.dev id) i
        simp [Oper.gives, execOp, Act.eval, go_sem, ca, e0]
        exact ⟨rfl, hV⟩
      simp only [Act.put, List.setIfInBounds_toArray, List.set_cons_succ, List.set_cons_zero]
    apply SeqC.step
    · rfl
    · intro dn V hV ht hcl
      skip
      simp [Oper.gives, execOp, Act.eval, go_sem]
      refine callsIn_wide.2 ((opened_calls hok' (h3.fr0 hV)).mono ?_); rintro e W9 ⟨rfl, rfl⟩; exact ⟨_, rfl, rfl, hV⟩
    simp only [Act.put, List.setIfInBounds_toArray, List.set_cons_succ, List.set_cons_zero]
    iterate 6
      apply SeqC.step
      · rfl
      · intro dn V hV ht hcl
        have ca := fun i => blk_cell (hV.heap h3.dev id) i
        simp [Oper.gives, execOp, Act.eval, go_sem, ca, e0, hop']
        exact ⟨rfl, hV⟩
      simp only [Act.put, List.setIfInBounds_toArray, List.set_cons_succ, List.set_cons_zero]
    refine SeqC.nil fun w2 hV => ?_
    have h5 := h3.fr0 hV
    have f5 := f3'.trans hV (fun _ _ h => h.elim)
    have gr5 := hV.heap gr1 id
    have ck5 := hV.cell ck id
    clear cg ck gr gr1 HZ h3k
    go_wp2_with fail
    refine (wpIn_wide (n := 0)).1 ?_
    refine regionIn_seqC (Sw 8 (fun V => Fr (fun _ => False) w2 V) (fun V => DvQ F w d Z V)) rfl (by kernel_rfl) (by kernel_rfl) (by kernel_rfl) (fun _ => trivial) rfl (Sw.start (Fr.refl _ _).drew) ?_
    iterate 3
      apply SeqC.step
      · rfl
      · intro dn V hV ht hcl
        skip
        simp [Oper.gives, execOp, Act.eval, go_sem, ]
        exact ⟨rfl, hV.same (by decide)⟩
      simp only [Act.put, List.setIfInBounds_toArray, List.set_cons_succ, List.set_cons_zero]
    apply SeqC.step
    · rfl
    · intro dn V hV ht hcl
      have hf := hV.lo (off_of hcl (j := 8) rfl (by kernel_rfl) (off_of hcl (j := 6) rfl (by kernel_rfl) (off_of hcl (j := 5) rfl (by kernel_rfl) ht.not))); have ca := fun i => blk_cell (hf.heap h5.dev id) i
      simp [Oper.gives, execOp, Act.eval, go_sem, ca]
      exact ⟨rfl, hV.same (by decide)⟩
    simp only [Act.put, List.setIfInBounds_toArray, List.set_cons_succ, List.set_cons_zero]
    iterate 2
      apply SeqC.step
      · rfl
      · intro dn V hV ht hcl
        skip
        simp [Oper.gives, execOp, Act.eval, go_sem, h1, h2, hk]
        exact ⟨rfl, hV.same (by decide)⟩
      simp only [Act.put, List.setIfInBounds_toArray, List.set_cons_succ, List.set_cons_zero]
    apply SeqC.step
    · rfl
    · intro dn V hV ht hcl
      have hf := hV.lo (off_of hcl (j := 8) rfl (by kernel_rfl) ht.not); have cb := hf.cell ck5 id
      simp [Oper.gives, execOp, Act.eval, go_sem, cb]
      exact ⟨rfl, hV.same (by decide)⟩
    simp only [Act.put, List.setIfInBounds_toArray, List.set_cons_succ, List.set_cons_zero]
    apply SeqC.step
    · rfl
    · intro dn V hV ht hcl
      (have hf := hV.lo (off_of hcl (j := 8) rfl (by kernel_rfl) ht.not); exact gives_loadB rfl b35 rfl (blk_range (hf.heap gr5 id)) (secA_size _) ⟨rfl, hV.same (by decide)⟩)
    simp only [Act.put, List.setIfInBounds_toArray, List.set_cons_succ, List.set_cons_zero]
    apply SeqC.step
    · rfl
    · intro dn V hV ht hcl
      have hf := hV.lo ht.not
      have hc := HZZ.out V (zb k) (zv k) ((h5.z k hk).fr0 hf)
      simp [Oper.gives, execOp, Act.eval, go_sem]
      refine callsIn_wide.2 (hc.mono ?_)
      rintro e W9 ⟨rfl, v', z, b1, b2, b3, b4, b5⟩
      refine ⟨_, rfl, rfl, Sw.put ?_⟩
      have hq := (h5.fr0 hf).quitZ hok' hF (f5.trans hf (fun _ _ h => h.elim)) hk (z := z) b1 b2 b3 b4
      rw [b5] at hq
      exact hq
    simp only [Act.put, List.setIfInBounds_toArray, List.set_cons_succ, List.set_cons_zero]
    iterate 4
      apply SeqC.step
      · rfl
      · intro dn V hV ht hcl
        skip
        simp [Oper.gives, execOp, Act.eval, go_sem, ]
        exact ⟨rfl, hV.same (by decide)⟩
      simp only [Act.put, List.setIfInBounds_toArray, List.set_cons_succ, List.set_cons_zero]
    refine SeqC.nil fun w3 hV => ?_
    have hq := hV.hi rfl
    go_wp2
    go_ret2
    exact ⟨rfl, hq⟩
  · have e0 : (X.zs[k].st == 0) = false := by simpa using hs0
    clear hs0
    go_wp2_with fail
    refine (wpIn_wide (n := 0)).1 ?_
    refine regionIn_seqC (fun _ V => Fr (fun _ => False) w1 V) rfl (by kernel_rfl) (by kernel_rfl) (by kernel_rfl) (fun _ => trivial) rfl ((Fr.refl _ _).drew) ?_
    iterate 7
      apply SeqC.step
      · rfl
      · intro dn V hV ht hcl
        have ca := fun i => blk_cell (hV.heap h3.dev id) i; have cb := hV.cell ck id
        simp [Oper.gives, execOp, Act.eval, go_sem, ca, cb, h1, h2, hk]
        exact ⟨rfl, hV⟩
      simp only [Act.put, List.setIfInBounds_toArray, List.set_cons_succ, List.set_cons_zero]
    apply SeqC.step
    · rfl
    · intro dn V hV ht hcl
      skip
      simp [Oper.gives, execOp, Act.eval, go_sem]
      refine callsIn_wide.2 ((HZ.out V hV).mono ?_); rintro e W9 ⟨rfl, rfl⟩; exact ⟨_, rfl, rfl, hV⟩
    simp only [Act.put, List.setIfInBounds_toArray, List.set_cons_succ, List.set_cons_zero]
    iterate 2
      apply SeqC.step
      · rfl
      · intro dn V hV ht hcl
        have ca := fun i => blk_cell (hV.heap h3.dev id) i
        simp [Oper.gives, execOp, Act.eval, go_sem, ca, e0]
        exact ⟨rfl, hV⟩
      simp only [Act.put, List.setIfInBounds_toArray, List.set_cons_succ, List.set_cons_zero]
    iterate 7
      apply SeqC.pass
      · rfl
      · exact fun _ V hV _ _ => hV
      simp only [Act.put, List.setIfInBounds_toArray, List.set_cons_succ, List.set_cons_zero]
    apply SeqC.step
    · rfl
    · intro dn V hV ht hcl
      skip
      simp [Oper.gives, execOp, Act.eval, go_sem, e0]
      exact ⟨rfl, hV⟩
    simp only [Act.put, List.setIfInBounds_toArray, List.set_cons_succ, List.set_cons_zero]
    refine SeqC.nil fun w2 hV => ?_
    have h5 := h3.fr0 hV
    have f5 := f3'.trans hV (fun _ _ h => h.elim)
    have gr5 := hV.heap gr1 id
    have ck5 := hV.cell ck id
    clear cg ck gr gr1 HZ h3k
    go_wp2_with fail
    refine (wpIn_wide (n := 0)).1 ?_
    refine regionIn_seqC (Sw 8 (fun V => Fr (fun _ => False) w2 V) (fun V => DvQ F w d Z V)) rfl (by kernel_rfl) (by kernel_rfl) (by kernel_rfl) (fun _ => trivial) rfl (Sw.start (Fr.refl _ _).drew) ?_
    iterate 3
      apply SeqC.step
      · rfl
      · intro dn V hV ht hcl
        skip
        simp [Oper.gives, execOp, Act.eval, go_sem, ]
        exact ⟨rfl, hV.same (by decide)⟩
      simp only [Act.put, List.setIfInBounds_toArray, List.set_cons_succ, List.set_cons_zero]
    apply SeqC.step
    · rfl
    · intro dn V hV ht hcl
      have hf := hV.lo (off_of hcl (j := 8) rfl (by kernel_rfl) (off_of hcl (j := 6) rfl (by kernel_rfl) (off_of hcl (j := 5) rfl (by kernel_rfl) ht.not))); have ca := fun i => blk_cell (hf.heap h5.dev id) i
      simp [Oper.gives, execOp, Act.eval, go_sem, ca]
      exact ⟨rfl, hV.same (by decide)⟩
    simp only [Act.put, List.setIfInBounds_toArray, List.set_cons_succ, List.set_cons_zero]
    iterate 2
      apply SeqC.step
      · rfl
      · intro dn V hV ht hcl
        skip
        simp [Oper.gives, execOp, Act.eval, go_sem, h1, h2, hk]
        exact ⟨rfl, hV.same (by decide)⟩
      simp only [Act.put, List.setIfInBounds_toArray, List.set_cons_succ, List.set_cons_zero]
    apply SeqC.step
    · rfl
    · intro dn V hV ht hcl
      have hf := hV.lo (off_of hcl (j := 8) rfl (by kernel_rfl) ht.not); have cb := hf.cell ck5 id
      simp [Oper.gives, execOp, Act.eval, go_sem, cb]
      exact ⟨rfl, hV.same (by decide)⟩
    simp only [Act.put, List.setIfInBounds_toArray, List.set_cons_succ, List.set_cons_zero]
    apply SeqC.step
    · rfl
    · intro dn V hV ht hcl
      (have hf := hV.lo (off_of hcl (j := 8) rfl (by kernel_rfl) ht.not); exact gives_loadB rfl b35 rfl (blk_range (hf.heap gr5 id)) (secA_size _) ⟨rfl, hV.same (by decide)⟩)
    simp only [Act.put, List.setIfInBounds_toArray, List.set_cons_succ, List.set_cons_zero]
    apply SeqC.step
    · rfl
    · intro dn V hV ht hcl
      have hf := hV.lo ht.not
      have hc := HZZ.out V (zb k) (zv k) ((h5.z k hk).fr0 hf)
      simp [Oper.gives, execOp, Act.eval, go_sem]
      refine callsIn_wide.2 (hc.mono ?_)
      rintro e W9 ⟨rfl, v', z, b1, b2, b3, b4, b5⟩
      refine ⟨_, rfl, rfl, Sw.put ?_⟩
      have hq := (h5.fr0 hf).quitZ hok' hF (f5.trans hf (fun _ _ h => h.elim)) hk (z := z) b1 b2 b3 b4
      rw [b5] at hq
      exact hq
    simp only [Act.put, List.setIfInBounds_toArray, List.set_cons_succ, List.set_cons_zero]
    iterate 4
      apply SeqC.step
      · rfl
      · intro dn V hV ht hcl
        skip
        simp [Oper.gives, execOp, Act.eval, go_sem, ]
        exact ⟨rfl, hV.same (by decide)⟩
      simp only [Act.put, List.setIfInBounds_toArray, List.set_cons_succ, List.set_cons_zero]
    refine SeqC.nil fun w3 hV => ?_
    have hq := hV.hi rfl
    go_wp2
    go_ret2
    exact ⟨rfl, hq⟩
theorem set_self (X : DS) {k : Nat} (hk : k < X.zs.length) : X.tick.set k X.zs[k] = X.tick := by
  unfold DS.set
  congr 1
  exact List.set_getElem_self hk
theorem dev_append (hd : DvS F w d X) (hn : X.n < 1000000) {x : Int} {s : Sec} (hr : AppR X x s Y a0 e0) : Calls Try.prog 30 #[.pointer (some ⟨d, 0, none⟩), .int .i64 x, .agg (secA s)] w fun e w' => e = .returned (.tuple #[.int .i64 a0, .int .i64 e0]) ∧ DvQ F w d Y w' := by
  have hok := hd.ok
  cases hr with
  | down hdn => exact dev_append_dn hd hdn x s
  | out hdn hx => exact dev_append_out hd hdn hx s
  | many k hk hdn e1 h0 hop => subst e1; exact dev_append_many hd hn hdn hk h0 hop s
  | failed k hk hdn e1 hf =>
    subst e1
    refine dev_append_some hd hn hdn hk (fun h => absurd (failed_of0 h) hf) s _ _ _ ?_
    intro V b v hh
    refine (appendZ_no hh hf s).mono ?_
    rintro e W ⟨rfl, f⟩
    exact ⟨rfl, v, X.zs[k], hh.fr0 f, f.mono (fun _ _ h => h.elim), fun _ h => .inl h, hok.at hk, set_self X hk⟩
  | full k hk hdn e1 h2 =>
    subst e1
    refine dev_append_some hd hn hdn hk (fun h => absurd (h.symm.trans h2) (by decide)) s _ _ _ ?_
    intro V b v hh
    have hh' := hh
    rw [h2] at hh'
    refine (appendZ_full hh' s).mono ?_
    rintro e W ⟨rfl, f⟩
    exact ⟨rfl, v, X.zs[k], hh.fr0 f, f.mono (fun _ _ h => h.elim), fun _ h => .inl h, hok.at hk, set_self X hk⟩
  | ok k hk hdn e1 h0 hf h2 =>
    subst e1
    refine dev_append_some hd hn hdn hk h0 s _ _ _ ?_
    intro V b v hh
    refine (appendZ_room hh hf h2 (by have := (hok.at hk).len; have := hok.s2; omega) s).mono ?_
    rintro e W ⟨v', rfl, b1, b2, b3⟩
    refine ⟨rfl, v', X.zs[k].app X.size s, ?_, b2, b3, (hok.at hk).app s hf h2, rfl⟩
    have e3 : (if ((X.zs[k].L.length : Int) + 1) = (X.size : Int) then (2 : Int) else 1) = (X.zs[k].app X.size s).st := by
      simp only [ZS.app]
      split <;> split <;> first | rfl | omega
    rw [e3] at b1
    exact b1
end
end Go.Proofs.Ytkbagfpoegfcaaa

/- A device: Finish, Fail, Read, Flush, Look, opened. Conditions: a device is small. -/
import Derived.Test.YtkbagfpoegfcaaaD9
namespace Go.Proofs.Ytkbagfpoegfcaaa
open Go.RowKit Go.Conc

section
variable {w w' : World} {d : Nat} {v : Value} {zb : Nat → Nat} {zv : Nat → Value} {X Y : DS} {F : Nat → Prop} {e0 : Int}
theorem dev_finish (hd : DvS F w d X) (hn : X.n < 1000000) {x : Int} (hr : RstR X x ZS.finish Y e0) : Calls Try.prog 39 #[.pointer (some ⟨d, 0, none⟩), .int .i64 x] w fun e w' => e = .returned (.int .i64 e0) ∧ DvQ F w d Y w' := by
  have hd' := hd
  obtain ⟨hok, v, zb, zv, h, hF⟩ := hd
  obtain ⟨g, cap, hv, hp⟩ := h.val hok.l1
  have hn1 := hok.l1
  have hn2 := hok.l2
  cases hr with
  | down hdn =>
    have hb := beg_down h hdn x
    go_enter Try.func39, Try.ntmps39
    go_wp2_with fail
    refine hb.mono ?_
    rintro e w1 ⟨rfl, rfl⟩
    go_wp2
    go_ret
    exact ⟨rfl, DvQ.same hd' (Fr.refl _ _)⟩
  | out hdn hx =>
    have hb := beg_out h hdn hx
    go_enter Try.func39, Try.ntmps39
    go_wp2_with fail
    refine hb.mono ?_
    rintro e w1 ⟨rfl, rfl⟩
    go_wp2
    go_ret
    exact ⟨rfl, DvQ.same hd' (Fr.refl _ _)⟩
  | failed k hk hdn e1 hf =>
    subst e1
    have hb := beg_ok h hdn hn hk
    have h1 : (k : Int) < (X.zs.length : Int) := by omega
    have h2 : (0 : Int) ≤ (k : Int) := by omega
    subst hv
    go_enter Try.func39, Try.ntmps39
    go_wp2_with fail
    refine hb.mono ?_
    rintro e w1 ⟨rfl, h3, f3⟩
    have hok' := hok.tick
    have f3' : Fr F w w1 := f3.mono (fun k _ e => hF k (.inl e))
    have cg := fun i => blk_cell h3.dev i
    obtain ⟨g2, cap2, e2, hp2⟩ := h3.val hok'.l1
    have e2' : g = g2 ∧ cap = cap2 := by simp only [Value.slice.injEq, Option.some.injEq, Addr.mk.injEq] at e2; exact ⟨e2.1.1, e2.2.2⟩
    obtain ⟨rfl, rfl⟩ := e2'
    have ck := hp2 k hk
    clear hp hp2 e2
    have hs := finishZ_no (h3.z k hk) hf
    go_wp2_with fail
    refine hs.mono ?_
    rintro e w2 ⟨rfl, rfl⟩
    go_wp2
    go_ret
    exact ⟨rfl, h3.quit hok' hF f3'⟩
  | ok k hk hdn e1 hf =>
    subst e1
    have hb := beg_ok h hdn hn hk
    have h1 : (k : Int) < (X.zs.length : Int) := by omega
    have h2 : (0 : Int) ≤ (k : Int) := by omega
    subst hv
    go_enter Try.func39, Try.ntmps39
    go_wp2_with fail
    refine hb.mono ?_
    rintro e w1 ⟨rfl, h3, f3⟩
    have hok' := hok.tick
    have f3' : Fr F w w1 := f3.mono (fun k _ e => hF k (.inl e))
    have cg := fun i => blk_cell h3.dev i
    obtain ⟨g2, cap2, e2, hp2⟩ := h3.val hok'.l1
    have e2' : g = g2 ∧ cap = cap2 := by simp only [Value.slice.injEq, Option.some.injEq, Addr.mk.injEq] at e2; exact ⟨e2.1.1, e2.2.2⟩
    obtain ⟨rfl, rfl⟩ := e2'
    have ck := hp2 k hk
    clear hp hp2 e2
    have hs := finishZ_ok (h3.z k hk) hf
    go_wp2_with fail
    refine hs.mono ?_
    rintro e w2 ⟨rfl, h4, f4⟩
    go_wp2
    go_ret
    exact ⟨rfl, h3.quitZ hok' hF f3' hk (z := ZS.finish X.zs[k]) h4 f4 (fun k hk => .inl hk) (hok.at hk).finish⟩
end
/-- What Fail comes to. -/
inductive FailR (X : DS) (i st : Int) : DS → Int → Prop
  | out : (i < 0 ∨ X.zs.length ≤ i) → FailR X i st X 13
  | ok (k : Nat) (hk : k < X.zs.length) : i = k → FailR X i st (X.set k { X.zs[k] with st := failTo X.zs[k].st st }) 0
theorem FailR.total (X : DS) (i st : Int) : ∃ Y e, FailR X i st Y e := by
  by_cases hi : i < 0 ∨ (X.zs.length : Int) ≤ i
  · exact ⟨_, _, .out hi⟩
  · obtain ⟨k, hk, e⟩ := inside hi
    exact ⟨_, _, .ok k hk e⟩
theorem ZS.Ok.fail {s : Nat} {z : ZS} (h : z.Ok s) (x : Int) : ZS.Ok s { z with st := failTo z.st x } := by
  have h0 := h.st0; have h4 := h.st4
  refine ⟨h.len, h.safe, ?_, ?_, fun e => h.lt ?_⟩
  · show 0 ≤ failTo z.st x
    unfold failTo; split <;> omega
  · show failTo z.st x ≤ 4
    unfold failTo; split <;> omega
  · have e' : failTo z.st x < 2 := e
    unfold failTo at e'; split at e' <;> omega
/-- What Read comes to. -/
inductive ReadR (X : DS) (i off : Int) : DS → Sec → Int → Prop
  | down : X.down = true → ReadR X i off X .zero 34
  | out : X.down = false → (i < 0 ∨ X.zs.length ≤ i) → ReadR X i off X .zero 13
  | offline (k : Nat) (hk : k < X.zs.length) : X.down = false → i = k → X.zs[k].st = 4 → ReadR X i off X.tick .zero 32
  | no (k : Nat) (hk : k < X.zs.length) : X.down = false → i = k → X.zs[k].st ≠ 4 → (off < 0 ∨ X.zs[k].L.length ≤ off) → ReadR X i off X.tick .zero 31
  | ok (k : Nat) (hk : k < X.zs.length) (o : Nat) (ho : o < X.zs[k].L.length) : X.down = false → i = k → X.zs[k].st ≠ 4 → off = o → ReadR X i off X.tick X.zs[k].L[o] 0
theorem ReadR.total (X : DS) (i off : Int) : ∃ Y s e, ReadR X i off Y s e := by
  cases hd : X.down with
  | true => exact ⟨_, _, _, .down hd⟩
  | false =>
    by_cases hi : i < 0 ∨ (X.zs.length : Int) ≤ i
    · exact ⟨_, _, _, .out hd hi⟩
    · obtain ⟨k, hk, e⟩ := inside hi
      by_cases h4 : X.zs[k].st = 4
      · exact ⟨_, _, _, .offline k hk hd e h4⟩
      · by_cases ho : off < 0 ∨ (X.zs[k].L.length : Int) ≤ off
        · exact ⟨_, _, _, .no k hk hd e h4 ho⟩
        · obtain ⟨o, ho, e2⟩ := inside ho
          exact ⟨_, _, _, .ok k hk o ho hd e h4 e2⟩
section
variable {w w' : World} {d : Nat} {v : Value} {zb : Nat → Nat} {zv : Nat → Value} {X Y : DS} {F : Nat → Prop} {e0 : Int}
theorem dev_fail (hd : DvS F w d X) {x st : Int} (hr : FailR X x st Y e0) : Calls Try.prog 69 #[.pointer (some ⟨d, 0, none⟩), .int .i64 x, .int .i64 st] w fun e w' => e = .returned (.int .i64 e0) ∧ DvQ F w d Y w' := by
  have hd' := hd
  obtain ⟨hok, v, zb, zv, h, hF⟩ := hd
  obtain ⟨g, cap, hv, hp⟩ := h.val hok.l1
  have hn1 := hok.l1
  have hn2 := hok.l2
  cases hr with
  | out hx =>
    have hb := has_no h hx
    go_enter Try.func69, Try.ntmps69
    go_wp2_with fail
    refine hb.mono ?_
    rintro e w1 ⟨rfl, rfl⟩
    go_wp2
    go_ret
    exact ⟨rfl, DvQ.same hd' (Fr.refl _ _)⟩
  | ok k hk e1 =>
    subst e1 hv
    have hb := has_yes h hk
    have h1 : (k : Int) < (X.zs.length : Int) := by omega
    have h2 : (0 : Int) ≤ (k : Int) := by omega
    have cg := fun i => blk_cell h.dev i
    have ck := hp k hk
    have hs := failZ (h.z k hk) st
    clear hp
    go_enter Try.func69, Try.ntmps69
    go_wp2_with fail
    refine hb.mono ?_
    rintro e w1 ⟨rfl, rfl⟩
    go_wp2_with fail
    refine hs.mono ?_
    rintro e w2 ⟨⟨u, rfl⟩, h4, f4⟩
    go_wp2
    go_ret
    exact ⟨rfl, h.quitZ hok hF (Fr.refl _ _) hk (z := { X.zs[k] with st := failTo X.zs[k].st st }) h4 f4 (fun k hk => .inl hk) ((hok.at hk).fail st)⟩
theorem res36 {tmps : Array Value} {W : World} {g : Nat} {u : Value} {S : Sec} (h1 : tmps.getD 6 undef = .pointer (some ⟨g, 0, none⟩)) (h3 : tmps.getD 7 undef = u) (h2 : W.heap[g]? = some (.cells (secA S) 35 (0, 0))) :
    (results Try.f36 tmps).run Try.prog W = .ok (.tuple #[.agg (secA S), u]) W := by
  rw [← h3]
  exact res_ct rfl h1 (run_loadBw b35 h2 (secA_size _))
theorem readZ_off' {b : Nat} {v : Value} {L : List Sec} {size safe st : Int} {fin : Bool} (h : ZAt w b v L size safe st fin) (h4 : st = 4) (x : Int) : Calls Try.prog 78 #[.pointer (some ⟨b, 0, none⟩), .int .i64 x] w fun e w' => e = .returned (.tuple #[.agg (secA Sec.zero), .int .i64 32]) ∧ Fr (fun _ => False) w w' := by
  subst h4; exact readZ_off h x
set_option maxRecDepth 100000 in
theorem dev_read (hd : DvS F w d X) (hn : X.n < 1000000) {x off : Int} {s : Sec} (hr : ReadR X x off Y s e0) : Calls Try.prog 36 #[.pointer (some ⟨d, 0, none⟩), .int .i64 x, .int .i64 off] w fun e w' => e = .returned (.tuple #[.agg (secA s), .int .i64 e0]) ∧ DvQ F w d Y w' := by
  have hd' := hd
  have F0 := (Fr.refl (fun _ => False) w).alloc (.cells (secA Sec.zero) 35)
  have gr := blk_new w (.cells (secA Sec.zero) 35)
  obtain ⟨hok, v, zb, zv, hh, hF⟩ := hd
  have hlt : ∀ k, DFoot d v zb zv X.zs.length k → k < w.heap.size := fun k hk => hh.lt hk
  have h := hh.fr0 F0
  have hdl := hlt d (.inl rfl)
  obtain ⟨g, cap, hv, hp⟩ := h.val hok.l1
  have hn1 := hok.l1
  have hn2 := hok.l2
  cases hr with
  | down hdn =>
    have hb := beg_down h hdn x
    go_enter Try.func36, Try.ntmps36
    go_wp2_with (first | ((with_reducible refine is_alloc 35 rfl ?_); refine wpList_allocB rfl 35 rfl b35 ?_) | ((with_reducible refine is_alloc 34 rfl ?_); refine wpList_allocB rfl 34 rfl b34 ?_) | ((with_reducible refine is_load 35 rfl ?_); (first | refine wpList_loadBw rfl 35 _ rfl b35 _ _ _ rfl (by assumption) (secA_size _) ?_ | refine wpList_loadB rfl 35 _ rfl b35 _ _ _ rfl (by assumption) (secA_size _) ?_)) | ((with_reducible refine is_load 34 rfl ?_); (first | refine wpList_loadBw rfl 34 _ rfl b34 _ _ _ rfl (by assumption) (secA_size _) ?_ | refine wpList_loadB rfl 34 _ rfl b34 _ _ _ rfl (by assumption) (secA_size _) ?_)) | ((with_reducible refine is_store 35 rfl ?_); refine wpList_storeBw rfl 35 _ _ rfl b35 _ _ _ _ rfl rfl (by assumption) (secA_size _) (secA_bx _) ?_) | ((with_reducible refine is_store 34 rfl ?_); refine wpList_storeBw rfl 34 _ _ rfl b34 _ _ _ _ rfl rfl (by assumption) (secA_size _) (secA_bx _) ?_) | ((with_reducible refine is_build 34 rfl ?_); refine wpList_buildZ34 rfl rfl ?_) | ((with_reducible refine is_build 35 rfl ?_); refine wpList_buildZ35 rfl rfl ?_))
    generalize w.alloc (.cells (secA Sec.zero) 35) = w0 at *
    refine hb.mono ?_
    rintro e w1 ⟨rfl, rfl⟩
    go_wp2_with (first | ((with_reducible refine is_alloc 35 rfl ?_); refine wpList_allocB rfl 35 rfl b35 ?_) | ((with_reducible refine is_alloc 34 rfl ?_); refine wpList_allocB rfl 34 rfl b34 ?_) | ((with_reducible refine is_load 35 rfl ?_); (first | refine wpList_loadBw rfl 35 _ rfl b35 _ _ _ rfl (by assumption) (secA_size _) ?_ | refine wpList_loadB rfl 35 _ rfl b35 _ _ _ rfl (by assumption) (secA_size _) ?_)) | ((with_reducible refine is_load 34 rfl ?_); (first | refine wpList_loadBw rfl 34 _ rfl b34 _ _ _ rfl (by assumption) (secA_size _) ?_ | refine wpList_loadB rfl 34 _ rfl b34 _ _ _ rfl (by assumption) (secA_size _) ?_)) | ((with_reducible refine is_store 35 rfl ?_); refine wpList_storeBw rfl 35 _ _ rfl b35 _ _ _ _ rfl rfl (by assumption) (secA_size _) (secA_bx _) ?_) | ((with_reducible refine is_store 34 rfl ?_); refine wpList_storeBw rfl 34 _ _ rfl b34 _ _ _ _ rfl rfl (by assumption) (secA_size _) (secA_bx _) ?_) | ((with_reducible refine is_build 34 rfl ?_); refine wpList_buildZ34 rfl rfl ?_) | ((with_reducible refine is_build 35 rfl ?_); refine wpList_buildZ35 rfl rfl ?_))
    exact bodyPost_ret (res36 rfl rfl (setRow_blk _ gr)) rfl ⟨rfl, DvQ.same hd' (F0.trans (setRow_fr _ _ _) (fun i hi e => by omega))⟩
  | out hdn hx =>
    have hb := beg_out h hdn hx
    go_enter Try.func36, Try.ntmps36
    go_wp2_with (first | ((with_reducible refine is_alloc 35 rfl ?_); refine wpList_allocB rfl 35 rfl b35 ?_) | ((with_reducible refine is_alloc 34 rfl ?_); refine wpList_allocB rfl 34 rfl b34 ?_) | ((with_reducible refine is_load 35 rfl ?_); (first | refine wpList_loadBw rfl 35 _ rfl b35 _ _ _ rfl (by assumption) (secA_size _) ?_ | refine wpList_loadB rfl 35 _ rfl b35 _ _ _ rfl (by assumption) (secA_size _) ?_)) | ((with_reducible refine is_load 34 rfl ?_); (first | refine wpList_loadBw rfl 34 _ rfl b34 _ _ _ rfl (by assumption) (secA_size _) ?_ | refine wpList_loadB rfl 34 _ rfl b34 _ _ _ rfl (by assumption) (secA_size _) ?_)) | ((with_reducible refine is_store 35 rfl ?_); refine wpList_storeBw rfl 35 _ _ rfl b35 _ _ _ _ rfl rfl (by assumption) (secA_size _) (secA_bx _) ?_) | ((with_reducible refine is_store 34 rfl ?_); refine wpList_storeBw rfl 34 _ _ rfl b34 _ _ _ _ rfl rfl (by assumption) (secA_size _) (secA_bx _) ?_) | ((with_reducible refine is_build 34 rfl ?_); refine wpList_buildZ34 rfl rfl ?_) | ((with_reducible refine is_build 35 rfl ?_); refine wpList_buildZ35 rfl rfl ?_))
    generalize w.alloc (.cells (secA Sec.zero) 35) = w0 at *
    refine hb.mono ?_
    rintro e w1 ⟨rfl, rfl⟩
    go_wp2_with (first | ((with_reducible refine is_alloc 35 rfl ?_); refine wpList_allocB rfl 35 rfl b35 ?_) | ((with_reducible refine is_alloc 34 rfl ?_); refine wpList_allocB rfl 34 rfl b34 ?_) | ((with_reducible refine is_load 35 rfl ?_); (first | refine wpList_loadBw rfl 35 _ rfl b35 _ _ _ rfl (by assumption) (secA_size _) ?_ | refine wpList_loadB rfl 35 _ rfl b35 _ _ _ rfl (by assumption) (secA_size _) ?_)) | ((with_reducible refine is_load 34 rfl ?_); (first | refine wpList_loadBw rfl 34 _ rfl b34 _ _ _ rfl (by assumption) (secA_size _) ?_ | refine wpList_loadB rfl 34 _ rfl b34 _ _ _ rfl (by assumption) (secA_size _) ?_)) | ((with_reducible refine is_store 35 rfl ?_); refine wpList_storeBw rfl 35 _ _ rfl b35 _ _ _ _ rfl rfl (by assumption) (secA_size _) (secA_bx _) ?_) | ((with_reducible refine is_store 34 rfl ?_); refine wpList_storeBw rfl 34 _ _ rfl b34 _ _ _ _ rfl rfl (by assumption) (secA_size _) (secA_bx _) ?_) | ((with_reducible refine is_build 34 rfl ?_); refine wpList_buildZ34 rfl rfl ?_) | ((with_reducible refine is_build 35 rfl ?_); refine wpList_buildZ35 rfl rfl ?_))
    exact bodyPost_ret (res36 rfl rfl (setRow_blk _ gr)) rfl ⟨rfl, DvQ.same hd' (F0.trans (setRow_fr _ _ _) (fun i hi e => by omega))⟩
  | offline k hk hdn e1 h4 =>
    subst e1
    have hb := beg_ok h hdn hn hk
    have h1 : (k : Int) < (X.zs.length : Int) := by omega
    have h2 : (0 : Int) ≤ (k : Int) := by omega
    subst hv
    go_enter Try.func36, Try.ntmps36
    go_wp2_with (first | ((with_reducible refine is_alloc 35 rfl ?_); refine wpList_allocB rfl 35 rfl b35 ?_) | ((with_reducible refine is_alloc 34 rfl ?_); refine wpList_allocB rfl 34 rfl b34 ?_) | ((with_reducible refine is_load 35 rfl ?_); (first | refine wpList_loadBw rfl 35 _ rfl b35 _ _ _ rfl (by assumption) (secA_size _) ?_ | refine wpList_loadB rfl 35 _ rfl b35 _ _ _ rfl (by assumption) (secA_size _) ?_)) | ((with_reducible refine is_load 34 rfl ?_); (first | refine wpList_loadBw rfl 34 _ rfl b34 _ _ _ rfl (by assumption) (secA_size _) ?_ | refine wpList_loadB rfl 34 _ rfl b34 _ _ _ rfl (by assumption) (secA_size _) ?_)) | ((with_reducible refine is_store 35 rfl ?_); refine wpList_storeBw rfl 35 _ _ rfl b35 _ _ _ _ rfl rfl (by assumption) (secA_size _) (secA_bx _) ?_) | ((with_reducible refine is_store 34 rfl ?_); refine wpList_storeBw rfl 34 _ _ rfl b34 _ _ _ _ rfl rfl (by assumption) (secA_size _) (secA_bx _) ?_) | ((with_reducible refine is_build 34 rfl ?_); refine wpList_buildZ34 rfl rfl ?_) | ((with_reducible refine is_build 35 rfl ?_); refine wpList_buildZ35 rfl rfl ?_))
    generalize w.alloc (.cells (secA Sec.zero) 35) = w0 at *
    refine hb.mono ?_
    rintro e w1 ⟨rfl, h3, f3⟩
    have gr1 := f3.heap gr (by omega)
    have f3 : Fr (fun k => k = d) w w1 := (F0.mono (fun _ _ h => h.elim)).trans f3 (fun _ _ h => h)
    have hok' := hok.tick
    have f3' : Fr F w w1 := f3.mono (fun k _ e => hF k (.inl e))
    have cg := fun i => blk_cell h3.dev i
    obtain ⟨g2, cap2, e2, hp2⟩ := h3.val hok'.l1
    have e2' : g = g2 ∧ cap = cap2 := by simp only [Value.slice.injEq, Option.some.injEq, Addr.mk.injEq] at e2; exact ⟨e2.1.1, e2.2.2⟩
    obtain ⟨rfl, rfl⟩ := e2'
    have ck := hp2 k hk
    clear hp hp2 e2
    have hs := readZ_off' (h3.z k hk) h4 off
    go_wp2_with (first | ((with_reducible refine is_alloc 35 rfl ?_); refine wpList_allocB rfl 35 rfl b35 ?_) | ((with_reducible refine is_alloc 34 rfl ?_); refine wpList_allocB rfl 34 rfl b34 ?_) | ((with_reducible refine is_load 35 rfl ?_); (first | refine wpList_loadBw rfl 35 _ rfl b35 _ _ _ rfl (by assumption) (secA_size _) ?_ | refine wpList_loadB rfl 35 _ rfl b35 _ _ _ rfl (by assumption) (secA_size _) ?_)) | ((with_reducible refine is_load 34 rfl ?_); (first | refine wpList_loadBw rfl 34 _ rfl b34 _ _ _ rfl (by assumption) (secA_size _) ?_ | refine wpList_loadB rfl 34 _ rfl b34 _ _ _ rfl (by assumption) (secA_size _) ?_)) | ((with_reducible refine is_store 35 rfl ?_); refine wpList_storeBw rfl 35 _ _ rfl b35 _ _ _ _ rfl rfl (by assumption) (secA_size _) (secA_bx _) ?_) | ((with_reducible refine is_store 34 rfl ?_); refine wpList_storeBw rfl 34 _ _ rfl b34 _ _ _ _ rfl rfl (by assumption) (secA_size _) (secA_bx _) ?_) | ((with_reducible refine is_build 34 rfl ?_); refine wpList_buildZ34 rfl rfl ?_) | ((with_reducible refine is_build 35 rfl ?_); refine wpList_buildZ35 rfl rfl ?_))
    refine hs.mono ?_
    rintro e w2 ⟨rfl, f4⟩
    have gr2 := f4.heap gr1 id
    go_wp2_with (first | ((with_reducible refine is_alloc 35 rfl ?_); refine wpList_allocB rfl 35 rfl b35 ?_) | ((with_reducible refine is_alloc 34 rfl ?_); refine wpList_allocB rfl 34 rfl b34 ?_) | ((with_reducible refine is_load 35 rfl ?_); (first | refine wpList_loadBw rfl 35 _ rfl b35 _ _ _ rfl (by assumption) (secA_size _) ?_ | refine wpList_loadB rfl 35 _ rfl b35 _ _ _ rfl (by assumption) (secA_size _) ?_)) | ((with_reducible refine is_load 34 rfl ?_); (first | refine wpList_loadBw rfl 34 _ rfl b34 _ _ _ rfl (by assumption) (secA_size _) ?_ | refine wpList_loadB rfl 34 _ rfl b34 _ _ _ rfl (by assumption) (secA_size _) ?_)) | ((with_reducible refine is_store 35 rfl ?_); refine wpList_storeBw rfl 35 _ _ rfl b35 _ _ _ _ rfl rfl (by assumption) (secA_size _) (secA_bx _) ?_) | ((with_reducible refine is_store 34 rfl ?_); refine wpList_storeBw rfl 34 _ _ rfl b34 _ _ _ _ rfl rfl (by assumption) (secA_size _) (secA_bx _) ?_) | ((with_reducible refine is_build 34 rfl ?_); refine wpList_buildZ34 rfl rfl ?_) | ((with_reducible refine is_build 35 rfl ?_); refine wpList_buildZ35 rfl rfl ?_))
    exact bodyPost_ret (res36 rfl rfl (setRow_blk _ gr2)) rfl ⟨rfl, ((h3.fr0 f4).fr (setRow_fr _ _ _) (fun k hk e => by have := hlt k hk; omega)).quit hok' hF ((f3'.trans f4 (fun _ _ h => h.elim)).trans (setRow_fr _ _ _) (fun i hi e => by omega))⟩
  | no k hk hdn e1 h4 ho =>
    subst e1
    have hb := beg_ok h hdn hn hk
    have h1 : (k : Int) < (X.zs.length : Int) := by omega
    have h2 : (0 : Int) ≤ (k : Int) := by omega
    subst hv
    go_enter Try.func36, Try.ntmps36
    go_wp2_with (first | ((with_reducible refine is_alloc 35 rfl ?_); refine wpList_allocB rfl 35 rfl b35 ?_) | ((with_reducible refine is_alloc 34 rfl ?_); refine wpList_allocB rfl 34 rfl b34 ?_) | ((with_reducible refine is_load 35 rfl ?_); (first | refine wpList_loadBw rfl 35 _ rfl b35 _ _ _ rfl (by assumption) (secA_size _) ?_ | refine wpList_loadB rfl 35 _ rfl b35 _ _ _ rfl (by assumption) (secA_size _) ?_)) | ((with_reducible refine is_load 34 rfl ?_); (first | refine wpList_loadBw rfl 34 _ rfl b34 _ _ _ rfl (by assumption) (secA_size _) ?_ | refine wpList_loadB rfl 34 _ rfl b34 _ _ _ rfl (by assumption) (secA_size _) ?_)) | ((with_reducible refine is_store 35 rfl ?_); refine wpList_storeBw rfl 35 _ _ rfl b35 _ _ _ _ rfl rfl (by assumption) (secA_size _) (secA_bx _) ?_) | ((with_reducible refine is_store 34 rfl ?_); refine wpList_storeBw rfl 34 _ _ rfl b34 _ _ _ _ rfl rfl (by assumption) (secA_size _) (secA_bx _) ?_) | ((with_reducible refine is_build 34 rfl ?_); refine wpList_buildZ34 rfl rfl ?_) | ((with_reducible refine is_build 35 rfl ?_); refine wpList_buildZ35 rfl rfl ?_))
    generalize w.alloc (.cells (secA Sec.zero) 35) = w0 at *
    refine hb.mono ?_
    rintro e w1 ⟨rfl, h3, f3⟩
    have gr1 := f3.heap gr (by omega)
    have f3 : Fr (fun k => k = d) w w1 := (F0.mono (fun _ _ h => h.elim)).trans f3 (fun _ _ h => h)
    have hok' := hok.tick
    have f3' : Fr F w w1 := f3.mono (fun k _ e => hF k (.inl e))
    have cg := fun i => blk_cell h3.dev i
    obtain ⟨g2, cap2, e2, hp2⟩ := h3.val hok'.l1
    have e2' : g = g2 ∧ cap = cap2 := by simp only [Value.slice.injEq, Option.some.injEq, Addr.mk.injEq] at e2; exact ⟨e2.1.1, e2.2.2⟩
    obtain ⟨rfl, rfl⟩ := e2'
    have ck := hp2 k hk
    clear hp hp2 e2
    have hs := readZ_no (h3.z k hk) h4 off ho
    go_wp2_with (first | ((with_reducible refine is_alloc 35 rfl ?_); refine wpList_allocB rfl 35 rfl b35 ?_) | ((with_reducible refine is_alloc 34 rfl ?_); refine wpList_allocB rfl 34 rfl b34 ?_) | ((with_reducible refine is_load 35 rfl ?_); (first | refine wpList_loadBw rfl 35 _ rfl b35 _ _ _ rfl (by assumption) (secA_size _) ?_ | refine wpList_loadB rfl 35 _ rfl b35 _ _ _ rfl (by assumption) (secA_size _) ?_)) | ((with_reducible refine is_load 34 rfl ?_); (first | refine wpList_loadBw rfl 34 _ rfl b34 _ _ _ rfl (by assumption) (secA_size _) ?_ | refine wpList_loadB rfl 34 _ rfl b34 _ _ _ rfl (by assumption) (secA_size _) ?_)) | ((with_reducible refine is_store 35 rfl ?_); refine wpList_storeBw rfl 35 _ _ rfl b35 _ _ _ _ rfl rfl (by assumption) (secA_size _) (secA_bx _) ?_) | ((with_reducible refine is_store 34 rfl ?_); refine wpList_storeBw rfl 34 _ _ rfl b34 _ _ _ _ rfl rfl (by assumption) (secA_size _) (secA_bx _) ?_) | ((with_reducible refine is_build 34 rfl ?_); refine wpList_buildZ34 rfl rfl ?_) | ((with_reducible refine is_build 35 rfl ?_); refine wpList_buildZ35 rfl rfl ?_))
    refine hs.mono ?_
    rintro e w2 ⟨rfl, f4⟩
    have gr2 := f4.heap gr1 id
    go_wp2_with (first | ((with_reducible refine is_alloc 35 rfl ?_); refine wpList_allocB rfl 35 rfl b35 ?_) | ((with_reducible refine is_alloc 34 rfl ?_); refine wpList_allocB rfl 34 rfl b34 ?_) | ((with_reducible refine is_load 35 rfl ?_); (first | refine wpList_loadBw rfl 35 _ rfl b35 _ _ _ rfl (by assumption) (secA_size _) ?_ | refine wpList_loadB rfl 35 _ rfl b35 _ _ _ rfl (by assumption) (secA_size _) ?_)) | ((with_reducible refine is_load 34 rfl ?_); (first | refine wpList_loadBw rfl 34 _ rfl b34 _ _ _ rfl (by assumption) (secA_size _) ?_ | refine wpList_loadB rfl 34 _ rfl b34 _ _ _ rfl (by assumption) (secA_size _) ?_)) | ((with_reducible refine is_store 35 rfl ?_); refine wpList_storeBw rfl 35 _ _ rfl b35 _ _ _ _ rfl rfl (by assumption) (secA_size _) (secA_bx _) ?_) | ((with_reducible refine is_store 34 rfl ?_); refine wpList_storeBw rfl 34 _ _ rfl b34 _ _ _ _ rfl rfl (by assumption) (secA_size _) (secA_bx _) ?_) | ((with_reducible refine is_build 34 rfl ?_); refine wpList_buildZ34 rfl rfl ?_) | ((with_reducible refine is_build 35 rfl ?_); refine wpList_buildZ35 rfl rfl ?_))
    exact bodyPost_ret (res36 rfl rfl (setRow_blk _ gr2)) rfl ⟨rfl, ((h3.fr0 f4).fr (setRow_fr _ _ _) (fun k hk e => by have := hlt k hk; omega)).quit hok' hF ((f3'.trans f4 (fun _ _ h => h.elim)).trans (setRow_fr _ _ _) (fun i hi e => by omega))⟩
  | ok k hk o ho hdn e1 h4 e2 =>
    subst e2
    subst e1
    have hb := beg_ok h hdn hn hk
    have h1 : (k : Int) < (X.zs.length : Int) := by omega
    have h2 : (0 : Int) ≤ (k : Int) := by omega
    subst hv
    go_enter Try.func36, Try.ntmps36
    go_wp2_with (first | ((with_reducible refine is_alloc 35 rfl ?_); refine wpList_allocB rfl 35 rfl b35 ?_) | ((with_reducible refine is_alloc 34 rfl ?_); refine wpList_allocB rfl 34 rfl b34 ?_) | ((with_reducible refine is_load 35 rfl ?_); (first | refine wpList_loadBw rfl 35 _ rfl b35 _ _ _ rfl (by assumption) (secA_size _) ?_ | refine wpList_loadB rfl 35 _ rfl b35 _ _ _ rfl (by assumption) (secA_size _) ?_)) | ((with_reducible refine is_load 34 rfl ?_); (first | refine wpList_loadBw rfl 34 _ rfl b34 _ _ _ rfl (by assumption) (secA_size _) ?_ | refine wpList_loadB rfl 34 _ rfl b34 _ _ _ rfl (by assumption) (secA_size _) ?_)) | ((with_reducible refine is_store 35 rfl ?_); refine wpList_storeBw rfl 35 _ _ rfl b35 _ _ _ _ rfl rfl (by assumption) (secA_size _) (secA_bx _) ?_) | ((with_reducible refine is_store 34 rfl ?_); refine wpList_storeBw rfl 34 _ _ rfl b34 _ _ _ _ rfl rfl (by assumption) (secA_size _) (secA_bx _) ?_) | ((with_reducible refine is_build 34 rfl ?_); refine wpList_buildZ34 rfl rfl ?_) | ((with_reducible refine is_build 35 rfl ?_); refine wpList_buildZ35 rfl rfl ?_))
    generalize w.alloc (.cells (secA Sec.zero) 35) = w0 at *
    refine hb.mono ?_
    rintro e w1 ⟨rfl, h3, f3⟩
    have gr1 := f3.heap gr (by omega)
    have f3 : Fr (fun k => k = d) w w1 := (F0.mono (fun _ _ h => h.elim)).trans f3 (fun _ _ h => h)
    have hok' := hok.tick
    have f3' : Fr F w w1 := f3.mono (fun k _ e => hF k (.inl e))
    have cg := fun i => blk_cell h3.dev i
    obtain ⟨g2, cap2, e2, hp2⟩ := h3.val hok'.l1
    have e2' : g = g2 ∧ cap = cap2 := by simp only [Value.slice.injEq, Option.some.injEq, Addr.mk.injEq] at e2; exact ⟨e2.1.1, e2.2.2⟩
    obtain ⟨rfl, rfl⟩ := e2'
    have ck := hp2 k hk
    clear hp hp2 e2
    have hs := readZ_at (L := X.zs[k].L) (h3.z k hk) h4 o ho
    go_wp2_with (first | ((with_reducible refine is_alloc 35 rfl ?_); refine wpList_allocB rfl 35 rfl b35 ?_) | ((with_reducible refine is_alloc 34 rfl ?_); refine wpList_allocB rfl 34 rfl b34 ?_) | ((with_reducible refine is_load 35 rfl ?_); (first | refine wpList_loadBw rfl 35 _ rfl b35 _ _ _ rfl (by assumption) (secA_size _) ?_ | refine wpList_loadB rfl 35 _ rfl b35 _ _ _ rfl (by assumption) (secA_size _) ?_)) | ((with_reducible refine is_load 34 rfl ?_); (first | refine wpList_loadBw rfl 34 _ rfl b34 _ _ _ rfl (by assumption) (secA_size _) ?_ | refine wpList_loadB rfl 34 _ rfl b34 _ _ _ rfl (by assumption) (secA_size _) ?_)) | ((with_reducible refine is_store 35 rfl ?_); refine wpList_storeBw rfl 35 _ _ rfl b35 _ _ _ _ rfl rfl (by assumption) (secA_size _) (secA_bx _) ?_) | ((with_reducible refine is_store 34 rfl ?_); refine wpList_storeBw rfl 34 _ _ rfl b34 _ _ _ _ rfl rfl (by assumption) (secA_size _) (secA_bx _) ?_) | ((with_reducible refine is_build 34 rfl ?_); refine wpList_buildZ34 rfl rfl ?_) | ((with_reducible refine is_build 35 rfl ?_); refine wpList_buildZ35 rfl rfl ?_))
    refine hs.mono ?_
    rintro e w2 ⟨rfl, f4⟩
    have gr2 := f4.heap gr1 id
    go_wp2_with (first | ((with_reducible refine is_alloc 35 rfl ?_); refine wpList_allocB rfl 35 rfl b35 ?_) | ((with_reducible refine is_alloc 34 rfl ?_); refine wpList_allocB rfl 34 rfl b34 ?_) | ((with_reducible refine is_load 35 rfl ?_); (first | refine wpList_loadBw rfl 35 _ rfl b35 _ _ _ rfl (by assumption) (secA_size _) ?_ | refine wpList_loadB rfl 35 _ rfl b35 _ _ _ rfl (by assumption) (secA_size _) ?_)) | ((with_reducible refine is_load 34 rfl ?_); (first | refine wpList_loadBw rfl 34 _ rfl b34 _ _ _ rfl (by assumption) (secA_size _) ?_ | refine wpList_loadB rfl 34 _ rfl b34 _ _ _ rfl (by assumption) (secA_size _) ?_)) | ((with_reducible refine is_store 35 rfl ?_); refine wpList_storeBw rfl 35 _ _ rfl b35 _ _ _ _ rfl rfl (by assumption) (secA_size _) (secA_bx _) ?_) | ((with_reducible refine is_store 34 rfl ?_); refine wpList_storeBw rfl 34 _ _ rfl b34 _ _ _ _ rfl rfl (by assumption) (secA_size _) (secA_bx _) ?_) | ((with_reducible refine is_build 34 rfl ?_); refine wpList_buildZ34 rfl rfl ?_) | ((with_reducible refine is_build 35 rfl ?_); refine wpList_buildZ35 rfl rfl ?_))
    exact bodyPost_ret (res36 rfl rfl (setRow_blk _ gr2)) rfl ⟨rfl, ((h3.fr0 f4).fr (setRow_fr _ _ _) (fun k hk e => by have := hlt k hk; omega)).quit hok' hF ((f3'.trans f4 (fun _ _ h => h.elim)).trans (setRow_fr _ _ _) (fun i hi e => by omega))⟩
end
end Go.Proofs.Ytkbagfpoegfcaaa

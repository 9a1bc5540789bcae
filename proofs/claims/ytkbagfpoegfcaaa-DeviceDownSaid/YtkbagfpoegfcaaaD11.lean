/- A device: opened, Flush, Revive, Look. Conditions: a device is small. -/
import Derived.Test.YtkbagfpoegfcaaaD10
namespace Go.Proofs.Ytkbagfpoegfcaaa
open Go.RowKit Go.Conc

/-- The first k elements turned. -/
def preMap {α : Type} (f : Nat → α → α) (k : Nat) (l : List α) : List α := l.mapIdx fun i x => if i < k then f i x else x
section
variable {α : Type} {f : Nat → α → α} {l : List α} {k : Nat}
theorem preMap_len : (preMap f k l).length = l.length := by simp [preMap]
theorem preMap_zero : preMap f 0 l = l := by
  apply List.ext_getElem
  · exact preMap_len
  · intro i h1 h2; simp [preMap]
theorem preMap_all : preMap f l.length l = l.mapIdx f := by
  apply List.ext_getElem
  · rw [preMap_len]; simp
  · intro i h1 h2
    have : i < l.length := by simpa [preMap] using h1
    simp [preMap, this]
theorem preMap_get {i : Nat} (h : i < l.length) (hk : k ≤ i) : (preMap f k l)[i]'(by rw [preMap_len]; exact h) = l[i] := by
  simp [preMap]; omega
theorem preMap_succ (h : k < l.length) : preMap f (k + 1) l = (preMap f k l).set k (f k l[k]) := by
  apply List.ext_getElem
  · simp [preMap]
  · intro i h1 h2
    rw [List.getElem_set]
    simp only [preMap, List.getElem_mapIdx]
    by_cases e : k = i
    · subst e; simp
    · rw [if_neg e]
      by_cases hl : i < k
      · rw [if_pos hl, if_pos (by omega)]
      · rw [if_neg hl, if_neg (by omega)]
theorem preMap_mem {P : α → Prop} (hl : ∀ x ∈ l, P x) (hf : ∀ i x, P x → P (f i x)) : ∀ x ∈ preMap f k l, P x := by
  intro x hx
  unfold preMap at hx
  obtain ⟨i, hi, rfl⟩ := List.mem_mapIdx.1 hx
  split
  · exact hf _ _ (hl _ (List.getElem_mem hi))
  · exact hl _ (List.getElem_mem hi)
end
def ZS.flush (z : ZS) : ZS := { z with safe := z.L.length }
def ZS.crash (size : Nat) (keep : Int) (z : ZS) : ZS := ⟨z.L.take (crashN z.safe z.L.length keep), crashN z.safe z.L.length keep, crashSt z.st (crashN z.safe z.L.length keep) size z.fin, z.fin⟩
theorem ZS.Ok.flush {s : Nat} {z : ZS} (h : z.Ok s) : z.flush.Ok s := ⟨h.len, Nat.le_refl _, h.st0, h.st4, h.lt⟩
theorem crashN_le {safe n : Nat} {x : Int} (h : safe ≤ n) : crashN safe n x ≤ n := by unfold crashN; omega
theorem ZS.Ok.crash {s : Nat} {z : ZS} (h : z.Ok s) (hs : 1 ≤ s) (keep : Int) : (z.crash s keep).Ok s := by
  have h1 := crashN_le (x := keep) h.safe
  have h2 := h.len
  have e : (z.L.take (crashN z.safe z.L.length keep)).length = crashN z.safe z.L.length keep := by rw [List.length_take]; omega
  have h0 := h.st0; have h4 := h.st4
  refine ⟨?_, ?_, ?_, ?_, fun hlt => ?_⟩
  · show (z.L.take _).length ≤ s; omega
  · show crashN z.safe z.L.length keep ≤ (z.L.take _).length; omega
  · show 0 ≤ crashSt z.st _ s z.fin
    unfold crashSt; split <;> (try split) <;> (try split) <;> omega
  · show crashSt z.st _ s z.fin ≤ 4
    unfold crashSt; split <;> (try split) <;> (try split) <;> omega
  · have hlt' : crashSt z.st (crashN z.safe z.L.length keep) s z.fin < 2 := hlt
    show (z.L.take _).length < s
    unfold crashSt at hlt'
    split at hlt'
    · omega
    · split at hlt'
      · omega
      · rename_i hq; have : ¬ crashN z.safe z.L.length keep = s := fun e => hq (.inr e)
        omega
def DS.flush (X : DS) : DS := { X.tick with zs := X.zs.map ZS.flush }
def DS.revive (X : DS) (keep : List Int) : DS := { X with zs := X.zs.mapIdx (fun i z => z.crash X.size (keep.getD i 0)), down := false }
/-- What Flush comes to. -/
inductive FlushR (X : DS) : DS → Int → Prop
  | down : X.down = true → FlushR X X 34
  | ok : X.down = false → FlushR X X.flush 0
theorem FlushR.total (X : DS) : ∃ Y e, FlushR X Y e := by
  cases hd : X.down with
  | true => exact ⟨_, _, .down hd⟩
  | false => exact ⟨_, _, .ok hd⟩
/-- What Revive comes to. -/
inductive RevR (X : DS) (keep : List Int) : DS → Prop
  | up : X.down = false → RevR X keep X
  | ok : X.down = true → RevR X keep (X.revive keep)
theorem RevR.total (X : DS) (keep : List Int) : ∃ Y, RevR X keep Y := by
  cases hd : X.down with
  | true => exact ⟨_, .ok hd⟩
  | false => exact ⟨_, .up hd⟩
section
variable {w w' : World} {d : Nat} {v : Value} {zb : Nat → Nat} {zv : Nat → Value} {X Y : DS} {F : Nat → Prop} {e0 : Int}
theorem opened_calls (hok : X.Ok) (h : DvAt w d v zb zv X) : Calls Try.prog 73 #[.pointer (some ⟨d, 0, none⟩)] w fun e w' => e = .returned (.int .i64 X.opened) ∧ w' = w := by
  obtain ⟨g, cap, rfl, hp⟩ := h.val hok.l1
  have hn1 := hok.l1
  have hn2 := hok.l2
  have cg := fun i => blk_cell h.dev i
  have HP := Lib.hid hp
  have hle : ∀ k, ((X.zs.take k).countP fun z => z.st == 1) ≤ 512 := fun k => Nat.le_trans List.countP_le_length (by rw [List.length_take]; omega)
  have HL := Lib.hid hle
  clear hp hle
  have e0 : X.opened = (X.zs.take X.zs.length).countP fun z => z.st == 1 := by rw [List.take_length]; rfl
  have E0 := Lib.hid e0
  clear e0
  go_enter Try.func73, Try.ntmps73
  go_wp2
  go_loopw [3, 5, 11] (fun c _ i W => ∃ k : Nat, k ≤ X.zs.length ∧ i = .int .i64 k ∧ c = .int .i64 ((X.zs.take k).countP fun z => z.st == 1 : Nat) ∧ W = w) (fun _ _ i _ => X.zs.length - (intOf i).toNat)
  case atStart => exact ⟨0, by omega, rfl, by simp, rfl⟩
  case round =>
    obtain ⟨k, hk, rfl, rfl, rfl⟩ := hrel
    clear cg
    by_cases hlt : k < X.zs.length
    · have ck := HP.out k hlt
      have h1 : (k : Int) < (X.zs.length : Int) := by omega
      have h2 : (0 : Int) ≤ (k : Int) := by omega
      have hs := stateZ (h.z k hlt)
      have hsucc : (X.zs.take (k + 1)).countP (fun z => z.st == 1) = (X.zs.take k).countP (fun z => z.st == 1) + if X.zs[k].st == 1 then 1 else 0 := by
        rw [List.take_succ_eq_append_getElem hlt, List.countP_append, List.countP_singleton]
      have HS := Lib.hid hsucc
      have hle := HL.out k
      clear hsucc
      generalize (X.zs.take k).countP (fun z => z.st == 1) = c at *
      generalize X.zs[k].st = st at *
      go_wp2_with fail
      refine hs.mono ?_
      rintro e w1 ⟨rfl, rfl⟩
      cases hb : (st == 1) with
      | true =>
        rw [hb, if_pos rfl] at HS
        go_wp2_with fail
        go_roundw
        case rel => exact ⟨k + 1, by omega, by go_num, by rw [HS.out]; go_num, trivial⟩
        case measure => simp [intOf]; omega
      | false =>
        rw [hb, if_neg (by decide)] at HS
        go_wp2_with fail
        go_roundw
        case rel => exact ⟨k + 1, by omega, by go_num, by rw [HS.out]; go_num, trivial⟩
        case measure => simp [intOf]; omega
    · obtain rfl : k = X.zs.length := by omega
      go_wp2_with fail
      go_ret
      exact ⟨by rw [E0.out]; rfl, rfl⟩
theorem dev_look (hd : DvS F w d X) {k : Nat} (hk : k < X.zs.length) : Calls Try.prog 18 #[.pointer (some ⟨d, 0, none⟩), .int .i64 k] w fun e w' =>
    e = .returned (.func (.func 102) #[] #[.pointer (some ⟨w.heap.size, 0, none⟩)]) ∧ ∃ v, w' = w.alloc (.cells #[v] 46) ∧ w.ownsRow 0 35 64 v X.zs[k].L.length (secs X.zs[k].L) ∧ ∀ j, v.ownBlock = some j → F j := by
  obtain ⟨hok, v, zb, zv, h, hF⟩ := hd
  obtain ⟨g, cap, hv, hp⟩ := h.val hok.l1
  have hn1 := hok.l1
  have hn2 := hok.l2
  subst hv
  have cg := fun i => blk_cell h.dev i
  have ck := hp k hk
  have hs := allZ (h.z k hk)
  have hy := has_yes h hk
  clear hp
  have h1 : (k : Int) < (X.zs.length : Int) := by omega
  have h2 : (0 : Int) ≤ (k : Int) := by omega
  go_enter Try.func18, Try.ntmps18
  go_wp2_with fail
  refine hy.mono ?_
  rintro e w1 ⟨rfl, rfl⟩
  go_wp2_with fail
  refine hs.mono ?_
  rintro e w2 ⟨rfl, rfl⟩
  go_wp2
  go_ret
  exact ⟨rfl, zv k, rfl, (h.z k hk).row, fun j hj => hF j (.inr (.inr ⟨k, hk, .inr hj⟩))⟩
theorem dev_look_no (hd : DvS F w d X) {x : Int} (hx : x < 0 ∨ X.zs.length ≤ x) : Calls Try.prog 18 #[.pointer (some ⟨d, 0, none⟩), .int .i64 x] w fun e w' => e = .returned (.func (.func 62) #[] #[]) ∧ w' = w := by
  obtain ⟨hok, v, zb, zv, h, hF⟩ := hd
  obtain ⟨g, cap, hv, hp⟩ := h.val hok.l1
  have hn1 := hok.l1
  have hn2 := hok.l2
  have hy := has_no h hx
  go_enter Try.func18, Try.ntmps18
  go_wp2_with fail
  refine hy.mono ?_
  rintro e w1 ⟨rfl, rfl⟩
  go_wp2
  go_ret
  exact ⟨rfl, rfl⟩
/-- A device in the midst of a loop over its zones. -/
def Mid (F : Nat → Prop) (w : World) (d : Nat) (v : Value) (zb : Nat → Nat) (X Y : DS) (W : World) : Prop :=
  ∃ zv, DvAt W d v zb zv Y ∧ (∀ k, DFoot d v zb zv X.zs.length k → F k ∨ w.heap.size ≤ k) ∧ Fr F w W
theorem Mid.quit {Z : DS} (hm : Mid F w d v zb X Y w') (hl : Y.zs.length = X.zs.length) (hok : Y.Ok) (he : Y = Z) : DvQ F w d Z w' := by
  subst he
  obtain ⟨zv, h1, h2, h3⟩ := hm
  exact ⟨⟨hok, _, _, _, h1, fun k hk => h2 k (by rw [hl] at hk; exact hk)⟩, h3⟩
theorem Mid.zone {Y' : DS} (hm : Mid F w d v zb X Y w') {zv : Nat → Value} (h1 : DvAt w' d v zb zv Y) (h2 : ∀ k, DFoot d v zb zv X.zs.length k → F k ∨ w.heap.size ≤ k) (h3 : Fr F w w') (hl : Y.zs.length = X.zs.length) {i : Nat} (hi : i < Y.zs.length) {w2 : World} {v' : Value} {z : ZS} (hz : ZAt w2 (zb i) v' z.L Y.size z.safe z.st z.fin) (hf : Fr (Zf (zb i) (zv i)) w' w2) (hv : ∀ k, v'.ownBlock = some k → (zv i).ownBlock = some k ∨ w'.heap.size ≤ k) (he : Y.set i z = Y') : Mid F w d v zb X Y' w2 := by
  subst he
  obtain ⟨h4, h5⟩ := h1.zone hi hz hf hv
  have hl2 : (Y.set i z).zs.length = X.zs.length := by simp [DS.set, hl]
  refine ⟨_, h4, fun k hk => ?_, h3.trans hf (fun k hk hz => ?_)⟩
  · rw [← hl2] at hk
    rcases h5 k hk with h6 | h6
    · rw [hl] at h6; exact h2 k h6
    · exact .inr (by have := h3.size; omega)
  · rcases h2 k (by rw [← hl]; exact .inr (.inr ⟨i, hi, hz⟩)) with h | h
    · exact h
    · omega
set_option maxHeartbeats 1000000 in
theorem dev_flush (hd : DvS F w d X) (hn : X.n < 1000000) (hr : FlushR X Y e0) : Calls Try.prog 28 #[.pointer (some ⟨d, 0, none⟩)] w fun e w' => e = .returned (.int .i64 e0) ∧ DvQ F w d Y w' := by
  have hd' := hd
  obtain ⟨hok, v, zb, zv, h, hF⟩ := hd
  obtain ⟨g, cap, hv, hp⟩ := h.val hok.l1
  have hn1 := hok.l1
  have hn2 := hok.l2
  cases hr with
  | down hdn =>
    have cg := fun i => blk_cell h.dev i
    rw [hdn] at cg
    go_enter Try.func28, Try.ntmps28
    go_wp2
    go_ret
    exact ⟨rfl, DvQ.same hd' (Fr.refl _ _)⟩
  | ok hdn =>
    subst hv
    have cg := fun i => blk_cell h.dev i
    have fg := fun i => blk_frozen h.dev i
    rw [hdn] at cg
    have h3 : DvAt (w.setCell ⟨d, 3, none⟩ (.int .i64 ((X.n : Int) + 1))) d (.slice (some ⟨g, 0, none⟩) X.zs.length cap) zb zv X.tick := h.put3 (X.n + 1)
    have cg3 := fun i => blk_cell h3.dev i
    have f3 := Fr.set1 w d 3 (.int .i64 ((X.n : Int) + 1))
    have hm0 : Mid F w d (.slice (some ⟨g, 0, none⟩) X.zs.length cap) zb X { X.tick with zs := preMap (fun _ => ZS.flush) 0 X.zs } (w.setCell ⟨d, 3, none⟩ (.int .i64 ((X.n : Int) + 1))) := by
      rw [preMap_zero]
      exact ⟨zv, h3, fun k hk => .inl (hF k hk), f3.mono (fun k _ e => hF k (.inl e))⟩
    have HM := Lib.hid hm0
    clear hm0 hp
    go_enter Try.func28, Try.ntmps28
    go_wp2
    clear cg cg3 fg
    generalize w.setCell ⟨d, 3, none⟩ (.int .i64 ((X.n : Int) + 1)) = w1 at *
    go_loopw [4, 21] (fun _ i W => ∃ k : Nat, k ≤ X.zs.length ∧ i = .int .i64 k ∧ Mid F w d (.slice (some ⟨g, 0, none⟩) X.zs.length cap) zb X { X.tick with zs := preMap (fun _ => ZS.flush) k X.zs } W) (fun _ i _ => X.zs.length - (intOf i).toNat)
    case atStart => exact ⟨0, by omega, rfl, HM.out⟩
    case round =>
      obtain ⟨k, hk, rfl, hm⟩ := hrel
      by_cases hlt : k < X.zs.length
      · obtain ⟨zv', a1, a2, a3⟩ := id hm
        have hl : (preMap (fun _ => ZS.flush) k X.zs).length = X.zs.length := preMap_len
        have hi : k < ({ X.tick with zs := preMap (fun _ => ZS.flush) k X.zs } : DS).zs.length := by rw [hl]; exact hlt
        obtain ⟨g', cap', e', hp'⟩ := a1.val (by rw [hl]; omega)
        have e2' : g = g' := by simp only [Value.slice.injEq, Option.some.injEq, Addr.mk.injEq] at e'; exact e'.1.1
        subst e2'
        have ck := hp' k hi
        have h1 : (k : Int) < (X.zs.length : Int) := by omega
        have h2 : (0 : Int) ≤ (k : Int) := by omega
        have hs := flushZ (a1.z k hi)
        have hM := Lib.hid (And.intro hm (And.intro a1 (And.intro a2 (And.intro a3 hl))))
        clear hm a1 a2 a3 hl hp' e'
        go_wp2_with fail
        refine hs.mono ?_
        rintro e w2 ⟨⟨u, rfl⟩, h4, f4⟩
        obtain ⟨hm, a1, a2, a3, hl⟩ := hM.out
        have hm2 := hm.zone (Y' := { X.tick with zs := preMap (fun _ => ZS.flush) (k + 1) X.zs }) a1 a2 a3 hl hi (z := ZS.flush X.zs[k]) (by rw [preMap_get hlt (Nat.le_refl _)] at h4; exact h4) f4 (fun _ hk => .inl hk) (by
          rw [preMap_succ hlt]; rfl)
        have HM2 := Lib.hid hm2
        clear hm a1 a2 a3 hl hm2 h4 f4 hM
        go_wp2_with fail
        go_roundw
        case rel => exact ⟨k + 1, by omega, by go_num, HM2.out⟩
        case measure => simp [intOf]; omega
      · obtain rfl : k = X.zs.length := by omega
        have HQ := Lib.hid (hm.quit (Z := X.flush) preMap_len ⟨hok.s1, hok.s2, hok.o1, hok.o2, by rw [preMap_len]; exact hok.l1, by rw [preMap_len]; exact hok.l2, preMap_mem hok.z (fun _ _ h => h.flush)⟩ (by
          have e : X.zs.mapIdx (fun _ => ZS.flush) = X.zs.map ZS.flush := by
            apply List.ext_getElem
            · simp
            · intro i h1 h2; simp
          rw [preMap_all, e]; rfl))
        clear hm
        go_wp2_with fail
        go_ret
        exact ⟨rfl, HQ.out⟩
def ints (L : List Int) : List Value := L.map (.int .i64)
theorem ints_len (L : List Int) : (ints L).length = L.length := by simp [ints]
theorem RdAt.int {D : Nat → Prop} {L : List Int} (h : RdAt D w v L.length (ints L)) : ∃ a cap, v = .slice a L.length cap ∧ ∀ i (h : i < L.length), ∃ g o, a = some ⟨g, o, none⟩ ∧ w.cell? ⟨g, o + i, none⟩ = some (.int .i64 L[i]) := by
  obtain ⟨a, cap, e, h1, h2, h3⟩ := h
  refine ⟨a, cap, e, fun i hi => ?_⟩
  obtain ⟨g, o, e1, -, hr⟩ := h3 (by intro e; have := ints_len L; rw [e] at this; simp at this; omega)
  exact ⟨g, o, e1, hr i _ (by simp [ints, hi])⟩
set_option maxHeartbeats 2000000 in
theorem dev_revive (hd : DvS F w d X) {kv : Value} {keep : List Int} {D : Nat → Prop} (hkv : RdAt D w kv keep.length (ints keep)) (hD : ∀ k, D k → ¬ F k) (hkl : keep.length ≤ 9223372036854775807) (hr : RevR X keep Y) : Calls Try.prog 32 #[.pointer (some ⟨d, 0, none⟩), kv] w fun e w' => (∃ u, e = .returned u) ∧ DvQ F w d Y w' := by
  have hd' := hd
  obtain ⟨hok, v, zb, zv, h, hF⟩ := hd
  obtain ⟨g, cap, hv, hp⟩ := h.val hok.l1
  have hn1 := hok.l1
  have hn2 := hok.l2
  cases hr with
  | up hdn =>
    have cg := fun i => blk_cell h.dev i
    rw [hdn] at cg
    go_enter Try.func32, Try.ntmps32
    go_wp2
    exact bodyPost_ret (results_none rfl _ _ _) rfl ⟨⟨_, rfl⟩, DvQ.same hd' (Fr.refl _ _)⟩
  | ok hdn =>
    subst hv
    have cg := fun i => blk_cell h.dev i
    rw [hdn] at cg
    have hm0 : Mid F w d (.slice (some ⟨g, 0, none⟩) X.zs.length cap) zb X { X with zs := preMap (fun i z => z.crash X.size (keep.getD i 0)) 0 X.zs } w := by
      rw [preMap_zero]
      exact ⟨zv, h, fun k hk => .inl (hF k hk), Fr.refl _ _⟩
    have HM := Lib.hid hm0
    obtain ⟨ka, kc, rfl, hki⟩ := hkv.int
    have HKI := Lib.hid hki
    have HKV := Lib.hid hkv
    clear hm0 hp hki hkv
    go_enter Try.func32, Try.ntmps32
    go_wp2
    clear cg
    go_loopw [4, 5, 6, 17] (fun _ _ _ i W => ∃ k : Nat, k ≤ X.zs.length ∧ i = .int .i64 k ∧ Mid F w d (.slice (some ⟨g, 0, none⟩) X.zs.length cap) zb X { X with zs := preMap (fun i z => z.crash X.size (keep.getD i 0)) k X.zs } W) (fun _ _ _ i _ => X.zs.length - (intOf i).toNat)
    case atStart => exact ⟨0, by omega, rfl, HM.out⟩
    case round =>
      obtain ⟨k, hk, rfl, hm⟩ := hrel
      by_cases hlt : k < X.zs.length
      · obtain ⟨zv', a1, a2, a3⟩ := id hm
        have hl : (preMap (fun i z => z.crash X.size (keep.getD i 0)) k X.zs).length = X.zs.length := preMap_len
        have hi : k < ({ X with zs := preMap (fun i z => z.crash X.size (keep.getD i 0)) k X.zs } : DS).zs.length := by rw [hl]; exact hlt
        obtain ⟨g', cap', e', hp'⟩ := a1.val (by rw [hl]; omega)
        have e2' : g = g' := by simp only [Value.slice.injEq, Option.some.injEq, Addr.mk.injEq] at e'; exact e'.1.1
        subst e2'
        have ck := hp' k hi
        have h1 : (k : Int) < (X.zs.length : Int) := by omega
        have h2 : (0 : Int) ≤ (k : Int) := by omega
        have hz := a1.z k hi
        rw [preMap_get hlt (Nat.le_refl _)] at hz
        have ho := hok.at hlt
        have hs := crashZ hz ho.safe (by have := ho.len; have := hok.s2; omega) (keep.getD k 0) _ rfl
        have hkr := HKV.out.fr a3 hD
        obtain ⟨ka', kc', e5, hki⟩ := hkr.int
        cases e5
        have hM := Lib.hid (And.intro hm (And.intro a1 (And.intro a2 (And.intro a3 hl))))
        have hend : ∀ w2 v', ZAt w2 (zb k) v' (X.zs[k].crash X.size (keep.getD k 0)).L X.size (X.zs[k].crash X.size (keep.getD k 0)).safe (X.zs[k].crash X.size (keep.getD k 0)).st X.zs[k].fin → Fr (Zf (zb k) (zv' k)) wr w2 → (∀ j, v'.ownBlock = some j → (zv' k).ownBlock = some j ∨ wr.heap.size ≤ j) →
            Mid F w d (.slice (some ⟨g, 0, none⟩) X.zs.length cap) zb X { X with zs := preMap (fun i z => z.crash X.size (keep.getD i 0)) (k + 1) X.zs } w2 := by
          intro w2 v' h4 f4 h5
          refine hm.zone (Y' := { X with zs := preMap (fun i z => z.crash X.size (keep.getD i 0)) (k + 1) X.zs }) a1 a2 a3 hl hi (z := X.zs[k].crash X.size (keep.getD k 0)) h4 f4 h5 (by rw [preMap_succ hlt]; rfl)
        have HE := Lib.hid hend
        clear hm a1 a2 a3 hl hp' e' hend hz ho hkr
        by_cases hkk : k < keep.length
        · obtain ⟨kg, ko, rfl, hkc⟩ := hki k hkk
          have h6 : (k : Int) < (keep.length : Int) := by omega
          have e6 : keep.getD k 0 = keep[k] := by simp [List.getD, hkk]
          rw [e6] at hs HE
          clear hki e6
          go_wp2_with fail
          refine hs.mono ?_
          rintro e w2 ⟨⟨u, rfl⟩, v', h4, f4, h5⟩
          have HM2 := Lib.hid (HE.out w2 v' h4 f4 h5)
          clear h4 f4 h5 hM HE
          go_wp2_with fail
          go_roundw
          case rel => exact ⟨k + 1, by omega, by go_num, HM2.out⟩
          case measure => simp [intOf]; omega
        · have h6 : ¬ (k : Int) < (keep.length : Int) := by omega
          have e6 : keep.getD k 0 = 0 := by simp [List.getD, hkk]
          rw [e6] at hs HE
          clear hki e6
          go_wp2_with fail
          refine hs.mono ?_
          rintro e w2 ⟨⟨u, rfl⟩, v', h4, f4, h5⟩
          have HM2 := Lib.hid (HE.out w2 v' h4 f4 h5)
          clear h4 f4 h5 hM HE
          go_wp2_with fail
          go_roundw
          case rel => exact ⟨k + 1, by omega, by go_num, HM2.out⟩
          case measure => simp [intOf]; omega
      · obtain rfl : k = X.zs.length := by omega
        rw [preMap_all] at hm
        have hl : (X.zs.mapIdx fun i z => z.crash X.size (keep.getD i 0)).length = X.zs.length := by simp
        have hq := fun (W : World) (hW : Mid F w d (.slice (some ⟨g, 0, none⟩) X.zs.length cap) zb X (X.revive keep) W) => hW.quit (Z := X.revive keep) hl ⟨hok.s1, hok.s2, hok.o1, hok.o2, by simp [DS.revive]; have := hok.l1; omega, by simp [DS.revive]; have := hok.l2; omega, by
          intro z hz
          obtain ⟨i, hi, rfl⟩ := List.mem_mapIdx.1 hz
          exact (hok.at hi).crash hok.s1 _⟩ rfl
        obtain ⟨zv', a1, a2, a3⟩ := hm
        have cg := fun i => blk_cell a1.dev i
        have fg := fun i => blk_frozen a1.dev i
        have a4 := a1.put4 false
        have HQ := Lib.hid (hq _ ⟨zv', a4, a2, a3.trans (Fr.set1 wr d 4 (.bool false)) (fun k _ e => hF k (.inl e))⟩)
        clear a1 a2 a3 a4 hq
        go_wp2_with fail
        go_end0
        exact ⟨⟨_, rfl⟩, HQ.out⟩
end
end Go.Proofs.Ytkbagfpoegfcaaa

/- The document's device: opened, Reset. Conditions: a device is small. -/
import Derived.Test.YtkbagfpoegfcaaaD14
namespace Go.Proofs.Ytkbagfpoegfcaaa
open Go.RowKit Go.Conc

section
variable {w w' : World} {D S : Nat → Prop} {v s : Value} {X Y : DS} {ps : List (Value × ZS)} {e0 : Int}
theorem RfS.sharp (h : RfS D w v X) : RfS (fun k => D k ∧ k < w.heap.size) w v X := h.mono (fun _ h1 h2 => ⟨h1, h2⟩)
/-- A zone's four cells. -/
theorem RdZ.cells (h : RdZ D w s ps) {i : Nat} (hi : i < ps.length) : ∃ g o cap, s = .slice (some ⟨g, o, none⟩) ps.length cap ∧ D g ∧ w.rangeAt g (o + i * 4) (zrow ps[i]) ∧
    w.cell? ⟨g, o + i * 4, none⟩ = some ps[i].1 ∧ w.cell? ⟨g, o + i * 4 + 1, none⟩ = some (.int .i64 ps[i].2.safe) ∧ w.cell? ⟨g, o + i * 4 + 2, none⟩ = some (.int .i64 ps[i].2.st) ∧ w.cell? ⟨g, o + i * 4 + 3, none⟩ = some (.bool ps[i].2.fin) := by
  obtain ⟨g, o, cap, e, hD, hr⟩ := h.at hi
  exact ⟨g, o, cap, e, hD, hr, hr 0 _ rfl, hr 1 _ rfl, hr 2 _ rfl, hr 3 _ rfl⟩
theorem ropened (h : RfS D w v X) (hok : X.Ok) : Calls Try.prog 87 #[v] w fun e w' => e = .returned (.int .i64 X.opened) ∧ Fr (fun _ => False) w w' := by
  obtain ⟨s, ps, rfl, e, hz⟩ := h
  have hl := hz.len e
  have hn1 := hok.l1
  have hn2 := hok.l2
  obtain ⟨g, o, cap, rfl, hD, -⟩ := hz.at (i := 0) (by omega)
  have F1 := (Fr.refl (fun _ => False) w).alloc (.cells #[.slice (some ⟨g, o, none⟩) ps.length cap, .int .i64 X.size, .int .i64 X.op, .int .i64 X.n, .bool X.down] 27)
  have g0 := blk_new w (.cells #[.slice (some ⟨g, o, none⟩) ps.length cap, .int .i64 X.size, .int .i64 X.op, .int .i64 X.n, .bool X.down] 27)
  have hz1 := hz.fr0 F1
  have c0 := fun i => blk_cell g0 i
  have hle : ∀ k, ((X.zs.take k).countP fun z => z.st == 1) ≤ 512 := fun k => Nat.le_trans List.countP_le_length (by rw [List.length_take]; omega)
  have HL := Lib.hid hle
  have e0 : X.opened = (X.zs.take ps.length).countP fun z => z.st == 1 := by rw [hl, List.take_length]; rfl
  have E0 := Lib.hid e0
  have hst : ∀ k (h : k < ps.length), (X.zs.take (k + 1)).countP (fun z => z.st == 1) = (X.zs.take k).countP (fun z => z.st == 1) + if ps[k].2.st == 1 then 1 else 0 := by
    intro k hk
    rw [List.take_succ_eq_append_getElem (by omega), List.countP_append, List.countP_singleton, get_snd e hk]
  have HS := Lib.hid hst
  have hpl : ps.length ≤ 512 := by omega
  clear e0 hle hst hl hn1 hn2
  go_enter Try.func87, Try.ntmps87
  go_wp2_with fail
  generalize w.alloc (.cells #[.slice (some ⟨g, o, none⟩) ps.length cap, .int .i64 X.size, .int .i64 X.op, .int .i64 X.n, .bool X.down] 27) = w1 at *
  go_loop [3, 4] (fun c i => ∃ k : Nat, k ≤ ps.length ∧ i = .int .i64 k ∧ c = .int .i64 ((X.zs.take k).countP fun z => z.st == 1 : Nat)) (fun _ i => ps.length - (intOf i).toNat)
  case atStart => exact ⟨0, by omega, rfl, by simp⟩
  case round =>
    obtain ⟨k, hk, rfl, rfl⟩ := hrel
    by_cases hlt : k < ps.length
    · obtain ⟨g', o', cap', e', -, -, -, -, c2, -⟩ := hz1.cells hlt
      simp only [Value.slice.injEq, Option.some.injEq, Addr.mk.injEq, true_and, and_true] at e'
      obtain ⟨⟨rfl, rfl⟩, rfl⟩ := e'
      have h1 : (k : Int) < (ps.length : Int) := by omega
      have h2 : (0 : Int) ≤ (k : Int) := by omega
      have hsucc := HS.out k hlt
      have hle := HL.out k
      generalize (X.zs.take k).countP (fun z => z.st == 1) = c at *
      generalize ps[k].2.st = st at *
      have HS2 := Lib.hid hsucc
      clear hsucc
      cases hb : (st == 1) with
      | true =>
        rw [hb, if_pos rfl] at HS2
        go_wp2_with fail
        go_round
        case rel => exact ⟨k + 1, by omega, by go_num, by rw [HS2.out]; go_num⟩
        case measure => simp [intOf]; omega
      | false =>
        rw [hb, if_neg (by decide)] at HS2
        go_wp2_with fail
        go_round
        case rel => exact ⟨k + 1, by omega, by go_num, by rw [HS2.out]; go_num⟩
        case measure => simp [intOf]; omega
    · obtain rfl : k = ps.length := by omega
      go_wp2_with fail
      go_ret
      exact ⟨by rw [E0.out]; rfl, F1⟩
/-- The same, opened. -/
def RdO (D : Nat → Prop) (w : World) (g o cap : Nat) (X : DS) : Prop := ∃ ps, ps.map Prod.snd = X.zs ∧ RdZ D w (.slice (some ⟨g, o, none⟩) X.zs.length cap) ps
variable {g o cap : Nat}
theorem RfS.op (h : RfS D w v X) (h1 : 1 ≤ X.zs.length) : ∃ g o cap, v = .agg #[.slice (some ⟨g, o, none⟩) X.zs.length cap, .int .i64 X.size, .int .i64 X.op, .int .i64 X.n, .bool X.down] ∧ RdO D w g o cap X := by
  obtain ⟨s, ps, rfl, e, hz⟩ := h
  have hl := hz.len e
  obtain ⟨g, o, cap, rfl, hD, -⟩ := hz.at (i := 0) (by omega)
  rw [hl] at hz
  exact ⟨g, o, cap, by rw [hl], ps, e, hz⟩
theorem RdO.fr (h : RdO D w g o cap X) (hf : Fr S w w') (hn : ∀ k, D k → ¬ S k) : RdO D w' g o cap X := by obtain ⟨ps, e, hz⟩ := h; exact ⟨ps, e, hz.fr hf hn⟩
theorem RdO.fr0 (h : RdO D w g o cap X) (hf : Fr (fun _ => False) w w') : RdO D w' g o cap X := h.fr hf (fun _ _ => id)
theorem RdO.mono {D' : Nat → Prop} (h : RdO D w g o cap X) (hd : ∀ k, D k → D' k) : RdO D' w g o cap X := by obtain ⟨ps, e, hz⟩ := h; exact ⟨ps, e, hz.mono hd⟩
theorem RdO.sharp (h : RdO D w g o cap X) : RdO (fun k => D k ∧ k < w.heap.size) w g o cap X := by obtain ⟨ps, e, hz⟩ := h; exact ⟨ps, e, hz.sharp⟩
theorem RdO.same (h : RdO D w g o cap X) (e : Y.zs = X.zs) : RdO D w g o cap Y := by obtain ⟨ps, e1, hz⟩ := h; exact ⟨ps, e1.trans e.symm, by rw [e]; exact hz⟩
theorem RdO.rf (h : RdO D w g o cap X) : RfS D w (.agg #[.slice (some ⟨g, o, none⟩) X.zs.length cap, .int .i64 X.size, .int .i64 X.op, .int .i64 X.n, .bool X.down]) X := by obtain ⟨ps, e, hz⟩ := h; exact ⟨_, ps, rfl, e, hz⟩
theorem RdO.at (h : RdO D w g o cap X) {k : Nat} (hk : k < X.zs.length) : ∃ la lc, w.rangeAt g (o + k * 4) (#[.slice la X.zs[k].L.length lc, .int .i64 X.zs[k].safe, .int .i64 X.zs[k].st, .bool X.zs[k].fin] : Array Value).toList ∧ RdS D w (.slice la X.zs[k].L.length lc, X.zs[k]) ∧ D g := by
  obtain ⟨ps, e, hz⟩ := h
  have hkp : k < ps.length := by rw [← e, List.length_map] at hk; exact hk
  have e2 := get_snd e hkp
  obtain ⟨g', o', cap', e1, hD, hr⟩ := hz.at hkp
  simp only [Value.slice.injEq, Option.some.injEq, Addr.mk.injEq, and_true] at e1
  obtain ⟨⟨rfl, rfl⟩, -, -⟩ := e1
  obtain ⟨a, c, e3⟩ := (hz.sec _ (List.getElem_mem hkp)).val
  have hs := hz.sec _ (List.getElem_mem hkp)
  unfold RdS at hs
  unfold zrow at hr
  rw [e3] at hr hs
  rw [e2] at hr hs
  exact ⟨a, c, hr, hs, hD⟩
theorem RdO.q {a b c : Int} {d : Bool} {D' : Nat → Prop} (h : RdO D' w' g o cap Y) (ha : (Y.size : Int) = a) (hb : (Y.op : Int) = b) (hc : (Y.n : Int) = c) (hd : Y.down = d) (hf : Fr (fun _ => False) w w') (hD : ∀ k, D' k → D k ∨ w.heap.size ≤ k) {n : Nat} (hn : n = Y.zs.length) : RfQ D w Y w' (.agg #[.slice (some ⟨g, o, none⟩) n cap, .int .i64 a, .int .i64 b, .int .i64 c, .bool d]) := by
  subst ha hb hc hd hn
  exact ⟨h.rf.mono (fun k hk _ => hD k hk), hf⟩
theorem RfQ.op (h : RfQ D w Y w' v) (h1 : 1 ≤ Y.zs.length) : ∃ g o cap, v = .agg #[.slice (some ⟨g, o, none⟩) Y.zs.length cap, .int .i64 Y.size, .int .i64 Y.op, .int .i64 Y.n, .bool Y.down] ∧ RdO (fun k => D k ∨ w.heap.size ≤ k) w' g o cap Y ∧ Fr (fun _ => False) w w' := by
  obtain ⟨g, o, cap, e, h2⟩ := h.1.op h1
  exact ⟨g, o, cap, e, h2, h.2⟩
end
section
variable {w : World} {D : Nat → Prop} {v : Value} {X Y : DS} {e0 : Int}
theorem res50 {tmps : Array Value} {W : World} {g : Nat} {u : Value} {S : Array Value} (h1 : tmps.getD 4 undef = .pointer (some ⟨g, 0, none⟩)) (h3 : tmps.getD 5 undef = u) (h2 : W.heap[g]? = some (.cells S 27 (0, 0))) (h4 : S.size = 5) :
    (results Try.f50 tmps).run Try.prog W = .ok (.tuple #[.agg S, u]) W := by
  rw [← h3]
  exact res_ct rfl h1 (run_loadBw b27 h2 h4)
set_option maxRecDepth 100000 in
theorem rreset_early (h : RfS D w v X) (hok : X.Ok) {x e1 : Int} (hb : ∀ D w v, RfS D w v X → Calls Try.prog 86 #[v, .int .i64 x] w (Rf2 D w X (.int .i64 e1))) (he : (e1 != 0) = true) : Calls Try.prog 50 #[v, .int .i64 x] w (Rf2 D w X (.int .i64 e1)) := by
  obtain ⟨g, o, cap, rfl, hr⟩ := h.sharp.op hok.l1
  have h2w := two w (.cells #[.slice (some ⟨g, o, none⟩) X.zs.length cap, .int .i64 X.size, .int .i64 X.op, .int .i64 X.n, .bool X.down] 27) (.cells #[.slice none 0 0, .int .i64 0, .int .i64 0, .int .i64 0, .bool false] 27)
  go_enter Try.func50, Try.ntmps50
  go_upto_region 1 with fail
  generalize (w.alloc (.cells #[.slice (some ⟨g, o, none⟩) X.zs.length cap, .int .i64 X.size, .int .i64 X.op, .int .i64 X.n, .bool X.down] 27)).alloc (.cells #[.slice none 0 0, .int .i64 0, .int .i64 0, .int .i64 0, .bool false] 27) = w2 at *
  obtain ⟨F2, g0, g1, hsz⟩ := h2w
  have hr2 := hr.fr0 F2
  have HSZ := Lib.hid hsz
  clear hsz hr
  have hc := hb _ w2 _ hr2.rf
  go_wp2_with (first | ((with_reducible refine is_load 27 rfl ?_); refine wpList_loadBw rfl 27 _ rfl b27 _ _ _ rfl (by first | assumption | exact blk_new _ _) rfl ?_) | ((with_reducible refine is_store 27 rfl ?_); refine wpList_storeBw rfl 27 _ _ rfl b27 _ _ _ _ rfl rfl (by first | assumption | exact blk_new _ _) rfl (bx27 _ _ _ _ _ _ _) ?_) | ((with_reducible refine is_load 117 rfl ?_); (first | refine wpList_loadBw rfl 117 _ rfl b117 _ _ _ rfl (by first | assumption | exact blk_new _ _) rfl ?_ | refine wpList_loadB rfl 117 _ rfl b117 _ _ _ rfl (by assumption) rfl ?_)) | ((with_reducible refine is_store 117 rfl ?_); (first | refine wpList_storeBw rfl 117 _ _ rfl b117 _ _ _ _ rfl rfl (by first | assumption | exact blk_new _ _) rfl (bx117 _ _ _ _ _ _) ?_ | refine wpList_storeBm rfl 117 _ _ rfl b117 _ _ _ rfl rfl (by assumption) (bx117 _ _ _ _ _ _) ?_)))
  refine hc.mono ?_
  rintro e w3 ⟨v3, rfl, hq⟩
  obtain ⟨g3, o3, cap3, rfl, hr3, F3⟩ := hq.op hok.l1
  have g03 := F3.heap g0 id
  have g13 := F3.heap g1 id
  have hszl : w.heap.size + 2 ≤ w2.heap.size := by have := HSZ.out; omega
  have g04 := setRow_blk #[.slice (some ⟨g3, o3, none⟩) (X).zs.length cap3, .int .i64 (X).size, .int .i64 (X).op, .int .i64 (X).n, .bool (X).down] g03
  have f4 := setRow_fr w3 w.heap.size #[.slice (some ⟨g3, o3, none⟩) (X).zs.length cap3, .int .i64 (X).size, .int .i64 (X).op, .int .i64 (X).n, .bool (X).down]
  have g14 := f4.heap g13 (by omega)
  have hr4 := hr3.fr f4 (fun k hk e => by rcases hk with h | h <;> omega)
  have F4 := ((F2.trans F3 (fun _ _ h => h)).mono (fun _ _ h => h.elim)).trans f4 (fun _ _ h => h) |>.mono (fun k hk e => (by omega : False))
  clear hc g0 g1 hr3 hr2
  go_wp2_with (first | ((with_reducible refine is_load 27 rfl ?_); refine wpList_loadBw rfl 27 _ rfl b27 _ _ _ rfl (by first | assumption | exact blk_new _ _) rfl ?_) | ((with_reducible refine is_store 27 rfl ?_); refine wpList_storeBw rfl 27 _ _ rfl b27 _ _ _ _ rfl rfl (by first | assumption | exact blk_new _ _) rfl (bx27 _ _ _ _ _ _ _) ?_) | ((with_reducible refine is_load 117 rfl ?_); (first | refine wpList_loadBw rfl 117 _ rfl b117 _ _ _ rfl (by first | assumption | exact blk_new _ _) rfl ?_ | refine wpList_loadB rfl 117 _ rfl b117 _ _ _ rfl (by assumption) rfl ?_)) | ((with_reducible refine is_store 117 rfl ?_); (first | refine wpList_storeBw rfl 117 _ _ rfl b117 _ _ _ _ rfl rfl (by first | assumption | exact blk_new _ _) rfl (bx117 _ _ _ _ _ _) ?_ | refine wpList_storeBm rfl 117 _ _ rfl b117 _ _ _ rfl rfl (by assumption) (bx117 _ _ _ _ _ _) ?_)))
  exact bodyPost_ret (res50 rfl rfl (setRow_blk _ g14) rfl) rfl ⟨_, rfl, (hr4.fr (setRow_fr _ _ _) (fun k hk e => by omega)).q rfl rfl rfl rfl (F4.trans (setRow_fr _ _ _) (fun k hk e => by omega)) (fun k hk => by rcases hk with h | h; exact .inl h.1; exact .inr (by omega)) rfl⟩
end
end Go.Proofs.Ytkbagfpoegfcaaa

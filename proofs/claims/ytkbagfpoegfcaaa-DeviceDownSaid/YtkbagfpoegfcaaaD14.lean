/- The document's device: its memory; put, begin, failed, opened. Conditions: a device is small. -/
import Derived.Test.YtkbagfpoegfcaaaD13
import Derived.Deep.CutBlock
namespace Go.Proofs.Ytkbagfpoegfcaaa
open Go.RowKit Go.Conc

theorem b27 : BigTy 27 5 #[.slice none 0 0, .int .i64 0, .int .i64 0, .int .i64 0, .bool false] := ⟨⟨_, Try.underlying27, rfl⟩, by kernel_rfl, rfl⟩
theorem b117 : BigTy 117 4 #[.slice none 0 0, .int .i64 0, .int .i64 0, .bool false] := ⟨⟨_, Try.underlying117, rfl⟩, by kernel_rfl, rfl⟩
theorem bx27 (a : Option Addr) (n c : Nat) (x y z : Int) (b : Bool) : IsBx 5 #[.slice a n c, .int .i64 x, .int .i64 y, .int .i64 z, .bool b] := ⟨rfl, by simp [Value.oneCell']⟩
theorem bx117 (a : Option Addr) (n c : Nat) (x y : Int) (b : Bool) : IsBx 4 #[.slice a n c, .int .i64 x, .int .i64 y, .bool b] := ⟨rfl, by simp [Value.oneCell']⟩
/-- A zone's cells: where its sectors lie, and what else it has. -/
def zrow (p : Value × ZS) : List Value := [p.1, .int .i64 p.2.safe, .int .i64 p.2.st, .bool p.2.fin]
theorem zrow_len (p : Value × ZS) : (zrow p).length = 4 := rfl
/-- A zone of the document. -/
def RdS (D : Nat → Prop) (w : World) (p : Value × ZS) : Prop := RdAt D w p.1 p.2.L.length (secs p.2.L)
/-- The zones of the document. -/
structure RdZ (D : Nat → Prop) (w : World) (s : Value) (ps : List (Value × ZS)) : Prop where
  row : RdAt D w s ps.length (flat zrow ps)
  sec : ∀ p ∈ ps, RdS D w p
/-- The document's device. -/
structure RfS (D : Nat → Prop) (w : World) (v : Value) (X : DS) : Prop where
  mem : ∃ s ps, v = .agg #[s, .int .i64 X.size, .int .i64 X.op, .int .i64 X.n, .bool X.down] ∧ ps.map Prod.snd = X.zs ∧ RdZ D w s ps
section
variable {w w' : World} {D S : Nat → Prop} {v s : Value} {X Y : DS} {ps : List (Value × ZS)}
theorem RdZ.fr (h : RdZ D w s ps) (hf : Fr S w w') (hn : ∀ k, D k → ¬ S k) : RdZ D w' s ps := ⟨h.row.fr hf hn, fun p hp => RdAt.fr (h.sec p hp) hf hn⟩
theorem RdZ.fr0 (h : RdZ D w s ps) (hf : Fr (fun _ => False) w w') : RdZ D w' s ps := h.fr hf (fun _ _ => id)
theorem RdZ.mono {D' : Nat → Prop} (h : RdZ D w s ps) (hd : ∀ k, D k → D' k) : RdZ D' w s ps := ⟨h.row.mono hd, fun p hp => RdAt.mono (h.sec p hp) hd⟩
theorem RdZ.sharp (h : RdZ D w s ps) : RdZ (fun k => D k ∧ k < w.heap.size) w s ps := ⟨h.row.sharp, fun p hp => RdAt.sharp (h.sec p hp)⟩
theorem RfS.fr (h : RfS D w v X) (hf : Fr S w w') (hn : ∀ k, D k → ¬ S k) : RfS D w' v X := by
  obtain ⟨s, ps, h1, h2, h3⟩ := h; exact ⟨s, ps, h1, h2, h3.fr hf hn⟩
theorem RfS.fr0 (h : RfS D w v X) (hf : Fr (fun _ => False) w w') : RfS D w' v X := h.fr hf (fun _ _ => id)
theorem RfS.mono {D' : Nat → Prop} (h : RfS D w v X) (hd : ∀ k, D k → k < w.heap.size → D' k) : RfS D' w v X := by
  obtain ⟨s, ps, h1, h2, h3⟩ := h; exact ⟨s, ps, h1, h2, h3.sharp.mono (fun k hk => hd k hk.1 hk.2)⟩
theorem zrow_one (h : ∀ p ∈ ps, RdS D w p) : ∀ u ∈ flat zrow ps, u.oneCell' = true := by
  intro u hu
  obtain ⟨l, hl, hu⟩ := List.mem_flatten.1 hu
  obtain ⟨p, hp, rfl⟩ := List.mem_map.1 hl
  obtain ⟨a, c, e⟩ := (h p hp).val
  simp only [zrow, e, List.mem_cons, List.not_mem_nil, or_false] at hu
  rcases hu with rfl | rfl | rfl | rfl <;> rfl
theorem RdZ.len (_h : RdZ D w s ps) (e : ps.map Prod.snd = X.zs) : ps.length = X.zs.length := by rw [← e, List.length_map]
/-- A zone's cells. -/
theorem RdZ.at (h : RdZ D w s ps) {i : Nat} (hi : i < ps.length) : ∃ g o cap, s = .slice (some ⟨g, o, none⟩) ps.length cap ∧ D g ∧ w.rangeAt g (o + i * 4) (zrow ps[i]) := by
  obtain ⟨a, cap, e, h1, h2, h3⟩ := h.row
  obtain ⟨g, o, e1, hD, hr⟩ := h3 (by intro e; have := flat_len zrow_len ps; rw [e] at this; simp at this; omega)
  refine ⟨g, o, cap, by rw [e, e1], hD, ?_⟩
  exact range_part hr (i * 4) 4 (zrow ps[i]) (fun j hj => (flat_get zrow_len ps i hi j hj).symm) rfl
theorem get_snd (e : ps.map Prod.snd = X.zs) {i : Nat} (hi : i < ps.length) : ps[i].2 = X.zs[i]'(by rw [← e, List.length_map]; exact hi) := by
  have : X.zs[i]? = some ps[i].2 := by rw [← e]; simp [hi]
  rw [List.getElem?_eq_getElem (by rw [← e, List.length_map]; exact hi)] at this
  exact (Option.some.inj this).symm
/-- What a call of the document leaves: one result, two, three. -/
def RfQ (D : Nat → Prop) (w : World) (Y : DS) (w' : World) (v : Value) : Prop := RfS (fun k => D k ∨ w.heap.size ≤ k) w' v Y ∧ Fr (fun _ => False) w w'
def Rf1 (D : Nat → Prop) (w : World) (Y : DS) (e : Ending) (w' : World) : Prop := ∃ v, e = .returned v ∧ RfQ D w Y w' v
def Rf2 (D : Nat → Prop) (w : World) (Y : DS) (r : Value) (e : Ending) (w' : World) : Prop := ∃ v, e = .returned (.tuple #[v, r]) ∧ RfQ D w Y w' v
def Rf3 (D : Nat → Prop) (w : World) (Y : DS) (r q : Value) (e : Ending) (w' : World) : Prop := ∃ v, e = .returned (.tuple #[v, r, q]) ∧ RfQ D w Y w' v
theorem RdZ.q (h : RdZ D w' s ps) (e : ps.map Prod.snd = Y.zs) (hf : Fr (fun _ => False) w w') : RfQ D w Y w' (.agg #[s, .int .i64 Y.size, .int .i64 Y.op, .int .i64 Y.n, .bool Y.down]) :=
  ⟨⟨s, ps, rfl, e, h.mono (fun _ h => .inl h)⟩, hf⟩
theorem two (w : World) (o1 o2 : Obj) : Fr (fun _ => False) w ((w.alloc o1).alloc o2) ∧ ((w.alloc o1).alloc o2).heap[w.heap.size]? = some o1 ∧ ((w.alloc o1).alloc o2).heap[w.heap.size + 1]? = some o2 ∧ ((w.alloc o1).alloc o2).heap.size = w.heap.size + 2 := by
  refine ⟨((Fr.refl _ _).alloc _).alloc _, blk_alloc (blk_new w o1) o2, ?_, by simp⟩
  have := blk_new (w.alloc o1) o2
  rwa [World.size_alloc] at this
theorem three (w : World) (o1 o2 o3 : Obj) : Fr (fun _ => False) w (((w.alloc o1).alloc o2).alloc o3) ∧ (((w.alloc o1).alloc o2).alloc o3).heap[w.heap.size]? = some o1 ∧ (((w.alloc o1).alloc o2).alloc o3).heap[w.heap.size + 1]? = some o2 ∧ (((w.alloc o1).alloc o2).alloc o3).heap[w.heap.size + 2]? = some o3 ∧ (((w.alloc o1).alloc o2).alloc o3).heap.size = w.heap.size + 3 := by
  obtain ⟨f, g1, g2, e⟩ := two w o1 o2
  refine ⟨f.alloc _, blk_alloc g1 o3, blk_alloc g2 o3, ?_, by simp⟩
  have := blk_new ((w.alloc o1).alloc o2) o3
  rwa [e] at this
/-- begin. -/
theorem res86 {tmps : Array Value} {W : World} {g : Nat} {u : Value} {S : Array Value} (h1 : tmps.getD 4 undef = .pointer (some ⟨g, 0, none⟩)) (h3 : tmps.getD 5 undef = u) (h2 : W.heap[g]? = some (.cells S 27 (0, 0))) (h4 : S.size = 5) :
    (results Try.f86 tmps).run Try.prog W = .ok (.tuple #[.agg S, u]) W := by
  rw [← h3]
  exact res_ct rfl h1 (run_loadBw b27 h2 h4)
theorem RdZ.q' {a b c : Int} {d : Bool} (h : RdZ D w' s ps) (e : ps.map Prod.snd = Y.zs) (ha : (Y.size : Int) = a) (hb : (Y.op : Int) = b) (hc : (Y.n : Int) = c) (hd : Y.down = d) (hf : Fr (fun _ => False) w w') : RfQ D w Y w' (.agg #[s, .int .i64 a, .int .i64 b, .int .i64 c, .bool d]) := by
  subst ha hb hc hd
  exact h.q e hf
theorem RfQ.mk {a b c : Int} {d : Bool} (e : ps.map Prod.snd = Y.zs) (ha : (Y.size : Int) = a) (hb : (Y.op : Int) = b) (hc : (Y.n : Int) = c) (hd : Y.down = d) (h : RdZ (fun k => D k ∨ w.heap.size ≤ k) w' s ps) (hf : Fr (fun _ => False) w w') : RfQ D w Y w' (.agg #[s, .int .i64 a, .int .i64 b, .int .i64 c, .bool d]) := by
  subst ha hb hc hd
  exact ⟨⟨s, ps, rfl, e, h⟩, hf⟩
theorem rbeg_down (h : RfS D w v X) (hdn : X.down = true) (x : Int) : Calls Try.prog 86 #[v, .int .i64 x] w (Rf2 D w X (.int .i64 34)) := by
  obtain ⟨s, ps, rfl, e, hz⟩ := h
  obtain ⟨a, cap, rfl⟩ := hz.row.val
  go_enter Try.func86, Try.ntmps86
  go_wp2
  exact bodyPost_ret (res86 rfl rfl (two w _ _).2.2.1 rfl) rfl ⟨_, rfl, (hz.fr0 (two w _ _).1).q' e rfl rfl rfl hdn (two w _ _).1⟩
theorem rbeg_out (h : RfS D w v X) (hdn : X.down = false) {x : Int} (hx : x < 0 ∨ X.zs.length ≤ x) : Calls Try.prog 86 #[v, .int .i64 x] w (Rf2 D w X (.int .i64 13)) := by
  obtain ⟨s, ps, rfl, e, hz⟩ := h
  have hl := hz.len e
  obtain ⟨a, cap, rfl⟩ := hz.row.val
  rcases hx with hx | hx
  · clear hl
    go_enter Try.func86, Try.ntmps86
    go_wp2
    exact bodyPost_ret (res86 rfl rfl (two w _ _).2.2.1 rfl) rfl ⟨_, rfl, (hz.fr0 (two w _ _).1).q' e rfl rfl rfl hdn (two w _ _).1⟩
  · have h0 : 0 ≤ x := by omega
    have hx' : (ps.length : Int) ≤ x := by omega
    clear hl hx
    go_enter Try.func86, Try.ntmps86
    go_wp2
    exact bodyPost_ret (res86 rfl rfl (two w _ _).2.2.1 rfl) rfl ⟨_, rfl, (hz.fr0 (two w _ _).1).q' e rfl rfl rfl hdn (two w _ _).1⟩
theorem rbeg_ok (h : RfS D w v X) (hdn : X.down = false) (hn : X.n < 1000000) {k : Nat} (hk : k < X.zs.length) : Calls Try.prog 86 #[v, .int .i64 k] w (Rf2 D w X.tick (.int .i64 0)) := by
  obtain ⟨s, ps, rfl, e, hz⟩ := h
  have hl := hz.len e
  obtain ⟨a, cap, rfl⟩ := hz.row.val
  have h0 : 0 ≤ (k : Int) := by omega
  have hk' : ¬ (ps.length : Int) ≤ (k : Int) := by omega
  have hk2 : ¬ ps.length ≤ k := by omega
  clear hl hk
  go_enter Try.func86, Try.ntmps86
  go_wp2
  exact bodyPost_ret (res86 rfl rfl (two w _ _).2.2.1 rfl) rfl ⟨_, rfl, (hz.fr0 (two w _ _).1).q' (Y := X.tick) e rfl rfl rfl hdn (two w _ _).1⟩
/-- failed. -/
theorem rfailed {l : Value} {z : ZS} (hl : ∃ a n c, l = .slice a n c) : Calls Try.prog 88 #[.agg #[l, .int .i64 z.safe, .int .i64 z.st, .bool z.fin]] w fun e w' => e = .returned (.int .i64 (failedOf z.st)) ∧ Fr (fun _ => False) w w' := by
  obtain ⟨a, n, c, rfl⟩ := hl
  by_cases h4 : z.st = 4
  · have e : failedOf z.st = 32 := if_pos h4
    rw [e]
    go_enter Try.func88, Try.ntmps88
    go_wp2
    go_ret
    exact ⟨rfl, (Fr.refl _ _).alloc _⟩
  · by_cases h3 : z.st = 3
    · have e : failedOf z.st = 30 := by rw [failedOf, if_neg h4, if_pos h3]
      rw [e]
      go_enter Try.func88, Try.ntmps88
      go_wp2
      go_ret
      exact ⟨rfl, (Fr.refl _ _).alloc _⟩
    · have e : failedOf z.st = 0 := by rw [failedOf, if_neg h4, if_neg h3]
      rw [e]
      have e4 : (z.st == 4) = false := by simpa using h4
      have e3 : (z.st == 3) = false := by simpa using h3
      go_enter Try.func88, Try.ntmps88
      go_wp2
      go_ret
      exact ⟨rfl, (Fr.refl _ _).alloc _⟩
theorem res89 {tmps : Array Value} {W : World} {g : Nat} {S : Array Value} (h1 : tmps.getD 6 undef = .pointer (some ⟨g, 0, none⟩)) (h2 : W.heap[g]? = some (.cells S 27 (0, 0))) (h4 : S.size = 5) :
    (results Try.f89 tmps).run Try.prog W = .ok (.agg S) W := res_c rfl h1 (run_loadBw b27 h2 h4)
set_option maxRecDepth 100000 in
set_option maxHeartbeats 2000000 in
/-- put. -/
theorem rput (h : RfS D w v X) {k : Nat} (hk : k < X.zs.length) (hl2 : X.zs.length ≤ 512) {l : Value} {z : ZS} (hz : RdS D w (l, z)) : Calls Try.prog 89 #[v, .int .i64 k, .agg #[l, .int .i64 z.safe, .int .i64 z.st, .bool z.fin]] w (Rf1 D w (X.set k z)) := by
  obtain ⟨s, ps, rfl, e, hzs⟩ := h
  have hl := hzs.len e
  obtain ⟨a, cap, rfl⟩ := hzs.row.val
  obtain ⟨la, lc, hle⟩ := hz.val
  simp only at hle
  subst hle
  have h0 : (0 : Int) ≤ (k : Int) := by omega
  have h1 : (k : Int) < (ps.length : Int) := by omega
  have hkp : k < ps.length := by omega
  have hpl : ps.length ≤ 512 := by omega
  have HL := Lib.hid hl
  clear hl hk
  have h3 := three w (.cells #[.slice a ps.length cap, .int .i64 X.size, .int .i64 X.op, .int .i64 X.n, .bool X.down] 27) (.cells #[.slice la z.L.length lc, .int .i64 z.safe, .int .i64 z.st, .bool z.fin] 117) (.cells #[.slice none 0 0, .int .i64 0, .int .i64 0, .int .i64 0, .bool false] 27)
  go_enter Try.func89, Try.ntmps89
  go_upto_region 2 with fail
  generalize ((w.alloc (.cells #[.slice a ps.length cap, .int .i64 X.size, .int .i64 X.op, .int .i64 X.n, .bool X.down] 27)).alloc (.cells #[.slice la z.L.length lc, .int .i64 z.safe, .int .i64 z.st, .bool z.fin] 117)).alloc (.cells #[.slice none 0 0, .int .i64 0, .int .i64 0, .int .i64 0, .bool false] 27) = w3 at *
  obtain ⟨F3, g0, g1, g2, hsz⟩ := h3
  have hz3 := hzs.fr0 F3
  have c0 := fun i => blk_cell g0 i
  have one := zrow_one hz3.sec
  have hfl := flat_len zrow_len ps
  have hnil := World.ownsRow_nil w3 0 117 4
  have HSZ := Lib.hid hsz
  have HONE := Lib.hid one
  have HFL := Lib.hid hfl
  clear hsz one hfl
  go_upto_region 3 with (at_builtin; refine wpList_app rfl s25 hnil hz3.row _ _ rfl rfl rfl rfl HFL.out HONE.out (by omega) (Nat.zero_le _) ?_; intro a1 ca1 w4 hr4 hg4 ho4)
  rw [Nat.zero_add, List.nil_append] at hr4
  rw [Nat.zero_add] at ho4
  have F4 : Fr (fun _ => False) w3 w4 := Fr.grown hg4 (fun _ h => by cases h)
  obtain ⟨g, cg5, ev, hth, hr5, F5⟩ := row_put hr4 hkp (cs := [.slice la z.L.length lc, .int .i64 z.safe, .int .i64 z.st, .bool z.fin]) rfl
  simp only [Value.slice.injEq, true_and] at ev
  obtain ⟨rfl, rfl⟩ := ev
  have hg : g = w3.heap.size := by
    rcases ho4 with e | e
    · cases e
    · simpa [Value.ownBlock] using e
  have hgw : w.heap.size + 3 ≤ g := by rw [hg, HSZ.out]; exact Nat.le_refl _
  clear hg ho4 c0
  have c1 := fun i => blk_cell (F4.heap g1 id) i
  go_upto_region 4 with (first | ((with_reducible refine is_load 27 rfl ?_); refine wpList_loadBw rfl 27 _ rfl b27 _ _ _ rfl (by first | assumption | exact blk_new _ _) rfl ?_) | ((with_reducible refine is_store 27 rfl ?_); refine wpList_storeBw rfl 27 _ _ rfl b27 _ _ _ _ rfl rfl (by first | assumption | exact blk_new _ _) rfl (bx27 _ _ _ _ _ _ _) ?_) | ((with_reducible refine is_load 117 rfl ?_); (first | refine wpList_loadBw rfl 117 _ rfl b117 _ _ _ rfl (by first | assumption | exact blk_new _ _) rfl ?_ | refine wpList_loadB rfl 117 _ rfl b117 _ _ _ rfl (by assumption) rfl ?_)) | ((with_reducible refine is_store 117 rfl ?_); (first | refine wpList_storeBw rfl 117 _ _ rfl b117 _ _ _ _ rfl rfl (by first | assumption | exact blk_new _ _) rfl (bx117 _ _ _ _ _ _) ?_ | refine wpList_storeBm rfl 117 _ _ rfl b117 _ _ _ rfl rfl (by assumption) (bx117 _ _ _ _ _ _) ?_)))
  have g05 := F5.heap (F4.heap g0 id) (by omega)
  have g25 := F5.heap (F4.heap g2 id) (by omega)
  have F35 : Fr (fun k => w.heap.size ≤ k) w3 _ := (F4.mono (fun _ _ h => h.elim)).trans F5 (fun _ _ e => by omega)
  have hzp : RdS D w3 (.slice la z.L.length lc, z) := RdAt.fr0 hz F3
  have hps : flat zrow (ps.set k (.slice la z.L.length lc, z)) = (flat zrow ps).take (k * 4) ++ [.slice la z.L.length lc, .int .i64 z.safe, .int .i64 z.st, .bool z.fin] ++ (flat zrow ps).drop (k * 4 + 4) := (flat_set zrow_len ps k hkp _).symm
  rw [← hps] at hr5
  have HPS := Lib.hid hps
  clear hps hr4 hg4 c1 hth g0 g1 g2 hnil HONE HFL
  generalize w4.setCells g (k * 4) [.slice la z.L.length lc, .int .i64 z.safe, .int .i64 z.st, .bool z.fin] = w5 at *
  have rd5 := row_rd hr5
  have f0 := fun i => blk_frozen g05 i
  have c0 := fun i => blk_cell g05 i
  have g06 := blk_put g05 0 (.slice (some ⟨g, 0, none⟩) ps.length ca1)
  simp only [List.setIfInBounds_toArray, List.set_cons_zero] at g06
  have f6 := Fr.set1 w5 w.heap.size 0 (.slice (some ⟨g, 0, none⟩) ps.length ca1)
  have g26 := f6.heap g25 (by omega)
  have F6 : Fr (fun j => w.heap.size ≤ j) w3 (w5.setCell ⟨w.heap.size, 0, none⟩ (.slice (some ⟨g, 0, none⟩) ps.length ca1)) := F35.trans f6 (fun _ _ e => by omega)
  have hD : ∀ j, D j → True := fun _ _ => trivial
  have r6 : RdAt (fun j => w.heap.size + 3 ≤ j) (w5.setCell ⟨w.heap.size, 0, none⟩ (.slice (some ⟨g, 0, none⟩) ps.length ca1)) (.slice (some ⟨g, 0, none⟩) ps.length ca1) (ps.set k (.slice la z.L.length lc, z)).length (flat zrow (ps.set k (.slice la z.L.length lc, z))) := by
    rw [List.length_set]
    exact ((rd5.fr f6 (fun j hj e => by simp [Value.ownBlock] at hj; omega)).mono (fun j hj => by simp [Value.ownBlock] at hj; omega))
  clear rd5 hr5 hD
  go_wp2_with (first | ((with_reducible refine is_load 27 rfl ?_); refine wpList_loadBw rfl 27 _ rfl b27 _ _ _ rfl (by first | assumption | exact blk_new _ _) rfl ?_) | ((with_reducible refine is_store 27 rfl ?_); refine wpList_storeBw rfl 27 _ _ rfl b27 _ _ _ _ rfl rfl (by first | assumption | exact blk_new _ _) rfl (bx27 _ _ _ _ _ _ _) ?_) | ((with_reducible refine is_load 117 rfl ?_); (first | refine wpList_loadBw rfl 117 _ rfl b117 _ _ _ rfl (by first | assumption | exact blk_new _ _) rfl ?_ | refine wpList_loadB rfl 117 _ rfl b117 _ _ _ rfl (by assumption) rfl ?_)) | ((with_reducible refine is_store 117 rfl ?_); (first | refine wpList_storeBw rfl 117 _ _ rfl b117 _ _ _ _ rfl rfl (by first | assumption | exact blk_new _ _) rfl (bx117 _ _ _ _ _ _) ?_ | refine wpList_storeBm rfl 117 _ _ rfl b117 _ _ _ rfl rfl (by assumption) (bx117 _ _ _ _ _ _) ?_)))
  have f7 := setRow_fr (w5.setCell ⟨w.heap.size, 0, none⟩ (.slice (some ⟨g, 0, none⟩) ps.length ca1)) (w.heap.size + 2) #[.slice (some ⟨g, 0, none⟩) ps.length ca1, .int .i64 X.size, .int .i64 X.op, .int .i64 X.n, .bool X.down]
  have FA : Fr (fun j => w.heap.size ≤ j) w _ := ((F3.mono (fun _ _ h => h.elim)).trans F6 (fun _ _ h => h)).trans f7 (fun _ _ e => by omega)
  have FB : Fr (fun _ => False) w _ := FA.mono (fun i hi h => by omega)
  refine bodyPost_ret (res89 rfl (setRow_blk _ g26) rfl) rfl ⟨_, rfl, ?_⟩
  refine RfQ.mk (ps := ps.set k (.slice la z.L.length lc, z)) ?_ rfl rfl rfl rfl ⟨(r6.fr f7 (fun j hj e => by omega)).mono (fun j hj => .inr (by omega)), fun p hp => ?_⟩ FB
  · rw [List.map_set, e]; rfl
  · rcases List.mem_or_eq_of_mem_set hp with h9 | rfl
    · exact (RdAt.sharp (hzs.sec p h9)).fr FB (fun _ _ => id) |>.mono (fun _ h => .inl h.1)
    · exact (RdAt.sharp hz).fr FB (fun _ _ => id) |>.mono (fun _ h => .inl h.1)
end
end Go.Proofs.Ytkbagfpoegfcaaa

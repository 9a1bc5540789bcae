/- Several texts in one. No condition. -/
import Derived.Test.YtcdblopnaimfoaaP2
import Derived.Test.YtcdblopnaimfoaaQd

/- The document's pool: its functions. Conditions: fewer than 1000 zones, numbers below 1000. -/
namespace Go.Proofs.Ytcdblopnaimfoaa
open Go.RowKit Go.Conc

/-- Is it of the domain? -/
def inD (Zn : Nat) (d : Int) (z : Int) : Bool := Int.tdiv z Zn == d
section
variable {w : World} {D : Nat → Prop} {s : Value} {L : List Int} {Dn Zn : Nat}
theorem tdivB {z : Int} {Zn : Nat} (hz : 0 ≤ z ∧ z < 1000) : 0 ≤ Int.tdiv z Zn ∧ Int.tdiv z Zn < 1000 := by
  rw [Int.tdiv_eq_ediv_of_nonneg hz.1]
  have := Int.ediv_nonneg hz.1 (Int.natCast_nonneg Zn)
  have := Int.ediv_le_self (b := (Zn : Int)) hz.1
  omega
set_option maxRecDepth 100000 in
set_option maxHeartbeats 4000000 in
theorem refCount (h : RdAt D w s (ints L)) (hz : ∀ z ∈ L, 0 ≤ z ∧ z < 1000) (hl : L.length < 1000) (hZ : 1 ≤ Zn ∧ Zn ≤ 64) (d : Int) : Calls Try.prog 72 #[.agg #[.int .i64 Dn, .int .i64 Zn, s], .int .i64 d] w fun e w' =>
    e = .returned (.int .i64 (L.filter (inD Zn d)).length) ∧ Fr (fun _ => False) w w' := by
  obtain ⟨a, cp, rfl⟩ := h.val
  rw [ints_length] at h ⊢
  have HZ := Lib.hid hz
  clear hz
  have F1 := (Fr.refl (fun _ => False) w).alloc (.cells #[.int .i64 Dn, .int .i64 Zn, .slice a L.length cp] 70)
  have g1 := blk_new w (.cells #[.int .i64 Dn, .int .i64 Zn, .slice a L.length cp] 70)
  have h1 := h.fr F1 (fun _ _ => id)
  have c1 := fun i => blk_cell g1 i
  go_enter Try.func72, Try.ntmps72
  go_wp2_with fail
  generalize w.alloc (.cells #[.int .i64 Dn, .int .i64 Zn, .slice a L.length cp] 70) = w1 at F1 g1 h1 c1 ⊢
  go_loopw [5, 6] (fun n i W => ∃ k : Nat, k ≤ L.length ∧ i = .int .i64 k ∧ n = .int .i64 ((L.take k).filter (inD Zn d)).length ∧ Fr (fun _ => False) w1 W) (fun _ i _ => L.length - (intOf i).toNat)
  case atStart => exact ⟨0, by omega, rfl, rfl, Fr.refl _ _⟩
  case round =>
    clear c1
    obtain ⟨k, hk, rfl, rfl, hf⟩ := hrel
    have g2 := hf.heap g1 id
    have h2 := h1.fr hf (fun _ _ => id)
    have c2 := fun i => blk_cell g2 i
    have hlf : ((L.take k).filter (inD Zn d)).length ≤ k := Nat.le_trans (List.length_filter_le _ _) (by rw [List.length_take]; omega)
    by_cases hlt : k < L.length
    · obtain ⟨g, o, cp', e, hD, hcl⟩ := h2.cellAt (i := k) (by rw [ints_length]; exact hlt)
      rw [ints_get L hlt] at hcl
      rw [ints_length] at e
      cases e
      have hzk := HZ.out L[k] (List.getElem_mem hlt)
      have HT := Lib.hid (filter_take (p := inD Zn d) hlt)
      obtain ⟨n, hn⟩ : ∃ n, ((L.take k).filter (inD Zn d)).length = n := ⟨_, rfl⟩
      rw [hn] at hlf ⊢
      have HN := Lib.hid hn
      clear hn
      obtain ⟨x, hx⟩ : ∃ x, L[k] = x := ⟨_, rfl⟩
      rw [hx] at hcl hzk HT
      clear hx
      have hq := tdivB (Zn := Zn) hzk
      have hw : IntKind.i64.wrap (Int.tdiv x Zn) = Int.tdiv x Zn := IntWalk.i64_in _ (by omega)
      have hZ1 : ¬ (Zn = 0) := by omega
      go_wp2_with fail
      cases hp : inD Zn d x with
      | true =>
        have hp' : Int.tdiv x Zn = d := by simpa [inD] using hp
        have hpb : (Int.tdiv x Zn == d) = true := hp
        have HP := Lib.hid hp
        clear hp
        refine (wpIn_wide (n := 0)).1 ?_
        refine regionIn_seq (fun _ V => Fr (fun _ => False) wr V) rfl (by kernel_rfl) (by kernel_rfl) (by kernel_rfl) (fun _ => trivial) rfl (Fr.refl _ _).drew ?_
        iterate 10
          apply SeqR.step
          · rfl
          · intro d2 V hV ht
            have c3 := fun i => blk_cell (hV.heap g2 id) i
            have c4 := hV.cell hcl id
            simp [Oper.gives, execOp, Act.eval, go_sem, c3, c4, hlt, hZ1, hw, hpb]
            exact ⟨rfl, hV⟩
          simp only [Act.put, List.setIfInBounds_toArray, List.set_cons_succ, List.set_cons_zero]
        refine SeqR.nil fun V hV => ?_
        go_wp2_with fail
        go_roundw
        case rel => exact ⟨k + 1, by omega, by go_num, by rw [HT.out, HP.out]; simp [HN.out], hf.trans hV (fun _ _ h => h)⟩
        case measure => simp [intOf]; omega
      | false =>
        have hpb : (Int.tdiv x Zn == d) = false := hp
        have HP := Lib.hid hp
        clear hp
        refine (wpIn_wide (n := 0)).1 ?_
        refine regionIn_seq (fun _ V => Fr (fun _ => False) wr V) rfl (by kernel_rfl) (by kernel_rfl) (by kernel_rfl) (fun _ => trivial) rfl (Fr.refl _ _).drew ?_
        iterate 10
          apply SeqR.step
          · rfl
          · intro d2 V hV ht
            have c3 := fun i => blk_cell (hV.heap g2 id) i
            have c4 := hV.cell hcl id
            simp [Oper.gives, execOp, Act.eval, go_sem, c3, c4, hlt, hZ1, hw, hpb]
            exact ⟨rfl, hV⟩
          simp only [Act.put, List.setIfInBounds_toArray, List.set_cons_succ, List.set_cons_zero]
        refine SeqR.nil fun V hV => ?_
        go_wp2_with fail
        go_roundw
        case rel => exact ⟨k + 1, by omega, by go_num, by rw [HT.out, HP.out]; simp [HN.out], hf.trans hV (fun _ _ h => h)⟩
        case measure => simp [intOf]; omega
    · obtain rfl : k = L.length := by omega
      rw [List.take_length] at hlf ⊢
      go_wp2_with fail
      go_ret
      exact ⟨rfl, F1.trans hf (fun _ _ h => h)⟩
set_option maxRecDepth 100000 in
set_option maxHeartbeats 4000000 in
theorem refHas (h : RdAt D w s (ints L)) (hl : L.length < 1000) (z : Int) : Calls Try.prog 71 #[.agg #[.int .i64 Dn, .int .i64 Zn, s], .int .i64 z] w fun e w' =>
    e = .returned (.bool (decide (z ∈ L))) ∧ Fr (fun _ => False) w w' := by
  obtain ⟨a, cp, rfl⟩ := h.val
  rw [ints_length] at h ⊢
  have F1 := (Fr.refl (fun _ => False) w).alloc (.cells #[.int .i64 Dn, .int .i64 Zn, .slice a L.length cp] 70)
  have g1 := blk_new w (.cells #[.int .i64 Dn, .int .i64 Zn, .slice a L.length cp] 70)
  have h1 := h.fr F1 (fun _ _ => id)
  have c1 := fun i => blk_cell g1 i
  go_enter Try.func71, Try.ntmps71
  go_wp2_with fail
  generalize w.alloc (.cells #[.int .i64 Dn, .int .i64 Zn, .slice a L.length cp] 70) = w1 at F1 g1 h1 c1 ⊢
  go_loopw [5] (fun i W => ∃ k : Nat, k ≤ L.length ∧ i = .int .i64 k ∧ z ∉ L.take k ∧ W = w1) (fun i _ => L.length - (intOf i).toNat)
  case atStart => exact ⟨0, by omega, rfl, by simp, rfl⟩
  case round =>
    obtain ⟨k, hk, rfl, hno, rfl⟩ := hrel
    by_cases hlt : k < L.length
    · obtain ⟨g, o, cp', e, hD, hcl⟩ := h1.cellAt (i := k) (by rw [ints_length]; exact hlt)
      rw [ints_get L hlt] at hcl
      rw [ints_length] at e
      cases e
      have hm := List.getElem_mem hlt
      have HT := Lib.hid (List.take_succ_eq_append_getElem hlt)
      obtain ⟨x, hx⟩ : ∃ x, L[k] = x := ⟨_, rfl⟩
      rw [hx] at hcl hm HT
      clear hx
      by_cases hxz : x = z
      · subst hxz
        have hxx : (x == x) = true := by simp
        have HM := Lib.hid (decide_eq_true hm)
        clear hm
        go_wp2_with fail
        go_ret
        exact ⟨by rw [HM.out]; rfl, F1⟩
      · have hxb : (x == z) = false := by simpa using hxz
        have HNO := Lib.hid hno
        clear hno hm
        go_wp2_with fail
        go_roundw
        case rel => exact ⟨k + 1, by omega, by go_num, by rw [HT.out, List.mem_append, List.mem_singleton]; exact fun hh => hh.elim HNO.out (fun e => hxz e.symm), by trivial⟩
        case measure => simp [intOf]; omega
    · obtain rfl : k = L.length := by omega
      rw [List.take_length] at hno
      have HM := Lib.hid (decide_eq_false hno)
      clear hno
      go_wp2_with fail
      go_ret
      exact ⟨by rw [HM.out]; rfl, F1⟩
end
end Go.Proofs.Ytcdblopnaimfoaa

/- The document's pool: Give, Drop, Take. Conditions: fewer than 1000 zones, numbers below 1000. -/
namespace Go.Proofs.Ytcdblopnaimfoaa
open Go.RowKit Go.Conc

theorem resC66 {tmps : Array Value} {w : World} {b : Nat} {u c0 c1 c2 : Value} (h1 : tmps.getD 4 undef = .pointer (some ⟨b, 0, none⟩)) (h3 : tmps.getD 5 undef = u) (h2 : w.heap[b]? = some (.cells #[c0, c1, c2] 70 (0, 0))) :
    (results Try.f66 tmps).run Try.prog w = .ok (.tuple #[.agg #[c0, c1, c2], u]) w := by
  have c := fun i => blk_cell h2 i
  rw [Array.getD_eq_getD_getElem?] at h1 h3
  simp [results, Try.f66, go_sem, h1, h3, c]
theorem resC69 {tmps : Array Value} {w : World} {b : Nat} {u c0 c1 c2 : Value} (h1 : tmps.getD 4 undef = .pointer (some ⟨b, 0, none⟩)) (h3 : tmps.getD 5 undef = u) (h2 : w.heap[b]? = some (.cells #[c0, c1, c2] 70 (0, 0))) :
    (results Try.f69 tmps).run Try.prog w = .ok (.tuple #[.agg #[c0, c1, c2], u]) w := by
  have c := fun i => blk_cell h2 i
  rw [Array.getD_eq_getD_getElem?] at h1 h3
  simp [results, Try.f69, go_sem, h1, h3, c]
theorem resC67 {tmps : Array Value} {w : World} {b : Nat} {u v c0 c1 c2 : Value} (h1 : tmps.getD 4 undef = .pointer (some ⟨b, 0, none⟩)) (h3 : tmps.getD 5 undef = u) (h4 : tmps.getD 6 undef = v) (h2 : w.heap[b]? = some (.cells #[c0, c1, c2] 70 (0, 0))) :
    (results Try.f67 tmps).run Try.prog w = .ok (.tuple #[.agg #[c0, c1, c2], u, v]) w := by
  have c := fun i => blk_cell h2 i
  rw [Array.getD_eq_getD_getElem?] at h1 h3 h4
  simp [results, Try.f67, go_sem, h1, h3, h4, c]
/-- Two blocks laid. -/
theorem two (w : World) (o1 o2 : Obj) : Fr (fun _ => False) w ((w.alloc o1).alloc o2) ∧ ((w.alloc o1).alloc o2).heap[w.heap.size]? = some o1 ∧ ((w.alloc o1).alloc o2).heap[w.heap.size + 1]? = some o2 ∧ ((w.alloc o1).alloc o2).heap.size = w.heap.size + 2 := by
  refine ⟨((Fr.refl _ w).alloc _).alloc _, blk_alloc (blk_new w o1) o2, ?_, by simp⟩
  have := blk_new (w.alloc o1) o2
  rwa [World.size_alloc] at this
section
variable {w : World} {D : Nat → Prop} {s : Value} {L : List Int} {Dn Zn : Nat}
/-- What stands at the beginning: the argument in a box, room for the answer. -/
theorem rstart (h : RdAt D w s (ints L)) : ∀ w1, w1 = (w.alloc (.cells #[.int .i64 Dn, .int .i64 Zn, s] 70)).alloc (.cells #[.int .i64 0, .int .i64 0, .slice none 0 0] 70) → Fr (fun _ => False) w w1 ∧ w1.heap[w.heap.size]? = some (.cells #[.int .i64 Dn, .int .i64 Zn, s] 70 (0, 0)) ∧ w1.heap[w.heap.size + 1]? = some (.cells #[.int .i64 0, .int .i64 0, .slice none 0 0] 70 (0, 0)) ∧ w1.heap.size = w.heap.size + 2 ∧ RdAt (fun k => k < w.heap.size) w1 s (ints L) := by
  rintro w1 rfl
  obtain ⟨f, a, b, c⟩ := two w (.cells #[.int .i64 Dn, .int .i64 Zn, s] 70) (.cells #[.int .i64 0, .int .i64 0, .slice none 0 0] 70)
  refine ⟨f, a, b, c, ?_⟩
  obtain ⟨x, cp, e1, e2, h3⟩ := h
  refine ⟨x, cp, e1, e2, fun hne => ?_⟩
  obtain ⟨g, o, e, hD, hc⟩ := h3 hne
  exact ⟨g, o, e, cell_lt (hc 0 (List.length_pos_iff.2 hne)), fun i hi => f.cell (hc i hi) id⟩
set_option maxRecDepth 100000 in
set_option maxHeartbeats 4000000 in
theorem refGive_out (h : RdAt D w s (ints L)) (hdz : (Dn : Int) * Zn ≤ 512 ∧ 0 ≤ (Dn : Int) * Zn) (z : Int) (hz : z < 0 ∨ (Dn : Int) * Zn ≤ z) : Calls Try.prog 66 #[.agg #[.int .i64 Dn, .int .i64 Zn, s], .int .i64 z] w fun e w' =>
    e = .returned (.tuple #[.agg #[.int .i64 Dn, .int .i64 Zn, s], .int .i64 13]) ∧ Fr (fun _ => False) w w' := by
  obtain ⟨a, cp, rfl⟩ := h.val
  rw [ints_length] at h ⊢
  have hst := two w (.cells #[.int .i64 Dn, .int .i64 Zn, .slice a L.length cp] 70) (.cells #[.int .i64 Dn, .int .i64 Zn, .slice a L.length cp] 70)
  by_cases hz0 : z < 0
  · go_enter Try.func66, Try.ntmps66
    go_wp2_with fail
    exact bodyPost_ret (resC66 rfl rfl hst.2.2.1) rfl ⟨rfl, hst.1⟩
  · have hz1 : (Dn : Int) * Zn ≤ z := by omega
    go_enter Try.func66, Try.ntmps66
    go_wp2_with fail
    exact bodyPost_ret (resC66 rfl rfl hst.2.2.1) rfl ⟨rfl, hst.1⟩
set_option maxRecDepth 100000 in
set_option maxHeartbeats 4000000 in
theorem refGive_twice (h : RdAt D w s (ints L)) (hl : L.length < 1000) (hdz : (Dn : Int) * Zn ≤ 512 ∧ 0 ≤ (Dn : Int) * Zn) (z : Int) (hz : 0 ≤ z ∧ z < (Dn : Int) * Zn) (hm : z ∈ L) : Calls Try.prog 66 #[.agg #[.int .i64 Dn, .int .i64 Zn, s], .int .i64 z] w fun e w' =>
    e = .returned (.tuple #[.agg #[.int .i64 Dn, .int .i64 Zn, s], .int .i64 16]) ∧ Fr (fun _ => False) w w' := by
  obtain ⟨a, cp, rfl⟩ := h.val
  rw [ints_length] at h ⊢
  have hst := rstart (Dn := Dn) (Zn := Zn) h _ rfl
  have HM := Lib.hid hm
  clear hm
  go_enter Try.func66, Try.ntmps66
  go_wp2_with fail
  generalize (w.alloc (.cells #[.int .i64 Dn, .int .i64 Zn, .slice a L.length cp] 70)).alloc (.cells #[.int .i64 0, .int .i64 0, .slice none 0 0] 70) = w1 at hst ⊢
  obtain ⟨f1, g1, g2, s1, r1⟩ := hst
  have hh := refHas (Dn := Dn) (Zn := Zn) r1 hl z
  rw [decide_eq_true HM.out] at hh
  refine hh.mono ?_
  rintro e w2 ⟨rfl, f2⟩
  have g12 := f2.heap g1 id
  have g22 := f2.heap g2 id
  have c1 := fun i => blk_cell g12 i
  have c2 := fun i => blk_frozen g22 i
  have c3 := fun i => blk_cell g22 i
  clear hh
  go_wp2_with fail
  exact bodyPost_ret (resC66 rfl rfl (put3 g22 _ _ _)) rfl ⟨rfl, (f1.trans f2 (fun _ _ h => h)).trans (put3_fr _ _ _ _ _) (fun i hi e => by omega)⟩
set_option maxRecDepth 100000 in
set_option maxHeartbeats 4000000 in
theorem refGive_ok (h : RdAt D w s (ints L)) (hl : L.length < 1000) (hdz : (Dn : Int) * Zn ≤ 512 ∧ 0 ≤ (Dn : Int) * Zn) (z : Int) (hz : 0 ≤ z ∧ z < (Dn : Int) * Zn) (hm : z ∉ L) : Calls Try.prog 66 #[.agg #[.int .i64 Dn, .int .i64 Zn, s], .int .i64 z] w fun e w' =>
    ∃ u, e = .returned (.tuple #[.agg #[.int .i64 Dn, .int .i64 Zn, u], .int .i64 0]) ∧ w'.ownsRow w.heap.size 3 1 u (L.length + 1) (ints (L ++ [z])) ∧ Fr (fun _ => False) w w' := by
  obtain ⟨a, cp, rfl⟩ := h.val
  rw [ints_length] at h ⊢
  have hst := rstart (Dn := Dn) (Zn := Zn) h _ rfl
  have HM := Lib.hid hm
  clear hm
  go_enter Try.func66, Try.ntmps66
  go_wp2_with fail
  generalize (w.alloc (.cells #[.int .i64 Dn, .int .i64 Zn, .slice a L.length cp] 70)).alloc (.cells #[.int .i64 0, .int .i64 0, .slice none 0 0] 70) = w1 at hst ⊢
  obtain ⟨f1, g1, g2, s1, r1⟩ := hst
  have hh := refHas (Dn := Dn) (Zn := Zn) r1 hl z
  rw [decide_eq_false HM.out] at hh
  refine hh.mono ?_
  rintro e w2 ⟨rfl, f2⟩
  have g12 := f2.heap g1 id
  have g22 := f2.heap g2 id
  have r2 := r1.fr f2 (fun _ _ => id)
  have c1 := fun i => blk_cell g12 i
  have hs2 := f2.size
  clear hh
  go_wp2_with (first | (at_builtin; refine wpList_app (v := .slice none 0 0) (m := L.length) rfl (.tmp 23) (.tmp 25) rfl rfl rfl rfl (World.ownsRow_nil w2 w2.heap.size 3 1) r2 (ints_length L) (ints_one L) (by omega) (Nat.le_refl _) ?_; intro a3 n3 w3 hown3 hgrow3 hat3; rw [Nat.zero_add, List.nil_append] at hown3; have f3 : Fr (fun _ => False) w2 w3 := Fr.grown hgrow3 (fun k hk => by cases hk); have s3 := f3.size; have g13 := f3.heap g12 id; have g23 := f3.heap g22 id; clear c1; have c1 := fun i => blk_cell g13 i; have e1 := fun i => blk_frozen g13 i; rw [Nat.zero_add]) | (at_builtin; refine wpList_app (v := .slice a3 L.length n3) (m := 1) rfl (.tmp 27) (.tmp 29) rfl rfl rfl rfl (row_fr hown3 ((Fr.refl (fun _ => False) w3).alloc _) (fun _ _ => id)) (one_rd w3 (.int .i64 z)) rfl (by intro u hu; simp at hu; subst hu; rfl) (by omega) (by simp; omega) ?_; intro a4 n4 w4 hown4 hgrow4 hat4; have f4 : Fr (fun j => (Value.slice a3 L.length n3).ownBlock = some j) (w3.alloc (.cells #[.int .i64 z] 3)) w4 := Fr.grown hgrow4 (fun k hk => hk); have g14 := f4.heap (blk_alloc g13 _) (fun e => by have := (hown3.lt _ e).1; omega); have g24 := f4.heap (blk_alloc g23 _) (fun e => by have := (hown3.lt _ e).1; omega); clear c1 e1; have c1 := fun i => blk_cell g14 i; have e1 := fun i => blk_frozen g14 i; have c2 := fun i => blk_cell g24 i; have e2 := fun i => blk_frozen g24 i))
  have f5 := Fr.set1 w4 w.heap.size 2 (.slice a4 (L.length + 1) n4)
  have g25 := f5.heap g24 (by omega)
  have f6 := put3_fr (w4.setCell ⟨w.heap.size, 2, none⟩ (.slice a4 (L.length + 1) n4)) (w.heap.size + 1) (.int .i64 Dn) (.int .i64 Zn) (.slice a4 (L.length + 1) n4)
  have ho6 := row_fr (row_fr hown4 f5 (fun k hk e => by have := (hown4.lt _ hk).1; omega)) f6 (fun k hk e => by have := (hown4.lt _ hk).1; omega)
  rw [show ints L ++ [.int .i64 z] = ints (L ++ [z]) by simp [ints]] at ho6
  exact bodyPost_ret (resC66 rfl rfl (put3 g25 _ _ _)) rfl ⟨_, rfl, row_base ho6 (by omega), (((((f1.trans f2 (fun _ _ h => h)).trans f3 (fun _ _ h => h)).alloc _).trans f4 (fun i hi e => by have := (hown3.lt _ e).1; omega)).trans f5 (fun i hi e => by omega)).trans f6 (fun i hi e => by omega)⟩
set_option maxRecDepth 100000 in
set_option maxHeartbeats 4000000 in
theorem refDrop_no (h : RdAt D w s (ints L)) (hl : L.length < 1000) (z : Int) (hm : z ∉ L) : Calls Try.prog 69 #[.agg #[.int .i64 Dn, .int .i64 Zn, s], .int .i64 z] w fun e w' =>
    e = .returned (.tuple #[.agg #[.int .i64 Dn, .int .i64 Zn, s], .int .i64 15]) ∧ Fr (fun _ => False) w w' := by
  obtain ⟨a, cp, rfl⟩ := h.val
  rw [ints_length] at h ⊢
  have hst := rstart (Dn := Dn) (Zn := Zn) h _ rfl
  have HM := Lib.hid hm
  clear hm
  go_enter Try.func69, Try.ntmps69
  go_wp2_with fail
  generalize (w.alloc (.cells #[.int .i64 Dn, .int .i64 Zn, .slice a L.length cp] 70)).alloc (.cells #[.int .i64 0, .int .i64 0, .slice none 0 0] 70) = w1 at hst ⊢
  obtain ⟨f1, g1, g2, s1, r1⟩ := hst
  have hh := refHas (Dn := Dn) (Zn := Zn) r1 hl z
  rw [decide_eq_false HM.out] at hh
  refine hh.mono ?_
  rintro e w2 ⟨rfl, f2⟩
  have g12 := f2.heap g1 id
  have g22 := f2.heap g2 id
  have c1 := fun i => blk_cell g12 i
  have c2 := fun i => blk_frozen g22 i
  have c3 := fun i => blk_cell g22 i
  clear hh
  go_wp2_with fail
  exact bodyPost_ret (resC69 rfl rfl (put3 g22 _ _ _)) rfl ⟨rfl, (f1.trans f2 (fun _ _ h => h)).trans (put3_fr _ _ _ _ _) (fun i hi e => by omega)⟩
set_option maxRecDepth 100000 in
set_option maxHeartbeats 4000000 in
theorem refDrop_yes (h : RdAt D w s (ints L)) (hl : L.length < 1000) (z : Int) (hm : z ∈ L) : Calls Try.prog 69 #[.agg #[.int .i64 Dn, .int .i64 Zn, s], .int .i64 z] w fun e w' =>
    ∃ u, e = .returned (.tuple #[.agg #[.int .i64 Dn, .int .i64 Zn, u], .int .i64 0]) ∧ w'.ownsRow w.heap.size 3 1 u (L.filter (neB z)).length (ints (L.filter (neB z))) ∧ Fr (fun _ => False) w w' := by
  obtain ⟨a, cp, rfl⟩ := h.val
  rw [ints_length] at h ⊢
  have hst := rstart (Dn := Dn) (Zn := Zn) h _ rfl
  have HM := Lib.hid hm
  clear hm
  go_enter Try.func69, Try.ntmps69
  go_wp2_with fail
  generalize (w.alloc (.cells #[.int .i64 Dn, .int .i64 Zn, .slice a L.length cp] 70)).alloc (.cells #[.int .i64 0, .int .i64 0, .slice none 0 0] 70) = w1 at hst ⊢
  obtain ⟨f1, g1, g2, s1, r1⟩ := hst
  have hh := refHas (Dn := Dn) (Zn := Zn) r1 hl z
  rw [decide_eq_true HM.out] at hh
  refine hh.mono ?_
  rintro e w2 ⟨rfl, f2⟩
  have g12 := f2.heap g1 id
  have g22 := f2.heap g2 id
  have r2 := r1.fr f2 (fun _ _ => id)
  have c1 := fun i => blk_cell g12 i
  have hs2 := f2.size
  clear hh g1 g2 r1
  go_wp2_with fail
  go_loopw [6, 7] (fun u i W => ∃ k : Nat, k ≤ L.length ∧ i = .int .i64 k ∧ W.ownsRow w2.heap.size 3 1 u ((L.take k).filter (neB z)).length (ints ((L.take k).filter (neB z))) ∧ Fr (fun _ => False) w2 W) (fun _ i _ => L.length - (intOf i).toNat)
  case atStart => exact ⟨0, by omega, rfl, World.ownsRow_nil _ _ _ _, Fr.refl _ _⟩
  case round =>
    clear c1
    obtain ⟨k, hk, rfl, hu, hf⟩ := hrel
    obtain ⟨au, cu, rfl⟩ := row_val hu
    have g13 := hf.heap g12 id
    have g23 := hf.heap g22 id
    have c1 := fun i => blk_cell g13 i
    have hlf : ((L.take k).filter (neB z)).length ≤ k := Nat.le_trans (List.length_filter_le _ _) (by rw [List.length_take]; omega)
    have hsz := hf.size
    by_cases hlt : k < L.length
    · obtain ⟨g, o, cp', e, hD, hcl⟩ := (r2.fr hf (fun _ _ => id)).cellAt (i := k) (by rw [ints_length]; exact hlt)
      rw [ints_get L hlt] at hcl
      rw [ints_length] at e
      cases e
      have HT := Lib.hid (filter_take (p := neB z) hlt)
      obtain ⟨n, hn⟩ : ∃ n, ((L.take k).filter (neB z)).length = n := ⟨_, rfl⟩
      obtain ⟨M, hM⟩ : ∃ M, (L.take k).filter (neB z) = M := ⟨_, rfl⟩
      have HM2 := Lib.hid hM
      rw [hM] at hu hn ⊢
      rw [hn] at hu ⊢
      have HN := Lib.hid hn
      have hnk : n ≤ k := by rw [← hn, ← hM]; exact hlf
      clear hlf hM hn
      obtain ⟨x, hx⟩ : ∃ x, L[k] = x := ⟨_, rfl⟩
      rw [hx] at hcl HT
      clear hx
      cases hpk : (x != z) with
      | true =>
        have HP := Lib.hid (show neB z x = true from hpk)
        go_wp2_with (at_builtin; refine wpList_app (v := .slice au n cu) (m := 1) rfl (.tmp 27) (.tmp 33) rfl rfl rfl rfl (row_fr hu ((Fr.refl (fun _ => False) wr).alloc _) (fun _ _ => id)) (one_rd wr (.int .i64 x)) rfl (by intro u hu; simp at hu; subst hu; rfl) (by omega) (by simp; omega) ?_; intro a4 n4 w4 hown4 hgrow4 hat4)
        have f4 : Fr (fun j => (Value.slice au n cu).ownBlock = some j) (wr.alloc (.cells #[.int .i64 x] 3)) w4 := Fr.grown hgrow4 (fun k hk => hk)
        have f5 : Fr (fun _ => False) w2 w4 := (hf.alloc _).trans f4 (fun i hi e => by have := (hu.lt i e).1; omega)
        have e2 : ints M ++ [.int .i64 x] = ints ((L.take (k + 1)).filter (neB z)) := by rw [HT.out, HP.out, HM2.out]; simp [ints]
        have e3 : n + 1 = ((L.take (k + 1)).filter (neB z)).length := by rw [HT.out, HP.out, HM2.out]; simp [HN.out]
        rw [e2] at hown4
        have E3 := Lib.hid e3
        clear e2 e3 hu hgrow4 hat4 f4 hpk
        go_roundw
        case rel => exact ⟨k + 1, by omega, by go_num, by rw [← E3.out]; exact hown4, f5⟩
        case measure => simp [intOf]; omega
      | false =>
        have HP := Lib.hid (show neB z x = false from hpk)
        go_wp2_with fail
        have e2 : (L.take (k + 1)).filter (neB z) = M := by rw [HT.out, HP.out, HM2.out]; simp
        go_roundw
        case rel => exact ⟨k + 1, by omega, by go_num, by rw [e2, HN.out]; exact hu, hf⟩
        case measure => simp [intOf]; omega
    · obtain rfl : k = L.length := by omega
      rw [List.take_length] at hu ⊢
      clear hlf
      obtain ⟨n, hn⟩ : ∃ n, (L.filter (neB z)).length = n := ⟨_, rfl⟩
      rw [hn] at hu ⊢
      have HN := Lib.hid hn
      clear hn
      have e1 := fun i => blk_frozen g13 i
      have c2 := fun i => blk_cell g23 i
      have e2 := fun i => blk_frozen g23 i
      go_wp2_with fail
      have f5 := Fr.set1 wr w.heap.size 2 (.slice au n cu)
      have g25 := f5.heap g23 (by omega)
      have f6 := put3_fr (wr.setCell ⟨w.heap.size, 2, none⟩ (.slice au n cu)) (w.heap.size + 1) (.int .i64 Dn) (.int .i64 Zn) (.slice au n cu)
      have ho6 := row_fr (row_fr hu f5 (fun k hk e => by have := (hu.lt _ hk).1; omega)) f6 (fun k hk e => by have := (hu.lt _ hk).1; omega)
      exact bodyPost_ret (resC69 rfl rfl (put3 g25 _ _ _)) rfl ⟨_, rfl, by first | exact row_base ho6 (by omega) | (rw [HN.out]; exact row_base ho6 (by omega)), (((f1.trans f2 (fun _ _ h => h)).trans hf (fun _ _ h => h)).trans f5 (fun i hi e => by omega)).trans f6 (fun i hi e => by omega)⟩
end
end Go.Proofs.Ytcdblopnaimfoaa

/- The document's pool: Take. Conditions: fewer than 1000 zones, numbers below 1000. -/
namespace Go.Proofs.Ytcdblopnaimfoaa
open Go.RowKit Go.Conc

section
variable {w : World} {D : Nat → Prop} {s : Value} {L : List Int} {Dn Zn : Nat}
theorem first_in {p : Int → Bool} {k : Nat} (h : k < L.length) (hno : (L.take k).filter p = []) (hp : p L[k] = true) : ∃ t, L.filter p = L[k] :: t := by
  refine ⟨(L.drop (k + 1)).filter p, ?_⟩
  have e := List.take_append_drop k L
  rw [List.drop_eq_getElem_cons h] at e
  conv => lhs; rw [← e]
  rw [List.filter_append, hno, List.nil_append, List.filter_cons_of_pos hp]
set_option maxRecDepth 100000 in
set_option maxHeartbeats 4000000 in
theorem refTakeP_out (h : RdAt D w s (ints L)) (d : Int) (hd : d < 0 ∨ (Dn : Int) ≤ d) : Calls Try.prog 67 #[.agg #[.int .i64 Dn, .int .i64 Zn, s], .int .i64 d] w fun e w' =>
    e = .returned (.tuple #[.agg #[.int .i64 Dn, .int .i64 Zn, s], .int .i64 0, .int .i64 13]) ∧ Fr (fun _ => False) w w' := by
  obtain ⟨a, cp, rfl⟩ := h.val
  rw [ints_length] at h ⊢
  have hst := two w (.cells #[.int .i64 Dn, .int .i64 Zn, .slice a L.length cp] 70) (.cells #[.int .i64 Dn, .int .i64 Zn, .slice a L.length cp] 70)
  by_cases hz0 : d < 0
  · go_enter Try.func67, Try.ntmps67
    go_wp2_with fail
    exact bodyPost_ret (resC67 rfl rfl rfl hst.2.2.1) rfl ⟨rfl, hst.1⟩
  · have hz1 : (Dn : Int) ≤ d := by omega
    go_enter Try.func67, Try.ntmps67
    go_wp2_with fail
    exact bodyPost_ret (resC67 rfl rfl rfl hst.2.2.1) rfl ⟨rfl, hst.1⟩
set_option maxRecDepth 100000 in
set_option maxHeartbeats 4000000 in
theorem refTakeP_none (h : RdAt D w s (ints L)) (hz : ∀ z ∈ L, 0 ≤ z ∧ z < 1000) (hl : L.length < 1000) (hZ : 1 ≤ Zn ∧ Zn ≤ 64) (d : Int) (hd : 0 ≤ d ∧ d < (Dn : Int)) (hf0 : L.filter (inD Zn d) = []) : Calls Try.prog 67 #[.agg #[.int .i64 Dn, .int .i64 Zn, s], .int .i64 d] w fun e w' =>
    e = .returned (.tuple #[.agg #[.int .i64 Dn, .int .i64 Zn, s], .int .i64 0, .int .i64 15]) ∧ Fr (fun _ => False) w w' := by
  obtain ⟨a, cp, rfl⟩ := h.val
  rw [ints_length] at h ⊢
  have hst := rstart (Dn := Dn) (Zn := Zn) h _ rfl
  have HZ := Lib.hid hz
  have HF := Lib.hid hf0
  clear hz hf0
  go_enter Try.func67, Try.ntmps67
  go_wp2_with fail
  generalize (w.alloc (.cells #[.int .i64 Dn, .int .i64 Zn, .slice a L.length cp] 70)).alloc (.cells #[.int .i64 0, .int .i64 0, .slice none 0 0] 70) = w1 at hst ⊢
  obtain ⟨f1, g1, gb, s1, r1⟩ := hst
  have c1 := fun i => blk_cell g1 i
  go_wp2_with fail
  go_loopw [7] (fun i W => ∃ k : Nat, k ≤ L.length ∧ i = .int .i64 k ∧ (L.take k).filter (inD Zn d) = [] ∧ Fr (fun _ => False) w1 W) (fun i _ => L.length - (intOf i).toNat)
  case atStart => exact ⟨0, by omega, rfl, rfl, Fr.refl _ _⟩
  case round =>
    clear c1
    obtain ⟨k, hk, rfl, hno, hf⟩ := hrel
    have g2 := hf.heap g1 id
    have gb2 := hf.heap gb id
    have h2 := r1.fr hf (fun _ _ => id)
    have c2 := fun i => blk_cell g2 i
    have hsz := hf.size
    by_cases hlt : k < L.length
    · obtain ⟨g, o, cp', e, hD, hcl⟩ := h2.cellAt (i := k) (by rw [ints_length]; exact hlt)
      rw [ints_get L hlt] at hcl
      rw [ints_length] at e
      cases e
      have hzk := HZ.out L[k] (List.getElem_mem hlt)
      have HT := Lib.hid (filter_take (p := inD Zn d) hlt)
      have HG := Lib.hid (first_in (p := inD Zn d) hlt hno)
      have hmk := List.getElem_mem hlt
      obtain ⟨y, hx⟩ : ∃ y, L[k] = y := ⟨_, rfl⟩
      rw [hx] at hcl hzk HT HG hmk
      have HMK := Lib.hid hmk
      have HNO := Lib.hid hno
      clear hx hmk hno
      have hq := tdivB (Zn := Zn) hzk
      have hw : IntKind.i64.wrap (Int.tdiv y Zn) = Int.tdiv y Zn := IntWalk.i64_in _ (by omega)
      have hZ1 : ¬ (Zn = 0) := by omega
      go_wp2_with fail
      cases hp : inD Zn d y with
      | true =>
        obtain ⟨t, ht⟩ := HG.out hp
        have := HF.out
        rw [ht] at this
        cases this
      | false =>
        have hpb : (Int.tdiv y Zn == d) = false := hp
        have HP := Lib.hid hp
        clear hp
        refine (wpIn_wide (n := 0)).1 ?_
        refine regionIn_seq (fun _ V => Fr (fun _ => False) wr V) rfl (by kernel_rfl) (by kernel_rfl) (by kernel_rfl) (fun _ => trivial) rfl (Fr.refl _ _).drew ?_
        iterate 10
          apply SeqR.step
          · rfl
          · intro d2 V hV ht
            have c3 := fun i => blk_cell (hV.heap g2 id) i
            have c4 := hV.cell hcl id
            simp [Oper.gives, execOp, Act.eval, go_sem, c3, c4, hlt, hZ1, hw, hpb]
            exact ⟨rfl, hV⟩
          simp only [Act.put, List.setIfInBounds_toArray, List.set_cons_succ, List.set_cons_zero]
        refine SeqR.nil fun V hV => ?_
        go_wp2_with fail
        go_roundw
        case rel => exact ⟨k + 1, by omega, by go_num, by rw [HT.out, HNO.out, HP.out]; rfl, hf.trans hV (fun _ _ h => h)⟩
        case measure => simp [intOf]; omega
    · obtain rfl : k = L.length := by omega
      have c3 := fun i => blk_cell gb2 i
      have e3 := fun i => blk_frozen gb2 i
      clear hno
      go_wp2_with fail
      exact bodyPost_ret (resC67 rfl rfl rfl (put3 gb2 _ _ _)) rfl ⟨rfl, (f1.trans hf (fun _ _ h => h)).trans (put3_fr _ _ _ _ _) (fun i hi e => by omega)⟩
set_option maxRecDepth 100000 in
set_option maxHeartbeats 4000000 in
theorem refTakeP_some (h : RdAt D w s (ints L)) (hz : ∀ z ∈ L, 0 ≤ z ∧ z < 1000) (hl : L.length < 1000) (hZ : 1 ≤ Zn ∧ Zn ≤ 64) (d : Int) (hd : 0 ≤ d ∧ d < (Dn : Int)) {x : Int} {t : List Int} (hf0 : L.filter (inD Zn d) = x :: t) : Calls Try.prog 67 #[.agg #[.int .i64 Dn, .int .i64 Zn, s], .int .i64 d] w fun e w' =>
    ∃ u, e = .returned (.tuple #[.agg #[.int .i64 Dn, .int .i64 Zn, u], .int .i64 x, .int .i64 0]) ∧ w'.ownsRow w.heap.size 3 1 u (L.filter (neB x)).length (ints (L.filter (neB x))) ∧ Fr (fun _ => False) w w' := by
  obtain ⟨a, cp, rfl⟩ := h.val
  rw [ints_length] at h ⊢
  have hst := rstart (Dn := Dn) (Zn := Zn) h _ rfl
  have HZ := Lib.hid hz
  have HF := Lib.hid hf0
  clear hz hf0
  go_enter Try.func67, Try.ntmps67
  go_wp2_with fail
  generalize (w.alloc (.cells #[.int .i64 Dn, .int .i64 Zn, .slice a L.length cp] 70)).alloc (.cells #[.int .i64 0, .int .i64 0, .slice none 0 0] 70) = w1 at hst ⊢
  obtain ⟨f1, g1, gb, s1, r1⟩ := hst
  have c1 := fun i => blk_cell g1 i
  go_wp2_with fail
  go_loopw [7] (fun i W => ∃ k : Nat, k ≤ L.length ∧ i = .int .i64 k ∧ (L.take k).filter (inD Zn d) = [] ∧ Fr (fun _ => False) w1 W) (fun i _ => L.length - (intOf i).toNat)
  case atStart => exact ⟨0, by omega, rfl, rfl, Fr.refl _ _⟩
  case round =>
    clear c1
    obtain ⟨k, hk, rfl, hno, hf⟩ := hrel
    have g2 := hf.heap g1 id
    have gb2 := hf.heap gb id
    have h2 := r1.fr hf (fun _ _ => id)
    have c2 := fun i => blk_cell g2 i
    have hsz := hf.size
    by_cases hlt : k < L.length
    · obtain ⟨g, o, cp', e, hD, hcl⟩ := h2.cellAt (i := k) (by rw [ints_length]; exact hlt)
      rw [ints_get L hlt] at hcl
      rw [ints_length] at e
      cases e
      have hzk := HZ.out L[k] (List.getElem_mem hlt)
      have HT := Lib.hid (filter_take (p := inD Zn d) hlt)
      have HG := Lib.hid (first_in (p := inD Zn d) hlt hno)
      have hmk := List.getElem_mem hlt
      obtain ⟨y, hx⟩ : ∃ y, L[k] = y := ⟨_, rfl⟩
      rw [hx] at hcl hzk HT HG hmk
      have HMK := Lib.hid hmk
      have HNO := Lib.hid hno
      clear hx hmk hno
      have hq := tdivB (Zn := Zn) hzk
      have hw : IntKind.i64.wrap (Int.tdiv y Zn) = Int.tdiv y Zn := IntWalk.i64_in _ (by omega)
      have hZ1 : ¬ (Zn = 0) := by omega
      go_wp2_with fail
      cases hp : inD Zn d y with
      | true =>
        obtain ⟨t2, ht⟩ := HG.out hp
        have hyx := HF.out
        rw [ht] at hyx
        obtain ⟨rfl, rfl⟩ := List.cons.inj hyx
        have hpb : (Int.tdiv y Zn == d) = true := hp
        clear hp ht hyx
        refine (wpIn_wide (n := 0)).1 ?_
        refine regionIn_seq (fun _ V => Fr (fun _ => False) wr V) rfl (by kernel_rfl) (by kernel_rfl) (by kernel_rfl) (fun _ => trivial) rfl (Fr.refl _ _).drew ?_
        iterate 10
          apply SeqR.step
          · rfl
          · intro d2 V hV ht
            have c3 := fun i => blk_cell (hV.heap g2 id) i
            have c4 := hV.cell hcl id
            simp [Oper.gives, execOp, Act.eval, go_sem, c3, c4, hlt, hZ1, hw, hpb]
            exact ⟨rfl, hV⟩
          simp only [Act.put, List.setIfInBounds_toArray, List.set_cons_succ, List.set_cons_zero]
        refine SeqR.nil fun V hV => ?_
        have g3 := hV.heap g2 id
        have gb3 := hV.heap gb2 id
        have hcl3 := hV.cell hcl id
        have h3 := h2.fr hV (fun _ _ => id)
        have c3 := fun i => blk_cell g3 i
        have hvs := hV.size
        have hdr := refDrop_yes (Dn := Dn) (Zn := Zn) h3 hl y HMK.out
        clear hcl c2 hw hpb hq
        go_wp2_with fail
        refine hdr.mono ?_
        rintro e w4 ⟨u, rfl, hrow, f4⟩
        obtain ⟨au, cu, rfl⟩ := row_val hrow
        have g4 := f4.heap g3 id
        have gb4 := f4.heap gb3 id
        have hws := f4.size
        obtain ⟨n, hn⟩ : ∃ n, (L.filter (neB y)).length = n := ⟨_, rfl⟩
        rw [hn] at hrow ⊢
        have HN := Lib.hid hn
        clear c3 hdr hn
        have c4 := fun i => blk_cell g4 i
        have e4 := fun i => blk_frozen g4 i
        have f5 := put3_fr w4 w.heap.size (.int .i64 Dn) (.int .i64 Zn) (.slice au n cu)
        have g5 := put3 g4 (.int .i64 Dn) (.int .i64 Zn) (.slice au n cu)
        have gb5 := f5.heap gb4 (by omega)
        have c5 := fun i => blk_cell gb5 i
        have e5 := fun i => blk_frozen gb5 i
        have c6 := fun i => blk_cell g5 i
        have ho5 := row_fr hrow f5 (fun k hk e => by have := (hrow.lt _ hk).1; omega)
        have hs5 := f5.size
        go_wp2_with fail
        have f6 := put3_fr (((w4.setCell ⟨w.heap.size, 0, none⟩ (.int .i64 Dn)).setCell ⟨w.heap.size, 1, none⟩ (.int .i64 Zn)).setCell ⟨w.heap.size, 2, none⟩ (.slice au n cu)) (w.heap.size + 1) (.int .i64 Dn) (.int .i64 Zn) (.slice au n cu)
        have ho6 := row_fr ho5 f6 (fun k hk e => by have := (ho5.lt _ hk).1; omega)
        exact bodyPost_ret (resC67 rfl rfl rfl (put3 gb5 _ _ _)) rfl ⟨_, rfl, by rw [HN.out]; exact row_base ho6 (by omega), ((((f1.trans hf (fun _ _ h => h)).trans hV (fun _ _ h => h)).trans f4 (fun _ _ h => h)).trans f5 (fun i hi e => by omega)).trans f6 (fun i hi e => by omega)⟩
      | false =>
        have hpb : (Int.tdiv y Zn == d) = false := hp
        have HP := Lib.hid hp
        clear hp
        refine (wpIn_wide (n := 0)).1 ?_
        refine regionIn_seq (fun _ V => Fr (fun _ => False) wr V) rfl (by kernel_rfl) (by kernel_rfl) (by kernel_rfl) (fun _ => trivial) rfl (Fr.refl _ _).drew ?_
        iterate 10
          apply SeqR.step
          · rfl
          · intro d2 V hV ht
            have c3 := fun i => blk_cell (hV.heap g2 id) i
            have c4 := hV.cell hcl id
            simp [Oper.gives, execOp, Act.eval, go_sem, c3, c4, hlt, hZ1, hw, hpb]
            exact ⟨rfl, hV⟩
          simp only [Act.put, List.setIfInBounds_toArray, List.set_cons_succ, List.set_cons_zero]
        refine SeqR.nil fun V hV => ?_
        go_wp2_with fail
        go_roundw
        case rel => exact ⟨k + 1, by omega, by go_num, by rw [HT.out, HNO.out, HP.out]; rfl, hf.trans hV (fun _ _ h => h)⟩
        case measure => simp [intOf]; omega
    · obtain rfl : k = L.length := by omega
      rw [List.take_length, HF.out] at hno
      cases hno
end
end Go.Proofs.Ytcdblopnaimfoaa

/- Plain words: a list of zones, and the domains' lists. No condition. -/
namespace Go.Proofs.Ytcdblopnaimfoaa
open Go.RowKit

/-- One list holds what the domains' lists hold. -/
structure Lk (Dn Zn : Nat) (C : Nat → List Int) (L : List Int) : Prop where
  nd : L.Nodup
  rg : ∀ z ∈ L, 0 ≤ z ∧ z < (Dn : Int) * Zn
  cc : ∀ d : Nat, d < Dn → L.filter (inD Zn d) = C d
section
variable {Dn Zn : Nat} {C : Nat → List Int} {L : List Int}
theorem tdiv_dom {z : Int} (hZ : 1 ≤ Zn) (h : 0 ≤ z ∧ z < (Dn : Int) * Zn) : ∃ d : Nat, d < Dn ∧ Int.tdiv z Zn = d ∧ (d : Int) * Zn ≤ z ∧ z < ((d : Int) + 1) * Zn := by
  rw [Int.tdiv_eq_ediv_of_nonneg h.1]
  have h0 : (0 : Int) < Zn := by omega
  have h1 := Int.ediv_nonneg h.1 (Int.le_of_lt h0)
  obtain ⟨d, hd⟩ := Int.eq_ofNat_of_zero_le h1
  have h2 : z / (Zn : Int) < Dn := Int.ediv_lt_of_lt_mul h0 h.2
  refine ⟨d, by omega, hd, ?_, ?_⟩
  · have := Int.ediv_mul_le z (Int.ne_of_gt h0)
    rw [hd] at this; exact this
  · have := Int.lt_ediv_add_one_mul_self z h0
    rw [hd] at this; exact this
theorem Lk.nil : Lk Dn Zn (fun _ => []) [] := ⟨List.nodup_nil, by simp, fun _ _ => rfl⟩
theorem Lk.lt (h : Lk Dn Zn C L) (hD : (Dn : Int) * Zn ≤ 512) : ∀ z ∈ L, 0 ≤ z ∧ z < 1000 := fun z hz => by have := h.rg z hz; omega
theorem Lk.len (h : Lk Dn Zn C L) (hD : (Dn : Int) * Zn ≤ 512) : L.length < 1000 := by
  have := nodup_len 512 0 L h.nd (fun z hz => by have := h.rg z hz; omega)
  omega
theorem Lk.cnt (h : Lk Dn Zn C L) (hZ : 1 ≤ Zn) (d : Int) : ((L.filter (inD Zn d)).length : Int) = cntP Dn C d := by
  unfold cntP
  split
  · rename_i hd
    obtain ⟨n, rfl⟩ := Int.eq_ofNat_of_zero_le hd.1
    rw [h.cc n (by omega), Int.toNat_natCast]
  · rename_i hd
    have : L.filter (inD Zn d) = [] := by
      rw [List.filter_eq_nil_iff]
      intro z hz hin
      obtain ⟨e, he, h1, _⟩ := tdiv_dom hZ (h.rg z hz)
      have h2 : Int.tdiv z Zn = d := by simpa [inD] using hin
      omega
    rw [this]; rfl
theorem Lk.has (h : Lk Dn Zn C L) (hZ : 1 ≤ Zn) (z : Int) : decide (z ∈ L) = hasB C Dn z := by
  cases hb : hasB C Dn z with
  | true =>
    obtain ⟨d, hd, hm⟩ := hasB_iff.1 hb
    rw [← h.cc d hd] at hm
    exact decide_eq_true (List.mem_filter.1 hm).1
  | false =>
    refine decide_eq_false fun hm => ?_
    obtain ⟨e, he, h1, _⟩ := tdiv_dom hZ (h.rg z hm)
    have : hasB C Dn z = true := hasB_iff.2 ⟨e, he, by rw [← h.cc e he]; exact List.mem_filter.2 ⟨hm, by simp [inD, h1]⟩⟩
    rw [hb] at this; cases this
theorem Lk.drop (h : Lk Dn Zn C L) {z : Int} {d : Nat} (hd : Int.tdiv z Zn = d) : Lk Dn Zn (setC C d ((C d).filter (neB z))) (L.filter (neB z)) := by
  refine ⟨h.nd.filter _, fun y hy => h.rg y (List.mem_filter.1 hy).1, fun e he => ?_⟩
  rw [List.filter_filter]
  by_cases hde : e = d
  · subst hde
    rw [setC_same, ← h.cc e he, List.filter_filter]
    congr 1; funext y; exact Bool.and_comm _ _
  · rw [setC_other _ _ hde, ← h.cc e he]
    refine List.filter_congr fun y hy => ?_
    cases hy2 : inD Zn e y with
    | false => rfl
    | true =>
      have h1 : Int.tdiv y Zn = e := by simpa [inD] using hy2
      have : y ≠ z := by rintro rfl; omega
      simp [neB, this]
theorem Lk.take (h : Lk Dn Zn C L) {a : Nat} (ha : a < Dn) {x : Int} {t : List Int} (hc : C a = x :: t) : Lk Dn Zn (setC C a t) (L.filter (neB x)) := by
  have hx : x ∈ L.filter (inD Zn a) := by rw [h.cc a ha, hc]; exact List.mem_cons_self
  have hd : Int.tdiv x Zn = a := by simpa [inD] using (List.mem_filter.1 hx).2
  have hn : (C a).Nodup := by rw [← h.cc a ha]; exact h.nd.filter _
  have e : (C a).filter (neB x) = t := by
    rw [hc] at hn ⊢
    have h2 := List.nodup_cons.1 hn
    rw [List.filter_cons_of_neg (by simp [neB]), neB_filter h2.1]
  have := h.drop hd
  rwa [e] at this
theorem Lk.give (h : Lk Dn Zn C L) {z : Int} {d : Nat} (hr : 0 ≤ z ∧ z < (Dn : Int) * Zn) (hd : Int.tdiv z Zn = d) (hm : z ∉ L) : Lk Dn Zn (setC C d (C d ++ [z])) (L ++ [z]) := by
  refine ⟨?_, fun y hy => ?_, fun e he => ?_⟩
  · rw [List.nodup_append]
    exact ⟨h.nd, by simp, fun y hy x hx => by rw [List.mem_singleton] at hx; subst hx; rintro rfl; exact hm hy⟩
  · rcases List.mem_append.1 hy with h1 | h1
    · exact h.rg y h1
    · rw [List.mem_singleton] at h1; subst h1; exact hr
  · rw [List.filter_append, h.cc e he]
    by_cases hde : e = d
    · subst hde
      rw [setC_same, List.filter_cons_of_pos (by simp [inD, hd])]; rfl
    · rw [setC_other _ _ hde, List.filter_cons_of_neg (by simp [inD, hd]; omega)]; simp
/-- Of the first n domains. -/
def inF (Zn n : Nat) (z : Int) : Bool := decide (0 ≤ Int.tdiv z Zn ∧ Int.tdiv z Zn < (n : Int))
theorem filt_add (Zn : Nat) (n : Nat) : ∀ (L : List Int), (L.filter (inF Zn (n + 1))).length = (L.filter (inF Zn n)).length + (L.filter (inD Zn n)).length
  | [] => rfl
  | z :: L => by
    have ih := filt_add Zn n L
    by_cases h1 : Int.tdiv z Zn = n
    · have a1 : inF Zn (n + 1) z = true := by unfold inF; rw [h1]; exact decide_eq_true (by omega)
      have a2 : ¬ inF Zn n z = true := by unfold inF; rw [h1]; simp
      have a3 : inD Zn n z = true := by simp [inD, h1]
      rw [List.filter_cons_of_pos a1, List.filter_cons_of_neg a2, List.filter_cons_of_pos a3]
      simp only [List.length_cons]; omega
    · have a3 : ¬ inD Zn n z = true := by simpa [inD] using h1
      by_cases h2 : 0 ≤ Int.tdiv z Zn ∧ Int.tdiv z Zn < (n : Int)
      · have a1 : inF Zn (n + 1) z = true := by unfold inF; exact decide_eq_true (by omega)
        have a2 : inF Zn n z = true := by unfold inF; exact decide_eq_true h2
        rw [List.filter_cons_of_pos a1, List.filter_cons_of_pos a2, List.filter_cons_of_neg a3]
        simp only [List.length_cons]; omega
      · have a1 : ¬ inF Zn (n + 1) z = true := by unfold inF; rw [decide_eq_true_iff]; omega
        have a2 : ¬ inF Zn n z = true := by unfold inF; rw [decide_eq_true_iff]; exact h2
        rw [List.filter_cons_of_neg a1, List.filter_cons_of_neg a2, List.filter_cons_of_neg a3]
        exact ih
theorem Lk.sum (h : Lk Dn Zn C L) (hZ : 1 ≤ Zn) : (L.length : Int) = sumP C Dn := by
  have key : ∀ n, n ≤ Dn → ((L.filter (inF Zn n)).length : Int) = sumP C n := by
    intro n
    induction n with
    | zero =>
      intro _
      have : (L.filter (inF Zn 0)) = [] := by
        rw [List.filter_eq_nil_iff]; intro z _; unfold inF; rw [decide_eq_true_iff]; omega
      rw [this]; rfl
    | succ n ih =>
      intro hn
      rw [filt_add, Int.natCast_add, ih (by omega), h.cc n (by omega)]; rfl
  have e : (L.filter (inF Zn Dn)) = L := by
    rw [List.filter_eq_self]
    intro z hz
    obtain ⟨d, hd, h1, _⟩ := tdiv_dom hZ (h.rg z hz)
    unfold inF; exact decide_eq_true (by omega)
  have := key Dn (Nat.le_refl _)
  rwa [e] at this
end
/-- The domain with the most, looked for from behind. -/
def mostR (c : Int → Nat) (but : Int) (Dn : Nat) : Nat → Int
  | 0 => -1
  | k + 1 => if (Dn : Int) - 1 - k ≠ but ∧ (mostR c but Dn k < 0 ∨ c (mostR c but Dn k) ≤ c ((Dn : Int) - 1 - k)) then (Dn : Int) - 1 - k else mostR c but Dn k
theorem mostR_max (c : Int → Nat) (but : Int) (Dn : Nat) : ∀ k, k ≤ Dn → (mostR c but Dn k = -1 ∧ ∀ i : Nat, Dn - k ≤ i → i < Dn → (i : Int) = but) ∨
    ∃ f : Nat, mostR c but Dn k = f ∧ Dn - k ≤ f ∧ f < Dn ∧ (f : Int) ≠ but ∧ (∀ i : Nat, Dn - k ≤ i → i < Dn → (i : Int) ≠ but → c i ≤ c f) ∧ ∀ i : Nat, Dn - k ≤ i → i < f → (i : Int) ≠ but → c i < c f
  | 0, _ => .inl ⟨rfl, fun i h1 h2 => by omega⟩
  | k + 1, hk => by
    obtain ⟨d, hd⟩ : ∃ d : Nat, (Dn : Int) - 1 - k = d := ⟨Dn - 1 - k, by omega⟩
    have hs : mostR c but Dn (k + 1) = if (d : Int) ≠ but ∧ (mostR c but Dn k < 0 ∨ c (mostR c but Dn k) ≤ c d) then (d : Int) else mostR c but Dn k := by rw [← hd]; rfl
    rcases mostR_max c but Dn k (by omega) with ⟨h1, h2⟩ | ⟨f, h1, h2, h3, h4, h5, h6⟩
    · by_cases e : (d : Int) = but
      · refine .inl ⟨by rw [hs, if_neg (by simp [e]), h1], fun i hi hi2 => ?_⟩
        by_cases ei : i = d
        · rw [ei]; exact e
        · exact h2 i (by omega) hi2
      · refine .inr ⟨d, by rw [hs, if_pos ⟨e, .inl (by rw [h1]; decide)⟩], by omega, by omega, e, fun i hi hi2 hb => ?_, fun i hi hi2 _ => by omega⟩
        by_cases ei : i = d
        · rw [ei]; exact Nat.le_refl _
        · exact absurd (h2 i (by omega) hi2) hb
    · by_cases hc : (d : Int) ≠ but ∧ c f ≤ c d
      · refine .inr ⟨d, by rw [hs, if_pos ⟨hc.1, .inr (by rw [h1]; exact hc.2)⟩], by omega, by omega, hc.1, fun i hi hi2 hb => ?_, fun i hi hi2 _ => by omega⟩
        by_cases ei : i = d
        · rw [ei]; exact Nat.le_refl _
        · have := h5 i (by omega) hi2 hb; omega
      · refine .inr ⟨f, ?_, by omega, h3, h4, fun i hi hi2 hb => ?_, fun i hi hi2 hb => ?_⟩
        · rw [hs, if_neg, h1]
          rintro ⟨a, b | b⟩
          · rw [h1] at b; omega
          · rw [h1] at b; exact hc ⟨a, b⟩
        · by_cases ei : i = d
          · subst ei
            have : ¬ c f ≤ c i := fun h => hc ⟨hb, h⟩
            omega
          · exact h5 i (by omega) hi2 hb
        · by_cases ei : i = d
          · subst ei
            have : ¬ c f ≤ c i := fun h => hc ⟨hb, h⟩
            omega
          · exact h6 i (by omega) hi2 hb
theorem mostR_eq (C : Nat → List Int) (c : Int → Nat) (but : Int) (Dn : Nat) (hc : ∀ i : Nat, i < Dn → c i = (C i).length) : mostR c but Dn Dn = fullP C but Dn := by
  rcases mostR_max c but Dn Dn (Nat.le_refl _) with ⟨h1, h2⟩ | ⟨f, h1, h2, h3, h4, h5, h6⟩
  · rcases fullP_max C but Dn with ⟨g1, g2⟩ | ⟨g, g1, g2, g3, g4, g5⟩
    · rw [h1, g1]
    · exact absurd (h2 g (by omega) g2) g3
  · rcases fullP_max C but Dn with ⟨g1, g2⟩ | ⟨g, g1, g2, g3, g4, g5⟩
    · exact absurd (g2 f h3) h4
    · rw [h1, g1]
      have a1 := h5 g (by omega) g2 g3
      have a2 := g4 f h3 h4
      rw [hc g g2, hc f h3] at a1
      by_cases e1 : g < f
      · have := h6 g (by omega) e1 g3; rw [hc g g2, hc f h3] at this; omega
      · by_cases e2 : f < g
        · have := g5 f e2 h4; omega
        · have : f = g := by omega
          rw [this]
theorem mostR_b (c : Int → Nat) (but : Int) (Dn : Nat) (k : Nat) (hk : k ≤ Dn) : -1 ≤ mostR c but Dn k ∧ mostR c but Dn k < Dn := by
  rcases mostR_max c but Dn k hk with ⟨h1, h2⟩ | ⟨f, h1, h2, h3, h4, h5, h6⟩
  · rw [h1]; omega
  · rw [h1]; omega
end Go.Proofs.Ytcdblopnaimfoaa

/- A device: New. Conditions: none. -/
import Derived.Test.YtkbagfpoegfcaaaD12
namespace Go.Proofs.Ytkbagfpoegfcaaa
open Go.RowKit Go.Conc

def DS.new (zones size op : Nat) : DS := ⟨List.replicate zones ZS.zero, size, op, 0, false⟩
theorem DS.new_ok {zones size op : Nat} (h1 : 1 ≤ zones) (h2 : zones ≤ 512) (h3 : 1 ≤ size) (h4 : size ≤ 64) (h5 : 1 ≤ op) (h6 : op ≤ 64) : (DS.new zones size op).Ok :=
  ⟨h3, h4, h5, h6, by simpa [DS.new] using h1, by simpa [DS.new] using h2, fun z hz => by
    obtain ⟨-, rfl⟩ := List.mem_replicate.1 hz
    exact ZS.zero_ok h3⟩
theorem within_yes (w : World) {n m : Int} (h1 : 1 ≤ n) (h2 : n ≤ m) : Calls Try.prog 65 #[.int .i64 n, .int .i64 m] w fun e w' => e = .returned (.bool true) ∧ w' = w := by
  go_enter Try.func65, Try.ntmps65
  go_wp2
  go_ret
  exact ⟨rfl, rfl⟩
theorem within_no (w : World) {n m : Int} (h : n < 1 ∨ m < n) : Calls Try.prog 65 #[.int .i64 n, .int .i64 m] w fun e w' => e = .returned (.bool false) ∧ w' = w := by
  rcases h with h | h
  · have h' : ¬ 1 ≤ n := by omega
    go_enter Try.func65, Try.ntmps65
    go_wp2
    go_ret
    exact ⟨rfl, rfl⟩
  · by_cases h1 : 1 ≤ n
    · have h' : ¬ n ≤ m := by omega
      go_enter Try.func65, Try.ntmps65
      go_wp2
      go_ret
      exact ⟨rfl, rfl⟩
    · go_enter Try.func65, Try.ntmps65
      go_wp2
      go_ret
      exact ⟨rfl, rfl⟩
section
variable {w W : World} {d : Nat} {v : Value} {zb : Nat → Nat} {size op n : Nat}
def nilS : Nat → Value := fun _ => .slice none 0 0
theorem ptrs_snoc (zb : Nat → Nat) (n b : Nat) : ((List.range n).map fun i => Value.pointer (some ⟨zb i, 0, none⟩)) ++ [.pointer (some ⟨b, 0, none⟩)] = (List.range (n + 1)).map fun i => Value.pointer (some ⟨if i = n then b else zb i, 0, none⟩) := by
  rw [List.range_succ, List.map_append]
  congr 1
  · apply List.map_congr_left
    intro i hi
    rw [if_neg (by have := List.mem_range.1 hi; omega)]
  · simp
/-- One zone more. -/
theorem DvAt.push (h : DvAt W d v zb nilS (DS.new n size op)) {W1 W2 W3 : World} {v' : Value}
    (e1 : W.alloc (.cells #[.slice none 0 0, .int .i64 size, .int .i64 0, .int .i64 0, .bool false] 135) = W1) (f2 : Fr (fun _ => False) W1 W2)
    (hr : W3.ownsRow 0 105 1 v' (n + 1) (((List.range n).map fun i => Value.pointer (some ⟨zb i, 0, none⟩)) ++ [.pointer (some ⟨W.heap.size, 0, none⟩)])) (hg : Fr (fun k => v.ownBlock = some k) W2 W3) (ho : v'.ownBlock = v.ownBlock ∨ v'.ownBlock = some W2.heap.size) :
    DvAt (W3.setCell ⟨d, 0, none⟩ v') d v' (fun i => if i = n then W.heap.size else zb i) nilS (DS.new (n + 1) size op) ∧ Fr (fun k => k = d ∨ v.ownBlock = some k) W (W3.setCell ⟨d, 0, none⟩ v') := by
  have f1 : Fr (fun _ => False) W W1 := by rw [← e1]; exact (Fr.refl _ _).alloc _
  have f12 := f1.trans f2 (fun _ _ h => h)
  have hz : ZAt W1 W.heap.size (.slice none 0 0) [] size 0 0 false := by rw [← e1]; exact newZ_at W size
  have hl : ∀ n, (DS.new n size op).zs.length = n := fun n => by simp [DS.new]
  have nd : v.ownBlock ≠ some d := fun e => by
    obtain ⟨cur, hc⟩ := row_obj h.row e
    exact ne_ty hc h.dev (by decide) rfl
  have nz : ∀ b v0, ZAt W2 b v0 [] size 0 0 false → v.ownBlock ≠ some b := fun b v0 hb e => by
    obtain ⟨cur, hc⟩ := row_obj (row_fr h.row f12 (fun _ _ => id)) e
    exact ne_ty hc hb.z (by decide) rfl
  have hdev2 := f12.heap h.dev id
  have hdev3 := hg.heap hdev2 nd
  have fs := Fr.set1 W3 d 0 v'
  have zat : ∀ b, ZAt W2 b (.slice none 0 0) [] size 0 0 false → ZAt (W3.setCell ⟨d, 0, none⟩ v') b (.slice none 0 0) [] size 0 0 false := fun b hb => by
    have h3 := hb.fr hg (nz _ _ hb) (fun k hk => by cases hk)
    exact h3.fr fs (fun e => ne_ty h3.z hdev3 (by decide) e) (fun k hk => by cases hk)
  refine ⟨⟨by have hb := blk_put hdev3 0 v'; simp only [List.setIfInBounds_toArray, List.set_cons_zero] at hb; exact hb, ?_, ?_, ?_, ?_⟩, ?_⟩
  · rw [hl, ← ptrs_snoc]
    refine row_fr hr fs (fun k hk e => ?_)
    obtain ⟨cur, hc⟩ := row_obj hr hk
    exact ne_ty hc hdev3 (by decide) e
  · intro i hi
    rw [hl] at hi
    have e2 : (DS.new (n + 1) size op).zs[i]'(by rw [hl]; exact hi) = ZS.zero := by simp [DS.new]
    rw [e2]
    show ZAt _ (if i = n then W.heap.size else zb i) (nilS i) [] size 0 0 false
    by_cases e : i = n
    · rw [if_pos e]
      exact zat _ (hz.fr0 f2)
    · rw [if_neg e]
      have h2 := h.z i (by rw [hl]; omega)
      have e3 : (DS.new n size op).zs[i]'(by rw [hl]; omega) = ZS.zero := by simp [DS.new]
      rw [e3] at h2
      exact zat _ ((show ZAt W (zb i) (nilS i) [] size 0 0 false from h2).fr0 f12)
  · intro i j hi hj
    rw [hl] at hi hj
    have lt : ∀ i, i < n → zb i < W.heap.size := fun i hi => (h.z i (by rw [hl]; exact hi)).lt (.inl rfl)
    by_cases ei : i = n
    · by_cases ej : j = n
      · intro _; omega
      · simp only [if_pos ei, if_neg ej]
        intro e; have := lt j (by omega); omega
    · by_cases ej : j = n
      · simp only [if_neg ei, if_pos ej]
        intro e; have := lt i (by omega); omega
      · simp only [if_neg ei, if_neg ej]
        exact h.ib i j (by rw [hl]; omega) (by rw [hl]; omega)
  · intro i j k _ _ h1 _
    cases h1
  · exact ((f12.mono (fun _ _ h => h.elim)).trans hg (fun _ _ h => .inr h)).trans fs (fun _ _ h => .inl h)
theorem new_foot (zb : Nat → Nat) {b0 : Nat} (hd : b0 ≤ d) (hv : ∀ k, v.ownBlock = some k → b0 ≤ k) (hz : ∀ i, i < n → b0 ≤ zb i) : ∀ k, DFoot d v zb nilS n k → b0 ≤ k := by
  rintro k (rfl | hk | ⟨i, hi, rfl | hk⟩)
  · exact hd
  · exact hv k hk
  · exact hz i hi
  · cases hk
set_option maxHeartbeats 2000000 in
theorem dev_new (w : World) {zones size op : Nat} (h1 : 1 ≤ zones) (h2 : zones ≤ 512) (h3 : 1 ≤ size) (h4 : size ≤ 64) (h5 : 1 ≤ op) (h6 : op ≤ 64) :
    Calls Try.prog 24 #[.int .i64 zones, .int .i64 size, .int .i64 op] w fun e w' => e = .returned (.tuple #[.pointer (some ⟨w.heap.size, 0, none⟩), .int .i64 0]) ∧ DvS (fun k => w.heap.size ≤ k) w' w.heap.size (DS.new zones size op) ∧ Fr (fun _ => False) w w' := by
  have hl : ∀ n, (DS.new n size op).zs.length = n := fun n => by simp [DS.new]
  have ha := within_yes w (n := zones) (m := 512) (by omega) (by omega)
  have hb := within_yes w (n := op) (m := 64) (by omega) (by omega)
  have h0 : DvAt (w.alloc (.cells #[.slice none 0 0, .int .i64 size, .int .i64 op, .int .i64 0, .bool false] 108)) w.heap.size (.slice none 0 0) (fun _ => 0) nilS (DS.new 0 size op) :=
    ⟨blk_new _ _, World.ownsRow_nil _ _ _ _, fun i hi => absurd hi (by rw [hl]; omega), fun i j hi => absurd hi (by rw [hl]; omega), fun i j k hi => absurd hi (by rw [hl]; omega)⟩
  have F0 := (Fr.refl (fun _ => False) w).alloc (.cells #[.slice none 0 0, .int .i64 size, .int .i64 op, .int .i64 0, .bool false] 108)
  have hn : ∀ W : World, Calls Try.prog 66 #[.int .i64 size] W fun e w' => e = .returned (.tuple #[.pointer (some ⟨W.heap.size, 0, none⟩), .int .i64 0]) ∧ w' = W.alloc (.cells #[.slice none 0 0, .int .i64 size, .int .i64 0, .int .i64 0, .bool false] 135) := fun W => newZ_ok (by omega) (by omega) W
  have HN := Lib.hid hn
  have HL := Lib.hid hl
  clear hn hl
  go_enter Try.func24, Try.ntmps24
  go_wp2_with fail
  refine ha.mono ?_
  rintro e w1 ⟨rfl, rfl⟩
  go_wp2_with fail
  refine hb.mono ?_
  rintro e w1 ⟨rfl, rfl⟩
  go_wp2_with fail
  generalize w1.alloc (.cells #[.slice none 0 0, .int .i64 size, .int .i64 op, .int .i64 0, .bool false] 108) = w2 at *
  go_loopw [9, 10, 24] (fun _ _ i W => ∃ (k : Nat) (v : Value) (zb : Nat → Nat), k ≤ zones ∧ i = .int .i64 k ∧ DvAt W w1.heap.size v zb nilS (DS.new k size op) ∧ (∀ j, v.ownBlock = some j → w1.heap.size ≤ j) ∧ (∀ i, i < k → w1.heap.size ≤ zb i) ∧ Fr (fun _ => False) w1 W) (fun _ _ i _ => zones - (intOf i).toNat)
  case atStart => exact ⟨0, _, _, by omega, rfl, h0, fun j hj => (by cases hj), fun i hi => (by omega), F0⟩
  case round =>
    clear h0 F0
    obtain ⟨k, v, zb, hk, rfl, hd, hv, hz, hf⟩ := hrel
    have hBl : w1.heap.size < wr.heap.size := blk_lt hd.dev
    by_cases hlt : k < zones
    · go_wp2_with fail
      refine (HN.out wr).mono ?_
      rintro e w3 ⟨rfl, hw3⟩
      have F3 : Fr (fun _ => False) wr w3 := by rw [hw3]; exact (Fr.refl _ _).alloc _
      have hd3 := hd.fr0 F3
      obtain ⟨a, cap, rfl⟩ : ∃ a cap, v = .slice a k cap := by
        have := row_val hd3.row
        rwa [HL.out] at this
      have cg := fun i => blk_cell hd3.dev i
      have F4 := (Fr.refl (fun _ => False) w3).alloc (.cells #[.pointer (some ⟨wr.heap.size, 0, none⟩)] 105)
      have hd4 := hd3.fr0 F4
      have hr4 := hd4.row
      rw [HL.out] at hr4
      have rd := one_rd w3 #[.pointer (some ⟨wr.heap.size, 0, none⟩)] 105
      have HP := Lib.hid (fun W2 W3 v' hr hg ho => hd.push (W1 := w3) (W2 := W2) (W3 := W3) (v' := v') hw3.symm hr hg ho)
      have hbs : w3.heap.size = wr.heap.size + 1 := by rw [hw3]; simp
      have one : ∀ u ∈ [Value.pointer (some ⟨wr.heap.size, 0, none⟩)], u.oneCell' = true := by intro u hu; simp at hu; subst hu; rfl
      have ONE := Lib.hid one
      have HBS := Lib.hid hbs
      have hz5 : ∀ W, Fr (fun _ => False) wr W → wr.heap.size ≤ W.heap.size := fun W h => h.size
      have hd4d := hd4.dev
      clear hd hd3 hw3 one hbs
      go_wp2_with (at_builtin; refine wpList_app rfl s106 hr4 rd _ _ rfl rfl rfl rfl rfl ONE.out (by omega) (Nat.zero_le _) ?_; intro a1 c1 w5 hr5 hg5 ho5; have F5 := Fr.grown (S := fun j => (Value.slice a k cap).ownBlock = some j) hg5 (fun _ h => h); obtain ⟨hd6, F6⟩ := HP.out _ _ _ F4 hr5 F5 ho5; have hdev5 := F5.heap hd4d (fun e => by obtain ⟨cur, hc⟩ := row_obj hr4 e; exact ne_ty hc hd4d (by decide) rfl); have c5 := fun i => blk_cell hdev5 i; have g5 := fun i => blk_frozen hdev5 i; clear cg)
      have HD6 := Lib.hid hd6
      have hv6 : ∀ j, (Value.slice a1 (k + 1) c1).ownBlock = some j → w1.heap.size ≤ j := by
        intro j hj
        rcases ho5 with e | e
        · exact hv j (e ▸ hj)
        · rw [hj] at e; simp at e; have := HBS.out; omega
      have hf6 : Fr (fun _ => False) w1 (w5.setCell ⟨w1.heap.size, 0, none⟩ (.slice a1 (k + 1) c1)) := (hf.mono (fun _ _ h => h)).trans F6 (fun j hj e => by
        rcases e with e | e
        · omega
        · have := hv j e; omega)
      have HF6 := Lib.hid hf6
      clear hd6 F6 F5 hf6 hdev5 c5 g5 hr5 hg5 ho5
      go_roundw
      case rel => exact ⟨k + 1, _, _, by omega, by go_num, HD6.out, hv6, fun i hi => by split <;> first | omega | exact hz i (by omega), HF6.out⟩
      case measure => simp [intOf]; omega
    · obtain rfl : k = zones := by omega
      have HQ := Lib.hid (show DvS (fun k => w1.heap.size ≤ k) wr w1.heap.size (DS.new k size op) from ⟨DS.new_ok h1 h2 h3 h4 h5 h6, v, zb, nilS, hd, by rw [HL.out]; exact new_foot zb (Nat.le_refl _) hv hz⟩)
      clear hd hv hz
      go_wp2_with fail
      go_ret2
      exact ⟨rfl, HQ.out, hf⟩
theorem dev_new_no (w : World) {zones size op : Int} (h : (zones < 1 ∨ 512 < zones) ∨ (op < 1 ∨ 64 < op) ∨ (size < 1 ∨ 64 < size)) :
    Calls Try.prog 24 #[.int .i64 zones, .int .i64 size, .int .i64 op] w fun e w' => e = .returned (.tuple #[.pointer none, .int .i64 13]) ∧ Fr (fun _ => False) w w' := by
  by_cases ha : zones < 1 ∨ 512 < zones
  · have hb := within_no w ha
    go_enter Try.func24, Try.ntmps24
    go_wp2_with fail
    refine hb.mono ?_
    rintro e w1 ⟨rfl, rfl⟩
    go_wp2
    go_ret2
    exact ⟨rfl, Fr.refl _ _⟩
  · have hz := within_yes w (n := zones) (m := 512) (by omega) (by omega)
    by_cases hc : op < 1 ∨ 64 < op
    · have hb := within_no w hc
      go_enter Try.func24, Try.ntmps24
      go_wp2_with fail
      refine hz.mono ?_
      rintro e w1 ⟨rfl, rfl⟩
      go_wp2_with fail
      refine hb.mono ?_
      rintro e w1 ⟨rfl, rfl⟩
      go_wp2
      go_ret2
      exact ⟨rfl, Fr.refl _ _⟩
    · have hb := within_yes w (n := op) (m := 64) (by omega) (by omega)
      have hs : size < 1 ∨ 64 < size := by omega
      have hn := newZ_no hs (w.alloc (.cells #[.slice none 0 0, .int .i64 size, .int .i64 op, .int .i64 0, .bool false] 108))
      have F0 := (Fr.refl (fun _ => False) w).alloc (.cells #[.slice none 0 0, .int .i64 size, .int .i64 op, .int .i64 0, .bool false] 108)
      have h1 : 0 < zones := by omega
      have HS := Lib.hid hs
      have HH := Lib.hid h
      clear hs h hc ha
      go_enter Try.func24, Try.ntmps24
      go_wp2_with fail
      refine hz.mono ?_
      rintro e w1 ⟨rfl, rfl⟩
      go_wp2_with fail
      refine hb.mono ?_
      rintro e w1 ⟨rfl, rfl⟩
      go_wp2_with fail
      generalize w1.alloc (.cells #[.slice none 0 0, .int .i64 size, .int .i64 op, .int .i64 0, .bool false] 108) = w2 at *
      refine wp_loop_rounds 1 ?_
      rw [rounds_succ]
      go_wp2_with fail
      refine hn.mono ?_
      rintro e w3 ⟨rfl, rfl⟩
      go_wp2
      go_ret2
      exact ⟨rfl, F0⟩
end
end Go.Proofs.Ytkbagfpoegfcaaa

/- The walk of the law that a zone fills. No condition. -/
import Derived.Test.YtlffjkijjggpkaaZw
import Derived.Test.YtlffjkijjggpkaaArgs
namespace Go.Proofs.Ytlffjkijjggpkaa
open Go.RowKit Go.Conc

/-- The state behind k appends. -/
def fillSt (size : Int) (k : Nat) : Int := if size ≤ k then 2 else if k = 0 then 0 else 1
/-- The sectors behind k appends. -/
def fillL (size : Int) (ss : List ByteArray) (k : Nat) : List Value := (ss.take (min k size.toNat)).map .string
theorem fill_fresh {size : Int} (h : 1 ≤ size) (ss : List ByteArray) : fillL size ss 0 = [] ∧ fillSt size 0 = 0 := by
  constructor
  · simp [fillL]
  · rw [fillSt, if_neg (by omega), if_pos rfl]
theorem fill_len {size : Int} {ss : List ByteArray} {k : Nat} (hk : k ≤ ss.length) : (fillL size ss k).length = min k size.toNat := by
  simp [fillL]; omega
theorem fill_next {size : Int} (h : 1 ≤ size) {ss : List ByteArray} {k : Nat} (hk : k < ss.length) (hs : (k : Int) < size) : fillL size ss (k + 1) = fillL size ss k ++ [.string ss[k]] ∧ fillSt size (k + 1) = if (k : Int) + 1 = size then 2 else 1 := by
  constructor
  · have e1 : min (k + 1) size.toNat = k + 1 := by omega
    have e2 : min k size.toNat = k := by omega
    rw [fillL, fillL, e1, e2, List.take_succ_eq_append_getElem hk, List.map_append, List.map_singleton]
  · unfold fillSt
    by_cases e : (k : Int) + 1 = size
    · rw [if_pos (by omega), if_pos e]
    · rw [if_neg (by omega), if_neg (by omega), if_neg e]
theorem fill_stay {size : Int} (h : 1 ≤ size) {ss : List ByteArray} {k : Nat} (hs : size ≤ k) : fillL size ss (k + 1) = fillL size ss k ∧ fillSt size (k + 1) = 2 ∧ fillSt size k = 2 := by
  refine ⟨?_, if_pos (by omega), if_pos hs⟩
  have e1 : min (k + 1) size.toNat = min k size.toNat := by omega
  rw [fillL, fillL, e1]

theorem zone_below {T E : TypeId} {base : Nat} {w w0 w' : World} {b : Nat} {v : Value} {L : List Value} {size safe st : Int} {fin : Bool} (h : ZAt T E base w b v L size safe st fin) (hb : Below base w0 w) (hf : Fr (Zf b v) w w') : Below base w0 w' :=
  hb.trans (hf.below (by have := h.bb; have := h.lt; omega) (fun i hi hk => by rcases hk with rfl | hk; have := h.bb; omega; have := h.rlt hk; omega))

set_option maxRecDepth 100000 in
set_option maxHeartbeats 4000000 in
theorem zoneFills_walk (w : World) (size : Int) (v : Value) (ss : List ByteArray) (_ : ss.length ≤ maxLen) (hs : Sl1 w w.heap.size v (ss.map .string)) :
    Calls Try.prog 3 #[.int .i64 size, v] w fun e w' => e = .returned (.bool true) ∧ Below w.heap.size w w' := by
  obtain ⟨a, cap, rfl, hc⟩ := hs
  rw [List.length_map]
  go_enter Try.func3, Try.ntmps3
  go_wp2_with fail
  refine (anchor6 _).mono ?_
  rintro e w1 ⟨rfl, hb⟩
  go_wp2_with fail
  by_cases hsz : 1 ≤ size ∧ size ≤ 64
  · obtain ⟨s1, s2⟩ := hsz
    refine (newS_ok s1 s2 _).mono ?_
    rintro e w2 ⟨rfl, rfl⟩
    have h0 := newS_at (base := w.heap.size) w1 size hb.size
    have b0 : Below w.heap.size w (w1.alloc (.cells #[.slice none 0 0, .int .i64 size, .int .i64 0, .int .i64 0, .bool false] 56)) := hb.alloc hb.size _
    obtain ⟨b, hbb⟩ : ∃ b, w1.heap.size = b := ⟨_, rfl⟩
    rw [hbb] at h0 ⊢
    clear hbb
    generalize w1.alloc (.cells #[.slice none 0 0, .int .i64 size, .int .i64 0, .int .i64 0, .bool false] 56) = w2 at h0 b0 ⊢
    clear hb w1
    by_cases hl : 80 < ss.length
    · go_wp2
      go_ret
      exact ⟨rfl, b0⟩
    · go_wp2_with fail
      go_loopw [35] (fun i wr => ∃ k : Nat, k ≤ ss.length ∧ i = .int .i64 k ∧ Below w.heap.size w wr ∧ ∃ u, ZAt 56 9 w.heap.size wr b u (fillL size ss k) size 0 (fillSt size k) false) (fun i _ => ss.length - (intOf i).toNat)
      case atStart => exact ⟨0, by omega, rfl, b0, _, by rw [(fill_fresh s1 ss).1, (fill_fresh s1 ss).2]; exact h0⟩
      case round =>
        obtain ⟨k, hk, rfl, hb, u, hz⟩ := hrel
        by_cases hlt : k < ss.length
        · obtain ⟨bb, o, rfl, hbl, hcell⟩ := hc (List.ne_nil_of_length_pos (by rw [List.length_map]; omega))
          have hcc : wr.cell? ⟨bb, o + k, none⟩ = some (.string ss[k]) := (World.cell?_of_block (hb.block bb hbl)).trans (by have := hcell k (by simpa using hlt); simpa using this)
          go_wp2_with fail
          by_cases hks : (k : Int) < size
          · have hst : failedOf (fillSt size k) = 0 := by unfold fillSt; rw [if_neg (by omega)]; split <;> rfl
            have h2 : fillSt size k ≠ 2 := by unfold fillSt; rw [if_neg (by omega)]; split <;> omega
            have hln : (fillL size ss k).length = k := by rw [fill_len hk]; omega
            refine (appendS_room hz hst h2 (by omega) ss[k]).mono ?_
            rintro e w3 ⟨rfl, v3, hz3, hf3, -⟩
            have hb3 := zone_below hz hb hf3
            rw [hln] at hz3 ⊢
            rw [← (fill_next s1 hlt hks).1, ← (fill_next s1 hlt hks).2] at hz3
            clear hf3 hst h2 hln hz hb hcc hcell hc
            go_wp2_with fail
            go_roundw
            case rel => exact ⟨k + 1, by omega, by go_num, hb3, _, hz3⟩
            case measure => simp [intOf]; omega
          · obtain ⟨e1, e2, e3⟩ := fill_stay s1 (ss := ss) (k := k) (by omega)
            rw [e3] at hz
            refine (appendS_full hz (.string ss[k])).mono ?_
            rintro e w3 ⟨rfl, rfl⟩
            rw [← e1, ← e2] at hz
            clear e1 e2 e3 hcc hcell hc
            go_wp2_with fail
            go_roundw
            case rel => exact ⟨k + 1, by omega, by go_num, hb, _, hz⟩
            case measure => simp [intOf]; omega
        · obtain rfl : k = ss.length := by omega
          obtain ⟨n, hn⟩ : ∃ n, min ss.length size.toNat = n := ⟨_, rfl⟩
          have hln := fill_len (size := size) (ss := ss) (Nat.le_refl _)
          rw [hn] at hln
          by_cases hmin : (ss.length : Int) ≤ size
          · skip
            go_wp2_with fail
            go_loopw [76] (fun i w' => ∃ j : Nat, (j : Int) ≤ (ss.length : Int) ∧ i = .int .i64 j ∧ w' = wr) (fun i _ => ss.length - (intOf i).toNat)
            case atStart => exact ⟨0, by omega, rfl, rfl⟩
            case round =>
              obtain ⟨j, hj, rfl, rfl⟩ := hrel
              by_cases hlt2 : (j : Int) < (ss.length : Int)
              · obtain ⟨bb, o, rfl, hbl, hcell⟩ := hc (List.ne_nil_of_length_pos (by rw [List.length_map]; omega))
                have hjs : j < ss.length := by omega
                have hjn : j < (fillL size ss ss.length).length := by rw [hln]; omega
                have hcc : wr.cell? ⟨bb, o + j, none⟩ = some (.string ss[j]) := (World.cell?_of_block (hb.block bb hbl)).trans (by have := hcell j (by simpa using hjs); simpa using this)
                have he : (fillL size ss ss.length)[j] = .string ss[j] := by simp [fillL]
                clear hn hcell hc
                go_wp2_with fail
                refine (readS_at hz (by unfold fillSt; split <;> (try split) <;> omega) j hjn).mono ?_
                rintro e w3 ⟨rfl, rfl⟩
                rw [he]
                go_wp2_with fail
                go_roundw
                case rel => exact ⟨j + 1, by omega, by go_num, trivial⟩
                case measure => simp [intOf]; omega
              · have hje : (j : Int) = (ss.length : Int) := by omega
                clear hje hn
                go_wp2_with fail
                refine (stateS hz).mono ?_
                rintro e w3 ⟨rfl, rfl⟩
                have hst : failedOf (fillSt size ss.length) = 0 := by unfold fillSt; split <;> (try split) <;> rfl
                by_cases hfull : size ≤ ss.length
                · have e2 : fillSt size ss.length = 2 := if_pos hfull
                  rw [e2] at hz hst ⊢
                  go_wp2_with fail
                  refine (resetS_ok hz hst).mono ?_
                  rintro e w4 ⟨rfl, hz4, hf4⟩
                  have hb4 := zone_below hz hb hf4
                  go_wp2_with fail
                  refine (lenS hz4).mono ?_
                  rintro e w5 ⟨rfl, rfl⟩
                  go_wp2_with fail
                  refine (stateS hz4).mono ?_
                  rintro e w5 ⟨rfl, rfl⟩
                  go_wp2
                  go_ret
                  exact ⟨rfl, hb4⟩
                · have e2 : ¬ fillSt size ss.length = 2 := by unfold fillSt; rw [if_neg hfull]; split <;> omega
                  have e3 : (fillSt size ss.length == 2) = false := by simpa using e2
                  have e4 : decide (size ≤ (ss.length : Int)) = false := decide_eq_false hfull
                  obtain ⟨st, hst0⟩ : ∃ st, fillSt size ss.length = st := ⟨_, rfl⟩
                  rw [hst0] at hz hst e2 e3 ⊢
                  clear hst0
                  go_wp2_with fail
                  refine (resetS_ok hz hst).mono ?_
                  rintro e w4 ⟨rfl, hz4, hf4⟩
                  have hb4 := zone_below hz hb hf4
                  go_wp2_with fail
                  refine (lenS hz4).mono ?_
                  rintro e w5 ⟨rfl, rfl⟩
                  go_wp2_with fail
                  refine (stateS hz4).mono ?_
                  rintro e w5 ⟨rfl, rfl⟩
                  go_wp2
                  go_ret
                  exact ⟨rfl, hb4⟩
          · skip
            go_wp2_with fail
            go_loopw [76] (fun i w' => ∃ j : Nat, (j : Int) ≤ size ∧ i = .int .i64 j ∧ w' = wr) (fun i _ => ss.length - (intOf i).toNat)
            case atStart => exact ⟨0, by omega, rfl, rfl⟩
            case round =>
              obtain ⟨j, hj, rfl, rfl⟩ := hrel
              by_cases hlt2 : (j : Int) < size
              · obtain ⟨bb, o, rfl, hbl, hcell⟩ := hc (List.ne_nil_of_length_pos (by rw [List.length_map]; omega))
                have hjs : j < ss.length := by omega
                have hjn : j < (fillL size ss ss.length).length := by rw [hln]; omega
                have hcc : wr.cell? ⟨bb, o + j, none⟩ = some (.string ss[j]) := (World.cell?_of_block (hb.block bb hbl)).trans (by have := hcell j (by simpa using hjs); simpa using this)
                have he : (fillL size ss ss.length)[j] = .string ss[j] := by simp [fillL]
                clear hn hcell hc
                go_wp2_with fail
                refine (readS_at hz (by unfold fillSt; split <;> (try split) <;> omega) j hjn).mono ?_
                rintro e w3 ⟨rfl, rfl⟩
                rw [he]
                go_wp2_with fail
                go_roundw
                case rel => exact ⟨j + 1, by omega, by go_num, trivial⟩
                case measure => simp [intOf]; omega
              · have hje : (j : Int) = size := by omega
                clear hje hn
                go_wp2_with fail
                refine (stateS hz).mono ?_
                rintro e w3 ⟨rfl, rfl⟩
                have hst : failedOf (fillSt size ss.length) = 0 := by unfold fillSt; split <;> (try split) <;> rfl
                by_cases hfull : size ≤ ss.length
                · have e2 : fillSt size ss.length = 2 := if_pos hfull
                  rw [e2] at hz hst ⊢
                  go_wp2_with fail
                  refine (resetS_ok hz hst).mono ?_
                  rintro e w4 ⟨rfl, hz4, hf4⟩
                  have hb4 := zone_below hz hb hf4
                  go_wp2_with fail
                  refine (lenS hz4).mono ?_
                  rintro e w5 ⟨rfl, rfl⟩
                  go_wp2_with fail
                  refine (stateS hz4).mono ?_
                  rintro e w5 ⟨rfl, rfl⟩
                  go_wp2
                  go_ret
                  exact ⟨rfl, hb4⟩
                · exfalso; omega
  · refine (newS_no (by omega) _).mono ?_
    rintro e w2 ⟨rfl, rfl⟩
    go_wp2
    go_ret
    exact ⟨rfl, hb⟩
end Go.Proofs.Ytlffjkijjggpkaa

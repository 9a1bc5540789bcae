/- All sectors of a zone, handed out one by one. Conditions: fewer than 90000 sectors. -/
import Derived.Test.YtkbagfpoegfcaaaD6
import Derived.Test.YtkbagfpoegfcaaaRf
namespace Go.Proofs.Ytkbagfpoegfcaaa
open Go.RowKit Go.Conc

/-- A list with its places. -/
def pairsS (L : List Sec) : List (Array Value) := L.mapIdx fun i x => #[.int .i64 (i : Int), .agg (secA x)]
theorem pairsS_length (L : List Sec) : (pairsS L).length = L.length := by simp [pairsS]
theorem pairsS_get {L : List Sec} {i : Nat} {args : Array Value} (h : (pairsS L)[i]? = some args) : ∃ h : i < L.length, args = #[.int .i64 (i : Int), .agg (secA L[i])] := by
  unfold pairsS at h
  rw [List.getElem?_mapIdx] at h
  obtain ⟨y, hy, rfl⟩ := Option.map_eq_some_iff.1 h
  obtain ⟨hi, rfl⟩ := List.getElem?_eq_some_iff.1 hy
  exact ⟨hi, rfl⟩
/-- The iterator's own blocks. -/
def KpZ (bx : Nat) (v : Value) (X Y : World) : Prop := ∀ k, (k = bx ∨ v.ownBlock = some k) → Y.heap[k]? = X.heap[k]?
section
variable {w : World} {b : Nat} {v : Value} {L : List Sec} {size safe st : Int} {fin : Bool}
theorem allZ (h : ZAt w b v L size safe st fin) : Calls Try.prog 63 #[.pointer (some ⟨b, 0, none⟩)] w fun e w' =>
    e = .returned (.func (.func 102) #[] #[.pointer (some ⟨w.heap.size, 0, none⟩)]) ∧ w' = w.alloc (.cells #[v] 46) := by
  obtain ⟨a, cap, rfl⟩ := row_val h.row
  have cg := fun i => blk_cell h.z i
  have hs : Calls Try.prog 93 #[.slice a L.length cap] w fun e w' => e = .returned (.func (.func 102) #[] #[.pointer (some ⟨w.heap.size, 0, none⟩)]) ∧ w' = w.alloc (.cells #[.slice a L.length cap] 46) := by
    go_enter Try.func93, Try.ntmps93
    go_wp2
    go_ret
    exact ⟨rfl, rfl⟩
  go_enter Try.func63, Try.ntmps63
  go_wp2_with fail
  refine hs.mono ?_
  rintro e w1 ⟨rfl, rfl⟩
  go_wp2
  go_ret
  exact ⟨rfl, rfl⟩
set_option maxRecDepth 100000 in
set_option maxHeartbeats 2000000 in
theorem all_iterS (hr : w.ownsRow 0 35 64 v L.length (secs L)) (hl : L.length < 90000) {bx : Nat} (hb : w.heap[bx]? = some (.cells #[v] 46 (0, 0))) :
    IterAt Try.prog 102 #[.pointer (some ⟨bx, 0, none⟩)] (pairsS L) (Fr (fun _ => False)) (KpZ bx v) w := by
  intro l J Jx hJs _ hY h0
  refine (callsIn_wide (n := 0)).1 (callsIn_of_wp Try.func102 rfl trivial ?_)
  simp only [Try.ntmps102, List.size_toArray, List.length_cons, List.length_nil, Nat.reduceAdd, Nat.reduceSub, Array.replicate_succ, Array.replicate_zero, List.push_toArray, List.append_toArray, List.nil_append, List.cons_append]
  obtain ⟨a, cap, hv⟩ := row_val hr
  have c0 : w.cell? ⟨bx, 0, none⟩ = some v := blk_cell hb 0
  rw [hv] at c0
  have hfn : ∀ f, Fence.wide.fn f := fun _ => trivial
  have hdp : Fence.wide.depth = none := rfl
  have HN : Hid ((pairsS L).length = L.length) := Lib.hid (pairsS_length L)
  have HJ := Lib.hid hJs
  clear hJs
  replace hY := Lib.hid hY
  gi_wp2_with fail
  gi_loopw [3, 4, 7] (fun _ _ i wr => ∃ k : Nat, k ≤ L.length ∧ i = .int .i64 k ∧ J k wr ∧ ∀ j, v.ownBlock = some j → wr.heap[j]? = w.heap[j]?) (fun _ _ i _ => L.length - (intOf i).toNat)
  case atStart => exact ⟨0, by omega, rfl, h0, fun _ _ => rfl⟩
  case round =>
    obtain ⟨k, hk, rfl, hJ, hT⟩ := hrel
    by_cases hlt : k < L.length
    · obtain ⟨g, cap', hv', hrg⟩ := row_range hr hlt (by omega)
      rw [hv] at hv'
      cases hv'
      have hrg2 : wr.rangeAt g (k * 64) (secA L[k]).toList := by
        have e : ((secs L).drop (k * 64)).take 64 = (secA L[k]).toList := by
          unfold secs
          rw [flat_drop secL_len, List.drop_eq_getElem_cons hlt, flat_cons, show (64 : Nat) = (secL L[k]).length from (secL_len _).symm, List.take_left]
          rfl
        rw [e] at hrg
        exact fun j u hu => (World.cell?_of_block (hT g (by rw [hv]; rfl))).trans (hrg j u hu)
      have e1 : (pairsS L)[k]'(by rw [HN.out]; omega) = #[.int .i64 (k : Int), .agg (secA L[k])] := by simp [pairsS]
      have F1 := (Fr.refl (fun _ => False) wr).alloc (.cells (secA Sec.zero) 35)
      have g1 := blk_new wr (.cells (secA Sec.zero) 35)
      have g2 := setRow_blk (secA L[k]) g1
      have F2 : Fr (fun _ => False) wr _ := F1.trans (setRow_fr (wr.alloc (.cells (secA Sec.zero) 35)) wr.heap.size (secA L[k])) (fun i hi e => by omega)
      have hJ2 := HJ.out _ _ _ hJ F2
      obtain ⟨fn, tmps, assign, body, hy, hR⟩ := hY.out k (by rw [HN.out]; omega) _ hJ2
      rw [e1] at hy
      have hT2 : ∀ j, v.ownBlock = some j → ((wr.alloc (.cells (secA Sec.zero) 35)).setRow wr.heap.size (secA L[k])).heap[j]? = w.heap[j]? := fun j hj =>
        (F2.block j (by have := hT j hj; have h3 := hr.lt j hj; rcases Nat.lt_or_ge j wr.heap.size with h | h; exact h; rw [Array.getElem?_eq_none h] at this; rw [Array.getElem?_eq_getElem h3.2] at this; cases this) id).trans (hT j hj)
      have HT := Lib.hid hT2
      clear hT2 hT hrg e1 F1 F2
      generalize L[k] = s at *
      gi_wp2_with (first | ((with_reducible refine in_alloc 35 rfl ?_); refine wpListIn_allocB (by assumption) (by assumption) rfl 35 rfl b35 ?_) | ((with_reducible refine in_alloc 34 rfl ?_); refine wpListIn_allocB (by assumption) (by assumption) rfl 34 rfl b34 ?_) | ((with_reducible refine in_load 35 rfl ?_); (first | refine wpListIn_loadBw (by assumption) (by assumption) rfl 35 _ rfl b35 _ _ _ rfl (by assumption) (secA_size _) ?_ | refine wpListIn_loadB (by assumption) (by assumption) rfl 35 _ rfl b35 _ _ _ rfl (by assumption) (secA_size _) ?_)) | ((with_reducible refine in_load 34 rfl ?_); (first | refine wpListIn_loadBw (by assumption) (by assumption) rfl 34 _ rfl b34 _ _ _ rfl (by assumption) (secA_size _) ?_ | refine wpListIn_loadB (by assumption) (by assumption) rfl 34 _ rfl b34 _ _ _ rfl (by assumption) (secA_size _) ?_)) | ((with_reducible refine in_store 35 rfl ?_); refine wpListIn_storeBw (by assumption) (by assumption) rfl 35 _ _ rfl b35 _ _ _ _ rfl rfl (by assumption) (secA_size _) (secA_bx _) ?_) | ((with_reducible refine in_store 34 rfl ?_); refine wpListIn_storeBw (by assumption) (by assumption) rfl 34 _ _ rfl b34 _ _ _ _ rfl rfl (by assumption) (secA_size _) (secA_bx _) ?_))
      refine hR.mono ?_
      rintro e W3 (⟨rfl, hJ3, hT3⟩ | ⟨rfl, hJx3⟩)
      · gi_wp2_with fail
        go_roundw
        case rel => exact ⟨k + 1, by omega, by go_num, hJ3, fun j hj => (hT3 j (.inr hj)).trans (HT.out j hj)⟩
        case measure => simp [intOf]; omega
      · gi_wp2_with fail
        refine bodyPost_ret (results_none rfl _ _ _) rfl ⟨⟨_, rfl⟩, .inr hJx3⟩
    · have hkz : k = (pairsS L).length := by rw [HN.out]; omega
      have hJ' : J (pairsS L).length wr := by rw [← hkz]; exact hJ
      clear hkz
      gi_wp2_with fail
      go_end0
      exact ⟨⟨_, rfl⟩, .inl hJ'⟩
end
end Go.Proofs.Ytkbagfpoegfcaaa

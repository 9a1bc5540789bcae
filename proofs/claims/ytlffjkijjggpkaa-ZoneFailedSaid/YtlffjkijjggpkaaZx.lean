/- All sectors of a zone, handed out one by one; a sector changed; the document's example. Conditions: a zone's length is below 100, its numbers are small. -/
import Derived.Test.YtlffjkijjggpkaaZy
import Derived.Test.YtlffjkijjggpkaaRf
namespace Go.Proofs.Ytlffjkijjggpkaa
open Go.RowKit Go.Conc

/-- A list with its places. -/
def pairs (L : List Value) : List (Array Value) := L.mapIdx fun i x => #[.int .i64 (i : Int), x]
/-- The iterator's own blocks. -/
def KpZ (bx : Nat) (v : Value) (X Y : World) : Prop := ∀ k, (k = bx ∨ v.ownBlock = some k) → Y.heap[k]? = X.heap[k]?

section
variable {base : Nat} {w : World} {b : Nat} {v : Value} {L : List Value} {size safe st : Int} {fin : Bool}
theorem allI (h : ZAt 58 3 base w b v L size safe st fin) : Calls Try.prog 23 #[.pointer (some ⟨b, 0, none⟩)] w fun e w' =>
    e = .returned (.func (.func 42) #[] #[.pointer (some ⟨w.heap.size, 0, none⟩)]) ∧ w' = w.alloc (.cells #[v] 39) := by
  obtain ⟨a, cap, rfl⟩ := row_val h.row
  have cg := fun i => blk_cell h.z i
  go_enter Try.func23, Try.ntmps23
  go_wp2_with fail
  have hs : Calls Try.prog 31 #[.slice a L.length cap] w fun e w' => e = .returned (.func (.func 42) #[] #[.pointer (some ⟨w.heap.size, 0, none⟩)]) ∧ w' = w.alloc (.cells #[.slice a L.length cap] 39) := by
    go_enter Try.func31, Try.ntmps31
    go_wp2
    go_ret
    exact ⟨rfl, rfl⟩
  refine hs.mono ?_
  rintro e w1 ⟨rfl, rfl⟩
  go_wp2
  go_ret
  exact ⟨rfl, rfl⟩

set_option maxRecDepth 100000 in
set_option maxHeartbeats 1000000 in
theorem all_iter (hr : w.ownsRow base 3 1 v L.length L) (hl : L.length < 100) {bx : Nat} (hb : w.heap[bx]? = some (.cells #[v] 39 (0, 0))) :
    IterAt Try.prog 42 #[.pointer (some ⟨bx, 0, none⟩)] (pairs L) Eq (KpZ bx v) w := by
  intro l J Jx _ _ hY h0
  refine (callsIn_wide (n := 0)).1 (callsIn_of_wp Try.func42 rfl trivial ?_)
  simp only [Try.ntmps42, List.size_toArray, List.length_cons, List.length_nil, Nat.reduceAdd, Nat.reduceSub, Array.replicate_succ, Array.replicate_zero, List.push_toArray, List.append_toArray, List.nil_append, List.cons_append]
  obtain ⟨a, cap, hv⟩ := row_val hr
  have c0 : w.cell? ⟨bx, 0, none⟩ = some v := blk_cell hb 0
  rw [hv] at c0
  have hfn : ∀ f, Fence.wide.fn f := fun _ => trivial
  have hdp : Fence.wide.depth = none := rfl
  have HN : Hid ((pairs L).length = L.length) := Lib.hid (by simp [pairs])
  replace hY := Lib.hid hY
  gi_wp2_with fail
  gi_loopw [7] (fun i wr => ∃ k : Nat, k ≤ L.length ∧ i = .int .i64 k ∧ J k wr ∧ ∀ j, v.ownBlock = some j → wr.heap[j]? = w.heap[j]?) (fun i _ => L.length - (intOf i).toNat)
  case atStart => exact ⟨0, by omega, rfl, h0, fun _ _ => rfl⟩
  case round =>
    obtain ⟨k, hk, rfl, hJ, hT⟩ := hrel
    by_cases hlt : k < L.length
    · obtain ⟨fn, tmps, assign, body, hy, hR⟩ := hY.out k (by rw [HN.out]; omega) wr hJ
      have e1 : (pairs L)[k]'(by rw [HN.out]; omega) = #[.int .i64 (k : Int), L[k]] := by simp [pairs]
      rw [e1] at hy
      obtain ⟨g, cap', hv', hc, -⟩ := row_cell hr hlt
      have hc' : wr.cell? ⟨g, k, none⟩ = some L[k] := (World.cell?_of_block (hT g (by rw [hv']; rfl))).trans hc
      rw [hv] at hv'
      cases hv'
      gi_wp2_with fail
      refine hR.mono ?_
      rintro e W3 (⟨rfl, hJ3, hT3⟩ | ⟨rfl, hJx3⟩)
      · gi_wp2_with fail
        go_roundw
        case rel => exact ⟨k + 1, by omega, by go_num, hJ3, fun j hj => (hT3 j (.inr hj)).trans (hT j hj)⟩
        case measure => simp [intOf]; omega
      · gi_wp2_with fail
        refine bodyPost_ret (results_none rfl _ _ _) rfl ⟨⟨_, rfl⟩, .inr hJx3⟩
    · have hkz : k = (pairs L).length := by rw [HN.out]; omega
      have hJ' : J (pairs L).length wr := by rw [← hkz]; exact hJ
      clear hkz
      gi_wp2_with fail
      go_end0
      exact ⟨⟨_, rfl⟩, .inl hJ'⟩
end
end Go.Proofs.Ytlffjkijjggpkaa

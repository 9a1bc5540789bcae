/- The document's device: New. Conditions: a device is small. -/
import Derived.Test.YtkbagfpoegfcaaaD29
namespace Go.Proofs.Ytkbagfpoegfcaaa
open Go.RowKit Go.Conc

section
variable {w w' : World} {D S : Nat → Prop} {v : Value} {X Y : DS} {e0 a0 : Int} {s : Sec}
theorem res25 {tmps : Array Value} {W : World} {g : Nat} {S : Array Value} (h1 : tmps.getD 6 undef = .pointer (some ⟨g, 0, none⟩)) (h2 : W.heap[g]? = some (.cells S 27 (0, 0))) (h4 : S.size = 5) :
    (results Try.f25 tmps).run Try.prog W = .ok (.agg S) W := res_c rfl h1 (run_loadBw b27 h2 h4)
def zps (n : Nat) : List (Value × ZS) := List.replicate n (.slice none 0 0, ZS.zero)
theorem zps_len (n : Nat) : (zps n).length = n := List.length_replicate
theorem zps_succ (n : Nat) : flat zrow (zps (n + 1)) = flat zrow (zps n) ++ (#[.slice none 0 0, .int .i64 0, .int .i64 0, .bool false] : Array Value).toList := by
  have : zps (n + 1) = zps n ++ [(.slice none 0 0, ZS.zero)] := List.replicate_succ'
  rw [this, flat_app, flat_one]
  rfl
set_option linter.unusedSimpArgs false
set_option maxRecDepth 100000 in
set_option maxHeartbeats 4000000 in
theorem rnew (w : World) {zones size op : Nat} (h2 : zones ≤ 512) : Calls Try.prog 25 #[.int .i64 zones, .int .i64 size, .int .i64 op] w (Rf1 (fun _ => False) w (DS.new zones size op)) := by
  have h2w := two w (.cells #[.slice none 0 0, .int .i64 0, .int .i64 0, .int .i64 0, .bool false] 27) (.cells #[.slice none 0 0, .int .i64 size, .int .i64 op, .int .i64 0, .bool false] 27)
  go_enter Try.func25, Try.ntmps25
  go_upto_region 2 with fail
  generalize (w.alloc (.cells #[.slice none 0 0, .int .i64 0, .int .i64 0, .int .i64 0, .bool false] 27)).alloc (.cells #[.slice none 0 0, .int .i64 size, .int .i64 op, .int .i64 0, .bool false] 27) = w2 at *
  obtain ⟨F2, g0, g1, hsz⟩ := h2w
  have HSZ := Lib.hid hsz
  clear hsz
  go_wp2_with fail
  go_loopw [8] (fun i W => ∃ (k : Nat) (v : Value), k ≤ zones ∧ i = .int .i64 k ∧ W.heap[w.heap.size + 1]? = some (.cells #[v, .int .i64 size, .int .i64 op, .int .i64 0, .bool false] 27 (0, 0)) ∧ W.ownsRow 0 117 4 v k (flat zrow (zps k)) ∧ (∀ j, v.ownBlock = some j → w.heap.size + 2 ≤ j) ∧ Fr (fun j => j = w.heap.size + 1) w2 W) (fun i _ => zones - (intOf i).toNat)
  case atStart => exact ⟨0, _, by omega, rfl, g1, World.ownsRow_nil _ _ _ _, fun j hj => (by cases hj), Fr.refl _ _⟩
  case round =>
    obtain ⟨k, v, hk, rfl, gb, hrow, hown, hf⟩ := hrel
    obtain ⟨a, cap, rfl⟩ := row_val hrow
    have cb := fun i => blk_cell gb i
    by_cases hlt : k < zones
    · have FA := (Fr.refl (fun _ => False) wr).alloc (.cells #[.slice none 0 0, .int .i64 0, .int .i64 0, .bool false] 117)
      have hrowA := row_fr hrow FA (fun _ _ => id)
      have rdA := one_rd wr #[.slice none 0 0, .int .i64 0, .int .i64 0, .bool false] 117
      have gbA := FA.heap gb id
      have one : ∀ u ∈ (#[.slice none 0 0, .int .i64 0, .int .i64 0, .bool false] : Array Value).toList, u.oneCell' = true := by
        intro u hu
        simp only [List.mem_cons, List.not_mem_nil, or_false] at hu
        rcases hu with rfl | rfl | rfl | rfl <;> rfl
      have ONE := Lib.hid one
      have hws : w.heap.size + 2 ≤ wr.heap.size := by have := hf.size; have := HSZ.out; omega
      have HO := Lib.hid hown
      clear one hrow
      go_wp2_with (first | ((with_reducible refine is_slice 25 rfl ?_); refine wpList_one rfl 25 117 _ rfl Try.underlying25 b117 (by omega) _ rfl rfl ?_) | (at_builtin; refine wpList_app rfl s25 hrowA rdA _ _ rfl rfl rfl rfl rfl ONE.out (by omega) (Nat.zero_le _) ?_; intro a9 c9 w9 hr9 hg9 ho9; have F9 := Fr.grown (S := fun j => (Value.slice a k cap).ownBlock = some j) hg9 (fun _ h => h); have gb9 := F9.heap gbA (fun e => by have := HO.out _ e; omega); have cb9 := fun i => blk_cell gb9 i; have fb9 := fun i => blk_frozen gb9 i))
      have gb10 := blk_put gb9 0 (.slice a9 (k + 1) c9)
      simp only [List.setIfInBounds_toArray, List.set_cons_zero] at gb10
      have f10 := Fr.set1 w9 (w.heap.size + 1) 0 (.slice a9 (k + 1) c9)
      have ho10 : ∀ j, (Value.slice a9 (k + 1) c9).ownBlock = some j → w.heap.size + 2 ≤ j := by
        intro j hj
        rcases ho9 with e | e
        · exact HO.out j (e ▸ hj)
        · rw [hj] at e; simp at e; omega
      have hr10 := row_fr hr9 f10 (fun j hj e => by have := ho10 j hj; omega)
      have hf10 : Fr (fun j => j = w.heap.size + 1) w2 _ := ((hf.trans FA (fun _ _ h => h.elim)).trans F9 (fun j hj e => by have := HO.out j e; have := HSZ.out; omega)).trans f10 (fun _ _ h => h)
      have H10 := Lib.hid (And.intro gb10 (And.intro hr10 (And.intro ho10 hf10)))
      clear gb10 hr10 ho10 hf10 hr9 ho9 hg9 F9 f10 rdA hrowA hown
      go_roundw
      case rel => exact ⟨k + 1, _, by omega, by go_num, H10.out.1, by rw [zps_succ]; exact H10.out.2.1, H10.out.2.2.1, H10.out.2.2.2⟩
      case measure => simp [intOf]; omega
    · obtain rfl : k = zones := by omega
      have g0r := hf.heap g0 (by omega)
      have hsz2 := HSZ.out
      have hrd : RdZ (fun j => w.heap.size + 2 ≤ j) wr (.slice a k cap) (zps k) := ⟨by rw [zps_len]; exact (row_rd hrow).mono (fun j hj => hown j hj), fun p hp => by
        obtain ⟨-, rfl⟩ := List.mem_replicate.1 hp
        exact RdAt.nil _ _⟩
      have FW := (F2.trans hf (fun j hj e => by omega) : Fr (fun _ => False) w wr)
      clear hrow hown
      go_wp2_with (first | ((with_reducible refine is_load 27 rfl ?_); refine wpList_loadBw rfl 27 _ rfl b27 _ _ _ rfl (by first | assumption | exact blk_new _ _) rfl ?_) | ((with_reducible refine is_store 27 rfl ?_); refine wpList_storeBw rfl 27 _ _ rfl b27 _ _ _ _ rfl rfl (by first | assumption | exact blk_new _ _) rfl (bx27 _ _ _ _ _ _ _) ?_) | ((with_reducible refine is_load 117 rfl ?_); (first | refine wpList_loadBw rfl 117 _ rfl b117 _ _ _ rfl (by first | assumption | exact blk_new _ _) rfl ?_ | refine wpList_loadB rfl 117 _ rfl b117 _ _ _ rfl (by assumption) rfl ?_)) | ((with_reducible refine is_store 117 rfl ?_); (first | refine wpList_storeBw rfl 117 _ _ rfl b117 _ _ _ _ rfl rfl (by first | assumption | exact blk_new _ _) rfl (bx117 _ _ _ _ _ _) ?_ | refine wpList_storeBm rfl 117 _ _ rfl b117 _ _ _ rfl rfl (by assumption) (bx117 _ _ _ _ _ _) ?_)))
      exact bodyPost_ret (res25 rfl (setRow_blk _ g0r) rfl) rfl ⟨_, rfl, RfQ.mk (ps := zps k) (by simp [zps, DS.new]) rfl rfl rfl rfl ((hrd.fr (setRow_fr _ _ _) (fun j hj e => by omega)).mono (fun j hj => .inr (by omega))) (FW.trans (setRow_fr _ _ _) (fun j hj e => by omega))⟩
end
end Go.Proofs.Ytkbagfpoegfcaaa

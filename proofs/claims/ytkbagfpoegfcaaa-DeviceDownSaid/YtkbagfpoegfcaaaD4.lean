/- Exclusive or of two sectors. No condition. -/
import Derived.Test.YtkbagfpoegfcaaaD3
namespace Go.Proofs.Ytkbagfpoegfcaaa
open Go.RowKit Go.Conc

open Go.Extern.Stop (cell)
theorem bits_xor (a b : UInt8) : Go.bits BinOp.xor IntKind.u8 (a.toNat : Int) (b.toNat : Int) = ((a ^^^ b).toNat : Int) := by
  have ha := a.toNat_lt
  have hb := b.toNat_lt
  have e1 : (BitVec.ofInt IntKind.u8.bits (a.toNat : Int)) = a.toBitVec := by
    apply BitVec.eq_of_toNat_eq
    show (BitVec.ofInt 8 (a.toNat : Int)).toNat = a.toNat
    rw [BitVec.toNat_ofInt]
    omega
  have e2 : (BitVec.ofInt IntKind.u8.bits (b.toNat : Int)) = b.toBitVec := by
    apply BitVec.eq_of_toNat_eq
    show (BitVec.ofInt 8 (b.toNat : Int)).toNat = b.toNat
    rw [BitVec.toNat_ofInt]
    omega
  have e3 : (a.toBitVec ^^^ b.toBitVec).toNat = (a ^^^ b).toNat := rfl
  have := (a ^^^ b).toNat_lt
  unfold Go.bits
  simp only [e1, e2]
  show IntKind.u8.wrap (((a.toBitVec ^^^ b.toBitVec).toNat : Nat) : Int) = _
  rw [e3]
  unfold IntKind.wrap
  show (let m := ((a ^^^ b).toNat : Int) % 256; if (false && decide (m ≥ 128)) = true then m - 256 else m) = _
  simp only [Bool.false_and, Bool.false_eq_true, if_false]
  omega

/-- The first k bytes turned. -/
def xorL (k : Nat) (s p : Sec) : List UInt8 := (List.zipWith (· ^^^ ·) s.1 p.1).take k ++ s.1.drop k
@[irreducible] def xorA (k : Nat) (s p : Sec) : Array Value := ((xorL k s p).map cell).toArray
theorem xor_len (k : Nat) (s p : Sec) (hk : k ≤ 64) : (xorL k s p).length = 64 := by
  have := s.2; have := p.2
  simp [xorL]; omega
theorem xorA_zero (s p : Sec) : xorA 0 s p = secA s := by unfold xorA secA xorL; simp
theorem xorA_end (s p : Sec) : xorA 64 s p = secA (s.xor p) := by
  have h1 := s.2; have h2 := p.2
  unfold xorA secA xorL Sec.xor
  simp only
  rw [List.take_of_length_le (by simp [h1, h2]), List.drop_of_length_le (by omega), List.append_nil]
theorem xorA_size (k : Nat) (s p : Sec) (hk : k ≤ 64) : (xorA k s p).size = 64 := by
  unfold xorA; simp [xor_len k s p hk]
theorem xorA_get (k : Nat) (s p : Sec) (hk : k < 64) : (xorA k s p)[k]? = some (.int .u8 ((s.1.getD k 0).toNat : Int)) := by
  have h1 := s.2; have h2 := p.2
  unfold xorA xorL
  simp only [List.getElem?_toArray, List.getElem?_map]
  rw [List.getElem?_append_right (by simp; omega), List.getElem?_drop]
  simp only [List.length_take, List.length_zipWith, h1, h2]
  rw [show k + (k - min k (min 64 64)) = k by omega, List.getElem?_eq_getElem (by omega), List.getD_eq_getElem?_getD, List.getElem?_eq_getElem (by omega)]
  rfl
theorem secA_get (k : Nat) (s : Sec) (hk : k < 64) : (secA s)[k]? = some (.int .u8 ((s.1.getD k 0).toNat : Int)) := by
  have := xorA_get 0 s s (by omega)
  have h1 := s.2
  unfold secA
  simp only [List.getElem?_toArray, List.getElem?_map, List.getD_eq_getElem?_getD, List.getElem?_eq_getElem (show k < s.1.length by omega)]
  rfl
theorem xorA_set (k : Nat) (s p : Sec) (hk : k < 64) : (xorA k s p).setIfInBounds k (.int .u8 ((s.1.getD k 0 ^^^ p.1.getD k 0).toNat : Int)) = xorA (k + 1) s p := by
  have h1 := s.2; have h2 := p.2
  unfold xorA
  apply Array.toList_inj.1
  simp only [Array.toList_setIfInBounds]
  apply List.ext_getElem?
  intro j
  rw [List.getElem?_set]
  have e : (Value.int .u8 ((s.1.getD k 0 ^^^ p.1.getD k 0).toNat : Int)) = cell (s.1.getD k 0 ^^^ p.1.getD k 0) := rfl
  rw [e]
  simp only [List.getElem?_map, List.length_map, xor_len k s p (by omega)]
  unfold xorL
  by_cases hj : k = j
  · subst hj
    rw [if_pos rfl, if_pos hk, List.getElem?_append_left (by simp [h1, h2]; omega), List.getElem?_take, if_pos (by omega), List.getElem?_zipWith]
    simp only [List.getD_eq_getElem?_getD, List.getElem?_eq_getElem (show k < s.1.length by omega), List.getElem?_eq_getElem (show k < p.1.length by omega)]
    rfl
  · rw [if_neg hj]
    by_cases hlt : j < k
    · rw [List.getElem?_append_left (by simp [h1, h2]; omega), List.getElem?_append_left (by simp [h1, h2]; omega), List.getElem?_take, if_pos hlt, List.getElem?_take, if_pos (by omega)]
    · rw [List.getElem?_append_right (by simp; omega), List.getElem?_append_right (by simp; omega), List.getElem?_drop, List.getElem?_drop]
      simp only [List.length_take, List.length_zipWith, h1, h2]
      congr 2
      omega
theorem res20 {tmps : Array Value} {W : World} {g : Nat} {S : Sec} (h1 : tmps.getD 4 undef = .pointer (some ⟨g, 0, none⟩)) (h2 : W.heap[g]? = some (.cells (secA S) 35 (0, 0))) :
    (results Try.f20 tmps).run Try.prog W = .ok (.agg (secA S)) W := res_c rfl h1 (run_loadBw b35 h2 (secA_size _))
set_option linter.unusedSimpArgs false in
set_option maxRecDepth 100000 in
set_option maxHeartbeats 4000000 in
theorem xorS (s p : Sec) (w : World) : Calls Try.prog 20 #[.agg (secA s), .agg (secA p)] w fun e w' => e = .returned (.agg (secA (s.xor p))) ∧ Fr (fun _ => False) w w' := by
  have F3 := (((Fr.refl (fun _ => False) w).alloc (.cells (secA s) 35)).alloc (.cells (secA p) 35)).alloc (.cells (secA Sec.zero) 35)
  have g1 := blk_alloc (blk_alloc (blk_new w (.cells (secA s) 35)) (.cells (secA p) 35)) (.cells (secA Sec.zero) 35)
  have g2 := blk_alloc (blk_new (w.alloc (.cells (secA s) 35)) (.cells (secA p) 35)) (.cells (secA Sec.zero) 35)
  have g3 := blk_new ((w.alloc (.cells (secA s) 35)).alloc (.cells (secA p) 35)) (.cells (secA Sec.zero) 35)
  simp only [World.size_alloc] at g2 g3
  go_enter Try.func20, Try.ntmps20
  go_wp2_with (first | ((with_reducible refine is_alloc 35 rfl ?_); refine wpList_allocB rfl 35 rfl b35 ?_) | ((with_reducible refine is_alloc 34 rfl ?_); refine wpList_allocB rfl 34 rfl b34 ?_) | ((with_reducible refine is_load 35 rfl ?_); (first | refine wpList_loadBw rfl 35 _ rfl b35 _ _ _ rfl (by assumption) (secA_size _) ?_ | refine wpList_loadB rfl 35 _ rfl b35 _ _ _ rfl (by assumption) (secA_size _) ?_)) | ((with_reducible refine is_load 34 rfl ?_); (first | refine wpList_loadBw rfl 34 _ rfl b34 _ _ _ rfl (by assumption) (secA_size _) ?_ | refine wpList_loadB rfl 34 _ rfl b34 _ _ _ rfl (by assumption) (secA_size _) ?_)) | ((with_reducible refine is_store 35 rfl ?_); refine wpList_storeBw rfl 35 _ _ rfl b35 _ _ _ _ rfl rfl (by assumption) (secA_size _) (secA_bx _) ?_) | ((with_reducible refine is_store 34 rfl ?_); refine wpList_storeBw rfl 34 _ _ rfl b34 _ _ _ _ rfl rfl (by assumption) (secA_size _) (secA_bx _) ?_) | ((with_reducible refine is_build 34 rfl ?_); refine wpList_buildZ34 rfl rfl ?_) | ((with_reducible refine is_build 35 rfl ?_); refine wpList_buildZ35 rfl rfl ?_))
  generalize ((w.alloc (.cells (secA s) 35)).alloc (.cells (secA p) 35)).alloc (.cells (secA Sec.zero) 35) = w3 at F3 g1 g2 g3 ⊢
  go_loopw [5, 6] (fun _ i W => ∃ k : Nat, k ≤ 64 ∧ i = .int .i64 k ∧ W.heap[w.heap.size]? = some (.cells (xorA k s p) 35 (0, 0)) ∧ Fr (fun x => x = w.heap.size) w3 W) (fun _ i _ => 64 - (intOf i).toNat)
  case atStart => exact ⟨0, by omega, rfl, by rw [xorA_zero]; exact g1, Fr.refl _ _⟩
  case round =>
    obtain ⟨k, hk, rfl, hm, hf⟩ := hrel
    by_cases hlt : k < 64
    · have h0 : (0 : Int) ≤ (k : Int) := by omega
      have h64 : (k : Int) < 64 := by omega
      have gp := hf.heap g2 (by omega)
      have e1 := xorA_get k s p hlt
      have e2 := secA_get k p hlt
      have c1 : wr.drew.cell? ⟨w.heap.size, k, none⟩ = some (.int .u8 ((s.1.getD k 0).toNat : Int)) := (blk_cell (blk_drew hm) k).trans e1
      have c2 : wr.drew.cell? ⟨w.heap.size + 1, k, none⟩ = some (.int .u8 ((p.1.getD k 0).toNat : Int)) := (blk_cell (blk_drew gp) k).trans e2
      have f1 := blk_frozen (blk_drew hm) k
      have m2 := blk_put (blk_drew hm) k (.int .u8 ((s.1.getD k 0 ^^^ p.1.getD k 0).toNat : Int))
      rw [xorA_set k s p hlt] at m2
      have hf2 := hf.drew.setCell (p := ⟨w.heap.size, k, none⟩) (.inl rfl) (.int .u8 ((s.1.getD k 0 ^^^ p.1.getD k 0).toNat : Int))
      have hx := bits_xor (s.1.getD k 0) (p.1.getD k 0)
      generalize s.1.getD k 0 = x at *
      generalize p.1.getD k 0 = y at *
      clear e1 e2
      go_wp2_with fail
      refine (wpIn_wide (n := 0)).1 ?_
      refine regionIn_seqC (fun d V => V = Ch wr.drew [(8, wr.drew.setCell ⟨w.heap.size, k, none⟩ (.int .u8 ((x ^^^ y).toNat : Int)))] d) rfl (by kernel_rfl) (by kernel_rfl) (by kernel_rfl) (fun _ => trivial) rfl (rfl) ?_
      iterate 8
        apply SeqC.step
        · rfl
        · intro d V hV ht hcl
          have h8 := ht.later 8 _ rfl (by kernel_rfl)
          have gV : V = wr.drew := by rw [hV, Ch, h8, if_neg (by decide)]; rfl
          subst gV
          simp [Oper.gives, execOp, Act.eval, go_sem, c1, c2, h0, h64, hx, hlt]
          exact ⟨rfl, hV.trans (Ch.keep rfl).symm⟩
        simp only [Act.put, List.setIfInBounds_toArray, List.set_cons_succ, List.set_cons_zero]
      apply SeqC.step
      · rfl
      · intro d V hV ht hcl
        have h8 := ht.not
        have gV : V = wr.drew := by rw [hV, Ch, h8, if_neg (by decide)]; rfl
        subst gV
        simp [Oper.gives, execOp, Act.eval, go_sem, c1, f1]
        exact ⟨rfl, by rw [Ch, more_same, if_pos rfl]⟩
      simp only [Act.put, List.setIfInBounds_toArray, List.set_cons_succ, List.set_cons_zero]
      refine SeqC.nil fun V hV => ?_
      obtain rfl : V = wr.drew.setCell ⟨w.heap.size, k, none⟩ (.int .u8 ((x ^^^ y).toNat : Int)) := hV
      generalize wr.drew.setCell ⟨w.heap.size, k, none⟩ (.int .u8 ((x ^^^ y).toNat : Int)) = w4 at m2 hf2 ⊢
      clear c1 c2 f1 hx
      go_wp2_with fail
      go_roundw
      case rel => exact ⟨k + 1, by omega, by go_num, m2, hf2⟩
      case measure => simp [intOf]; omega
    · obtain rfl : k = 64 := by omega
      rw [xorA_end] at hm
      have g3' := hf.heap g3 (by omega)
      go_wp2_with (first | ((with_reducible refine is_alloc 35 rfl ?_); refine wpList_allocB rfl 35 rfl b35 ?_) | ((with_reducible refine is_alloc 34 rfl ?_); refine wpList_allocB rfl 34 rfl b34 ?_) | ((with_reducible refine is_load 35 rfl ?_); (first | refine wpList_loadBw rfl 35 _ rfl b35 _ _ _ rfl (by assumption) (secA_size _) ?_ | refine wpList_loadB rfl 35 _ rfl b35 _ _ _ rfl (by assumption) (secA_size _) ?_)) | ((with_reducible refine is_load 34 rfl ?_); (first | refine wpList_loadBw rfl 34 _ rfl b34 _ _ _ rfl (by assumption) (secA_size _) ?_ | refine wpList_loadB rfl 34 _ rfl b34 _ _ _ rfl (by assumption) (secA_size _) ?_)) | ((with_reducible refine is_store 35 rfl ?_); refine wpList_storeBw rfl 35 _ _ rfl b35 _ _ _ _ rfl rfl (by assumption) (secA_size _) (secA_bx _) ?_) | ((with_reducible refine is_store 34 rfl ?_); refine wpList_storeBw rfl 34 _ _ rfl b34 _ _ _ _ rfl rfl (by assumption) (secA_size _) (secA_bx _) ?_) | ((with_reducible refine is_build 34 rfl ?_); refine wpList_buildZ34 rfl rfl ?_) | ((with_reducible refine is_build 35 rfl ?_); refine wpList_buildZ35 rfl rfl ?_))
      exact bodyPost_ret (res20 rfl (setRow_blk _ g3')) rfl ⟨rfl, (F3.trans (hf.mono (fun _ _ h => h)) (fun i hi e => by omega)).trans (setRow_fr _ _ _) (fun i hi e => by omega)⟩
end Go.Proofs.Ytkbagfpoegfcaaa

/- A sector changed: the document's zone. Conditions: fewer than 100 sectors, small numbers. -/
import Derived.Test.YtlffjkijjggpkaaZs
namespace Go.Proofs.Ytlffjkijjggpkaa
open Go.RowKit Go.Conc

/-- A row with one number set anew. -/
theorem row_set {W : World} {base : Nat} {g n cap : Nat} {L : List Int} (h : W.ownsRow base 3 1 (.slice (some ⟨g, 0, none⟩) n cap) n (ints L)) (k : Nat) (y : Int) :
    (W.setCell ⟨g, k, none⟩ (.int .i64 y)).ownsRow base 3 1 (.slice (some ⟨g, 0, none⟩) n cap) n (ints (L.set k y)) := by
  have hl := row_len h
  rw [ints_length] at hl
  refine ⟨by rw [ints_length, List.length_set]; omega, ?_⟩
  rcases h.2 with ⟨he, h0⟩ | ⟨g', cap', cur, he, hb, hg, h1, h2, h3, h4⟩
  · cases he
  · cases he
    refine .inr ⟨g, cap, cur.setIfInBounds k (.int .i64 y), rfl, hb, blk_put hg k _, h1, h2, by simpa using h3, ?_⟩
    rw [Nat.mul_one] at h4 ⊢
    rw [Array.toList_setIfInBounds, List.take_set, h4, ints, ints, List.map_set]

/-- Exclusive or. -/
def xorP (a b : Int) : Int := bits BinOp.xor IntKind.i64 a b
def chL (L : List Int) (k : Nat) (y : Int) : List Int := L.set k (xorP (L.getD k 0) y)

section
variable {base : Nat} {w : World} {v : Value} {L : List Int} {size safe st : Int} {fin : Bool}
set_option linter.unusedSimpArgs false in
theorem rchange_no (hr : w.ownsRow base 3 1 v L.length (ints L)) (x y : Int) (hx : x < 0 ∨ L.length ≤ x) : Calls Try.prog 41 #[.agg #[v, .int .i64 size, .int .i64 safe, .int .i64 st, .bool fin], .int .i64 x, .int .i64 y] w fun e w' =>
    e = .returned (.tuple #[.agg #[v, .int .i64 size, .int .i64 safe, .int .i64 st, .bool fin], .int .i64 31]) ∧ Below w.heap.size w w' := by
  obtain ⟨a, cap, rfl⟩ := row_val hr
  rcases hx with hx | hx
  · go_enter Try.func41, Try.ntmps41
    go_wp2_with fail
    exact bodyPost_ret (resR41 rfl rfl (two_new w _ _)) rfl ⟨rfl, two_below w _ _⟩
  · have h0 : 0 ≤ x := by omega
    go_enter Try.func41, Try.ntmps41
    go_wp2_with fail
    exact bodyPost_ret (resR41 rfl rfl (two_new w _ _)) rfl ⟨rfl, two_below w _ _⟩
set_option linter.unusedSimpArgs false in
set_option maxHeartbeats 2000000 in
theorem rchange_ok (hr : w.ownsRow base 3 1 v L.length (ints L)) (hl : L.length < 100) (k : Nat) (hk : k < L.length) (y : Int) : Calls Try.prog 41 #[.agg #[v, .int .i64 size, .int .i64 safe, .int .i64 st, .bool fin], .int .i64 k, .int .i64 y] w fun e w' =>
    ∃ v', e = .returned (.tuple #[.agg #[v', .int .i64 size, .int .i64 safe, .int .i64 st, .bool fin], .int .i64 0]) ∧ w'.ownsRow w.heap.size 3 1 v' L.length (ints (chL L k y)) ∧ Below w.heap.size w w' := by
  obtain ⟨a, cap, rfl⟩ := row_val hr
  have ba := two_below w (.cells #[.slice a L.length cap, .int .i64 size, .int .i64 safe, .int .i64 st, .bool fin] 49) (.cells #[.slice none 0 0, .int .i64 0, .int .i64 0, .int .i64 0, .bool false] 49)
  have g1 := two_old w (.cells #[.slice a L.length cap, .int .i64 size, .int .i64 safe, .int .i64 st, .bool fin] 49) (.cells #[.slice none 0 0, .int .i64 0, .int .i64 0, .int .i64 0, .bool false] 49)
  have g2 := two_new w (.cells #[.slice a L.length cap, .int .i64 size, .int .i64 safe, .int .i64 st, .bool fin] 49) (.cells #[.slice none 0 0, .int .i64 0, .int .i64 0, .int .i64 0, .bool false] 49)
  have hsz : ((w.alloc (.cells #[.slice a L.length cap, .int .i64 size, .int .i64 safe, .int .i64 st, .bool fin] 49)).alloc (.cells #[.slice none 0 0, .int .i64 0, .int .i64 0, .int .i64 0, .bool false] 49)).heap.size = w.heap.size + 2 := by simp
  go_enter Try.func41, Try.ntmps41
  go_upto_region 4 with fail
  generalize (w.alloc (.cells #[.slice a L.length cap, .int .i64 size, .int .i64 safe, .int .i64 st, .bool fin] 49)).alloc (.cells #[.slice none 0 0, .int .i64 0, .int .i64 0, .int .i64 0, .bool false] 49) = w2 at ba g1 g2 hsz ⊢
  have cg := fun i => blk_cell g1 i
  go_upto_region 5 with (at_builtin; refine wpList_app (v := .slice none 0 0) rfl (.tmp 19) (.tmp 21) rfl rfl rfl rfl (World.ownsRow_nil _ w.heap.size 3 1) (row_fr hr (Fr.of_below (S := fun _ => False) ba) (fun _ _ => id)) (ints_one L) (by omega) (by omega) ?_; intro a3 n3 w3 hown3 hgrow3 hat3; rw [List.nil_append, Nat.zero_add] at hown3; rw [Nat.zero_add] at hat3)
  obtain ⟨g, cap', e, hcl, hfz⟩ := row_cell (L := ints L) hown3 (i := k) (by rw [ints_length]; exact hk)
  simp only [Value.slice.injEq, true_and] at e
  obtain ⟨rfl, rfl⟩ := e
  have hye : (ints L)[k]'(by rw [ints_length]; exact hk) = .int .i64 L[k] := by simp [ints]
  rw [hye] at hcl
  go_upto_region 6 with fail
  have f3 : Fr (fun _ => False) w2 w3 := Fr.grown hgrow3 (fun k hk => by cases hk)
  have g3 := f3.heap g1 id
  have k3 := f3.heap g2 id
  have e1 : g ≠ w.heap.size := row_ne hown3 g3 (by decide) rfl
  have e2 : g ≠ w.heap.size + 1 := row_ne hown3 k3 (by decide) rfl
  have hge : w2.heap.size ≤ g := by rcases hat3 with q | q; cases q; cases q; exact Nat.le_refl _
  have hch : chL L k y = L.set k (bits BinOp.xor IntKind.i64 L[k] y) := by rw [chL, xorP, List.getD_eq_getElem?_getD, List.getElem?_eq_getElem hk]; rfl
  have r4 := row_set hown3 k (bits BinOp.xor IntKind.i64 L[k] y)
  rw [← hch] at r4
  have g4 := blk_far g3 (p := ⟨g, k, none⟩) (fun e => e1 e.symm) (.int .i64 (bits BinOp.xor IntKind.i64 L[k] y))
  have k4 := blk_far k3 (p := ⟨g, k, none⟩) (fun e => e2 e.symm) (.int .i64 (bits BinOp.xor IntKind.i64 L[k] y))
  have b4 : Below w.heap.size w (w3.setCell ⟨g, k, none⟩ (.int .i64 (bits BinOp.xor IntKind.i64 L[k] y))) := (ba.trans (f3.below ba.size (fun _ _ h => h))).trans ((Fr.set1 w3 g k _).below (by have := f3.size; omega) (fun i hi => by omega))
  generalize w3.setCell ⟨g, k, none⟩ (.int .i64 (bits BinOp.xor IntKind.i64 L[k] y)) = w4 at r4 g4 k4 b4 ⊢
  clear g3 k3 hcl hfz hown3 hgrow3 cg g1 g2 ba hr
  have h5 := blk_put g4 0 (.slice (some ⟨g, 0, none⟩) L.length n3)
  have F5 := Fr.set1 w4 w.heap.size 0 (.slice (some ⟨g, 0, none⟩) L.length n3)
  have k5 := F5.heap k4 (by omega)
  have c4 := fun i => blk_cell g4 i
  have f4 := fun i => blk_frozen g4 i
  have c5 := fun i => blk_cell h5 i
  have c6 := fun i => blk_cell k5 i
  have f6 := fun i => blk_frozen k5 i
  go_wp2_with fail
  exact bodyPost_ret (resR41 rfl rfl (put5 k5 _ _ _ _ _)) rfl ⟨_, rfl, row_fr (row_fr r4 F5 (fun j hj => row_ne r4 g4 (by decide) hj)) (put5_fr _ _ _ _ _ _ _) (fun j hj => row_ne r4 k4 (by decide) hj), (b4.trans (F5.below b4.size (fun i hi => by omega))).trans ((put5_fr _ _ _ _ _ _ _).below (by simpa using b4.size) (fun i hi => by omega))⟩
end
end Go.Proofs.Ytlffjkijjggpkaa

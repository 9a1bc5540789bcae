/- A loop with marks, a cut: the slots that are written picked by a test. No condition. -/
import Derived.Test.YtkbagfpoegfcaaaRs
namespace Go.Proofs.Ytkbagfpoegfcaaa
open Go.RowKit Go.Conc
variable {P : Program}

/-- A frame's slots: of those that wr picks, what u says; of the others, what L says. -/
def mixP (L : List Value) (wr : Nat → Bool) (u : Nat → Value) : List Value := L.mapIdx fun t v => if wr t then u t else v

/-- THE LOOP WITH MARKS, the slots picked by a test: each such statement leaves a mark. 'wr': the slots that a round writes. -/
theorem wp_loop_P {c : Code} {Q : Exit → Act → World → Prop} {L : List Value} {ds0 : List Nat} {w : World} (wr : Nat → Bool) (rel : (Nat → Value) → List Nat → World → Prop) (μ : (Nat → Value) → World → Nat)
    (h0 : rel (fun t => L.getD t undef) ds0 w)
    (hround : ∀ (u : Nat → Value) (ds : List Nat) (W : World), rel u ds W →
      c.wp P (Exit.then (fun a' W' => a'.tmps = (mixP L wr (fun t => a'.tmps.getD t undef)).toArray ∧ ∃ ds', a'.defers = ds'.map markOf ∧ rel (fun t => a'.tmps.getD t undef) ds' W' ∧ μ (fun t => a'.tmps.getD t undef) W' < μ u W) Q)
        { tmps := (mixP L wr u).toArray, defers := ds.map markOf } W) :
    (Code.loop c).wp P Q { tmps := L.toArray, defers := ds0.map markOf } w := by
  have hself : mixP L wr (fun t => L.getD t undef) = L := by
    unfold mixP
    apply List.ext_getElem (by simp)
    intro t h1 h2
    simp only [List.getElem_mapIdx]
    split
    · simp [List.getD, List.getElem?_eq_getElem h2]
    · rfl
  refine wp_loop (fun a' W => a'.tmps = (mixP L wr (fun t => a'.tmps.getD t undef)).toArray ∧ ∃ ds, a'.defers = ds.map markOf ∧ rel (fun t => a'.tmps.getD t undef) ds W) (fun a' W => μ (fun t => a'.tmps.getD t undef) W) ?_ ?_
  · have e : (fun t => ({ tmps := L.toArray, defers := ds0.map markOf } : Act).tmps.getD t undef) = fun t => L.getD t undef := by funext t; simp [List.getD]
    exact ⟨by rw [e, hself], ds0, rfl, by rw [e]; exact h0⟩
  · rintro ⟨tmps, defers⟩ W ⟨h1, ds, h2, h3⟩
    simp only at h1 h2 h3 ⊢
    have := hround _ ds W h3
    rw [← h1, ← h2] at this
    refine Code.wp_mono ?_ this
    intro e a' w' he
    cases e with
    | normal => obtain ⟨g1, ds', g2, g3, g4⟩ := he; exact ⟨⟨g1, ds', g2, g3⟩, g4⟩
    | _ => exact he

/-- A CUT: what follows is walked once. -/
theorem wp_cut {c : Code} {Q : Exit → Act → World → Prop} {L : List Value} {ds : List Nat} {w : World} (wr : Nat → Bool) (R : (Nat → Value) → World → Prop)
    (h1 : c.wp P (Exit.then (fun a' W' => a'.tmps = (mixP L wr (fun t => a'.tmps.getD t undef)).toArray ∧ a'.defers = ds.map markOf ∧ R (fun t => a'.tmps.getD t undef) W') Q) { tmps := L.toArray, defers := ds.map markOf } w)
    (h2 : ∀ u W, R u W → Q .normal { tmps := (mixP L wr u).toArray, defers := ds.map markOf } W) : c.wp P Q { tmps := L.toArray, defers := ds.map markOf } w := by
  refine Code.wp_mono ?_ h1
  rintro e ⟨tmps, defers⟩ W he
  cases e with
  | normal =>
    obtain ⟨g1, g2, g3⟩ := he
    simp only at g1 g2 g3
    have := h2 _ _ g3
    rw [← g1, ← g2] at this
    exact this
  | _ => exact he

theorem zip1 (p : Tmp) (v : Value) (t : Array Value) : (#[p].zip #[v]).foldl (fun t (x : Tmp × Value) => match x with | (p, v) => t.setIfInBounds p v) t = t.setIfInBounds p v := by simp
theorem zip2 (p q : Tmp) (v u : Value) (t : Array Value) : (#[p, q].zip #[v, u]).foldl (fun t (x : Tmp × Value) => match x with | (p, v) => t.setIfInBounds p v) t = (t.setIfInBounds p v).setIfInBounds q u := by simp

end Go.Proofs.Ytkbagfpoegfcaaa

/- A range over a function: the blocks that its rounds turn (N), and those that its iterator turns (M). Condition: no panic within a round. -/
import Derived.Test.YtkbagfpoegfcaaaRh
namespace Go.Proofs.Ytkbagfpoegfcaaa
open Go.RowKit Go.Conc

/-- The blocks of N, and a loop's own two. -/
def NB (N : Nat → Prop) (B : Nat) : Nat → Prop := fun k => N k ∨ k = B ∨ k = B + 1

variable {P : Program}

theorem wp_rangeM {g : Operand} {ps : Array Tmp} {assign body : Code} {Q : Exit → Act → World → Prop} {a : Act} {w : World} {gf : Nat} {lb : Array Value}
    (hg : a.eval g = .func (.func gf) #[] lb) (eg : ∀ args w, (callFunc gf args).run P w = .ok (.enter gf args) w)
    {xs : List (Array Value)} {St : World → World → Prop} (N M : Nat → Prop) (J : Nat → World → Prop) (Jx : Code → World → Prop) (hps : ∀ x ∈ xs, x.size = ps.size)
    (hN : ∀ k, N k → k < w.heap.size) (hM : ∀ k, M k → k < w.heap.size)
    (hJ : ∀ i W W', J i W → (∀ k, N k ∨ M k → W'.heap[k]? = W.heap[k]?) → J i W') (hJx : ∀ c W W', Jx c W → (∀ k, N k ∨ M k → W'.heap[k]? = W.heap[k]?) → Jx c W')
    (hSt : ∀ W W', St W W' → Fr (fun k => M k ∨ w.heap.size + 2 ≤ k) W W') (hJs : ∀ i W W', J i W → St W W' → J i W') (hJxs : ∀ c W W', Jx c W → St W W' → Jx c W')
    (h0 : J 0 w)
    (hseq : ∀ W, Fr (fun _ => False) w W → w.heap.size + 2 ≤ W.heap.size → IterAt P gf lb xs St (Fr (NB N w.heap.size)) W)
    (hbody : ∀ i (args : Array Value) (W : World), xs[i]? = some args →
      assign.wpIn (Fence.wide.inRound (w.heap.size + 1)) 0 P (Exit.then (fun a₁ w₁ => Stood w₁ W ∧ ∀ w₂, Fr (fun k => N k ∨ M k) w w₂ → J i w₂ → w.heap.size + 2 ≤ w₂.heap.size →
        body.wpIn (Fence.wide.inRound (w.heap.size + 1)) 0 P (rPostF N J Jx i w₂) a₁ w₂) (fun _ _ _ => False))
        { tmps := (ps.zip args).foldl (fun t (p, v) => t.setIfInBounds p v) a.tmps, defers := [] } W)
    (hdone : ∀ W, Fr (fun k => N k ∨ M k) w W → J xs.length W → W.heap[w.heap.size]? = some (.deferred (some [])) → Q .normal { a with defers := { target := .collected w.heap.size, args := #[] } :: a.defers } W)
    (hstop : ∀ c W, Fr (fun k => N k ∨ M k) w W → Jx c W → W.heap[w.heap.size]? = some (.deferred (some [])) → c.wp P Q { a with defers := { target := .collected w.heap.size, args := #[] } :: a.defers } W) :
    (Code.rangeFunc g ps assign body).wp P Q a w := by
  have hNM : ∀ k, N k ∨ M k → k < w.heap.size := fun k h => by rcases h with h | h; exact hN k h; exact hM k h
  have keep : ∀ {W W' : World}, w.heap.size + 2 ≤ W.heap.size → Fr N W W' → KeepBk w.heap.size W W' := by
    rintro W W' hs hf k (rfl | rfl)
    · exact hf.block _ (by omega) (fun h => by have := hN _ h; omega)
    · exact hf.block _ (by omega) (fun h => by have := hN _ h; omega)
  have nst : ∀ {W W' : World}, Fr (Bk w.heap.size) W W' → w.heap.size ≤ W.heap.size → ∀ k, N k ∨ M k → W'.heap[k]? = W.heap[k]? := by
    intro W W' hf hs k hk
    have := hNM k hk
    exact hf.block k (by omega) (by rintro (h | h) <;> omega)
  refine wp_rangeIt hg eg (xs := xs) (St := St) (Kp := Fr (NB N w.heap.size)) hps
    (fun i W => Fr (fun k => N k ∨ M k) w W ∧ J i W) (fun c W => Fr (fun k => N k ∨ M k) w W ∧ Jx c W) ?_ ?_ ?_ ?_ ?_ ?_ ?_ ⟨Fr.refl _ _, h0⟩ hseq ?_ ?_ ?_
  · rintro i W W' ⟨h1, h2⟩ hf
    exact ⟨h1.trans hf (fun i hi h => by rcases h with h | h <;> omega), hJ _ _ _ h2 (nst hf h1.size)⟩
  · rintro c W W' ⟨h1, h2⟩ hf
    exact ⟨h1.trans hf (fun i hi h => by rcases h with h | h <;> omega), hJx _ _ _ h2 (nst hf h1.size)⟩
  · rintro i W W' ⟨h1, h2⟩ hst
    exact ⟨h1.trans (hSt W W' hst) (fun i hi h => by rcases h with h | h; exact .inr h; omega), hJs _ _ _ h2 hst⟩
  · rintro c W W' ⟨h1, h2⟩ hst
    exact ⟨h1.trans (hSt W W' hst) (fun i hi h => by rcases h with h | h; exact .inr h; omega), hJxs _ _ _ h2 hst⟩
  · rintro W W' hs hst
    have hf := hSt W W' hst
    rintro k (rfl | rfl)
    · exact hf.block _ (by omega) (by rintro (h | h); have := hM _ h; omega; omega)
    · exact hf.block _ (by omega) (by rintro (h | h); have := hM _ h; omega; omega)
  · intro X Y Z h1 h2
    exact h1.trans h2 (fun _ _ h => h)
  · intro X Y hs hf
    exact hf.mono (fun i _ h => by rcases h with h | h; exact .inr (.inl h); exact .inr (.inr h))
  · rintro i args W hx ⟨hF, hJi⟩ hs
    refine wpIn_mono (hbody i args W hx) ?_
    rintro e a₁ w₁ he
    cases e with
    | normal =>
      obtain ⟨he0, hb⟩ := he
      obtain rfl : w₁ = W := he0
      refine ⟨KeepBk.refl _ _, fun w₂ hf2 hs2 => ?_⟩
      have hF2 : Fr (fun k => N k ∨ M k) w w₂ := hF.trans hf2 (fun i hi h => by rcases h with h | h <;> omega)
      refine wpIn_mono (hb w₂ hF2 (hJ _ _ _ hJi (nst hf2 hF.size)) (by omega)) ?_
      rintro e a3 W3 hp
      have hs3 : w.heap.size + 2 ≤ w₂.heap.size := by omega
      cases e with
      | normal =>
        obtain ⟨hf3, hj3⟩ := hp
        refine ⟨keep hs3 hf3, ⟨hF2.trans hf3 (fun _ _ h => .inl h), hj3⟩, (hf2.mono (fun i _ h => by rcases h with h | h; exact .inr (.inl h); exact .inr (.inr h))).trans hf3 (fun _ _ h => .inl h)⟩
      | ret => exact ⟨keep hs3 hp.1, hF2.trans hp.1 (fun _ _ h => .inl h), hp.2⟩
      | exit id => exact ⟨keep hs3 hp.1, hF2.trans hp.1 (fun _ _ h => .inl h), hp.2⟩
      | goto t => exact ⟨keep hs3 hp.1, hF2.trans hp.1 (fun _ _ h => .inl h), hp.2⟩
      | panic ch => exact hp.elim
      | outgrown => exact hp.elim
    | _ => exact he.elim
  · rintro W ⟨h1, h2⟩ hm
    exact hdone W h1 h2 hm
  · rintro c W ⟨h1, h2⟩ hm
    exact hstop c W h1 h2 hm
end Go.Proofs.Ytkbagfpoegfcaaa

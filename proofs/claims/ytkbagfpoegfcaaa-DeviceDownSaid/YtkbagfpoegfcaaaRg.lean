/- A range over a function whose rounds turn only some blocks: the law of the statement in terms of frames. Condition: no panic within a round. -/
import Derived.Test.YtkbagfpoegfcaaaSq
import Derived.Test.YtkbagfpoegfcaaaRm
namespace Go.Proofs.Ytkbagfpoegfcaaa
open Go.RowKit Go.Conc

theorem Fr.same {S : Nat → Prop} {a b : World} (h : Fr S a b) {k : Nat} (hk : k < a.heap.size) (hn : ¬ S k) : b.heap[k]? = a.heap[k]? := h.block k hk hn
/-- What a round keeps of what lay ahead of the statement. -/
def KpF (B : Nat) (N : Nat → Prop) (X Y : World) : Prop := ∀ k, k < B → ¬ N k → Y.heap[k]? = X.heap[k]?

/-- The same world (a word that the walk leaves alone). -/
def Stood (w W : World) : Prop := w = W

/-- How a round's body may be left. -/
def rPostF (N : Nat → Prop) (J : Nat → World → Prop) (Jx : Code → World → Prop) (i : Nat) (w₂ : World) : Exit → Act → World → Prop
  | .normal, _, W' => Fr N w₂ W' ∧ J (i + 1) W'
  | .ret, _, W' => Fr N w₂ W' ∧ Jx .ret W'
  | .exit id, _, W' => Fr N w₂ W' ∧ Jx (.exit id) W'
  | .goto t, _, W' => Fr N w₂ W' ∧ Jx (.goto t) W'
  | .panic _, _, _ => False
  | .outgrown, _, _ => False

variable {P : Program}

theorem IterAt.weak {g : Nat} {lb : Array Value} {xs : List (Array Value)} {St Kp Kp' : World → World → Prop} {W : World} (h : IterAt P g lb xs St Kp' W) (hk : ∀ X Y, Kp X Y → Kp' X Y) : IterAt P g lb xs St Kp W := by
  intro l J Jx a1 a2 a3
  refine h l J Jx a1 a2 fun i hi W1 hJ => ?_
  obtain ⟨fn, tmps, assign, body, hy, hR⟩ := a3 i hi W1 hJ
  refine ⟨fn, tmps, assign, body, hy, RoundIn.mono hR ?_⟩
  rintro e W' (⟨e1, e2, e3⟩ | e1)
  · exact .inl ⟨e1, e2, hk _ _ e3⟩
  · exact .inr e1

theorem wp_rangeFr {g : Operand} {ps : Array Tmp} {assign body : Code} {Q : Exit → Act → World → Prop} {a : Act} {w : World} {gf : Nat} {lb : Array Value}
    (hg : a.eval g = .func (.func gf) #[] lb) (eg : ∀ args w, (callFunc gf args).run P w = .ok (.enter gf args) w)
    {xs : List (Array Value)} {St : World → World → Prop} (N : Nat → Prop) (J : Nat → World → Prop) (Jx : Code → World → Prop) (hps : ∀ x ∈ xs, x.size = ps.size)
    (hN : ∀ k, N k → k < w.heap.size)
    (hJ : ∀ i W W', J i W → (∀ k, N k → W'.heap[k]? = W.heap[k]?) → J i W') (hJx : ∀ c W W', Jx c W → (∀ k, N k → W'.heap[k]? = W.heap[k]?) → Jx c W')
    (hSt : ∀ W W', St W W' → Fr (fun k => w.heap.size + 2 ≤ k) W W')
    (h0 : J 0 w)
    (hseq : ∀ W, Fr (fun _ => False) w W → w.heap.size + 2 ≤ W.heap.size → IterAt P gf lb xs St (KpF w.heap.size N) W)
    (hbody : ∀ i (args : Array Value) (W : World), xs[i]? = some args →
      assign.wpIn (Fence.wide.inRound (w.heap.size + 1)) 0 P (Exit.then (fun a₁ w₁ => Stood w₁ W ∧ ∀ w₂, Fr N w w₂ → J i w₂ → w.heap.size + 2 ≤ w₂.heap.size →
        body.wpIn (Fence.wide.inRound (w.heap.size + 1)) 0 P (rPostF N J Jx i w₂) a₁ w₂) (fun _ _ _ => False))
        { tmps := (ps.zip args).foldl (fun t (p, v) => t.setIfInBounds p v) a.tmps, defers := [] } W)
    (hdone : ∀ W, Fr N w W → J xs.length W → W.heap[w.heap.size]? = some (.deferred (some [])) → Q .normal { a with defers := { target := .collected w.heap.size, args := #[] } :: a.defers } W)
    (hstop : ∀ c W, Fr N w W → Jx c W → W.heap[w.heap.size]? = some (.deferred (some [])) → c.wp P Q { a with defers := { target := .collected w.heap.size, args := #[] } :: a.defers } W) :
    (Code.rangeFunc g ps assign body).wp P Q a w := by
  have keep : ∀ {W W' : World}, w.heap.size + 2 ≤ W.heap.size → Fr N W W' → KeepBk w.heap.size W W' := by
    rintro W W' hs hf k (rfl | rfl)
    · exact hf.block _ (by omega) (fun h => by have := hN _ h; omega)
    · exact hf.block _ (by omega) (fun h => by have := hN _ h; omega)
  have nst : ∀ {W W' : World}, Fr (Bk w.heap.size) W W' → w.heap.size ≤ W.heap.size → ∀ k, N k → W'.heap[k]? = W.heap[k]? := by
    intro W W' hf hs k hk
    have := hN k hk
    exact hf.block k (by omega) (by rintro (h | h) <;> omega)
  refine wp_rangeIt hg eg (xs := xs) (St := St) (Kp := KpF w.heap.size N) hps
    (fun i W => Fr N w W ∧ J i W) (fun c W => Fr N w W ∧ Jx c W) ?_ ?_ ?_ ?_ ?_ ?_ ?_ ⟨Fr.refl _ _, h0⟩ hseq ?_ ?_ ?_
  · rintro i W W' ⟨h1, h2⟩ hf
    exact ⟨h1.trans hf (fun i hi h => by rcases h with h | h <;> omega), hJ _ _ _ h2 (nst hf h1.size)⟩
  · rintro c W W' ⟨h1, h2⟩ hf
    exact ⟨h1.trans hf (fun i hi h => by rcases h with h | h <;> omega), hJx _ _ _ h2 (nst hf h1.size)⟩
  · rintro i W W' ⟨h1, h2⟩ hst
    have hf := hSt W W' hst
    exact ⟨h1.trans hf (fun i hi h => by omega), hJ _ _ _ h2 (fun k hk => hf.block k (by have := hN k hk; have := h1.size; omega) (by have := hN k hk; omega))⟩
  · rintro c W W' ⟨h1, h2⟩ hst
    have hf := hSt W W' hst
    exact ⟨h1.trans hf (fun i hi h => by omega), hJx _ _ _ h2 (fun k hk => hf.block k (by have := hN k hk; have := h1.size; omega) (by have := hN k hk; omega))⟩
  · rintro W W' hs hst
    have hf := hSt W W' hst
    rintro k (rfl | rfl)
    · exact hf.block _ (by omega) (by omega)
    · exact hf.block _ (by omega) (by omega)
  · intro X Y Z h1 h2 k hk hn
    exact (h2 k hk hn).trans (h1 k hk hn)
  · intro X Y hs hf k hk hn
    exact hf.block k (by omega) (by rintro (h | h) <;> omega)
  · rintro i args W hx ⟨hF, hJi⟩ hs
    refine wpIn_mono (hbody i args W hx) ?_
    rintro e a₁ w₁ he
    cases e with
    | normal =>
      obtain ⟨he0, hb⟩ := he
      obtain rfl : w₁ = W := he0
      refine ⟨KeepBk.refl _ _, fun w₂ hf2 hs2 => ?_⟩
      have hF2 : Fr N w w₂ := hF.trans hf2 (fun i hi h => by rcases h with h | h <;> omega)
      refine wpIn_mono (hb w₂ hF2 (hJ _ _ _ hJi (nst hf2 hF.size)) (by omega)) ?_
      rintro e a3 W3 hp
      have hs3 : w.heap.size + 2 ≤ w₂.heap.size := by omega
      cases e with
      | normal =>
        obtain ⟨hf3, hj3⟩ := hp
        refine ⟨keep hs3 hf3, ⟨hF2.trans hf3 (fun _ _ h => h), hj3⟩, fun k hk hn => (hf3.block k (by omega) hn).trans (hf2.block k (by omega) (by rintro (h | h) <;> omega))⟩
      | ret => exact ⟨keep hs3 hp.1, hF2.trans hp.1 (fun _ _ h => h), hp.2⟩
      | exit id => exact ⟨keep hs3 hp.1, hF2.trans hp.1 (fun _ _ h => h), hp.2⟩
      | goto t => exact ⟨keep hs3 hp.1, hF2.trans hp.1 (fun _ _ h => h), hp.2⟩
      | panic ch => exact hp.elim
      | outgrown => exact hp.elim
    | _ => exact he.elim
  · rintro W ⟨h1, h2⟩ hm
    exact hdone W h1 h2 hm
  · rintro c W ⟨h1, h2⟩ hm
    exact hstop c W h1 h2 hm
end Go.Proofs.Ytkbagfpoegfcaaa

/- A range over a function: an iterator that is itself a range over a function must know what a round kept also where it stops. Condition: no panic within a round. -/
import Derived.Test.YtkbagfpoegfcaaaRk
namespace Go.Proofs.Ytkbagfpoegfcaaa
open Go.RowKit Go.Conc

/-- As 'IterAt'; what a round keeps is known where it stops too. -/
def IterAt2 (P : Program) (g : Nat) (lb : Array Value) (xs : List (Array Value)) (St Kp : World → World → Prop) (W : World) : Prop :=
  ∀ (l : Nat) (J : Nat → World → Prop) (Jx : World → Prop),
    (∀ i W1 W2, J i W1 → St W1 W2 → J i W2) → (∀ W1 W2, Jx W1 → St W1 W2 → Jx W2) →
    (∀ i (h : i < xs.length) W1, J i W1 → YieldAt Fence.wide 0 P l xs[i] W1 fun e W' =>
      (e = .returned (.bool true) ∧ J (i + 1) W' ∧ Kp W1 W') ∨ (e = .returned (.bool false) ∧ Jx W' ∧ Kp W1 W')) →
    J 0 W → Calls P g (#[.func (.yield l) #[] #[]] ++ lb) W fun e W' => (∃ v, e = .returned v) ∧ (J xs.length W' ∨ Jx W')
theorem yield_mono {F : Fence} {m : Nat} {P : Program} {l : Nat} {args : Array Value} {W : World} {R R' : Ending → World → Prop} (h : YieldAt F m P l args W R) (hr : ∀ e w, R e w → R' e w) : YieldAt F m P l args W R' := by
  obtain ⟨fn, tmps, assign, body, hy, hR⟩ := h
  exact ⟨fn, tmps, assign, body, hy, RoundIn.mono hR hr⟩
theorem IterAt.two {P : Program} {g : Nat} {lb : Array Value} {xs : List (Array Value)} {St Kp Kp' : World → World → Prop} {W : World} (h : IterAt P g lb xs St Kp' W) (hk : ∀ X Y, Kp X Y → Kp' X Y) : IterAt2 P g lb xs St Kp W := by
  intro l J Jx a1 a2 a3
  refine h l J Jx a1 a2 fun i hi W1 hJ => yield_mono (a3 i hi W1 hJ) ?_
  rintro e W' (⟨e1, e2, e3⟩ | ⟨e1, e2, e3⟩)
  · exact .inl ⟨e1, e2, hk _ _ e3⟩
  · exact .inr ⟨e1, e2⟩
theorem IterAt2.weak {P : Program} {g : Nat} {lb : Array Value} {xs : List (Array Value)} {St Kp Kp' : World → World → Prop} {W : World} (h : IterAt2 P g lb xs St Kp' W) (hk : ∀ X Y, Kp X Y → Kp' X Y) : IterAt2 P g lb xs St Kp W := by
  intro l J Jx a1 a2 a3
  refine h l J Jx a1 a2 fun i hi W1 hJ => yield_mono (a3 i hi W1 hJ) ?_
  rintro e W' (⟨e1, e2, e3⟩ | ⟨e1, e2, e3⟩)
  · exact .inl ⟨e1, e2, hk _ _ e3⟩
  · exact .inr ⟨e1, e2, hk _ _ e3⟩

/-- How a round's body may be left. -/
def rPost2 (B : Nat) (I : Nat → World → Prop) (Ix : Code → World → Prop) (Kp : World → World → Prop) (i : Nat) (W w₂ : World) : Exit → Act → World → Prop
  | .normal, _, W' => KeepBk B w₂ W' ∧ I (i + 1) W' ∧ Kp W W'
  | .ret, _, W' => KeepBk B w₂ W' ∧ Ix .ret W' ∧ Kp W W'
  | .exit id, _, W' => KeepBk B w₂ W' ∧ Ix (.exit id) W' ∧ Kp W W'
  | .goto t, _, W' => KeepBk B w₂ W' ∧ Ix (.goto t) W' ∧ Kp W W'
  | .panic _, _, _ => False
  | .outgrown, _, _ => False

variable {P : Program}

theorem wp_rangeIt2 {g : Operand} {ps : Array Tmp} {assign body : Code} {Q : Exit → Act → World → Prop} {a : Act} {w : World} {gf : Nat} {lb : Array Value}
    (hg : a.eval g = .func (.func gf) #[] lb) (eg : ∀ args w, (callFunc gf args).run P w = .ok (.enter gf args) w)
    {xs : List (Array Value)} {St Kp : World → World → Prop} (hps : ∀ x ∈ xs, x.size = ps.size)
    (I : Nat → World → Prop) (Ix : Code → World → Prop)
    (hI : ∀ i W W', I i W → Fr (Bk w.heap.size) W W' → I i W') (hIx : ∀ c W W', Ix c W → Fr (Bk w.heap.size) W W' → Ix c W')
    (hIs : ∀ i W W', I i W → St W W' → I i W') (hIxs : ∀ c W W', Ix c W → St W W' → Ix c W')
    (hSt : ∀ W W', w.heap.size + 2 ≤ W.heap.size → St W W' → KeepBk w.heap.size W W')
    (hKt : ∀ X Y Z, Kp X Y → Kp Y Z → Kp X Z) (hKb : ∀ X Y, w.heap.size + 2 ≤ X.heap.size → Fr (Bk w.heap.size) X Y → Kp X Y)
    (h0 : I 0 w)
    (hseq : ∀ W, Fr (fun _ => False) w W → w.heap.size + 2 ≤ W.heap.size → IterAt2 P gf lb xs St Kp W)
    (hbody : ∀ i (args : Array Value) (W : World), xs[i]? = some args → I i W → w.heap.size + 2 ≤ W.heap.size →
      assign.wpIn (Fence.wide.inRound (w.heap.size + 1)) 0 P (Exit.then (fun a₁ w₁ => KeepBk w.heap.size W w₁ ∧ ∀ w₂, Fr (Bk w.heap.size) w₁ w₂ → w₂.heap.size = w₁.heap.size →
        body.wpIn (Fence.wide.inRound (w.heap.size + 1)) 0 P (rPost2 w.heap.size I Ix Kp i W w₂) a₁ w₂) (fun _ _ _ => False))
        { tmps := (ps.zip args).foldl (fun t (p, v) => t.setIfInBounds p v) a.tmps, defers := [] } W)
    (hdone : ∀ W, I xs.length W → W.heap[w.heap.size]? = some (.deferred (some [])) → Q .normal { a with defers := { target := .collected w.heap.size, args := #[] } :: a.defers } W)
    (hstop : ∀ c W, Ix c W → W.heap[w.heap.size]? = some (.deferred (some [])) → c.wp P Q { a with defers := { target := .collected w.heap.size, args := #[] } :: a.defers } W) :
    (Code.rangeFunc g ps assign body).wp P Q a w := by
  refine wpIn_wide (n := 0).1 ?_
  refine wpIn_rangeFunc ?_
  intro fn hfn
  obtain ⟨rec, hrec⟩ : ∃ rec : LoopState → Option Code → Loop, rec = fun st pe => { state := st, pending := pe, fn, tmps := a.tmps, params := ps, assign, body, defers := w.heap.size } := ⟨_, rfl⟩
  obtain ⟨W1, hW1⟩ : ∃ W1, (w.alloc (.deferred (some []))).alloc (.loop (rec .ready none)) = W1 := ⟨_, rfl⟩
  have hL1 : W1.heap[w.heap.size + 1]? = some (.loop (rec .ready none)) := by
    rw [← hW1]; have := World.alloc_heap_new (w.alloc (.deferred (some []))) (.loop (rec .ready none)); rwa [World.size_alloc] at this
  have hK1 : W1.heap[w.heap.size]? = some (.deferred (some [])) := by
    rw [← hW1]; exact (Below.heap_alloc _ _ _ (by simp)).trans (World.alloc_heap_new w _)
  have hF1 : Fr (Bk w.heap.size) w W1 := by rw [← hW1]; exact ((Fr.refl _ w).alloc _).alloc _
  have hF0 : Fr (fun _ => False) w W1 := by rw [← hW1]; exact ((Fr.refl _ w).alloc _).alloc _
  have hs1 : W1.heap.size = w.heap.size + 2 := by rw [← hW1]; simp
  have bk : ∀ (W : World) (r : LoopState → Option Code → Obj) (o : Obj), Fr (Bk w.heap.size) W (W.putObj (w.heap.size + 1) o) := fun W _ o => (Fr.refl _ W).putObj (.inl (.inr rfl)) o
  refine ⟨w.heap.size + 1, [{ target := .collected w.heap.size, args := #[] }], W1, { target := .fn (.func gf) lb, args := #[.func (.yield (w.heap.size + 1)) #[] #[]] }, W1, gf,
    #[.func (.yield (w.heap.size + 1)) #[] #[]] ++ lb, W1, ?_, ?_, ?_, ?_, fun h => by simp [Fence.wide] at h, ?_⟩
  · rw [← hW1, hrec]; exact run_enterLoop_outer _ _ _ _ _
  · simp only [resolve, hg]
    simp [go_sem]
  · intro f' _; trivial
  · simp [invoke, go_sem, eg]
  · refine callsIn_wide.2 ((hseq W1 hF0 (by omega) (w.heap.size + 1)
      (fun i W => I i W ∧ (W.heap[w.heap.size + 1]? = some (.loop (rec .ready none)) ∧ W.heap[w.heap.size]? = some (.deferred (some []))))
      (fun W => ∃ c, Ix c W ∧ (W.heap[w.heap.size + 1]? = some (.loop (rec .done (some c))) ∧ W.heap[w.heap.size]? = some (.deferred (some []))))
      ?_ ?_ ?_ ⟨hI _ _ _ h0 hF1, hL1, hK1⟩).mono ?_)
    · rintro i A B ⟨h1, h2, h3⟩ hst
      have hk := hSt A B (by have := blk_lt h2; omega) hst
      exact ⟨hIs _ _ _ h1 hst, (hk _ (.inr rfl)).trans h2, (hk _ (.inl rfl)).trans h3⟩
    · rintro A B ⟨c, h1, h2, h3⟩ hst
      have hk := hSt A B (by have := blk_lt h2; omega) hst
      exact ⟨c, hIxs _ _ _ h1 hst, (hk _ (.inr rfl)).trans h2, (hk _ (.inl rfl)).trans h3⟩
    · rintro i hi W ⟨hIi, hl, hk⟩
      have hlt : w.heap.size + 1 < W.heap.size := blk_lt hl
      have hy := run_yield (P := P) (args := xs[i]) hl (by rw [hrec]; exact hps _ (List.getElem_mem hi))
      rw [hrec] at hy
      refine ⟨fn, _, assign, body, hy, roundIn_of_wpIn hfn ?_⟩
      refine wpIn_mono (hbody i _ W (List.getElem?_eq_getElem hi) hIi (by omega)) ?_
      intro e a₁ w₁ he
      cases e with
      | exit id => exact he.elim
      | goto t => exact he.elim
      | ret => exact he.elim
      | panic ch => exact he.elim
      | outgrown => exact he.elim
      | normal =>
        obtain ⟨hkeep, hb⟩ := he
        have hl1 : w₁.heap[w.heap.size + 1]? = some (.loop (rec .ready none)) := (hkeep _ (.inr rfl)).trans hl
        have hk1 : w₁.heap[w.heap.size]? = some (.deferred (some [])) := (hkeep _ (.inl rfl)).trans hk
        refine ⟨_, run_beginRound hl1 (by rw [hrec]), ?_⟩
        have hl2 : (w₁.putObj (w.heap.size + 1) (.loop { rec .ready none with state := .busy })).heap[w.heap.size + 1]? = some (.loop { rec .ready none with state := .busy }) := World.putObj_heap_same (blk_lt hl1)
        have hk2 : (w₁.putObj (w.heap.size + 1) (.loop { rec .ready none with state := .busy })).heap[w.heap.size]? = some (.deferred (some [])) := (World.putObj_heap_other (by omega)).trans hk1
        have hfr2 := bk w₁ (fun _ _ => .deferred none) (.loop { rec .ready none with state := .busy })
        obtain ⟨w₂, hw2⟩ : ∃ w₂, w₁.putObj (w.heap.size + 1) (.loop { rec .ready none with state := .busy }) = w₂ := ⟨_, rfl⟩
        have hsz2 : w₂.heap.size = w₁.heap.size := by rw [← hw2]; simp
        rw [hw2] at hl2 hk2 hfr2 ⊢
        refine wpIn_mono (hb w₂ hfr2 hsz2) ?_
        have fin : ∀ (jump : Option Code) (W3 : World), KeepBk w.heap.size w₂ W3 →
            (Instr.endRound (w.heap.size + 1) jump).run P W3 = .ok (.bool jump.isNone) (W3.putObj (w.heap.size + 1) (.loop (rec (if jump.isNone then .ready else .done) jump))) ∧
            (W3.putObj (w.heap.size + 1) (.loop (rec (if jump.isNone then .ready else .done) jump))).heap[w.heap.size + 1]? = some (.loop (rec (if jump.isNone then .ready else .done) jump)) ∧
            (W3.putObj (w.heap.size + 1) (.loop (rec (if jump.isNone then .ready else .done) jump))).heap[w.heap.size]? = some (.deferred (some [])) ∧
            Fr (Bk w.heap.size) W3 (W3.putObj (w.heap.size + 1) (.loop (rec (if jump.isNone then .ready else .done) jump))) := fun jump W3 hk3 => by
          have hl3 : W3.heap[w.heap.size + 1]? = some (.loop { rec .ready none with state := .busy }) := (hk3 _ (.inr rfl)).trans hl2
          have hd3 : W3.heap[w.heap.size]? = some (.deferred (some [])) := (hk3 _ (.inl rfl)).trans hk2
          have := run_endRound (P := P) jump hl3
          rw [hrec] at this ⊢
          exact ⟨this, World.putObj_heap_same (blk_lt hl3), (World.putObj_heap_other (by omega)).trans hd3, bk W3 (fun _ _ => .deferred none) _⟩
        rintro e a3 W3 hp
        cases e with
        | normal =>
          obtain ⟨hk3, hi3, hkp3⟩ := hp
          obtain ⟨hr, hl4, hk4, hf4⟩ := fin none W3 hk3
          exact ⟨_, _, hr, .inl ⟨rfl, ⟨hI _ _ _ hi3 hf4, hl4, hk4⟩, hKt _ _ _ hkp3 (hKb _ _ (by have := (hk3 _ (.inr rfl)).trans hl2; have := blk_lt this; omega) hf4)⟩⟩
        | ret =>
          obtain ⟨hk3, hi3, hkp3⟩ := hp
          obtain ⟨hr, hl4, hk4, hf4⟩ := fin (some .ret) W3 hk3
          exact ⟨_, _, hr, .inr ⟨rfl, ⟨.ret, hIx _ _ _ hi3 hf4, hl4, hk4⟩, hKt _ _ _ hkp3 (hKb _ _ (by have := (hk3 _ (.inr rfl)).trans hl2; have := blk_lt this; omega) hf4)⟩⟩
        | exit id =>
          obtain ⟨hk3, hi3, hkp3⟩ := hp
          obtain ⟨hr, hl4, hk4, hf4⟩ := fin (some (.exit id)) W3 hk3
          exact ⟨_, _, hr, .inr ⟨rfl, ⟨.exit id, hIx _ _ _ hi3 hf4, hl4, hk4⟩, hKt _ _ _ hkp3 (hKb _ _ (by have := (hk3 _ (.inr rfl)).trans hl2; have := blk_lt this; omega) hf4)⟩⟩
        | goto t =>
          obtain ⟨hk3, hi3, hkp3⟩ := hp
          obtain ⟨hr, hl4, hk4, hf4⟩ := fin (some (.goto t)) W3 hk3
          exact ⟨_, _, hr, .inr ⟨rfl, ⟨.goto t, hIx _ _ _ hi3 hf4, hl4, hk4⟩, hKt _ _ _ hkp3 (hKb _ _ (by have := (hk3 _ (.inr rfl)).trans hl2; have := blk_lt this; omega) hf4)⟩⟩
        | panic ch => exact hp.elim
        | outgrown => exact hp.elim
    · rintro e W2 ⟨⟨v, rfl⟩, (⟨hi, hl, hk⟩ | ⟨c, hi, hl, hk⟩)⟩
      · refine ⟨none, _, by have := run_endLoop (P := P) hl (by rw [hrec]; simp); rw [hrec] at this; exact this, ?_⟩
        exact hdone _ (hI _ _ _ hi (bk _ (fun _ _ => .deferred none) _)) ((World.putObj_heap_other (by omega)).trans hk)
      · refine ⟨some c, _, by have := run_endLoop (P := P) hl (by rw [hrec]; simp); rw [hrec] at this; exact this, ?_⟩
        exact wpIn_wide.2 (hstop c _ (hIx _ _ _ hi (bk _ (fun _ _ => .deferred none) _)) ((World.putObj_heap_other (by omega)).trans hk))


theorem wp_rangeM2 {g : Operand} {ps : Array Tmp} {assign body : Code} {Q : Exit → Act → World → Prop} {a : Act} {w : World} {gf : Nat} {lb : Array Value}
    (hg : a.eval g = .func (.func gf) #[] lb) (eg : ∀ args w, (callFunc gf args).run P w = .ok (.enter gf args) w)
    {xs : List (Array Value)} {St : World → World → Prop} (N M : Nat → Prop) (J : Nat → World → Prop) (Jx : Code → World → Prop) (hps : ∀ x ∈ xs, x.size = ps.size)
    (hN : ∀ k, N k → k < w.heap.size) (hM : ∀ k, M k → k < w.heap.size)
    (hJ : ∀ i W W', J i W → (∀ k, N k ∨ M k → W'.heap[k]? = W.heap[k]?) → J i W') (hJx : ∀ c W W', Jx c W → (∀ k, N k ∨ M k → W'.heap[k]? = W.heap[k]?) → Jx c W')
    (hSt : ∀ W W', St W W' → Fr (fun k => M k ∨ w.heap.size + 2 ≤ k) W W') (hJs : ∀ i W W', J i W → St W W' → J i W') (hJxs : ∀ c W W', Jx c W → St W W' → Jx c W')
    (h0 : J 0 w)
    (hseq : ∀ W, Fr (fun _ => False) w W → w.heap.size + 2 ≤ W.heap.size → IterAt2 P gf lb xs St (Fr (NB N w.heap.size)) W)
    (hbody : ∀ i (args : Array Value) (W : World), xs[i]? = some args →
      assign.wpIn (Fence.wide.inRound (w.heap.size + 1)) 0 P (Exit.then (fun a₁ w₁ => Stood w₁ W ∧ ∀ w₂, Fr (fun k => N k ∨ M k) w w₂ → J i w₂ → w.heap.size + 2 ≤ w₂.heap.size →
        body.wpIn (Fence.wide.inRound (w.heap.size + 1)) 0 P (rPostF N J Jx i w₂) a₁ w₂) (fun _ _ _ => False))
        { tmps := (ps.zip args).foldl (fun t (p, v) => t.setIfInBounds p v) a.tmps, defers := [] } W)
    (hdone : ∀ W, Fr (fun k => N k ∨ M k) w W → J xs.length W → W.heap[w.heap.size]? = some (.deferred (some [])) → Q .normal { a with defers := { target := .collected w.heap.size, args := #[] } :: a.defers } W)
    (hstop : ∀ c W, Fr (fun k => N k ∨ M k) w W → Jx c W → W.heap[w.heap.size]? = some (.deferred (some [])) → c.wp P Q { a with defers := { target := .collected w.heap.size, args := #[] } :: a.defers } W) :
    (Code.rangeFunc g ps assign body).wp P Q a w := by
  have hNM : ∀ k, N k ∨ M k → k < w.heap.size := fun k h => by rcases h with h | h; exact hN k h; exact hM k h
  have keep : ∀ {W W' : World}, w.heap.size + 2 ≤ W.heap.size → Fr N W W' → KeepBk w.heap.size W W' := by
    rintro W W' hs hf k (rfl | rfl)
    · exact hf.block _ (by omega) (fun h => by have := hN _ h; omega)
    · exact hf.block _ (by omega) (fun h => by have := hN _ h; omega)
  have nst : ∀ {W W' : World}, Fr (Bk w.heap.size) W W' → w.heap.size ≤ W.heap.size → ∀ k, N k ∨ M k → W'.heap[k]? = W.heap[k]? := by
    intro W W' hf hs k hk
    have := hNM k hk
    exact hf.block k (by omega) (by rintro (h | h) <;> omega)
  refine wp_rangeIt2 hg eg (xs := xs) (St := St) (Kp := Fr (NB N w.heap.size)) hps
    (fun i W => Fr (fun k => N k ∨ M k) w W ∧ J i W) (fun c W => Fr (fun k => N k ∨ M k) w W ∧ Jx c W) ?_ ?_ ?_ ?_ ?_ ?_ ?_ ⟨Fr.refl _ _, h0⟩ hseq ?_ ?_ ?_
  · rintro i W W' ⟨h1, h2⟩ hf
    exact ⟨h1.trans hf (fun i hi h => by rcases h with h | h <;> omega), hJ _ _ _ h2 (nst hf h1.size)⟩
  · rintro c W W' ⟨h1, h2⟩ hf
    exact ⟨h1.trans hf (fun i hi h => by rcases h with h | h <;> omega), hJx _ _ _ h2 (nst hf h1.size)⟩
  · rintro i W W' ⟨h1, h2⟩ hst
    exact ⟨h1.trans (hSt W W' hst) (fun i hi h => by rcases h with h | h; exact .inr h; omega), hJs _ _ _ h2 hst⟩
  · rintro c W W' ⟨h1, h2⟩ hst
    exact ⟨h1.trans (hSt W W' hst) (fun i hi h => by rcases h with h | h; exact .inr h; omega), hJxs _ _ _ h2 hst⟩
  · rintro W W' hs hst
    have hf := hSt W W' hst
    rintro k (rfl | rfl)
    · exact hf.block _ (by omega) (by rintro (h | h); have := hM _ h; omega; omega)
    · exact hf.block _ (by omega) (by rintro (h | h); have := hM _ h; omega; omega)
  · intro X Y Z h1 h2
    exact h1.trans h2 (fun _ _ h => h)
  · intro X Y hs hf
    exact hf.mono (fun i _ h => by rcases h with h | h; exact .inr (.inl h); exact .inr (.inr h))
  · rintro i args W hx ⟨hF, hJi⟩ hs
    refine wpIn_mono (hbody i args W hx) ?_
    rintro e a₁ w₁ he
    cases e with
    | normal =>
      obtain ⟨he0, hb⟩ := he
      obtain rfl : w₁ = W := he0
      refine ⟨KeepBk.refl _ _, fun w₂ hf2 hs2 => ?_⟩
      have hF2 : Fr (fun k => N k ∨ M k) w w₂ := hF.trans hf2 (fun i hi h => by rcases h with h | h <;> omega)
      refine wpIn_mono (hb w₂ hF2 (hJ _ _ _ hJi (nst hf2 hF.size)) (by omega)) ?_
      rintro e a3 W3 hp
      have hs3 : w.heap.size + 2 ≤ w₂.heap.size := by omega
      cases e with
      | normal =>
        obtain ⟨hf3, hj3⟩ := hp
        refine ⟨keep hs3 hf3, ⟨hF2.trans hf3 (fun _ _ h => .inl h), hj3⟩, (hf2.mono (fun i _ h => by rcases h with h | h; exact .inr (.inl h); exact .inr (.inr h))).trans hf3 (fun _ _ h => .inl h)⟩
      | ret => exact ⟨keep hs3 hp.1, ⟨hF2.trans hp.1 (fun _ _ h => .inl h), hp.2⟩, (hf2.mono (fun i _ h => by rcases h with h | h; exact .inr (.inl h); exact .inr (.inr h))).trans hp.1 (fun _ _ h => .inl h)⟩
      | exit id => exact ⟨keep hs3 hp.1, ⟨hF2.trans hp.1 (fun _ _ h => .inl h), hp.2⟩, (hf2.mono (fun i _ h => by rcases h with h | h; exact .inr (.inl h); exact .inr (.inr h))).trans hp.1 (fun _ _ h => .inl h)⟩
      | goto t => exact ⟨keep hs3 hp.1, ⟨hF2.trans hp.1 (fun _ _ h => .inl h), hp.2⟩, (hf2.mono (fun i _ h => by rcases h with h | h; exact .inr (.inl h); exact .inr (.inr h))).trans hp.1 (fun _ _ h => .inl h)⟩
      | panic ch => exact hp.elim
      | outgrown => exact hp.elim
    | _ => exact he.elim
  · rintro W ⟨h1, h2⟩ hm
    exact hdone W h1 h2 hm
  · rintro c W ⟨h1, h2⟩ hm
    exact hstop c W h1 h2 hm

end Go.Proofs.Ytkbagfpoegfcaaa

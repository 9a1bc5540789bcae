/- A range over a function, for the plain walk: the contract of an iterator that hands out a list known ahead ('IterAt'), the law of the statement over it ('wp_rangeIt'), and a function's contract where its body holds such a statement. Condition: no panic within a round. -/
import Derived.Test.YtkbagfpoegfcaaaFr
import Derived.RangeFuncNested
import Derived.BigFrameIn
import Derived.LoopIn
import Derived.BigGuardIn
namespace Go.Proofs.Ytkbagfpoegfcaaa
open Go.RowKit Go.Conc

/-- 'g', called with yield, hands out xs, one by one, and returns; or it stops where a round says so. St: what it may turn between two rounds; Kp: what a round must keep. -/
def IterAt (P : Program) (g : Nat) (lb : Array Value) (xs : List (Array Value)) (St Kp : World → World → Prop) (W : World) : Prop :=
  ∀ (l : Nat) (J : Nat → World → Prop) (Jx : World → Prop),
    (∀ i W1 W2, J i W1 → St W1 W2 → J i W2) → (∀ W1 W2, Jx W1 → St W1 W2 → Jx W2) →
    (∀ i (h : i < xs.length) W1, J i W1 → YieldAt Fence.wide 0 P l xs[i] W1 fun e W' =>
      (e = .returned (.bool true) ∧ J (i + 1) W' ∧ Kp W1 W') ∨ (e = .returned (.bool false) ∧ Jx W')) →
    J 0 W → Calls P g (#[.func (.yield l) #[] #[]] ++ lb) W fun e W' => (∃ v, e = .returned v) ∧ (J xs.length W' ∨ Jx W')

/-- The two blocks of a loop's own book-keeping. -/
def Bk (B : Nat) : Nat → Prop := fun k => k = B ∨ k = B + 1
/-- They lie as they lay. -/
def KeepBk (B : Nat) (W W' : World) : Prop := ∀ k, Bk B k → W'.heap[k]? = W.heap[k]?
theorem KeepBk.refl (B : Nat) (W : World) : KeepBk B W W := fun _ _ => rfl
theorem KeepBk.trans {B : Nat} {X Y Z : World} (h : KeepBk B X Y) (k : KeepBk B Y Z) : KeepBk B X Z := fun i hi => (k i hi).trans (h i hi)
theorem Fr.keepBk {S : Nat → Prop} {B : Nat} {W W' : World} (h : Fr S W W') (hB : B + 2 ≤ W.heap.size) (h1 : ¬ S B) (h2 : ¬ S (B + 1)) : KeepBk B W W' := by
  rintro k (rfl | rfl)
  · exact h.block _ (by omega) h1
  · exact h.block _ (by omega) h2
theorem Fr.putObj {S : Nat → Prop} {a w : World} (h : Fr S a w) {l : Nat} (hl : S l ∨ a.heap.size ≤ l) (o : Obj) : Fr S a (w.putObj l o) :=
  ⟨h.os, h.tape, h.output, by simp; exact h.size, fun k hk hn => (World.putObj_heap_other (by rintro rfl; rcases hl with hl | hl; exact hn hl; omega)).trans (h.block k hk hn)⟩

/-- How a round's body may be left. -/
def rPost (B : Nat) (I : Nat → World → Prop) (Ix : Code → World → Prop) (Kp : World → World → Prop) (i : Nat) (W w₂ : World) : Exit → Act → World → Prop
  | .normal, _, W' => KeepBk B w₂ W' ∧ I (i + 1) W' ∧ Kp W W'
  | .ret, _, W' => KeepBk B w₂ W' ∧ Ix .ret W'
  | .exit id, _, W' => KeepBk B w₂ W' ∧ Ix (.exit id) W'
  | .goto t, _, W' => KeepBk B w₂ W' ∧ Ix (.goto t) W'
  | .panic _, _, _ => False
  | .outgrown, _, _ => False

variable {P : Program}

theorem enters {fn : Func} {f : Nat} (h : P.funcs[f]? = some fn) (hb : fn.body.isSome = true) (hn : fn.name ≠ "runtime.NumGoroutine") (args : Array Value) (w : World) : (callFunc f args).run P w = .ok (.enter f args) w := by
  have hb' : fn.body ≠ none := by intro e; rw [e] at hb; cases hb
  simp [callFunc, Sem.run_bind, program, Sem.run, h, Result.andThen, hn, hb']

theorem wp_rangeIt {g : Operand} {ps : Array Tmp} {assign body : Code} {Q : Exit → Act → World → Prop} {a : Act} {w : World} {gf : Nat} {lb : Array Value}
    (hg : a.eval g = .func (.func gf) #[] lb) (eg : ∀ args w, (callFunc gf args).run P w = .ok (.enter gf args) w)
    {xs : List (Array Value)} {St Kp : World → World → Prop} (hps : ∀ x ∈ xs, x.size = ps.size)
    (I : Nat → World → Prop) (Ix : Code → World → Prop)
    (hI : ∀ i W W', I i W → Fr (Bk w.heap.size) W W' → I i W') (hIx : ∀ c W W', Ix c W → Fr (Bk w.heap.size) W W' → Ix c W')
    (hIs : ∀ i W W', I i W → St W W' → I i W') (hIxs : ∀ c W W', Ix c W → St W W' → Ix c W')
    (hSt : ∀ W W', w.heap.size + 2 ≤ W.heap.size → St W W' → KeepBk w.heap.size W W')
    (hKt : ∀ X Y Z, Kp X Y → Kp Y Z → Kp X Z) (hKb : ∀ X Y, w.heap.size + 2 ≤ X.heap.size → Fr (Bk w.heap.size) X Y → Kp X Y)
    (h0 : I 0 w)
    (hseq : ∀ W, Fr (fun _ => False) w W → w.heap.size + 2 ≤ W.heap.size → IterAt P gf lb xs St Kp W)
    (hbody : ∀ i (args : Array Value) (W : World), xs[i]? = some args → I i W → w.heap.size + 2 ≤ W.heap.size →
      assign.wpIn (Fence.wide.inRound (w.heap.size + 1)) 0 P (Exit.then (fun a₁ w₁ => KeepBk w.heap.size W w₁ ∧ ∀ w₂, Fr (Bk w.heap.size) w₁ w₂ → w₂.heap.size = w₁.heap.size →
        body.wpIn (Fence.wide.inRound (w.heap.size + 1)) 0 P (rPost w.heap.size I Ix Kp i W w₂) a₁ w₂) (fun _ _ _ => False))
        { tmps := (ps.zip args).foldl (fun t (p, v) => t.setIfInBounds p v) a.tmps, defers := [] } W)
    (hdone : ∀ W, I xs.length W → W.heap[w.heap.size]? = some (.deferred (some [])) → Q .normal { a with defers := { target := .collected w.heap.size, args := #[] } :: a.defers } W)
    (hstop : ∀ c W, Ix c W → W.heap[w.heap.size]? = some (.deferred (some [])) → c.wp P Q { a with defers := { target := .collected w.heap.size, args := #[] } :: a.defers } W) :
    (Code.rangeFunc g ps assign body).wp P Q a w := by
  refine wpIn_wide (n := 0).1 ?_
  refine wpIn_rangeFunc ?_
  intro fn hfn
  obtain ⟨rec, hrec⟩ : ∃ rec : LoopState → Option Code → Loop, rec = fun st pe => { state := st, pending := pe, fn, tmps := a.tmps, params := ps, assign, body, defers := w.heap.size } := ⟨_, rfl⟩
  obtain ⟨W1, hW1⟩ : ∃ W1, (w.alloc (.deferred (some []))).alloc (.loop (rec .ready none)) = W1 := ⟨_, rfl⟩
  have hL1 : W1.heap[w.heap.size + 1]? = some (.loop (rec .ready none)) := by
    rw [← hW1]; have := World.alloc_heap_new (w.alloc (.deferred (some []))) (.loop (rec .ready none)); rwa [World.size_alloc] at this
  have hK1 : W1.heap[w.heap.size]? = some (.deferred (some [])) := by
    rw [← hW1]; exact (Below.heap_alloc _ _ _ (by simp)).trans (World.alloc_heap_new w _)
  have hF1 : Fr (Bk w.heap.size) w W1 := by rw [← hW1]; exact ((Fr.refl _ w).alloc _).alloc _
  have hF0 : Fr (fun _ => False) w W1 := by rw [← hW1]; exact ((Fr.refl _ w).alloc _).alloc _
  have hs1 : W1.heap.size = w.heap.size + 2 := by rw [← hW1]; simp
  have bk : ∀ (W : World) (r : LoopState → Option Code → Obj) (o : Obj), Fr (Bk w.heap.size) W (W.putObj (w.heap.size + 1) o) := fun W _ o => (Fr.refl _ W).putObj (.inl (.inr rfl)) o
  refine ⟨w.heap.size + 1, [{ target := .collected w.heap.size, args := #[] }], W1, { target := .fn (.func gf) lb, args := #[.func (.yield (w.heap.size + 1)) #[] #[]] }, W1, gf,
    #[.func (.yield (w.heap.size + 1)) #[] #[]] ++ lb, W1, ?_, ?_, ?_, ?_, fun h => by simp [Fence.wide] at h, ?_⟩
  · rw [← hW1, hrec]; exact run_enterLoop_outer _ _ _ _ _
  · simp only [resolve, hg]
    simp [go_sem]
  · intro f' _; trivial
  · simp [invoke, go_sem, eg]
  · refine callsIn_wide.2 ((hseq W1 hF0 (by omega) (w.heap.size + 1)
      (fun i W => I i W ∧ (W.heap[w.heap.size + 1]? = some (.loop (rec .ready none)) ∧ W.heap[w.heap.size]? = some (.deferred (some []))))
      (fun W => ∃ c, Ix c W ∧ (W.heap[w.heap.size + 1]? = some (.loop (rec .done (some c))) ∧ W.heap[w.heap.size]? = some (.deferred (some []))))
      ?_ ?_ ?_ ⟨hI _ _ _ h0 hF1, hL1, hK1⟩).mono ?_)
    · rintro i A B ⟨h1, h2, h3⟩ hst
      have hk := hSt A B (by have := blk_lt h2; omega) hst
      exact ⟨hIs _ _ _ h1 hst, (hk _ (.inr rfl)).trans h2, (hk _ (.inl rfl)).trans h3⟩
    · rintro A B ⟨c, h1, h2, h3⟩ hst
      have hk := hSt A B (by have := blk_lt h2; omega) hst
      exact ⟨c, hIxs _ _ _ h1 hst, (hk _ (.inr rfl)).trans h2, (hk _ (.inl rfl)).trans h3⟩
    · rintro i hi W ⟨hIi, hl, hk⟩
      have hlt : w.heap.size + 1 < W.heap.size := blk_lt hl
      have hy := run_yield (P := P) (args := xs[i]) hl (by rw [hrec]; exact hps _ (List.getElem_mem hi))
      rw [hrec] at hy
      refine ⟨fn, _, assign, body, hy, roundIn_of_wpIn hfn ?_⟩
      refine wpIn_mono (hbody i _ W (List.getElem?_eq_getElem hi) hIi (by omega)) ?_
      intro e a₁ w₁ he
      cases e with
      | exit id => exact he.elim
      | goto t => exact he.elim
      | ret => exact he.elim
      | panic ch => exact he.elim
      | outgrown => exact he.elim
      | normal =>
        obtain ⟨hkeep, hb⟩ := he
        have hl1 : w₁.heap[w.heap.size + 1]? = some (.loop (rec .ready none)) := (hkeep _ (.inr rfl)).trans hl
        have hk1 : w₁.heap[w.heap.size]? = some (.deferred (some [])) := (hkeep _ (.inl rfl)).trans hk
        refine ⟨_, run_beginRound hl1 (by rw [hrec]), ?_⟩
        have hl2 : (w₁.putObj (w.heap.size + 1) (.loop { rec .ready none with state := .busy })).heap[w.heap.size + 1]? = some (.loop { rec .ready none with state := .busy }) := World.putObj_heap_same (blk_lt hl1)
        have hk2 : (w₁.putObj (w.heap.size + 1) (.loop { rec .ready none with state := .busy })).heap[w.heap.size]? = some (.deferred (some [])) := (World.putObj_heap_other (by omega)).trans hk1
        have hfr2 := bk w₁ (fun _ _ => .deferred none) (.loop { rec .ready none with state := .busy })
        obtain ⟨w₂, hw2⟩ : ∃ w₂, w₁.putObj (w.heap.size + 1) (.loop { rec .ready none with state := .busy }) = w₂ := ⟨_, rfl⟩
        have hsz2 : w₂.heap.size = w₁.heap.size := by rw [← hw2]; simp
        rw [hw2] at hl2 hk2 hfr2 ⊢
        refine wpIn_mono (hb w₂ hfr2 hsz2) ?_
        have fin : ∀ (jump : Option Code) (W3 : World), KeepBk w.heap.size w₂ W3 →
            (Instr.endRound (w.heap.size + 1) jump).run P W3 = .ok (.bool jump.isNone) (W3.putObj (w.heap.size + 1) (.loop (rec (if jump.isNone then .ready else .done) jump))) ∧
            (W3.putObj (w.heap.size + 1) (.loop (rec (if jump.isNone then .ready else .done) jump))).heap[w.heap.size + 1]? = some (.loop (rec (if jump.isNone then .ready else .done) jump)) ∧
            (W3.putObj (w.heap.size + 1) (.loop (rec (if jump.isNone then .ready else .done) jump))).heap[w.heap.size]? = some (.deferred (some [])) ∧
            Fr (Bk w.heap.size) W3 (W3.putObj (w.heap.size + 1) (.loop (rec (if jump.isNone then .ready else .done) jump))) := fun jump W3 hk3 => by
          have hl3 : W3.heap[w.heap.size + 1]? = some (.loop { rec .ready none with state := .busy }) := (hk3 _ (.inr rfl)).trans hl2
          have hd3 : W3.heap[w.heap.size]? = some (.deferred (some [])) := (hk3 _ (.inl rfl)).trans hk2
          have := run_endRound (P := P) jump hl3
          rw [hrec] at this ⊢
          exact ⟨this, World.putObj_heap_same (blk_lt hl3), (World.putObj_heap_other (by omega)).trans hd3, bk W3 (fun _ _ => .deferred none) _⟩
        rintro e a3 W3 hp
        cases e with
        | normal =>
          obtain ⟨hk3, hi3, hkp3⟩ := hp
          obtain ⟨hr, hl4, hk4, hf4⟩ := fin none W3 hk3
          exact ⟨_, _, hr, .inl ⟨rfl, ⟨hI _ _ _ hi3 hf4, hl4, hk4⟩, hKt _ _ _ hkp3 (hKb _ _ (by have := (hk3 _ (.inr rfl)).trans hl2; have := blk_lt this; omega) hf4)⟩⟩
        | ret =>
          obtain ⟨hk3, hi3⟩ := hp
          obtain ⟨hr, hl4, hk4, hf4⟩ := fin (some .ret) W3 hk3
          exact ⟨_, _, hr, .inr ⟨rfl, .ret, hIx _ _ _ hi3 hf4, hl4, hk4⟩⟩
        | exit id =>
          obtain ⟨hk3, hi3⟩ := hp
          obtain ⟨hr, hl4, hk4, hf4⟩ := fin (some (.exit id)) W3 hk3
          exact ⟨_, _, hr, .inr ⟨rfl, .exit id, hIx _ _ _ hi3 hf4, hl4, hk4⟩⟩
        | goto t =>
          obtain ⟨hk3, hi3⟩ := hp
          obtain ⟨hr, hl4, hk4, hf4⟩ := fin (some (.goto t)) W3 hk3
          exact ⟨_, _, hr, .inr ⟨rfl, .goto t, hIx _ _ _ hi3 hf4, hl4, hk4⟩⟩
        | panic ch => exact hp.elim
        | outgrown => exact hp.elim
    · rintro e W2 ⟨⟨v, rfl⟩, (⟨hi, hl, hk⟩ | ⟨c, hi, hl, hk⟩)⟩
      · refine ⟨none, _, by have := run_endLoop (P := P) hl (by rw [hrec]; simp); rw [hrec] at this; exact this, ?_⟩
        exact hdone _ (hI _ _ _ hi (bk _ (fun _ _ => .deferred none) _)) ((World.putObj_heap_other (by omega)).trans hk)
      · refine ⟨some c, _, by have := run_endLoop (P := P) hl (by rw [hrec]; simp); rw [hrec] at this; exact this, ?_⟩
        exact wpIn_wide.2 (hstop c _ (hIx _ _ _ hi (bk _ (fun _ _ => .deferred none) _)) ((World.putObj_heap_other (by omega)).trans hk))

/-- A function's contract, where its body holds a range over a function. -/
theorem calls_of_marks {f : FuncId} {fn : Func} {c : Code} {args : Array Value} {w : World} {R : Ending → World → Prop}
    (hf : P.funcs[f]? = some fn) (hb : fn.body = some c)
    (h : c.wp P (bodyPostM Fence.wide 0 P fn R) { tmps := args ++ Array.replicate (fn.ntmps - args.size) undef, defers := [] } w) : Calls P f args w R :=
  callsIn_wide.1 (callsIn_of_wp_marks (n := 0) hf hb trivial (wpIn_wide.2 h))

/-- The end of such a function, no loop having been entered. -/
theorem marks_zero {fn : Func} {R : Ending → World → Prop} {tmps : Array Value} {w : World} {v : Value} (hr : (results fn tmps).run P w = .ok v w) (hR : R (.returned v) w) :
    LeavesInM Fence.wide 0 P fn tmps R [] .returning w := by
  exact ⟨_, hr, hR⟩
/-- .. one loop having been entered. -/
theorem marks_one {fn : Func} {R : Ending → World → Prop} {tmps : Array Value} {w : World} {D : Nat} {ds : List Deferred} (hD : w.heap[D]? = some (.deferred (some [])))
    (h : LeavesInM Fence.wide 0 P fn tmps R ds .returning (w.putObj D (.deferred none))) :
    LeavesInM Fence.wide 0 P fn tmps R ({ target := .collected D, args := #[] } :: ds) .returning w :=
  ⟨by simp, .inl ⟨_, _, rfl, run_takeDeferred hD, h⟩⟩

/-- The mark of a loop whose book-keeping begins at block D. -/
def markOf (D : Nat) : Deferred := { target := .collected D, args := #[] }
/-- All marks' blocks are open, and empty; none is named twice. -/
def Marks (ds : List Nat) (w : World) : Prop := ds.Nodup ∧ ∀ D ∈ ds, w.heap[D]? = some (.deferred (some []))
theorem Marks.nil (w : World) : Marks [] w := ⟨List.nodup_nil, by simp⟩
theorem Marks.cons {ds : List Nat} {w : World} {D : Nat} (h : Marks ds w) (hD : w.heap[D]? = some (.deferred (some []))) (hn : D ∉ ds) : Marks (D :: ds) w :=
  ⟨List.nodup_cons.2 ⟨hn, h.1⟩, by intro E hE; rcases List.mem_cons.1 hE with rfl | hE; exact hD; exact h.2 E hE⟩
theorem Marks.lt {ds : List Nat} {w : World} (h : Marks ds w) {D : Nat} (hD : D ∈ ds) : D < w.heap.size := blk_lt (h.2 D hD)
theorem Marks.fr {ds : List Nat} {w w' : World} {S : Nat → Prop} (h : Marks ds w) (hf : Fr S w w') (hn : ∀ D ∈ ds, ¬ S D) : Marks ds w' := ⟨h.1, fun D hD => hf.heap (h.2 D hD) (hn D hD)⟩
theorem Marks.mk {ds : List Nat} {w : World} {W : World} {S : Nat → Prop} (h : Marks ds w) (hf : Fr S w W) (hn : ∀ D ∈ ds, ¬ S D) (hD : W.heap[w.heap.size]? = some (.deferred (some []))) : Marks (w.heap.size :: ds) W :=
  (h.fr hf hn).cons hD (fun hm => Nat.lt_irrefl _ (h.lt hm))

theorem marks_all {fn : Func} {R : Ending → World → Prop} {tmps : Array Value} : ∀ (ds : List Nat) (w : World), Marks ds w →
    (∀ w', Fr (fun k => k ∈ ds) w w' → ∃ v, (results fn tmps).run P w' = .ok v w' ∧ R (.returned v) w') → LeavesInM Fence.wide 0 P fn tmps R (ds.map markOf) .returning w
  | [], w, _, h => by obtain ⟨v, hr, hR⟩ := h w (Fr.refl _ _); exact ⟨v, hr, hR⟩
  | D :: ds, w, hm, h => by
    have hD := hm.2 D (by simp)
    refine ⟨by simp, .inl ⟨D, _, rfl, run_takeDeferred hD, ?_⟩⟩
    have hf : Fr (fun k => k = D) w (w.putObj D (.deferred none)) := Fr.putObj (S := fun k => k = D) (Fr.refl _ _) (.inl rfl) _
    refine marks_all ds _ ⟨(List.nodup_cons.1 hm.1).2, fun E hE => hf.heap (hm.2 E (by simp [hE])) (fun e => (List.nodup_cons.1 hm.1).1 (e ▸ hE))⟩ ?_
    intro w' hw'
    exact h w' ((hf.mono (fun i _ hi => by simp [hi])).trans hw' (fun i _ hi => by simp [hi]))

/-- A frame's slots: of those in wr, what u says; of the others, what L says. -/
def mixL (L : List Value) (wr : List Nat) (u : Nat → Value) : List Value := L.mapIdx fun t v => if wr.contains t then u t else v

/-- A LOOP IN WHOSE ROUNDS A FUNCTION MAY BE RANGED OVER: each such statement leaves a mark. 'wr': the slots that a round writes. -/
theorem wp_loop_marks {c : Code} {Q : Exit → Act → World → Prop} {L : List Value} {ds0 : List Nat} {w : World} (wr : List Nat) (rel : (Nat → Value) → List Nat → World → Prop) (μ : (Nat → Value) → World → Nat)
    (h0 : rel (fun t => L.getD t undef) ds0 w)
    (hround : ∀ (u : Nat → Value) (ds : List Nat) (W : World), rel u ds W →
      c.wp P (Exit.then (fun a' W' => a'.tmps = (mixL L wr (fun t => a'.tmps.getD t undef)).toArray ∧ ∃ ds', a'.defers = ds'.map markOf ∧ rel (fun t => a'.tmps.getD t undef) ds' W' ∧ μ (fun t => a'.tmps.getD t undef) W' < μ u W) Q)
        { tmps := (mixL L wr u).toArray, defers := ds.map markOf } W) :
    (Code.loop c).wp P Q { tmps := L.toArray, defers := ds0.map markOf } w := by
  have hself : mixL L wr (fun t => L.getD t undef) = L := by
    unfold mixL
    apply List.ext_getElem (by simp)
    intro t h1 h2
    simp only [List.getElem_mapIdx]
    split
    · simp [List.getD, List.getElem?_eq_getElem h2]
    · rfl
  refine wp_loop (fun a' W => a'.tmps = (mixL L wr (fun t => a'.tmps.getD t undef)).toArray ∧ ∃ ds, a'.defers = ds.map markOf ∧ rel (fun t => a'.tmps.getD t undef) ds W) (fun a' W => μ (fun t => a'.tmps.getD t undef) W) ?_ ?_
  · have e : (fun t => ({ tmps := L.toArray, defers := ds0.map markOf } : Act).tmps.getD t undef) = fun t => L.getD t undef := by funext t; simp [List.getD]
    exact ⟨by rw [e, hself], ds0, rfl, by rw [e]; exact h0⟩
  · rintro ⟨tmps, defers⟩ W ⟨h1, ds, h2, h3⟩
    simp only at h1 h2 h3 ⊢
    have := hround _ ds W h3
    rw [← h1, ← h2] at this
    refine Code.wp_mono ?_ this
    intro e a' w' he
    cases e with
    | normal => obtain ⟨g1, ds', g2, g3, g4⟩ := he; exact ⟨⟨g1, ds', g2, g3⟩, g4⟩
    | _ => exact he
end Go.Proofs.Ytkbagfpoegfcaaa

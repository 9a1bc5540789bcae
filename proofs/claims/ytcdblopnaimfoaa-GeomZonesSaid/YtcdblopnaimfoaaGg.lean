/- The walk of the law on a geometry's zones. No condition. -/
import Derived.Test.YtcdblopnaimfoaaGh
namespace Go.Proofs.Ytcdblopnaimfoaa
open Go.RowKit Go.Conc

theorem zip1 (p : Tmp) (v : Value) (t : Array Value) : (#[p].zip #[v]).foldl (fun t (x : Tmp × Value) => match x with | (p, v) => t.setIfInBounds p v) t = t.setIfInBounds p v := by simp
theorem res8 {tmps : Array Value} {w : World} {b : Nat} {v : Bool} (h1 : tmps.getD 8 undef = .pointer (some ⟨b, 0, none⟩)) (h2 : w.cell? ⟨b, 0, none⟩ = some (.bool v)) : (results Try.f8 tmps).run Try.prog w = .ok (.bool v) w := by
  rw [Array.getD_eq_getD_getElem?] at h1
  simp [results, Try.f8, go_sem, h1, h2]
/-- A range over a function that hands out nothing. -/
theorem wp_rangeNone {P : Program} {g : Operand} {ps : Array Tmp} {assign body : Code} {Q : Exit → Act → World → Prop} {a : Act} {w : World} {gf : Nat} {lb : Array Value}
    (hg : a.eval g = .func (.func gf) #[] lb) (eg : ∀ args w, (callFunc gf args).run P w = .ok (.enter gf args) w)
    {Kp : World → World → Prop} (hKt : ∀ X Y Z, Kp X Y → Kp Y Z → Kp X Z) (hKb : ∀ X Y, w.heap.size + 2 ≤ X.heap.size → Fr (Bk w.heap.size) X Y → Kp X Y)
    (hseq : ∀ W, Fr (fun _ => False) w W → IterAt P gf lb [] Eq Kp W)
    (hdone : ∀ W, Fr (Bk w.heap.size) w W → W.heap[w.heap.size]? = some (.deferred (some [])) → Q .normal { a with defers := markOf w.heap.size :: a.defers } W) :
    (Code.rangeFunc g ps assign body).wp P Q a w := by
  refine wp_rangeIt hg eg (xs := []) (St := Eq) (Kp := Kp) (by simp) (fun _ W => Fr (Bk w.heap.size) w W) (fun _ _ => False) ?_ ?_ ?_ ?_ ?_ hKt hKb ?_ (fun W h _ => hseq W h) ?_ ?_ ?_
  · intro i X Y h k; exact h.trans k (fun _ _ h => h)
  · intro _ _ _ h; exact h.elim
  · rintro _ _ _ h rfl; exact h
  · intro _ _ _ h; exact h.elim
  · rintro X Y _ rfl; exact KeepBk.refl _ _
  · exact Fr.refl _ _
  · intro i args W hx; simp at hx
  · intro W h k; exact hdone W h k
  · intro c W h; exact h.elim
/-- What the walk keeps: the numbers' box, the box of 'stop', the answer's cell, the counter's. -/
structure Zi (D Z S B P O x3 : Int) (N : Nat) (r : Bool) (n : Int) (w W : World) : Prop where
  g : W.heap[w.heap.size]? = some (.cells #[.int .i64 D, .int .i64 Z, .int .i64 S, .int .i64 B, .int .i64 P, .int .i64 O] 42 (0, 0))
  s : W.heap[w.heap.size + 1]? = some (.cells #[.int .i64 x3] 3 (0, 0))
  r : W.heap[w.heap.size + 1 + 1]? = some (.cells #[.bool r] 4 (0, 0))
  n : W.heap[N]? = some (.cells #[.int .i64 n] 3 (0, 0))
  N : w.heap.size + 3 ≤ N
  b : Below w.heap.size w W

section
variable {D Z S B P O x3 : Int} {N : Nat} {r : Bool} {n : Int} {w W W' : World} {T : Nat → Prop}
theorem Zi.fr (h : Zi D Z S B P O x3 N r n w W) (hf : Fr T W W') (hT : ∀ k, T k → N < k) : Zi D Z S B P O x3 N r n w W' := by
  have hN := h.N
  refine ⟨hf.heap h.g fun hk => ?_, hf.heap h.s fun hk => ?_, hf.heap h.r fun hk => ?_, hf.heap h.n fun hk => ?_, h.N, h.b.trans (hf.below h.b.size fun i hi hk => ?_)⟩ <;>
  · have := hT _ hk
    omega
theorem Zi.put (h : Zi D Z S B P O x3 N r n w W) (n' : Int) : Zi D Z S B P O x3 N r n' w (W.setCell ⟨N, 0, none⟩ (.int .i64 n')) := by
  have hN := h.N
  refine ⟨blk_far h.g (by simp; omega) _, blk_far h.s (by simp; omega) _, blk_far h.r (by simp; omega) _, ?_, h.N, h.b.trans ((Fr.set1 W N 0 _).below h.b.size (by omega))⟩
  simpa using blk_put h.n 0 (.int .i64 n')
end
/-- What a round over a domain's zones keeps besides. -/
structure Zr (D Z S B P O d : Int) (b1 b2 b3 : Nat) (W : World) : Prop where
  c1 : W.heap[b1]? = some (.cells #[.int .i64 d] 3 (0, 0))
  c2 : W.heap[b2]? = some (.cells #[.int .i64 D, .int .i64 Z, .int .i64 S, .int .i64 B, .int .i64 P, .int .i64 O] 42 (0, 0))
  c3 : W.heap[b3]? = some (.cells #[.int .i64 d] 3 (0, 0))
theorem Zr.fr {D Z S B P O d : Int} {b1 b2 b3 : Nat} {W W' : World} {T : Nat → Prop} (h : Zr D Z S B P O d b1 b2 b3 W) (hf : Fr T W W') (h1 : ¬ T b1) (h2 : ¬ T b2) (h3 : ¬ T b3) : Zr D Z S B P O d b1 b2 b3 W' :=
  ⟨hf.heap h.c1 h1, hf.heap h.c2 h2, hf.heap h.c3 h3⟩

set_option maxRecDepth 100000 in
set_option maxHeartbeats 4000000 in
theorem geomZones_walk (w : World) (D Z S B P O x1 x2 x3 : Int) :
    Calls Try.prog 8 #[.agg #[.int .i64 D, .int .i64 Z, .int .i64 S, .int .i64 B, .int .i64 P, .int .i64 O], .int .i64 x1, .int .i64 x2, .int .i64 x3] w fun e w' => e = .returned (.bool true) ∧ Below w.heap.size w w' := by
  refine calls_of_marks Try.func8 rfl ?_
  simp only [Try.ntmps8, List.size_toArray, List.length_cons, List.length_nil, Nat.reduceAdd, Nat.reduceSub, Array.replicate_succ, Array.replicate_zero, List.push_toArray, List.append_toArray, List.nil_append, List.cons_append]
  go_wp2_with fail
  refine (anchor5 _).mono ?_
  rintro e w1 ⟨rfl, hb⟩
  have f1 := Fr.of_below (S := fun _ => False) hb
  have g1 := f1.heap (blk_alloc (blk_alloc (blk_new w (.cells #[.int .i64 D, .int .i64 Z, .int .i64 S, .int .i64 B, .int .i64 P, .int .i64 O] 42)) (.cells #[.int .i64 x3] 3)) (.cells #[.bool false] 4)) id
  have g2 := f1.heap (blk_alloc (blk_new (w.alloc (.cells #[.int .i64 D, .int .i64 Z, .int .i64 S, .int .i64 B, .int .i64 P, .int .i64 O] 42)) (.cells #[.int .i64 x3] 3)) (.cells #[.bool false] 4)) id
  have g3 := f1.heap (blk_new ((w.alloc (.cells #[.int .i64 D, .int .i64 Z, .int .i64 S, .int .i64 B, .int .i64 P, .int .i64 O] 42)).alloc (.cells #[.int .i64 x3] 3)) (.cells #[.bool false] 4)) id
  have b0 : Below w.heap.size w w1 := ((((Below.refl _ w).alloc (Nat.le_refl _) _).alloc (by simp) _).alloc (by simp; omega) _).trans (hb.mono (by simp; omega))
  clear f1
  rw [World.size_alloc] at g2
  rw [World.size_alloc, World.size_alloc] at g3
  clear hb
  have ca := fun i => blk_cell g1 i
  cases hr : rightB D Z S B P O with
  | false =>
    have r2 : PGeomRight.revetmentref05_G_Right.f 401 D Z S B P O = some false := by rw [refRight_eq _ (by omega), hr]
    go_wp2_with fail
    refine (PGeomRight.revetmentref05_G_Right.calls 401 D Z S B P O _ _ r2).mono ?_
    rintro e w2 ⟨rfl, hb⟩
    have f2 := Fr.of_below (S := fun _ => False) hb
    replace g1 := f2.heap g1 id
    replace g3 := f2.heap g3 id
    replace b0 := b0.trans (hb.mono b0.size)
    clear hb f2 r2
    replace ca := fun i => blk_cell g1 i
    go_wp2_with fail
    refine (holds_no D Z S B P O x1 x2 hr _).mono ?_
    rintro e w3 ⟨rfl, hb⟩
    have f3 := Fr.of_below (S := fun _ => False) hb
    replace g3 := f3.heap g3 id
    replace b0 := b0.trans (hb.mono b0.size)
    have fr := fun i => blk_frozen g3 i
    have cr := fun i => blk_cell g3 i
    go_wp2_with fail
    refine marks_all [] _ (Marks.nil _) ?_
    intro w9 hw9
    have hf9 := Fr.set1 w3 (w.heap.size + 1 + 1) 0 (.bool true)
    exact ⟨.bool true, res8 rfl (blk_cell (hw9.heap (blk_put g3 0 (.bool true)) (by simp)) 0), rfl, (b0.trans (hf9.below b0.size (fun i hi => by omega))).trans (hw9.below (Nat.le_trans b0.size hf9.size) (by simp))⟩
  | true =>
    obtain ⟨hSm, -, -⟩ := rightB_iff.1 hr
    obtain ⟨d0, d1, z0, z1, -, -, -, -, -, -, -, -⟩ := id hSm
    have hdz := dz_b hSm
    have r2 : PGeomRight.revetmentref05_G_Right.f 401 D Z S B P O = some true := by rw [refRight_eq _ (by omega), hr]
    go_wp2_with fail
    refine (PGeomRight.revetmentref05_G_Right.calls 401 D Z S B P O _ _ r2).mono ?_
    rintro e w2 ⟨rfl, hb⟩
    have f2 := Fr.of_below (S := fun _ => False) hb
    replace g1 := f2.heap g1 id
    replace g2 := f2.heap g2 id
    replace g3 := f2.heap g3 id
    replace b0 := b0.trans (hb.mono b0.size)
    clear hb f2 r2
    replace ca := fun i => blk_cell g1 i
    replace ca := fun o i => blk_cell (blk_alloc g1 o) i
    go_wp2_with fail
    have hZ : Zi D Z S B P O x3 w2.heap.size false 0 w (w2.alloc (.cells #[.int .i64 0] 3)) :=
      ⟨blk_alloc g1 _, blk_alloc g2 _, blk_alloc g3 _, blk_new _ _, by have := blk_lt g3; omega, b0.alloc b0.size _⟩
    clear g1 g2 g3 b0 ca
    obtain ⟨N, hN⟩ : ∃ N, w2.heap.size = N := ⟨_, rfl⟩
    rw [hN] at hZ ⊢
    clear hN
    generalize w2.alloc (.cells #[.int .i64 0] 3) = w3 at hZ ⊢
    clear w2 w1
    refine wp_loop_marks (ds0 := []) [10, 11, 26, 27, 28, 29, 30, 31, 32, 33, 34, 35, 36, 37, 38, 39, 40, 41, 42, 43, 44, 45]
      (fun u ds W => ∃ d : Nat, (d : Int) ≤ D ∧ u 26 = .int .i64 d ∧ Zi D Z S B P O x3 N false (d * Z) w W ∧ Marks ds W ∧ ∀ k ∈ ds, N < k) (fun u _ => D.toNat - (intOf (u 26)).toNat) ⟨0, by simp; omega, rfl, by simpa using hZ, Marks.nil _, by simp⟩ ?_
    intro u ds W hrel
    obtain ⟨d, hd, h26, hZ, hM, hMN⟩ := hrel
    simp only [mixL, List.mapIdx_cons, List.mapIdx_nil, List.contains_cons, List.contains_nil, Nat.reduceBEq, Nat.reduceAdd, Nat.zero_add, Bool.or_false, Bool.or_true, if_true, if_false, Bool.false_eq_true, h26]
    have ca := fun i => blk_cell hZ.g i
    have ca1 := fun o i => blk_cell (blk_alloc hZ.g o) i
    by_cases hdD : (d : Int) < D
    · go_wp2_with fail
      refine (geomIn _ _ _ _ _ _ _ _).mono ?_
      rintro e w4 ⟨rfl, rfl⟩
      go_wp2_with fail
      clear ca ca1
      have hR : Zr D Z S B P O d W.heap.size (W.heap.size + 1) (W.heap.size + 1 + 1) (((W.alloc (.cells #[.int .i64 d] 3)).alloc (.cells #[.int .i64 D, .int .i64 Z, .int .i64 S, .int .i64 B, .int .i64 P, .int .i64 O] 42)).alloc (.cells #[.int .i64 d] 3)) :=
        ⟨blk_alloc (blk_alloc (blk_new _ _) _) _, by have := blk_alloc (blk_new (W.alloc (.cells #[.int .i64 d] 3)) (.cells #[.int .i64 D, .int .i64 Z, .int .i64 S, .int .i64 B, .int .i64 P, .int .i64 O] 42)) (.cells #[.int .i64 d] 3); rwa [World.size_alloc] at this,
          by have := blk_new ((W.alloc (.cells #[.int .i64 d] 3)).alloc (.cells #[.int .i64 D, .int .i64 Z, .int .i64 S, .int .i64 B, .int .i64 P, .int .i64 O] 42)) (.cells #[.int .i64 d] 3); rw [World.size_alloc, World.size_alloc] at this; exact this⟩
      have hF : Fr (fun _ => False) W (((W.alloc (.cells #[.int .i64 d] 3)).alloc (.cells #[.int .i64 D, .int .i64 Z, .int .i64 S, .int .i64 B, .int .i64 P, .int .i64 O] 42)).alloc (.cells #[.int .i64 d] 3)) := (((Fr.refl _ W).alloc _).alloc _).alloc _
      have hS : (((W.alloc (.cells #[.int .i64 d] 3)).alloc (.cells #[.int .i64 D, .int .i64 Z, .int .i64 S, .int .i64 B, .int .i64 P, .int .i64 O] 42)).alloc (.cells #[.int .i64 d] 3)).heap.size = W.heap.size + 3 := by simp
      generalize (((W.alloc (.cells #[.int .i64 d] 3)).alloc (.cells #[.int .i64 D, .int .i64 Z, .int .i64 S, .int .i64 B, .int .i64 P, .int .i64 O] 42)).alloc (.cells #[.int .i64 d] 3)) = w5 at hR hF hS ⊢
      have hNW := blk_lt hZ.n
      replace hZ := hZ.fr hF (fun _ h => h.elim)
      have hML : ∀ k ∈ ds, k < W.heap.size := fun k hk => hM.lt hk
      replace hM := hM.fr hF (fun _ _ h => h)
      obtain ⟨m, hm⟩ : ∃ m, W.heap.size = m := ⟨_, rfl⟩
      rw [hm] at hR hNW hS hML ⊢
      clear hm hF
      refine wp_rangeIt (gf := 60) rfl (enters Try.func60 rfl (by decide)) (xs := inList D Z d) (St := Eq) (Kp := Two (m + 1 + 1) (m + 1)) ?_
        (fun i W => Zi D Z S B P O x3 N false (d * Z + i) w W ∧ Zr D Z S B P O d m (m + 1) (m + 1 + 1) W ∧ Marks ds W) (fun _ _ => False) ?_ ?_ ?_ ?_ ?_ ?_ ?_ ?_ ?_ ?_ ?_ ?_
      · intro x hx
        unfold inList at hx
        split at hx
        · obtain ⟨z, -, rfl⟩ := List.mem_map.1 hx; rfl
        · cases hx
      · rintro i X Y ⟨h1, h2, h3⟩ hf
        rw [hS] at hf
        exact ⟨h1.fr hf (by rintro k (rfl | rfl) <;> omega), h2.fr hf (by rintro (h | h) <;> omega) (by rintro (h | h) <;> omega) (by rintro (h | h) <;> omega), h3.fr hf (by rintro k hk (h | h) <;> have := hML k hk <;> omega)⟩
      · intro _ _ _ h; exact h.elim
      · rintro i X Y h rfl; exact h
      · intro _ _ _ h; exact h.elim
      · rintro X Y _ rfl; exact KeepBk.refl _ _
      · rintro X Y Z' h1 h2; exact ⟨h2.1.trans h1.1, h2.2.trans h1.2⟩
      · rintro X Y h1 hf
        rw [hS] at hf h1
        exact ⟨hf.block _ (by omega) (by rintro (h | h) <;> omega), hf.block _ (by omega) (by rintro (h | h) <;> omega)⟩
      · exact ⟨by simpa using hZ, hR, hM⟩
      · rintro X hf hX
        exact geomIn_iter D Z S B P O d ⟨d0, d1⟩ ⟨z0, z1⟩ _ _ X (hf.heap hR.c3 id) (hf.heap hR.c2 id)
      · intro i args X hx hI hX
        obtain ⟨h1, h2, h3⟩ := hI
        have hl : inList D Z d = (List.range Z.toNat).map fun (z : Nat) => #[.int .i64 (d * Z + z)] := if_pos ⟨by omega, by omega⟩
        rw [hl, List.getElem?_map] at hx
        obtain ⟨z, hz, rfl⟩ := Option.map_eq_some_iff.1 hx
        obtain ⟨hz1, rfl⟩ : i < Z.toNat ∧ i = z := by
          have := List.getElem?_eq_some_iff.1 hz
          obtain ⟨h1, h2⟩ := this
          simp at h1 h2
          exact ⟨by omega, h2⟩
        clear hx
        rw [zip1]
        have hfn : ∀ f, (Fence.wide.inRound (w5.heap.size + 1)).fn f := fun _ => trivial
        have hdp : (Fence.wide.inRound (w5.heap.size + 1)).depth = none := rfl
        gi_wp2_with (rw [Oper.semAt_eq _ _ _ (fun c h => by cases h)]; go_simp; try go_bits)
        refine ⟨KeepBk.refl _ _, fun X2 hf2 hs2 => ?_⟩
        gi_wp2_with (rw [Oper.semAt_eq _ _ _ (fun c h => by cases h)]; go_simp; try go_bits)
        have h1' := h1.fr hf2 (by rintro k (rfl | rfl) <;> omega)
        have h2' := h2.fr hf2 (by rintro (h | h) <;> omega) (by rintro (h | h) <;> omega) (by rintro (h | h) <;> omega)
        have h3' := h3.fr hf2 (by rintro k hk (h | h) <;> have := hML k hk <;> omega)
        have hdp : domP D Z (d * Z + i) = d := by
          have hm0 : 0 ≤ (d : Int) * Z := Int.mul_nonneg (by omega) (by omega)
          have hm1 : ((d : Int) + 1) * Z ≤ D * Z := Int.mul_le_mul_of_nonneg_right (by omega) (by omega)
          rw [Int.add_mul, Int.one_mul] at hm1
          rw [domP, if_pos ⟨by omega, by omega⟩, Int.add_comm, Int.add_mul_ediv_right _ _ (by omega), Int.ediv_eq_zero_of_lt (by omega) (by omega), Int.zero_add]
        refine regionIn_valued (fun q => ([.int .i64 (d * Z + i), .int .i64 (d * Z + i), .bool false, .bool false, .agg #[.int .i64 D, .int .i64 Z, .int .i64 S, .int .i64 B, .int .i64 P, .int .i64 O], .int .i64 (d * Z + i), .int .i64 d, .int .i64 d, .bool false, .bool false] : List Value).getD q undef)
          (Fr (fun _ => False) X2) rfl (by kernel_rfl) (by kernel_rfl) ((Fr.refl _ X2).drew) ?_ ?_
        · intro j o ho A Wx hW hA hdf
          rcases j with _ | _ | _ | _ | _ | _ | _ | _ | _ | _ | j
          · cases ho
            rw [if_pos (by kernel_rfl)]
            have r1 : A.tmps.getD 11 undef = .int .i64 (d * Z + i) := (hA 11 (by decide)).trans (by kernel_rfl)
            refine ⟨fun f _ => trivial, ?_⟩
            rw [Oper.semAt_eq _ _ _ (fun c h => by cases h)]
            simp [execOp, Act.eval, go_sem, r1]
            exact hW
          · cases ho
            rw [if_pos (by kernel_rfl)]
            have r1 : A.tmps.getD 9 undef = .pointer (some ⟨N, 0, none⟩) := (hA 9 (by decide)).trans (by kernel_rfl)
            have ca := fun i => blk_cell (hW.heap h1'.n id) i
            refine ⟨fun f _ => trivial, ?_⟩
            rw [Oper.semAt_eq _ _ _ (fun c h => by cases h)]
            simp [execOp, Act.eval, go_sem, r1, ca]
            exact hW
          · cases ho
            rw [if_pos (by kernel_rfl)]
            have r1 : A.tmps.getD 33 undef = .int .i64 (d * Z + i) := (hA 33 (by decide)).trans (by kernel_rfl)
            have r2 : A.tmps.getD 34 undef = .int .i64 (d * Z + i) := (hA 34 (by decide)).trans (by kernel_rfl)
            refine ⟨fun f _ => trivial, ?_⟩
            rw [Oper.semAt_eq _ _ _ (fun c h => by cases h)]
            simp [Act.eval, go_sem, r1, r2]
            exact hW
          · cases ho
            rw [if_pos (by kernel_rfl)]
            have r1 : A.tmps.getD 35 undef = .bool false := (hA 35 (by decide)).trans (by kernel_rfl)
            refine ⟨fun f _ => trivial, ?_⟩
            rw [Oper.semAt_eq _ _ _ (fun c h => by cases h)]
            simp [execOp, Act.eval, go_sem, r1]
            exact hW
          · cases ho
            rw [if_pos (by kernel_rfl)]
            have r1 : A.tmps.getD 4 undef = .pointer (some ⟨w.heap.size, 0, none⟩) := (hA 4 (by decide)).trans (by kernel_rfl)
            have ca := fun i => blk_cell (hW.heap h1'.g id) i
            refine ⟨fun f _ => trivial, ?_⟩
            rw [Oper.semAt_eq _ _ _ (fun c h => by cases h)]
            simp [execOp, Act.eval, go_sem, r1, ca]
            exact hW
          · cases ho
            rw [if_pos (by kernel_rfl)]
            have r1 : A.tmps.getD 11 undef = .int .i64 (d * Z + i) := (hA 11 (by decide)).trans (by kernel_rfl)
            refine ⟨fun f _ => trivial, ?_⟩
            rw [Oper.semAt_eq _ _ _ (fun c h => by cases h)]
            simp [execOp, Act.eval, go_sem, r1]
            exact hW
          · cases ho
            rw [if_pos (by kernel_rfl)]
            have r1 : A.tmps.getD 37 undef = .agg #[.int .i64 D, .int .i64 Z, .int .i64 S, .int .i64 B, .int .i64 P, .int .i64 O] := (hA 37 (by decide)).trans (by kernel_rfl)
            have r2 : A.tmps.getD 38 undef = .int .i64 (d * Z + i) := (hA 38 (by decide)).trans (by kernel_rfl)
            refine ⟨fun f _ => trivial, ?_⟩
            rw [Oper.semAt_eq _ _ _ (fun c h => by cases h)]
            simp [Act.eval, go_sem, r1, r2]
            refine ⟨rfl, CallsIn.inRound _ (callsIn_wide.2 ((domain_calls hSm _ Wx).mono ?_))⟩
            rintro e W' ⟨rfl, hb⟩
            exact ⟨by rw [hdp], hW.trans (Fr.of_below (S := fun _ => False) hb) (fun _ _ h => h)⟩
          · cases ho
            rw [if_pos (by kernel_rfl)]
            have r1 : A.tmps.getD 10 undef = .pointer (some ⟨m, 0, none⟩) := (hA 10 (by decide)).trans (by kernel_rfl)
            have ca := fun i => blk_cell (hW.heap h2'.c1 id) i
            refine ⟨fun f _ => trivial, ?_⟩
            rw [Oper.semAt_eq _ _ _ (fun c h => by cases h)]
            simp [execOp, Act.eval, go_sem, r1, ca]
            exact hW
          · cases ho
            rw [if_pos (by kernel_rfl)]
            have r1 : A.tmps.getD 39 undef = .int .i64 d := (hA 39 (by decide)).trans (by kernel_rfl)
            have r2 : A.tmps.getD 40 undef = .int .i64 d := (hA 40 (by decide)).trans (by kernel_rfl)
            refine ⟨fun f _ => trivial, ?_⟩
            rw [Oper.semAt_eq _ _ _ (fun c h => by cases h)]
            simp [Act.eval, go_sem, r1, r2]
            exact hW
          · cases ho
            rw [if_pos (by kernel_rfl)]
            have r1 : A.tmps.getD 36 undef = .bool false := (hA 36 (by decide)).trans (by kernel_rfl)
            have r2 : A.tmps.getD 41 undef = .bool false := (hA 41 (by decide)).trans (by kernel_rfl)
            refine ⟨fun f _ => trivial, ?_⟩
            rw [Oper.semAt_eq _ _ _ (fun c h => by cases h)]
            simp [Act.eval, go_sem, r1, r2]
            exact hW
          · cases ho
        · intro X3 hf3
          simp only [goV, Act.put, List.getD_cons_zero, List.getD_cons_succ, List.setIfInBounds_toArray, List.set_cons_succ, List.set_cons_zero]
          replace h1' := h1'.fr hf3 (fun _ h => h.elim)
          replace h2' := h2'.fr hf3 id id id
          replace h3' := h3'.fr hf3 (fun _ _ => id)
          have ca := fun i => blk_cell h1'.n i
          have fa := fun i => blk_frozen h1'.n i
          gi_wp2_with (rw [Oper.semAt_eq _ _ _ (fun c h => by cases h)]; go_simp; try go_bits)
          have hm0 : 0 ≤ (d : Int) * Z := Int.mul_nonneg (by omega) (by omega)
          have hm1 : (d : Int) * Z ≤ 448 := by have := Int.mul_le_mul (a := (d : Int)) (b := Z) (c := 7) (d := 64) (by omega) (by omega) (by omega) (by omega); omega
          rw [w64 (x := d * Z + i + 1) (by omega) (by omega)]
          have hf4 := Fr.set1 X3 N 0 (.int .i64 (d * Z + i + 1))
          refine ⟨?_, ⟨?_, h2'.fr hf4 (by omega) (by omega) (by omega), h3'.fr hf4 (fun k hk => ?_)⟩, ?_⟩
          · rintro k (rfl | rfl)
            · exact (hf4.block _ (by have := hf3.size; omega) (by omega)).trans (hf3.block _ (by omega) id)
            · exact (hf4.block _ (by have := hf3.size; omega) (by omega)).trans (hf3.block _ (by omega) id)
          · have := h1'.put (d * Z + i + 1)
            rw [show (d : Int) * Z + ((i + 1 : Nat) : Int) = d * Z + i + 1 by push_cast; omega]
            exact this
          · have := hMN k hk; omega
          · exact ⟨((h2'.fr hf4 (by omega) (by omega) (by omega)).c3).trans h2.c3.symm, ((h2'.fr hf4 (by omega) (by omega) (by omega)).c2).trans h2.c2.symm⟩
      · intro X h1 h2
        obtain ⟨hz, hr', hm⟩ := h1
        have hl : inList D Z d = (List.range Z.toNat).map fun (z : Nat) => #[.int .i64 (d * Z + z)] := if_pos ⟨by omega, by omega⟩
        rw [hl, List.length_map, List.length_range] at hz
        go_wp2_with fail
        refine ⟨rfl, w5.heap.size :: ds, rfl, ⟨d + 1, by omega, by show Value.int IntKind.i64 ((d : Int) + 1) = _; simp, ?_, hm.cons h2 ?_, ?_⟩, ?_⟩
        · have e : ((d + 1 : Nat) : Int) * Z = d * Z + Z := by rw [Int.natCast_succ, Int.add_mul, Int.one_mul]
          rw [e]
          have e2 : ((Z.toNat : Nat) : Int) = Z := by omega
          rwa [e2] at hz
        · intro hk; have := hML _ hk; omega
        · intro k hk
          rcases List.mem_cons.1 hk with rfl | hk
          · omega
          · exact hMN k hk
        · show D.toNat - (intOf (.int .i64 ((d : Int) + 1))).toNat < _
          simp only [intOf]
          omega
      · intro c X h1; exact h1.elim
    · have hdE : (d : Int) = D := by omega
      rw [hdE] at hZ
      replace hdD := Int.not_lt.1 hdD
      obtain ⟨tb, hT⟩ : ∃ tb, thereB D Z S x1 x2 = tb := ⟨_, rfl⟩
      obtain ⟨q, hq⟩ : ∃ q, domP D Z x1 = q := ⟨_, rfl⟩
      have hq1 : (0 ≤ x1 ∧ x1 < D * Z) → 0 ≤ q := fun h => by
        rw [← hq, domP, if_pos h]
        exact Int.ediv_nonneg h.1 (by omega)
      have hq2 : ¬ (0 ≤ x1 ∧ x1 < D * Z) → q = -1 := fun h => by rw [← hq, domP, if_neg h]
      have five : (x1 < 0 ∧ tb = false ∧ q = -1) ∨ (0 ≤ x1 ∧ D * Z ≤ x1 ∧ tb = false ∧ q = -1) ∨ (0 ≤ x1 ∧ x1 < D * Z ∧ x2 < 0 ∧ tb = false ∧ ¬ q = -1) ∨ (0 ≤ x1 ∧ x1 < D * Z ∧ 0 ≤ x2 ∧ decide (x2 < S) = false ∧ tb = false ∧ ¬ q = -1) ∨ (0 ≤ x1 ∧ x1 < D * Z ∧ 0 ≤ x2 ∧ x2 < S ∧ tb = true ∧ ¬ q = -1) := by
        have e : tb = decide ((0 ≤ x1 ∧ x1 ≤ D * Z - 1) ∧ 0 ≤ x2 ∧ x2 ≤ S - 1) := by rw [← hT]; simp [thereB]
        by_cases c1 : x1 < 0
        · exact .inl ⟨c1, by rw [e]; simp; omega, hq2 (by omega)⟩
        by_cases c2 : D * Z ≤ x1
        · exact .inr (.inl ⟨by omega, c2, by rw [e]; simp; omega, hq2 (by omega)⟩)
        by_cases c3 : x2 < 0
        · exact .inr (.inr (.inl ⟨by omega, by omega, c3, by rw [e]; simp; omega, (by have := hq1 (by omega); omega)⟩))
        by_cases c4 : S ≤ x2
        · exact .inr (.inr (.inr (.inl ⟨by omega, by omega, by omega, decide_eq_false (by omega), by rw [e]; simp; omega, (by have := hq1 (by omega); omega)⟩)))
        · exact .inr (.inr (.inr (.inr ⟨by omega, by omega, by omega, by omega, by rw [e]; simp; omega, (by have := hq1 (by omega); omega)⟩)))
      clear hq1 hq2
      rcases five with ⟨c1, rfl, rfl⟩ | ⟨c1, c2, rfl, rfl⟩ | ⟨c1, c2, c3, rfl, c5⟩ | ⟨c1, c2, c3, c4, rfl, c5⟩ | ⟨c1, c2, c3, c4, rfl, c5⟩
      all_goals go_wp2_with fail
      all_goals
        refine (holds_yes x1 x2 hr hSm _).mono ?_
        rw [hT]
        rintro e w4 ⟨rfl, hb⟩
        have hf4 := Fr.of_below (S := fun _ => False) hb
        replace hZ := hZ.fr hf4 (fun _ h => h.elim)
        replace hM := hM.fr hf4 (fun _ _ h => h)
        replace ca := fun i => blk_cell hZ.g i
        clear hf4 hb
      all_goals go_wp2_with fail
      all_goals
        refine (domain_calls hSm x1 _).mono ?_
        rw [hq]
        rintro e w5 ⟨rfl, hb⟩
        have hf4 := Fr.of_below (S := fun _ => False) hb
        replace hZ := hZ.fr hf4 (fun _ h => h.elim)
        replace hM := hM.fr hf4 (fun _ _ h => h)
        replace ca := fun i => blk_cell hZ.g i
        have ca1 := fun o i => blk_cell (blk_alloc hZ.g o) i
        clear hf4 hb
      all_goals go_wp2_with fail
      all_goals
        have hZ' : Zi D Z S B P O x3 N false (D * Z) w (w5.alloc (.cells #[.int .i64 0] 3)) := hZ.fr ((Fr.refl (fun _ => False) w5).alloc _) (fun _ h => h.elim)
        have hM' := hM.fr ((Fr.refl (fun _ => False) w5).alloc (.cells #[.int .i64 0] 3)) (fun _ _ h => h)
        have hM1 : ∀ k ∈ ds, k < w5.heap.size := fun k hk => hM.lt hk
        have hN5 := blk_lt hZ.n
        have hs := blk_new w5 (.cells #[.int .i64 0] 3)
        have hs5 : (w5.alloc (.cells #[.int .i64 0] 3)).heap.size = w5.heap.size + 1 := by simp
        generalize w5.alloc (.cells #[.int .i64 0] 3) = w6 at hZ' hM' hs hs5 ⊢
        obtain ⟨V, hV⟩ : ∃ V, w5.heap.size = V := ⟨_, rfl⟩
        rw [hV] at hM1 hN5 hs hs5 ⊢
        clear hV hZ hM ca ca1
        refine (geomIn _ _ _ _ _ _ _ _).mono ?_
        rintro e w7 ⟨rfl, rfl⟩
      all_goals go_wp2_with fail
      all_goals
        have hR : Zr D Z S B P O 0 (V + 1 + 1) (V + 1) (V + 1 + 1) ((w6.alloc (.cells #[.int .i64 D, .int .i64 Z, .int .i64 S, .int .i64 B, .int .i64 P, .int .i64 O] 42)).alloc (.cells #[.int .i64 0] 3)) := by
          have e1 := blk_alloc (blk_new w6 (.cells #[.int .i64 D, .int .i64 Z, .int .i64 S, .int .i64 B, .int .i64 P, .int .i64 O] 42)) (.cells #[.int .i64 0] 3)
          have e2 := blk_new (w6.alloc (.cells #[.int .i64 D, .int .i64 Z, .int .i64 S, .int .i64 B, .int .i64 P, .int .i64 O] 42)) (.cells #[.int .i64 0] 3)
          rw [World.size_alloc] at e2
          rw [hs5] at e1 e2
          exact ⟨e2, e1, e2⟩
        have hF := ((Fr.refl (fun _ => False) w6).alloc (.cells #[.int .i64 D, .int .i64 Z, .int .i64 S, .int .i64 B, .int .i64 P, .int .i64 O] 42)).alloc (.cells #[.int .i64 0] 3)
        have hZ7 := hZ'.fr hF (fun _ h => h.elim)
        have hM7 := hM'.fr hF (fun _ _ h => h)
        have hs7 := hF.heap hs id
        have hS7 : ((w6.alloc (.cells #[.int .i64 D, .int .i64 Z, .int .i64 S, .int .i64 B, .int .i64 P, .int .i64 O] 42)).alloc (.cells #[.int .i64 0] 3)).heap.size = V + 3 := by simp; omega
        try rw [hs5]
        clear hF hZ' hM' hs hs5
        generalize (w6.alloc (.cells #[.int .i64 D, .int .i64 Z, .int .i64 S, .int .i64 B, .int .i64 P, .int .i64 O] 42)).alloc (.cells #[.int .i64 0] 3) = w7 at hR hZ7 hM7 hs7 hS7 ⊢
        refine wp_rangeIt (gf := 60) rfl (enters Try.func60 rfl (by decide)) (xs := inList D Z 0) (St := Eq) (Kp := Two (V + 1 + 1) (V + 1)) ?_
          (fun i W => Zi D Z S B P O x3 N false (D * Z) w W ∧ Zr D Z S B P O 0 (V + 1 + 1) (V + 1) (V + 1 + 1) W ∧ W.heap[V]? = some (.cells #[.int .i64 i] 3 (0, 0)) ∧ Marks ds W)
          (fun c W => c = .exit 4 ∧ Zi D Z S B P O x3 N false (D * Z) w W ∧ W.heap[V]? = some (.cells #[.int .i64 x3] 3 (0, 0)) ∧ Marks ds W) ?_ ?_ ?_ ?_ ?_ ?_ ?_ ?_ ?_ ?_ ?_ ?_
        · intro x hx
          unfold inList at hx
          split at hx
          · obtain ⟨z, -, rfl⟩ := List.mem_map.1 hx; rfl
          · cases hx
        · rintro i X Y ⟨h1, h2, h3, h4⟩ hf
          rw [hS7] at hf
          exact ⟨h1.fr hf (by rintro k (rfl | rfl) <;> omega), h2.fr hf (by rintro (h | h) <;> omega) (by rintro (h | h) <;> omega) (by rintro (h | h) <;> omega), hf.heap h3 (by rintro (h | h) <;> omega), h4.fr hf (by rintro k hk (h | h) <;> have := hM1 k hk <;> omega)⟩
        · rintro c X Y ⟨h0, h1, h3, h4⟩ hf
          rw [hS7] at hf
          exact ⟨h0, h1.fr hf (by rintro k (rfl | rfl) <;> omega), hf.heap h3 (by rintro (h | h) <;> omega), h4.fr hf (by rintro k hk (h | h) <;> have := hM1 k hk <;> omega)⟩
        · rintro i X Y h rfl; exact h
        · rintro i X Y h rfl; exact h
        · rintro X Y _ rfl; exact KeepBk.refl _ _
        · rintro X Y Z' h1 h2; exact ⟨h2.1.trans h1.1, h2.2.trans h1.2⟩
        · rintro X Y h1 hf
          rw [hS7] at hf h1
          exact ⟨hf.block _ (by omega) (by rintro (h | h) <;> omega), hf.block _ (by omega) (by rintro (h | h) <;> omega)⟩
        · exact ⟨hZ7, hR, hs7, hM7⟩
        · rintro X hf hX
          exact geomIn_iter D Z S B P O 0 ⟨d0, d1⟩ ⟨z0, z1⟩ _ _ X (hf.heap hR.c3 id) (hf.heap hR.c2 id)
        · intro i args X hx hI hX
          obtain ⟨h1, h2, h3, h4⟩ := hI
          have hl : inList D Z 0 = (List.range Z.toNat).map fun (z : Nat) => #[.int .i64 (0 * Z + z)] := if_pos ⟨by omega, by omega⟩
          rw [hl, List.getElem?_map] at hx
          obtain ⟨z, hz, rfl⟩ := Option.map_eq_some_iff.1 hx
          have hz1 : i < 64 := by
            have := (List.getElem?_eq_some_iff.1 hz).1
            simp at this
            omega
          clear hx hz
          rw [zip1]
          have hfn : ∀ f, (Fence.wide.inRound (w7.heap.size + 1)).fn f := fun _ => trivial
          have hdp : (Fence.wide.inRound (w7.heap.size + 1)).depth = none := rfl
          gi_wp2_with (rw [Oper.semAt_eq _ _ _ (fun c h => by cases h)]; go_simp; try go_bits)
          refine ⟨KeepBk.refl _ _, fun X2 hf2 hs2 => ?_⟩
          have h1' := h1.fr hf2 (by rintro k (rfl | rfl) <;> omega)
          have h2' := h2.fr hf2 (by rintro (h | h) <;> omega) (by rintro (h | h) <;> omega) (by rintro (h | h) <;> omega)
          have h3' := hf2.heap h3 (by rintro (h | h) <;> omega)
          have h4' := h4.fr hf2 (by rintro k hk (h | h) <;> have := hM1 k hk <;> omega)
          have hf4 := Fr.set1 X2 V 0 (.int .i64 (i + 1))
          have h5 := blk_put h3' 0 (.int .i64 (i + 1))
          have g1 := h1'.fr hf4 (by rintro k rfl; omega)
          have g2 := h2'.fr hf4 (by omega) (by omega) (by omega)
          have g4 := h4'.fr hf4 (fun k hk => by have := hM1 k hk; omega)
          have ca := fun i => blk_cell h3' i
          have fa := fun i => blk_frozen h3' i
          have cb := fun i => blk_cell g1.s i
          have cc := fun i => blk_cell h5 i
          by_cases hx3 : (i : Int) + 1 = x3
          · subst hx3
            gi_wp2_with (rw [Oper.semAt_eq _ _ _ (fun c h => by cases h)]; go_simp; try go_bits)
            refine ⟨?_, rfl, g1, by simpa using h5, g4⟩
            rintro k (rfl | rfl)
            · exact hf4.block _ (by omega) (by omega)
            · exact hf4.block _ (by omega) (by omega)
          · gi_wp2_with (rw [Oper.semAt_eq _ _ _ (fun c h => by cases h)]; go_simp; try go_bits)
            refine ⟨?_, ⟨g1, g2, by simpa using h5, g4⟩, g2.c3.trans h2.c3.symm, g2.c2.trans h2.c2.symm⟩
            rintro k (rfl | rfl)
            · exact hf4.block _ (by omega) (by omega)
            · exact hf4.block _ (by omega) (by omega)
        · intro X hI hd
          obtain ⟨hz, -, hv, hm⟩ := hI
          have hl : inList D Z 0 = (List.range Z.toNat).map fun (z : Nat) => #[.int .i64 (0 * Z + z)] := if_pos ⟨by omega, by omega⟩
          rw [hl, List.length_map, List.length_range, show ((Z.toNat : Nat) : Int) = Z by omega] at hv
          rw [hS7] at hd ⊢
          replace hm := hm.cons hd (fun hk => by have := hM1 _ hk; omega)
          have hN1 := blk_lt hz.n
          have ca := fun i => blk_cell hz.g i
          go_wp2_with fail
          refine (geomIn _ _ _ _ _ _ _ _).mono ?_
          rintro e w8 ⟨rfl, rfl⟩
          go_wp2_with fail
          clear ca
          have hR8 : Zr D Z S B P O D (X.heap.size + 1) X.heap.size (X.heap.size + 1) ((X.alloc (.cells #[.int .i64 D, .int .i64 Z, .int .i64 S, .int .i64 B, .int .i64 P, .int .i64 O] 42)).alloc (.cells #[.int .i64 D] 3)) := by
            have e1 := blk_alloc (blk_new X (.cells #[.int .i64 D, .int .i64 Z, .int .i64 S, .int .i64 B, .int .i64 P, .int .i64 O] 42)) (.cells #[.int .i64 D] 3)
            have e2 := blk_new (X.alloc (.cells #[.int .i64 D, .int .i64 Z, .int .i64 S, .int .i64 B, .int .i64 P, .int .i64 O] 42)) (.cells #[.int .i64 D] 3)
            rw [World.size_alloc] at e2
            exact ⟨e2, e1, e2⟩
          have hF := ((Fr.refl (fun _ => False) X).alloc (.cells #[.int .i64 D, .int .i64 Z, .int .i64 S, .int .i64 B, .int .i64 P, .int .i64 O] 42)).alloc (.cells #[.int .i64 D] 3)
          replace hz := hz.fr hF (fun _ h => h.elim)
          have hml : ∀ k ∈ ((V + 3) :: ds), k < X.heap.size := fun k hk => hm.lt hk
          have hvl := blk_lt hv
          replace hm := hm.fr hF (fun _ _ h => h)
          replace hv := hF.heap hv id
          have hS8 : ((X.alloc (.cells #[.int .i64 D, .int .i64 Z, .int .i64 S, .int .i64 B, .int .i64 P, .int .i64 O] 42)).alloc (.cells #[.int .i64 D] 3)).heap.size = X.heap.size + 2 := by simp
          clear hF
          generalize ((X.alloc (.cells #[.int .i64 D, .int .i64 Z, .int .i64 S, .int .i64 B, .int .i64 P, .int .i64 O] 42)).alloc (.cells #[.int .i64 D] 3)) = Y1 at hR8 hz hm hv hS8 ⊢
          refine wp_rangeNone (gf := 60) rfl (enters Try.func60 rfl (by decide)) (Kp := Two (X.heap.size + 1) X.heap.size) ?_ ?_ ?_ ?_
          · rintro X Y Z' h1 h2; exact ⟨h2.1.trans h1.1, h2.2.trans h1.2⟩
          · rintro X Y h1 hf
            rw [hS8] at hf h1
            exact ⟨hf.block _ (by omega) (by rintro (h | h) <;> omega), hf.block _ (by omega) (by rintro (h | h) <;> omega)⟩
          · intro X hf
            have := geomIn_iter D Z S B P O D ⟨d0, d1⟩ ⟨z0, z1⟩ _ _ X (hf.heap hR8.c3 id) (hf.heap hR8.c2 id)
            rwa [inList, if_neg (by omega)] at this
          intro X1 hf hd
          have hNX := blk_lt hz.n
          rw [hS8] at hf hd
          replace hz := hz.fr hf (by rintro k (rfl | rfl) <;> have := hN1 <;> omega)
          replace hm := (hm.fr hf (by rintro k hk (h | h) <;> have := hml k hk <;> omega)).cons hd (fun hk => by have := hml _ hk; omega)
          replace hv := hf.heap hv (by rintro (h | h) <;> omega)
          clear hR8
          have hN2 := blk_lt hz.n
          have ca := fun i => blk_cell hz.g i
          go_wp2_with fail
          refine (geomIn _ _ _ _ _ _ _ _).mono ?_
          rintro e w8 ⟨rfl, rfl⟩
          go_wp2_with fail
          clear ca
          have hR8 : Zr D Z S B P O (-1) (X1.heap.size + 1) X1.heap.size (X1.heap.size + 1) ((X1.alloc (.cells #[.int .i64 D, .int .i64 Z, .int .i64 S, .int .i64 B, .int .i64 P, .int .i64 O] 42)).alloc (.cells #[.int .i64 (-1)] 3)) := by
            have e1 := blk_alloc (blk_new X1 (.cells #[.int .i64 D, .int .i64 Z, .int .i64 S, .int .i64 B, .int .i64 P, .int .i64 O] 42)) (.cells #[.int .i64 (-1)] 3)
            have e2 := blk_new (X1.alloc (.cells #[.int .i64 D, .int .i64 Z, .int .i64 S, .int .i64 B, .int .i64 P, .int .i64 O] 42)) (.cells #[.int .i64 (-1)] 3)
            rw [World.size_alloc] at e2
            exact ⟨e2, e1, e2⟩
          have hF := ((Fr.refl (fun _ => False) X1).alloc (.cells #[.int .i64 D, .int .i64 Z, .int .i64 S, .int .i64 B, .int .i64 P, .int .i64 O] 42)).alloc (.cells #[.int .i64 (-1)] 3)
          replace hz := hz.fr hF (fun _ h => h.elim)
          have hml : ∀ k ∈ ((X.heap.size + 2) :: (V + 3) :: ds), k < X1.heap.size := fun k hk => hm.lt hk
          have hvl := blk_lt hv
          replace hm := hm.fr hF (fun _ _ h => h)
          replace hv := hF.heap hv id
          have hS8 : ((X1.alloc (.cells #[.int .i64 D, .int .i64 Z, .int .i64 S, .int .i64 B, .int .i64 P, .int .i64 O] 42)).alloc (.cells #[.int .i64 (-1)] 3)).heap.size = X1.heap.size + 2 := by simp
          clear hF
          generalize ((X1.alloc (.cells #[.int .i64 D, .int .i64 Z, .int .i64 S, .int .i64 B, .int .i64 P, .int .i64 O] 42)).alloc (.cells #[.int .i64 (-1)] 3)) = Y2 at hR8 hz hm hv hS8 ⊢
          refine wp_rangeNone (gf := 60) rfl (enters Try.func60 rfl (by decide)) (Kp := Two (X1.heap.size + 1) X1.heap.size) ?_ ?_ ?_ ?_
          · rintro X Y Z' h1 h2; exact ⟨h2.1.trans h1.1, h2.2.trans h1.2⟩
          · rintro X Y h1 hf
            rw [hS8] at hf h1
            exact ⟨hf.block _ (by omega) (by rintro (h | h) <;> omega), hf.block _ (by omega) (by rintro (h | h) <;> omega)⟩
          · intro X hf
            have := geomIn_iter D Z S B P O (-1) ⟨d0, d1⟩ ⟨z0, z1⟩ _ _ X (hf.heap hR8.c3 id) (hf.heap hR8.c2 id)
            rwa [inList, if_neg (by omega)] at this
          intro X2 hf hd
          have hNX := blk_lt hz.n
          rw [hS8] at hf hd
          replace hz := hz.fr hf (by rintro k (rfl | rfl) <;> have := hN2 <;> omega)
          replace hm := (hm.fr hf (by rintro k hk (h | h) <;> have := hml k hk <;> omega)).cons hd (fun hk => by have := hml _ hk; omega)
          replace hv := hf.heap hv (by rintro (h | h) <;> omega)
          clear hR8
          have ca := fun i => blk_cell hz.g i
          have cn := fun i => blk_cell hz.n i
          have cs := fun i => blk_cell hz.s i
          have fr := fun i => blk_frozen hz.r i
          have cr := fun i => blk_cell hz.r i
          have cv := fun i => blk_cell hv i
          go_wp2_with fail
          all_goals
            have hf9 := Fr.set1 X2 (w.heap.size + 1 + 1) 0 (.bool true)
            have hr9 := blk_put hz.r 0 (.bool true)
            have hN9 := hz.N
            have hmg : ∀ k ∈ ((X1.heap.size + 2) :: (X.heap.size + 2) :: (V + 3) :: ds), N < k := fun k hk => by
              simp only [List.mem_cons] at hk
              rcases hk with rfl | rfl | rfl | hk <;> first | omega | exact hMN k hk
            try rw [hS8]
            refine marks_all ((X1.heap.size + 2) :: (X.heap.size + 2) :: (V + 3) :: ds) _ (hm.fr hf9 (fun k hk => by have := hmg k hk; omega)) ?_
            intro w9 hw9
            refine ⟨.bool true, res8 rfl (blk_cell (hw9.heap hr9 (fun hk => by have := hmg _ hk; omega)) 0), rfl, (hz.b.trans (hf9.below hz.b.size (fun i hi => by omega))).trans (hw9.below (Nat.le_trans hz.b.size hf9.size) (fun i hi hk => by have := hmg _ hk; omega))⟩
        · intro c X hI hd
          obtain ⟨rfl, hz, hv, hm⟩ := hI
          rw [hS7] at hd ⊢
          replace hm := hm.cons hd (fun hk => by have := hM1 _ hk; omega)
          have hN1 := blk_lt hz.n
          have ca := fun i => blk_cell hz.g i
          go_wp2_with fail
          refine (geomIn _ _ _ _ _ _ _ _).mono ?_
          rintro e w8 ⟨rfl, rfl⟩
          go_wp2_with fail
          clear ca
          have hR8 : Zr D Z S B P O D (X.heap.size + 1) X.heap.size (X.heap.size + 1) ((X.alloc (.cells #[.int .i64 D, .int .i64 Z, .int .i64 S, .int .i64 B, .int .i64 P, .int .i64 O] 42)).alloc (.cells #[.int .i64 D] 3)) := by
            have e1 := blk_alloc (blk_new X (.cells #[.int .i64 D, .int .i64 Z, .int .i64 S, .int .i64 B, .int .i64 P, .int .i64 O] 42)) (.cells #[.int .i64 D] 3)
            have e2 := blk_new (X.alloc (.cells #[.int .i64 D, .int .i64 Z, .int .i64 S, .int .i64 B, .int .i64 P, .int .i64 O] 42)) (.cells #[.int .i64 D] 3)
            rw [World.size_alloc] at e2
            exact ⟨e2, e1, e2⟩
          have hF := ((Fr.refl (fun _ => False) X).alloc (.cells #[.int .i64 D, .int .i64 Z, .int .i64 S, .int .i64 B, .int .i64 P, .int .i64 O] 42)).alloc (.cells #[.int .i64 D] 3)
          replace hz := hz.fr hF (fun _ h => h.elim)
          have hml : ∀ k ∈ ((V + 3) :: ds), k < X.heap.size := fun k hk => hm.lt hk
          have hvl := blk_lt hv
          replace hm := hm.fr hF (fun _ _ h => h)
          replace hv := hF.heap hv id
          have hS8 : ((X.alloc (.cells #[.int .i64 D, .int .i64 Z, .int .i64 S, .int .i64 B, .int .i64 P, .int .i64 O] 42)).alloc (.cells #[.int .i64 D] 3)).heap.size = X.heap.size + 2 := by simp
          clear hF
          generalize ((X.alloc (.cells #[.int .i64 D, .int .i64 Z, .int .i64 S, .int .i64 B, .int .i64 P, .int .i64 O] 42)).alloc (.cells #[.int .i64 D] 3)) = Y1 at hR8 hz hm hv hS8 ⊢
          refine wp_rangeNone (gf := 60) rfl (enters Try.func60 rfl (by decide)) (Kp := Two (X.heap.size + 1) X.heap.size) ?_ ?_ ?_ ?_
          · rintro X Y Z' h1 h2; exact ⟨h2.1.trans h1.1, h2.2.trans h1.2⟩
          · rintro X Y h1 hf
            rw [hS8] at hf h1
            exact ⟨hf.block _ (by omega) (by rintro (h | h) <;> omega), hf.block _ (by omega) (by rintro (h | h) <;> omega)⟩
          · intro X hf
            have := geomIn_iter D Z S B P O D ⟨d0, d1⟩ ⟨z0, z1⟩ _ _ X (hf.heap hR8.c3 id) (hf.heap hR8.c2 id)
            rwa [inList, if_neg (by omega)] at this
          intro X1 hf hd
          have hNX := blk_lt hz.n
          rw [hS8] at hf hd
          replace hz := hz.fr hf (by rintro k (rfl | rfl) <;> have := hN1 <;> omega)
          replace hm := (hm.fr hf (by rintro k hk (h | h) <;> have := hml k hk <;> omega)).cons hd (fun hk => by have := hml _ hk; omega)
          replace hv := hf.heap hv (by rintro (h | h) <;> omega)
          clear hR8
          have hN2 := blk_lt hz.n
          have ca := fun i => blk_cell hz.g i
          go_wp2_with fail
          refine (geomIn _ _ _ _ _ _ _ _).mono ?_
          rintro e w8 ⟨rfl, rfl⟩
          go_wp2_with fail
          clear ca
          have hR8 : Zr D Z S B P O (-1) (X1.heap.size + 1) X1.heap.size (X1.heap.size + 1) ((X1.alloc (.cells #[.int .i64 D, .int .i64 Z, .int .i64 S, .int .i64 B, .int .i64 P, .int .i64 O] 42)).alloc (.cells #[.int .i64 (-1)] 3)) := by
            have e1 := blk_alloc (blk_new X1 (.cells #[.int .i64 D, .int .i64 Z, .int .i64 S, .int .i64 B, .int .i64 P, .int .i64 O] 42)) (.cells #[.int .i64 (-1)] 3)
            have e2 := blk_new (X1.alloc (.cells #[.int .i64 D, .int .i64 Z, .int .i64 S, .int .i64 B, .int .i64 P, .int .i64 O] 42)) (.cells #[.int .i64 (-1)] 3)
            rw [World.size_alloc] at e2
            exact ⟨e2, e1, e2⟩
          have hF := ((Fr.refl (fun _ => False) X1).alloc (.cells #[.int .i64 D, .int .i64 Z, .int .i64 S, .int .i64 B, .int .i64 P, .int .i64 O] 42)).alloc (.cells #[.int .i64 (-1)] 3)
          replace hz := hz.fr hF (fun _ h => h.elim)
          have hml : ∀ k ∈ ((X.heap.size + 2) :: (V + 3) :: ds), k < X1.heap.size := fun k hk => hm.lt hk
          have hvl := blk_lt hv
          replace hm := hm.fr hF (fun _ _ h => h)
          replace hv := hF.heap hv id
          have hS8 : ((X1.alloc (.cells #[.int .i64 D, .int .i64 Z, .int .i64 S, .int .i64 B, .int .i64 P, .int .i64 O] 42)).alloc (.cells #[.int .i64 (-1)] 3)).heap.size = X1.heap.size + 2 := by simp
          clear hF
          generalize ((X1.alloc (.cells #[.int .i64 D, .int .i64 Z, .int .i64 S, .int .i64 B, .int .i64 P, .int .i64 O] 42)).alloc (.cells #[.int .i64 (-1)] 3)) = Y2 at hR8 hz hm hv hS8 ⊢
          refine wp_rangeNone (gf := 60) rfl (enters Try.func60 rfl (by decide)) (Kp := Two (X1.heap.size + 1) X1.heap.size) ?_ ?_ ?_ ?_
          · rintro X Y Z' h1 h2; exact ⟨h2.1.trans h1.1, h2.2.trans h1.2⟩
          · rintro X Y h1 hf
            rw [hS8] at hf h1
            exact ⟨hf.block _ (by omega) (by rintro (h | h) <;> omega), hf.block _ (by omega) (by rintro (h | h) <;> omega)⟩
          · intro X hf
            have := geomIn_iter D Z S B P O (-1) ⟨d0, d1⟩ ⟨z0, z1⟩ _ _ X (hf.heap hR8.c3 id) (hf.heap hR8.c2 id)
            rwa [inList, if_neg (by omega)] at this
          intro X2 hf hd
          have hNX := blk_lt hz.n
          rw [hS8] at hf hd
          replace hz := hz.fr hf (by rintro k (rfl | rfl) <;> have := hN2 <;> omega)
          replace hm := (hm.fr hf (by rintro k hk (h | h) <;> have := hml k hk <;> omega)).cons hd (fun hk => by have := hml _ hk; omega)
          replace hv := hf.heap hv (by rintro (h | h) <;> omega)
          clear hR8
          have ca := fun i => blk_cell hz.g i
          have cn := fun i => blk_cell hz.n i
          have cs := fun i => blk_cell hz.s i
          have fr := fun i => blk_frozen hz.r i
          have cr := fun i => blk_cell hz.r i
          have cv := fun i => blk_cell hv i
          by_cases hxz : x3 = Z <;> go_wp2_with fail
          all_goals
            have hf9 := Fr.set1 X2 (w.heap.size + 1 + 1) 0 (.bool true)
            have hr9 := blk_put hz.r 0 (.bool true)
            have hN9 := hz.N
            have hmg : ∀ k ∈ ((X1.heap.size + 2) :: (X.heap.size + 2) :: (V + 3) :: ds), N < k := fun k hk => by
              simp only [List.mem_cons] at hk
              rcases hk with rfl | rfl | rfl | hk <;> first | omega | exact hMN k hk
            try rw [hS8]
            refine marks_all ((X1.heap.size + 2) :: (X.heap.size + 2) :: (V + 3) :: ds) _ (hm.fr hf9 (fun k hk => by have := hmg k hk; omega)) ?_
            intro w9 hw9
            refine ⟨.bool true, res8 rfl (blk_cell (hw9.heap hr9 (fun hk => by have := hmg _ hk; omega)) 0), rfl, (hz.b.trans (hf9.below hz.b.size (fun i hi => by omega))).trans (hw9.below (Nat.le_trans hz.b.size hf9.size) (fun i hi hk => by have := hmg _ hk; omega))⟩
end Go.Proofs.Ytcdblopnaimfoaa

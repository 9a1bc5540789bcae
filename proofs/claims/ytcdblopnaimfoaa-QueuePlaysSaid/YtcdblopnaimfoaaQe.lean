/- 'same': a queue is a list. Conditions: fewer than 1000 numbers. -/
import Derived.Test.YtcdblopnaimfoaaQd
namespace Go.Proofs.Ytcdblopnaimfoaa
open Go.RowKit Go.Conc

theorem resC43 {tmps : Array Value} {w : World} {b : Nat} {v : Bool} (h1 : tmps.getD 6 undef = .pointer (some ⟨b, 0, none⟩)) (h2 : w.cell? ⟨b, 0, none⟩ = some (.bool v)) : (results Try.f43 tmps).run Try.prog w = .ok (.bool v) w := by
  rw [Array.getD_eq_getD_getElem?] at h1
  simp [results, Try.f43, go_sem, h1, h2]
theorem allocs3 (w : World) (o1 o2 o3 : Obj) : Fr (fun _ => False) w (((w.alloc o1).alloc o2).alloc o3) ∧ (((w.alloc o1).alloc o2).alloc o3).heap[w.heap.size]? = some o1 ∧ (((w.alloc o1).alloc o2).alloc o3).heap[w.heap.size + 1]? = some o2 ∧
    (((w.alloc o1).alloc o2).alloc o3).heap[w.heap.size + 2]? = some o3 ∧ (((w.alloc o1).alloc o2).alloc o3).heap.size = w.heap.size + 3 := by
  refine ⟨(((Fr.refl _ w).alloc _).alloc _).alloc _, blk_alloc (blk_alloc (blk_new w o1) o2) o3, ?_, ?_, by simp⟩
  · have := blk_alloc (blk_new (w.alloc o1) o2) o3; rwa [World.size_alloc] at this
  · have := blk_new ((w.alloc o1).alloc o2) o3; rwa [World.size_alloc, World.size_alloc] at this
/-- On the way through the last test. -/
def Sres (W : World) (t : Nat) (i : Nat) (o : Obj) (d : Nat → Bool) (V : World) : Prop := Fr (fun k => d i = true ∧ k = t) W V ∧ (d i = true → V.heap[t]? = some o)
theorem Sres.start (W : World) (t i : Nat) (o : Obj) : Sres W t i o (fun _ => false) W := ⟨Fr.refl _ _, by simp⟩
theorem Sres.keep {W : World} {t i j : Nat} {o : Obj} {d : Nat → Bool} {V : World} (h : Sres W t i o d V) (hj : j ≠ i) : Sres W t i o (more d j) V := by
  refine ⟨h.1.mono (fun k _ hk => ⟨by rw [more_other _ (Ne.symm hj)]; exact hk.1, hk.2⟩), fun hd => h.2 (by rwa [more_other _ (Ne.symm hj)] at hd)⟩
theorem Sres.fr {W : World} {t i : Nat} {o : Obj} {d : Nat → Bool} {V V' : World} (h : Sres W t i o d V) (hf : Fr (fun _ => False) V V') : Sres W t i o d V' :=
  ⟨h.1.trans hf (fun _ _ h => h.elim), fun hd => hf.heap (h.2 hd) id⟩
theorem Sres.put {W : World} {t i : Nat} {o : Obj} {d : Nat → Bool} {V V' : World} (h : Sres W t i o d V) (hf : Fr (fun k => k = t) V V') (ho : V'.heap[t]? = some o) : Sres W t i o (more d i) V' :=
  ⟨(h.1.mono (S' := fun k => more d i i = true ∧ k = t) (fun _ _ hk => ⟨more_same _ _, hk.2⟩)).trans hf (fun _ _ hk => ⟨more_same _ _, hk⟩), fun _ => ho⟩

set_option linter.unusedSimpArgs false in
set_option maxRecDepth 100000 in
set_option maxHeartbeats 4000000 in
theorem sameQ {w : World} {D : Nat → Prop} {x : Value} {L : List Int} {b c cap : Nat} (hq : QAt 92 w b c cap (ints L)) (hr : RdAt D w x (ints L)) (hl : L.length < 1000) (hcap : L.length ≤ cap) :
    Calls Try.prog 43 #[.pointer (some ⟨b, 0, none⟩), x, .int .i64 (cap : Int)] w fun e w' => e = .returned (.bool true) ∧ QAt 92 w' b c cap (ints L) ∧ Fr (fun k => k = c) w w' := by
  obtain ⟨ax, cx, rfl⟩ := hr.val
  rw [ints_length] at hr ⊢
  replace hr := hr.sharp hq
  refine calls_of_marks Try.func43 rfl ?_
  simp only [Try.ntmps43, List.size_toArray, List.length_cons, List.length_nil, Nat.reduceAdd, Nat.reduceSub, Array.replicate_succ, Array.replicate_zero, List.push_toArray, List.append_toArray, List.nil_append, List.cons_append]
  go_wp2_with fail
  have hA := allocs3 w (.cells #[.slice ax L.length cx] 32) (.cells #[.bool false] 4) (.cells #[.int .i64 0] 3)
  generalize ((w.alloc (.cells #[.slice ax L.length cx] 32)).alloc (.cells #[.bool false] 4)).alloc (.cells #[.int .i64 0] 3) = W1 at hA ⊢
  obtain ⟨f1, g1, g2, g3, s1⟩ := hA
  refine (allQ b W1).mono ?_
  rintro e W2 ⟨rfl, rfl⟩
  have f2 := (Fr.refl (fun _ => False) W1).alloc (.cells #[.pointer (some ⟨b, 0, none⟩)] 33)
  have g4 := blk_new W1 (.cells #[.pointer (some ⟨b, 0, none⟩)] 33)
  rw [s1] at g4 ⊢
  replace g1 := f2.heap g1 id
  replace g2 := f2.heap g2 id
  replace g3 := f2.heap g3 id
  have s2 : (W1.alloc (.cells #[.pointer (some ⟨b, 0, none⟩)] 33)).heap.size = w.heap.size + 4 := by rw [World.size_alloc, s1]
  replace f2 := f1.trans f2 (fun _ _ h => h)
  clear f1 s1
  generalize W1.alloc (.cells #[.pointer (some ⟨b, 0, none⟩)] 33) = W2 at f2 g1 g2 g3 g4 s2 ⊢
  clear W1
  have hq2 := hq.fr f2 id id
  have hr2 := hr.fr f2 (fun _ _ => id)
  have hlb := hq.bl
  have hlc := hq.cl
  have hne := hq.ne
  clear hq hr
  go_wp2_with fail
  refine wp_rangeN (gf := 61) rfl (enters Try.func61 rfl (by decide)) (xs := pairs (ints L)) (St := StQ c) (fun k => k = w.heap.size + 2 ∨ k = c)
    (fun i W => W.heap[w.heap.size + 2]? = some (.cells #[.int .i64 i] 3 (0, 0)) ∧ ∃ s r, W.heap[c]? = some (.chan cap (ints L).toArray false s r false)) (fun _ _ => False) ?_ ?_ ?_ ?_ ?_ ?_ ?_ ?_ ?_ ?_ ?_ ?_
  · intro x hx
    unfold pairs at hx
    obtain ⟨j, hj, rfl⟩ := List.mem_mapIdx.1 hx
    rfl
  · intro k hk; omega
  · rintro i X Y ⟨h, s, r, hc⟩ hk; exact ⟨(hk _ (.inl rfl)).trans h, s, r, (hk _ (.inr rfl)).trans hc⟩
  · intro _ _ _ h; exact h.elim
  · rintro X Y h; exact h.1.mono (fun i _ e => .inl (.inr e))
  · rintro i X Y ⟨h, s, r, hc⟩ hst; exact ⟨hst.1.heap h (by omega), hst.2 _ _ _ _ hc⟩
  · intro _ _ _ h; exact h.elim
  · exact ⟨g3, hq2.2⟩
  · intro W hf hs
    rw [s2] at hs
    have hi := all_iterQ (w := W) (hq2.fr hf id id) (by omega) hcap (hf.heap g4 id)
    refine hi.weak fun X Y hXY => ⟨hXY.1, fun k h1 h2 => hXY.2 k h2 ?_ ?_ ?_⟩ <;> omega
  · intro i args W hx
    unfold pairs at hx
    rw [List.getElem?_mapIdx] at hx
    obtain ⟨y, hy, rfl⟩ := Option.map_eq_some_iff.1 hx
    obtain ⟨hi, rfl⟩ := List.getElem?_eq_some_iff.1 hy
    have hiL : i < L.length := by rwa [ints_length] at hi
    have hye : (ints L)[i] = .int .i64 L[i] := ints_get L hiL
    rw [hye]
    clear hx hy
    rw [zip2]
    have hfn : ∀ f, (Fence.wide.inRound (W2.heap.size + 1)).fn f := fun _ => trivial
    have hdp : (Fence.wide.inRound (W2.heap.size + 1)).depth = none := rfl
    gi_wp2_with (rw [Oper.semAt_eq _ _ _ (fun c h => by cases h)]; go_simp; try go_bits)
    refine ⟨rfl, fun X hF hJ hs => ?_⟩
    rw [s2] at hs hfn hdp ⊢
    obtain ⟨hJ, hJc⟩ := hJ
    have hrX := hr2.fr hF (fun k hk => by omega)
    obtain ⟨gx, ox, cx', e, hD, hcx⟩ := hrX.cellAt hi
    rw [ints_length] at e
    cases e
    rw [hye] at hcx
    have ca := fun i => blk_cell (hF.heap g1 (by omega)) i
    have cb := fun i => blk_cell hJ i
    have fb := fun i => blk_frozen hJ i
    have hbeq : ∀ x : Int, (x == x) = true := fun x => by simp
    gi_wp2_with (rw [Oper.semAt_eq _ _ _ (fun c h => by cases h)]; go_simp; try go_bits)
    refine ⟨(Fr.set1 X (w.heap.size + 2) 0 _).mono (fun i _ e => .inl e), by simpa using blk_put hJ 0 (.int .i64 ((i : Int) + 1)), ?_⟩
    obtain ⟨s, r, hJc⟩ := hJc
    exact ⟨s, r, (Fr.set1 X (w.heap.size + 2) 0 _).heap hJc (by omega)⟩
  · rintro W hf ⟨hJ, hJc⟩ hm
    rw [show (pairs (ints L)).length = L.length by simp [pairs, ints]] at hJ
    rw [s2] at hm ⊢
    have k1 := hf.heap g1 (by omega)
    have k2 := hf.heap g2 (by omega)
    have kq : QAt 92 W b c cap (ints L) := ⟨hf.heap hq2.1 (by omega), hJc⟩
    go_wp2_with fail
    refine (wpIn_wide (n := 0)).1 ?_
    refine regionIn_seq (Sres W (w.heap.size + 1) 16 (.cells #[.bool true] 4 (0, 0))) rfl (by kernel_rfl) (by kernel_rfl) (by kernel_rfl) (fun _ => trivial) rfl ((Sres.start _ _ _ _).fr (Fr.refl _ _).drew) ?_
    iterate 16
      apply SeqR.step
      · rfl
      · intro d V hV ht
        have n16 : d 16 = false := ht.later 16 _ rfl (by kernel_rfl)
        have hVF : Fr (fun _ => False) W V := hV.1.mono (fun _ _ hk => by rw [n16] at hk; cases hk.1)
        have c1 := fun i => blk_cell (hVF.heap k1 id) i
        have c2 := fun i => blk_cell (hVF.heap hJ id) i
        have z := kq.fr hVF id id
        have zl := lenI _ _ _ _ _ z
        rw [ints_length] at zl
        simp [Oper.gives, execOp, Act.eval, go_sem, c1, c2]
        first
        | exact ⟨rfl, hV.keep (by decide)⟩
        | (refine callsIn_wide.2 (zl.mono ?_); rintro e W9 ⟨rfl, rfl⟩; exact ⟨_, rfl, rfl, hV.keep (by decide)⟩)
        | (refine callsIn_wide.2 ((roomI _ _ _ _ _ z).mono ?_); rintro e W9 ⟨rfl, rfl⟩; exact ⟨_, rfl, rfl, hV.keep (by decide)⟩)
      simp only [Act.put, List.setIfInBounds_toArray, List.set_cons_succ, List.set_cons_zero]
    apply SeqR.step
    · rfl
    · intro d V hV ht
      have n16 : d 16 = false := ht.not
      have hVF : Fr (fun _ => False) W V := hV.1.mono (fun _ _ hk => by rw [n16] at hk; cases hk.1)
      have k2V := hVF.heap k2 id
      have c1 := fun i => blk_cell k2V i
      have c2 := fun i => blk_frozen k2V i
      simp [Oper.gives, execOp, Act.eval, go_sem, c1, c2]
      exact ⟨rfl, hV.put (Fr.set1 V (w.heap.size + 1) 0 (.bool true)) (by simpa using blk_put k2V 0 (.bool true))⟩
    simp only [Act.put, List.setIfInBounds_toArray, List.set_cons_succ, List.set_cons_zero]
    refine SeqR.nil fun V hV => ?_
    go_wp2_with fail
    have hVF : Fr (fun k => k = w.heap.size + 1) W V := hV.1.mono (fun _ _ hk => hk.2)
    have k3 := hV.2 rfl
    have kq3 := kq.fr hVF (by omega) (by omega)
    refine marks_all [w.heap.size + 4] _ ((Marks.nil _).cons (hVF.heap hm (by omega)) (by simp)) ?_
    intro w9 hw9
    have hw : Fr (fun k => k = c) w w9 := (((f2.mono (fun _ _ h => h.elim)).trans hf (fun i hi e => by omega)).trans hVF (fun i hi e => by omega)).trans hw9 (fun i hi e => by simp at e; omega)
    exact ⟨.bool true, resC43 rfl (blk_cell (hw9.heap k3 (by simp)) 0), rfl, kq3.fr hw9 (by simp; omega) (by simp; omega), hw⟩
  · intro _ _ _ h; exact h.elim
end Go.Proofs.Ytcdblopnaimfoaa

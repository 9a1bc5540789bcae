/- 'same': is a pool the document's? Conditions: the geometry is small. -/
import Derived.Test.YtcdblopnaimfoaaP5
import Derived.RangeFuncCalls
namespace Go.Proofs.Ytcdblopnaimfoaa
open Go.RowKit Go.Conc

/-- The domain that was last. -/
def lastF (F : List (Nat × Int)) : Nat → Int
  | 0 => 0
  | i + 1 => (F.getD i (0, 0)).1
theorem flat_sorted (C : Nat → List Int) : ∀ n, (flat C n).Pairwise (fun a b => a.1 ≤ b.1)
  | 0 => List.Pairwise.nil
  | n + 1 => by
    rw [flat, List.pairwise_append]
    refine ⟨flat_sorted C n, ?_, fun a ha b hb => ?_⟩
    · rw [List.pairwise_map]
      exact List.Pairwise.imp (fun _ => Nat.le_refl _) (List.pairwise_of_forall (R := fun _ _ => True) (fun _ _ => trivial))
    · have h1 := (mem_flat C a n).1 ha
      obtain ⟨z, _, rfl⟩ := List.mem_map.1 hb
      exact Nat.le_of_lt h1.1
theorem last_le (C : Nat → List Int) (n : Nat) {i : Nat} (hi : i < (flat C n).length) : lastF (flat C n) i ≤ ((flat C n)[i].1 : Int) := by
  cases i with
  | zero => show (0 : Int) ≤ _; omega
  | succ j =>
    show (((flat C n).getD j (0, 0)).1 : Int) ≤ _
    rw [List.getD_eq_getElem?_getD, List.getElem?_eq_getElem (show j < (flat C n).length by omega)]
    have := List.pairwise_iff_getElem.1 (flat_sorted C n) j (j + 1) (by omega) hi (by omega)
    simpa using this
theorem resC56 {tmps : Array Value} {w : World} {b : Nat} {v : Bool} (h1 : tmps.getD 6 undef = .pointer (some ⟨b, 0, none⟩)) (h2 : w.cell? ⟨b, 0, none⟩ = some (.bool v)) : (results Try.f56 tmps).run Try.prog w = .ok (.bool v) w := by
  rw [Array.getD_eq_getD_getElem?] at h1
  simp [results, Try.f56, go_sem, h1, h2]
section
variable {w w' : World} {D T : Nat → Prop} {s v : Value} {L : List Int} {p Dn Zn base : Nat} {S B P O : Int} {l : Value} {qb qc : Nat → Nat} {C C' : Nat → List Int}
theorem four (w : World) (o1 o2 o3 o4 : Obj) : Fr (fun _ => False) w ((((w.alloc o1).alloc o2).alloc o3).alloc o4) ∧ ((((w.alloc o1).alloc o2).alloc o3).alloc o4).heap[w.heap.size]? = some o1 ∧ ((((w.alloc o1).alloc o2).alloc o3).alloc o4).heap[w.heap.size + 1]? = some o2 ∧
    ((((w.alloc o1).alloc o2).alloc o3).alloc o4).heap[w.heap.size + 2]? = some o3 ∧ ((((w.alloc o1).alloc o2).alloc o3).alloc o4).heap[w.heap.size + 3]? = some o4 ∧ ((((w.alloc o1).alloc o2).alloc o3).alloc o4).heap.size = w.heap.size + 4 := by
  obtain ⟨f, a, b, c, d⟩ := three w o1 o2 o3
  refine ⟨f.alloc _, blk_alloc a _, blk_alloc b _, blk_alloc c _, ?_, by rw [World.size_alloc, d]⟩
  have := blk_new (((w.alloc o1).alloc o2).alloc o3) o4
  rwa [d] at this
theorem Spl.fr {W : World} {t i j m : Nat} {o : Obj} {d : Nat → Bool} {V V' : World} (h : Spl base p Dn Zn S B P O l qb qc C C W t i j o d V) (hp : PoolAt base V' p Dn Zn S B P O l qb qc C) (hf : Fr (Chs Dn qc) V V') (ht : ¬ Chs Dn qc t) (hi : m ≠ i) : Spl base p Dn Zn S B P O l qb qc C C W t i j o (more d m) V' := by
  refine ⟨by split <;> exact hp, ?_, fun hd => ?_⟩
  · rw [more_other _ (Ne.symm hi)]
    exact h.2.1.trans hf (fun k _ hk => .inl hk)
  · rw [more_other _ (Ne.symm hi)] at hd
    exact hf.heap (h.2.2 hd) ht
theorem Spl.po {W : World} {t i j : Nat} {o : Obj} {d : Nat → Bool} {V : World} (h : Spl base p Dn Zn S B P O l qb qc C C W t i j o d V) : PoolAt base V p Dn Zn S B P O l qb qc C := by
  have := h.1
  split at this <;> exact this
set_option linter.unusedSimpArgs false in
set_option linter.unusedVariables false in
set_option maxRecDepth 100000 in
set_option maxHeartbeats 8000000 in
theorem same_calls (hp : PoolAt base w p Dn Zn S B P O l qb qc C) (hr : RP D w v Dn Zn C s L) (zone : Int) : Calls Try.prog 56 #[.pointer (some ⟨p, 0, none⟩), v, .int .i64 zone] w fun e w' => e = .returned (.bool true) ∧ PoolAt base w' p Dn Zn S B P O l qb qc C ∧ Fr (Chs Dn qc) w w' := by
  have hlk := hr.lk
  have hz1 := hr.z1
  have hlen := hr.len
  have hsum := hlk.sum hz1.1
  obtain ⟨a, cp, rfl⟩ := hr.rd.val
  obtain ⟨n, hln⟩ : ∃ n, (ints L).length = n := ⟨_, rfl⟩
  rw [hln] at hr
  rw [ints_length] at hln
  rw [hln] at hsum hlen
  have he := hr.e
  subst he
  clear hln
  have hfoot : ∀ i, PFoot p Dn l qb qc i → i < w.heap.size := fun i hi => (hp.lt hi).2
  have hch : ∀ i, Chs Dn qc i → i < w.heap.size := by rintro i ⟨d, hd, rfl⟩; exact hfoot _ (.inr (.inr ⟨d, hd, .inr rfl⟩))
  have hst := four w (.cells #[.int .i64 Dn, .int .i64 Zn, .slice a n cp] 70) (.cells #[.bool false] 4) (.cells #[.int .i64 0] 3) (.cells #[.int .i64 0] 3)
  refine calls_of_marks Try.func56 rfl ?_
  simp only [Try.ntmps56, List.size_toArray, List.length_cons, List.length_nil, Nat.reduceAdd, Nat.reduceSub, Array.replicate_succ, Array.replicate_zero, List.push_toArray, List.append_toArray, List.nil_append, List.cons_append]
  go_wp2_with fail
  generalize (((w.alloc (.cells #[.int .i64 Dn, .int .i64 Zn, .slice a n cp] 70)).alloc (.cells #[.bool false] 4)).alloc (.cells #[.int .i64 0] 3)).alloc (.cells #[.int .i64 0] 3) = w1 at hst ⊢
  obtain ⟨f1, g1, g2, g3, g4, s1⟩ := hst
  have hp1 := hp.fr0 f1
  have r1 := hr.sharp.fr0 f1
  clear hr
  obtain ⟨nb, hnb⟩ : ∃ nb, w.heap.size = nb := ⟨_, rfl⟩
  rw [hnb] at g1 g2 g3 g4 s1 hfoot hch r1
  try rw [hnb]
  refine (allP p w1).mono ?_
  rintro e W5 ⟨rfl, rfl⟩
  have hF5 := (Fr.refl (fun _ => False) w1).alloc (.cells #[.pointer (some ⟨p, 0, none⟩)] 68)
  have gx := blk_new w1 (.cells #[.pointer (some ⟨p, 0, none⟩)] 68)
  replace g1 := hF5.heap g1 id
  replace g2 := hF5.heap g2 id
  replace g3 := hF5.heap g3 id
  replace g4 := hF5.heap g4 id
  have hp5 := hp1.fr0 hF5
  have r5 := r1.fr0 hF5
  have f5 := f1.trans hF5 (fun _ _ h => h)
  have hS5 : (w1.alloc (.cells #[.pointer (some ⟨p, 0, none⟩)] 68)).heap.size = nb + 5 := by rw [World.size_alloc, s1]
  rw [s1] at gx ⊢
  generalize w1.alloc (.cells #[.pointer (some ⟨p, 0, none⟩)] 68) = W5 at hp5 r5 g1 g2 g3 g4 gx hS5 f5 ⊢
  clear hF5 hp1 r1 s1 f1 w1
  have HS := Lib.hid (flat_len C Dn)
  have HMF := Lib.hid (mem_flat C)
  have hqt : ∀ i (hi : i < (flat C Dn).length), Int.tdiv ((flat C Dn)[i]).2 Zn = ((flat C Dn)[i]).1 ∧ hasB C Dn ((flat C Dn)[i]).2 = true ∧ lastF (flat C Dn) i ≤ (((flat C Dn)[i]).1 : Int) ∧ ((flat C Dn)[i]).1 < Dn := fun i hi => by
    have m1 := (mem_flat C _ Dn).1 (List.getElem_mem hi)
    have z1 := (hp.zn _ m1.1).2 _ m1.2
    exact ⟨dom_tdiv (dom_at hp m1.1 z1.1 z1.2), hasB_iff.2 ⟨_, m1⟩, last_le C Dn hi, m1.1⟩
  have HQT := Lib.hid hqt
  clear hqt
  have hdz := hp.dz
  have hlf : (flat C Dn).length = n := by have := flat_len C Dn; omega
  clear hlk
  go_wp2_with fail
  refine wp_rangeM2 (gf := 65) rfl (enters Try.func65 rfl (by decide)) (xs := pre C Dn) (St := StP (nb + 7) Dn qc) (fun k => k = nb + 2 ∨ k = nb + 3) (Chs Dn qc)
    (fun i W => W.heap[nb + 2]? = some (.cells #[.int .i64 i] 3 (0, 0)) ∧ W.heap[nb + 3]? = some (.cells #[.int .i64 (lastF (flat C Dn) i)] 3 (0, 0)) ∧ Waits W Dn Zn qc C)
    (fun c W => False) ?_ ?_ ?_ ?_ ?_ ?_ ?_ ?_ ?_ ?_ ?_ ?_ ?_
  · intro x hx
    rw [pre_eq] at hx
    obtain ⟨q, hq, rfl⟩ := List.mem_map.1 hx
    rfl
  · intro k hk; omega
  · intro k hk; have := hch k hk; omega
  · rintro i X Y ⟨a1, a2, a3⟩ hk
    exact ⟨(hk _ (.inl (.inl rfl))).trans a1, (hk _ (.inl (.inr rfl))).trans a2, a3.same (fun k h => hk k (.inr h))⟩
  · intro _ _ _ h; exact h.elim
  · rintro X Y hst
    exact hst.1.mono (fun k _ e => by rcases e with ⟨d, hd, e⟩ | e; exact .inl ⟨d, hd, e⟩; exact .inr (by omega))
  · rintro i X Y ⟨a1, a2, a3⟩ hst
    exact ⟨hst.1.heap a1 (by rintro (e | e); have := hch _ e; omega; omega), hst.1.heap a2 (by rintro (e | e); have := hch _ e; omega; omega), a3.st hst⟩
  · intro _ _ _ h; exact h.elim
  · exact ⟨g3, g4, hp5.waits⟩
  · intro X hf hs
    rw [hS5] at hs ⊢
    exact all_iterP (hp5.fr0 hf) (hf.heap gx id) (by omega) (fun d hd => by have := hch _ ⟨d, hd, rfl⟩; omega) _ (fun k hk => by
      refine ⟨by rcases hk with (hk | hk) | hk | hk <;> omega, fun h => ?_⟩
      have := hfoot k h
      rcases hk with (hk | hk) | hk | hk <;> omega)
  · intro i args X hx
    rw [pre_eq, List.getElem?_map] at hx
    obtain ⟨q, hq, rfl⟩ := Option.map_eq_some_iff.1 hx
    obtain ⟨hi, hqe⟩ := List.getElem?_eq_some_iff.1 hq
    unfold encP
    rw [zip2]
    have hqq := HQT.out i hi
    rw [hqe] at hqq
    obtain ⟨t1, t2, t3, t4⟩ := hqq
    clear hx hq
    have hfn : ∀ f, (Fence.wide.inRound (W5.heap.size + 1)).fn f := fun _ => trivial
    have hdp : (Fence.wide.inRound (W5.heap.size + 1)).depth = none := rfl
    gi_wp2_with (rw [Oper.semAt_eq _ _ _ (fun c h => by cases h)]; go_simp; try go_bits)
    refine ⟨rfl, fun X2 hF hJ hs => ?_⟩
    rw [hS5] at hs hfn hdp ⊢
    obtain ⟨a1, a2, a3⟩ := hJ
    have hFW : Fr (fun k => (k = nb + 2 ∨ k = nb + 3) ∨ Chs Dn qc k) W5 X2 := hF
    have b1 := hFW.heap g1 (by rintro (e | e); omega; have := hch _ e; omega)
    have rX := r5.frc hp5.waits hFW (fun k hk => by rcases hk with hk | hk; exact .inr (by omega); exact .inl hk)
    have A3 := Lib.hid a3
    have HQ := Lib.hid hqe
    have e1 : lastF (flat C Dn) (i + 1) = q.1 := by
      show (((flat C Dn).getD i (0, 0)).1 : Int) = q.1
      rw [List.getD_eq_getElem?_getD, List.getElem?_eq_getElem hi, hqe]; rfl
    clear a3 hqe
    have E1 := Lib.hid e1
    clear e1
    have ca := fun i => blk_cell a1 i
    have cb := fun i => blk_cell a2 i
    have cc := fun i => blk_cell b1 i
    have hw : IntKind.i64.wrap (Int.tdiv q.2 Zn) = (q.1 : Int) := by rw [t1]; exact IntWalk.i64_in _ (by omega)
    have hZ1 : ¬ (Zn = 0) := by omega
    have hlb : decide ((q.1 : Int) < lastF (flat C Dn) i) = false := decide_eq_false (by omega)
    have hnn : ((q.1 : Int) != (q.1 : Int)) = false := by simp
    have hhas := rp_has rX q.2
    rw [t2] at hhas
    gi_wp2_with (rw [Oper.semAt_eq _ _ _ (fun c h => by cases h)]; go_simp; try go_bits)
    refine ⟨rfl, CallsIn.inRound _ (callsIn_wide.2 (hhas.mono ?_))⟩
    rintro e X3 ⟨rfl, f3⟩
    have d1 := f3.heap a1 id
    have d2 := f3.heap a2 id
    have s3 := f3.size
    have f4 := Fr.set1 X3 (nb + 3) 0 (.int .i64 (q.1 : Int))
    have d1' := f4.heap d1 (by omega)
    have fin : ∀ (act : Act), rPostF (fun k => k = nb + 2 ∨ k = nb + 3) (fun i W => W.heap[nb + 2]? = some (.cells #[.int .i64 i] 3 (0, 0)) ∧ W.heap[nb + 3]? = some (.cells #[.int .i64 (lastF (flat C Dn) i)] 3 (0, 0)) ∧ Waits W Dn Zn qc C) (fun c W => False) i X2 .normal act ((X3.setCell ⟨nb + 3, 0, none⟩ (.int .i64 (q.1 : Int))).setCell ⟨nb + 2, 0, none⟩ (.int .i64 ((i : Int) + 1))) := fun _ => by
      have f5 := Fr.set1 (X3.setCell ⟨nb + 3, 0, none⟩ (.int .i64 (q.1 : Int))) (nb + 2) 0 (.int .i64 ((i : Int) + 1))
      refine ⟨((f3.mono (fun _ _ h => h.elim)).trans f4 (fun _ _ e => .inr e)).trans f5 (fun _ _ e => .inl e), by simpa using blk_put d1' 0 (.int .i64 ((i : Int) + 1)), ?_, A3.out.same (fun k hk => ?_)⟩
      · rw [E1.out]
        exact f5.heap (by simpa using blk_put d2 0 (.int .i64 (q.1 : Int))) (by omega)
      · have := hch k hk
        exact ((f5.block k (by have := f4.size; omega) (by omega)).trans (f4.block k (by omega) (by omega))).trans (f3.block k (by omega) id)
    have hwi : wrap64 ((i : Int) + 1) = (i : Int) + 1 := by
      unfold wrap64
      omega
    have HWI := Lib.hid hwi
    have FIN := Lib.hid fin
    clear fin hwi ca cb cc
    have ca := fun i => blk_cell d1' i
    have fa := fun i => blk_frozen d1' i
    have cb := fun i => blk_cell d2 i
    have fb := fun i => blk_frozen d2 i
    gi_wp2_with (rw [Oper.semAt_eq _ _ _ (fun c h => by cases h)]; go_simp; try go_bits)
    first | exact FIN.out _ | (rw [HWI.out]; exact FIN.out _)
  · rintro X hF ⟨a1, a2, a3⟩ hm9
    rw [show (pre C Dn).length = n by rw [pre_eq, List.length_map, hlf]] at a1
    rw [hS5] at hm9 ⊢
    have hFW : Fr (fun k => (k = nb + 2 ∨ k = nb + 3) ∨ Chs Dn qc k) W5 X := hF
    have hpX : PoolAt base X p Dn Zn S B P O l qb qc C := hp5.ofch hF (fun k e => by
      rcases e with e | e
      · exact .inr (fun h => by have := hfoot k h; omega)
      · exact .inl e) a3
    have b1 := hFW.heap g1 (by rintro (e | e); omega; have := hch _ e; omega)
    have b2 := hFW.heap g2 (by rintro (e | e); omega; have := hch _ e; omega)
    have rX := r5.frc hp5.waits hFW (fun k hk => by rcases hk with hk | hk; exact .inr (by omega); exact .inl hk)
    have fX : Fr (Chs Dn qc) w X := (f5.mono (fun _ _ h => h.elim)).trans hFW (fun k hk e => by rcases e with e | e; omega; exact e)
    clear a2 a3 g1 g2 g3 g4 gx hp5 r5 f5 hF hFW HS HMF HQT
    have cc := fun i => blk_cell b1 i
    have hsX : nb + 6 ≤ X.heap.size := by have := blk_lt hm9; omega
    go_wp2_with fail
    refine wp_loop_P (ds0 := [nb + 5]) (fun t => (decide (11 ≤ t) && decide (t ≤ 11)) || (decide (38 ≤ t) && decide (t ≤ 48)))
      (fun u ds W => ∃ k : Nat, k ≤ Dn ∧ u 38 = .int .i64 k ∧ ds = [nb + 5] ∧ PoolAt base W p Dn Zn S B P O l qb qc C ∧ Fr (Chs Dn qc) X W) (fun u _ => Dn - (intOf (u 38)).toNat)
      ⟨0, by omega, rfl, rfl, hpX, Fr.refl _ _⟩ ?_
    intro u ds W hrel
    obtain ⟨k, hk, h38, rfl, hpW, fW⟩ := hrel
    simp only [mixP, List.mapIdx_cons, List.mapIdx_nil, Nat.reduceLeDiff, decide_true, decide_false, Nat.reduceAdd, Nat.zero_add, Bool.and_true, Bool.and_false, Bool.true_and, Bool.false_and, Bool.or_false, Bool.or_true, Bool.false_or, Bool.true_or, if_true, if_false, Bool.false_eq_true, h38]
    clear h38
    have cW1 := fW.heap b1 (fun e => by have := hch _ e; omega)
    have cW2 := fW.heap b2 (fun e => by have := hch _ e; omega)
    have rW := rX.frc hpX.waits fW (fun k hk => .inl hk)
    have aW := fW.heap a1 (fun e => by have := hch _ e; omega)
    have mW := fW.heap hm9 (fun e => by have := hch _ e; omega)
    have fwW := fX.trans fW (fun _ _ h => h)
    have hsW := fW.size
    clear cc
    have cc := fun i => blk_cell cW1 i
    by_cases hlt : k < Dn
    · have hw1 : wrap64 ((k : Int) + 1) = (k : Int) + 1 := by unfold wrap64; omega
      have HW1 := Lib.hid hw1
      clear hw1
      go_wp2_with fail
      refine (wpIn_wide (n := 0)).1 ?_
      refine regionIn_seq (fun _ V => Fr (fun _ => False) W V) rfl (by kernel_rfl) (by kernel_rfl) (by kernel_rfl) (fun _ => trivial) rfl (Fr.refl _ _).drew ?_
      iterate 2
        apply SeqR.step
        · rfl
        · intro d V hV ht
          have cg := fun i => blk_cell (hV.heap cW1 id) i
          simp [Oper.gives, execOp, Act.eval, go_sem, cg]
          exact ⟨rfl, hV⟩
        simp only [Act.put, List.setIfInBounds_toArray, List.set_cons_succ, List.set_cons_zero]
      iterate 1
        apply SeqR.step
        · rfl
        · intro d V hV ht
          have hc := count_calls (hpW.fr0 hV) (k : Int)
          simp [Oper.gives, execOp, Act.eval, go_sem]
          refine callsIn_wide.2 (hc.mono ?_); rintro e W9 ⟨rfl, rfl⟩; exact ⟨_, rfl, rfl, hV⟩
        simp only [Act.put, List.setIfInBounds_toArray, List.set_cons_succ, List.set_cons_zero]
      iterate 2
        apply SeqR.step
        · rfl
        · intro d V hV ht
          have cg := fun i => blk_cell (hV.heap cW1 id) i
          simp [Oper.gives, execOp, Act.eval, go_sem, cg]
          exact ⟨rfl, hV⟩
        simp only [Act.put, List.setIfInBounds_toArray, List.set_cons_succ, List.set_cons_zero]
      iterate 1
        apply SeqR.step
        · rfl
        · intro d V hV ht
          have hc := rp_count (rW.fr0 hV) (k : Int)
          simp [Oper.gives, execOp, Act.eval, go_sem]
          refine callsIn_wide.2 (hc.mono ?_); rintro e W9 ⟨rfl, hf⟩; exact ⟨_, rfl, rfl, hV.trans hf (fun _ _ h => h)⟩
        simp only [Act.put, List.setIfInBounds_toArray, List.set_cons_succ, List.set_cons_zero]
      iterate 1
        apply SeqR.step
        · rfl
        · intro d V hV ht
          have cg := fun i => blk_cell (hV.heap cW1 id) i
          simp [Oper.gives, execOp, Act.eval, go_sem, cg]
          exact ⟨rfl, hV⟩
        simp only [Act.put, List.setIfInBounds_toArray, List.set_cons_succ, List.set_cons_zero]
      refine SeqR.nil fun V hV => ?_
      go_wp2_with fail
      refine ⟨rfl, [nb + 5], rfl, ⟨k + 1, by omega, by show Value.int IntKind.i64 ((k : Int) + 1) = _; simp, rfl, hpW.fr0 hV, fW.trans hV (fun _ _ h => h.elim)⟩, ?_⟩
      show Dn - (intOf (.int .i64 ((k : Int) + 1))).toNat < _
      simp only [intOf]
      omega
    · obtain rfl : Dn = k := by omega
      go_wp2_with fail
      have z1 : cntP Dn C (-1) = 0 := if_neg (by omega)
      have z2 : cntP Dn C (Dn : Int) = 0 := if_neg (by omega)
      have Z1 := Lib.hid z1
      have Z2 := Lib.hid z2
      clear z1 z2
      refine (wpIn_wide (n := 0)).1 ?_
      refine regionIn_seq (Spl base p Dn Zn S B P O l qb qc C C W (nb + 1) 33 99 (.cells #[.bool true] 4 (0, 0))) rfl (by kernel_rfl) (by kernel_rfl) (by kernel_rfl) (fun _ => trivial) rfl ⟨by simpa using hpW.fr0 (Fr.refl _ _).drew, (Fr.refl _ _).drew, by simp⟩ ?_
      iterate 7
        first
        | (apply SeqR.step
           · rfl
           · intro d V hV ht
             have cg := fun i => blk_cell (hV.2.1.heap cW1 (by rintro (e | e); have := hch _ e; omega; omega)) i
             have cn := fun i => blk_cell (hV.2.1.heap aW (by rintro (e | e); have := hch _ e; omega; omega)) i
             simp [Oper.gives, execOp, Act.eval, go_sem, cg, cn]
             exact ⟨rfl, hV.keep (by decide) (by decide)⟩)
        | (apply SeqR.pass
           · rfl
           · exact fun d V hV _ => hV.keep (by decide) (by decide))
        simp only [Act.put, List.setIfInBounds_toArray, List.set_cons_succ, List.set_cons_zero]
      iterate 1
        first
        | (apply SeqR.step
           · rfl
           · intro d V hV ht
             have hc := pairs_calls hV.po
             simp [Oper.gives, execOp, Act.eval, go_sem]
             refine callsIn_wide.2 (hc.mono ?_); rintro e W9 ⟨rfl, hf⟩; exact ⟨_, rfl, rfl, hV.fr (hV.po.fr0 hf) (hf.mono (fun _ _ h => h.elim)) (fun e => by have := hch _ e; omega) (by decide)⟩)
        | (apply SeqR.pass
           · rfl
           · exact fun d V hV _ => hV.keep (by decide) (by decide))
        simp only [Act.put, List.setIfInBounds_toArray, List.set_cons_succ, List.set_cons_zero]
      iterate 1
        first
        | (apply SeqR.step
           · rfl
           · intro d V hV ht
             have cg := fun i => blk_cell (hV.2.1.heap cW1 (by rintro (e | e); have := hch _ e; omega; omega)) i
             have cn := fun i => blk_cell (hV.2.1.heap aW (by rintro (e | e); have := hch _ e; omega; omega)) i
             simp [Oper.gives, execOp, Act.eval, go_sem, cg, cn]
             exact ⟨rfl, hV.keep (by decide) (by decide)⟩)
        | (apply SeqR.pass
           · rfl
           · exact fun d V hV _ => hV.keep (by decide) (by decide))
        simp only [Act.put, List.setIfInBounds_toArray, List.set_cons_succ, List.set_cons_zero]
      iterate 1
        first
        | (apply SeqR.step
           · rfl
           · intro d V hV ht
             have rV := rW.frc hpW.waits hV.2.1 (fun k hk => by rcases hk with hk | hk; exact .inl hk; exact .inr (by omega))
             have hc := rp_pairs rV
             simp [Oper.gives, execOp, Act.eval, go_sem]
             refine callsIn_wide.2 (hc.mono ?_); rintro e W9 ⟨rfl, hf⟩; exact ⟨_, rfl, rfl, hV.fr (hV.po.fr0 hf) (hf.mono (fun _ _ h => h.elim)) (fun e => by have := hch _ e; omega) (by decide)⟩)
        | (apply SeqR.pass
           · rfl
           · exact fun d V hV _ => hV.keep (by decide) (by decide))
        simp only [Act.put, List.setIfInBounds_toArray, List.set_cons_succ, List.set_cons_zero]
      iterate 5
        first
        | (apply SeqR.step
           · rfl
           · intro d V hV ht
             have cg := fun i => blk_cell (hV.2.1.heap cW1 (by rintro (e | e); have := hch _ e; omega; omega)) i
             have cn := fun i => blk_cell (hV.2.1.heap aW (by rintro (e | e); have := hch _ e; omega; omega)) i
             simp [Oper.gives, execOp, Act.eval, go_sem, cg, cn]
             exact ⟨rfl, hV.keep (by decide) (by decide)⟩)
        | (apply SeqR.pass
           · rfl
           · exact fun d V hV _ => hV.keep (by decide) (by decide))
        simp only [Act.put, List.setIfInBounds_toArray, List.set_cons_succ, List.set_cons_zero]
      iterate 1
        first
        | (apply SeqR.step
           · rfl
           · intro d V hV ht
             have hc := has_calls hV.po zone
             simp [Oper.gives, execOp, Act.eval, go_sem]
             refine callsIn_wide.2 (hc.mono ?_); rintro e W9 ⟨rfl, hp9, hf⟩; exact ⟨_, rfl, rfl, hV.fr hp9 hf (fun e => by have := hch _ e; omega) (by decide)⟩)
        | (apply SeqR.pass
           · rfl
           · exact fun d V hV _ => hV.keep (by decide) (by decide))
        simp only [Act.put, List.setIfInBounds_toArray, List.set_cons_succ, List.set_cons_zero]
      iterate 2
        first
        | (apply SeqR.step
           · rfl
           · intro d V hV ht
             have cg := fun i => blk_cell (hV.2.1.heap cW1 (by rintro (e | e); have := hch _ e; omega; omega)) i
             have cn := fun i => blk_cell (hV.2.1.heap aW (by rintro (e | e); have := hch _ e; omega; omega)) i
             simp [Oper.gives, execOp, Act.eval, go_sem, cg, cn]
             exact ⟨rfl, hV.keep (by decide) (by decide)⟩)
        | (apply SeqR.pass
           · rfl
           · exact fun d V hV _ => hV.keep (by decide) (by decide))
        simp only [Act.put, List.setIfInBounds_toArray, List.set_cons_succ, List.set_cons_zero]
      iterate 1
        first
        | (apply SeqR.step
           · rfl
           · intro d V hV ht
             have rV := rW.frc hpW.waits hV.2.1 (fun k hk => by rcases hk with hk | hk; exact .inl hk; exact .inr (by omega))
             have hc := rp_has rV zone
             simp [Oper.gives, execOp, Act.eval, go_sem]
             refine callsIn_wide.2 (hc.mono ?_); rintro e W9 ⟨rfl, hf⟩; exact ⟨_, rfl, rfl, hV.fr (hV.po.fr0 hf) (hf.mono (fun _ _ h => h.elim)) (fun e => by have := hch _ e; omega) (by decide)⟩)
        | (apply SeqR.pass
           · rfl
           · exact fun d V hV _ => hV.keep (by decide) (by decide))
        simp only [Act.put, List.setIfInBounds_toArray, List.set_cons_succ, List.set_cons_zero]
      iterate 4
        first
        | (apply SeqR.step
           · rfl
           · intro d V hV ht
             have cg := fun i => blk_cell (hV.2.1.heap cW1 (by rintro (e | e); have := hch _ e; omega; omega)) i
             have cn := fun i => blk_cell (hV.2.1.heap aW (by rintro (e | e); have := hch _ e; omega; omega)) i
             simp [Oper.gives, execOp, Act.eval, go_sem, cg, cn]
             exact ⟨rfl, hV.keep (by decide) (by decide)⟩)
        | (apply SeqR.pass
           · rfl
           · exact fun d V hV _ => hV.keep (by decide) (by decide))
        simp only [Act.put, List.setIfInBounds_toArray, List.set_cons_succ, List.set_cons_zero]
      iterate 1
        first
        | (apply SeqR.step
           · rfl
           · intro d V hV ht
             have hc := count_calls hV.po (-1)
             rw [Z1.out] at hc
             simp [Oper.gives, execOp, Act.eval, go_sem]
             refine callsIn_wide.2 (hc.mono ?_); rintro e W9 ⟨rfl, rfl⟩; exact ⟨_, rfl, rfl, hV.keep (by decide) (by decide)⟩)
        | (apply SeqR.pass
           · rfl
           · exact fun d V hV _ => hV.keep (by decide) (by decide))
        simp only [Act.put, List.setIfInBounds_toArray, List.set_cons_succ, List.set_cons_zero]
      iterate 6
        first
        | (apply SeqR.step
           · rfl
           · intro d V hV ht
             have cg := fun i => blk_cell (hV.2.1.heap cW1 (by rintro (e | e); have := hch _ e; omega; omega)) i
             have cn := fun i => blk_cell (hV.2.1.heap aW (by rintro (e | e); have := hch _ e; omega; omega)) i
             simp [Oper.gives, execOp, Act.eval, go_sem, cg, cn]
             exact ⟨rfl, hV.keep (by decide) (by decide)⟩)
        | (apply SeqR.pass
           · rfl
           · exact fun d V hV _ => hV.keep (by decide) (by decide))
        simp only [Act.put, List.setIfInBounds_toArray, List.set_cons_succ, List.set_cons_zero]
      iterate 1
        first
        | (apply SeqR.step
           · rfl
           · intro d V hV ht
             have hc := count_calls hV.po (Dn : Int)
             rw [Z2.out] at hc
             simp [Oper.gives, execOp, Act.eval, go_sem]
             refine callsIn_wide.2 (hc.mono ?_); rintro e W9 ⟨rfl, rfl⟩; exact ⟨_, rfl, rfl, hV.keep (by decide) (by decide)⟩)
        | (apply SeqR.pass
           · rfl
           · exact fun d V hV _ => hV.keep (by decide) (by decide))
        simp only [Act.put, List.setIfInBounds_toArray, List.set_cons_succ, List.set_cons_zero]
      iterate 2
        first
        | (apply SeqR.step
           · rfl
           · intro d V hV ht
             have cg := fun i => blk_cell (hV.2.1.heap cW1 (by rintro (e | e); have := hch _ e; omega; omega)) i
             have cn := fun i => blk_cell (hV.2.1.heap aW (by rintro (e | e); have := hch _ e; omega; omega)) i
             simp [Oper.gives, execOp, Act.eval, go_sem, cg, cn]
             exact ⟨rfl, hV.keep (by decide) (by decide)⟩)
        | (apply SeqR.pass
           · rfl
           · exact fun d V hV _ => hV.keep (by decide) (by decide))
        simp only [Act.put, List.setIfInBounds_toArray, List.set_cons_succ, List.set_cons_zero]
      apply SeqR.step
      · rfl
      · intro d V hV ht
        have n33 : d 33 = false := ht.not
        have hVF : Fr (Chs Dn qc) W V := hV.2.1.mono (fun _ _ hk => by rcases hk with hk | hk; exact hk; rw [n33] at hk; cases hk.1)
        have kV := hVF.heap cW2 (fun e => by have := hch _ e; omega)
        have cV := fun i => blk_cell kV i
        have eV := fun i => blk_frozen kV i
        simp [Oper.gives, execOp, Act.eval, go_sem, cV, eV]
        exact ⟨rfl, hV.put (by decide) (fun i hi e => by have := hfoot _ hi; omega) (Fr.set1 _ _ _ _) (by simpa using blk_put kV 0 (.bool true))⟩
      simp only [Act.put, List.setIfInBounds_toArray, List.set_cons_succ, List.set_cons_zero]
      refine SeqR.nil fun V hV => ?_
      have hpV := hV.po
      have hVF : Fr (fun k => Chs Dn qc k ∨ k = nb + 1) W V := hV.2.1.mono (fun _ _ hk => hk.imp id (fun h => h.2))
      have hbV := hV.2.2 rfl
      have mV := hVF.heap mW (by rintro (e | e); have := hch _ e; omega; omega)
      clear hV
      go_wp2_with fail
      refine marks_all [nb + 5] _ ((Marks.nil _).cons mV (by simp)) ?_
      intro w9 hw9
      exact ⟨.bool true, resC56 rfl (blk_cell (hw9.heap hbV (by simp)) 0), rfl, hpV.fr hw9 (fun k hk e => by have := hfoot k hk; simp at e; omega),
        (fwW.trans hVF (fun i hi e => by rcases e with e | e; exact e; omega)).trans hw9 (fun i hi e => by simp at e; omega)⟩
  · intro _ _ _ h; exact h.elim
end
end Go.Proofs.Ytcdblopnaimfoaa

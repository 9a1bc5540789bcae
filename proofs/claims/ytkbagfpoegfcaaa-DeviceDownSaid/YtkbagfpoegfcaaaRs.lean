/- A region that draws its order, whose operations may turn the world, and whose values may hang on the order: a condition S on what is done, on the values so far and on the world is kept by each operation. Condition: no two operations write one slot; what an operation reads is written ahead of it by an edge, or behind it by one. -/
import Derived.Test.YtkbagfpoegfcaaaRv
namespace Go.Proofs.Ytkbagfpoegfcaaa
open Go.RowKit Go.Conc

def updV (vals : Nat → Value) (i : Nat) (v : Value) : Nat → Value := fun j => if j = i then v else vals j
theorem updV_same (vals : Nat → Value) (i : Nat) (v : Value) : updV vals i v i = v := if_pos rfl
theorem updV_other (vals : Nat → Value) {i j : Nat} (v : Value) (h : j ≠ i) : updV vals i v j = vals j := if_neg h
/-- What is done, with one more. -/
theorem done_same {l : Array Bool} {i : Nat} (h : i < l.size) : (l.setIfInBounds i true).getD i false = true := by simp [h]
theorem done_other {l : Array Bool} {i j : Nat} (h : j ≠ i) : (l.setIfInBounds i true).getD j false = l.getD j false := getD_set_ne false (fun e => h e.symm)

section
variable {F : Fence} {P : Program} {ops : Array Oper} {vals : Nat → Value} {a : Act} {Q : Exit → Act → World → Prop} {S : Array Bool → (Nat → Value) → World → Prop}

theorem actV_put2 {l : Array Bool} {i : Nat} {o : Oper} (hc : chkV ops = true) (ho : ops[i]? = some o) (hl : l.size = ops.size) (v : Value) :
    (actV ops vals a l).put o.dst v = actV ops (updV vals i v) a (l.setIfInBounds i true) := by
  have hi : i < ops.size := (Array.getElem?_eq_some_iff.1 ho).1
  have hci := (List.all_eq_true.1 hc) i (List.mem_range.2 hi)
  rw [ho] at hci
  simp only [Bool.and_eq_true] at hci
  have hset : ∀ j, (l.setIfInBounds i true).getD j false = if j = i then true else l.getD j false := fun j => by
    by_cases e : j = i
    · subst e; simp [hl, hi]
    · rw [if_neg e, done_other e]
  have hw := hci.1.1.1
  have hnot : ∀ t, o.dst ≠ some t → wrOf ops t ≠ some i := fun t ht hwr => by
    have := List.find?_some hwr
    rw [ho] at this
    simp at this
    exact ht this
  unfold actV Act.put
  cases hd : o.dst with
  | none =>
    simp only
    congr 1
    apply Array.ext (by simp)
    intro t h1 h2
    simp only [Array.getElem_mapIdx]
    cases hwr : wrOf ops t with
    | none => rfl
    | some j =>
      have e : j ≠ i := fun e => hnot t (by rw [hd]; simp) (e ▸ hwr)
      simp only [hset, if_neg e, updV_other _ _ e]
  | some t0 =>
    rw [hd] at hw
    simp only [beq_iff_eq] at hw
    simp only
    congr 1
    apply Array.ext (by simp)
    intro t h1 h2
    by_cases e : t0 = t
    · subst e
      simp [hw, hset, updV_same]
    · rw [Array.getElem_setIfInBounds_ne (by simpa using h1) (h := e)]
      rw [Array.getElem_mapIdx, Array.getElem_mapIdx]
      cases hwr : wrOf ops t with
      | none => rfl
      | some j =>
        have e2 : j ≠ i := fun e2 => hnot t (by rw [hd]; simpa using e) (e2 ▸ hwr)
        simp only [hset, if_neg e2, updV_other _ _ e2]

theorem anyIn_stated (hc : chkV ops = true) (hin : inV ops a = true)
    (hop : ∀ i o, ops[i]? = some o → ∀ (l : Array Bool) (vals : Nat → Value) (A : Act) (W : World), l.size = ops.size → S l vals W → l.getD i false = false → ClosedV ops l → (∀ j, depOn o j = true → l.getD j false = true) →
      (∀ t, t ∈ readsOf o → A.tmps.getD t undef = lookV ops vals a o t) → A.defers = a.defers →
      if wantedV ops vals o = true then o.wpIn F 0 P A W (fun A' W' => ∃ v, A' = A.put o.dst v ∧ S (l.setIfInBounds i true) (updV vals i v) W') Q
      else ((∀ f, o.about P W A.eval = some f → F.fn f) ∧ S (l.setIfInBounds i true) (updV vals i undef) W))
    (hQ : ∀ vals W, S (Array.replicate ops.size true) vals W → Q .normal (actV ops vals a (Array.replicate ops.size true)) W) :
    ∀ (fuel : Nat) (l : Array Bool) (vals : Nat → Value) (W : World), l.size = ops.size → ClosedV ops l → ((List.range ops.size).filter fun i => !l.getD i true).length ≤ fuel → S l vals W →
      wpAnyIn F 0 P .any ops Q fuel l (actV ops vals a l) W := by
  have hready : ∀ (l : Array Bool), l.size = ops.size → Region.ready .any ops l = [] → l = Array.replicate ops.size true := by
    intro l hl hr
    have hall : ∀ n i, i < n → i < ops.size → l.getD i true = true := by
      intro n
      induction n with
      | zero => intro i h; omega
      | succ n ih =>
        intro i hi hi2
        cases hv : l.getD i true with
        | true => rfl
        | false =>
          exfalso
          have hmem : i ∈ Region.ready .any ops l := by
            refine mem_ready.2 ⟨hv, ops[i], Array.getElem?_eq_getElem hi2, fun e he hb => ?_⟩
            have hci := (List.all_eq_true.1 hc) i (List.mem_range.2 hi2)
            rw [Array.getElem?_eq_getElem hi2] at hci
            simp only [Bool.and_eq_true] at hci
            have h2 := hci.1.1.2
            rw [Array.all_eq_true_iff_forall_mem] at h2
            have h3 := h2 e he
            simp only [hb, Bool.not_true, Bool.false_or, decide_eq_true_eq] at h3
            have := ih e.on (by omega) (by omega)
            simpa [Array.getElem?_eq_getElem (show e.on < l.size by omega)] using this
          rw [hr] at hmem
          cases hmem
    apply Array.ext (by simp [hl])
    intro i h1 h2
    have := hall (i + 1) i (by omega) (by omega)
    simpa [Array.getElem?_eq_getElem h1] using this
  intro fuel
  induction fuel with
  | zero =>
    intro l vals W hl hcl hf hS
    have hr : Region.ready .any ops l = [] := by
      rw [List.eq_nil_iff_forall_not_mem]
      intro i hi
      obtain ⟨h0, o, ho, _⟩ := mem_ready.1 hi
      have hmem : i ∈ (List.range ops.size).filter fun i => !l.getD i true := List.mem_filter.2 ⟨List.mem_range.2 (Array.getElem?_eq_some_iff.1 ho).1, by rw [h0]; rfl⟩
      have := List.length_pos_of_mem hmem
      omega
    exact ⟨hr, by rw [hready l hl hr]; exact hQ _ W (hready l hl hr ▸ hS)⟩
  | succ fuel ih =>
    intro l vals W hl hcl hf hS
    refine ⟨fun hr => by rw [hready l hl hr]; exact hQ _ W (hready l hl hr ▸ hS), fun i hi => ?_⟩
    obtain ⟨h0, o, ho, hdep⟩ := mem_ready.1 hi
    have hi2 : i < ops.size := (Array.getElem?_eq_some_iff.1 ho).1
    have h0' : l.getD i false = false := by
      have : i < l.size := by omega
      simpa [Array.getElem?_eq_getElem this] using h0
    have hdl : ∀ j, depOn o j = true → l.getD j false = true := by
      intro j hj
      unfold depOn at hj
      rw [← Array.any_toList, List.any_eq_true] at hj
      obtain ⟨e, he, hb⟩ := hj
      rw [Array.mem_toList_iff] at he
      simp only [Bool.and_eq_true, beq_iff_eq] at hb
      rw [← hb.2]; exact hdep e he hb.1
    have hci := (List.all_eq_true.1 hc) i (List.mem_range.2 hi2)
    rw [ho] at hci
    simp only [Bool.and_eq_true] at hci
    have hdst : ∀ (j : Nat) (oj : Oper) (t : Nat), ops[j]? = some oj → oj.dst = some t → t < a.tmps.size := by
      intro j oj t hj ht
      have := (List.all_eq_true.1 hin) oj (by rw [Array.mem_toList_iff]; exact Array.mem_of_getElem? hj)
      rw [ht] at this; simpa using this
    have hlook : ∀ t, t ∈ readsOf o → (actV ops vals a l).tmps.getD t undef = lookV ops vals a o t := by
      intro t ht
      rw [actV_get]
      unfold lookV
      have h4 := (List.all_eq_true.1 hci.2) t ht
      cases hwr : wrOf ops t with
      | none => rfl
      | some j =>
        rw [hwr] at h4
        simp only at h4 ⊢
        cases hd : depOn o j with
        | true =>
          rw [hdl j hd, if_pos rfl, if_pos rfl]
          have hf := List.find?_some hwr
          cases hoj : ops[j]? with
          | none => rw [hoj] at hf; simp at hf
          | some oj => rw [hoj] at hf; simp only [Option.bind_some, beq_iff_eq] at hf; rw [if_pos (hdst j oj t hoj hf)]
        | false =>
          rw [hd] at h4
          simp only [Bool.false_or] at h4
          cases hoj : ops[j]? with
          | none => rw [hoj] at h4; simp at h4
          | some oj =>
            rw [hoj] at h4
            have : l.getD j false = false := by
              cases hv : l.getD j false with
              | false => rfl
              | true => have := hcl j oj hoj hv i h4; rw [h0'] at this; cases this
            rw [this]; rfl
    have hcl' : ClosedV ops (l.setIfInBounds i true) := by
      intro j oj hoj hj k hk
      by_cases e : j = i
      · subst e
        rw [ho] at hoj; cases hoj
        exact getD_set_true (hdl k hk)
      · rw [getD_set_ne false (fun h => e h.symm)] at hj
        exact getD_set_true (hcl j oj hoj hj k hk)
    have hlen : ((List.range ops.size).filter fun j => !(l.setIfInBounds i true).getD j true).length ≤ fuel := by
      have hlt : ((List.range ops.size).filter fun j => !(l.setIfInBounds i true).getD j true).length < ((List.range ops.size).filter fun j => !l.getD j true).length := by
        have hsub : ((List.range ops.size).filter fun j => !(l.setIfInBounds i true).getD j true) = ((List.range ops.size).filter fun j => !l.getD j true).filter (fun j => decide (j ≠ i)) := by
          rw [List.filter_filter]
          refine List.filter_congr fun j hj => ?_
          by_cases e : j = i
          · subst e; simp [hl, hi2]
          · rw [getD_set_ne true (fun h => e h.symm)]; simp [e]
        rw [hsub]
        refine List.length_filter_lt_length_iff_exists.2 ⟨i, List.mem_filter.2 ⟨List.mem_range.2 hi2, by rw [h0]; rfl⟩, by simp⟩
      omega
    have hnext : ∀ v W', S (l.setIfInBounds i true) (updV vals i v) W' → wpAnyIn F 0 P .any ops Q fuel (l.setIfInBounds i true) ((actV ops vals a l).put o.dst v) W' := by
      intro v W' hS'
      rw [actV_put2 hc ho hl]
      exact ih _ _ _ (by simp [hl]) hcl' hlen hS'
    have hmain := hop i o ho l vals (actV ops vals a l) W hl hS h0' hcl hdl hlook rfl
    have hwant : Region.wanted o (yielded ops (actV ops vals a l).tmps) = wantedV ops vals o := by
      unfold Region.wanted wantedV
      cases hg : o.guard with
      | none => rfl
      | some jw =>
        obtain ⟨j, want⟩ := jw
        have h5 := hci.1.2
        rw [hg] at h5
        simp only at h5 ⊢
        unfold yielded
        cases hoj : ops[j]? with
        | none => rfl
        | some oj =>
          simp only [Option.bind_some]
          cases hdj : oj.dst with
          | none => rfl
          | some t =>
            simp only [Option.bind_some]
            have hlt := hdst j oj t hoj hdj
            have hj2 : j < ops.size := (Array.getElem?_eq_some_iff.1 hoj).1
            have hcj := (List.all_eq_true.1 hc) j (List.mem_range.2 hj2)
            rw [hoj] at hcj
            simp only [Bool.and_eq_true] at hcj
            have hwj := hcj.1.1.1
            rw [hdj] at hwj
            simp only [beq_iff_eq] at hwj
            have hv : (actV ops vals a l).tmps[t]? = some (vals j) := by
              unfold actV
              simp only [Array.getElem?_mapIdx, Array.getElem?_eq_getElem hlt, Option.map_some, hwj]
              rw [hdl j h5]; rfl
            rw [hv]
            cases vals j <;> simp
    unfold wpOpIn
    rw [ho]
    simp only
    rw [hwant]
    cases hwv : wantedV ops vals o with
    | true =>
      rw [hwv] at hmain
      rw [if_pos rfl] at hmain ⊢
      exact Oper.wpIn_mono (fun A' W' h => by obtain ⟨v, rfl, hS'⟩ := h; exact hnext v W' hS') hmain
    | false =>
      rw [hwv] at hmain
      rw [if_neg (by decide)] at hmain ⊢
      exact ⟨hmain.1, hnext _ W hmain.2⟩

theorem not_later {l : Array Bool} {i j : Nat} {oj : Oper} (hcl : ClosedV ops l) (ho : ops[j]? = some oj) (hd : depOn oj i = true) (hi : l.getD i false = false) : l.getD j false = false := by
  cases h : l.getD j false with
  | false => rfl
  | true => rw [hcl j oj ho h i hd] at hi; cases hi
/-- THE REGION. -/
theorem regionIn_stated {id : Nat} {l : List Oper} {w : World} (S : Array Bool → (Nat → Value) → World → Prop) (vals0 : Nat → Value) (hm : P.follows .mixedOrders = true) (hc : chkV l.toArray = true) (hin : inV l.toArray a = true)
    (hS : S (Array.replicate l.length false) vals0 w.drew)
    (hop : ∀ i o, l[i]? = some o → ∀ (d : Array Bool) (vals : Nat → Value) (A : Act) (W : World), d.size = l.length → S d vals W → d.getD i false = false → ClosedV l.toArray d → (∀ j, depOn o j = true → d.getD j false = true) →
      (∀ t, t ∈ readsOf o → A.tmps.getD t undef = lookV l.toArray vals a o t) → A.defers = a.defers →
      if wantedV l.toArray vals o = true then o.wpIn F 0 P A W (fun A' W' => ∃ v, A' = A.put o.dst v ∧ S (d.setIfInBounds i true) (updV vals i v) W') Q
      else ((∀ f, o.about P W A.eval = some f → F.fn f) ∧ S (d.setIfInBounds i true) (updV vals i undef) W))
    (hQ : ∀ vals W, S (Array.replicate l.length true) vals W → Q .normal (goV vals l 0 a) W) : (Code.region id l.toArray true).wpIn F 0 P Q a w := by
  refine wpIn_region_any hm ?_
  have h := anyIn_stated (F := F) (P := P) (ops := l.toArray) (a := a) (S := S) (Q := Q) hc hin (fun i o ho => by simpa using hop i o (by simpa using ho))
    (fun vals W hW => by
      have := goV_eq (ops := l.toArray) (vals := vals) (a := a) hc l.length l 0 (Array.replicate l.toArray.size false) rfl (by simp) (by simp) (by simp) (fun j hj => by omega)
      rw [actV_none] at this
      rw [← this]; exact hQ vals W (by simpa using hW))
    l.toArray.size (Array.replicate l.toArray.size false) vals0 w.drew (by simp) (fun j o _ hj => by
      rw [rep_false] at hj; cases hj) (Nat.le_trans (List.length_filter_le _ _) (by simp)) (by simpa using hS)
  rw [actV_none] at h
  exact h
end
end Go.Proofs.Ytkbagfpoegfcaaa

/- A region that draws its order, each of whose operations comes to one value whatever the order (its operands known, a condition on the world kept): it may be walked as if in the text's order; within a round too. Condition: no two operations write one slot; what an operation reads is written ahead of it by an edge, or behind it by one. -/
import Derived.Test.YtkbagfpoegfcaaaRf
import Derived.OrdersIn
namespace Go.Proofs.Ytkbagfpoegfcaaa
open Go.RowKit Go.Conc

/-- Which operation writes slot t. -/
def wrOf (ops : Array Oper) (t : Nat) : Option Nat := (List.range ops.size).find? fun i => ((ops[i]?).bind (·.dst)) == some t
def depOn (o : Oper) (j : Nat) : Bool := o.after.any fun e => Region.binds .any e && e.on == j
/-- The slots that operation o reads. -/
def readsOf (o : Oper) : List Nat := o.op.operands.toList.filterMap fun | .tmp t => some t | _ => none
/-- The condition on the region, by looking. -/
def chkV (ops : Array Oper) : Bool := (List.range ops.size).all fun i => match ops[i]? with
  | none => true
  | some o => (match o.dst with | none => true | some t => wrOf ops t == some i) &&
      o.after.all (fun e => !Region.binds .any e || decide (e.on < i)) &&
      (match o.guard with | none => true | some (j, _) => depOn o j) &&
      (readsOf o).all fun t => match wrOf ops t with
        | none => true
        | some j => depOn o j || (match ops[j]? with | some oj => depOn oj i | none => false)
/-- What slot t holds when operation i's turn comes. -/
def lookV (ops : Array Oper) (vals : Nat → Value) (a : Act) (o : Oper) (t : Nat) : Value := match wrOf ops t with
  | some j => if depOn o j then vals j else a.tmps.getD t undef
  | none => a.tmps.getD t undef
def wantedV (ops : Array Oper) (vals : Nat → Value) (o : Oper) : Bool := match o.guard with
  | none => true
  | some (j, want) => match ((ops[j]?).bind (·.dst)) with
    | some _ => (match vals j with | .bool b => b == want | _ => false)
    | none => false
/-- The frame when these operations have been carried out. -/
def actV (ops : Array Oper) (vals : Nat → Value) (a : Act) (l : Array Bool) : Act :=
  { tmps := a.tmps.mapIdx fun t v => match wrOf ops t with | some j => if l.getD j false then vals j else v | none => v, defers := a.defers }
def goV (vals : Nat → Value) : List Oper → Nat → Act → Act
  | [], _, A => A
  | o :: rest, i, A => goV vals rest (i + 1) (A.put o.dst (vals i))

section
variable {F : Fence} {P : Program} {ops : Array Oper} {vals : Nat → Value} {a : Act} {S : World → Prop} {Q : Exit → Act → World → Prop}

theorem actV_put {l : Array Bool} {i : Nat} {o : Oper} (hc : chkV ops = true) (ho : ops[i]? = some o) (hl : l.size = ops.size) :
    (actV ops vals a l).put o.dst (vals i) = actV ops vals a (l.setIfInBounds i true) := by
  have hi : i < ops.size := (Array.getElem?_eq_some_iff.1 ho).1
  have hci := (List.all_eq_true.1 hc) i (List.mem_range.2 hi)
  rw [ho] at hci
  simp only [Bool.and_eq_true] at hci
  have hset : ∀ j, (l.setIfInBounds i true).getD j false = if j = i then true else l.getD j false := fun j => by
    by_cases e : j = i
    · subst e; simp [hl, hi]
    · rw [if_neg e, getD_set_ne false (fun h => e h.symm)]
  have hw := hci.1.1.1
  unfold actV Act.put
  cases hd : o.dst with
  | none =>
    simp only
    congr 1
    apply Array.ext (by simp)
    intro t h1 h2
    simp only [Array.getElem_mapIdx]
    cases hwr : wrOf ops t with
    | none => rfl
    | some j =>
      simp only [hset]
      by_cases e : j = i
      · subst e
        unfold wrOf at hwr
        have := List.find?_some hwr
        rw [ho] at this
        simp [hd] at this
      · rw [if_neg e]
  | some t0 =>
    rw [hd] at hw
    simp only [beq_iff_eq] at hw
    simp only
    congr 1
    apply Array.ext (by simp)
    intro t h1 h2
    by_cases e : t0 = t
    · subst e
      simp [hw, hset]
    · rw [Array.getElem_setIfInBounds_ne (by simpa using h1) (h := e)]
      rw [Array.getElem_mapIdx, Array.getElem_mapIdx]
      cases hwr : wrOf ops t with
      | none => rfl
      | some j =>
        simp only [hset]
        by_cases e2 : j = i
        · subst e2
          unfold wrOf at hwr
          have := List.find?_some hwr
          rw [ho] at this
          simp only [Option.bind_some, hd, beq_iff_eq, Option.some.injEq] at this
          exact absurd this e
        · rw [if_neg e2]

theorem rep_false (n j : Nat) : (Array.replicate n false).getD j false = false := by
  rw [Array.getD_eq_getD_getElem?, Array.getElem?_replicate]
  split <;> rfl
theorem actV_none : actV ops vals a (Array.replicate ops.size false) = a := by
  unfold actV
  obtain ⟨tmps, defers⟩ := a
  congr 1
  apply Array.ext (by simp)
  intro t h1 h2
  simp only [Array.getElem_mapIdx]
  cases wrOf ops t with
  | none => rfl
  | some j =>
    simp only [rep_false]; rfl

theorem actV_get {l : Array Bool} {t : Nat} : (actV ops vals a l).tmps.getD t undef = match wrOf ops t with
    | some j => if l.getD j false then (if t < a.tmps.size then vals j else undef) else a.tmps.getD t undef
    | none => a.tmps.getD t undef := by
  unfold actV
  by_cases h : t < a.tmps.size
  · simp only [Array.getD_eq_getD_getElem?, Array.getElem?_mapIdx, Array.getElem?_eq_getElem h, Option.map_some, Option.getD_some, h, if_true]
    try cases wrOf ops t <;> rfl
  · have h' : a.tmps.size ≤ t := by omega
    simp only [Array.getD_eq_getD_getElem?, Array.getElem?_mapIdx, Array.getElem?_eq_none h', Option.map_none, Option.getD_none, h, if_false]
    cases wrOf ops t with
    | none => rfl
    | some j => simp

/-- What is listed is closed under what must come ahead. -/
def ClosedV (ops : Array Oper) (l : Array Bool) : Prop := ∀ j o, ops[j]? = some o → l.getD j false = true → ∀ k, depOn o k = true → l.getD k false = true
/-- The tmps are many enough. -/
def inV (ops : Array Oper) (a : Act) : Bool := ops.toList.all fun o => match o.dst with | some t => decide (t < a.tmps.size) | none => true

theorem anyIn_valued (hc : chkV ops = true) (hin : inV ops a = true)
    (hop : ∀ i o, ops[i]? = some o → ∀ (A : Act) (W : World), S W → (∀ t, t ∈ readsOf o → A.tmps.getD t undef = lookV ops vals a o t) → A.defers = a.defers →
      if wantedV ops vals o = true then o.wpIn F 0 P A W (fun A' W' => A' = A.put o.dst (vals i) ∧ S W') Q else ((∀ f, o.about P W A.eval = some f → F.fn f) ∧ vals i = undef))
    (hQ : ∀ W, S W → Q .normal (actV ops vals a (Array.replicate ops.size true)) W) :
    ∀ (fuel : Nat) (l : Array Bool) (W : World), l.size = ops.size → ClosedV ops l → (∀ i, i < ops.size → l.getD i false = false → True) → ((List.range ops.size).filter fun i => !l.getD i true).length ≤ fuel → S W →
      wpAnyIn F 0 P .any ops Q fuel l (actV ops vals a l) W := by
  have hready : ∀ (l : Array Bool), l.size = ops.size → Region.ready .any ops l = [] → l = Array.replicate ops.size true := by
    intro l hl hr
    have hall : ∀ n i, i < n → i < ops.size → l.getD i true = true := by
      intro n
      induction n with
      | zero => intro i h; omega
      | succ n ih =>
        intro i hi hi2
        cases hv : l.getD i true with
        | true => rfl
        | false =>
          exfalso
          have hmem : i ∈ Region.ready .any ops l := by
            refine mem_ready.2 ⟨hv, ops[i], Array.getElem?_eq_getElem hi2, fun e he hb => ?_⟩
            have hci := (List.all_eq_true.1 hc) i (List.mem_range.2 hi2)
            rw [Array.getElem?_eq_getElem hi2] at hci
            simp only [Bool.and_eq_true] at hci
            have h2 := hci.1.1.2
            rw [Array.all_eq_true_iff_forall_mem] at h2
            have h3 := h2 e he
            simp only [hb, Bool.not_true, Bool.false_or, decide_eq_true_eq] at h3
            have := ih e.on (by omega) (by omega)
            simpa [Array.getElem?_eq_getElem (show e.on < l.size by omega)] using this
          rw [hr] at hmem
          cases hmem
    apply Array.ext (by simp [hl])
    intro i h1 h2
    have := hall (i + 1) i (by omega) (by omega)
    simpa [Array.getElem?_eq_getElem h1] using this
  intro fuel
  induction fuel with
  | zero =>
    intro l W hl hcl _ hf hS
    have hr : Region.ready .any ops l = [] := by
      rw [List.eq_nil_iff_forall_not_mem]
      intro i hi
      obtain ⟨h0, o, ho, _⟩ := mem_ready.1 hi
      have hmem : i ∈ (List.range ops.size).filter fun i => !l.getD i true := List.mem_filter.2 ⟨List.mem_range.2 (Array.getElem?_eq_some_iff.1 ho).1, by rw [h0]; rfl⟩
      have := List.length_pos_of_mem hmem
      omega
    exact ⟨hr, by rw [hready l hl hr]; exact hQ W hS⟩
  | succ fuel ih =>
    intro l W hl hcl _ hf hS
    refine ⟨fun hr => by rw [hready l hl hr]; exact hQ W hS, fun i hi => ?_⟩
    obtain ⟨h0, o, ho, hdep⟩ := mem_ready.1 hi
    have hi2 : i < ops.size := (Array.getElem?_eq_some_iff.1 ho).1
    have h0' : l.getD i false = false := by
      have : i < l.size := by omega
      simpa [Array.getElem?_eq_getElem this] using h0
    have hdl : ∀ j, depOn o j = true → l.getD j false = true := by
      intro j hj
      unfold depOn at hj
      rw [← Array.any_toList, List.any_eq_true] at hj
      obtain ⟨e, he, hb⟩ := hj
      rw [Array.mem_toList_iff] at he
      simp only [Bool.and_eq_true, beq_iff_eq] at hb
      rw [← hb.2]; exact hdep e he hb.1
    have hci := (List.all_eq_true.1 hc) i (List.mem_range.2 hi2)
    rw [ho] at hci
    simp only [Bool.and_eq_true] at hci
    have hdst : ∀ (j : Nat) (oj : Oper) (t : Nat), ops[j]? = some oj → oj.dst = some t → t < a.tmps.size := by
      intro j oj t hj ht
      have := (List.all_eq_true.1 hin) oj (by rw [Array.mem_toList_iff]; exact Array.mem_of_getElem? hj)
      rw [ht] at this; simpa using this
    have hlook : ∀ t, t ∈ readsOf o → (actV ops vals a l).tmps.getD t undef = lookV ops vals a o t := by
      intro t ht
      rw [actV_get]
      unfold lookV
      have h4 := (List.all_eq_true.1 hci.2) t ht
      cases hwr : wrOf ops t with
      | none => rfl
      | some j =>
        rw [hwr] at h4
        simp only at h4 ⊢
        cases hd : depOn o j with
        | true =>
          rw [hdl j hd, if_pos rfl, if_pos rfl]
          have hf := List.find?_some hwr
          cases hoj : ops[j]? with
          | none => rw [hoj] at hf; simp at hf
          | some oj => rw [hoj] at hf; simp only [Option.bind_some, beq_iff_eq] at hf; rw [if_pos (hdst j oj t hoj hf)]
        | false =>
          rw [hd] at h4
          simp only [Bool.false_or] at h4
          cases hoj : ops[j]? with
          | none => rw [hoj] at h4; simp at h4
          | some oj =>
            rw [hoj] at h4
            have : l.getD j false = false := by
              cases hv : l.getD j false with
              | false => rfl
              | true => have := hcl j oj hoj hv i h4; rw [h0'] at this; cases this
            rw [this]; rfl
    have hcl' : ClosedV ops (l.setIfInBounds i true) := by
      intro j oj hoj hj k hk
      by_cases e : j = i
      · subst e
        rw [ho] at hoj; cases hoj
        exact getD_set_true (hdl k hk)
      · rw [getD_set_ne false (fun h => e h.symm)] at hj
        exact getD_set_true (hcl j oj hoj hj k hk)
    have hlen : ((List.range ops.size).filter fun j => !(l.setIfInBounds i true).getD j true).length ≤ fuel := by
      have hlt : ((List.range ops.size).filter fun j => !(l.setIfInBounds i true).getD j true).length < ((List.range ops.size).filter fun j => !l.getD j true).length := by
        have hsub : ((List.range ops.size).filter fun j => !(l.setIfInBounds i true).getD j true) = ((List.range ops.size).filter fun j => !l.getD j true).filter (fun j => decide (j ≠ i)) := by
          rw [List.filter_filter]
          refine List.filter_congr fun j hj => ?_
          by_cases e : j = i
          · subst e; simp [hl, hi2]
          · rw [getD_set_ne true (fun h => e h.symm)]; simp [e]
        rw [hsub]
        refine List.length_filter_lt_length_iff_exists.2 ⟨i, List.mem_filter.2 ⟨List.mem_range.2 hi2, by rw [h0]; rfl⟩, by simp⟩
      omega
    have hnext : ∀ W', S W' → wpAnyIn F 0 P .any ops Q fuel (l.setIfInBounds i true) ((actV ops vals a l).put o.dst (vals i)) W' := by
      intro W' hS'
      rw [actV_put hc ho hl]
      exact ih _ _ (by simp [hl]) hcl' (fun _ _ _ => trivial) hlen hS'
    have hmain := hop i o ho (actV ops vals a l) W hS hlook rfl
    have hwant : Region.wanted o (yielded ops (actV ops vals a l).tmps) = wantedV ops vals o := by
      unfold Region.wanted wantedV
      cases hg : o.guard with
      | none => rfl
      | some jw =>
        obtain ⟨j, want⟩ := jw
        have h5 := hci.1.2
        rw [hg] at h5
        simp only at h5 ⊢
        unfold yielded
        cases hoj : ops[j]? with
        | none => rfl
        | some oj =>
          simp only [Option.bind_some]
          cases hdj : oj.dst with
          | none => rfl
          | some t =>
            simp only [Option.bind_some]
            have hlt := hdst j oj t hoj hdj
            have hj2 : j < ops.size := (Array.getElem?_eq_some_iff.1 hoj).1
            have hcj := (List.all_eq_true.1 hc) j (List.mem_range.2 hj2)
            rw [hoj] at hcj
            simp only [Bool.and_eq_true] at hcj
            have hwj := hcj.1.1.1
            rw [hdj] at hwj
            simp only [beq_iff_eq] at hwj
            have hv : (actV ops vals a l).tmps[t]? = some (vals j) := by
              unfold actV
              simp only [Array.getElem?_mapIdx, Array.getElem?_eq_getElem hlt, Option.map_some, hwj]
              rw [hdl j h5]; rfl
            rw [hv]
            cases vals j <;> simp
    unfold wpOpIn
    rw [ho]
    simp only
    rw [hwant]
    cases hwv : wantedV ops vals o with
    | true =>
      rw [hwv] at hmain
      rw [if_pos rfl] at hmain ⊢
      exact Oper.wpIn_mono (fun A' W' h => by obtain ⟨rfl, hS'⟩ := h; exact hnext W' hS') hmain
    | false =>
      rw [hwv] at hmain
      rw [if_neg (by decide)] at hmain ⊢
      refine ⟨hmain.1, ?_⟩
      rw [← hmain.2]
      exact hnext W hS

theorem goV_eq (hc : chkV ops = true) : ∀ (n : Nat) (rest : List Oper) (i : Nat) (l : Array Bool), rest.length = n → i + n = ops.size → ops.toList.drop i = rest → l.size = ops.size → (∀ j, j < i → l.getD j false = true) →
    goV vals rest i (actV ops vals a l) = actV ops vals a (Array.replicate ops.size true) := by
  intro n
  induction n with
  | zero =>
    intro rest i l hn hi hr hl hall
    have : rest = [] := List.length_eq_zero_iff.1 hn
    subst this
    show actV ops vals a l = _
    have : l = Array.replicate ops.size true := by
      apply Array.ext (by simp [hl])
      intro j h1 h2
      have := hall j (by omega)
      simpa [Array.getElem?_eq_getElem h1] using this
    rw [this]
  | succ n ih =>
    intro rest i l hn hi hr hl hall
    match rest, hn with
    | o :: rest, hn =>
      have hilt : i < ops.size := by omega
      have hd := List.drop_eq_getElem_cons (l := ops.toList) (i := i) (by simpa using hilt)
      rw [hr] at hd
      simp only [List.cons.injEq] at hd
      have ho : ops[i]? = some o := by rw [Array.getElem?_eq_getElem hilt]; simp [hd.1]
      show goV vals rest (i + 1) ((actV ops vals a l).put o.dst (vals i)) = _
      rw [actV_put hc ho hl]
      refine ih rest (i + 1) _ (by simpa using hn) (by omega) hd.2.symm (by simp [hl]) ?_
      intro j hj
      by_cases e : j = i
      · subst e; simp [hl, hilt]
      · rw [getD_set_ne false (fun h => e h.symm)]; exact hall j (by omega)

/-- THE REGION. -/
theorem regionIn_valued {id : Nat} {l : List Oper} {w : World} (vals : Nat → Value) (S : World → Prop) (hm : P.follows .mixedOrders = true) (hc : chkV l.toArray = true) (hin : inV l.toArray a = true) (hS : S w.drew)
    (hop : ∀ i o, l[i]? = some o → ∀ (A : Act) (W : World), S W → (∀ t, t ∈ readsOf o → A.tmps.getD t undef = lookV l.toArray vals a o t) → A.defers = a.defers →
      if wantedV l.toArray vals o = true then o.wpIn F 0 P A W (fun A' W' => A' = A.put o.dst (vals i) ∧ S W') Q else ((∀ f, o.about P W A.eval = some f → F.fn f) ∧ vals i = undef))
    (hQ : ∀ W, S W → Q .normal (goV vals l 0 a) W) : (Code.region id l.toArray true).wpIn F 0 P Q a w := by
  refine wpIn_region_any hm ?_
  have h := anyIn_valued (F := F) (P := P) (ops := l.toArray) (vals := vals) (a := a) (S := S) (Q := Q) hc hin (fun i o ho => hop i o (by simpa using ho))
    (fun W hW => by
      have := goV_eq (ops := l.toArray) (vals := vals) (a := a) hc l.length l 0 (Array.replicate l.toArray.size false) rfl (by simp) (by simp) (by simp) (fun j hj => by omega)
      rw [actV_none] at this
      rw [← this]; exact hQ W hW)
    l.toArray.size (Array.replicate l.toArray.size false) w.drew (by simp) (fun j o _ hj => by
      rw [rep_false] at hj; cases hj) (fun _ _ _ => trivial) (Nat.le_trans (List.length_filter_le _ _) (by simp)) hS
  rw [actV_none] at h
  exact h
end
end Go.Proofs.Ytkbagfpoegfcaaa

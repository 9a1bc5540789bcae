/- A region that draws its order, walked once in the text's order: each operation comes to one value in every world that meets a condition on what is done, and keeps that condition. Condition: no two operations write one slot; what an operation reads is written ahead of it by an edge, or behind it by one. -/
import Derived.Test.YtkbagfpoegfcaaaRs
namespace Go.Proofs.Ytkbagfpoegfcaaa
open Go.RowKit Go.Conc

/-- What an operation gives, carried out in the world W. -/
def Oper.gives (F : Fence) (P : Program) (o : Oper) (ρ : Operand → Value) (W : World) (T : Value → World → Prop) : Prop := match (execOp ρ o).run P W with
  | .ok (.value v) W' => T v W'
  | .ok .skip W' => T undef W'
  | .ok (.enter f args) W' => CallsIn F 0 P f args W' fun e W'' => ∃ v, e = .returned v ∧ T v W''
  | _ => False

/-- One more is done. -/
def more (d : Nat → Bool) (i : Nat) : Nat → Bool := fun j => if j = i then true else d j
theorem more_same (d : Nat → Bool) (i : Nat) : more d i i = true := if_pos rfl
theorem more_other (d : Nat → Bool) {i j : Nat} (h : j ≠ i) : more d i j = d j := if_neg h

/-- What stands of the order when operation i comes up. -/
structure Turn (ops : Array Oper) (o : Oper) (i : Nat) (d : Nat → Bool) : Prop where
  not : d i = false
  dep : ∀ j, depOn o j = true → d j = true
  later : ∀ j oj, ops[j]? = some oj → depOn oj i = true → d j = false

/-- THE WALK IN THE TEXT's ORDER. -/
def SeqR (F : Fence) (P : Program) (ops : Array Oper) (S : (Nat → Bool) → World → Prop) (Q : Exit → Act → World → Prop) : List Oper → Nat → Act → Prop
  | [], i, A => ∀ W, S (fun j => decide (j < i)) W → Q .normal A W
  | o :: rest, i, A => ∃ v, (∀ d W, S d W → Turn ops o i d →
      if Region.wanted o (yielded ops A.tmps) = true then Oper.gives F P o A.eval W (fun u W' => u = v ∧ S (more d i) W') else (v = undef ∧ S (more d i) W)) ∧
      SeqR F P ops S Q rest (i + 1) (A.put o.dst v)

section
variable {F : Fence} {P : Program} {ops : Array Oper} {Q : Exit → Act → World → Prop} {S : (Nat → Bool) → World → Prop}

theorem SeqR.nil {i : Nat} {A : Act} (h : ∀ W, S (fun j => decide (j < i)) W → Q .normal A W) : SeqR F P ops S Q [] i A := h
theorem SeqR.step {o : Oper} {rest : List Oper} {i : Nat} {A : Act} (v : Value) (hw : Region.wanted o (yielded ops A.tmps) = true)
    (h : ∀ d W, S d W → Turn ops o i d → Oper.gives F P o A.eval W (fun u W' => u = v ∧ S (more d i) W'))
    (hr : SeqR F P ops S Q rest (i + 1) (A.put o.dst v)) : SeqR F P ops S Q (o :: rest) i A :=
  ⟨v, fun d W hS ht => by rw [if_pos hw]; exact h d W hS ht, hr⟩
theorem SeqR.pass {o : Oper} {rest : List Oper} {i : Nat} {A : Act} (hw : Region.wanted o (yielded ops A.tmps) = false)
    (h : ∀ d W, S d W → Turn ops o i d → S (more d i) W)
    (hr : SeqR F P ops S Q rest (i + 1) (A.put o.dst undef)) : SeqR F P ops S Q (o :: rest) i A :=
  ⟨undef, fun d W hS ht => by rw [if_neg (by rw [hw]; decide)]; exact ⟨rfl, h d W hS ht⟩, hr⟩

/-- From what it gives to the walk's own word. -/
theorem wpIn_of_gives (hfn : ∀ f, F.fn f) (hdp : F.depth = none) {o : Oper} {A : Act} {W : World} {ρ : Operand → Value} {T : Value → World → Prop} {next : Act → World → Prop} (hd : ∀ c, o.op ≠ .defer c) (hρ : execOp A.eval o = execOp ρ o)
    (h : Oper.gives F P o ρ W T) (hn : ∀ v W', T v W' → next (A.put o.dst v) W') : o.wpIn F 0 P A W next Q := by
  refine ⟨fun f _ => hfn f, ?_⟩
  rw [Oper.semAt_eq _ _ _ hd, hρ]
  unfold Oper.gives at h
  generalize (execOp ρ o).run P W = r at h
  cases r with
  | ok x w' =>
    cases x <;> simp only at h <;> first | exact h.elim | exact hn _ _ h | skip
    rename_i f args
    refine ⟨(fun h => by rw [hdp] at h; cases h), CallsIn.mono h ?_⟩
    rintro e W'' ⟨v, rfl, ht⟩
    exact hn _ _ ht
  | halt x w' => exact h.elim

/-- No operation is put off or chooses. -/
def plainOp (o : Oper) : Bool := match o.op with | .defer _ => false | .select _ _ => false | _ => true

/-- The values that a walk found. -/
theorem SeqR.vals (hc : chkV ops = true) {a : Act} : ∀ (n : Nat) (rest : List Oper) (i : Nat) (vals0 : Nat → Value), rest.length = n → i + n = ops.size → ops.toList.drop i = rest →
    SeqR F P ops S Q rest i (actV ops vals0 a ((Array.range ops.size).map fun j => decide (j < i))) →
    ∃ vals : Nat → Value, (∀ j, j < i → vals j = vals0 j) ∧
      (∀ k o, i ≤ k → ops[k]? = some o → ∀ d W, S d W → Turn ops o k d →
        if Region.wanted o (yielded ops (actV ops vals a ((Array.range ops.size).map fun j => decide (j < k))).tmps) = true then
          Oper.gives F P o (actV ops vals a ((Array.range ops.size).map fun j => decide (j < k))).eval W (fun u W' => u = vals k ∧ S (more d k) W') else (vals k = undef ∧ S (more d k) W)) ∧
      ∀ W, S (fun j => decide (j < ops.size)) W → Q .normal (actV ops vals a ((Array.range ops.size).map fun j => decide (j < ops.size))) W := by
  have hcong : ∀ (v1 v2 : Nat → Value) (k : Nat), (∀ j, j < k → v1 j = v2 j) → actV ops v1 a ((Array.range ops.size).map fun j => decide (j < k)) = actV ops v2 a ((Array.range ops.size).map fun j => decide (j < k)) := by
    intro v1 v2 k hk
    unfold actV
    congr 1
    apply Array.ext (by simp)
    intro t h1 h2
    simp only [Array.getElem_mapIdx]
    cases wrOf ops t with
    | none => rfl
    | some j =>
      simp only
      by_cases hj : j < ops.size
      · by_cases hjk : j < k
        · rw [hk j hjk]
        · simp [Array.getD, hj, hjk]
      · simp [Array.getD, hj]
  intro n
  induction n with
  | zero =>
    intro rest i vals0 hl hi hr h
    have : rest = [] := List.length_eq_zero_iff.1 hl
    subst this
    have e : i = ops.size := by omega
    subst e
    exact ⟨vals0, fun _ _ => rfl, fun k o hk ho => absurd (Array.getElem?_eq_some_iff.1 ho).1 (by omega), h⟩
  | succ n ih =>
    intro rest i vals0 hl hi hr h
    match rest, hl with
    | o :: rest, hl =>
      obtain ⟨v, h1, h2⟩ := h
      have hilt : i < ops.size := by omega
      have hd := List.drop_eq_getElem_cons (l := ops.toList) (i := i) (by simpa using hilt)
      rw [hr] at hd
      simp only [List.cons.injEq] at hd
      have ho : ops[i]? = some o := by rw [Array.getElem?_eq_getElem hilt]; simp [hd.1]
      have hset : ((Array.range ops.size).map fun j => decide (j < i)).setIfInBounds i true = (Array.range ops.size).map fun j => decide (j < i + 1) := by
        apply Array.ext (by simp)
        intro j g1 g2
        by_cases e : i = j
        · subst e; simp
        · rw [Array.getElem_setIfInBounds_ne (by simpa using g1) (h := e)]
          have : (j < i) ↔ (j < i + 1) := by omega
          simp [this]
      rw [actV_put2 hc ho (by simp), hset] at h2
      obtain ⟨vals, g1, g2, g3⟩ := ih rest (i + 1) (updV vals0 i v) (by simpa using hl) (by omega) hd.2.symm h2
      have hv : vals i = v := (g1 i (by omega)).trans (updV_same _ _ _)
      have hlow : ∀ j, j < i → vals j = vals0 j := fun j hj => (g1 j (by omega)).trans (updV_other _ _ (by omega))
      refine ⟨vals, hlow, ?_, g3⟩
      intro k o' hk ho' d W hS ht
      by_cases e : k = i
      · subst e
        rw [ho] at ho'; cases ho'
        have := h1 d W hS ht
        rw [hcong vals vals0 k hlow, hv]
        exact this
      · exact g2 k o' (by omega) ho' d W hS ht

/-- THE REGION. -/
theorem regionIn_seq {id : Nat} {l : List Oper} {a : Act} {w : World} (S : (Nat → Bool) → World → Prop) (hm : P.follows .mixedOrders = true) (hc : chkV l.toArray = true) (hin : inV l.toArray a = true) (hpl : l.all plainOp = true)
    (hfn : ∀ f, F.fn f) (hdp : F.depth = none) (hS : S (fun _ => false) w.drew)
    (h : SeqR F P l.toArray S Q l 0 a) : (Code.region id l.toArray true).wpIn F 0 P Q a w := by
  have h0 : (Array.range l.toArray.size).map (fun j => decide (j < 0)) = Array.replicate l.toArray.size false := by
    apply Array.ext (by simp)
    intro j g1 g2
    simp
  obtain ⟨vals, -, g2, g3⟩ := SeqR.vals (F := F) (P := P) (S := S) (Q := Q) (ops := l.toArray) (a := a) hc l.length l 0 (fun _ => undef) rfl (by simp) (by simp) (by rw [h0, actV_none]; exact h)
  refine regionIn_stated (S := fun dd vs W => S (fun j => dd.getD j false) W ∧ ∀ j, dd.getD j false = true → vs j = vals j) (fun _ => undef) hm hc hin ?_ ?_ ?_
  · refine ⟨?_, fun j hj => ?_⟩
    · have : (fun j => (Array.replicate l.length false).getD j false) = fun _ => false := by funext j; exact rep_false _ _
      rw [this]; exact hS
    · rw [rep_false] at hj; cases hj
  · rintro i o ho dd vs A W hsz ⟨hSd, hvs⟩ hj hcl hdep hA hdf
    have ho' : l.toArray[i]? = some o := by simpa using ho
    have hi2 : i < l.toArray.size := (Array.getElem?_eq_some_iff.1 ho').1
    have hmore : (fun j => (dd.setIfInBounds i true).getD j false) = more (fun j => dd.getD j false) i := by
      funext j
      unfold more
      by_cases e : j = i
      · subst e; rw [if_pos rfl, done_same (by rw [hsz]; simpa using hi2)]
      · rw [if_neg e, done_other e]
    have hturn : Turn l.toArray o i (fun j => dd.getD j false) := ⟨hj, hdep, fun j oj hoj hd => not_later hcl hoj hd hj⟩
    have hci := (List.all_eq_true.1 hc) i (List.mem_range.2 hi2)
    rw [ho'] at hci
    simp only [Bool.and_eq_true] at hci
    have hback : ∀ j, depOn o j = true → j < i := by
      intro j hd
      unfold depOn at hd
      rw [← Array.any_toList, List.any_eq_true] at hd
      obtain ⟨e, he, hb⟩ := hd
      rw [Array.mem_toList_iff] at he
      simp only [Bool.and_eq_true, beq_iff_eq] at hb
      have h2 := hci.1.1.2
      rw [Array.all_eq_true_iff_forall_mem] at h2
      have h3 := h2 e he
      simp only [hb.1, Bool.not_true, Bool.false_or, decide_eq_true_eq] at h3
      rw [← hb.2]; exact h3
    have hpre : ∀ j, ((Array.range l.toArray.size).map fun j => decide (j < i)).getD j false = decide (j < i) := by
      intro j
      by_cases hj : j < l.toArray.size
      · simp [Array.getD] at hj ⊢; simp [hj]
      · have : ¬ j < i := by omega
        simp [Array.getD] at hj ⊢
        simp [this]
    have hlook : ∀ t, t ∈ readsOf o → A.tmps.getD t undef = (actV l.toArray vals a ((Array.range l.toArray.size).map fun j => decide (j < i))).tmps.getD t undef := by
      intro t ht
      rw [hA t ht, actV_get]
      unfold lookV
      have h4 := (List.all_eq_true.1 hci.2) t ht
      cases hwr : wrOf l.toArray t with
      | none => rfl
      | some j =>
        rw [hwr] at h4
        simp only at h4 ⊢
        rw [hpre]
        cases hd : depOn o j with
        | true =>
          rw [if_pos rfl, if_pos (by simpa using hback j hd)]
          have hf := List.find?_some hwr
          cases hoj : l.toArray[j]? with
          | none => rw [hoj] at hf; simp at hf
          | some oj =>
            rw [hoj] at hf
            simp only [Option.bind_some, beq_iff_eq] at hf
            have hlt : t < a.tmps.size := by
              have := (List.all_eq_true.1 hin) oj (by rw [Array.mem_toList_iff]; exact Array.mem_of_getElem? hoj)
              rw [hf] at this; simpa using this
            rw [if_pos hlt]; exact hvs j (hdep j hd)
        | false =>
          rw [hd] at h4
          simp only [Bool.false_or] at h4
          cases hoj : l.toArray[j]? with
          | none => rw [hoj] at h4; simp at h4
          | some oj =>
            rw [hoj] at h4
            have hij : i < j := by
              have hj2 : j < l.toArray.size := (Array.getElem?_eq_some_iff.1 hoj).1
              have hcj := (List.all_eq_true.1 hc) j (List.mem_range.2 hj2)
              rw [hoj] at hcj
              simp only [Bool.and_eq_true] at hcj
              have h4' : depOn oj i = true := h4
              unfold depOn at h4'
              rw [← Array.any_toList, List.any_eq_true] at h4'
              obtain ⟨e, he, hb⟩ := h4'
              rw [Array.mem_toList_iff] at he
              simp only [Bool.and_eq_true, beq_iff_eq] at hb
              have h2 := hcj.1.1.2
              rw [Array.all_eq_true_iff_forall_mem] at h2
              have h3 := h2 e he
              simp only [hb.1, Bool.not_true, Bool.false_or, decide_eq_true_eq] at h3
              rw [← hb.2]; exact h3
            rw [if_neg (by decide), if_neg (by simp; omega)]
    have hrun : execOp A.eval o = execOp (actV l.toArray vals a ((Array.range l.toArray.size).map fun j => decide (j < i))).eval o := by
      have hp := (List.all_eq_true.1 hpl) o (List.mem_of_getElem? ho)
      refine execOp_congr o (fun cs b e => by unfold plainOp at hp; rw [e] at hp; cases hp) fun x hx => ?_
      cases x with
      | tmp t => exact hlook t (List.mem_filterMap.2 ⟨.tmp t, by simpa using hx, rfl⟩)
      | _ => rfl
    have hwant : wantedV l.toArray vs o = Region.wanted o (yielded l.toArray (actV l.toArray vals a ((Array.range l.toArray.size).map fun j => decide (j < i))).tmps) := by
      unfold Region.wanted wantedV
      cases hg : o.guard with
      | none => rfl
      | some jw =>
        obtain ⟨j, want⟩ := jw
        have h5 := hci.1.2
        rw [hg] at h5
        simp only at h5 ⊢
        unfold yielded
        cases hoj : l.toArray[j]? with
        | none => rfl
        | some oj =>
          simp only [Option.bind_some]
          cases hdj : oj.dst with
          | none => rfl
          | some t =>
            simp only [Option.bind_some]
            have hlt : t < a.tmps.size := by
              have := (List.all_eq_true.1 hin) oj (by rw [Array.mem_toList_iff]; exact Array.mem_of_getElem? hoj)
              rw [hdj] at this; simpa using this
            have hj2 : j < l.toArray.size := (Array.getElem?_eq_some_iff.1 hoj).1
            have hcj := (List.all_eq_true.1 hc) j (List.mem_range.2 hj2)
            rw [hoj] at hcj
            simp only [Bool.and_eq_true] at hcj
            have hwj := hcj.1.1.1
            rw [hdj] at hwj
            simp only [beq_iff_eq] at hwj
            have hv : (actV l.toArray vals a ((Array.range l.toArray.size).map fun j => decide (j < i))).tmps[t]? = some (vs j) := by
              unfold actV
              simp only [Array.getElem?_mapIdx, Array.getElem?_eq_getElem hlt, Option.map_some, hwj]
              rw [hpre, if_pos (by simpa using hback j h5), hvs j (hdep j h5)]
            rw [hv]
            cases vs j <;> simp
    have hstep := g2 i o (Nat.zero_le _) ho' _ W hSd hturn
    have hp := (List.all_eq_true.1 hpl) o (List.mem_of_getElem? ho)
    have hvs' : ∀ (vs2 : Nat → Value) (v : Value), v = vals i → (∀ j, dd.getD j false = true → vs2 j = vals j) → ∀ j, (dd.setIfInBounds i true).getD j false = true → updV vs2 i v j = vals j := by
      intro vs2 v hv h2 j hj
      by_cases e : j = i
      · subst e; rw [updV_same]; exact hv
      · rw [updV_other _ _ e]; rw [done_other e] at hj; exact h2 j hj
    rw [← hwant] at hstep
    cases hwv : wantedV l.toArray vs o with
    | true =>
      rw [hwv, if_pos rfl] at hstep
      rw [if_pos rfl]
      refine wpIn_of_gives hfn hdp (fun c e => by unfold plainOp at hp; rw [e] at hp; cases hp) hrun hstep ?_
      rintro v W' ⟨hv, hS'⟩
      exact ⟨v, rfl, by rw [hmore]; exact hS', hvs' vs v hv hvs⟩
    | false =>
      rw [hwv, if_neg (by decide)] at hstep
      rw [if_neg (by decide)]
      exact ⟨fun f _ => hfn f, by rw [hmore]; exact hstep.2, hvs' vs undef hstep.1.symm hvs⟩
  · rintro vs W ⟨hSd, hvs⟩
    have e1 : (fun j => (Array.replicate l.length true).getD j false) = fun j => decide (j < l.toArray.size) := by
      funext j
      by_cases hj : j < l.length
      · simp [Array.getD, hj]
      · simp [Array.getD, hj]
    rw [e1] at hSd
    have hq := g3 W hSd
    have e2 : ∀ j, j < l.length → vs j = vals j := fun j hj => hvs j (by simp [Array.getD, hj])
    have e3 := goV_eq (ops := l.toArray) (vals := vs) (a := a) hc l.length l 0 (Array.replicate l.toArray.size false) rfl (by simp) (by simp) (by simp) (fun j hj => by omega)
    rw [actV_none] at e3
    rw [e3]
    have e4 : actV l.toArray vs a (Array.replicate l.toArray.size true) = actV l.toArray vals a ((Array.range l.toArray.size).map fun j => decide (j < l.toArray.size)) := by
      unfold actV
      congr 1
      apply Array.ext (by simp)
      intro t h1 h2
      simp only [Array.getElem_mapIdx]
      cases wrOf l.toArray t with
      | none => rfl
      | some j =>
        simp only
        by_cases hj : j < l.length
        · simp [Array.getD, hj, e2 j hj]
        · simp [Array.getD, hj]
    rw [e4]; exact hq
end
end Go.Proofs.Ytkbagfpoegfcaaa

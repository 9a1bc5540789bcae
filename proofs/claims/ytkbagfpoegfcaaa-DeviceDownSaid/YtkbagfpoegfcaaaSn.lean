/- A region that draws its order, walked once in the text's order, where some operations (calls) come to values that are not known ahead. Condition: as in Sq. -/
import Derived.Test.YtkbagfpoegfcaaaSr
namespace Go.Proofs.Ytkbagfpoegfcaaa
open Go.RowKit Go.Conc

/-- The values: of the operations that N picks what vs says, else what K says. -/
def mixv (N : Nat → Bool) (K vs : Nat → Value) : Nat → Value := fun j => if N j then vs j else K j
theorem mixv_at {N : Nat → Bool} {K vs : Nat → Value} {j : Nat} : mixv N K vs j = if N j then vs j else K j := rfl
/-- What holds may speak of the values that were found, of those alone that are done. -/
def Loc (N : Nat → Bool) (S : (Nat → Value) → (Nat → Bool) → World → Prop) : Prop := ∀ vs vs' d W, S vs d W → (∀ j, d j = true → N j = true → vs' j = vs j) → S vs' d W
/-- THE WALK IN THE TEXT's ORDER. -/
def SeqN (N : Nat → Bool) (F : Fence) (P : Program) (ops : Array Oper) (S : (Nat → Value) → (Nat → Bool) → World → Prop) (Q : Exit → Act → World → Prop) : List Oper → Nat → ((Nat → Value) → Act) → Prop
  | [], i, A => ∀ vs W, S vs (fun j => decide (j < i)) W → Q .normal (A vs) W
  | o :: rest, i, A =>
    (N i = false ∧ ∃ v, (∀ vs d W, S vs d W → Turn ops o i d → Cl ops d →
      if Region.wanted o (yielded ops (A vs).tmps) = true then Oper.gives F P o (A vs).eval W (fun u W' => u = v ∧ S vs (more d i) W') else (v = undef ∧ S vs (more d i) W)) ∧
      SeqN N F P ops S Q rest (i + 1) (fun vs => (A vs).put o.dst v)) ∨
    (N i = true ∧ (∀ vs d W, S vs d W → Turn ops o i d → Cl ops d →
      (Region.wanted o (yielded ops (A vs).tmps) = true ∧ Oper.gives F P o (A vs).eval W (fun u W' => ∀ vs', (∀ j, d j = true → vs' j = vs j) → vs' i = u → S vs' (more d i) W'))) ∧
      SeqN N F P ops S Q rest (i + 1) (fun vs => (A vs).put o.dst (vs i)))
section
variable {N : Nat → Bool} {F : Fence} {P : Program} {ops : Array Oper} {Q : Exit → Act → World → Prop} {S : (Nat → Value) → (Nat → Bool) → World → Prop}
theorem SeqN.nil {i : Nat} {A : (Nat → Value) → Act} (h : ∀ vs W, S vs (fun j => decide (j < i)) W → Q .normal (A vs) W) : SeqN N F P ops S Q [] i A := h
theorem SeqN.step {o : Oper} {rest : List Oper} {i : Nat} {A : (Nat → Value) → Act} (hN : N i = false) (v : Value) (hw : ∀ vs, Region.wanted o (yielded ops (A vs).tmps) = true)
    (h : ∀ vs d W, S vs d W → Turn ops o i d → Cl ops d → Oper.gives F P o (A vs).eval W (fun u W' => u = v ∧ S vs (more d i) W'))
    (hr : SeqN N F P ops S Q rest (i + 1) (fun vs => (A vs).put o.dst v)) : SeqN N F P ops S Q (o :: rest) i A :=
  .inl ⟨hN, v, fun vs d W hS ht hc => by rw [if_pos (hw vs)]; exact h vs d W hS ht hc, hr⟩
theorem SeqN.any {o : Oper} {rest : List Oper} {i : Nat} {A : (Nat → Value) → Act} (hN : N i = true) (hw : ∀ vs, Region.wanted o (yielded ops (A vs).tmps) = true)
    (h : ∀ vs d W, S vs d W → Turn ops o i d → Cl ops d → Oper.gives F P o (A vs).eval W (fun u W' => ∀ vs', (∀ j, d j = true → vs' j = vs j) → vs' i = u → S vs' (more d i) W'))
    (hr : SeqN N F P ops S Q rest (i + 1) (fun vs => (A vs).put o.dst (vs i))) : SeqN N F P ops S Q (o :: rest) i A :=
  .inr ⟨hN, fun vs d W hS ht hc => ⟨hw vs, h vs d W hS ht hc⟩, hr⟩
/-- The values that a walk found. -/
theorem SeqN.vals (hc : chkV ops = true) {a : Act} : ∀ (n : Nat) (rest : List Oper) (i : Nat) (K0 : Nat → Value), rest.length = n → i + n = ops.size → ops.toList.drop i = rest →
    SeqN N F P ops S Q rest i (fun vs => actV ops (mixv N K0 vs) a ((Array.range ops.size).map fun j => decide (j < i))) →
    ∃ K : Nat → Value, (∀ j, j < i → K j = K0 j) ∧
      (∀ k o, i ≤ k → ops[k]? = some o → ∀ vs d W, S vs d W → Turn ops o k d → Cl ops d →
        if N k = true then
          (Region.wanted o (yielded ops (actV ops (mixv N K vs) a ((Array.range ops.size).map fun j => decide (j < k))).tmps) = true ∧
          Oper.gives F P o (actV ops (mixv N K vs) a ((Array.range ops.size).map fun j => decide (j < k))).eval W (fun u W' => ∀ vs', (∀ j, d j = true → vs' j = vs j) → vs' k = u → S vs' (more d k) W'))
        else if Region.wanted o (yielded ops (actV ops (mixv N K vs) a ((Array.range ops.size).map fun j => decide (j < k))).tmps) = true then
          Oper.gives F P o (actV ops (mixv N K vs) a ((Array.range ops.size).map fun j => decide (j < k))).eval W (fun u W' => u = K k ∧ S vs (more d k) W') else (K k = undef ∧ S vs (more d k) W)) ∧
      ∀ vs W, S vs (fun j => decide (j < ops.size)) W → Q .normal (actV ops (mixv N K vs) a ((Array.range ops.size).map fun j => decide (j < ops.size))) W := by
  have hcong : ∀ (v1 v2 : Nat → Value) (k : Nat), (∀ j, j < k → v1 j = v2 j) → actV ops v1 a ((Array.range ops.size).map fun j => decide (j < k)) = actV ops v2 a ((Array.range ops.size).map fun j => decide (j < k)) := by
    intro v1 v2 k hk
    unfold actV
    congr 1
    apply Array.ext (by simp)
    intro t h1 h2
    simp only [Array.getElem_mapIdx]
    cases wrOf ops t with
    | none => rfl
    | some j =>
      simp only
      by_cases hj : j < ops.size
      · by_cases hjk : j < k
        · rw [hk j hjk]
        · simp [Array.getD, hj, hjk]
      · simp [Array.getD, hj]
  intro n
  induction n with
  | zero =>
    intro rest i K0 hl hi hr h
    have : rest = [] := List.length_eq_zero_iff.1 hl
    subst this
    have e : i = ops.size := by omega
    subst e
    exact ⟨K0, fun _ _ => rfl, fun k o hk ho => absurd (Array.getElem?_eq_some_iff.1 ho).1 (by omega), h⟩
  | succ n ih =>
    intro rest i K0 hl hi hr h
    match rest, hl with
    | o :: rest, hl =>
      have hilt : i < ops.size := by omega
      have hd := List.drop_eq_getElem_cons (l := ops.toList) (i := i) (by simpa using hilt)
      rw [hr] at hd
      simp only [List.cons.injEq] at hd
      have ho : ops[i]? = some o := by rw [Array.getElem?_eq_getElem hilt]; simp [hd.1]
      have hset : ((Array.range ops.size).map fun j => decide (j < i)).setIfInBounds i true = (Array.range ops.size).map fun j => decide (j < i + 1) := by
        apply Array.ext (by simp)
        intro j g1 g2
        by_cases e : i = j
        · subst e; simp
        · rw [Array.getElem_setIfInBounds_ne (by simpa using g1) (h := e)]
          have : (j < i) ↔ (j < i + 1) := by omega
          simp [this]
      -- one more value
      have next : ∀ (v : (Nat → Value) → Value) (Kv : Value), (∀ vs, v vs = if N i then vs i else Kv) →
          (fun vs => (actV ops (mixv N K0 vs) a ((Array.range ops.size).map fun j => decide (j < i))).put o.dst (v vs)) =
          (fun vs => actV ops (mixv N (updV K0 i Kv) vs) a ((Array.range ops.size).map fun j => decide (j < i + 1))) := by
        intro v Kv hv
        funext vs
        rw [actV_put2 hc ho (by simp), hset]
        refine hcong _ _ (i + 1) (fun j hj => ?_)
        by_cases e : j = i
        · subst e
          rw [updV_same, hv vs, mixv_at, updV_same]
        · rw [updV_other _ _ e, mixv_at, mixv_at, updV_other _ _ e]
      rcases h with ⟨hN, v, h1, h2⟩ | ⟨hN, h1, h2⟩
      · rw [next (fun _ => v) v (fun _ => by simp [hN])] at h2
        obtain ⟨K, g1, g2, g3⟩ := ih rest (i + 1) _ (by simpa using hl) (by omega) hd.2.symm h2
        have hKi : K i = v := (g1 i (by omega)).trans (updV_same _ _ _)
        have hlow : ∀ j, j < i → K j = K0 j := fun j hj => (g1 j (by omega)).trans (updV_other _ _ (by omega))
        refine ⟨K, hlow, ?_, g3⟩
        intro k o' hk ho' vs d W hS ht hcl
        by_cases e : k = i
        · subst e
          rw [ho] at ho'; cases ho'
          have := h1 vs d W hS ht hcl
          rw [hN, if_neg (by decide), hcong (mixv N K vs) (mixv N K0 vs) k (fun j hj => by rw [mixv_at, mixv_at, hlow j hj]), hKi]
          exact this
        · exact g2 k o' (by omega) ho' vs d W hS ht hcl
      · rw [next (fun vs => vs i) undef (fun _ => by simp [hN])] at h2
        obtain ⟨K, g1, g2, g3⟩ := ih rest (i + 1) _ (by simpa using hl) (by omega) hd.2.symm h2
        have hlow : ∀ j, j < i → K j = K0 j := fun j hj => (g1 j (by omega)).trans (updV_other _ _ (by omega))
        refine ⟨K, hlow, ?_, g3⟩
        intro k o' hk ho' vs d W hS ht hcl
        by_cases e : k = i
        · subst e
          rw [ho] at ho'; cases ho'
          have := h1 vs d W hS ht hcl
          rw [hN, if_pos rfl, hcong (mixv N K vs) (mixv N K0 vs) k (fun j hj => by rw [mixv_at, mixv_at, hlow j hj])]
          exact this
        · exact g2 k o' (by omega) ho' vs d W hS ht hcl
/-- THE REGION. -/
theorem regionIn_seqN {id : Nat} {l : List Oper} {a : Act} {w : World} (N : Nat → Bool) (S : (Nat → Value) → (Nat → Bool) → World → Prop) (hm : P.follows .mixedOrders = true) (hc : chkV l.toArray = true) (hin : inV l.toArray a = true) (hpl : l.all plainOp = true)
    (hfn : ∀ f, F.fn f) (hdp : F.depth = none) (hloc : Loc N S) (hS : ∀ vs, S vs (fun _ => false) w.drew)
    (h : SeqN N F P l.toArray S Q l 0 (fun _ => a)) : (Code.region id l.toArray true).wpIn F 0 P Q a w := by
  have h0 : (Array.range l.toArray.size).map (fun j => decide (j < 0)) = Array.replicate l.toArray.size false := by
    apply Array.ext (by simp)
    intro j g1 g2
    simp
  obtain ⟨K, -, g2, g3⟩ := SeqN.vals (N := N) (F := F) (P := P) (S := S) (Q := Q) (ops := l.toArray) (a := a) hc l.length l 0 (fun _ => undef) rfl (by simp) (by simp) (by
    rw [h0]
    have e : (fun vs => actV l.toArray (mixv N (fun _ => undef) vs) a (Array.replicate l.toArray.size false)) = fun _ => a := by funext vs; exact actV_none
    rw [e]; exact h)
  refine regionIn_stated (S := fun dd vs W => (S vs (fun j => dd.getD j false) W ∧ Cl l.toArray (fun j => dd.getD j false)) ∧ ∀ j, dd.getD j false = true → N j = false → vs j = K j) (fun _ => undef) hm hc hin ?_ ?_ ?_
  · have e : (fun j => (Array.replicate l.length false).getD j false) = fun _ => false := by funext j; exact rep_false _ _
    refine ⟨⟨by rw [e]; exact hS _, fun j oj _ hj => ?_⟩, fun j hj => ?_⟩
    · have hj' : (Array.replicate l.length false).getD j false = true := hj
      rw [rep_false] at hj'; cases hj'
    · rw [rep_false] at hj; cases hj
  · rintro i o ho dd vs A W hsz ⟨⟨hSd, hCl⟩, hvs⟩ hj hcl hdep hA hdf
    have ho' : l.toArray[i]? = some o := by simpa using ho
    have hi2 : i < l.toArray.size := (Array.getElem?_eq_some_iff.1 ho').1
    have hmore : (fun j => (dd.setIfInBounds i true).getD j false) = more (fun j => dd.getD j false) i := by
      funext j
      unfold more
      by_cases e : j = i
      · subst e; rw [if_pos rfl, done_same (by rw [hsz]; simpa using hi2)]
      · rw [if_neg e, done_other e]
    have hturn : Turn l.toArray o i (fun j => dd.getD j false) := ⟨hj, hdep, fun j oj hoj hd => not_later hcl hoj hd hj⟩
    have hCl2 : Cl l.toArray (fun j => (dd.setIfInBounds i true).getD j false) := by rw [hmore]; exact hCl.more ho' hturn
    have hci := (List.all_eq_true.1 hc) i (List.mem_range.2 hi2)
    rw [ho'] at hci
    simp only [Bool.and_eq_true] at hci
    have hval : ∀ j, dd.getD j false = true → vs j = mixv N K vs j := by
      intro j hd
      rw [mixv_at]
      cases hN : N j with
      | true => rfl
      | false => rw [if_neg (by decide)]; exact hvs j hd hN
    have hback : ∀ j, depOn o j = true → j < i := by
      intro j hd
      unfold depOn at hd
      rw [← Array.any_toList, List.any_eq_true] at hd
      obtain ⟨e, he, hb⟩ := hd
      rw [Array.mem_toList_iff] at he
      simp only [Bool.and_eq_true, beq_iff_eq] at hb
      have h2 := hci.1.1.2
      rw [Array.all_eq_true_iff_forall_mem] at h2
      have h3 := h2 e he
      simp only [hb.1, Bool.not_true, Bool.false_or, decide_eq_true_eq] at h3
      rw [← hb.2]; exact h3
    have hpre : ∀ j, ((Array.range l.toArray.size).map fun j => decide (j < i)).getD j false = decide (j < i) := by
      intro j
      by_cases hj : j < l.toArray.size
      · simp [Array.getD] at hj ⊢; simp [hj]
      · have : ¬ j < i := by omega
        simp [Array.getD] at hj ⊢
        simp [this]
    have hlook : ∀ t, t ∈ readsOf o → A.tmps.getD t undef = (actV l.toArray (mixv N K vs) a ((Array.range l.toArray.size).map fun j => decide (j < i))).tmps.getD t undef := by
      intro t ht
      rw [hA t ht, actV_get]
      unfold lookV
      have h4 := (List.all_eq_true.1 hci.2) t ht
      cases hwr : wrOf l.toArray t with
      | none => rfl
      | some j =>
        rw [hwr] at h4
        simp only at h4 ⊢
        rw [hpre]
        cases hd : depOn o j with
        | true =>
          rw [if_pos rfl, if_pos (by simpa using hback j hd)]
          have hf := List.find?_some hwr
          cases hoj : l.toArray[j]? with
          | none => rw [hoj] at hf; simp at hf
          | some oj =>
            rw [hoj] at hf
            simp only [Option.bind_some, beq_iff_eq] at hf
            have hlt : t < a.tmps.size := by
              have := (List.all_eq_true.1 hin) oj (by rw [Array.mem_toList_iff]; exact Array.mem_of_getElem? hoj)
              rw [hf] at this; simpa using this
            rw [if_pos hlt]; exact hval j (hdep j hd)
        | false =>
          rw [hd] at h4
          simp only [Bool.false_or] at h4
          cases hoj : l.toArray[j]? with
          | none => rw [hoj] at h4; simp at h4
          | some oj =>
            rw [hoj] at h4
            have hij : i < j := by
              have hj2 : j < l.toArray.size := (Array.getElem?_eq_some_iff.1 hoj).1
              have hcj := (List.all_eq_true.1 hc) j (List.mem_range.2 hj2)
              rw [hoj] at hcj
              simp only [Bool.and_eq_true] at hcj
              have h4' : depOn oj i = true := h4
              unfold depOn at h4'
              rw [← Array.any_toList, List.any_eq_true] at h4'
              obtain ⟨e, he, hb⟩ := h4'
              rw [Array.mem_toList_iff] at he
              simp only [Bool.and_eq_true, beq_iff_eq] at hb
              have h2 := hcj.1.1.2
              rw [Array.all_eq_true_iff_forall_mem] at h2
              have h3 := h2 e he
              simp only [hb.1, Bool.not_true, Bool.false_or, decide_eq_true_eq] at h3
              rw [← hb.2]; exact h3
            rw [if_neg (by decide), if_neg (by simp; omega)]
    have hrun : execOp A.eval o = execOp (actV l.toArray (mixv N K vs) a ((Array.range l.toArray.size).map fun j => decide (j < i))).eval o := by
      have hp := (List.all_eq_true.1 hpl) o (List.mem_of_getElem? ho)
      refine execOp_congr o (fun cs b e => by unfold plainOp at hp; rw [e] at hp; cases hp) fun x hx => ?_
      cases x with
      | tmp t => exact hlook t (List.mem_filterMap.2 ⟨.tmp t, by simpa using hx, rfl⟩)
      | _ => rfl
    have hwant : wantedV l.toArray vs o = Region.wanted o (yielded l.toArray (actV l.toArray (mixv N K vs) a ((Array.range l.toArray.size).map fun j => decide (j < i))).tmps) := by
      unfold Region.wanted wantedV
      cases hg : o.guard with
      | none => rfl
      | some jw =>
        obtain ⟨j, want⟩ := jw
        have h5 := hci.1.2
        rw [hg] at h5
        simp only at h5 ⊢
        unfold yielded
        cases hoj : l.toArray[j]? with
        | none => rfl
        | some oj =>
          simp only [Option.bind_some]
          cases hdj : oj.dst with
          | none => rfl
          | some t =>
            simp only [Option.bind_some]
            have hlt : t < a.tmps.size := by
              have := (List.all_eq_true.1 hin) oj (by rw [Array.mem_toList_iff]; exact Array.mem_of_getElem? hoj)
              rw [hdj] at this; simpa using this
            have hj2 : j < l.toArray.size := (Array.getElem?_eq_some_iff.1 hoj).1
            have hcj := (List.all_eq_true.1 hc) j (List.mem_range.2 hj2)
            rw [hoj] at hcj
            simp only [Bool.and_eq_true] at hcj
            have hwj := hcj.1.1.1
            rw [hdj] at hwj
            simp only [beq_iff_eq] at hwj
            have hv : (actV l.toArray (mixv N K vs) a ((Array.range l.toArray.size).map fun j => decide (j < i))).tmps[t]? = some (vs j) := by
              unfold actV
              simp only [Array.getElem?_mapIdx, Array.getElem?_eq_getElem hlt, Option.map_some, hwj]
              rw [hpre, if_pos (by simpa using hback j h5), hval j (hdep j h5)]
            rw [hv]
            cases vs j <;> simp
    have hstep := g2 i o (Nat.zero_le _) ho' vs _ W hSd hturn hCl
    have hp := (List.all_eq_true.1 hpl) o (List.mem_of_getElem? ho)
    have hvs' : ∀ (v : Value), (N i = false → v = K i) → ∀ j, (dd.setIfInBounds i true).getD j false = true → N j = false → updV vs i v j = K j := by
      intro v hv j hj hN
      by_cases e : j = i
      · subst e; rw [updV_same]; exact hv hN
      · rw [updV_other _ _ e]; rw [done_other e] at hj; exact hvs j hj hN
    rw [← hwant] at hstep
    cases hN : N i with
    | true =>
      rw [hN, if_pos rfl] at hstep
      rw [hstep.1, if_pos rfl]
      refine wpIn_of_gives hfn hdp (fun c e => by unfold plainOp at hp; rw [e] at hp; cases hp) hrun hstep.2 ?_
      rintro v W' hS'
      refine ⟨v, rfl, ⟨?_, hCl2⟩, hvs' v (fun e => by rw [hN] at e; cases e)⟩
      rw [hmore]
      exact hS' _ (fun j hj2 => updV_other _ _ (by rintro rfl; rw [hj] at hj2; cases hj2)) (updV_same _ _ _)
    | false =>
      rw [hN, if_neg (by decide)] at hstep
      have loc : ∀ v W', S vs (more (fun j => dd.getD j false) i) W' → S (updV vs i v) (more (fun j => dd.getD j false) i) W' := fun v W' h => hloc _ _ _ _ h (fun j _ hNj => updV_other _ _ (by rintro rfl; rw [hN] at hNj; cases hNj))
      cases hwv : wantedV l.toArray vs o with
      | true =>
        rw [hwv, if_pos rfl] at hstep
        rw [if_pos rfl]
        refine wpIn_of_gives hfn hdp (fun c e => by unfold plainOp at hp; rw [e] at hp; cases hp) hrun hstep ?_
        rintro v W' ⟨hv, hS'⟩
        exact ⟨v, rfl, ⟨by rw [hmore]; exact loc v W' hS', hCl2⟩, hvs' v (fun _ => hv)⟩
      | false =>
        rw [hwv, if_neg (by decide)] at hstep
        rw [if_neg (by decide)]
        exact ⟨fun f _ => hfn f, ⟨by rw [hmore]; exact loc _ _ hstep.2, hCl2⟩, hvs' undef (fun _ => hstep.1.symm)⟩
  · rintro vs W ⟨⟨hSd, -⟩, hvs⟩
    have e1 : (fun j => (Array.replicate l.length true).getD j false) = fun j => decide (j < l.toArray.size) := by
      funext j
      by_cases hj : j < l.length
      · simp [Array.getD, hj]
      · simp [Array.getD, hj]
    rw [e1] at hSd
    have hq := g3 vs W hSd
    have e2 : ∀ j, j < l.length → vs j = mixv N K vs j := by
      intro j hj
      rw [mixv_at]
      cases hN : N j with
      | true => rfl
      | false => rw [if_neg (by decide)]; exact hvs j (by simp [Array.getD, hj]) hN
    have e3 := goV_eq (ops := l.toArray) (vals := vs) (a := a) hc l.length l 0 (Array.replicate l.toArray.size false) rfl (by simp) (by simp) (by simp) (fun j hj => by omega)
    rw [actV_none] at e3
    rw [e3]
    have e4 : actV l.toArray vs a (Array.replicate l.toArray.size true) = actV l.toArray (mixv N K vs) a ((Array.range l.toArray.size).map fun j => decide (j < l.toArray.size)) := by
      unfold actV
      congr 1
      apply Array.ext (by simp)
      intro t h1 h2
      simp only [Array.getElem_mapIdx]
      cases wrOf l.toArray t with
      | none => rfl
      | some j =>
        simp only
        by_cases hj : j < l.length
        · simp only [Array.getD, hj, List.size_toArray, Array.size_replicate, Array.getElem_replicate, dite_true, if_true, Array.size_map, Array.size_range, Array.getInternal_eq_getElem, Array.getElem_map, Array.getElem_range, decide_true]
          exact e2 j hj
        · simp [Array.getD, hj]
    rw [e4]; exact hq
end
end Go.Proofs.Ytkbagfpoegfcaaa

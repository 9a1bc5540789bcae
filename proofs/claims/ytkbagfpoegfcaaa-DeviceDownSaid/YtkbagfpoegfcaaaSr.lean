/- A region walked in the text's order, as in Sq, where it is known besides that with each operation that is done all are done on which it depends. -/
import Derived.Test.YtkbagfpoegfcaaaSq
namespace Go.Proofs.Ytkbagfpoegfcaaa
open Go.RowKit Go.Conc

/-- With each operation that is done all are done on which it depends. -/
def Cl (ops : Array Oper) (d : Nat → Bool) : Prop := ∀ j oj, ops[j]? = some oj → d j = true → ∀ m, depOn oj m = true → d m = true
section
variable {F : Fence} {P : Program} {ops : Array Oper} {Q : Exit → Act → World → Prop} {S : (Nat → Bool) → World → Prop}
theorem Cl.more {o : Oper} {i : Nat} {d : Nat → Bool} (h : Cl ops d) (ho : ops[i]? = some o) (ht : Turn ops o i d) : Cl ops (more d i) := by
  intro j oj hj hd m hm
  by_cases hmi : m = i
  · subst hmi; exact more_same _ _
  · rw [more_other _ hmi]
    by_cases hji : j = i
    · subst hji
      rw [ho] at hj; cases hj
      exact ht.dep m hm
    · rw [more_other _ hji] at hd
      exact h j oj hj hd m hm
theorem Oper.gives.mono {o : Oper} {ρ : Operand → Value} {W : World} {T T' : Value → World → Prop} (h : Oper.gives F P o ρ W T) (hT : ∀ v W', T v W' → T' v W') : Oper.gives F P o ρ W T' := by
  unfold Oper.gives at h ⊢
  generalize (execOp ρ o).run P W = r at h ⊢
  cases r with
  | ok x w' =>
    cases x <;> simp only at h ⊢ <;> first | exact h.elim | exact hT _ _ h | skip
    refine CallsIn.mono h ?_
    rintro e W'' ⟨v, rfl, ht⟩
    exact ⟨v, rfl, hT _ _ ht⟩
  | halt x w' => exact h.elim
def SeqC (F : Fence) (P : Program) (ops : Array Oper) (S : (Nat → Bool) → World → Prop) (Q : Exit → Act → World → Prop) : List Oper → Nat → Act → Prop
  | [], i, A => ∀ W, S (fun j => decide (j < i)) W → Q .normal A W
  | o :: rest, i, A => ∃ v, (∀ d W, S d W → Turn ops o i d → Cl ops d →
      if Region.wanted o (yielded ops A.tmps) = true then Oper.gives F P o A.eval W (fun u W' => u = v ∧ S (more d i) W') else (v = undef ∧ S (more d i) W)) ∧
      SeqC F P ops S Q rest (i + 1) (A.put o.dst v)
theorem SeqC.nil {i : Nat} {A : Act} (h : ∀ W, S (fun j => decide (j < i)) W → Q .normal A W) : SeqC F P ops S Q [] i A := h
theorem SeqC.step {o : Oper} {rest : List Oper} {i : Nat} {A : Act} (v : Value) (hw : Region.wanted o (yielded ops A.tmps) = true)
    (h : ∀ d W, S d W → Turn ops o i d → Cl ops d → Oper.gives F P o A.eval W (fun u W' => u = v ∧ S (more d i) W'))
    (hr : SeqC F P ops S Q rest (i + 1) (A.put o.dst v)) : SeqC F P ops S Q (o :: rest) i A :=
  ⟨v, fun d W hS ht hc => by rw [if_pos hw]; exact h d W hS ht hc, hr⟩
theorem SeqC.pass {o : Oper} {rest : List Oper} {i : Nat} {A : Act} (hw : Region.wanted o (yielded ops A.tmps) = false)
    (h : ∀ d W, S d W → Turn ops o i d → Cl ops d → S (more d i) W)
    (hr : SeqC F P ops S Q rest (i + 1) (A.put o.dst undef)) : SeqC F P ops S Q (o :: rest) i A :=
  ⟨undef, fun d W hS ht hc => by rw [if_neg (by rw [hw]; decide)]; exact ⟨rfl, h d W hS ht hc⟩, hr⟩
theorem SeqC.toR : ∀ (l : List Oper) (i : Nat) (A : Act), ops.toList.drop i = l → SeqC F P ops S Q l i A → SeqR F P ops (fun d W => S d W ∧ Cl ops d) Q l i A
  | [], _, _, _, h => fun W hS => h W hS.1
  | o :: rest, i, A, hd, ⟨v, h1, h2⟩ => by
    have ho : ops[i]? = some o := by
      have : (ops.toList.drop i)[0]? = some o := by rw [hd]; rfl
      rw [List.getElem?_drop] at this
      simpa using this
    have hd2 : ops.toList.drop (i + 1) = rest := by
      rw [← List.drop_drop, hd]; rfl
    refine ⟨v, fun d W hS ht => ?_, SeqC.toR rest (i + 1) _ hd2 h2⟩
    have h3 := h1 d W hS.1 ht hS.2
    split
    · rename_i hw
      rw [if_pos hw] at h3
      exact h3.mono (fun u W' hu => ⟨hu.1, hu.2, hS.2.more ho ht⟩)
    · rename_i hw
      rw [if_neg hw] at h3
      exact ⟨h3.1, h3.2, hS.2.more ho ht⟩
/-- THE REGION. -/
theorem regionIn_seqC {id : Nat} {l : List Oper} {a : Act} {w : World} (S : (Nat → Bool) → World → Prop) (hm : P.follows .mixedOrders = true) (hc : chkV l.toArray = true) (hin : inV l.toArray a = true) (hpl : l.all plainOp = true)
    (hfn : ∀ f, F.fn f) (hdp : F.depth = none) (hS : S (fun _ => false) w.drew)
    (h : SeqC F P l.toArray S Q l 0 a) : (Code.region id l.toArray true).wpIn F 0 P Q a w :=
  regionIn_seq (fun d W => S d W ∧ Cl l.toArray d) hm hc hin hpl hfn hdp ⟨hS, fun _ _ _ h => by cases h⟩ (SeqC.toR l 0 a (by simp) h)
end
end Go.Proofs.Ytkbagfpoegfcaaa

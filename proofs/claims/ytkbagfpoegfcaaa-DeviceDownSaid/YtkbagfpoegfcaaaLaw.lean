/- From a law's walk to its row: if the call returns true and turns nothing that lay, then the row's promise holds behind it. Condition: the specification is 'true, the arguments as they were'. -/
import Derived.Test.YtkbagfpoegfcaaaRows
import Derived.ProofKit
import Derived.SizedLaws
namespace Go.Proofs.Ytkbagfpoegfcaaa
open Go.ChangeShapes Go.WideShapes Go.ChangeAt Go.RowKit

theorem Try.own : ownKnob Try.prog.godebug = none := by kernel_rfl
theorem Try.laidOut : laidOutB Try.prog = true := by kernel_rfl

theorem trodAll_stays {H : Type} {enc : TypeId × Value → H} {P : Program} (hl : laidOutB P = true) {W W' : World} (hb : Below W.heap.size W W') :
    ∀ (ts : List TypeId) (vs : List Value) (ds : List (DataW H)) (ps : List MemPlace), ts.all (fun t => P.readableRec t && decide (t < P.types.size)) = true → (∀ x ∈ ps, x.block < W.heap.size) →
      DataW.TrodAll enc P W 0 (fun _ => true) true ts vs ds ps → DataW.TrodAll enc P W' 0 (fun b => decide (b < W.heap.size)) true ts vs ds ps
  | [], [], [], ps, _, _, h => h
  | t :: ts, v :: vs, d :: ds, ps, ht, hlt, ⟨p, q, h1, h2, e⟩ => by
    subst e
    simp only [List.all_cons, Bool.and_eq_true, decide_eq_true_eq] at ht
    exact ⟨p, q, Below.trod hl ht.1.1 ht.1.2 h1 hb (fun x hx => hlt x (by simp [hx])), trodAll_stays hl hb ts vs ds q ht.2 (fun x hx => hlt x (by simp [hx])) h2, rfl⟩
  | [], _ :: _, _, _, _, _, h => h.elim
  | [], [], _ :: _, _, _, _, h => h.elim
  | _ :: _, [], _, _, _, _, h => h.elim
  | _ :: _, _ :: _, [], _, _, _, h => h.elim

theorem law_calls {H : Type} {enc : TypeId × Value → H} {s : ChangeSpec} {fid : FuncId} {F : Func} {W : World} {args : Array Value} {ds gs : List (DataW H)} {before : List MemPlace}
    (hR : F.resultTypes = #[4]) (hv : s.vars = []) (hts : F.params.toList.all (fun t => Try.prog.readableRec t && decide (t < Try.prog.types.size)) = true)
    (hW : DataW.Whole enc Try.prog F.params.toList s.vars false W args.toList ds gs before)
    (hfn : s.fn H (ds ++ gs) = { results := [.lit (.bool true)], args := ds, vars := [] })
    (h : Calls Try.prog fid args W fun e W' => e = .returned (.bool true) ∧ Below W.heap.size W W') :
    Calls Try.prog fid args W fun e W' => ∃ v, e = .returned v ∧ s.post enc Try.prog F false true false false W args v W' := by
  have hW' := hW
  obtain ⟨p, q, hA, hV, rfl, _, _⟩ := hW
  rw [hv] at hV
  obtain ⟨rfl, rfl⟩ := trodVars_none hV
  have hlt : ∀ x ∈ p, x.block < W.heap.size := fun x hx => by simpa using hW'.lt x (by simp [hx])
  refine h.mono fun e W' ⟨he, hb⟩ => ⟨_, he, ?_⟩
  refine ⟨_, _, _, [] ++ [], p, [], hW', ?_, ?_, ?_, hb.frame _, fun h => by cases h⟩
  · rw [hfn, hR]; exact trodAll_mk1 (shut_bool Try.underlying4 true)
  · rw [hfn]; exact trodAll_stays Try.laidOut hb _ _ _ _ hts hlt hA
  · rw [hfn, hv]; exact rfl
end Go.Proofs.Ytkbagfpoegfcaaa

/- The device and the document's device beside each other; a step's value. Conditions: a device is small. -/
import Derived.Test.YtkbagfpoegfcaaaD30
namespace Go.Proofs.Ytkbagfpoegfcaaa
open Go.RowKit Go.Conc

/-- A step: its words, its sector, the numbers of its slice. -/
structure Op7 where
  kind : Int
  zone : Int
  off : Int
  sec : Sec
  ka : Option Addr
  kc : Nat
  keep : List Int
@[irreducible] def op7A (o : Op7) : Array Value := (.int .i64 o.kind :: .int .i64 o.zone :: .int .i64 o.off :: (secL o.sec ++ [.slice o.ka o.keep.length o.kc])).toArray
theorem op7_list (o : Op7) : (op7A o).toList = .int .i64 o.kind :: .int .i64 o.zone :: .int .i64 o.off :: (secL o.sec ++ [.slice o.ka o.keep.length o.kc]) := by unfold op7A; rfl
theorem op7_bx (o : Op7) : IsBx 68 (op7A o) := by
  refine ⟨?_, Array.all_eq_true_iff_forall_mem.2 fun u hu => ?_⟩
  · rw [← Array.length_toList, op7_list]; simp [secL_len]
  · have hu : u ∈ (op7A o).toList := by simpa using hu
    rw [op7_list] at hu
    simp only [List.mem_cons, List.mem_append, List.not_mem_nil, or_false] at hu
    rcases hu with rfl | rfl | rfl | hu | rfl
    · rfl
    · rfl
    · rfl
    · exact secL_one _ u hu
    · rfl
theorem op7_size (o : Op7) : (op7A o).size = 68 := (op7_bx o).size
theorem op7_get (o : Op7) : (op7A o)[0]? = some (.int .i64 o.kind) ∧ (op7A o)[1]? = some (.int .i64 o.zone) ∧ (op7A o)[2]? = some (.int .i64 o.off) ∧ (op7A o)[67]? = some (.slice o.ka o.keep.length o.kc) := by
  have h := op7_list o
  have e : ∀ i : Nat, (op7A o)[i]? = (op7A o).toList[i]? := fun i => Array.getElem?_toList.symm
  refine ⟨?_, ?_, ?_, ?_⟩
  · rw [e, h]; rfl
  · rw [e, h]; rfl
  · rw [e, h]; rfl
  · rw [e, h]
    show (secL o.sec ++ [.slice o.ka o.keep.length o.kc])[64]? = _
    rw [List.getElem?_append_right (by rw [secL_len]; omega), secL_len]; rfl
/-- Its words where it lies in a box. -/
theorem op7_box {w : World} {b : Nat} {o : Op7} {T : TypeId} (h : w.heap[b]? = some (.cells (op7A o) T (0, 0))) :
    w.cell? ⟨b, 0, none⟩ = some (.int .i64 o.kind) ∧ w.cell? ⟨b, 1, none⟩ = some (.int .i64 o.zone) ∧ w.cell? ⟨b, 2, none⟩ = some (.int .i64 o.off) ∧ w.cell? ⟨b, 67, none⟩ = some (.slice o.ka o.keep.length o.kc) ∧ w.rangeAt b 3 (secA o.sec).toList := by
  obtain ⟨h0, h1, h2, h3⟩ := op7_get o
  refine ⟨(blk_cell h 0).trans h0, (blk_cell h 1).trans h1, (blk_cell h 2).trans h2, (blk_cell h 67).trans h3, ?_⟩
  intro j u hu
  have hj : j < 64 := by have := (List.getElem?_eq_some_iff.1 hu).1; rwa [(secA_bx _).len] at this
  rw [blk_cell h]
  have e : (op7A o)[3 + j]? = (op7A o).toList[3 + j]? := Array.getElem?_toList.symm
  rw [e, op7_list, show 3 + j = j + 3 from by omega]
  show (secL o.sec ++ [.slice o.ka o.keep.length o.kc])[j]? = some u
  rw [List.getElem?_append_left (by rw [secL_len]; exact hj)]
  exact hu
theorem b62 : BigTy 62 68 (.int .i64 0 :: .int .i64 0 :: .int .i64 0 :: ((Array.replicate 64 (.int .u8 0)).toList ++ [.slice none 0 0])).toArray := ⟨⟨_, Try.underlying62, rfl⟩, by kernel_rfl, by simp⟩
/-- Its slice's numbers can be read. -/
def KpAt (K : Nat → Prop) (w : World) (o : Op7) : Prop := RdAt K w (.slice o.ka o.keep.length o.kc) o.keep.length (ints o.keep)

/-- The device at d and the document's device v, among the blocks of P, apart from each other. -/
def Mix (P : Nat → Prop) (w : World) (d : Nat) (v : Value) (Xr Xd : DS) : Prop :=
  ∃ F D, DvS F w d Xd ∧ RfS D w v Xr ∧ (∀ k, F k → ¬ D k) ∧ (∀ k, F k → P k) ∧ ∀ k, D k → P k
section
variable {P S : Nat → Prop} {w w' : World} {d : Nat} {v : Value} {X Y Xr Xd : DS}
theorem DvS.sharp {F : Nat → Prop} (h : DvS F w d X) : DvS (fun k => F k ∧ k < w.heap.size) w d X := h.mono (fun _ h1 h2 => ⟨h1, h2⟩)
theorem Mix.ok (h : Mix P w d v Xr Xd) : Xd.Ok := by obtain ⟨F, D, h1, -⟩ := h; exact h1.ok
theorem Mix.sharp (h : Mix P w d v Xr Xd) : Mix (fun k => P k ∧ k < w.heap.size) w d v Xr Xd := by
  obtain ⟨F, D, h1, h2, h3, h4, h5⟩ := h
  exact ⟨_, _, h1.sharp, h2.sharp, fun k a b => h3 k a.1 b.1, fun k a => ⟨h4 k a.1, a.2⟩, fun k a => ⟨h5 k a.1, a.2⟩⟩
theorem Mix.mono {P' : Nat → Prop} (h : Mix P w d v Xr Xd) (hp : ∀ k, P k → k < w.heap.size → P' k) : Mix P' w d v Xr Xd := by
  obtain ⟨F, D, h1, h2, h3, h4, h5⟩ := h.sharp
  exact ⟨F, D, h1, h2, h3, fun k a => hp k (h4 k a).1 (h4 k a).2, fun k a => hp k (h5 k a).1 (h5 k a).2⟩
theorem Mix.fr (h : Mix P w d v Xr Xd) (hf : Fr S w w') (hn : ∀ k, P k → ¬ S k) : Mix P w' d v Xr Xd := by
  obtain ⟨F, D, h1, h2, h3, h4, h5⟩ := h
  exact ⟨F, D, h1.fr hf (fun k a => hn k (h4 k a)), h2.fr hf (fun k a => hn k (h5 k a)), h3, h4, h5⟩
theorem Mix.fr0 (h : Mix P w d v Xr Xd) (hf : Fr (fun _ => False) w w') : Mix P w' d v Xr Xd := h.fr hf (fun _ _ => id)
theorem Mix.form (h : Mix P w d v Xr Xd) : ∃ a n c i1 i2 i3 b, v = .agg #[.slice a n c, .int .i64 i1, .int .i64 i2, .int .i64 i3, .bool b] := by
  obtain ⟨F, D, -, ⟨s, ps, rfl, -, hz⟩, -⟩ := h
  obtain ⟨a, c, rfl⟩ := hz.row.val
  exact ⟨_, _, _, _, _, _, _, rfl⟩
theorem Mix.setDown {s i1 i2 i3 b : Value} (h : Mix P w d (.agg #[s, i1, i2, i3, b]) Xr Xd) : Mix P w d (.agg #[s, i1, i2, i3, .bool true]) { Xr with down := true } Xd := by
  obtain ⟨F, D, h1, ⟨s', ps, e, e2, hz⟩, h3⟩ := h
  refine ⟨F, D, h1, ⟨s', ps, ?_, e2, hz⟩, h3⟩
  injection e with e
  have e' := congrArg Array.toList e
  simp only [List.cons.injEq, and_true] at e'
  obtain ⟨rfl, rfl, rfl, rfl, -⟩ := e'
  rfl
/-- The device's part. -/
theorem Mix.dev {f : FuncId} {args : Array Value} {R : Ending → Prop} (hM : Mix P w d v Xr X) (h : ∀ F, DvS F w d X → Calls Try.prog f args w fun e w' => R e ∧ DvQ F w d Y w') :
    Calls Try.prog f args w fun e w' => R e ∧ Mix (fun k => P k ∨ w.heap.size ≤ k) w' d v Xr Y ∧ Fr P w w' := by
  obtain ⟨F, D, h1, h2, h3, h4, h5⟩ := hM.sharp
  refine (h F h1).mono ?_
  rintro e w' ⟨hR, hd, hf⟩
  refine ⟨hR, ⟨_, _, hd, h2.fr hf (fun k a b => h3 k b a), fun k a b => ?_, fun k a => ?_, fun k a => .inl (h5 k a).1⟩, hf.mono (fun k _ a => (h4 k a).1)⟩
  · rcases a with a | a
    · exact h3 k a b
    · have := (h5 k b).2; omega
  · rcases a with a | a
    · exact .inl (h4 k a).1
    · exact .inr a
/-- The document's part. -/
theorem Mix.ref {f : FuncId} {args : Array Value} {R : Value → Ending → Prop} (hM : Mix P w d v X Xd) (h : ∀ D, RfS D w v X → (∀ k, D k → P k) → Calls Try.prog f args w fun e w' => ∃ v', R v' e ∧ RfQ D w Y w' v') :
    Calls Try.prog f args w fun e w' => ∃ v', R v' e ∧ Mix (fun k => P k ∨ w.heap.size ≤ k) w' d v' Y Xd ∧ Fr (fun _ => False) w w' := by
  obtain ⟨F, D, h1, h2, h3, h4, h5⟩ := hM.sharp
  refine (h D h2 (fun k a => (h5 k a).1)).mono ?_
  rintro e w' ⟨v', hR, hr, hf⟩
  refine ⟨v', hR, ⟨_, _, h1.fr0 hf, hr, fun k a b => ?_, fun k a => .inl (h4 k a).1, fun k a => ?_⟩, hf⟩
  · rcases b with b | b
    · exact h3 k a b
    · have := (h4 k a).2; omega
  · rcases a with a | a
    · exact .inl (h5 k a).1
    · exact .inr a
/-- What only reads the device. -/
theorem Mix.look {f : FuncId} {args : Array Value} {R : Ending → World → Prop} (hM : Mix P w d v Xr X) (h : ∀ F, DvS F w d X → (∀ k, F k → P k) → Calls Try.prog f args w R) : Calls Try.prog f args w R := by
  obtain ⟨F, D, h1, h2, h3, h4, h5⟩ := hM
  exact h F h1 h4
end
/-- What a step comes to. -/
inductive StepR (X : DS) (o : Op7) : DS → Prop
  | app {Y a e} : o.kind = 1 → AppR X o.zone o.sec Y a e → StepR X o Y
  | read {Y s e} : o.kind = 2 → ReadR X o.zone o.off Y s e → StepR X o Y
  | reset {Y e} : o.kind = 3 → RstR X o.zone (fun _ => .zero) Y e → StepR X o Y
  | finish {Y e} : o.kind = 4 → RstR X o.zone ZS.finish Y e → StepR X o Y
  | flush {Y e} : o.kind = 5 → FlushR X Y e → StepR X o Y
  | crash : o.kind = 6 → StepR X o { X with down := true }
  | revive {Y} : o.kind = 7 → RevR X o.keep Y → StepR X o Y
  | fail {Y e} : o.kind = 8 → FailR X o.zone o.off Y e → StepR X o Y
  | spoil {Y e} : o.kind = 9 → SpR X o.zone o.off o.sec Y e → StepR X o Y
  | none : (o.kind < 1 ∨ 9 < o.kind) → StepR X o X
theorem StepR.total (X : DS) (o : Op7) : ∃ Y, StepR X o Y := by
  by_cases h : o.kind < 1 ∨ 9 < o.kind
  · exact ⟨_, .none h⟩
  · have hc : o.kind = 1 ∨ o.kind = 2 ∨ o.kind = 3 ∨ o.kind = 4 ∨ o.kind = 5 ∨ o.kind = 6 ∨ o.kind = 7 ∨ o.kind = 8 ∨ o.kind = 9 := by omega
    rcases hc with h | h | h | h | h | h | h | h | h
    · obtain ⟨Y, a, e, hr⟩ := AppR.total X o.zone o.sec; exact ⟨_, .app h hr⟩
    · obtain ⟨Y, a, e, hr⟩ := ReadR.total X o.zone o.off; exact ⟨_, .read h hr⟩
    · obtain ⟨Y, e, hr⟩ := RstR.total X o.zone (fun _ => ZS.zero); exact ⟨_, .reset h hr⟩
    · obtain ⟨Y, e, hr⟩ := RstR.total X o.zone ZS.finish; exact ⟨_, .finish h hr⟩
    · obtain ⟨Y, e, hr⟩ := FlushR.total X; exact ⟨_, .flush h hr⟩
    · exact ⟨_, .crash h⟩
    · obtain ⟨Y, hr⟩ := RevR.total X o.keep; exact ⟨_, .revive h hr⟩
    · obtain ⟨Y, e, hr⟩ := FailR.total X o.zone o.off; exact ⟨_, .fail h hr⟩
    · obtain ⟨Y, e, hr⟩ := SpR.total X o.zone o.off o.sec; exact ⟨_, .spoil h hr⟩
/-- What a step leaves. -/
def StQ (P : Nat → Prop) (w : World) (d : Nat) (Y : DS) (e : Ending) (w' : World) : Prop := ∃ v, e = .returned (.tuple #[v, .bool true]) ∧ Mix (fun k => P k ∨ w.heap.size ≤ k) w' d v Y Y ∧ Fr P w w'
end Go.Proofs.Ytkbagfpoegfcaaa

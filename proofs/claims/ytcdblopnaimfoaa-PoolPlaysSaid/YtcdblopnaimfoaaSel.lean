/- A select of one case with a default, met inside a plain walk of one goroutine: the walk's predicate for frames of ordinary calls, its rules, and one law for each of the four ways in which such a select goes. No condition. -/
import Derived.WalkKit
import Derived.WalkSpells
import Derived.WalkLawsBesides
import Derived.Conc.LoneSelect
namespace Go.Proofs.Ytcdblopnaimfoaa
open Go.RowKit Go.Conc

/-- The walk's predicate, asked of frames of ordinary calls alone. -/
def wpN (P : Program) (c : Code) (Q : Exit → Act → World → Prop) (a : Act) (w : World) : Prop :=
  ∀ (b : Frame) (k : List Item) (cs : List Frame), b.kind = .normal → ∃ e a' w', Q e a' w' ∧ Arrives P (lone (b.at a (.code c :: k)) cs w) b k cs e a' w'

section
variable {P : Program} {Q : Exit → Act → World → Prop} {a : Act} {w : World}

theorem wpN_of_wp {c : Code} (h : c.wp P Q a w) : wpN P c Q a w := fun b k cs _ => h b k cs

theorem wpN_seqN {x y : Code} (h : wpN P x (Exit.then (wpN P y Q) Q) a w) : wpN P (Code.seq x y) Q a w := by
  intro b k cs hk
  obtain ⟨e, a₁, w₁, hq, harr⟩ := h b (.code y :: k) cs hk
  cases e with
  | normal =>
    obtain ⟨e₂, a₂, w₂, hq₂, harr₂⟩ := hq b k cs hk
    exact ⟨e₂, a₂, w₂, hq₂, .of_steps (.head step_seq harr) harr₂⟩
  | exit id => exact ⟨_, a₁, w₁, hq, .of_steps (.one step_seq) (.pass (x := .code y) rfl (fun _ _ => .inl (by simp)) harr)⟩
  | goto l => exact ⟨_, a₁, w₁, hq, .of_steps (.one step_seq) (.pass (x := .code y) rfl (fun _ _ => .inl (by simp)) harr)⟩
  | ret => exact ⟨_, a₁, w₁, hq, .of_steps (.one step_seq) (.pass (x := .code y) rfl (fun _ _ => .inl (by simp)) harr)⟩
  | panic ch => exact ⟨_, a₁, w₁, hq, .of_steps (.one step_seq) (.pass (x := .code y) rfl (fun _ _ => .inl (by simp)) harr)⟩
  | outgrown => exact ⟨_, a₁, w₁, hq, .of_steps (.one step_seq) (.pass (x := .code y) rfl (fun _ _ => .inl (by simp)) harr)⟩

/-- The first part by the plain walk, the second by this one. -/
theorem wpN_seq {x y : Code} (h : x.wp P (Exit.then (wpN P y Q) Q) a w) : wpN P (Code.seq x y) Q a w := wpN_seqN (wpN_of_wp h)

theorem calls_of_wpN {f : FuncId} {fn : Func} {c : Code} {args : Array Value} {w : World} {R : Ending → World → Prop}
    (hf : P.funcs[f]? = some fn) (hb : fn.body = some c)
    (h : wpN P c (bodyPost P fn R) { tmps := args ++ Array.replicate (fn.ntmps - args.size) undef, defers := [] } w) :
    Calls P f args w R := by
  intro cs
  let b : Frame := { (default : Frame) with fn := f, kind := .normal }
  have henter : Frame.enter P f args .normal =
      b.at { tmps := args ++ Array.replicate (fn.ntmps - args.size) undef, defers := [] } [.code c] := by
    simp [Frame.enter, Frame.at, hf, hb, b]
  obtain ⟨e, a', w', hq, harr⟩ := h b [] cs rfl
  rw [← henter] at harr
  cases e with
  | normal =>
    obtain ⟨hd, v, hr, hR⟩ := hq
    exact ⟨.returned v, w', _, hR, Steps.trans harr (.one step_end), rfl, rfl, hd, rfl, fn, hf, hr⟩
  | ret =>
    obtain ⟨hd, v, hr, hR⟩ := hq
    obtain ⟨todo, hs⟩ := harr
    exact ⟨.returned v, w', _, hR, hs, rfl, rfl, hd, rfl, fn, hf, hr⟩
  | panic chain =>
    obtain ⟨hd, hR⟩ := hq
    obtain ⟨todo, hs⟩ := harr
    exact ⟨.panicked chain, w', _, hR, hs, rfl, rfl, hd, fn, hf⟩
  | exit id => exact hq.elim
  | goto l => exact hq.elim
  | outgrown => exact ⟨.outgrown, w', b, hq, harr.resolve_left (by simp [b]), rfl, trivial⟩

theorem wpN_comm {id : Nat} {o : Oper} {l : List Oper} {cases : Array CommCase} {v : Value} {w2 : World} (hg : o.guard = none)
    (hr : (execOp a.eval o).run P w = .ok (.comm cases false .select) w)
    (hs : ∀ (fr : Frame) (cs : List Frame) (es : Array Event), stepG P true (G fr cs) w = .comm (G fr cs) cases false .select w es → step P (solo (G fr cs) w) = .next (solo (G (fr.finish v) cs) w2))
    (h : wpList P (o :: l).toArray Q l (a.put o.dst v) w2) : wpN P (Code.region id (o :: l).toArray false) Q a w := by
  intro b k cs hk
  have hall : wpOps P (o :: l).toArray Q (List.range' 1 l.length) = wpList P (o :: l).toArray Q l :=
    wpOps_eq_wpList l 1 (fun j => by simp [Nat.add_comm 1 j])
  rw [← hall] at h
  obtain ⟨e, a', w', hq, harr⟩ := wp_ops (P := P) (List.range' 1 l.length) _ _ h b k cs
  refine ⟨e, a', w', hq, .of_steps (.head step_region (.one ?_)) harr⟩
  have hrange : List.range (o :: l).toArray.size = 0 :: List.range' 1 l.length := by
    rw [List.range_eq_range']; simp [List.range'_succ]
  rw [hrange]
  have hw : Region.wanted o (yielded (o :: l).toArray a.tmps) = true := by simp [Region.wanted, hg]
  have ho : (o :: l).toArray[0]? = some o := rfl
  have hc := stepG_comm (P := P) (main := true) (b := b) (k := k) (cs := cs) (ops := (o :: l).toArray) (i := 0) (rest := List.range' 1 l.length) (a := a) (w := w) ho hw (by rw [hk]; decide) hr
  have := hs _ _ _ hc
  rw [Frame.finish_at] at this
  exact this

variable {c cap s r : Nat} {buf : Array Value} {dst : Option Tmp} {ch x : Operand} {e ty : TypeId} {pos : String} {after : Array Edge} {l : List Oper} {id : Nat} {tm : Bool} {v : Value}

/-- 'select { case ch <- x: .. default: .. }', the buffer with room. -/
theorem wpN_send_room (z : Value) (hz : (zeroValue e).run P w = .ok z w) (hch : a.eval ch = .chan (some c)) (hx : a.eval x = v) (hc : w.heap[c]? = some (.chan cap buf false s r tm)) (hroom : buf.size < cap)
    (h : wpList P ({ dst, op := .select #[{ chan := ch, send := some x, elem := e }] false, type := ty, pos, after, guard := none } :: l).toArray Q l (a.put dst (.tuple #[goInt 0, .bool false])) (w.setChan c cap (buf.push v) false (s + 1) r tm)) :
    wpN P (Code.region id ({ dst, op := .select #[{ chan := ch, send := some x, elem := e }] false, type := ty, pos, after, guard := none } :: l).toArray false) Q a w :=
  wpN_comm (cases := #[scase c v z]) rfl (by simp [execOp, scase, hch, hx, hz]) (fun fr cs es hst => step_lone_select_send_room hst hc hroom) h

/-- The same, the buffer full. -/
theorem wpN_send_full (z : Value) (hz : (zeroValue e).run P w = .ok z w) (hch : a.eval ch = .chan (some c)) (hx : a.eval x = v) (hc : w.heap[c]? = some (.chan cap buf false s r tm)) (hfull : cap ≤ buf.size)
    (h : wpList P ({ dst, op := .select #[{ chan := ch, send := some x, elem := e }] false, type := ty, pos, after, guard := none } :: l).toArray Q l (a.put dst (.tuple #[goInt (-1), .bool false])) w) :
    wpN P (Code.region id ({ dst, op := .select #[{ chan := ch, send := some x, elem := e }] false, type := ty, pos, after, guard := none } :: l).toArray false) Q a w :=
  wpN_comm (cases := #[scase c v z]) rfl (by simp [execOp, scase, hch, hx, hz]) (fun fr cs es hst => step_lone_select_send_full hst hc hfull) h

/-- 'select { case x := <-ch: .. default: .. }', something in the buffer. -/
theorem wpN_recv_buf (z : Value) (hz : (zeroValue e).run P w = .ok z w) (hch : a.eval ch = .chan (some c)) (hc : w.heap[c]? = some (.chan cap buf false s r tm)) (hsome : 0 < buf.size)
    (h : wpList P ({ dst, op := .select #[{ chan := ch, send := none, elem := e }] false, type := ty, pos, after, guard := none } :: l).toArray Q l (a.put dst (.tuple #[goInt 0, .bool true, buf.getD 0 undef])) (w.setChan c cap (buf.extract 1 buf.size) false s (r + 1) tm)) :
    wpN P (Code.region id ({ dst, op := .select #[{ chan := ch, send := none, elem := e }] false, type := ty, pos, after, guard := none } :: l).toArray false) Q a w :=
  wpN_comm (cases := #[rcase c z]) rfl (by simp [execOp, rcase, hch, hz]) (fun fr cs es hst => step_lone_select_recv_buf hst hc hsome) h

/-- The same, the buffer empty. -/
theorem wpN_recv_empty (z : Value) (hz : (zeroValue e).run P w = .ok z w) (hch : a.eval ch = .chan (some c)) (hc : w.heap[c]? = some (.chan cap #[] false s r tm))
    (h : wpList P ({ dst, op := .select #[{ chan := ch, send := none, elem := e }] false, type := ty, pos, after, guard := none } :: l).toArray Q l (a.put dst (.tuple #[goInt (-1), .bool false, z])) w) :
    wpN P (Code.region id ({ dst, op := .select #[{ chan := ch, send := none, elem := e }] false, type := ty, pos, after, guard := none } :: l).toArray false) Q a w :=
  wpN_comm (cases := #[rcase c z]) rfl (by simp [execOp, rcase, hch, hz]) (fun fr cs es hst => step_lone_select_default hst hc) h
end
end Go.Proofs.Ytcdblopnaimfoaa

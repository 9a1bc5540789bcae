/- The operations on variables of many cells, in a walk and in a region that draws its order. No condition. -/
import Derived.Test.YtkbagfpoegfcaaaD0
namespace Go.Proofs.Ytkbagfpoegfcaaa
open Go.RowKit Go.Conc

section
variable {ops : Array Oper} {rest : List Oper} {o : Oper} {a : Act} {w : World} {Q : Exit → Act → World → Prop}
theorem is_load (T : TypeId) {x : Operand} (_h : o.op = .load T x) (k : wpList Try.prog ops Q (o :: rest) a w) : wpList Try.prog ops Q (o :: rest) a w := k
theorem is_store (T : TypeId) {x y : Operand} (_h : o.op = .store T x y) (k : wpList Try.prog ops Q (o :: rest) a w) : wpList Try.prog ops Q (o :: rest) a w := k
theorem is_alloc (T : TypeId) (_h : o.op = .alloc T) (k : wpList Try.prog ops Q (o :: rest) a w) : wpList Try.prog ops Q (o :: rest) a w := k
theorem is_build (T : TypeId) {p : Array (Nat × Operand)} (_h : o.op = .build T p) (k : wpList Try.prog ops Q (o :: rest) a w) : wpList Try.prog ops Q (o :: rest) a w := k
theorem is_slice (T : TypeId) {n : Nat} {p : Array (Nat × Operand)} (_h : o.op = .buildSlice T n p) (k : wpList Try.prog ops Q (o :: rest) a w) : wpList Try.prog ops Q (o :: rest) a w := k
theorem is_append (T : TypeId) {x : Array Operand} (_h : o.op = .call { callee := .builtin .append, args := x, argTypes := #[T, T] }) (k : wpList Try.prog ops Q (o :: rest) a w) : wpList Try.prog ops Q (o :: rest) a w := k
theorem is_bin (b : BinOp) (T : TypeId) {x y : Operand} {T' : TypeId} (_h : o.op = .binOp b T x y T') (k : wpList Try.prog ops Q (o :: rest) a w) : wpList Try.prog ops Q (o :: rest) a w := k

theorem run_allocB {ρ : Operand → Value} {T : TypeId} {n : Nat} {z : Array Value} (ho : o.op = .alloc T) (hT : BigTy T n z) : (execOp ρ o).run Try.prog w = .ok (.value (.pointer (some ⟨w.heap.size, 0, none⟩))) (w.alloc (.cells z T)) := by
  unfold execOp
  simp only [ho]
  unfold Instr.alloc
  simp [Sem.run_bind, hT.z, newVar, newRow, go_sem, Value.cells]
theorem wpList_allocB (hg : o.guard = none) (T : TypeId) {n : Nat} {z : Array Value} (ho : o.op = .alloc T) (hT : BigTy T n z)
    (h : wpList Try.prog ops Q rest (a.put o.dst (.pointer (some ⟨w.heap.size, 0, none⟩))) (w.alloc (.cells z T))) : wpList Try.prog ops Q (o :: rest) a w :=
  Go.Great.wpList_runTo hg o.dst rfl _ _ (run_allocB ho hT) h
theorem run_loadB {T : TypeId} {n : Nat} {z : Array Value} (hT : BigTy T n z) {b f : Nat} {S : Array Value} (hr : w.rangeAt b f S.toList) (hS : S.size = n) : (loadVar T ⟨b, f, none⟩).run Try.prog w = .ok (.agg S) w := by
  obtain ⟨d, h1, h2⟩ := hT.row
  have := run_loadVar_mid (P := Try.prog) w b f T S.toList d hr h1 h2 (by rw [hT.sz]; simp [hS])
  simpa using this
theorem blk_range {b : Nat} {S : Array Value} {T' : TypeId} {f : Nat × Nat} (hb : w.heap[b]? = some (.cells S T' f)) : w.rangeAt b 0 S.toList := fun j v hv => by
  rw [Nat.zero_add, blk_cell hb j]
  simpa using hv
theorem run_loadBw {T : TypeId} {n : Nat} {z : Array Value} (hT : BigTy T n z) {b : Nat} {S : Array Value} {T' : TypeId} (hb : w.heap[b]? = some (.cells S T' (0, 0))) (hS : S.size = n) : (loadVar T ⟨b, 0, none⟩).run Try.prog w = .ok (.agg S) w :=
  run_loadB hT (blk_range hb) hS
theorem exec_loadB {ρ : Operand → Value} {T : TypeId} {n : Nat} {z : Array Value} {x : Operand} (ho : o.op = .load T x) (hT : BigTy T n z) {b f : Nat} {S : Array Value} (hx : ρ x = .pointer (some ⟨b, f, none⟩)) (hr : w.rangeAt b f S.toList) (hS : S.size = n) : (execOp ρ o).run Try.prog w = .ok (.value (.agg S)) w := by
  unfold execOp
  simp only [ho, hx, Instr.loadAt, Instr.sureAddr, Sem.run_bind, Sem.run_pure, Result.andThen_ok, run_loadB hT hr hS]
theorem wpList_loadB (hg : o.guard = none) (T : TypeId) {n : Nat} {z : Array Value} (x : Operand) (ho : o.op = .load T x) (hT : BigTy T n z) (b f : Nat) (S : Array Value) (hx : a.eval x = .pointer (some ⟨b, f, none⟩)) (hr : w.rangeAt b f S.toList) (hS : S.size = n)
    (h : wpList Try.prog ops Q rest (a.put o.dst (.agg S)) w) : wpList Try.prog ops Q (o :: rest) a w :=
  Go.Great.wpList_runTo hg o.dst rfl _ _ (exec_loadB ho hT hx hr hS) h
theorem wpList_loadBw (hg : o.guard = none) (T : TypeId) {n : Nat} {z : Array Value} (x : Operand) (ho : o.op = .load T x) (hT : BigTy T n z) (b : Nat) (S : Array Value) (T' : TypeId) (hx : a.eval x = .pointer (some ⟨b, 0, none⟩)) (hb : w.heap[b]? = some (.cells S T' (0, 0))) (hS : S.size = n)
    (h : wpList Try.prog ops Q rest (a.put o.dst (.agg S)) w) : wpList Try.prog ops Q (o :: rest) a w :=
  wpList_loadB hg T x ho hT b 0 S hx (blk_range hb) hS h
theorem setRow_blk {b : Nat} {old : Array Value} (S : Array Value) {T : TypeId} (hb : w.heap[b]? = some (.cells old T (0, 0))) : (w.setRow b S).heap[b]? = some (.cells S T (0, 0)) := Go.setRow_heap w b old S T (0, 0) hb
theorem setRow_fr (w : World) (b : Nat) (S : Array Value) : Fr (fun k => k = b) w (w.setRow b S) :=
  ⟨rfl, rfl, rfl, by simp [World.setRow], fun k hk hn => by simp [World.setRow, Array.getElem?_modify, Ne.symm hn]⟩
theorem exec_storeBw {ρ : Operand → Value} {T : TypeId} {n : Nat} {z : Array Value} {x y : Operand} (ho : o.op = .store T x y) (hT : BigTy T n z) {b : Nat} {old S : Array Value} {T' : TypeId} (hx : ρ x = .pointer (some ⟨b, 0, none⟩)) (hy : ρ y = .agg S) (hb : w.heap[b]? = some (.cells old T' (0, 0))) (hz : old.size = n) (hS : IsBx n S) :
    (execOp ρ o).run Try.prog w = .ok (.value undef) (w.setRow b S) ∨ (execOp ρ o).run Try.prog w = .ok .skip (w.setRow b S) := by
  have hr := run_storeVar_row (P := Try.prog) w b T' T old S hb (by rw [hT.sz, hS.size]) (by rw [hz, hS.size]) hS.one
  unfold execOp
  simp only [ho, hx, hy, Instr.storeAt, Instr.sureAddr, Sem.run_bind, Sem.run_pure, Result.andThen_ok, hr]
  simp
theorem wpList_storeBw (hg : o.guard = none) (T : TypeId) {n : Nat} {z : Array Value} (x y : Operand) (ho : o.op = .store T x y) (hT : BigTy T n z) (b : Nat) (old S : Array Value) (T' : TypeId) (hx : a.eval x = .pointer (some ⟨b, 0, none⟩)) (hy : a.eval y = .agg S) (hb : w.heap[b]? = some (.cells old T' (0, 0))) (hz : old.size = n) (hS : IsBx n S)
    (h : wpList Try.prog ops Q rest (a.put o.dst undef) (w.setRow b S)) : wpList Try.prog ops Q (o :: rest) a w := by
  refine wpList_plain hg fun _ hK => ?_
  have hr := run_storeVar_row (P := Try.prog) w b T' T old S hb (by rw [hT.sz, hS.size]) (by rw [hz, hS.size]) hS.one
  unfold Oper.wp execOp
  simp only [ho, hx, hy, Instr.storeAt, Instr.sureAddr, Sem.run_bind, Sem.run_pure, Result.andThen_ok, hr]
  exact hK _ _ h
theorem wpList_storeBm (hg : o.guard = none) (T : TypeId) {n : Nat} {z : Array Value} (x y : Operand) (ho : o.op = .store T x y) (hT : BigTy T n z) (b f : Nat) (S : Array Value) (hx : a.eval x = .pointer (some ⟨b, f, none⟩)) (hy : a.eval y = .agg S) (ht : w.there b f n) (hS : IsBx n S)
    (h : wpList Try.prog ops Q rest (a.put o.dst undef) (w.setCells b f S.toList)) : wpList Try.prog ops Q (o :: rest) a w := by
  refine wpList_store_mid hg T x y ho b f S hx hy (by rw [hS.size]; exact ht) (by rw [hT.sz, hS.size]) hS.one h
theorem build34 (w : World) : (Instr.build 34 #[]).run Try.prog w = .ok (.agg (secA Sec.zero)) w := by rw [zero_sec]; kernel_rfl
theorem build35 (w : World) : (Instr.build 35 #[]).run Try.prog w = .ok (.agg (secA Sec.zero)) w := by rw [zero_sec]; kernel_rfl
theorem wpList_buildZ34 (hg : o.guard = none) (ho : o.op = .build 34 #[]) (h : wpList Try.prog ops Q rest (a.put o.dst (.agg (secA Sec.zero))) w) : wpList Try.prog ops Q (o :: rest) a w := by
  refine Go.Great.wpList_runTo hg o.dst rfl _ w ?_ h
  unfold execOp
  simp only [ho]
  simp [build34]
theorem wpList_buildZ35 (hg : o.guard = none) (ho : o.op = .build 35 #[]) (h : wpList Try.prog ops Q rest (a.put o.dst (.agg (secA Sec.zero))) w) : wpList Try.prog ops Q (o :: rest) a w := by
  refine Go.Great.wpList_runTo hg o.dst rfl _ w ?_ h
  unfold execOp
  simp only [ho]
  simp [build35]
theorem fold_set : ∀ (l : List Value) (k : Nat) (cs : Array Value), k + l.length = cs.size →
    ((l.zipIdx k).foldl (fun cs (x : Value × Nat) => cs.setIfInBounds (0 + x.2) x.1) cs).toList = cs.toList.take k ++ l
  | [], k, cs, h => by
    simp at h
    rw [List.zipIdx_nil, List.foldl_nil, List.append_nil, List.take_of_length_le (by simp; omega)]
  | v :: l, k, cs, h => by
    simp only [List.length_cons] at h
    rw [List.zipIdx_cons, List.foldl_cons, fold_set l (k + 1) _ (by simp; omega)]
    simp only [Nat.zero_add, Array.toList_setIfInBounds]
    apply List.ext_getElem?
    intro j
    simp only [List.getElem?_append, List.length_take, List.length_set, Array.length_toList]
    by_cases h1 : j < k
    · simp [h1, show j < k + 1 by omega, show min (k + 1) cs.size = k + 1 by omega, show min k cs.size = k by omega, show k ≠ j by omega]
    · by_cases h2 : j = k
      · subst h2
        simp [show min (j + 1) cs.size = j + 1 by omega, show min j cs.size = j by omega]
      · simp [show ¬ j < k + 1 by omega, h1, show min (k + 1) cs.size = k + 1 by omega, show min k cs.size = k by omega, show j - k = (j - (k + 1)) + 1 by omega]
theorem fill_one {zs S : Array Value} {n : Nat} (hz : zs.size = n) (hS : S.size = n) : Instr.fill (fun i => some (i * n, n)) zs [(0, .agg S)] = some S := by
  have h := fold_set S.toList 0 zs (by simp; omega)
  have h2 : (S.zipIdx.foldl (fun cs (x : Value × Nat) => cs.setIfInBounds (0 + x.2) x.1) zs) = S := by
    apply Array.toList_inj.1
    rw [← Array.foldl_toList, Array.toList_zipIdx, h]
    simp
  simp [Instr.fill, Value.cells, hS, hz]
  simpa [hS] using h2
theorem run_one {ρ : Operand → Value} {Ts E : TypeId} {n : Nat} {z : Array Value} {x : Operand} (ho : o.op = .buildSlice Ts 1 #[(0, x)]) (hu : Try.prog.underlying Ts = some (.slice E)) (hT : BigTy E n z) (hn : 0 < n ∧ n < 1000) {S : Array Value} (hx : ρ x = .agg S) (hS : S.size = n) :
    (execOp ρ o).run Try.prog w = .ok (.value (.slice (some ⟨w.heap.size, 0, none⟩) 1 1)) (w.alloc (.cells S E)) := by
  obtain ⟨i, h1, h2, h3⟩ := hT.un
  have hf : Instr.fill (fun j => some (j * i.size, i.size)) ((Array.range (1 * i.size)).map ((Value.agg z).cells[· % (Value.agg z).cells.size]!)) (#[(0, x)].map fun (j, x) => (j, ρ x)).toList = some S := by
    rw [h3]
    have : (#[(0, x)].map fun (j, x) => (j, ρ x)).toList = [(0, .agg S)] := by simp [hx]
    rw [this]
    exact fill_one (by simp) hS
  unfold execOp
  simp only [ho, Sem.run_bind, run_buildSlice w Ts E 1 _ S i (.agg z) hu h1 h2 (by rw [h3]; omega) (by rw [h3]; omega) hf, Result.andThen_ok]
  rfl
theorem wpList_one (hg : o.guard = none) (Ts E : TypeId) {n : Nat} {z : Array Value} (x : Operand) (ho : o.op = .buildSlice Ts 1 #[(0, x)]) (hu : Try.prog.underlying Ts = some (.slice E)) (hT : BigTy E n z) (hn : 0 < n ∧ n < 1000) (S : Array Value) (hx : a.eval x = .agg S) (hS : S.size = n)
    (h : wpList Try.prog ops Q rest (a.put o.dst (.slice (some ⟨w.heap.size, 0, none⟩) 1 1)) (w.alloc (.cells S E))) : wpList Try.prog ops Q (o :: rest) a w :=
  Go.Great.wpList_runTo hg o.dst rfl _ _ (run_one ho hu hT hn hx hS) h
/-- The slice of one that was made last, read. -/
theorem one_rd (w : World) (S : Array Value) (E : TypeId) : RdAt (fun k => k = w.heap.size) (w.alloc (.cells S E)) (.slice (some ⟨w.heap.size, 0, none⟩) 1 1) 1 S.toList :=
  ⟨_, 1, rfl, Nat.le_refl _, fun e => (by cases e), fun _ => ⟨w.heap.size, 0, rfl, rfl, blk_range (blk_new w (.cells S E))⟩⟩
theorem exec_app {ρ : Operand → Value} {Ts E : TypeId} {sz : Nat} (hT : SlTy Ts E sz) {base : Nat} {D : Nat → Prop} {v x : Value} {n m : Nat} {xs ys : List Value} {s y : Operand}
    (ho : o.op = .call { callee := .builtin .append, args := #[s, y], argTypes := #[Ts, Ts] }) (hty : o.type = Ts) (hs : ρ s = v) (hy : ρ y = x)
    (hown : w.ownsRow base E sz v n xs) (hx : RdAt D w x m ys) (hym : ys.length = m * sz) (h1 : ∀ u ∈ ys, u.oneCell' = true) (hn : n + m < 100000) (hb : base ≤ w.heap.size) :
    ∃ a1 c1 w', (execOp ρ o).run Try.prog w = .ok (.value (.slice a1 (n + m) c1)) w' ∧ w'.ownsRow base E sz (.slice a1 (n + m) c1) (n + m) (xs ++ ys) ∧ w.grownBy w' v.ownBlock ∧ ((Value.slice a1 (n + m) c1).ownBlock = v.ownBlock ∨ (Value.slice a1 (n + m) c1).ownBlock = some w.heap.size) := by
  obtain ⟨v', w', hr, h2, h3, h4⟩ := run_app hT hown hx hym h1 hn hb
  obtain ⟨a1, c1, rfl⟩ := row_val h2
  refine ⟨a1, c1, w', ?_, h2, h3, h4⟩
  unfold execOp
  simp only [ho, hty, resolve, invoke, builtin, Sem.run_bind, Sem.run_pure, Result.andThen_ok, List.map_toArray, List.map_cons, List.map_nil, hs, hy, hr]
theorem wpList_app (hgd : o.guard = none) {Ts E : TypeId} {sz : Nat} (hT : SlTy Ts E sz) {base : Nat} {D : Nat → Prop} {v x : Value} {n m : Nat} {xs ys : List Value} (hown : w.ownsRow base E sz v n xs) (hx : RdAt D w x m ys) (s y : Operand)
    (ho : o.op = .call { callee := .builtin .append, args := #[s, y], argTypes := #[Ts, Ts] }) (hty : o.type = Ts) (hs : a.eval s = v) (hy : a.eval y = x) (hym : ys.length = m * sz) (h1 : ∀ u ∈ ys, u.oneCell' = true) (hn : n + m < 100000) (hb : base ≤ w.heap.size)
    (h : ∀ a1 c1 w', w'.ownsRow base E sz (.slice a1 (n + m) c1) (n + m) (xs ++ ys) → w.grownBy w' v.ownBlock → ((Value.slice a1 (n + m) c1).ownBlock = v.ownBlock ∨ (Value.slice a1 (n + m) c1).ownBlock = some w.heap.size) → wpList Try.prog ops Q rest (a.put o.dst (.slice a1 (n + m) c1)) w') :
    wpList Try.prog ops Q (o :: rest) a w := by
  obtain ⟨a1, c1, w', hr, h2, h3, h4⟩ := exec_app hT ho hty hs hy hown hx hym h1 hn hb
  exact Go.Great.wpList_runTo hgd o.dst rfl _ _ hr (h a1 c1 w' h2 h3 h4)

/-- Sectors compared. -/
theorem sec_beq (s t : Sec) : (s.1 == t.1) = decide (s = t) := by rw [Bool.eq_iff_iff]; simp [Subtype.ext_iff]
theorem un5 : Try.prog.underlying 5 = some (.int .u8) := Try.underlying5
theorem sz5 (w : World) : (sizeOf 5).run Try.prog w = .ok 1 w := by kernel_rfl
theorem eql_sec {T : TypeId} (hT : Try.prog.underlying T = some (.array 64 5)) (s t : Sec) : (binOp .eql T (.agg (secA s)) (.agg (secA t))).run Try.prog w = .ok (.bool (decide (s = t))) w := by
  unfold secA
  rw [run_eql_bytes w T 5 64 hT un5 sz5 s.1 t.1 s.2 t.2, sec_beq]
theorem neq_sec {T : TypeId} (hT : Try.prog.underlying T = some (.array 64 5)) (s t : Sec) : (binOp .neq T (.agg (secA s)) (.agg (secA t))).run Try.prog w = .ok (.bool (!decide (s = t))) w := by
  unfold secA
  rw [run_neq_struct, run_equalIn_bytes w 9998 T 5 64 hT un5 sz5 s.1 t.1 s.2 t.2]
  simp only [Result.andThen_ok, sec_beq]
end
section
variable {F : Fence} {P : Program} {o : Oper} {ρ : Operand → Value} {W W' : World} {T : Value → World → Prop} {v : Value}
theorem gives_val (h : (execOp ρ o).run P W = .ok (.value v) W') (ht : T v W') : Oper.gives F P o ρ W T := by unfold Oper.gives; rw [h]; exact ht
theorem gives_skip (h : (execOp ρ o).run P W = .ok .skip W') (ht : T undef W') : Oper.gives F P o ρ W T := by unfold Oper.gives; rw [h]; exact ht
theorem gives_loadB {Ty : TypeId} {n : Nat} {z : Array Value} {x : Operand} (ho : o.op = .load Ty x) (hT : BigTy Ty n z) {b f : Nat} {S : Array Value} (hx : ρ x = .pointer (some ⟨b, f, none⟩)) (hb : W.rangeAt b f S.toList) (hS : S.size = n) (ht : T (.agg S) W) : Oper.gives F Try.prog o ρ W T :=
  gives_val (exec_loadB ho hT hx hb hS) ht
theorem gives_storeBw {Ty : TypeId} {n : Nat} {z : Array Value} {x y : Operand} (ho : o.op = .store Ty x y) (hT : BigTy Ty n z) {b : Nat} {old S : Array Value} {T' : TypeId} (hx : ρ x = .pointer (some ⟨b, 0, none⟩)) (hy : ρ y = .agg S) (hb : W.heap[b]? = some (.cells old T' (0, 0))) (hz : old.size = n) (hS : IsBx n S) (ht : T undef (W.setRow b S)) : Oper.gives F Try.prog o ρ W T := by
  rcases exec_storeBw ho hT hx hy hb hz hS with h | h
  · exact gives_val h ht
  · exact gives_skip h ht
theorem gives_one {Ts E : TypeId} {n : Nat} {z : Array Value} {x : Operand} (ho : o.op = .buildSlice Ts 1 #[(0, x)]) (hu : Try.prog.underlying Ts = some (.slice E)) (hT : BigTy E n z) (hn : 0 < n ∧ n < 1000) {S : Array Value} (hx : ρ x = .agg S) (hS : S.size = n) (ht : T (.slice (some ⟨W.heap.size, 0, none⟩) 1 1) (W.alloc (.cells S E))) : Oper.gives F Try.prog o ρ W T :=
  gives_val (run_one ho hu hT hn hx hS) ht
end
end Go.Proofs.Ytkbagfpoegfcaaa

/- Variables of many cells (sectors, events, steps), loaded, stored and laid at once; rows of such; appends. No condition. -/
import Derived.Test.YtkbagfpoegfcaaaRi
import Derived.Test.YtkbagfpoegfcaaaSr
import Derived.Test.YtkbagfpoegfcaaaProg
import Derived.Deep.MidRow
import Derived.Deep.WholeRow
import Derived.OwnWalk
import Derived.BigQuiet
import Derived.Lib.Hide
import Derived.OwnWalkIn
import Derived.Great.Walk
import Derived.Great.BuildSlice
import Derived.Maps.AppendAt
import Derived.Stop.BytesEq
namespace Go.Proofs.Ytkbagfpoegfcaaa
open Go.RowKit Go.Conc
open Go.Extern.Stop (cell)

/-- A sector. -/
abbrev Sec := { s : List UInt8 // s.length = 64 }
@[irreducible] def secA (s : Sec) : Array Value := (s.1.map cell).toArray
theorem secA_list (s : Sec) : (secA s).toList = s.1.map cell := by unfold secA; rfl
theorem secA_size (s : Sec) : (secA s).size = 64 := by unfold secA; simp [s.2]
@[irreducible] def Sec.zero : Sec := ⟨List.replicate 64 0, by simp⟩
@[irreducible] def Sec.xor (a b : Sec) : Sec := ⟨List.zipWith (· ^^^ ·) a.1 b.1, by simp [a.2, b.2]⟩
/-- Cells of a variable. -/
structure IsBx (n : Nat) (S : Array Value) : Prop where
  size : S.size = n
  one : S.all (·.oneCell') = true
theorem secA_bx (s : Sec) : IsBx 64 (secA s) := ⟨secA_size s, Array.all_eq_true_iff_forall_mem.2 fun v hv => by
  have : v ∈ (secA s).toList := by simpa using hv
  rw [secA_list] at this
  obtain ⟨x, -, rfl⟩ := List.mem_map.1 this
  rfl⟩
theorem IsBx.oneL {n : Nat} {S : Array Value} (h : IsBx n S) : ∀ u ∈ S.toList, u.oneCell' = true := fun u hu => (Array.all_eq_true_iff_forall_mem.1 h.one) u (by simpa using hu)
theorem IsBx.len {n : Nat} {S : Array Value} (h : IsBx n S) : S.toList.length = n := by simpa using h.size
/-- A type of variables of n cells, its zero. -/
structure BigTy (T : TypeId) (n : Nat) (z : Array Value) : Prop where
  row : ∃ d, Try.prog.underlying T = some d ∧ d.isRow = true
  info : (Try.prog.info? T).map (fun i => (i.zero, i.size)) = some (some (.agg z), n)
  zs : z.size = n
theorem BigTy.sz {T : TypeId} {n : Nat} {z : Array Value} (h : BigTy T n z) : (Try.prog.info? T).map (·.size) = some n := by
  have := h.info
  cases hq : Try.prog.info? T with
  | none => rw [hq] at this; cases this
  | some i => rw [hq] at this; simp at this; simp [this.2]
theorem BigTy.z {T : TypeId} {n : Nat} {z : Array Value} (h : BigTy T n z) (w : World) : (zeroValue T).run Try.prog w = .ok (.agg z) w := (zero_of_info h.info).1 w
theorem BigTy.un {T : TypeId} {n : Nat} {z : Array Value} (h : BigTy T n z) : ∃ i, Try.prog.info? T = some i ∧ i.zero = some (.agg z) ∧ i.size = n := by
  have h1 := h.info
  cases hq : Try.prog.info? T with
  | none => rw [hq] at h1; cases h1
  | some i =>
    rw [hq] at h1
    simp only [Option.map_some, Option.some.injEq, Prod.mk.injEq] at h1
    exact ⟨i, rfl, h1.1, h1.2⟩
theorem zero_sec : secA Sec.zero = Array.replicate 64 (.int .u8 0) := by
  unfold secA Sec.zero
  rfl
theorem b35 : BigTy 35 64 (secA Sec.zero) := ⟨⟨_, Try.underlying35, rfl⟩, by rw [zero_sec]; kernel_rfl, secA_size _⟩
theorem b34 : BigTy 34 64 (secA Sec.zero) := ⟨⟨_, Try.underlying34, rfl⟩, by rw [zero_sec]; kernel_rfl, secA_size _⟩
/-- The type of a slice and its elements. -/
structure SlTy (Ts E : TypeId) (sz : Nat) : Prop where
  u : Try.prog.underlying Ts = some (.slice E)
  info : ∃ i z, Try.prog.info? E = some i ∧ i.zero = some z ∧ i.size = sz ∧ i.bytes ≤ 2048 ∧ z.cells.size = sz
  pos : 0 < sz
theorem SlTy.mk' {Ts E : TypeId} {sz : Nat} (hu : Try.prog.underlying Ts = some (.slice E)) (b : Nat) (z : Value) (hi : (Try.prog.info? E).map (fun i => (i.zero, i.size, i.bytes)) = some (some z, sz, b)) (hb : b ≤ 2048) (hz : z.cells.size = sz) (hp : 0 < sz) : SlTy Ts E sz := by
  refine ⟨hu, ?_, hp⟩
  cases hq : Try.prog.info? E with
  | none => rw [hq] at hi; cases hi
  | some i =>
    rw [hq] at hi
    simp only [Option.map_some, Option.some.injEq, Prod.mk.injEq] at hi
    exact ⟨i, z, rfl, hi.1, hi.2.1, by omega, hz⟩
theorem s46 : SlTy 46 35 64 := SlTy.mk' Try.underlying46 64 (.agg (secA Sec.zero)) (by rw [zero_sec]; kernel_rfl) (by omega) (secA_size _) (by omega)
theorem s115 : SlTy 115 34 64 := SlTy.mk' Try.underlying115 64 (.agg (secA Sec.zero)) (by rw [zero_sec]; kernel_rfl) (by omega) (secA_size _) (by omega)
theorem s25 : SlTy 25 117 4 := SlTy.mk' Try.underlying25 48 (.agg #[.slice none 0 0, .int .i64 0, .int .i64 0, .bool false]) (by kernel_rfl) (by omega) rfl (by omega)
theorem s106 : SlTy 106 105 1 := SlTy.mk' Try.underlying106 8 (.pointer none) (by kernel_rfl) (by omega) rfl (by omega)

/-- One behind the other. -/
def flat {α : Type} (f : α → List Value) (L : List α) : List Value := (L.map f).flatten
section
variable {α : Type} {f : α → List Value} {n : Nat}
theorem flat_app (L L' : List α) : flat f (L ++ L') = flat f L ++ flat f L' := by simp [flat]
theorem flat_one (x : α) : flat f [x] = f x := by simp [flat]
theorem flat_cons (x : α) (L : List α) : flat f (x :: L) = f x ++ flat f L := rfl
theorem flat_len (hf : ∀ x, (f x).length = n) : ∀ L : List α, (flat f L).length = L.length * n
  | [] => by simp [flat]
  | x :: L => by rw [flat_cons, List.length_append, hf, flat_len hf L, List.length_cons, Nat.add_mul]; omega
theorem flat_take (hf : ∀ x, (f x).length = n) : ∀ (k : Nat) (L : List α), (flat f L).take (k * n) = flat f (L.take k)
  | 0, L => by simp [flat]
  | k + 1, [] => by simp [flat]
  | k + 1, x :: L => by
    rw [List.take_succ_cons, flat_cons, flat_cons, ← flat_take hf k L, show (k + 1) * n = (f x).length + k * n by rw [hf, Nat.add_mul]; omega, List.take_length_add_append]
theorem flat_drop (hf : ∀ x, (f x).length = n) : ∀ (k : Nat) (L : List α), (flat f L).drop (k * n) = flat f (L.drop k)
  | 0, L => by simp [flat]
  | k + 1, [] => by simp [flat]
  | k + 1, x :: L => by
    rw [List.drop_succ_cons, flat_cons, ← flat_drop hf k L, show (k + 1) * n = (f x).length + k * n by rw [hf, Nat.add_mul]; omega, List.drop_length_add_append]
theorem flat_get (hf : ∀ x, (f x).length = n) (L : List α) (i : Nat) (hi : i < L.length) (j : Nat) (hj : j < n) : (flat f L)[i * n + j]? = (f L[i])[j]? := by
  have h := congrArg (fun l => l[j]?) (flat_drop hf i L)
  simp only [List.getElem?_drop] at h
  rw [h, List.drop_eq_getElem_cons hi, flat_cons, List.getElem?_append_left (by rw [hf]; exact hj)]
theorem flat_set (hf : ∀ x, (f x).length = n) (L : List α) (i : Nat) (hi : i < L.length) (y : α) : (flat f L).take (i * n) ++ f y ++ (flat f L).drop (i * n + n) = flat f (L.set i y) := by
  rw [flat_take hf, show i * n + n = (i + 1) * n by rw [Nat.add_mul]; omega, flat_drop hf, List.set_eq_take_append_cons_drop, if_pos hi, flat_app, flat_cons, List.append_assoc]
theorem flat_one1 (hf : ∀ x, ∀ u ∈ f x, u.oneCell' = true) (L : List α) : ∀ u ∈ flat f L, u.oneCell' = true := by
  intro u hu
  obtain ⟨l, hl, hu⟩ := List.mem_flatten.1 hu
  obtain ⟨x, -, rfl⟩ := List.mem_map.1 hl
  exact hf x u hu
end
def secL (s : Sec) : List Value := (secA s).toList
theorem secL_len (s : Sec) : (secL s).length = 64 := (secA_bx s).len
theorem secL_one (s : Sec) : ∀ u ∈ secL s, u.oneCell' = true := (secA_bx s).oneL
/-- The cells of sectors. -/
def secs (L : List Sec) : List Value := flat secL L
theorem secs_len (L : List Sec) : (secs L).length = L.length * 64 := flat_len secL_len L
theorem secs_one (L : List Sec) : ∀ u ∈ secs L, u.oneCell' = true := flat_one1 secL_one L

/-- A slice of m elements that reads xs, in a block that D picks. -/
def RdAt (D : Nat → Prop) (W : World) (v : Value) (m : Nat) (xs : List Value) : Prop :=
  ∃ a cap, v = .slice a m cap ∧ m ≤ cap ∧ (a = none → cap = 0) ∧ (xs ≠ [] → ∃ g o, a = some ⟨g, o, none⟩ ∧ D g ∧ W.rangeAt g o xs)
section
variable {w w' W : World} {base : Nat} {E : TypeId} {v : Value} {n m sz : Nat} {xs ys : List Value} {S D : Nat → Prop}
theorem rangeAt_fr {g o : Nat} (h : w.rangeAt g o xs) (hf : Fr S w w') (hn : ¬ S g) : w'.rangeAt g o xs := fun j u hu => hf.cell (h j u hu) hn
theorem RdAt.fr (h : RdAt D w v m xs) (hf : Fr S w w') (hn : ∀ k, D k → ¬ S k) : RdAt D w' v m xs := by
  obtain ⟨a, cap, h1, h2, h4, h3⟩ := h
  refine ⟨a, cap, h1, h2, h4, fun hne => ?_⟩
  obtain ⟨g, o, e, hD, hc⟩ := h3 hne
  exact ⟨g, o, e, hD, rangeAt_fr hc hf (hn g hD)⟩
theorem RdAt.fr0 (h : RdAt D w v m xs) (hf : Fr (fun _ => False) w w') : RdAt D w' v m xs := h.fr hf (fun _ _ => id)
theorem RdAt.mono {D' : Nat → Prop} (h : RdAt D w v m xs) (hd : ∀ k, D k → D' k) : RdAt D' w v m xs := by
  obtain ⟨a, cap, h1, h2, h4, h3⟩ := h
  refine ⟨a, cap, h1, h2, h4, fun hne => ?_⟩
  obtain ⟨g, o, e, hD, hc⟩ := h3 hne
  exact ⟨g, o, e, hd _ hD, hc⟩
theorem RdAt.nil (D : Nat → Prop) (w : World) : RdAt D w (.slice none 0 0) 0 [] := ⟨none, 0, rfl, Nat.le_refl _, fun _ => rfl, fun h => absurd rfl h⟩
theorem RdAt.val (h : RdAt D w v m xs) : ∃ a cap, v = .slice a m cap := by obtain ⟨a, cap, h1, _⟩ := h; exact ⟨a, cap, h1⟩
theorem cell_lt {p : Addr} {x : Value} (hv : w.cell? p = some x) : p.block < w.heap.size := by
  rcases Nat.lt_or_ge p.block w.heap.size with h' | h'
  · exact h'
  · simp [World.cell?, Array.getElem?_eq_none h'] at hv
theorem range_lt {g o : Nat} (h : w.rangeAt g o xs) (hne : xs ≠ []) : g < w.heap.size := by
  cases xs with
  | nil => exact absurd rfl hne
  | cons x t => exact cell_lt (h 0 x rfl)
/-- Only blocks that are there. -/
theorem RdAt.sharp (h : RdAt D w v m xs) : RdAt (fun k => D k ∧ k < w.heap.size) w v m xs := by
  obtain ⟨a, cap, h1, h2, h4, h3⟩ := h
  refine ⟨a, cap, h1, h2, h4, fun hne => ?_⟩
  obtain ⟨g, o, e, hD, hc⟩ := h3 hne
  exact ⟨g, o, e, ⟨hD, range_lt hc hne⟩, hc⟩
theorem range_part {g o : Nat} (h : w.rangeAt g o xs) (k l : Nat) (ys : List Value) (hy : ∀ j, j < l → ys[j]? = xs[k + j]?) (hl : ys.length = l) : w.rangeAt g (o + k) ys := by
  intro j u hu
  have hj : j < l := by have := (List.getElem?_eq_some_iff.1 hu).1; omega
  rw [hy j hj] at hu
  have := h _ _ hu
  rwa [← Nat.add_assoc] at this
theorem row_fr (h : w.ownsRow base E sz v n xs) (hf : Fr S w w') (hn : ∀ k, v.ownBlock = some k → ¬ S k) : w'.ownsRow base E sz v n xs := by
  refine ⟨h.1, ?_⟩
  rcases h.2 with h0 | ⟨g, cap, cur, rfl, hb, hg, h1⟩
  · exact .inl h0
  · exact .inr ⟨g, cap, cur, rfl, hb, hf.heap hg (hn g rfl), h1⟩
theorem row_val (h : w.ownsRow base E sz v n xs) : ∃ a cap, v = .slice a n cap := by
  rcases h.2 with ⟨rfl, rfl⟩ | ⟨g, cap, cur, rfl, _⟩
  · exact ⟨none, 0, rfl⟩
  · exact ⟨_, cap, rfl⟩
theorem row_obj (h : w.ownsRow base E sz v n xs) {k : Nat} (hk : v.ownBlock = some k) : ∃ cur, w.heap[k]? = some (.cells cur E (0, 0)) := by
  rcases h.2 with ⟨rfl, _⟩ | ⟨g, cap, cur, rfl, _, hg, _⟩
  · cases hk
  · cases hk; exact ⟨cur, hg⟩
theorem row_rd (h : w.ownsRow base E sz v n xs) : RdAt (fun k => v.ownBlock = some k) w v n xs := by
  rcases h.2 with ⟨rfl, rfl⟩ | ⟨g, cap, cur, rfl, hb, hg, h1, h2, h3, h4⟩
  · have : xs = [] := List.eq_nil_of_length_eq_zero (by simpa using h.1)
    subst this
    exact RdAt.nil _ _
  · refine ⟨_, cap, rfl, h1, fun e => (by cases e), fun _ => ⟨g, 0, rfl, rfl, fun j u hu => ?_⟩⟩
    rw [Nat.zero_add, blk_cell hg]
    have hj : j < n * sz := by have := (List.getElem?_eq_some_iff.1 hu).1; have := h.1; omega
    have h6 : (cur.toList.take (n * sz))[j]? = some u := by rw [h4, hu]
    rw [List.getElem?_take, if_pos hj] at h6
    simpa using h6
theorem Fr.grown {row : Option Nat} (h : w.grownBy w' row) (hs : ∀ k, row = some k → S k) : Fr S w w' :=
  ⟨h.os, h.tape, h.output, h.size, fun k hk hn => h.block k hk (fun e => hn (hs k e.symm))⟩
theorem Fr.drewN (S : Nat → Prop) (w : World) (n : Nat) : Fr S w (w.drewN n) := ⟨rfl, rfl, rfl, Nat.le_refl _, fun _ _ _ => rfl⟩
theorem ne_obj {k j : Nat} {o o' : Obj} (h : W.heap[k]? = some o) (h' : W.heap[j]? = some o') (hn : o ≠ o') : k ≠ j := by
  rintro rfl; rw [h] at h'; cases h'; exact hn rfl
theorem ne_ty {k j : Nat} {c c' : Array Value} {t t' : TypeId} {f f' : Nat × Nat} (h : W.heap[k]? = some (.cells c t f)) (h' : W.heap[j]? = some (.cells c' t' f')) (hn : t ≠ t') : k ≠ j :=
  ne_obj h h' (by intro e; injection e; exact hn (by assumption))

/-- Cells put into the midst. -/
def putIn (cur : Array Value) (o : Nat) (cs : List Value) : Array Value := (cur.toList.take o ++ cs ++ cur.toList.drop (o + cs.length)).toArray
theorem putIn_size {cur : Array Value} {o : Nat} {cs : List Value} (h : o + cs.length ≤ cur.size) : (putIn cur o cs).size = cur.size := by
  simp [putIn]; omega
theorem setCells_heap : ∀ (cs : List Value) (o : Nat) (w : World) (b : Nat) (cur : Array Value) (t : TypeId) (f : Nat × Nat), w.heap[b]? = some (.cells cur t f) → o + cs.length ≤ cur.size → (w.setCells b o cs).heap[b]? = some (.cells (putIn cur o cs) t f)
  | [], o, w, b, cur, t, f, h, _ => by
    simp [World.setCells, putIn, h]
  | v :: r, o, w, b, cur, t, f, h, hl => by
    simp only [List.length_cons] at hl
    rw [World.setCells, setCells_heap r (o + 1) _ b _ t f (blk_put h o v) (by simp; omega)]
    congr 2
    unfold putIn
    congr 1
    simp only [Array.toList_setIfInBounds, List.length_cons]
    apply List.ext_getElem?
    intro j
    simp only [List.append_assoc, List.getElem?_append, List.length_take, List.length_set, Array.length_toList, List.getElem?_take, List.getElem?_drop]
    rw [show min (o + 1) cur.size = o + 1 by omega, show min o cur.size = o by omega]
    by_cases h1 : j < o
    · simp [h1, show j < o + 1 by omega, show o ≠ j by omega]
    · by_cases h2 : j = o
      · subst h2
        simp [show j < cur.size by omega]
      · rw [if_neg (by omega), if_neg h1]
        rw [show j - o = (j - (o + 1)) + 1 by omega]
        simp only [List.getElem?_cons_succ, List.length_cons, Nat.add_lt_add_iff_right]
        split
        · rfl
        · rw [List.getElem?_set_ne (by omega)]
          congr 1
          omega
theorem setCells_fr : ∀ (cs : List Value) (o : Nat) (w : World) (b : Nat), Fr (fun k => k = b) w (w.setCells b o cs)
  | [], _, _, _ => Fr.refl _ _
  | v :: r, o, w, b => (Fr.set1 w b o v).trans (setCells_fr r (o + 1) _ b) (fun _ _ h => h)
/-- A store into the midst of a row. -/
theorem row_put (h : w.ownsRow base E sz v n xs) {i : Nat} (hi : i < n) {cs : List Value} (hc : cs.length = sz) : ∃ g cap, v = .slice (some ⟨g, 0, none⟩) n cap ∧ w.there g (i * sz) sz ∧
    (w.setCells g (i * sz) cs).ownsRow base E sz v n (xs.take (i * sz) ++ cs ++ xs.drop (i * sz + sz)) ∧ Fr (fun k => k = g) w (w.setCells g (i * sz) cs) := by
  rcases h.2 with ⟨rfl, rfl⟩ | ⟨g, cap, cur, rfl, hb, hg, h1, h2, h3, h4⟩
  · omega
  · have hle : i * sz + sz ≤ n * sz := by rw [show i * sz + sz = (i + 1) * sz by rw [Nat.add_mul]; omega]; exact Nat.mul_le_mul_right _ hi
    have hle2 : n * sz ≤ cap * sz := Nat.mul_le_mul_right _ h1
    have hx := h.1
    refine ⟨g, cap, rfl, fun j hj => ⟨?_, blk_frozen hg _⟩, ⟨?_, .inr ⟨g, cap, putIn cur (i * sz) cs, rfl, hb, setCells_heap cs _ w g cur E (0, 0) hg (by omega), h1, h2, ?_, ?_⟩⟩, setCells_fr cs _ w g⟩
    · rw [blk_cell hg, Array.getElem?_eq_getElem (by omega)]; rfl
    · simp only [List.length_append, List.length_take, List.length_drop]
      omega
    · rw [putIn_size (by omega)]; exact h3
    · subst h4
      unfold putIn
      simp only [List.append_assoc]
      rw [List.take_append, List.take_take, Nat.min_eq_right (by omega : i * sz ≤ n * sz)]
      congr 1
      · rw [List.take_take, Nat.min_eq_left (by omega)]
      · rw [List.length_take, Array.length_toList, Nat.min_eq_left (by omega), List.take_append, List.take_of_length_le (by omega), hc, List.drop_take, show n * sz - i * sz - sz = n * sz - (i * sz + sz) by omega]
/-- Part of a row, read. -/
theorem row_range (h : w.ownsRow base E sz v n xs) {i : Nat} (hi : i < n) (hsz : 0 < sz) : ∃ g cap, v = .slice (some ⟨g, 0, none⟩) n cap ∧ w.rangeAt g (i * sz) ((xs.drop (i * sz)).take sz) := by
  obtain ⟨a, cap, rfl, -, -, h3⟩ := row_rd h
  have hx := h.1
  have hle : i * sz + sz ≤ n * sz := by rw [show i * sz + sz = (i + 1) * sz by rw [Nat.add_mul]; omega]; exact Nat.mul_le_mul_right _ hi
  obtain ⟨g, o, rfl, e, hr⟩ := h3 (by rintro rfl; simp at hx; omega)
  rcases h.2 with ⟨e0, rfl⟩ | ⟨g', cap', cur, e1, hb, hg, h1⟩
  · omega
  · cases e1
    refine ⟨g, cap, rfl, ?_⟩
    have := range_part hr (i * sz) sz ((xs.drop (i * sz)).take sz) (fun j hj => by rw [List.getElem?_take, if_pos hj, List.getElem?_drop]) (by simp; omega)
    rwa [Nat.zero_add] at this
end

/-- A slice appended to a row. -/
theorem run_app {Ts E : TypeId} {sz : Nat} (hT : SlTy Ts E sz) {w : World} {base : Nat} {D : Nat → Prop} {v x : Value} {n m : Nat} {xs ys : List Value} (hown : w.ownsRow base E sz v n xs) (hx : RdAt D w x m ys) (hym : ys.length = m * sz) (h1 : ∀ u ∈ ys, u.oneCell' = true) (hn : n + m < 100000) (hb : base ≤ w.heap.size) :
    ∃ v' w', (Builtin.append_ #[Ts, Ts] Ts #[v, x]).run Try.prog w = .ok v' w' ∧ w'.ownsRow base E sz v' (n + m) (xs ++ ys) ∧ w.grownBy w' v.ownBlock ∧ (v'.ownBlock = v.ownBlock ∨ v'.ownBlock = some w.heap.size) := by
  obtain ⟨i0, z, hi, hz0, hz1, hz2, hz3⟩ := hT.info
  obtain ⟨a, cap, rfl, hcap, hnil, hcell⟩ := hx
  by_cases hne : ys = []
  · subst hne
    have hm : m = 0 := by
      have h0 : m * sz = 0 := by simpa using hym.symm
      rcases Nat.mul_eq_zero.1 h0 with h | h
      · exact h
      · have := hT.pos; omega
    subst hm
    refine ⟨v, w, ?_, by simpa using hown, ⟨rfl, rfl, rfl, Nat.le_refl _, fun _ _ _ => rfl⟩, .inl rfl⟩
    have hrs := run_underlying hT.u
    rcases hown.2 with ⟨rfl, rfl⟩ | ⟨g, cap, cur, rfl, _, _, hle, _⟩
    · cases a <;> simp [Builtin.append_, run_underlying hT.u, sizeOf, typeInfo, hi, Builtin.lenOf, Builtin.firstCells, loadCells, loadCellsFrom]
    · cases a <;> simp [Builtin.append_, run_underlying hT.u, sizeOf, typeInfo, hi, Builtin.lenOf, Builtin.firstCells, loadCells, loadCellsFrom, hle, storeCells]
  · obtain ⟨g, o, rfl, -, hc⟩ := hcell hne
    have hnews : ∀ j u, ys[j]? = some u → w.cell? ((⟨g, o, none⟩ : Addr).add j) = some u := by
      intro j u hu
      rw [show (⟨g, o, none⟩ : Addr).add j = ⟨g, o + j, none⟩ by simp [Addr.add]]
      exact hc j u hu
    have hbytes : (n + m) * i0.bytes ≤ 140737488355328 := Nat.le_trans (Nat.mul_le_mul (by omega : n + m ≤ 100000) hz2) (by decide)
    obtain ⟨v', w', h, h2, h3, h4, h5⟩ := run_append_own_at (P := Try.prog) w base Ts Ts E i0 z sz i0.bytes hT.u hi hz0 hz1 rfl hz3 hT.pos v n xs hown ⟨g, o, none⟩ m cap ys hym hnews h1 (by unfold maxLen; omega) hbytes hb
    exact ⟨v', w', h, h2, h3, h5⟩
end Go.Proofs.Ytkbagfpoegfcaaa

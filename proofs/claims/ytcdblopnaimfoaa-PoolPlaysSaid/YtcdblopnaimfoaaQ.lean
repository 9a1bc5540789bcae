/- Contracts of the queue's functions (New, Put, Take, Len, Room) at texts and at numbers, over a representation 'QAt': the queue's block, its channel's block, what waits in it. Conditions: a room of 1 to 4096; the queue is there. -/
import Derived.Test.YtcdblopnaimfoaaRows
import Derived.Test.YtcdblopnaimfoaaSel
import Derived.Test.YtcdblopnaimfoaaFr
import Derived.Conc.LoneSelectN
namespace Go.Proofs.Ytcdblopnaimfoaa
open Go.RowKit Go.Conc

/-- A queue at block b (a struct of type T), its channel at block c: room for cap, 'xs' wait. -/
def QAt (T : TypeId) (w : World) (b c cap : Nat) (xs : List Value) : Prop :=
  w.heap[b]? = some (.cells #[.chan (some c)] T (0, 0)) ∧ ∃ s r, w.heap[c]? = some (.chan cap xs.toArray false s r false)
theorem QAt.ne {T : TypeId} {w : World} {b c cap : Nat} {xs : List Value} (h : QAt T w b c cap xs) : c ≠ b := by
  rintro rfl
  obtain ⟨h1, s, r, h2⟩ := h
  rw [h1] at h2; cases h2
theorem QAt.fr {T : TypeId} {w w' : World} {b c cap : Nat} {xs : List Value} {S : Nat → Prop} (h : QAt T w b c cap xs) (hf : Fr S w w') (hb : ¬ S b) (hc : ¬ S c) : QAt T w' b c cap xs := by
  obtain ⟨h1, s, r, h2⟩ := h
  exact ⟨hf.heap h1 hb, s, r, hf.heap h2 hc⟩

/-! ### at elements of type 9 -/
theorem bytes9 : ∃ i, Try.prog.info? 9 = some i ∧ i.bytes = 16 := by
  have h : (Try.prog.info? 9).map (·.bytes) = some 16 := by kernel_rfl
  obtain ⟨i, hi, hb⟩ := Option.map_eq_some_iff.1 h
  exact ⟨i, hi, hb⟩
theorem mk87 (n : Nat) (h : n ≤ 4096) (w : World) : (Instr.makeChan 87 (.int .i64 n)).run Try.prog w = .ok (.chan (some w.heap.size)) (w.alloc (.chan n #[] false 0 0 false)) := by
  obtain ⟨i, hi, hb⟩ := bytes9
  simpa using run_makeChan (P := Try.prog) (w := w) Try.underlying87 hi .i64 n (by omega) (by rw [hb]; omega)
theorem z9 (w : World) : (zeroValue 9).run Try.prog w = .ok (.string ⟨#[]⟩) w := by kernel_rfl

set_option maxHeartbeats 400000 in
theorem newS_ok (n0 : Int) (h1 : 1 ≤ n0) (h2 : n0 ≤ 4096) (w : World) :
    Calls Try.prog 16 #[.int .i64 n0] w fun e w' => e = .returned (.tuple #[.pointer (some ⟨w.heap.size + 1, 0, none⟩), .int .i64 0]) ∧
      QAt 89 w' (w.heap.size + 1) w.heap.size n0.toNat [] ∧ Below w.heap.size w w' ∧ w'.heap.size = w.heap.size + 2 := by
  obtain ⟨n, rfl⟩ := Int.eq_ofNat_of_zero_le (by omega : 0 ≤ n0)
  rw [Int.toNat_natCast]
  have hm := mk87 n (by omega)
  go_enter Try.func16, Try.ntmps16
  go_wp2
  go_ret2
  refine ⟨rfl, ⟨?_, 0, 0, blk_alloc (blk_new _ _) _⟩, ((Below.refl _ _).alloc (Nat.le_refl _) _).alloc (by simp) _, by simp⟩
  have := blk_new (w.alloc (.chan n #[] false 0 0 false)) (.cells #[.chan (some w.heap.size)] 89)
  simpa using this

set_option maxHeartbeats 400000 in
theorem newS_no (n : Int) (h1 : n < 1 ∨ 4096 < n) (w : World) :
    Calls Try.prog 16 #[.int .i64 n] w fun e w' => e = .returned (.tuple #[.pointer none, .int .i64 13]) ∧ w' = w := by
  rcases h1 with h1 | h1
  · go_enter Try.func16, Try.ntmps16
    go_wp2
    go_ret2
    exact ⟨rfl, rfl⟩
  · have h1' : ¬ n < 1 := by omega
    go_enter Try.func16, Try.ntmps16
    go_wp2
    go_ret2
    exact ⟨rfl, rfl⟩

set_option maxHeartbeats 400000 in
theorem putS_room (b c : Nat) (x : ByteArray) (cap : Nat) (xs : List Value) (w : World) (hq : QAt 89 w b c cap xs) (hroom : xs.length < cap) :
    Calls Try.prog 17 #[.pointer (some ⟨b, 0, none⟩), Value.string x] w fun e w' => e = .returned (.int .i64 0) ∧ QAt 89 w' b c cap (xs ++ [Value.string x]) ∧ Fr (· = c) w w' := by
  have hne := hq.ne
  obtain ⟨hb0, ns, nr, hc⟩ := hq
  have hb : w.cell? ⟨b, 0, none⟩ = some (.chan (some c)) := blk_cell hb0 0
  have H : Hid (QAt 89 (w.setChan c cap (xs.toArray.push (Value.string x)) false (ns + 1) nr false) b c cap (xs ++ [Value.string x]) ∧ Fr (· = c) w (w.setChan c cap (xs.toArray.push (Value.string x)) false (ns + 1) nr false)) :=
    ⟨⟨blk_chan hb0 hne _ _ _ _ _ _, ns + 1, nr, by rw [heap_setChan _ _ _ _ _ _ _ _ (blk_lt hc)]; simp⟩, Fr.setChan (S := (· = c)) (Fr.refl _ _) (.inl rfl) _ _ _ _ _ _⟩
  refine calls_of_wpN Try.func17 rfl ?_
  simp only [Try.ntmps17, List.size_toArray, List.length_cons, List.length_nil, Nat.reduceAdd, Nat.reduceSub, Array.replicate_succ,
     Array.replicate_zero, List.push_toArray, List.append_toArray, List.nil_append, List.cons_append]
  refine wpN_seq ?_
  go_wp2
  refine wpN_seq ?_
  go_wp2
  refine wpN_seqN ?_
  refine wpN_send_room (v := Value.string x) _ (z9 _) rfl rfl hc (by simpa using hroom) ?_
  simp only [Act.put, List.setIfInBounds_toArray, List.set_cons_zero, List.set_cons_succ]
  obtain ⟨W, hW⟩ : ∃ W, w.setChan c cap (xs.toArray.push (Value.string x)) false (ns + 1) nr false = W := ⟨_, rfl⟩
  rw [hW] at H ⊢
  clear hW
  go_wp2
  refine wpN_of_wp ?_
  go_wp2
  go_ret
  exact ⟨rfl, H.out⟩

set_option maxHeartbeats 400000 in
theorem putS_full (b c : Nat) (x : ByteArray) (cap : Nat) (xs : List Value) (w : World) (hq : QAt 89 w b c cap xs) (hfull : cap ≤ xs.length) :
    Calls Try.prog 17 #[.pointer (some ⟨b, 0, none⟩), Value.string x] w fun e w' => e = .returned (.int .i64 17) ∧ w' = w := by
  obtain ⟨hb0, ns, nr, hc⟩ := hq
  have hb : w.cell? ⟨b, 0, none⟩ = some (.chan (some c)) := blk_cell hb0 0
  refine calls_of_wpN Try.func17 rfl ?_
  simp only [Try.ntmps17, List.size_toArray, List.length_cons, List.length_nil, Nat.reduceAdd, Nat.reduceSub, Array.replicate_succ,
     Array.replicate_zero, List.push_toArray, List.append_toArray, List.nil_append, List.cons_append]
  refine wpN_seq ?_
  go_wp2
  refine wpN_seq ?_
  go_wp2
  refine wpN_seqN ?_
  refine wpN_send_full (v := Value.string x) _ (z9 _) rfl rfl hc (by simpa using hfull) ?_
  simp only [Act.put, List.setIfInBounds_toArray, List.set_cons_zero, List.set_cons_succ]
  go_wp2
  refine wpN_of_wp ?_
  go_wp2
  go_ret
  exact ⟨rfl, rfl⟩

set_option maxHeartbeats 400000 in
theorem takeS_some (b c : Nat) (x : ByteArray) (cap : Nat) (xs : List Value) (w : World) (hq : QAt 89 w b c cap (Value.string x :: xs)) :
    Calls Try.prog 18 #[.pointer (some ⟨b, 0, none⟩)] w fun e w' => e = .returned (.tuple #[Value.string x, .int .i64 0]) ∧ QAt 89 w' b c cap xs ∧ Fr (· = c) w w' := by
  have hne := hq.ne
  obtain ⟨hb0, ns, nr, hc⟩ := hq
  have hb : w.cell? ⟨b, 0, none⟩ = some (.chan (some c)) := blk_cell hb0 0
  have H : Hid (QAt 89 (w.setChan c cap xs.toArray false ns (nr + 1) false) b c cap xs ∧ Fr (· = c) w (w.setChan c cap xs.toArray false ns (nr + 1) false)) :=
    ⟨⟨blk_chan hb0 hne _ _ _ _ _ _, ns, nr + 1, heap_setChan _ _ _ _ _ _ _ _ (blk_lt hc)⟩, Fr.setChan (S := (· = c)) (Fr.refl _ _) (.inl rfl) _ _ _ _ _ _⟩
  refine calls_of_wpN Try.func18 rfl ?_
  simp only [Try.ntmps18, List.size_toArray, List.length_cons, List.length_nil, Nat.reduceAdd, Nat.reduceSub, Array.replicate_succ,
     Array.replicate_zero, List.push_toArray, List.append_toArray, List.nil_append, List.cons_append]
  refine wpN_seq ?_
  go_wp2
  refine wpN_seq ?_
  go_wp2
  refine wpN_seqN ?_
  refine wpN_recv_buf _ (z9 _) rfl hc (by simp) ?_
  rw [show (Value.string x :: xs).toArray.getD 0 undef = Value.string x from rfl, show (Value.string x :: xs).toArray.extract 1 (Value.string x :: xs).toArray.size = xs.toArray by simp]
  simp only [Act.put, List.setIfInBounds_toArray, List.set_cons_zero, List.set_cons_succ]
  obtain ⟨W, hW⟩ : ∃ W, w.setChan c cap xs.toArray false ns (nr + 1) false = W := ⟨_, rfl⟩
  rw [hW] at H ⊢
  clear hW
  go_wp2
  refine wpN_of_wp ?_
  go_wp2
  go_ret2
  exact ⟨rfl, H.out⟩

set_option maxHeartbeats 400000 in
theorem takeS_none (b c : Nat) (cap : Nat) (w : World) (hq : QAt 89 w b c cap []) :
    Calls Try.prog 18 #[.pointer (some ⟨b, 0, none⟩)] w fun e w' => e = .returned (.tuple #[.string ⟨#[]⟩, .int .i64 15]) ∧ w' = w := by
  obtain ⟨hb0, ns, nr, hc⟩ := hq
  have hb : w.cell? ⟨b, 0, none⟩ = some (.chan (some c)) := blk_cell hb0 0
  refine calls_of_wpN Try.func18 rfl ?_
  simp only [Try.ntmps18, List.size_toArray, List.length_cons, List.length_nil, Nat.reduceAdd, Nat.reduceSub, Array.replicate_succ,
     Array.replicate_zero, List.push_toArray, List.append_toArray, List.nil_append, List.cons_append]
  refine wpN_seq ?_
  go_wp2
  refine wpN_seq ?_
  go_wp2
  refine wpN_seqN ?_
  refine wpN_recv_empty _ (z9 _) rfl hc ?_
  simp only [Act.put, List.setIfInBounds_toArray, List.set_cons_zero, List.set_cons_succ]
  go_wp2
  refine wpN_of_wp ?_
  go_wp2
  go_ret2
  exact ⟨rfl, rfl⟩

/-! ### at elements of type 3 -/
theorem bytes3 : ∃ i, Try.prog.info? 3 = some i ∧ i.bytes = 8 := by
  have h : (Try.prog.info? 3).map (·.bytes) = some 8 := by kernel_rfl
  obtain ⟨i, hi, hb⟩ := Option.map_eq_some_iff.1 h
  exact ⟨i, hi, hb⟩
theorem mk90 (n : Nat) (h : n ≤ 4096) (w : World) : (Instr.makeChan 90 (.int .i64 n)).run Try.prog w = .ok (.chan (some w.heap.size)) (w.alloc (.chan n #[] false 0 0 false)) := by
  obtain ⟨i, hi, hb⟩ := bytes3
  simpa using run_makeChan (P := Try.prog) (w := w) Try.underlying90 hi .i64 n (by omega) (by rw [hb]; omega)
theorem z3 (w : World) : (zeroValue 3).run Try.prog w = .ok (.int .i64 0) w := by kernel_rfl

set_option maxHeartbeats 400000 in
theorem newI_ok (n0 : Int) (h1 : 1 ≤ n0) (h2 : n0 ≤ 4096) (w : World) :
    Calls Try.prog 19 #[.int .i64 n0] w fun e w' => e = .returned (.tuple #[.pointer (some ⟨w.heap.size + 1, 0, none⟩), .int .i64 0]) ∧
      QAt 92 w' (w.heap.size + 1) w.heap.size n0.toNat [] ∧ Below w.heap.size w w' ∧ w'.heap.size = w.heap.size + 2 := by
  obtain ⟨n, rfl⟩ := Int.eq_ofNat_of_zero_le (by omega : 0 ≤ n0)
  rw [Int.toNat_natCast]
  have hm := mk90 n (by omega)
  go_enter Try.func19, Try.ntmps19
  go_wp2
  go_ret2
  refine ⟨rfl, ⟨?_, 0, 0, blk_alloc (blk_new _ _) _⟩, ((Below.refl _ _).alloc (Nat.le_refl _) _).alloc (by simp) _, by simp⟩
  have := blk_new (w.alloc (.chan n #[] false 0 0 false)) (.cells #[.chan (some w.heap.size)] 92)
  simpa using this

set_option maxHeartbeats 400000 in
theorem newI_no (n : Int) (h1 : n < 1 ∨ 4096 < n) (w : World) :
    Calls Try.prog 19 #[.int .i64 n] w fun e w' => e = .returned (.tuple #[.pointer none, .int .i64 13]) ∧ w' = w := by
  rcases h1 with h1 | h1
  · go_enter Try.func19, Try.ntmps19
    go_wp2
    go_ret2
    exact ⟨rfl, rfl⟩
  · have h1' : ¬ n < 1 := by omega
    go_enter Try.func19, Try.ntmps19
    go_wp2
    go_ret2
    exact ⟨rfl, rfl⟩

set_option maxHeartbeats 400000 in
theorem putI_room (b c : Nat) (x : Int) (cap : Nat) (xs : List Value) (w : World) (hq : QAt 92 w b c cap xs) (hroom : xs.length < cap) :
    Calls Try.prog 20 #[.pointer (some ⟨b, 0, none⟩), Value.int .i64 x] w fun e w' => e = .returned (.int .i64 0) ∧ QAt 92 w' b c cap (xs ++ [Value.int .i64 x]) ∧ Fr (· = c) w w' := by
  have hne := hq.ne
  obtain ⟨hb0, ns, nr, hc⟩ := hq
  have hb : w.cell? ⟨b, 0, none⟩ = some (.chan (some c)) := blk_cell hb0 0
  have H : Hid (QAt 92 (w.setChan c cap (xs.toArray.push (Value.int .i64 x)) false (ns + 1) nr false) b c cap (xs ++ [Value.int .i64 x]) ∧ Fr (· = c) w (w.setChan c cap (xs.toArray.push (Value.int .i64 x)) false (ns + 1) nr false)) :=
    ⟨⟨blk_chan hb0 hne _ _ _ _ _ _, ns + 1, nr, by rw [heap_setChan _ _ _ _ _ _ _ _ (blk_lt hc)]; simp⟩, Fr.setChan (S := (· = c)) (Fr.refl _ _) (.inl rfl) _ _ _ _ _ _⟩
  refine calls_of_wpN Try.func20 rfl ?_
  simp only [Try.ntmps20, List.size_toArray, List.length_cons, List.length_nil, Nat.reduceAdd, Nat.reduceSub, Array.replicate_succ,
     Array.replicate_zero, List.push_toArray, List.append_toArray, List.nil_append, List.cons_append]
  refine wpN_seq ?_
  go_wp2
  refine wpN_seq ?_
  go_wp2
  refine wpN_seqN ?_
  refine wpN_send_room (v := Value.int .i64 x) _ (z3 _) rfl rfl hc (by simpa using hroom) ?_
  simp only [Act.put, List.setIfInBounds_toArray, List.set_cons_zero, List.set_cons_succ]
  obtain ⟨W, hW⟩ : ∃ W, w.setChan c cap (xs.toArray.push (Value.int .i64 x)) false (ns + 1) nr false = W := ⟨_, rfl⟩
  rw [hW] at H ⊢
  clear hW
  go_wp2
  refine wpN_of_wp ?_
  go_wp2
  go_ret
  exact ⟨rfl, H.out⟩

set_option maxHeartbeats 400000 in
theorem putI_full (b c : Nat) (x : Int) (cap : Nat) (xs : List Value) (w : World) (hq : QAt 92 w b c cap xs) (hfull : cap ≤ xs.length) :
    Calls Try.prog 20 #[.pointer (some ⟨b, 0, none⟩), Value.int .i64 x] w fun e w' => e = .returned (.int .i64 17) ∧ w' = w := by
  obtain ⟨hb0, ns, nr, hc⟩ := hq
  have hb : w.cell? ⟨b, 0, none⟩ = some (.chan (some c)) := blk_cell hb0 0
  refine calls_of_wpN Try.func20 rfl ?_
  simp only [Try.ntmps20, List.size_toArray, List.length_cons, List.length_nil, Nat.reduceAdd, Nat.reduceSub, Array.replicate_succ,
     Array.replicate_zero, List.push_toArray, List.append_toArray, List.nil_append, List.cons_append]
  refine wpN_seq ?_
  go_wp2
  refine wpN_seq ?_
  go_wp2
  refine wpN_seqN ?_
  refine wpN_send_full (v := Value.int .i64 x) _ (z3 _) rfl rfl hc (by simpa using hfull) ?_
  simp only [Act.put, List.setIfInBounds_toArray, List.set_cons_zero, List.set_cons_succ]
  go_wp2
  refine wpN_of_wp ?_
  go_wp2
  go_ret
  exact ⟨rfl, rfl⟩

set_option maxHeartbeats 400000 in
theorem takeI_some (b c : Nat) (x : Int) (cap : Nat) (xs : List Value) (w : World) (hq : QAt 92 w b c cap (Value.int .i64 x :: xs)) :
    Calls Try.prog 21 #[.pointer (some ⟨b, 0, none⟩)] w fun e w' => e = .returned (.tuple #[Value.int .i64 x, .int .i64 0]) ∧ QAt 92 w' b c cap xs ∧ Fr (· = c) w w' := by
  have hne := hq.ne
  obtain ⟨hb0, ns, nr, hc⟩ := hq
  have hb : w.cell? ⟨b, 0, none⟩ = some (.chan (some c)) := blk_cell hb0 0
  have H : Hid (QAt 92 (w.setChan c cap xs.toArray false ns (nr + 1) false) b c cap xs ∧ Fr (· = c) w (w.setChan c cap xs.toArray false ns (nr + 1) false)) :=
    ⟨⟨blk_chan hb0 hne _ _ _ _ _ _, ns, nr + 1, heap_setChan _ _ _ _ _ _ _ _ (blk_lt hc)⟩, Fr.setChan (S := (· = c)) (Fr.refl _ _) (.inl rfl) _ _ _ _ _ _⟩
  refine calls_of_wpN Try.func21 rfl ?_
  simp only [Try.ntmps21, List.size_toArray, List.length_cons, List.length_nil, Nat.reduceAdd, Nat.reduceSub, Array.replicate_succ,
     Array.replicate_zero, List.push_toArray, List.append_toArray, List.nil_append, List.cons_append]
  refine wpN_seq ?_
  go_wp2
  refine wpN_seq ?_
  go_wp2
  refine wpN_seqN ?_
  refine wpN_recv_buf _ (z3 _) rfl hc (by simp) ?_
  rw [show (Value.int .i64 x :: xs).toArray.getD 0 undef = Value.int .i64 x from rfl, show (Value.int .i64 x :: xs).toArray.extract 1 (Value.int .i64 x :: xs).toArray.size = xs.toArray by simp]
  simp only [Act.put, List.setIfInBounds_toArray, List.set_cons_zero, List.set_cons_succ]
  obtain ⟨W, hW⟩ : ∃ W, w.setChan c cap xs.toArray false ns (nr + 1) false = W := ⟨_, rfl⟩
  rw [hW] at H ⊢
  clear hW
  go_wp2
  refine wpN_of_wp ?_
  go_wp2
  go_ret2
  exact ⟨rfl, H.out⟩

set_option maxHeartbeats 400000 in
theorem takeI_none (b c : Nat) (cap : Nat) (w : World) (hq : QAt 92 w b c cap []) :
    Calls Try.prog 21 #[.pointer (some ⟨b, 0, none⟩)] w fun e w' => e = .returned (.tuple #[.int .i64 0, .int .i64 15]) ∧ w' = w := by
  obtain ⟨hb0, ns, nr, hc⟩ := hq
  have hb : w.cell? ⟨b, 0, none⟩ = some (.chan (some c)) := blk_cell hb0 0
  refine calls_of_wpN Try.func21 rfl ?_
  simp only [Try.ntmps21, List.size_toArray, List.length_cons, List.length_nil, Nat.reduceAdd, Nat.reduceSub, Array.replicate_succ,
     Array.replicate_zero, List.push_toArray, List.append_toArray, List.nil_append, List.cons_append]
  refine wpN_seq ?_
  go_wp2
  refine wpN_seq ?_
  go_wp2
  refine wpN_seqN ?_
  refine wpN_recv_empty _ (z3 _) rfl hc ?_
  simp only [Act.put, List.setIfInBounds_toArray, List.set_cons_zero, List.set_cons_succ]
  go_wp2
  refine wpN_of_wp ?_
  go_wp2
  go_ret2
  exact ⟨rfl, rfl⟩

set_option maxHeartbeats 400000 in
theorem lenI (b c cap : Nat) (xs : List Value) (w : World) (hq : QAt 92 w b c cap xs) :
    Calls Try.prog 22 #[.pointer (some ⟨b, 0, none⟩)] w fun e w' => e = .returned (.int .i64 xs.length) ∧ w' = w := by
  obtain ⟨hb0, ns, nr, hc⟩ := hq
  have hb : w.cell? ⟨b, 0, none⟩ = some (.chan (some c)) := blk_cell hb0 0
  have hlen := fun ty => run_len_chan (P := Try.prog) 90 ty Try.underlying90 hc
  go_enter Try.func22, Try.ntmps22
  go_wp2
  go_ret
  exact ⟨by simp, rfl⟩
set_option maxHeartbeats 400000 in
theorem roomI (b c cap : Nat) (xs : List Value) (w : World) (hq : QAt 92 w b c cap xs) :
    Calls Try.prog 63 #[.pointer (some ⟨b, 0, none⟩)] w fun e w' => e = .returned (.int .i64 cap) ∧ w' = w := by
  obtain ⟨hb0, ns, nr, hc⟩ := hq
  have hb : w.cell? ⟨b, 0, none⟩ = some (.chan (some c)) := blk_cell hb0 0
  have hlen := fun ty => run_cap_chan (P := Try.prog) 90 ty Try.underlying90 hc
  go_enter Try.func63, Try.ntmps63
  go_wp2
  go_ret
  exact ⟨by simp, rfl⟩

end Go.Proofs.Ytcdblopnaimfoaa

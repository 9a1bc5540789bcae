/- A device: its plain state, its memory; New, has, State, Len, Down, Count, Zones, Size, begin, Crash. Conditions: a device is small. -/
import Derived.Test.YtkbagfpoegfcaaaD7
namespace Go.Proofs.Ytkbagfpoegfcaaa
open Go.RowKit Go.Conc

/-- A zone, a device, in plain words. -/
structure ZS where
  L : List Sec
  safe : Nat
  st : Int
  fin : Bool
structure DS where
  zs : List ZS
  size : Nat
  op : Nat
  n : Nat
  down : Bool
def ZS.zero : ZS := ⟨[], 0, 0, false⟩
structure ZS.Ok (size : Nat) (z : ZS) : Prop where
  len : z.L.length ≤ size
  safe : z.safe ≤ z.L.length
  st0 : 0 ≤ z.st
  st4 : z.st ≤ 4
  lt : z.st < 2 → z.L.length < size
structure DS.Ok (X : DS) : Prop where
  s1 : 1 ≤ X.size
  s2 : X.size ≤ 64
  o1 : 1 ≤ X.op
  o2 : X.op ≤ 64
  l1 : 1 ≤ X.zs.length
  l2 : X.zs.length ≤ 512
  z : ∀ z ∈ X.zs, z.Ok X.size
def DS.tick (X : DS) : DS := { X with n := X.n + 1 }
def DS.set (X : DS) (i : Nat) (z : ZS) : DS := { X with zs := X.zs.set i z }
def DS.opened (X : DS) : Nat := X.zs.countP fun z => z.st == 1
theorem DS.Ok.tick {X : DS} (h : X.Ok) : X.tick.Ok := ⟨h.s1, h.s2, h.o1, h.o2, h.l1, h.l2, h.z⟩
theorem DS.Ok.set {X : DS} (h : X.Ok) {i : Nat} {z : ZS} (hz : z.Ok X.size) : (X.set i z).Ok :=
  ⟨h.s1, h.s2, h.o1, h.o2, by simpa [DS.set] using h.l1, by simpa [DS.set] using h.l2, fun y hy => by
    rcases List.mem_or_eq_of_mem_set hy with h1 | rfl
    · exact h.z y h1
    · exact hz⟩
theorem DS.Ok.at {X : DS} (h : X.Ok) {i : Nat} (hi : i < X.zs.length) : (X.zs[i]).Ok X.size := h.z _ (List.getElem_mem hi)

/-- The device's memory. -/
structure DvAt (w : World) (d : Nat) (v : Value) (zb : Nat → Nat) (zv : Nat → Value) (X : DS) : Prop where
  dev : w.heap[d]? = some (.cells #[v, .int .i64 X.size, .int .i64 X.op, .int .i64 X.n, .bool X.down] 108 (0, 0))
  row : w.ownsRow 0 105 1 v X.zs.length ((List.range X.zs.length).map fun i => .pointer (some ⟨zb i, 0, none⟩))
  z : ∀ i (h : i < X.zs.length), ZAt w (zb i) (zv i) X.zs[i].L X.size X.zs[i].safe X.zs[i].st X.zs[i].fin
  ib : ∀ i j, i < X.zs.length → j < X.zs.length → zb i = zb j → i = j
  iv : ∀ i j k, i < X.zs.length → j < X.zs.length → (zv i).ownBlock = some k → (zv j).ownBlock = some k → i = j
def DFoot (d : Nat) (v : Value) (zb : Nat → Nat) (zv : Nat → Value) (n : Nat) (k : Nat) : Prop := k = d ∨ v.ownBlock = some k ∨ ∃ i, i < n ∧ Zf (zb i) (zv i) k
/-- The device at d, its blocks among those of F. -/
structure DvS (F : Nat → Prop) (w : World) (d : Nat) (X : DS) : Prop where
  ok : X.Ok
  mem : ∃ v zb zv, DvAt w d v zb zv X ∧ ∀ k, DFoot d v zb zv X.zs.length k → F k
section
variable {w w' : World} {d : Nat} {v : Value} {zb : Nat → Nat} {zv : Nat → Value} {X : DS} {S F : Nat → Prop}
theorem DvAt.fr (h : DvAt w d v zb zv X) (hf : Fr S w w') (hn : ∀ k, DFoot d v zb zv X.zs.length k → ¬ S k) : DvAt w' d v zb zv X :=
  ⟨hf.heap h.dev (hn _ (.inl rfl)), row_fr h.row hf (fun _ hk => hn _ (.inr (.inl hk))), fun i hi => (h.z i hi).fr hf (hn _ (.inr (.inr ⟨i, hi, .inl rfl⟩))) (fun k hk => hn _ (.inr (.inr ⟨i, hi, .inr hk⟩))), h.ib, h.iv⟩
theorem DvAt.fr0 (h : DvAt w d v zb zv X) (hf : Fr (fun _ => False) w w') : DvAt w' d v zb zv X := h.fr hf (fun _ _ => id)
theorem DvAt.lt (h : DvAt w d v zb zv X) {k : Nat} (hk : DFoot d v zb zv X.zs.length k) : k < w.heap.size := by
  rcases hk with rfl | hk | ⟨i, hi, hk⟩
  · exact blk_lt h.dev
  · exact (h.row.lt k hk).2
  · exact (h.z i hi).lt hk
theorem DvS.fr (h : DvS F w d X) (hf : Fr S w w') (hn : ∀ k, F k → ¬ S k) : DvS F w' d X := by
  obtain ⟨hok, v, zb, zv, h1, h2⟩ := h
  exact ⟨hok, v, zb, zv, h1.fr hf (fun k hk => hn k (h2 k hk)), h2⟩
theorem DvS.fr0 (h : DvS F w d X) (hf : Fr (fun _ => False) w w') : DvS F w' d X := h.fr hf (fun _ _ => id)
theorem DvS.mono {F' : Nat → Prop} (h : DvS F w d X) (hF : ∀ k, F k → k < w.heap.size → F' k) : DvS F' w d X := by
  obtain ⟨hok, v, zb, zv, h1, h2⟩ := h
  exact ⟨hok, v, zb, zv, h1, fun k hk => hF k (h2 k hk) (h1.lt hk)⟩
theorem DvAt.val (h : DvAt w d v zb zv X) (h1 : 1 ≤ X.zs.length) : ∃ g cap, v = .slice (some ⟨g, 0, none⟩) X.zs.length cap ∧ ∀ i, i < X.zs.length → w.cell? ⟨g, i, none⟩ = some (.pointer (some ⟨zb i, 0, none⟩)) := by
  rcases h.row.2 with ⟨-, h0⟩ | ⟨g, cap, cur, e, -, hg, h2, h3, h4, h5⟩
  · omega
  · refine ⟨g, cap, e, fun i hi => ?_⟩
    rw [blk_cell hg]
    have h6 : (cur.toList.take (X.zs.length * 1))[i]? = some (.pointer (some ⟨zb i, 0, none⟩)) := by rw [h5]; simp [hi]
    rw [List.getElem?_take, if_pos (by omega)] at h6
    simpa using h6
/-- Where an index leads. -/
def Ptrs (w : World) (g : Nat) (zb : Nat → Nat) (n : Nat) : Prop := ∀ i, i < n → w.cell? ⟨g, i, none⟩ = some (.pointer (some ⟨zb i, 0, none⟩))
/-- A cell of the device itself is stored. -/
theorem DvAt.put3 (h : DvAt w d v zb zv X) (n : Nat) : DvAt (w.setCell ⟨d, 3, none⟩ (.int .i64 n)) d v zb zv { X with n := n } := by
  have hf := Fr.set1 w d 3 (.int .i64 (n : Int))
  refine ⟨by simpa using blk_put h.dev 3 (.int .i64 (n : Int)), row_fr h.row hf (fun k hk e => ?_), fun i hi => (h.z i hi).fr hf (fun e => ?_) (fun k hk e => ?_), h.ib, h.iv⟩
  · obtain ⟨cur, hc⟩ := row_obj h.row hk; exact ne_ty hc h.dev (by decide) e
  · exact ne_ty (h.z i hi).z h.dev (by decide) e
  · obtain ⟨cur, hc⟩ := row_obj (h.z i hi).row hk; exact ne_ty hc h.dev (by decide) e
theorem DvAt.put4 (h : DvAt w d v zb zv X) (n : Bool) : DvAt (w.setCell ⟨d, 4, none⟩ (.bool n)) d v zb zv { X with down := n } := by
  have hf := Fr.set1 w d 4 (.bool n)
  refine ⟨by simpa using blk_put h.dev 4 (.bool n), row_fr h.row hf (fun k hk e => ?_), fun i hi => (h.z i hi).fr hf (fun e => ?_) (fun k hk e => ?_), h.ib, h.iv⟩
  · obtain ⟨cur, hc⟩ := row_obj h.row hk; exact ne_ty hc h.dev (by decide) e
  · exact ne_ty (h.z i hi).z h.dev (by decide) e
  · obtain ⟨cur, hc⟩ := row_obj (h.z i hi).row hk; exact ne_ty hc h.dev (by decide) e
def updV' (zv : Nat → Value) (i : Nat) (v : Value) : Nat → Value := fun j => if j = i then v else zv j
theorem updV'_same (zv : Nat → Value) (i : Nat) (v : Value) : updV' zv i v i = v := if_pos rfl
theorem updV'_other (zv : Nat → Value) {i j : Nat} (v : Value) (h : j ≠ i) : updV' zv i v j = zv j := if_neg h
/-- One zone turns. -/
theorem DvAt.zone (h : DvAt w d v zb zv X) {i : Nat} (hi : i < X.zs.length) {v' : Value} {z : ZS} (hz : ZAt w' (zb i) v' z.L X.size z.safe z.st z.fin) (hf : Fr (Zf (zb i) (zv i)) w w') (hv : ∀ k, v'.ownBlock = some k → (zv i).ownBlock = some k ∨ w.heap.size ≤ k) :
    DvAt w' d v zb (updV' zv i v') (X.set i z) ∧ ∀ k, DFoot d v zb (updV' zv i v') (X.set i z).zs.length k → DFoot d v zb zv X.zs.length k ∨ w.heap.size ≤ k := by
  have hl : (X.set i z).zs.length = X.zs.length := by simp [DS.set]
  have own : ∀ j k, j < X.zs.length → (updV' zv i v' j).ownBlock = some k → (zv j).ownBlock = some k ∨ w.heap.size ≤ k := by
    intro j k hj hk
    by_cases e : j = i
    · subst e; rw [updV'_same] at hk; exact hv k hk
    · rw [updV'_other _ _ e] at hk; exact .inl hk
  refine ⟨⟨hf.heap h.dev ?_, row_fr (by rw [hl]; exact h.row) hf (fun k hk hz => ?_), fun j hj => ?_, by rw [hl]; exact h.ib, ?_⟩, ?_⟩
  · rintro (e | e)
    · exact ne_ty h.dev (h.z i hi).z (by decide) e
    · obtain ⟨cur, hc⟩ := row_obj (h.z i hi).row e; exact ne_ty hc h.dev (by decide) rfl
  · obtain ⟨c1, h1⟩ := row_obj h.row hk
    rcases hz with e | e
    · exact ne_ty h1 (h.z i hi).z (by decide) e
    · obtain ⟨cur, hc⟩ := row_obj (h.z i hi).row e; exact ne_ty hc h1 (by decide) rfl
  · have hj' : j < X.zs.length := by rwa [hl] at hj
    by_cases e : j = i
    · subst e
      have e2 : (X.set j z).zs[j] = z := by simp [DS.set]
      rw [updV'_same, e2]
      exact hz
    · have e2 : (X.set i z).zs[j] = X.zs[j] := by simp [DS.set, List.getElem_set_ne (Ne.symm e)]
      rw [updV'_other _ _ e, e2]
      refine (h.z j hj').fr hf ?_ (fun k hk => ?_)
      · rintro (e3 | e3)
        · exact e (h.ib _ _ hj' hi e3)
        · obtain ⟨cur, hc⟩ := row_obj (h.z i hi).row e3; exact ne_ty hc (h.z j hj').z (by decide) rfl
      · obtain ⟨c1, h1⟩ := row_obj (h.z j hj').row hk
        rintro (e3 | e3)
        · exact ne_ty h1 (h.z i hi).z (by decide) e3
        · exact e (h.iv _ _ _ hj' hi hk e3)
  · intro a b k ha hb h1 h2
    rw [hl] at ha hb
    have hold : ∀ j, j < X.zs.length → (zv j).ownBlock = some k → k < w.heap.size := fun j hj hk => (h.z j hj).lt (.inr hk)
    by_cases ea : a = i
    · by_cases eb : b = i
      · rw [ea, eb]
      · subst ea
        rw [updV'_other _ _ eb] at h2
        rw [updV'_same] at h1
        rcases hv k h1 with h3 | h3
        · exact h.iv _ _ _ ha hb h3 h2
        · have := hold b hb h2; omega
    · rw [updV'_other _ _ ea] at h1
      by_cases eb : b = i
      · subst eb
        rw [updV'_same] at h2
        rcases hv k h2 with h3 | h3
        · exact h.iv _ _ _ ha hb h1 h3
        · have := hold a ha h1; omega
      · rw [updV'_other _ _ eb] at h2
        exact h.iv _ _ _ ha hb h1 h2
  · rintro k (hk | hk | ⟨j, hj, hk⟩)
    · exact .inl (.inl hk)
    · exact .inl (.inr (.inl hk))
    · rw [hl] at hj
      rcases hk with hk | hk
      · exact .inl (.inr (.inr ⟨j, hj, .inl hk⟩))
      · rcases own j k hj hk with h1 | h1
        · exact .inl (.inr (.inr ⟨j, hj, .inr h1⟩))
        · exact .inr h1

/-- What a call leaves that turns the device. -/
def DvQ (F : Nat → Prop) (w : World) (d : Nat) (Y : DS) (w' : World) : Prop := DvS (fun k => F k ∨ w.heap.size ≤ k) w' d Y ∧ Fr F w w'
theorem DvQ.same (h : DvS F w d X) (hf : Fr (fun _ => False) w w') : DvQ F w d X w' := ⟨(h.fr0 hf).mono (fun _ hk _ => .inl hk), hf.mono (fun _ _ h => h.elim)⟩

/-! ### what only reads -/
theorem has_yes (h : DvAt w d v zb zv X) {k : Nat} (hk : k < X.zs.length) : Calls Try.prog 60 #[.pointer (some ⟨d, 0, none⟩), .int .i64 k] w fun e w' => e = .returned (.bool true) ∧ w' = w := by
  obtain ⟨a, cap, rfl⟩ := row_val h.row
  have cg := fun i => blk_cell h.dev i
  have h1 : (k : Int) < (X.zs.length : Int) := by omega
  have h2 : (0 : Int) ≤ (k : Int) := by omega
  go_enter Try.func60, Try.ntmps60
  go_wp2
  go_ret
  exact ⟨rfl, rfl⟩
theorem has_no (h : DvAt w d v zb zv X) {x : Int} (hx : x < 0 ∨ X.zs.length ≤ x) : Calls Try.prog 60 #[.pointer (some ⟨d, 0, none⟩), .int .i64 x] w fun e w' => e = .returned (.bool false) ∧ w' = w := by
  obtain ⟨a, cap, rfl⟩ := row_val h.row
  have cg := fun i => blk_cell h.dev i
  rcases hx with hx | hx
  · go_enter Try.func60, Try.ntmps60
    go_wp2
    go_ret
    exact ⟨rfl, rfl⟩
  · have h0 : 0 ≤ x := by omega
    have h1 : ¬ x < (X.zs.length : Int) := by omega
    go_enter Try.func60, Try.ntmps60
    go_wp2
    go_ret
    exact ⟨rfl, rfl⟩
end
end Go.Proofs.Ytkbagfpoegfcaaa

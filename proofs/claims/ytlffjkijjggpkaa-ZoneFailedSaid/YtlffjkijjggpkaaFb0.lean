/- What the law on a zone's beginnings keeps; cuts. No condition. -/
import Derived.Test.YtlffjkijjggpkaaZw
import Derived.Test.YtlffjkijjggpkaaArgs
import Derived.Test.YtlffjkijjggpkaaRm
namespace Go.Proofs.Ytlffjkijjggpkaa
open Go.RowKit Go.Conc

def ints (L : List Int) : List Value := L.map (.int .i64)
theorem ints_length (L : List Int) : (ints L).length = L.length := List.length_map _
theorem ints_one (L : List Int) : ∀ u ∈ ints L, u.oneCell' = true := by
  intro u hu; obtain ⟨x, -, rfl⟩ := List.mem_map.1 hu; rfl

/-- The answer's cell, the zone, and the row of what was appended. -/
structure Zq (w W : World) (b t : Nat) (size : Int) (v vw : Value) (L Lw : List Int) (safe st : Int) (fin : Bool) : Prop where
  rc : W.heap[w.heap.size]? = some (.cells #[.bool false] 4 (0, 0))
  zn : ZAt 58 3 w.heap.size W b v (ints L) size safe st fin
  tc : W.heap[t]? = some (.cells #[vw] 39 (0, 0))
  row : W.ownsRow w.heap.size 3 1 vw Lw.length (ints Lw)
  sep : ∀ k, vw.ownBlock = some k → v.ownBlock ≠ some k
  bl : Below w.heap.size w W
  tb : w.heap.size ≤ t
/-- Its blocks. -/
def Zfoot (w : World) (b t : Nat) (v vw : Value) (k : Nat) : Prop := k = w.heap.size ∨ k = b ∨ k = t ∨ v.ownBlock = some k ∨ vw.ownBlock = some k

section
variable {w W W' : World} {b t : Nat} {size : Int} {v vw : Value} {L Lw : List Int} {safe st : Int} {fin : Bool} {S : Nat → Prop}
theorem row_obj {W : World} {base : Nat} {e : TypeId} {n : Nat} {xs : List Value} {u : Value} (h : W.ownsRow base e 1 u n xs) {k : Nat} (hk : u.ownBlock = some k) : ∃ cur, W.heap[k]? = some (.cells cur e (0, 0)) := by
  rcases h.2 with ⟨rfl, _⟩ | ⟨g, cap, cur, rfl, _, hg, _⟩
  · cases hk
  · cases hk; exact ⟨cur, hg⟩
theorem ne_obj {W : World} {k j : Nat} {o o' : Obj} (h : W.heap[k]? = some o) (h' : W.heap[j]? = some o') (hn : o ≠ o') : k ≠ j := by
  rintro rfl; rw [h] at h'; cases h'; exact hn rfl
theorem Zq.lt (h : Zq w W b t size v vw L Lw safe st fin) {k : Nat} (hk : Zfoot w b t v vw k) : w.heap.size ≤ k ∧ k < W.heap.size := by
  rcases hk with rfl | rfl | rfl | hk | hk
  · exact ⟨Nat.le_refl _, blk_lt h.rc⟩
  · exact ⟨h.zn.bb, h.zn.lt⟩
  · exact ⟨h.tb, blk_lt h.tc⟩
  · exact h.zn.rlt hk
  · exact h.row.lt k hk
/-- What lies elsewhere may turn. -/
theorem Zq.fr (h : Zq w W b t size v vw L Lw safe st fin) (hf : Fr S W W') (hS : ∀ k, Zfoot w b t v vw k → ¬ S k) (hS2 : ∀ k, S k → w.heap.size ≤ k) : Zq w W' b t size v vw L Lw safe st fin :=
  ⟨hf.heap h.rc (hS _ (.inl rfl)), h.zn.fr hf (hS _ (.inr (.inl rfl))) (fun k hk => hS k (.inr (.inr (.inr (.inl hk))))), hf.heap h.tc (hS _ (.inr (.inr (.inl rfl)))),
    row_fr h.row hf (fun k hk => hS k (.inr (.inr (.inr (.inr hk))))), h.sep, h.bl.trans (hf.below h.bl.size (fun i hi hk => by have := hS2 i hk; omega)), h.tb⟩
/-- Only the zone turns. -/
theorem Zq.zone (h : Zq w W b t size v vw L Lw safe st fin) {v' : Value} {L' : List Int} {safe' st' : Int} {fin' : Bool} (hz : ZAt 58 3 w.heap.size W' b v' (ints L') size safe' st' fin') (hf : Fr (Zf b v) W W')
    (ho : ∀ k, v'.ownBlock = some k → v.ownBlock = some k ∨ W.heap.size ≤ k) : Zq w W' b t size v' vw L' Lw safe' st' fin' := by
  have hn : ∀ (k : Nat) (o : Obj), W.heap[k]? = some o → (∀ cur, o ≠ .cells cur 58 (0, 0)) → (∀ cur, o ≠ .cells cur 3 (0, 0)) → ¬ Zf b v k := by
    rintro k o hk h1 h2 (rfl | e)
    · exact ne_obj hk h.zn.z (h1 _) rfl
    · obtain ⟨cur, hc⟩ := row_obj h.zn.row e
      exact ne_obj hk hc (h2 _) rfl
  refine ⟨hf.heap h.rc (hn _ _ h.rc (by intro c e; cases e) (by intro c e; cases e)), hz, hf.heap h.tc (hn _ _ h.tc (by intro c e; cases e) (by intro c e; cases e)), row_fr h.row hf ?_, ?_, ?_, h.tb⟩
  · rintro k hk (rfl | e)
    · obtain ⟨cur, hc⟩ := row_obj h.row hk
      exact ne_obj hc h.zn.z (by intro e; cases e) rfl
    · exact h.sep k hk e
  · intro k hk e
    rcases ho k e with e | e
    · exact h.sep k hk e
    · have := (h.row.lt k hk).2; omega
  · exact h.bl.trans (hf.below h.bl.size (fun i hi hk => by rcases hk with rfl | hk; have := h.zn.bb; omega; have := h.zn.rlt hk; omega))
/-- Only the row of what was appended turns. -/
theorem Zq.was (h : Zq w W b t size v vw L Lw safe st fin) {vw' : Value} {Lw' : List Int} (hf : Fr (fun k => k = t) W W') (ht : W'.heap[t]? = some (.cells #[vw'] 39 (0, 0)))
    (hr : W'.ownsRow w.heap.size 3 1 vw' Lw'.length (ints Lw')) (hs : ∀ k, vw'.ownBlock = some k → v.ownBlock ≠ some k) : Zq w W' b t size v vw' L Lw' safe st fin := by
  refine ⟨hf.heap h.rc ?_, h.zn.fr hf ?_ ?_, ht, hr, hs, h.bl.trans (hf.below h.bl.size (fun i hi hk => by have := h.tb; omega)), h.tb⟩
  · exact ne_obj h.rc h.tc (by intro e; cases e)
  · exact ne_obj h.zn.z h.tc (by intro e; cases e)
  · intro k hk
    obtain ⟨cur, hc⟩ := row_obj h.zn.row hk
    exact ne_obj hc h.tc (by intro e; cases e)
end

/-- The numbers of a zone fit together. -/
structure Good (n size safe st : Int) : Prop where
  s0 : 0 ≤ safe
  s1 : safe ≤ n
  n1 : n ≤ size
  t0 : 0 ≤ st
  t1 : st ≤ 4
  op : st < 2 → n < size
end Go.Proofs.Ytlffjkijjggpkaa

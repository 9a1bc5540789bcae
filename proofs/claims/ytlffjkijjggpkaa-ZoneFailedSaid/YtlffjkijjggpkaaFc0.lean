/- What the laws on a zone's plays keep. No condition. -/
import Derived.Test.YtlffjkijjggpkaaZp
namespace Go.Proofs.Ytlffjkijjggpkaa
open Go.RowKit Go.Conc

/-- The zone and the document's, whose cells lie at xb. -/
structure Zall (w W : World) (b xb : Nat) (size : Int) (v x : Value) (L : List Int) (safe st : Int) (fin : Bool) : Prop where
  zs : Zst w.heap.size W b size v x L safe st fin
  xc : W.heap[xb]? = some (.cells #[x, .int .i64 size, .int .i64 safe, .int .i64 st, .bool fin] 49 (0, 0))
  bl : Below w.heap.size w W
  xg : w.heap.size ≤ xb
def Zfa (b xb : Nat) (v x : Value) (k : Nat) : Prop := Zsf b v x k ∨ k = xb
section
variable {w W W' : World} {b xb : Nat} {size : Int} {v x v' x' : Value} {L L' : List Int} {safe st safe' st' K : Int} {fin fin' : Bool} {S : Nat → Prop} {ds : List Nat}
theorem Zall.lt (h : Zall w W b xb size v x L safe st fin) {k : Nat} (hk : Zfa b xb v x k) : w.heap.size ≤ k ∧ k < W.heap.size := by
  rcases hk with hk | rfl
  · exact h.zs.lt hk
  · exact ⟨h.xg, blk_lt h.xc⟩
theorem Zall.fr (h : Zall w W b xb size v x L safe st fin) (hf : Fr S W W') (hS : ∀ k, Zfa b xb v x k → ¬ S k) (hS2 : ∀ k, S k → w.heap.size ≤ k) : Zall w W' b xb size v x L safe st fin :=
  ⟨h.zs.fr hf (hS _ (.inl (.inl rfl))) (fun k hk => hS _ (.inl (.inr (.inl hk)))) (fun k hk => hS _ (.inl (.inr (.inr hk)))), hf.heap h.xc (hS _ (.inr rfl)),
    h.bl.trans (hf.below h.bl.size (fun i hi hk => by have := hS2 i hk; omega)), h.xg⟩
theorem Zall.fr0 (h : Zall w W b xb size v x L safe st fin) (hf : Fr (fun _ => False) W W') : Zall w W' b xb size v x L safe st fin := h.fr hf (fun _ _ => id) (fun _ h => h.elim)
/-- What the zone turns is no other block. -/
theorem zf_ne {T : TypeId} {cs : Array Value} {k : Nat} {f : Nat × Nat} {base : Nat} {LL : List Value} (hz : ZAt 58 3 base W b v LL size safe st fin) (hk : W.heap[k]? = some (.cells cs T f)) (h1 : T ≠ 58) (h2 : T ≠ 3) : ¬ Zf b v k := by
  rintro (rfl | e)
  · exact ne_obj hk hz.z (by intro e; cases e; exact h1 rfl) rfl
  · obtain ⟨cur, hc⟩ := row_obj hz.row e
    exact ne_obj hk hc (by intro e; cases e; exact h2 rfl) rfl
theorem Zall.kept (h : Zall w W b xb size v x L safe st fin) (hs : Stepped w.heap.size W b size v x L st K v' x' L' safe' st' fin' W') : W'.heap[xb]? = some (.cells #[x, .int .i64 size, .int .i64 safe, .int .i64 st, .bool fin] 49 (0, 0)) :=
  hs.2.1.heap h.xc (zf_ne h.zs.zn h.xc (by decide) (by decide))
theorem Zall.step (h : Zall w W b xb size v x L safe st fin) (hs : Stepped w.heap.size W b size v x L st K v' x' L' safe' st' fin' W') :
    Zall w (((((W'.setCell ⟨xb, 0, none⟩ x').setCell ⟨xb, 1, none⟩ (.int .i64 size)).setCell ⟨xb, 2, none⟩ (.int .i64 safe')).setCell ⟨xb, 3, none⟩ (.int .i64 st')).setCell ⟨xb, 4, none⟩ (.bool fin')) b xb size v' x' L' safe' st' fin' := by
  have hk := h.kept hs
  have F := put5_fr W' xb x' (.int .i64 size) (.int .i64 safe') (.int .i64 st') (.bool fin')
  have hb' : Below w.heap.size w W' := h.bl.trans (hs.2.1.below h.bl.size (fun i hi hz => by have := h.zs.lt (k := i) (by rcases hz with e | e; exact .inl e; exact .inr (.inl e)); omega))
  have hxg := h.xg
  refine ⟨hs.1.fr F (ne_obj hs.1.zn.z hk (by intro e; cases e)) (fun k hk' => row_ne hs.1.zn.row hk (by decide) hk') (fun k hk' => row_ne hs.1.row hk (by decide) hk'), put5 hk _ _ _ _ _, hb'.trans (F.below hb'.size (fun i hi e => by omega)), h.xg⟩
/-- Marks and other blocks stay. -/
theorem Zall.far (h : Zall w W b xb size v x L safe st fin) (hs : Stepped w.heap.size W b size v x L st K v' x' L' safe' st' fin' W') {k : Nat} {o : Obj} (hk : W.heap[k]? = some o) (h1 : ∀ cs, o ≠ .cells cs 58 (0, 0)) (h2 : ∀ cs, o ≠ .cells cs 3 (0, 0)) : W'.heap[k]? = some o := by
  refine hs.2.1.heap hk ?_
  rintro (rfl | e)
  · exact ne_obj hk h.zs.zn.z (h1 _) rfl
  · obtain ⟨cur, hc⟩ := row_obj h.zs.zn.row e
    exact ne_obj hk hc (h2 _) rfl
/-- At the start. -/
theorem Zall.start {w W : World} {b : Nat} {size : Int} (hz : ZAt 58 3 w.heap.size W b (.slice none 0 0) (ints []) size 0 0 false) (hb : Below w.heap.size w W) (h1 : 1 ≤ size) (h2 : size ≤ 64) :
    Zall w (W.alloc (.cells #[.slice none 0 0, .int .i64 size, .int .i64 0, .int .i64 0, .bool false] 49)) b W.heap.size size (.slice none 0 0) (.slice none 0 0) [] 0 0 false :=
  ⟨⟨hz.fr ((Fr.refl (fun _ => False) W).alloc _) id (fun _ _ => id), World.ownsRow_nil _ _ _ _, (fun k hk => by cases hk), ⟨by omega, by simp, by simp; omega, by omega, by omega, by simp; omega⟩, h2, h1⟩, blk_new _ _, hb.alloc hb.size _, hb.size⟩
end
end Go.Proofs.Ytlffjkijjggpkaa

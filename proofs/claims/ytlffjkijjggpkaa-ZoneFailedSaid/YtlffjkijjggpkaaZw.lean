/- The document's example of a zone. No condition. -/
import Derived.Test.YtlffjkijjggpkaaZx
namespace Go.Proofs.Ytlffjkijjggpkaa
open Go.RowKit Go.Conc

set_option maxHeartbeats 1000000 in
theorem anchor6 (w : World) : Calls Try.prog 7 #[] w fun e w' => e = .returned (.bool true) ∧ Below w.heap.size w w' := by
  go_enter Try.func7, Try.ntmps7
  go_wp2_with fail
  refine (newI_ok (by omega) (by omega) _).mono ?_
  rintro e w1 ⟨rfl, rfl⟩
  have h1 := newI_at (base := w.heap.size) w 4 (Nat.le_refl _)
  have b1 : Below w.heap.size w (w.alloc (.cells #[.slice none 0 0, .int .i64 4, .int .i64 0, .int .i64 0, .bool false] 58)) := (Below.refl _ w).alloc (Nat.le_refl _) _
  generalize w.alloc (.cells #[.slice none 0 0, .int .i64 4, .int .i64 0, .int .i64 0, .bool false] 58) = w1 at h1 b1 ⊢
  go_wp2_with fail
  refine (appendI_room h1 rfl (by omega) (by simp) 1).mono ?_
  rintro e w2 ⟨rfl, v2, h2, f2, o2⟩
  have b2 := b1.trans (f2.below b1.size (fun i hi hk => by rcases hk with rfl | hk; omega; have := h1.rlt hk; omega))
  clear f2 o2 b1 h1
  go_wp2_with fail
  refine (appendI_room h2 rfl (by decide) (by simp) 2).mono ?_
  rintro e w3 ⟨rfl, v3, h3, f3, o3⟩
  have b3 := b2.trans (f3.below b2.size (fun i hi hk => by rcases hk with rfl | hk; omega; have := h2.rlt hk; omega))
  clear f3 o3 b2 h2
  go_wp2_with fail
  refine (flushI h3).mono ?_
  rintro e w4 ⟨⟨u, rfl⟩, h4, f4⟩
  have b4 := b3.trans (f4.below b3.size (fun i hi hk => by rcases hk with rfl | hk; omega; have := h3.rlt hk; omega))
  clear f4 b3 h3
  go_wp2_with fail
  refine (appendI_room h4 rfl (by decide) (by simp) 3).mono ?_
  rintro e w5 ⟨rfl, v5, h5, f5, o5⟩
  have b5 := b4.trans (f5.below b4.size (fun i hi hk => by rcases hk with rfl | hk; omega; have := h4.rlt hk; omega))
  clear f5 o5 b4 h4
  go_wp2_with fail
  refine (crashI h5 (by simp) (by simp) (by simp) (by simp [Value.oneCell']) 0 2 (by decide)).mono ?_
  rintro e w6 ⟨⟨u, rfl⟩, v6, h6, f6, o6⟩
  have b6 := b5.trans (f6.below b5.size (fun i hi hk => by rcases hk with rfl | hk; omega; have := h5.rlt hk; omega))
  clear f6 o6 b5 h5
  simp at h6
  go_wp2_with fail
  refine (lenI h6).mono ?_
  rintro e w7 ⟨rfl, rfl⟩
  go_wp2_with fail
  refine (stateI h6).mono ?_
  rintro e w7 ⟨rfl, rfl⟩
  go_wp2_with fail
  refine (safeI h6).mono ?_
  rintro e w7 ⟨rfl, rfl⟩
  go_wp2
  go_ret
  exact ⟨by simp, b6⟩
end Go.Proofs.Ytlffjkijjggpkaa

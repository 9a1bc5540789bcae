/- The walk of the law that a geometry may be just if the document says so. No condition. -/
import Derived.Test.YtcdblopnaimfoaaGd
namespace Go.Proofs.Ytcdblopnaimfoaa
open Go.RowKit Go.Conc

theorem reserve_eq {D Z S B P O : Int} (h : Small D Z S B P O) : PGeomRight.geom_Geom_Reserve.f D Z S B P O = some (D * P + 4) := by
  have h1 := dp_b h
  unfold PGeomRight.geom_Geom_Reserve.f
  simp (disch := omega) only [w64]
theorem all_eq {D Z S B P O : Int} (h : Small D Z S B P O) : PGeomRight.geom_Geom_All.f D Z S B P O = some (D * Z) := by
  have h1 := dz_b h
  unfold PGeomRight.geom_Geom_All.f
  simp (disch := omega) only [w64]

/-- Two boxes of a geometry's numbers lie as they were laid; nothing old has turned. -/
def Gt (D Z S B P O : Int) (b1 b2 : Nat) (w w' : World) : Prop := w'.heap[b1]? = some (.cells #[.int .i64 D, .int .i64 Z, .int .i64 S, .int .i64 B, .int .i64 P, .int .i64 O] 42 (0, 0)) ∧
  w'.heap[b2]? = some (.cells #[.int .i64 D, .int .i64 Z, .int .i64 S, .int .i64 B, .int .i64 P, .int .i64 O] 44 (0, 0)) ∧ Below w.heap.size w w'
def Gt6 (D Z S B P O : Int) (b : Nat) (w' : World) : Prop := w'.cell? ⟨b, 0, none⟩ = some (.int .i64 D) ∧ w'.cell? ⟨b, 1, none⟩ = some (.int .i64 Z) ∧ w'.cell? ⟨b, 2, none⟩ = some (.int .i64 S) ∧ w'.cell? ⟨b, 3, none⟩ = some (.int .i64 B) ∧ w'.cell? ⟨b, 4, none⟩ = some (.int .i64 P) ∧ w'.cell? ⟨b, 5, none⟩ = some (.int .i64 O)
section
variable {D Z S B P O : Int} {b1 b2 : Nat} {w w' w'' : World}
theorem Gt.drew (h : Gt D Z S B P O b1 b2 w w') : Gt D Z S B P O b1 b2 w w'.drew := ⟨h.1, h.2.1, h.2.2.drew⟩
theorem Gt.step (h : Gt D Z S B P O b1 b2 w w') (hb : Below w'.heap.size w' w'') : Gt D Z S B P O b1 b2 w w'' :=
  ⟨(Fr.of_below (S := fun _ => False) hb).heap h.1 id, (Fr.of_below (S := fun _ => False) hb).heap h.2.1 id, h.2.2.trans (hb.mono h.2.2.size)⟩
theorem Gt.c1 (h : Gt D Z S B P O b1 b2 w w') (i : Nat) : w'.cell? ⟨b1, i, none⟩ = (#[.int .i64 D, .int .i64 Z, .int .i64 S, .int .i64 B, .int .i64 P, .int .i64 O] : Array Value)[i]? := blk_cell h.1 i
theorem Gt.c2 (h : Gt D Z S B P O b1 b2 w w') (i : Nat) : w'.cell? ⟨b2, i, none⟩ = (#[.int .i64 D, .int .i64 Z, .int .i64 S, .int .i64 B, .int .i64 P, .int .i64 O] : Array Value)[i]? := blk_cell h.2.1 i
theorem Gt.all (h : Gt D Z S B P O b1 b2 w w') : (w'.cell? ⟨b1, 0, none⟩ = some (.int .i64 D) ∧ w'.cell? ⟨b1, 1, none⟩ = some (.int .i64 Z) ∧ w'.cell? ⟨b1, 2, none⟩ = some (.int .i64 S) ∧ w'.cell? ⟨b1, 3, none⟩ = some (.int .i64 B) ∧ w'.cell? ⟨b1, 4, none⟩ = some (.int .i64 P) ∧ w'.cell? ⟨b1, 5, none⟩ = some (.int .i64 O)) ∧
    (w'.cell? ⟨b2, 0, none⟩ = some (.int .i64 D) ∧ w'.cell? ⟨b2, 1, none⟩ = some (.int .i64 Z) ∧ w'.cell? ⟨b2, 2, none⟩ = some (.int .i64 S) ∧ w'.cell? ⟨b2, 3, none⟩ = some (.int .i64 B) ∧ w'.cell? ⟨b2, 4, none⟩ = some (.int .i64 P) ∧ w'.cell? ⟨b2, 5, none⟩ = some (.int .i64 O)) ∧ Gt D Z S B P O b1 b2 w w' :=
  ⟨⟨h.c1 0, h.c1 1, h.c1 2, h.c1 3, h.c1 4, h.c1 5⟩, ⟨h.c2 0, h.c2 1, h.c2 2, h.c2 3, h.c2 4, h.c2 5⟩, h⟩
theorem Gt.again (h : (w'.cell? ⟨b1, 0, none⟩ = some (.int .i64 D) ∧ w'.cell? ⟨b1, 1, none⟩ = some (.int .i64 Z) ∧ w'.cell? ⟨b1, 2, none⟩ = some (.int .i64 S) ∧ w'.cell? ⟨b1, 3, none⟩ = some (.int .i64 B) ∧ w'.cell? ⟨b1, 4, none⟩ = some (.int .i64 P) ∧ w'.cell? ⟨b1, 5, none⟩ = some (.int .i64 O)) ∧
    (w'.cell? ⟨b2, 0, none⟩ = some (.int .i64 D) ∧ w'.cell? ⟨b2, 1, none⟩ = some (.int .i64 Z) ∧ w'.cell? ⟨b2, 2, none⟩ = some (.int .i64 S) ∧ w'.cell? ⟨b2, 3, none⟩ = some (.int .i64 B) ∧ w'.cell? ⟨b2, 4, none⟩ = some (.int .i64 P) ∧ w'.cell? ⟨b2, 5, none⟩ = some (.int .i64 O)) ∧ Gt D Z S B P O b1 b2 w w') (hb : Below w'.heap.size w' w'') :
    (w''.cell? ⟨b1, 0, none⟩ = some (.int .i64 D) ∧ w''.cell? ⟨b1, 1, none⟩ = some (.int .i64 Z) ∧ w''.cell? ⟨b1, 2, none⟩ = some (.int .i64 S) ∧ w''.cell? ⟨b1, 3, none⟩ = some (.int .i64 B) ∧ w''.cell? ⟨b1, 4, none⟩ = some (.int .i64 P) ∧ w''.cell? ⟨b1, 5, none⟩ = some (.int .i64 O)) ∧
    (w''.cell? ⟨b2, 0, none⟩ = some (.int .i64 D) ∧ w''.cell? ⟨b2, 1, none⟩ = some (.int .i64 Z) ∧ w''.cell? ⟨b2, 2, none⟩ = some (.int .i64 S) ∧ w''.cell? ⟨b2, 3, none⟩ = some (.int .i64 B) ∧ w''.cell? ⟨b2, 4, none⟩ = some (.int .i64 P) ∧ w''.cell? ⟨b2, 5, none⟩ = some (.int .i64 O)) ∧ Gt D Z S B P O b1 b2 w w'' :=
  Gt.all (Gt.step h.2.2 hb)
end

set_option maxRecDepth 100000 in
set_option maxHeartbeats 4000000 in
theorem geomRight_walk (w : World) (D Z S B P O : Int) :
    Calls Try.prog 6 #[.agg #[.int .i64 D, .int .i64 Z, .int .i64 S, .int .i64 B, .int .i64 P, .int .i64 O]] w fun e w' => e = .returned (.bool true) ∧ Below w.heap.size w w' := by
  have fin : ∀ w1, Below (w.alloc (.cells #[.int .i64 D, .int .i64 Z, .int .i64 S, .int .i64 B, .int .i64 P, .int .i64 O] 42)).heap.size (w.alloc (.cells #[.int .i64 D, .int .i64 Z, .int .i64 S, .int .i64 B, .int .i64 P, .int .i64 O] 42)) w1 →
      w1.heap[w.heap.size]? = some (.cells #[.int .i64 D, .int .i64 Z, .int .i64 S, .int .i64 B, .int .i64 P, .int .i64 O] 42 (0, 0)) ∧
      Gt D Z S B P O w.heap.size w1.heap.size w (w1.alloc (.cells #[.int .i64 D, .int .i64 Z, .int .i64 S, .int .i64 B, .int .i64 P, .int .i64 O] 44)) := fun w1 h1 => by
    have hh := (Fr.of_below (S := fun _ => False) h1).heap (blk_new w _) id
    have hb := ((Below.refl _ w).alloc (Nat.le_refl _) _).trans (h1.mono (by simp))
    exact ⟨hh, blk_alloc hh _, blk_new _ _, hb.alloc hb.size _⟩
  go_enter Try.func6, Try.ntmps6
  go_wp2_with fail
  refine (anchor5 _).mono ?_
  rintro e w1 ⟨rfl, hb1⟩
  obtain ⟨hh, hG⟩ := fin _ hb1
  have cg := fun i => blk_cell hh i
  clear hb1 fin
  go_wp2_with fail
  clear cg hh
  obtain ⟨b2, hb2⟩ : ∃ b2, w1.heap.size = b2 := ⟨_, rfl⟩
  rw [hb2] at hG ⊢
  clear hb2
  generalize w1.alloc (.cells #[.int .i64 D, .int .i64 Z, .int .i64 S, .int .i64 B, .int .i64 P, .int .i64 O] 44) = w2 at hG ⊢
  clear w1
  cases hr : rightB D Z S B P O with
  | false =>
    have r1 : PGeomRight.geom_Geom_Right.f D Z S B P O = some false := by rw [right_eq, hr]
    have r2 : PGeomRight.revetmentref05_G_Right.f 401 D Z S B P O = some false := by rw [refRight_eq _ (by omega), hr]
    have R1 := Lib.hid r1
    have R2 := Lib.hid r2
    clear r1 r2 hr
    go_region_held3 (fun w' => (w'.cell? ⟨w.heap.size, 0, none⟩ = some (.int .i64 D) ∧ w'.cell? ⟨w.heap.size, 1, none⟩ = some (.int .i64 Z) ∧ w'.cell? ⟨w.heap.size, 2, none⟩ = some (.int .i64 S) ∧ w'.cell? ⟨w.heap.size, 3, none⟩ = some (.int .i64 B) ∧ w'.cell? ⟨w.heap.size, 4, none⟩ = some (.int .i64 P) ∧ w'.cell? ⟨w.heap.size, 5, none⟩ = some (.int .i64 O)) ∧ (w'.cell? ⟨b2, 0, none⟩ = some (.int .i64 D) ∧ w'.cell? ⟨b2, 1, none⟩ = some (.int .i64 Z) ∧ w'.cell? ⟨b2, 2, none⟩ = some (.int .i64 S) ∧ w'.cell? ⟨b2, 3, none⟩ = some (.int .i64 B) ∧ w'.cell? ⟨b2, 4, none⟩ = some (.int .i64 P) ∧ w'.cell? ⟨b2, 5, none⟩ = some (.int .i64 O)) ∧ Gt D Z S B P O w.heap.size b2 w w')
      (first | exact Gt.all (Gt.drew hG) | exact Gt.again (by assumption) (by assumption))
      (first | (go_at_call 24; refine (PGeomRight.geom_Geom_Right.calls D Z S B P O _ _ R1.out).mono ?_; rintro e w' ⟨rfl, hb⟩) | (go_at_call 25; refine (PGeomRight.revetmentref05_G_Right.calls 401 D Z S B P O _ _ R2.out).mono ?_; rintro e w' ⟨rfl, hb⟩))
    rename_i w3 hH
    replace hG := hH.2.2
    clear hH
    have ca := fun i => hG.c1 i
    have cb := fun i => hG.c2 i
    go_wp2_with fail
    refine (PGeomRight.revetmentref05_G_Right.calls 401 D Z S B P O _ _ R2.out).mono ?_
    rintro e w4 ⟨rfl, hb⟩
    go_wp2
    go_ret
    exact ⟨rfl, (hG.step hb).2.2⟩
  | true =>
    have hR := rightB_iff.1 hr
    obtain ⟨hS, hp, hq⟩ := id hR
    have r1 : PGeomRight.geom_Geom_Right.f D Z S B P O = some true := by rw [right_eq, hr]
    have r2 : PGeomRight.revetmentref05_G_Right.f 401 D Z S B P O = some true := by rw [refRight_eq _ (by omega), hr]
    have R1 := Lib.hid r1
    have R2 := Lib.hid r2
    clear r1 r2 hr
    go_region_held3 (fun w' => (w'.cell? ⟨w.heap.size, 0, none⟩ = some (.int .i64 D) ∧ w'.cell? ⟨w.heap.size, 1, none⟩ = some (.int .i64 Z) ∧ w'.cell? ⟨w.heap.size, 2, none⟩ = some (.int .i64 S) ∧ w'.cell? ⟨w.heap.size, 3, none⟩ = some (.int .i64 B) ∧ w'.cell? ⟨w.heap.size, 4, none⟩ = some (.int .i64 P) ∧ w'.cell? ⟨w.heap.size, 5, none⟩ = some (.int .i64 O)) ∧ (w'.cell? ⟨b2, 0, none⟩ = some (.int .i64 D) ∧ w'.cell? ⟨b2, 1, none⟩ = some (.int .i64 Z) ∧ w'.cell? ⟨b2, 2, none⟩ = some (.int .i64 S) ∧ w'.cell? ⟨b2, 3, none⟩ = some (.int .i64 B) ∧ w'.cell? ⟨b2, 4, none⟩ = some (.int .i64 P) ∧ w'.cell? ⟨b2, 5, none⟩ = some (.int .i64 O)) ∧ Gt D Z S B P O w.heap.size b2 w w')
      (first | exact Gt.all (Gt.drew hG) | exact Gt.again (by assumption) (by assumption))
      (first | (go_at_call 24; refine (PGeomRight.geom_Geom_Right.calls D Z S B P O _ _ R1.out).mono ?_; rintro e w' ⟨rfl, hb⟩) | (go_at_call 25; refine (PGeomRight.revetmentref05_G_Right.calls 401 D Z S B P O _ _ R2.out).mono ?_; rintro e w' ⟨rfl, hb⟩))
    rename_i w3 hH
    replace hG := hH.2.2
    clear hH
    have ca := fun i => hG.c1 i
    have cb := fun i => hG.c2 i
    have q1 := dz_b hS
    have q2 := dp_b hS
    have q3 := commands_b hS
    have q4 := passes_b hS
    have q5 := parts_b hS
    have q6 := hS.s0
    have q7 := hS.s1
    have q8 := hS.b0
    have q9 := hS.b1
    unfold commandsP at q3
    unfold passesP at q4
    have HS := Lib.hid hS
    clear hS hR hp hq
    go_wp2_with fail
    refine (PGeomRight.revetmentref05_G_Right.calls 401 D Z S B P O _ _ R2.out).mono ?_
    rintro e w' ⟨rfl, hb⟩
    replace hG := hG.step hb
    replace ca := fun i => hG.c1 i
    replace cb := fun i => hG.c2 i
    clear hb
    go_wp2_with fail
    have e0 : IntKind.i64.wrap (D * Z) = D * Z := IntWalk.i64_in _ (by omega)
    have e1 : IntKind.i64.wrap (D * P) = D * P := IntWalk.i64_in _ (by omega)
    have e2 : IntKind.i64.wrap (D * P + 4) = D * P + 4 := IntWalk.i64_in _ (by omega)
    have e3 : IntKind.i64.wrap (64 * (D * Z + 2)) = 64 * (D * Z + 2) := IntWalk.i64_in _ (by omega)
    have e4 : IntKind.i64.wrap (64 * (D * Z + 2) * (D * Z + 2)) = 64 * (D * Z + 2) * (D * Z + 2) := IntWalk.i64_in _ (by omega)
    have e5 : IntKind.i64.wrap (S + 2) = S + 2 := IntWalk.i64_in _ (by omega)
    have e6 : IntKind.i64.wrap (64 * (D * Z + 2) * (D * Z + 2) * (S + 2)) = 64 * (D * Z + 2) * (D * Z + 2) * (S + 2) := IntWalk.i64_in _ (by omega)
    have e7 : IntKind.i64.wrap (B + S) = B + S := IntWalk.i64_in _ (by omega)
    have e8 : IntKind.i64.wrap (B + S + partsP B) = B + S + partsP B := IntWalk.i64_in _ (by omega)
    have e9 : IntKind.i64.wrap (B + S + partsP B + 4) = B + S + partsP B + 4 := IntWalk.i64_in _ (by omega)
    have e10 : IntKind.i64.wrap (64 * (D * Z + 2) * (D * Z + 2) * (S + 2) * (B + S + partsP B + 4)) = 64 * (D * Z + 2) * (D * Z + 2) * (S + 2) * (B + S + partsP B + 4) := IntWalk.i64_in _ (by omega)
    have e11 : IntKind.i64.wrap (D * P + 2) = D * P + 2 := IntWalk.i64_in _ (by omega)
    have e12 : IntKind.i64.wrap (3 * (D * P + 2)) = 3 * (D * P + 2) := IntWalk.i64_in _ (by omega)
    have e13 : IntKind.i64.wrap (B + 3) = B + 3 := IntWalk.i64_in _ (by omega)
    have e14 : IntKind.i64.wrap (3 * (D * P + 2) * (B + 3)) = 3 * (D * P + 2) * (B + 3) := IntWalk.i64_in _ (by omega)
    have t1 : commandsP D Z S B = 64 * (D * Z + 2) * (D * Z + 2) * (S + 2) * (B + S + partsP B + 4) := rfl
    have t2 : passesP D B P = 3 * (D * P + 2) * (B + 3) := rfl
    have t3 : ∀ x : Int, (x == x) = true := fun x => by simp
    clear q1 q2 q3 q4 q5 q6 q7 q8 q9 ca cb R1 R2
    simp only [List.append_eq, List.cons_append, List.nil_append]
    go_region_held3 (fun w' => (w'.cell? ⟨w.heap.size, 0, none⟩ = some (.int .i64 D) ∧ w'.cell? ⟨w.heap.size, 1, none⟩ = some (.int .i64 Z) ∧ w'.cell? ⟨w.heap.size, 2, none⟩ = some (.int .i64 S) ∧ w'.cell? ⟨w.heap.size, 3, none⟩ = some (.int .i64 B) ∧ w'.cell? ⟨w.heap.size, 4, none⟩ = some (.int .i64 P) ∧ w'.cell? ⟨w.heap.size, 5, none⟩ = some (.int .i64 O)) ∧ (w'.cell? ⟨b2, 0, none⟩ = some (.int .i64 D) ∧ w'.cell? ⟨b2, 1, none⟩ = some (.int .i64 Z) ∧ w'.cell? ⟨b2, 2, none⟩ = some (.int .i64 S) ∧ w'.cell? ⟨b2, 3, none⟩ = some (.int .i64 B) ∧ w'.cell? ⟨b2, 4, none⟩ = some (.int .i64 P) ∧ w'.cell? ⟨b2, 5, none⟩ = some (.int .i64 O)) ∧ Gt D Z S B P O w.heap.size b2 w w')
      (first | exact Gt.all (Gt.drew hG) | exact Gt.again (by assumption) (by assumption))
      (first | (go_at_call 26; refine (PGeomRight.geom_Geom_All.calls D Z S B P O _ _ (all_eq HS.out)).mono ?_; rintro e w' ⟨rfl, hb⟩) | (go_at_call 27; refine (PGeomRight.geom_Geom_Parts.calls D Z S B P O _ _ (parts_eq HS.out)).mono ?_; rintro e w' ⟨rfl, hb⟩) | (go_at_call 28; refine (PGeomRight.revetmentref05_G_Parts.calls 301 D Z S B P O _ _ (refParts_eq HS.out _ (by omega))).mono ?_; rintro e w' ⟨rfl, hb⟩) | (go_at_call 29; refine (PGeomRight.geom_Geom_Reserve.calls D Z S B P O _ _ (reserve_eq HS.out)).mono ?_; rintro e w' ⟨rfl, hb⟩) | (go_at_call 30; refine (PGeomRight.geom_Geom_Segments.calls D Z S B P O _ _ (seg_eq HS.out)).mono ?_; rintro e w' ⟨rfl, hb⟩) | (go_at_call 31; refine (PGeomRight.revetmentref05_G_Segments.calls D Z S B P O _ _ (refSeg_eq HS.out)).mono ?_; rintro e w' ⟨rfl, hb⟩) | (go_at_call 32; refine (PGeomRight.geom_Geom_Commands.calls D Z S B P O _ _ (commands_eq HS.out)).mono ?_; rintro e w' ⟨rfl, hb⟩) | (go_at_call 33; refine (PGeomRight.geom_Geom_Passes.calls D Z S B P O _ _ (passes_eq HS.out)).mono ?_; rintro e w' ⟨rfl, hb⟩))
    rename_i w5 hH
    go_wp2
    go_ret
    exact ⟨rfl, hH.2.2.2.2⟩
end Go.Proofs.Ytcdblopnaimfoaa

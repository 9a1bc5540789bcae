/- Sectors changed, handed out one by one. Conditions: fewer than 90000 sectors. -/
import Derived.Test.YtkbagfpoegfcaaaD5
namespace Go.Proofs.Ytkbagfpoegfcaaa
open Go.RowKit Go.Conc

section
variable {F : Fence} {ops : Array Oper} {rest : List Oper} {o : Oper} {a : Act} {w : World} {Q : Exit → Act → World → Prop}
theorem in_load (T : TypeId) {x : Operand} (_h : o.op = .load T x) (k : wpListIn F 0 Try.prog ops Q (o :: rest) a w) : wpListIn F 0 Try.prog ops Q (o :: rest) a w := k
theorem in_store (T : TypeId) {x y : Operand} (_h : o.op = .store T x y) (k : wpListIn F 0 Try.prog ops Q (o :: rest) a w) : wpListIn F 0 Try.prog ops Q (o :: rest) a w := k
theorem in_alloc (T : TypeId) (_h : o.op = .alloc T) (k : wpListIn F 0 Try.prog ops Q (o :: rest) a w) : wpListIn F 0 Try.prog ops Q (o :: rest) a w := k
theorem wpListIn_gives (hfn : ∀ f, F.fn f) (hdp : F.depth = none) (hg : o.guard = none) (hd : ∀ c, o.op ≠ .defer c) {T : Value → World → Prop} (h : Oper.gives F Try.prog o a.eval w T)
    (hn : ∀ v W', T v W' → wpListIn F 0 Try.prog ops Q rest (a.put o.dst v) W') : wpListIn F 0 Try.prog ops Q (o :: rest) a w :=
  wpListIn_plain hg fun _ hK => wpIn_of_gives hfn hdp hd rfl h fun v W' ht => hK _ _ (hn v W' ht)
theorem wpListIn_allocB (hfn : ∀ f, F.fn f) (hdp : F.depth = none) (hg : o.guard = none) (T : TypeId) {n : Nat} {z : Array Value} (ho : o.op = .alloc T) (hT : BigTy T n z)
    (h : wpListIn F 0 Try.prog ops Q rest (a.put o.dst (.pointer (some ⟨w.heap.size, 0, none⟩))) (w.alloc (.cells z T))) : wpListIn F 0 Try.prog ops Q (o :: rest) a w :=
  wpListIn_gives hfn hdp hg (fun c e => by rw [ho] at e; cases e) (gives_val (T := fun v W' => v = _ ∧ W' = _) (run_allocB ho hT) ⟨rfl, rfl⟩) (by rintro v W' ⟨rfl, rfl⟩; exact h)
theorem wpListIn_loadB (hfn : ∀ f, F.fn f) (hdp : F.depth = none) (hg : o.guard = none) (T : TypeId) {n : Nat} {z : Array Value} (x : Operand) (ho : o.op = .load T x) (hT : BigTy T n z) (b f : Nat) (S : Array Value) (hx : a.eval x = .pointer (some ⟨b, f, none⟩)) (hr : w.rangeAt b f S.toList) (hS : S.size = n)
    (h : wpListIn F 0 Try.prog ops Q rest (a.put o.dst (.agg S)) w) : wpListIn F 0 Try.prog ops Q (o :: rest) a w :=
  wpListIn_gives hfn hdp hg (fun c e => by rw [ho] at e; cases e) (gives_loadB (T := fun v W' => v = .agg S ∧ W' = w) ho hT hx hr hS ⟨rfl, rfl⟩) (by rintro v W' ⟨rfl, rfl⟩; exact h)
theorem wpListIn_loadBw (hfn : ∀ f, F.fn f) (hdp : F.depth = none) (hg : o.guard = none) (T : TypeId) {n : Nat} {z : Array Value} (x : Operand) (ho : o.op = .load T x) (hT : BigTy T n z) (b : Nat) (S : Array Value) (T' : TypeId) (hx : a.eval x = .pointer (some ⟨b, 0, none⟩)) (hb : w.heap[b]? = some (.cells S T' (0, 0))) (hS : S.size = n)
    (h : wpListIn F 0 Try.prog ops Q rest (a.put o.dst (.agg S)) w) : wpListIn F 0 Try.prog ops Q (o :: rest) a w :=
  wpListIn_loadB hfn hdp hg T x ho hT b 0 S hx (blk_range hb) hS h
theorem wpListIn_storeBw (hfn : ∀ f, F.fn f) (hdp : F.depth = none) (hg : o.guard = none) (T : TypeId) {n : Nat} {z : Array Value} (x y : Operand) (ho : o.op = .store T x y) (hT : BigTy T n z) (b : Nat) (old S : Array Value) (T' : TypeId) (hx : a.eval x = .pointer (some ⟨b, 0, none⟩)) (hy : a.eval y = .agg S) (hb : w.heap[b]? = some (.cells old T' (0, 0))) (hz : old.size = n) (hS : IsBx n S)
    (h : wpListIn F 0 Try.prog ops Q rest (a.put o.dst undef) (w.setRow b S)) : wpListIn F 0 Try.prog ops Q (o :: rest) a w :=
  wpListIn_gives hfn hdp hg (fun c e => by rw [ho] at e; cases e) (gives_storeBw (T := fun v W' => v = undef ∧ W' = w.setRow b S) ho hT hx hy hb hz hS ⟨rfl, rfl⟩) (by rintro v W' ⟨rfl, rfl⟩; exact h)
end
/-- What holds till operation i is done, and what holds then. -/
def Sw (i : Nat) (A B : World → Prop) (d : Nat → Bool) (V : World) : Prop := if d i = true then B V else A V
section
variable {i m : Nat} {A B : World → Prop} {d : Nat → Bool} {V V' : World}
theorem Sw.lo (h : Sw i A B d V) (hd : d i = false) : A V := by unfold Sw at h; rw [hd, if_neg (by decide)] at h; exact h
theorem Sw.hi (h : Sw i A B d V) (hd : d i = true) : B V := by unfold Sw at h; rw [hd, if_pos rfl] at h; exact h
theorem Sw.keep (h : Sw i A B d V) (hm : m ≠ i) (ha : A V → A V') (hb : B V → B V') : Sw i A B (more d m) V' := by
  unfold Sw at h ⊢
  rw [more_other _ (Ne.symm hm)]
  cases hd : d i with
  | true => rw [hd, if_pos rfl] at h; rw [if_pos rfl]; exact hb h
  | false => rw [hd, if_neg (by decide)] at h; rw [if_neg (by decide)]; exact ha h
theorem Sw.step (hd : d i = false) (hm : m ≠ i) (ha : A V') : Sw i A B (more d m) V' := by
  unfold Sw; rw [more_other _ (Ne.symm hm), hd, if_neg (by decide)]; exact ha
theorem Sw.same (h : Sw i A B d V) (hm : m ≠ i) : Sw i A B (more d m) V := h.keep hm id id
theorem Sw.put (h : B V) : Sw i A B (more d i) V := by unfold Sw; rw [more_same, if_pos rfl]; exact h
theorem Sw.start (h : A V) : Sw i A B (fun _ => false) V := by unfold Sw; rw [if_neg (by simp)]; exact h
end
section
variable {w : World} {b : Nat} {v : Value} {L : List Sec} {size safe st : Int} {fin : Bool}
/-- The closure of Spoil. -/
theorem res77 {tmps : Array Value} {W : World} {g : Nat} {S : Sec} (h1 : tmps.getD 3 undef = .pointer (some ⟨g, 0, none⟩)) (h2 : W.heap[g]? = some (.cells (secA S) 35 (0, 0))) :
    (results Try.f77 tmps).run Try.prog W = .ok (.agg (secA S)) W := res_c rfl h1 (run_loadBw b35 h2 (secA_size _))
set_option maxRecDepth 100000 in
theorem spoilF {c : Nat} {p : Sec} (hc : w.heap[c]? = some (.cells (secA p) 35 (0, 0))) (s : Sec) : Calls Try.prog 77 #[.agg (secA s), .pointer (some ⟨c, 0, none⟩)] w fun e w' => e = .returned (.agg (secA (s.xor p))) ∧ Fr (fun _ => False) w w' := by
  have F2 := ((Fr.refl (fun _ => False) w).alloc (.cells (secA s) 35)).alloc (.cells (secA Sec.zero) 35)
  have g1 := blk_alloc (blk_new w (.cells (secA s) 35)) (.cells (secA Sec.zero) 35)
  have g2 := blk_new (w.alloc (.cells (secA s) 35)) (.cells (secA Sec.zero) 35)
  have gc := F2.heap hc id
  rw [World.size_alloc] at g2
  go_enter Try.func77, Try.ntmps77
  go_wp2_with (first | ((with_reducible refine is_alloc 35 rfl ?_); refine wpList_allocB rfl 35 rfl b35 ?_) | ((with_reducible refine is_alloc 34 rfl ?_); refine wpList_allocB rfl 34 rfl b34 ?_) | ((with_reducible refine is_load 35 rfl ?_); (first | refine wpList_loadBw rfl 35 _ rfl b35 _ _ _ rfl (by assumption) (secA_size _) ?_ | refine wpList_loadB rfl 35 _ rfl b35 _ _ _ rfl (by assumption) (secA_size _) ?_)) | ((with_reducible refine is_load 34 rfl ?_); (first | refine wpList_loadBw rfl 34 _ rfl b34 _ _ _ rfl (by assumption) (secA_size _) ?_ | refine wpList_loadB rfl 34 _ rfl b34 _ _ _ rfl (by assumption) (secA_size _) ?_)) | ((with_reducible refine is_store 35 rfl ?_); refine wpList_storeBw rfl 35 _ _ rfl b35 _ _ _ _ rfl rfl (by assumption) (secA_size _) (secA_bx _) ?_) | ((with_reducible refine is_store 34 rfl ?_); refine wpList_storeBw rfl 34 _ _ rfl b34 _ _ _ _ rfl rfl (by assumption) (secA_size _) (secA_bx _) ?_) | ((with_reducible refine is_build 34 rfl ?_); refine wpList_buildZ34 rfl rfl ?_) | ((with_reducible refine is_build 35 rfl ?_); refine wpList_buildZ35 rfl rfl ?_))
  generalize (w.alloc (.cells (secA s) 35)).alloc (.cells (secA Sec.zero) 35) = w2 at F2 g1 g2 gc ⊢
  refine (xorS s p w2).mono ?_
  rintro e w3 ⟨rfl, F3⟩
  have g3 := F3.heap g2 id
  go_wp2_with (first | ((with_reducible refine is_alloc 35 rfl ?_); refine wpList_allocB rfl 35 rfl b35 ?_) | ((with_reducible refine is_alloc 34 rfl ?_); refine wpList_allocB rfl 34 rfl b34 ?_) | ((with_reducible refine is_load 35 rfl ?_); (first | refine wpList_loadBw rfl 35 _ rfl b35 _ _ _ rfl (by assumption) (secA_size _) ?_ | refine wpList_loadB rfl 35 _ rfl b35 _ _ _ rfl (by assumption) (secA_size _) ?_)) | ((with_reducible refine is_load 34 rfl ?_); (first | refine wpList_loadBw rfl 34 _ rfl b34 _ _ _ rfl (by assumption) (secA_size _) ?_ | refine wpList_loadB rfl 34 _ rfl b34 _ _ _ rfl (by assumption) (secA_size _) ?_)) | ((with_reducible refine is_store 35 rfl ?_); refine wpList_storeBw rfl 35 _ _ rfl b35 _ _ _ _ rfl rfl (by assumption) (secA_size _) (secA_bx _) ?_) | ((with_reducible refine is_store 34 rfl ?_); refine wpList_storeBw rfl 34 _ _ rfl b34 _ _ _ _ rfl rfl (by assumption) (secA_size _) (secA_bx _) ?_) | ((with_reducible refine is_build 34 rfl ?_); refine wpList_buildZ34 rfl rfl ?_) | ((with_reducible refine is_build 35 rfl ?_); refine wpList_buildZ35 rfl rfl ?_))
  exact bodyPost_ret (res77 rfl (setRow_blk _ g3)) rfl ⟨rfl, (F2.trans F3 (fun _ _ h => h)).trans (setRow_fr _ _ _) (fun i hi e => by omega)⟩
theorem ZAt.setSec (h : ZAt w b v L size safe st fin) {k : Nat} (hk : k < L.length) (s : Sec) : ∃ g cap, v = .slice (some ⟨g, 0, none⟩) L.length cap ∧ w.there g (k * 64) 64 ∧ ZAt (w.setCells g (k * 64) (secA s).toList) b v (L.set k s) size safe st fin ∧ Fr (Zf b v) w (w.setCells g (k * 64) (secA s).toList) := by
  obtain ⟨g, cap, e, ht, hr, hf⟩ := row_put h.row hk (cs := secL s) (secL_len s)
  refine ⟨g, cap, e, ht, ⟨hf.heap h.z (fun e2 => h.ne (by rw [e, e2]; rfl)), ?_⟩, hf.mono (fun k _ e2 => .inr (by rw [e, e2]; rfl))⟩
  rw [List.length_set, secs, ← flat_set secL_len L k hk s]
  exact hr
theorem gives_storeBm {F : Fence} {o : Oper} {ρ : Operand → Value} {W : World} {T : Value → World → Prop} {Ty : TypeId} {n : Nat} {z : Array Value} {x y : Operand} (ho : o.op = .store Ty x y) (hT : BigTy Ty n z) {b f : Nat} {S : Array Value} (hx : ρ x = .pointer (some ⟨b, f, none⟩)) (hy : ρ y = .agg S) (ht : W.there b f n) (hS : IsBx n S) (h : T undef (W.setCells b f S.toList)) : Oper.gives F Try.prog o ρ W T := by
  have hr := run_storeVar_mid (P := Try.prog) W b f Ty S (by rw [hS.size]; exact ht) (by rw [hT.sz, hS.size]) hS.one
  have e : (execOp ρ o).run Try.prog W = .ok (.value undef) (W.setCells b f S.toList) ∨ (execOp ρ o).run Try.prog W = .ok .skip (W.setCells b f S.toList) := by
    unfold execOp
    simp only [ho, hx, hy, Instr.storeAt, Instr.sureAddr, Sem.run_bind, Sem.run_pure, Result.andThen_ok, hr]
    simp
  rcases e with e | e
  · exact gives_val e h
  · exact gives_skip e h
theorem changeZ_no (h : ZAt w b v L size safe st fin) (x : Int) (hx : x < 0 ∨ L.length ≤ x) (f : Value) : Calls Try.prog 76 #[.pointer (some ⟨b, 0, none⟩), .int .i64 x, f] w fun e w' => e = .returned (.int .i64 31) ∧ w' = w := by
  obtain ⟨a, cap, rfl⟩ := row_val h.row
  have cg := fun i => blk_cell h.z i
  rcases hx with hx | hx
  · go_enter Try.func76, Try.ntmps76
    go_wp2
    go_ret
    exact ⟨rfl, rfl⟩
  · have h0 : 0 ≤ x := by omega
    go_enter Try.func76, Try.ntmps76
    go_wp2
    go_ret
    exact ⟨rfl, rfl⟩
set_option linter.unusedSimpArgs false in
set_option maxRecDepth 100000 in
set_option maxHeartbeats 4000000 in
theorem changeZ (h : ZAt w b v L size safe st fin) {k : Nat} (hk : k < L.length) {c : Nat} {p : Sec} (hc : w.heap[c]? = some (.cells (secA p) 35 (0, 0))) :
    Calls Try.prog 76 #[.pointer (some ⟨b, 0, none⟩), .int .i64 k, .func (.func 77) #[] #[.pointer (some ⟨c, 0, none⟩)]] w fun e w' => e = .returned (.int .i64 0) ∧ ZAt w' b v (L.set k (L[k].xor p)) size safe st fin ∧ Fr (Zf b v) w w' := by
  obtain ⟨g, cap, hv, hrg⟩ := h.range hk
  have hrow : ∀ W, Fr (fun _ => False) w W → W.there g (k * 64) 64 ∧ ZAt (W.setCells g (k * 64) (secA (L[k].xor p)).toList) b v (L.set k (L[k].xor p)) size safe st fin ∧ Fr (Zf b v) W (W.setCells g (k * 64) (secA (L[k].xor p)).toList) := by
    intro W hf
    obtain ⟨g', cap', e, h1, h2, h3⟩ := (h.fr0 hf).setSec hk (L[k].xor p)
    rw [hv] at e
    cases e
    exact ⟨h1, h2, h3⟩
  have HR := Lib.hid hrow
  clear hrow
  have hlt : k < L.length := hk
  generalize L[k] = s at *
  generalize L.set k (s.xor p) = L2 at *
  obtain ⟨n, hn⟩ : ∃ n, L.length = n := ⟨_, rfl⟩
  rw [hn] at hv hlt
  clear hn hk
  subst hv
  have cg := fun i => blk_cell h.z i
  have h0 : (0 : Int) ≤ (k : Int) := by omega
  have h1 : (k : Int) < (n : Int) := by omega
  go_enter Try.func76, Try.ntmps76
  go_wp2
  refine (wpIn_wide (n := 0)).1 ?_
  refine regionIn_seqC (Sw 15 (fun V => Fr (fun _ => False) w V) (fun V => ZAt V b (.slice (some ⟨g, 0, none⟩) n cap) L2 size safe st fin ∧ Fr (Zf b (.slice (some ⟨g, 0, none⟩) n cap)) w V)) rfl (by kernel_rfl) (by kernel_rfl) (by kernel_rfl) (fun _ => trivial) rfl (Sw.start (Fr.refl _ _).drew) ?_
  iterate 12
    apply SeqC.step
    · rfl
    · intro d V hV ht hcl
      have hf := hV.lo (ht.later 15 _ rfl (by kernel_rfl)); have ca := fun i => blk_cell (hf.heap h.z id) i
      simp [Oper.gives, execOp, Act.eval, go_sem, ca, h0, h1, hlt]
      exact ⟨rfl, hV.same (by decide)⟩
    simp only [Act.put, List.setIfInBounds_toArray, List.set_cons_succ, List.set_cons_zero]
  apply SeqC.step
  · rfl
  · intro d V hV ht hcl
    (have hf := hV.lo (ht.later 15 _ rfl (by kernel_rfl)); exact gives_loadB rfl b35 rfl (rangeAt_fr hrg hf id) (secA_size _) ⟨rfl, hV.same (by decide)⟩)
  simp only [Act.put, List.setIfInBounds_toArray, List.set_cons_succ, List.set_cons_zero]
  apply SeqC.step
  · rfl
  · intro d V hV ht hcl
    have hf := hV.lo (ht.later 15 _ rfl (by kernel_rfl))
    have hc2 := spoilF (hf.heap hc id) s
    simp [Oper.gives, execOp, Act.eval, go_sem]
    refine callsIn_wide.2 (hc2.mono ?_); rintro e W9 ⟨rfl, hb⟩; exact ⟨_, rfl, rfl, Sw.step (ht.later 15 _ rfl (by kernel_rfl)) (by decide) (hf.trans hb (fun _ _ h => h))⟩
  simp only [Act.put, List.setIfInBounds_toArray, List.set_cons_succ, List.set_cons_zero]
  apply SeqC.step
  · rfl
  · intro d V hV ht hcl
    have hf := hV.lo (ht.later 15 _ rfl (by kernel_rfl)); have ca := fun i => blk_cell (hf.heap h.z id) i
    simp [Oper.gives, execOp, Act.eval, go_sem, ca, h0, h1, hlt]
    exact ⟨rfl, hV.same (by decide)⟩
  simp only [Act.put, List.setIfInBounds_toArray, List.set_cons_succ, List.set_cons_zero]
  apply SeqC.step
  · rfl
  · intro d V hV ht hcl
    have hf := hV.lo ht.not
    obtain ⟨h3, h4, h5⟩ := HR.out V hf
    exact gives_storeBm rfl b35 rfl rfl h3 (secA_bx _) ⟨rfl, Sw.put ⟨h4, (hf.mono (fun _ _ h => h.elim)).trans h5 (fun _ _ h => h)⟩⟩
  simp only [Act.put, List.setIfInBounds_toArray, List.set_cons_succ, List.set_cons_zero]
  refine SeqC.nil fun V hV => ?_
  obtain ⟨hz, hF⟩ := hV.hi rfl
  clear cg
  go_wp2
  go_ret
  exact ⟨rfl, hz, hF⟩
end
end Go.Proofs.Ytkbagfpoegfcaaa

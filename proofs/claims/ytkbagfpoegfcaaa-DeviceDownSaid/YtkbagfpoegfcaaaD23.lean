/- The document's device: Revive. Conditions: a device is small. -/
import Derived.Test.YtkbagfpoegfcaaaD22
import Derived.Test.YtkbagfpoegfcaaaSn
namespace Go.Proofs.Ytkbagfpoegfcaaa
open Go.RowKit Go.Conc

/-- Two calls whose values are not known ahead, a store behind them. -/
def SN (W : World) (i j k : Nat) (Pi Pj : Value → World → Prop) (Post : World → Prop) (vs : Nat → Value) (d : Nat → Bool) (V : World) : Prop :=
  if d k = true then Post V else Fr (fun _ => False) W V ∧ (d i = true → Pi (vs i) V) ∧ (d j = true → Pj (vs j) V)
section
variable {W V V' : World} {i j k m : Nat} {Pi Pj : Value → World → Prop} {Post : World → Prop} {vs : Nat → Value} {d : Nat → Bool} {u : Value}
theorem SN.start (h : Fr (fun _ => False) W V) : SN W i j k Pi Pj Post vs (fun _ => false) V := by unfold SN; rw [if_neg (by simp)]; exact ⟨h, fun h => (by cases h), fun h => (by cases h)⟩
theorem SN.lo (h : SN W i j k Pi Pj Post vs d V) (hk : d k = false) : Fr (fun _ => False) W V ∧ (d i = true → Pi (vs i) V) ∧ (d j = true → Pj (vs j) V) := by unfold SN at h; rw [hk, if_neg (by decide)] at h; exact h
theorem SN.hi (h : SN W i j k Pi Pj Post vs d V) (hk : d k = true) : Post V := by unfold SN at h; rw [hk, if_pos rfl] at h; exact h
theorem SN.keep (h : SN W i j k Pi Pj Post vs d V) (hi : m ≠ i) (hj : m ≠ j) (hk : m ≠ k) : SN W i j k Pi Pj Post vs (more d m) V := by
  unfold SN at h ⊢
  rw [more_other _ (Ne.symm hi), more_other _ (Ne.symm hj), more_other _ (Ne.symm hk)]
  exact h
theorem SN.puti (h : SN W i j k Pi Pj Post vs d V) (hk : d k = false) (hij : i ≠ j) (hik : i ≠ k) (hf : Fr (fun _ => False) V V') (hp : Pi u V') (hs : ∀ u, Pj u V → Pj u V') : ∀ vs', (∀ l, d l = true → vs' l = vs l) → vs' i = u → SN W i j k Pi Pj Post vs' (more d i) V' := by
  intro vs' h1 h2
  obtain ⟨a, b, c⟩ := h.lo hk
  unfold SN
  rw [more_other _ (Ne.symm hik), hk, if_neg (by decide)]
  refine ⟨a.trans hf (fun _ _ h => h), fun _ => by rw [h2]; exact hp, fun hd => ?_⟩
  rw [more_other _ (Ne.symm hij)] at hd
  rw [h1 _ hd]
  exact hs _ (c hd)
theorem SN.putj (h : SN W i j k Pi Pj Post vs d V) (hk : d k = false) (hij : i ≠ j) (hjk : j ≠ k) (hf : Fr (fun _ => False) V V') (hp : Pj u V') (hs : ∀ u, Pi u V → Pi u V') : ∀ vs', (∀ l, d l = true → vs' l = vs l) → vs' j = u → SN W i j k Pi Pj Post vs' (more d j) V' := by
  intro vs' h1 h2
  obtain ⟨a, b, c⟩ := h.lo hk
  unfold SN
  rw [more_other _ (Ne.symm hjk), hk, if_neg (by decide)]
  refine ⟨a.trans hf (fun _ _ h => h), fun hd => ?_, fun _ => by rw [h2]; exact hp⟩
  rw [more_other _ hij] at hd
  rw [h1 _ hd]
  exact hs _ (b hd)
theorem SN.putk (h : Post V) : SN W i j k Pi Pj Post vs (more d k) V := by unfold SN; rw [more_same, if_pos rfl]; exact h
theorem SN.loc {N : Nat → Bool} (hi : N i = true) (hj : N j = true) : Loc N (SN W i j k Pi Pj Post) := by
  intro vs vs' d W h hv
  unfold SN at h ⊢
  split
  · rename_i hk; rw [if_pos hk] at h; exact h
  · rename_i hk
    rw [if_neg hk] at h
    exact ⟨h.1, fun hd => by rw [hv _ hd hi]; exact h.2.1 hd, fun hd => by rw [hv _ hd hj]; exact h.2.2 hd⟩
end
section
variable {w w' : World} {D S : Nat → Prop} {v : Value} {X Y : DS} {e0 : Int}
theorem res57 {tmps : Array Value} {W : World} {g : Nat} {S : Array Value} (h1 : tmps.getD 4 undef = .pointer (some ⟨g, 0, none⟩)) (h2 : W.heap[g]? = some (.cells S 27 (0, 0))) (h4 : S.size = 5) :
    (results Try.f57 tmps).run Try.prog W = .ok (.agg S) W := res_c rfl h1 (run_loadBw b27 h2 h4)
set_option linter.unusedSimpArgs false
set_option maxRecDepth 100000 in
set_option maxHeartbeats 4000000 in
theorem rrevive (h : RfS D w v X) (hok : X.Ok) {kv : Value} {keep : List Int} {K : Nat → Prop} (hkv : RdAt K w kv keep.length (ints keep)) (hkl : keep.length ≤ 9223372036854775807) (hr : RevR X keep Y) : Calls Try.prog 57 #[v, kv] w (Rf1 D w Y) := by
  have hkv := hkv.sharp
  cases hr with
  | up hdn =>
    have HDN := Lib.hid hdn
    clear hdn
    obtain ⟨g, o, cap, rfl, hr⟩ := h.sharp.op hok.l1
    have h2w := two w (.cells #[.slice (some ⟨g, o, none⟩) X.zs.length cap, .int .i64 X.size, .int .i64 X.op, .int .i64 X.n, .bool X.down] 27) (.cells #[.slice none 0 0, .int .i64 0, .int .i64 0, .int .i64 0, .bool false] 27)
    go_enter Try.func57, Try.ntmps57
    go_upto_region 1 with fail
    generalize (w.alloc (.cells #[.slice (some ⟨g, o, none⟩) X.zs.length cap, .int .i64 X.size, .int .i64 X.op, .int .i64 X.n, .bool X.down] 27)).alloc (.cells #[.slice none 0 0, .int .i64 0, .int .i64 0, .int .i64 0, .bool false] 27) = w2 at *
    obtain ⟨F2, g0, g1, hsz⟩ := h2w
    have hr2 := hr.fr0 F2
    have HSZ := Lib.hid hsz
    clear hsz hr
    have c0 := fun i => blk_cell g0 i
    rw [HDN.out] at c0
    go_wp2_with (first | ((with_reducible refine is_load 27 rfl ?_); refine wpList_loadBw rfl 27 _ rfl b27 _ _ _ rfl (by first | assumption | exact blk_new _ _) rfl ?_) | ((with_reducible refine is_store 27 rfl ?_); refine wpList_storeBw rfl 27 _ _ rfl b27 _ _ _ _ rfl rfl (by first | assumption | exact blk_new _ _) rfl (bx27 _ _ _ _ _ _ _) ?_) | ((with_reducible refine is_load 117 rfl ?_); (first | refine wpList_loadBw rfl 117 _ rfl b117 _ _ _ rfl (by first | assumption | exact blk_new _ _) rfl ?_ | refine wpList_loadB rfl 117 _ rfl b117 _ _ _ rfl (by assumption) rfl ?_)) | ((with_reducible refine is_store 117 rfl ?_); (first | refine wpList_storeBw rfl 117 _ _ rfl b117 _ _ _ _ rfl rfl (by first | assumption | exact blk_new _ _) rfl (bx117 _ _ _ _ _ _) ?_ | refine wpList_storeBm rfl 117 _ _ rfl b117 _ _ _ rfl rfl (by assumption) (bx117 _ _ _ _ _ _) ?_)))
    exact bodyPost_ret (res57 rfl (setRow_blk _ g1) rfl) rfl ⟨_, rfl, (hr2.fr (setRow_fr _ _ _) (fun k hk e => by omega)).q rfl rfl rfl rfl (F2.trans (setRow_fr _ _ _) (fun k hk e => by omega)) (fun k hk => .inl hk.1) rfl⟩
  | ok hdn =>
    have HDN := Lib.hid hdn
    clear hdn
    obtain ⟨ka, kc, rfl, hki⟩ := hkv.int
    have HKV := Lib.hid hkv
    clear hki hkv
    obtain ⟨g, o, cap, rfl, hr⟩ := h.sharp.op hok.l1
    have h2w := two w (.cells #[.slice (some ⟨g, o, none⟩) X.zs.length cap, .int .i64 X.size, .int .i64 X.op, .int .i64 X.n, .bool X.down] 27) (.cells #[.slice none 0 0, .int .i64 0, .int .i64 0, .int .i64 0, .bool false] 27)
    go_enter Try.func57, Try.ntmps57
    go_upto_region 1 with fail
    generalize (w.alloc (.cells #[.slice (some ⟨g, o, none⟩) X.zs.length cap, .int .i64 X.size, .int .i64 X.op, .int .i64 X.n, .bool X.down] 27)).alloc (.cells #[.slice none 0 0, .int .i64 0, .int .i64 0, .int .i64 0, .bool false] 27) = w2 at *
    obtain ⟨F2, g0, g1, hsz⟩ := h2w
    have hr2 := hr.fr0 F2
    have HSZ := Lib.hid hsz
    clear hsz hr
    have c0 := fun i => blk_cell g0 i
    rw [HDN.out] at c0
    have hm0 : RMid (fun j => (D j ∧ j < w.heap.size) ∨ w.heap.size + 2 ≤ j) w w.heap.size X { X with zs := preMap (fun i z => z.crash X.size (keep.getD i 0)) 0 X.zs } w2 := by
      rw [preMap_zero]
      exact ⟨g, o, cap, g0, g1, hr2.mono (fun _ h => .inl h), F2⟩
    have HM := Lib.hid hm0
    have hzl := hok.l2
    clear hm0
    go_wp2_with fail
    clear c0
    go_loopw [5, 6] (fun i _ W => ∃ k : Nat, k ≤ X.zs.length ∧ i = .int .i64 k ∧ RMid (fun j => (D j ∧ j < w.heap.size) ∨ w.heap.size + 2 ≤ j) w w.heap.size X { X with zs := preMap (fun i z => z.crash X.size (keep.getD i 0)) k X.zs } W) (fun i _ _ => X.zs.length - (intOf i).toNat)
    case atStart => exact ⟨0, by omega, rfl, HM.out⟩
    case round =>
      obtain ⟨k, hk, rfl, hm⟩ := hrel
      obtain ⟨g3, o3, cap3, g04, g14, hr4, F4⟩ := hm
      have c4 := fun i => blk_cell g04 i
      by_cases hlt : k < X.zs.length
      · have hl : (preMap (fun i z => z.crash X.size (keep.getD i 0)) k X.zs).length = X.zs.length := preMap_len
        have hi : k < ({ X with zs := preMap (fun i z => z.crash X.size (keep.getD i 0)) k X.zs } : DS).zs.length := by rw [hl]; exact hlt
        obtain ⟨la, lc, hrz, hsz, hDg⟩ := hr4.at hi
        rw [preMap_get hlt (Nat.le_refl _)] at hrz hsz
        have h1 : (k : Int) < (X.zs.length : Int) := by omega
        have h2 : (0 : Int) ≤ (k : Int) := by omega
        have hok1 := hok.at hlt
        have hl64 : X.zs[k].L.length ≤ 64 := by have := hok1.len; have := hok.s2; omega
        have hkr := HKV.out.fr0 F4
        obtain ⟨ka', kc', e5, hki⟩ := hkr.int
        cases e5
        clear hl
        by_cases hkk : k < keep.length
        · obtain ⟨kg, ko, rfl, hkc⟩ := hki k hkk
          have h6 : (k : Int) < (keep.length : Int) := by omega
          have e6 : keep.getD k 0 = keep[k] := by simp [List.getD, hkk]
          clear hki hkr
          have hsw : w.heap.size + 2 ≤ wr.heap.size := by have := blk_lt g14; omega
          have e1 : ({ X with zs := preMap (fun i z => z.crash X.size (keep.getD i 0)) k X.zs } : DS).set k (X.zs[k].crash X.size keep[k]) = { X with zs := preMap (fun i z => z.crash X.size (keep.getD i 0)) (k + 1) X.zs } := by rw [preMap_succ hlt, e6]; rfl
          have hl9 : ({ X with zs := preMap (fun i z => z.crash X.size (keep.getD i 0)) (k + 1) X.zs } : DS).zs.length = X.zs.length := preMap_len
          have e2 : ({ X with zs := preMap (fun i z => z.crash X.size (keep.getD i 0)) k X.zs } : DS).zs.length = X.zs.length := preMap_len
          have HE := Lib.hid (And.intro e1 (And.intro hl9 e2))
          clear e1 hl9 e2 e6
          generalize hX1 : ({ X with zs := preMap (fun i z => z.crash X.size (keep.getD i 0)) (k + 1) X.zs } : DS) = X1 at *
          go_wp2_with fail
          refine (wpIn_wide (n := 0)).1 ?_
          refine regionIn_seqN (fun j => j == 10 || j == 11) (SN wr 10 11 12
            (fun u V => ∃ l, u = .agg #[l, .int .i64 (X.zs[k].crash X.size keep[k]).safe, .int .i64 (X.zs[k].crash X.size keep[k]).st, .bool X.zs[k].fin] ∧ RdS (fun j => (D j ∧ j < w.heap.size) ∨ w.heap.size + 2 ≤ j) V (l, X.zs[k].crash X.size keep[k]))
            (fun u V => ∃ g9 o9 cap9, u = .agg #[.slice (some ⟨g9, o9, none⟩) X.zs.length cap9, .int .i64 X.size, .int .i64 X.op, .int .i64 X.n, .bool X.down] ∧ RdO (fun j => (D j ∧ j < w.heap.size) ∨ w.heap.size + 2 ≤ j) V g9 o9 cap9 X1)
            (fun V => RMid (fun j => (D j ∧ j < w.heap.size) ∨ w.heap.size + 2 ≤ j) w w.heap.size X X1 V)) rfl (by kernel_rfl) (by kernel_rfl) (by kernel_rfl) (fun _ => trivial) rfl (SN.loc rfl rfl) (fun vs => SN.start (Fr.refl _ _).drew) ?_
          iterate 6
            apply SeqN.step
            · rfl
            · exact fun _ => rfl
            · intro vs dn V hV ht hcl
              have hf := (hV.lo (ht.later 12 _ rfl (by kernel_rfl))).1; have cV := fun i => blk_cell (hf.heap g04 id) i
              simp [Oper.gives, execOp, Act.eval, go_sem, cV, h1, h2, hlt]
              exact ⟨rfl, hV.keep (by decide) (by decide) (by decide)⟩
            simp only [Act.put, List.setIfInBounds_toArray, List.set_cons_succ, List.set_cons_zero]
          apply SeqN.step
          · rfl
          · exact fun _ => rfl
          · intro vs dn V hV ht hcl
            (have hf := (hV.lo (ht.later 12 _ rfl (by kernel_rfl))).1; exact gives_loadB rfl b117 rfl (rangeAt_fr hrz hf id) rfl ⟨rfl, hV.keep (by decide) (by decide) (by decide)⟩)
          simp only [Act.put, List.setIfInBounds_toArray, List.set_cons_succ, List.set_cons_zero]
          iterate 3
            apply SeqN.step
            · rfl
            · exact fun _ => rfl
            · intro vs dn V hV ht hcl
              have hf := (hV.lo (ht.later 12 _ rfl (by kernel_rfl))).1; have cV := fun i => blk_cell (hf.heap g04 id) i
              simp [Oper.gives, execOp, Act.eval, go_sem, cV]
              exact ⟨rfl, hV.keep (by decide) (by decide) (by decide)⟩
            simp only [Act.put, List.setIfInBounds_toArray, List.set_cons_succ, List.set_cons_zero]
          apply SeqN.any
          · rfl
          · exact fun _ => rfl
          · intro vs dn V hV ht hcl
            have h12 := ht.later 12 _ rfl (by kernel_rfl)
            have hf := (hV.lo h12).1
            have hc := rcrash (RdAt.fr0 hsz hf) hok.s1 hok1.safe hl64 keep[k]
            simp [Oper.gives, execOp, Act.eval, go_sem]
            refine callsIn_wide.2 (hc.mono ?_)
            rintro e W9 ⟨l, rfl, hl, f9⟩
            have hfs := hf.size
            exact ⟨_, rfl, hV.puti h12 (by decide) (by decide) f9 ⟨l, rfl, RdAt.mono hl (fun j hj => by rcases hj with h | h; exact h; exact .inr (by omega))⟩ (by rintro u ⟨a, b, c, q1, q2⟩; exact ⟨a, b, c, q1, q2.fr0 f9⟩)⟩
          simp only [Act.put, List.setIfInBounds_toArray, List.set_cons_succ, List.set_cons_zero]
          apply SeqN.any
          · rfl
          · exact fun _ => rfl
          · intro vs dn V hV ht hcl
            have h12 := ht.later 12 _ rfl (by kernel_rfl)
            obtain ⟨hf, p10, -⟩ := hV.lo h12
            obtain ⟨l, e10, hl⟩ := p10 (ht.dep 10 (by kernel_rfl))
            have hfs := hf.size
            obtain ⟨q1, q2, q3⟩ := HE.out
            have hc := rput (k := k) (hr4.fr0 hf).rf hi (by rw [q3]; exact hok.l2) hl
            rw [q1, q3] at hc
            simp [Oper.gives, execOp, Act.eval, go_sem, e10]
            refine callsIn_wide.2 (hc.mono ?_)
            rintro e W9 ⟨v9, rfl, hq9⟩
            obtain ⟨g9, o9, cap9, rfl, hr9, F9⟩ := hq9.op (by rw [q2]; exact hok.l1)
            have q4 : X1.size = X.size ∧ X1.op = X.op ∧ X1.n = X.n ∧ X1.down = X.down := by rw [← hX1]; exact ⟨rfl, rfl, rfl, rfl⟩
            obtain ⟨r1, r2, r3, r4⟩ := q4
            rw [q2, r1, r2, r3, r4]
            exact ⟨_, rfl, hV.putj h12 (by decide) (by decide) F9 ⟨g9, o9, cap9, rfl, hr9.mono (fun j hj => by rcases hj with h | h; exact h; exact .inr (by omega))⟩ (by rintro u ⟨a, q1, q2⟩; exact ⟨a, q1, RdAt.fr0 q2 F9⟩)⟩
          simp only [Act.put, List.setIfInBounds_toArray, List.set_cons_succ, List.set_cons_zero]
          apply SeqN.step
          · rfl
          · exact fun _ => rfl
          · intro vs dn V hV ht hcl
            obtain ⟨hf, -, p11⟩ := hV.lo ht.not
            obtain ⟨g9, o9, cap9, e11, hr9⟩ := p11 (ht.dep 11 (by kernel_rfl))
            have hg := hf.heap g04 id
            have q4 : X1.size = X.size ∧ X1.op = X.op ∧ X1.n = X.n ∧ X1.down = X.down := by rw [← hX1]; exact ⟨rfl, rfl, rfl, rfl⟩
            obtain ⟨r1, r2, r3, r4⟩ := q4
            have f9 := setRow_fr V w.heap.size #[.slice (some ⟨g9, o9, none⟩) X.zs.length cap9, .int .i64 X.size, .int .i64 X.op, .int .i64 X.n, .bool X.down]
            refine gives_storeBw rfl b27 rfl e11 hg rfl (bx27 _ _ _ _ _ _ _) ⟨rfl, SN.putk ⟨g9, o9, cap9, ?_, f9.heap (hf.heap g14 id) (by omega), hr9.fr f9 (fun j hj e => by rcases hj with h | h <;> omega), (F4.trans hf (fun _ _ h => h)).trans f9 (fun j hj e => by omega)⟩⟩
            rw [r1, r2, r3, r4]
            exact setRow_blk _ hg
          simp only [Act.put, List.setIfInBounds_toArray, List.set_cons_succ, List.set_cons_zero]
          refine SeqN.nil fun vs V hV => ?_
          have HM2 := Lib.hid (hV.hi rfl)
          clear hV
          go_wp2_with fail
          go_roundw
          case rel => exact ⟨k + 1, by omega, by go_num, by rw [hX1]; exact HM2.out⟩
          case measure => simp [intOf]; omega
        · have h6 : ¬ (k : Int) < (keep.length : Int) := by omega
          have e6 : keep.getD k 0 = 0 := by simp [List.getD, hkk]
          clear hki hkr
          have hsw : w.heap.size + 2 ≤ wr.heap.size := by have := blk_lt g14; omega
          have e1 : ({ X with zs := preMap (fun i z => z.crash X.size (keep.getD i 0)) k X.zs } : DS).set k (X.zs[k].crash X.size 0) = { X with zs := preMap (fun i z => z.crash X.size (keep.getD i 0)) (k + 1) X.zs } := by rw [preMap_succ hlt, e6]; rfl
          have hl9 : ({ X with zs := preMap (fun i z => z.crash X.size (keep.getD i 0)) (k + 1) X.zs } : DS).zs.length = X.zs.length := preMap_len
          have e2 : ({ X with zs := preMap (fun i z => z.crash X.size (keep.getD i 0)) k X.zs } : DS).zs.length = X.zs.length := preMap_len
          have HE := Lib.hid (And.intro e1 (And.intro hl9 e2))
          clear e1 hl9 e2 e6
          generalize hX1 : ({ X with zs := preMap (fun i z => z.crash X.size (keep.getD i 0)) (k + 1) X.zs } : DS) = X1 at *
          go_wp2_with fail
          refine (wpIn_wide (n := 0)).1 ?_
          refine regionIn_seqN (fun j => j == 10 || j == 11) (SN wr 10 11 12
            (fun u V => ∃ l, u = .agg #[l, .int .i64 (X.zs[k].crash X.size 0).safe, .int .i64 (X.zs[k].crash X.size 0).st, .bool X.zs[k].fin] ∧ RdS (fun j => (D j ∧ j < w.heap.size) ∨ w.heap.size + 2 ≤ j) V (l, X.zs[k].crash X.size 0))
            (fun u V => ∃ g9 o9 cap9, u = .agg #[.slice (some ⟨g9, o9, none⟩) X.zs.length cap9, .int .i64 X.size, .int .i64 X.op, .int .i64 X.n, .bool X.down] ∧ RdO (fun j => (D j ∧ j < w.heap.size) ∨ w.heap.size + 2 ≤ j) V g9 o9 cap9 X1)
            (fun V => RMid (fun j => (D j ∧ j < w.heap.size) ∨ w.heap.size + 2 ≤ j) w w.heap.size X X1 V)) rfl (by kernel_rfl) (by kernel_rfl) (by kernel_rfl) (fun _ => trivial) rfl (SN.loc rfl rfl) (fun vs => SN.start (Fr.refl _ _).drew) ?_
          iterate 6
            apply SeqN.step
            · rfl
            · exact fun _ => rfl
            · intro vs dn V hV ht hcl
              have hf := (hV.lo (ht.later 12 _ rfl (by kernel_rfl))).1; have cV := fun i => blk_cell (hf.heap g04 id) i
              simp [Oper.gives, execOp, Act.eval, go_sem, cV, h1, h2, hlt]
              exact ⟨rfl, hV.keep (by decide) (by decide) (by decide)⟩
            simp only [Act.put, List.setIfInBounds_toArray, List.set_cons_succ, List.set_cons_zero]
          apply SeqN.step
          · rfl
          · exact fun _ => rfl
          · intro vs dn V hV ht hcl
            (have hf := (hV.lo (ht.later 12 _ rfl (by kernel_rfl))).1; exact gives_loadB rfl b117 rfl (rangeAt_fr hrz hf id) rfl ⟨rfl, hV.keep (by decide) (by decide) (by decide)⟩)
          simp only [Act.put, List.setIfInBounds_toArray, List.set_cons_succ, List.set_cons_zero]
          iterate 3
            apply SeqN.step
            · rfl
            · exact fun _ => rfl
            · intro vs dn V hV ht hcl
              have hf := (hV.lo (ht.later 12 _ rfl (by kernel_rfl))).1; have cV := fun i => blk_cell (hf.heap g04 id) i
              simp [Oper.gives, execOp, Act.eval, go_sem, cV]
              exact ⟨rfl, hV.keep (by decide) (by decide) (by decide)⟩
            simp only [Act.put, List.setIfInBounds_toArray, List.set_cons_succ, List.set_cons_zero]
          apply SeqN.any
          · rfl
          · exact fun _ => rfl
          · intro vs dn V hV ht hcl
            have h12 := ht.later 12 _ rfl (by kernel_rfl)
            have hf := (hV.lo h12).1
            have hc := rcrash (RdAt.fr0 hsz hf) hok.s1 hok1.safe hl64 0
            simp [Oper.gives, execOp, Act.eval, go_sem]
            refine callsIn_wide.2 (hc.mono ?_)
            rintro e W9 ⟨l, rfl, hl, f9⟩
            have hfs := hf.size
            exact ⟨_, rfl, hV.puti h12 (by decide) (by decide) f9 ⟨l, rfl, RdAt.mono hl (fun j hj => by rcases hj with h | h; exact h; exact .inr (by omega))⟩ (by rintro u ⟨a, b, c, q1, q2⟩; exact ⟨a, b, c, q1, q2.fr0 f9⟩)⟩
          simp only [Act.put, List.setIfInBounds_toArray, List.set_cons_succ, List.set_cons_zero]
          apply SeqN.any
          · rfl
          · exact fun _ => rfl
          · intro vs dn V hV ht hcl
            have h12 := ht.later 12 _ rfl (by kernel_rfl)
            obtain ⟨hf, p10, -⟩ := hV.lo h12
            obtain ⟨l, e10, hl⟩ := p10 (ht.dep 10 (by kernel_rfl))
            have hfs := hf.size
            obtain ⟨q1, q2, q3⟩ := HE.out
            have hc := rput (k := k) (hr4.fr0 hf).rf hi (by rw [q3]; exact hok.l2) hl
            rw [q1, q3] at hc
            simp [Oper.gives, execOp, Act.eval, go_sem, e10]
            refine callsIn_wide.2 (hc.mono ?_)
            rintro e W9 ⟨v9, rfl, hq9⟩
            obtain ⟨g9, o9, cap9, rfl, hr9, F9⟩ := hq9.op (by rw [q2]; exact hok.l1)
            have q4 : X1.size = X.size ∧ X1.op = X.op ∧ X1.n = X.n ∧ X1.down = X.down := by rw [← hX1]; exact ⟨rfl, rfl, rfl, rfl⟩
            obtain ⟨r1, r2, r3, r4⟩ := q4
            rw [q2, r1, r2, r3, r4]
            exact ⟨_, rfl, hV.putj h12 (by decide) (by decide) F9 ⟨g9, o9, cap9, rfl, hr9.mono (fun j hj => by rcases hj with h | h; exact h; exact .inr (by omega))⟩ (by rintro u ⟨a, q1, q2⟩; exact ⟨a, q1, RdAt.fr0 q2 F9⟩)⟩
          simp only [Act.put, List.setIfInBounds_toArray, List.set_cons_succ, List.set_cons_zero]
          apply SeqN.step
          · rfl
          · exact fun _ => rfl
          · intro vs dn V hV ht hcl
            obtain ⟨hf, -, p11⟩ := hV.lo ht.not
            obtain ⟨g9, o9, cap9, e11, hr9⟩ := p11 (ht.dep 11 (by kernel_rfl))
            have hg := hf.heap g04 id
            have q4 : X1.size = X.size ∧ X1.op = X.op ∧ X1.n = X.n ∧ X1.down = X.down := by rw [← hX1]; exact ⟨rfl, rfl, rfl, rfl⟩
            obtain ⟨r1, r2, r3, r4⟩ := q4
            have f9 := setRow_fr V w.heap.size #[.slice (some ⟨g9, o9, none⟩) X.zs.length cap9, .int .i64 X.size, .int .i64 X.op, .int .i64 X.n, .bool X.down]
            refine gives_storeBw rfl b27 rfl e11 hg rfl (bx27 _ _ _ _ _ _ _) ⟨rfl, SN.putk ⟨g9, o9, cap9, ?_, f9.heap (hf.heap g14 id) (by omega), hr9.fr f9 (fun j hj e => by rcases hj with h | h <;> omega), (F4.trans hf (fun _ _ h => h)).trans f9 (fun j hj e => by omega)⟩⟩
            rw [r1, r2, r3, r4]
            exact setRow_blk _ hg
          simp only [Act.put, List.setIfInBounds_toArray, List.set_cons_succ, List.set_cons_zero]
          refine SeqN.nil fun vs V hV => ?_
          have HM2 := Lib.hid (hV.hi rfl)
          clear hV
          go_wp2_with fail
          go_roundw
          case rel => exact ⟨k + 1, by omega, by go_num, by rw [hX1]; exact HM2.out⟩
          case measure => simp [intOf]; omega
      · obtain rfl : k = X.zs.length := by omega
        have e1 : ({ X with zs := preMap (fun i z => z.crash X.size (keep.getD i 0)) X.zs.length X.zs } : DS).zs = (X.revive keep).zs := by rw [preMap_all]; rfl
        have hr5 := hr4.same (Y := X.revive keep) e1.symm
        have hfl : X.zs.length = (X.revive keep).zs.length := by simp [DS.revive]
        have HFL := Lib.hid hfl
        have f4 := fun i => blk_frozen g04 i
        have g05 := blk_put g04 4 (.bool false)
        simp only [List.setIfInBounds_toArray, List.set_cons_succ, List.set_cons_zero] at g05
        have f5 := Fr.set1 wr w.heap.size 4 (.bool false)
        have g15 := f5.heap g14 (by omega)
        have hr6 := hr5.fr f5 (fun j hj e => by rcases hj with h | h <;> omega)
        have F5 := F4.trans f5 (fun j hj e => by omega)
        clear hfl e1 hr4 hr5 F4
        go_wp2_with (first | ((with_reducible refine is_load 27 rfl ?_); refine wpList_loadBw rfl 27 _ rfl b27 _ _ _ rfl (by first | assumption | exact blk_new _ _) rfl ?_) | ((with_reducible refine is_store 27 rfl ?_); refine wpList_storeBw rfl 27 _ _ rfl b27 _ _ _ _ rfl rfl (by first | assumption | exact blk_new _ _) rfl (bx27 _ _ _ _ _ _ _) ?_) | ((with_reducible refine is_load 117 rfl ?_); (first | refine wpList_loadBw rfl 117 _ rfl b117 _ _ _ rfl (by first | assumption | exact blk_new _ _) rfl ?_ | refine wpList_loadB rfl 117 _ rfl b117 _ _ _ rfl (by assumption) rfl ?_)) | ((with_reducible refine is_store 117 rfl ?_); (first | refine wpList_storeBw rfl 117 _ _ rfl b117 _ _ _ _ rfl rfl (by first | assumption | exact blk_new _ _) rfl (bx117 _ _ _ _ _ _) ?_ | refine wpList_storeBm rfl 117 _ _ rfl b117 _ _ _ rfl rfl (by assumption) (bx117 _ _ _ _ _ _) ?_)))
        exact bodyPost_ret (res57 rfl (setRow_blk _ g15) rfl) rfl ⟨_, rfl, (hr6.fr (setRow_fr _ _ _) (fun k hk e => by rcases hk with h | h <;> omega)).q rfl rfl rfl rfl (F5.trans (setRow_fr _ _ _) (fun k hk e => by omega)) (fun k hk => by rcases hk with h | h; exact .inl h.1; exact .inr (by omega)) HFL.out⟩
end
end Go.Proofs.Ytkbagfpoegfcaaa

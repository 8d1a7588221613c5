import Derived.Test.YtffehagmchcpkaaA14
namespace Go.Proofs.Ytffehagmchcpkaa
open Go.RowKit Go.Proofs.Cmd
variable {Z q g N : Nat} {vs : List Value} {rows : List (List Nat)} {w w' : World}
set_option maxRecDepth 100000 in
set_option maxHeartbeats 4000000 in
theorem r_move_ok (h : RA Z w q g vs rows N) (hZ : Z ≤ w.heap.size) (f t : Nat) (hf : f < rows.length) (ht : t < rows.length) (hne : f ≠ t) (hl : ∀ (r : Nat) (l : List Nat), rows[r]? = some l → l.length ≤ 1000) :
    Calls Try.prog 70 #[.pointer (some ⟨q, 0, none⟩), .int .i64 f, .int .i64 t] w (DoneR Z q g N w (0, (rows.set t (rows[t] ++ rows[f])).set f [])) := by
  have R1 := r_row h (f : Int)
  rw [isIn_of hf] at R1
  have R1 := Lib.hid R1
  have R2 := r_row h (t : Int)
  rw [isIn_of ht] at R2
  have R2 := Lib.hid R2
  have hrf : rows[f]? = some rows[f] := by simp [hf]
  have hrt : rows[t]? = some rows[t] := by simp [ht]
  have hlf := hl f _ hrf
  have hlt := hl t _ hrt
  obtain ⟨v, _, cf, hIf⟩ := h.at_ hrf
  obtain ⟨fa, fc, hv, _⟩ := owns_shape hIf.1
  have hlz : (lz rows[f]).length = rows[f].length := by simp
  rw [hlz] at hv
  subst hv
  have FV : Hid (w.ownsRow Z 3 1 (.slice fa rows[f].length fc) rows[f].length ((lz rows[f]).map (Value.int .i64))) := by have := hIf.1; rw [hlz] at this; exact this
  obtain ⟨v, _, ct, hIt⟩ := h.at_ hrt
  obtain ⟨ta, tc, hv, _⟩ := owns_shape hIt.1
  have hlz2 : (lz rows[t]).length = rows[t].length := by simp
  rw [hlz2] at hv
  subst hv
  have TV : Hid (w.ownsRow Z 3 1 (.slice ta rows[t].length tc) rows[t].length ((lz rows[t]).map (Value.int .i64))) := by have := hIt.1; rw [hlz2] at this; exact this
  have c0 := h.c0
  rw [h.len] at c0
  have hql : q < w.heap.size := lt_of h.head
  have hgl : g < w.heap.size := lt_of h.row
  have RQ := Lib.hid h
  have hf1 : (f : Int) < (rows.length : Int) := by omega
  have ht1 : (t : Int) < (rows.length : Int) := by omega
  have hb : ((f : Int) == (t : Int)) = false := by simp; omega
  obtain ⟨i0, hi, hz0, hz1, hz2⟩ := info_parts info3
  generalize rows[f] = lf at hlf cf FV
  generalize rows[t] = lt at hlt ct TV
  clear h hIf hIt hrf hrt hlz hlz2 hl
  go_enter Try.func70, Try.ntmps70
  go_wp2_with fail
  refine R1.out.mono ?_; rintro e w' ⟨rfl, rfl⟩
  go_wp2_with fail
  refine R2.out.mono ?_; rintro e w' ⟨rfl, rfl⟩
  go_wp2_with fail
  go_cut [6] (fun _ wx => ∃ vs', RA Z wx q g vs' (rows.set t (lt ++ lf)) N ∧ Upd (fun b => b = g) w wx)
  case first =>
    refine wp_region_T (L := [23]) (S := (fun wz : World => wz.cell? ⟨q, 0, none⟩ = some (.slice (some ⟨g, 0, none⟩) rows.length rows.length) ∧ wz.cell? ⟨g, t, none⟩ = some (.slice ta lt.length tc) ∧ wz.cell? ⟨g, f, none⟩ = some (.slice fa lf.length fc))) (by kernel_rfl) ?_
    intro hc
    have U0 := Lib.hid (show New w w.drew from (Upd.refl _ _).drew)
    have hS : (fun wz : World => wz.cell? ⟨q, 0, none⟩ = some (.slice (some ⟨g, 0, none⟩) rows.length rows.length) ∧ wz.cell? ⟨g, t, none⟩ = some (.slice ta lt.length tc) ∧ wz.cell? ⟨g, f, none⟩ = some (.slice fa lf.length fc)) w.drew := ⟨c0, ct, cf⟩
    have sz0 : w.heap.size ≤ w.drew.heap.size := Nat.le_refl _
    generalize w.drew = x0 at U0 hS sz0 ⊢
    refine wpAnyT_take (i := 0) (oi := ⟨some 20, _, _, _, _, _⟩) (v := ?_) hc rfl (by kernel_rfl) (by kernel_rfl) (by kernel_rfl) (by kernel_rfl) (fun _ _ _ h => h) (Or.inl ⟨by rfl, ?_⟩) hS ?_
    rotate_left
    · intro wz hSw; obtain ⟨hs1, hs2, hs3⟩ := hSw; go_simp; with_reducible rfl
    intro hc; simp only [Act.put, List.setIfInBounds_toArray, List.set_cons_zero, List.set_cons_succ]
    refine wpAnyT_take (i := 1) (oi := ⟨some 21, _, _, _, _, _⟩) (v := ?_) hc rfl (by kernel_rfl) (by kernel_rfl) (by kernel_rfl) (by kernel_rfl) (fun _ _ _ h => h) (Or.inl ⟨by rfl, ?_⟩) hS ?_
    rotate_left
    · intro wz hSw; obtain ⟨hs1, hs2, hs3⟩ := hSw; go_simp; with_reducible rfl
    intro hc; simp only [Act.put, List.setIfInBounds_toArray, List.set_cons_zero, List.set_cons_succ]
    refine wpAnyT_take (i := 2) (oi := ⟨some 22, _, _, _, _, _⟩) (v := ?_) hc rfl (by kernel_rfl) (by kernel_rfl) (by kernel_rfl) (by kernel_rfl) (fun _ _ _ h => h) (Or.inl ⟨by rfl, ?_⟩) hS ?_
    rotate_left
    · intro wz hSw; obtain ⟨hs1, hs2, hs3⟩ := hSw; go_simp; with_reducible rfl
    intro hc; simp only [Act.put, List.setIfInBounds_toArray, List.set_cons_zero, List.set_cons_succ]
    refine wpAnyT_take (i := 3) (oi := ⟨some 23, _, _, _, _, _⟩) (v := ?_) hc rfl (by kernel_rfl) (by kernel_rfl) (by kernel_rfl) (by kernel_rfl) (fun _ _ _ h => h) (Or.inl ⟨by rfl, ?_⟩) hS ?_
    rotate_left
    · intro wz hSw; obtain ⟨hs1, hs2, hs3⟩ := hSw; go_simp; with_reducible rfl
    intro hc; simp only [Act.put, List.setIfInBounds_toArray, List.set_cons_zero, List.set_cons_succ]
    refine wpAnyT_take (i := 4) (oi := ⟨some 24, _, _, _, _, _⟩) (v := ?_) hc rfl (by kernel_rfl) (by kernel_rfl) (by kernel_rfl) (by kernel_rfl) (fun _ _ _ h => h) (Or.inl ⟨by rfl, ?_⟩) hS ?_
    rotate_left
    · intro wz hSw; obtain ⟨hs1, hs2, hs3⟩ := hSw; go_simp; with_reducible rfl
    intro hc; simp only [Act.put, List.setIfInBounds_toArray, List.set_cons_zero, List.set_cons_succ]
    refine wpAnyT_take (i := 6) (oi := ⟨some 26, _, _, _, _, _⟩) (v := ?_) hc rfl (by kernel_rfl) (by kernel_rfl) (by kernel_rfl) (by kernel_rfl) (fun _ _ _ h => h) (Or.inl ⟨by rfl, ?_⟩) hS ?_
    rotate_left
    · intro wz hSw; obtain ⟨hs1, hs2, hs3⟩ := hSw; go_simp; with_reducible rfl
    intro hc; simp only [Act.put, List.setIfInBounds_toArray, List.set_cons_zero, List.set_cons_succ]
    refine wpAnyT_take (i := 7) (oi := ⟨some 27, _, _, _, _, _⟩) (v := ?_) hc rfl (by kernel_rfl) (by kernel_rfl) (by kernel_rfl) (by kernel_rfl) (fun _ _ _ h => h) (Or.inl ⟨by rfl, ?_⟩) hS ?_
    rotate_left
    · intro wz hSw; obtain ⟨hs1, hs2, hs3⟩ := hSw; go_simp; with_reducible rfl
    intro hc; simp only [Act.put, List.setIfInBounds_toArray, List.set_cons_zero, List.set_cons_succ]
    refine wpAnyT_take (i := 8) (oi := ⟨some 28, _, _, _, _, _⟩) (v := ?_) hc rfl (by kernel_rfl) (by kernel_rfl) (by kernel_rfl) (by kernel_rfl) (fun _ _ _ h => h) (Or.inl ⟨by rfl, ?_⟩) hS ?_
    rotate_left
    · intro wz hSw; obtain ⟨hs1, hs2, hs3⟩ := hSw; go_simp; with_reducible rfl
    intro hc; simp only [Act.put, List.setIfInBounds_toArray, List.set_cons_zero, List.set_cons_succ]
    refine wpAnyT_take (i := 9) (oi := ⟨some 29, _, _, _, _, _⟩) (v := ?_) hc rfl (by kernel_rfl) (by kernel_rfl) (by kernel_rfl) (by kernel_rfl) (fun _ _ _ h => h) (Or.inl ⟨by rfl, ?_⟩) hS ?_
    rotate_left
    · intro wz hSw; obtain ⟨hs1, hs2, hs3⟩ := hSw; go_simp; with_reducible rfl
    intro hc; simp only [Act.put, List.setIfInBounds_toArray, List.set_cons_zero, List.set_cons_succ]
    refine wpAnyT_take (i := 10) (oi := ⟨some 30, _, _, _, _, _⟩) (v := ?_) hc rfl (by kernel_rfl) (by kernel_rfl) (by kernel_rfl) (by kernel_rfl) (fun _ _ _ h => h) (Or.inl ⟨by rfl, ?_⟩) hS ?_
    rotate_left
    · intro wz hSw; obtain ⟨hs1, hs2, hs3⟩ := hSw; go_simp; with_reducible rfl
    intro hc; simp only [Act.put, List.setIfInBounds_toArray, List.set_cons_zero, List.set_cons_succ]
    refine wpAnyT_take (i := 11) (oi := ⟨some 31, _, _, _, _, _⟩) (v := ?_) hc rfl (by kernel_rfl) (by kernel_rfl) (by kernel_rfl) (by kernel_rfl) (fun _ _ _ h => h) (Or.inl ⟨by rfl, ?_⟩) hS ?_
    rotate_left
    · intro wz hSw; obtain ⟨hs1, hs2, hs3⟩ := hSw; go_simp; with_reducible rfl
    intro hc; simp only [Act.put, List.setIfInBounds_toArray, List.set_cons_zero, List.set_cons_succ]
    refine wpAnyT_take (i := 12) (oi := ⟨some 32, _, _, _, _, _⟩) (v := ?_) hc rfl (by kernel_rfl) (by kernel_rfl) (by kernel_rfl) (by kernel_rfl) (fun _ _ _ h => h) (Or.inl ⟨by rfl, ?_⟩) hS ?_
    rotate_left
    · intro wz hSw; obtain ⟨hs1, hs2, hs3⟩ := hSw; go_simp; with_reducible rfl
    intro hc; simp only [Act.put, List.setIfInBounds_toArray, List.set_cons_zero, List.set_cons_succ]
    refine wpAnyT_take (i := 14) (oi := ⟨some 34, _, _, _, _, _⟩) (v := ?_) hc rfl (by kernel_rfl) (by kernel_rfl) (by kernel_rfl) (by kernel_rfl) (fun _ _ _ h => h) (Or.inl ⟨by rfl, ?_⟩) hS ?_
    rotate_left
    · intro wz hSw; obtain ⟨hs1, hs2, hs3⟩ := hSw; go_simp; with_reducible rfl
    intro hc; simp only [Act.put, List.setIfInBounds_toArray, List.set_cons_zero, List.set_cons_succ]
    refine wpAnyT_take (i := 15) (oi := ⟨some 35, _, _, _, _, _⟩) (v := ?_) hc rfl (by kernel_rfl) (by kernel_rfl) (by kernel_rfl) (by kernel_rfl) (fun _ _ _ h => h) (Or.inl ⟨by rfl, ?_⟩) hS ?_
    rotate_left
    · intro wz hSw; obtain ⟨hs1, hs2, hs3⟩ := hSw; go_simp; with_reducible rfl
    intro hc; simp only [Act.put, List.setIfInBounds_toArray, List.set_cons_zero, List.set_cons_succ]
    refine wpAnyT_take (i := 16) (oi := ⟨some 36, _, _, _, _, _⟩) (v := ?_) hc rfl (by kernel_rfl) (by kernel_rfl) (by kernel_rfl) (by kernel_rfl) (fun _ _ _ h => h) (Or.inl ⟨by rfl, ?_⟩) hS ?_
    rotate_left
    · intro wz hSw; obtain ⟨hs1, hs2, hs3⟩ := hSw; go_simp; with_reducible rfl
    intro hc; simp only [Act.put, List.setIfInBounds_toArray, List.set_cons_zero, List.set_cons_succ]
    refine wpAnyT_take (i := 17) (oi := ⟨some 37, _, _, _, _, _⟩) (v := ?_) hc rfl (by kernel_rfl) (by kernel_rfl) (by kernel_rfl) (by kernel_rfl) (fun _ _ _ h => h) (Or.inl ⟨by rfl, ?_⟩) hS ?_
    rotate_left
    · intro wz hSw; obtain ⟨hs1, hs2, hs3⟩ := hSw; go_simp; with_reducible rfl
    intro hc; simp only [Act.put, List.setIfInBounds_toArray, List.set_cons_zero, List.set_cons_succ]
    refine wpAnyT_take (i := 18) (oi := ⟨some 38, _, _, _, _, _⟩) (v := ?_) hc rfl (by kernel_rfl) (by kernel_rfl) (by kernel_rfl) (by kernel_rfl) (fun _ _ _ h => h) (Or.inl ⟨by rfl, ?_⟩) hS ?_
    rotate_left
    · intro wz hSw; obtain ⟨hs1, hs2, hs3⟩ := hSw; go_simp; with_reducible rfl
    intro hc; simp only [Act.put, List.setIfInBounds_toArray, List.set_cons_zero, List.set_cons_succ]
    refine wpAnyT_take (i := 19) (oi := ⟨some 39, _, _, _, _, _⟩) (v := ?_) hc rfl (by kernel_rfl) (by kernel_rfl) (by kernel_rfl) (by kernel_rfl) (fun _ _ _ h => h) (Or.inl ⟨by rfl, ?_⟩) hS ?_
    rotate_left
    · intro wz hSw; obtain ⟨hs1, hs2, hs3⟩ := hSw; go_simp; with_reducible rfl
    intro hc; simp only [Act.put, List.setIfInBounds_toArray, List.set_cons_zero, List.set_cons_succ]
    refine wpAnyT_take (i := 20) (oi := ⟨some 40, _, _, _, _, _⟩) (v := ?_) hc rfl (by kernel_rfl) (by kernel_rfl) (by kernel_rfl) (by kernel_rfl) (fun _ _ _ h => h) (Or.inl ⟨by rfl, ?_⟩) hS ?_
    rotate_left
    · intro wz hSw; obtain ⟨hs1, hs2, hs3⟩ := hSw; go_simp; with_reducible rfl
    intro hc; simp only [Act.put, List.setIfInBounds_toArray, List.set_cons_zero, List.set_cons_succ]
    refine wpAnyT_oper (i := 5) (oi := ⟨some 25, _, _, _, _, _⟩) hc (by kernel_rfl) rfl (by kernel_rfl) ?_
    intro K hK
    go_simp
    have NB := new_alloc x0 (.cells #[] 3)
    have O1 := Lib.hid (World.ownsRow_lit (base := x0.heap.size) (e := 3) (size := 1) x0 #[] 0 (Nat.le_refl _) (by simp) rfl)
    have U1 := Lib.hid (U0.out.trans NB)
    have sz1 := NB.size
    clear NB
    generalize x0.alloc (.cells #[] 3) = x1 at *
    have hS1 : (fun wz : World => wz.cell? ⟨q, 0, none⟩ = some (.slice (some ⟨g, 0, none⟩) rows.length rows.length) ∧ wz.cell? ⟨g, t, none⟩ = some (.slice ta lt.length tc) ∧ wz.cell? ⟨g, f, none⟩ = some (.slice fa lf.length fc)) x1 := ⟨(New.cell U1.out (p := ⟨q, 0, none⟩) hql).trans c0, (New.cell U1.out (p := ⟨g, t, none⟩) hgl).trans ct, (New.cell U1.out (p := ⟨g, f, none⟩) hgl).trans cf⟩
    refine hK _ _ (fun _ => hS1) (fun hc => ?_)
    clear hK K
    refine wpAnyT_oper (i := 13) (oi := ⟨some 33, _, _, _, _, _⟩) hc (by kernel_rfl) rfl (by kernel_rfl) ?_
    intro K hK
    refine wp_app_at _ _ _ _ (by rfl) x0.heap.size 3 i0 _ 1 8 Try.underlying39 hi hz0 hz1 hz2 rfl (by omega) _ 0 [] (by rfl) O1.out Z _ lt.length ((lz lt).map (Value.int .i64)) (by rfl) (owns_new TV.out U1.out) (one_ints _) (by unfold maxLen; omega) (by omega) (by omega) ?_
    intro v1 x2 hown hgrow hat
    have U2 := Lib.hid (U1.out.grown hgrow (fun b hb => .inr (by have := (O1.out.lt b hb).1; omega)))
    have O2 := Lib.hid hown
    have sz2 := hgrow.size
    clear hown hgrow hat
    have hS2 : (fun wz : World => wz.cell? ⟨q, 0, none⟩ = some (.slice (some ⟨g, 0, none⟩) rows.length rows.length) ∧ wz.cell? ⟨g, t, none⟩ = some (.slice ta lt.length tc) ∧ wz.cell? ⟨g, f, none⟩ = some (.slice fa lf.length fc)) x2 := ⟨(New.cell U2.out (p := ⟨q, 0, none⟩) hql).trans c0, (New.cell U2.out (p := ⟨g, t, none⟩) hgl).trans ct, (New.cell U2.out (p := ⟨g, f, none⟩) hgl).trans cf⟩
    refine hK _ _ (fun _ => hS2) (fun hc => ?_)
    clear hK K
    simp only [Act.put, List.setIfInBounds_toArray, List.set_cons_zero, List.set_cons_succ]
    refine wpAnyT_oper (i := 21) (oi := ⟨some 41, _, _, _, _, _⟩) hc (by kernel_rfl) rfl (by kernel_rfl) ?_
    intro K hK
    refine wp_app_at _ _ _ _ (by rfl) x0.heap.size 3 i0 _ 1 8 Try.underlying39 hi hz0 hz1 hz2 rfl (by omega) _ (0 + lt.length) ([] ++ (lz lt).map (Value.int .i64)) (by rfl) O2.out Z _ lf.length ((lz lf).map (Value.int .i64)) (by rfl) (owns_new FV.out U2.out) (one_ints _) (by unfold maxLen; omega) (by omega) (by omega) ?_
    intro v2 x3 hown hgrow hat
    have U3 := Lib.hid (U2.out.grown hgrow (fun b hb => .inr (by have := (O2.out.lt b hb).1; omega)))
    have O3 := Lib.hid hown
    have sz3 := hgrow.size
    obtain ⟨va, vc2, hv2, _⟩ := owns_shape hown
    subst hv2
    clear hown hgrow hat
    have hS3 : (fun wz : World => wz.cell? ⟨q, 0, none⟩ = some (.slice (some ⟨g, 0, none⟩) rows.length rows.length) ∧ wz.cell? ⟨g, t, none⟩ = some (.slice ta lt.length tc) ∧ wz.cell? ⟨g, f, none⟩ = some (.slice fa lf.length fc)) x3 := ⟨(New.cell U3.out (p := ⟨q, 0, none⟩) hql).trans c0, (New.cell U3.out (p := ⟨g, t, none⟩) hgl).trans ct, (New.cell U3.out (p := ⟨g, f, none⟩) hgl).trans cf⟩
    refine hK _ _ (fun _ => hS3) (fun hc => ?_)
    clear hK K
    simp only [Act.put, List.setIfInBounds_toArray, List.set_cons_zero, List.set_cons_succ]
    refine wpAnyT_take (i := 22) (oi := ⟨some 42, _, _, _, _, _⟩) (v := ?_) hc rfl (by kernel_rfl) (by kernel_rfl) (by kernel_rfl) (by kernel_rfl) (fun _ _ _ h => h) (Or.inl ⟨by rfl, ?_⟩) hS3 ?_
    rotate_left
    · intro wz hSw; obtain ⟨hs1, hs2, hs3⟩ := hSw; go_simp; with_reducible rfl
    intro hc; simp only [Act.put, List.setIfInBounds_toArray, List.set_cons_zero, List.set_cons_succ]
    have GF := frozen_of (RQ.out.new U3.out).row t
    have FIN := Lib.hid (RA.set (RQ.out.new U3.out) ht (l := lt ++ lf) (v := .slice va (lt.length + lf.length) vc2) ⟨by have := owns_base O3.out (base' := Z) (by omega); simpa using this, by simp; omega⟩)
    have FU := Lib.hid (Upd.setAt (S := fun b => b = g) (New.upd U3.out _) (.inl rfl) t (.slice va (lt.length + lf.length) vc2))
    refine wpAnyT_oper (i := 23) (oi := ⟨none, _, _, _, _, _⟩) hc (by kernel_rfl) rfl (by kernel_rfl) ?_
    intro K hK
    go_simp
    refine hK _ _ (fun h => absurd (by decide) h) (fun hc => ?_)
    clear hK K
    refine wpAnyT_done (by kernel_rfl) ?_ _
    go_wp2_with fail
    go_meet
    exact ⟨_, FIN.out, FU.out⟩
  case rest =>
    obtain ⟨vs', hR, hU⟩ := hcut
    have c0 := hR.c0
    rw [hR.len, List.length_set] at c0
    have hfl2 : f < (rows.set t (lt ++ lf)).length := by simpa using hf
    obtain ⟨v, _, cf, _⟩ := hR.at_ (r := f) (l := (rows.set t (lt ++ lf))[f]) (by simp [hf])
    have gf := frozen_of hR.row f
    have FIN := Lib.hid (RA.set hR hfl2 (l := []) (v := .slice none 0 0) ⟨World.ownsRow_nil _ _ _ _, by simp⟩)
    have FU := Lib.hid (Upd.setAt hU (.inl rfl) f (.slice none 0 0))
    clear hR hU
    go_wp2_with fail
    go_ret
    exact ⟨_, rfl, FIN.out, FU.out⟩
theorem r_move (h : RA Z w q g vs rows N) (hZ : Z ≤ w.heap.size) (hl : ∀ (r : Nat) (l : List Nat), rows[r]? = some l → l.length ≤ 1000) (fr tt : Int) :
    Calls Try.prog 70 #[.pointer (some ⟨q, 0, none⟩), .int .i64 fr, .int .i64 tt] w (DoneR Z q g N w (moveR rows fr tt)) := by
  have R1 := Lib.hid (r_row h fr)
  have R2 := Lib.hid (r_row h tt)
  have H := Lib.hid h
  cases hf : isIn rows.length fr
  · rw [hf] at R1
    have HF := Lib.hid (show moveR rows fr tt = (3, rows) by unfold moveR; rw [hf]; rfl)
    clear h hf hl
    go_enter Try.func70, Try.ntmps70
    go_wp2_with fail
    refine R1.out.mono ?_; rintro e w' ⟨rfl, rfl⟩
    go_wp2_with fail
    go_ret
    rw [HF.out]
    exact ⟨vs, rfl, H.out, Upd.refl _ _⟩
  rw [hf] at R1
  cases ht : isIn rows.length tt
  · rw [ht] at R2
    have HF := Lib.hid (show moveR rows fr tt = (3, rows) by unfold moveR; rw [hf, ht]; rfl)
    clear h hf ht hl
    go_enter Try.func70, Try.ntmps70
    go_wp2_with fail
    refine R1.out.mono ?_; rintro e w' ⟨rfl, rfl⟩
    go_wp2_with fail
    refine R2.out.mono ?_; rintro e w' ⟨rfl, rfl⟩
    go_wp2_with fail
    go_ret
    rw [HF.out]
    exact ⟨vs, rfl, H.out, Upd.refl _ _⟩
  rw [ht] at R2
  by_cases heq : fr = tt
  · have hb : (fr == tt) = true := by simpa using heq
    have HF := Lib.hid (show moveR rows fr tt = (1, rows) by unfold moveR; rw [hf, ht, if_pos heq]; rfl)
    clear h hf ht heq hl
    go_enter Try.func70, Try.ntmps70
    go_wp2_with fail
    refine R1.out.mono ?_; rintro e w' ⟨rfl, rfl⟩
    go_wp2_with fail
    refine R2.out.mono ?_; rintro e w' ⟨rfl, rfl⟩
    go_wp2_with fail
    go_ret
    rw [HF.out]
    exact ⟨vs, rfl, H.out, Upd.refl _ _⟩
  have e : moveR rows fr tt = (0, (rows.set tt.toNat (rowAt rows tt ++ rowAt rows fr)).set fr.toNat []) := by unfold moveR; rw [hf, ht, if_neg heq]; rfl
  rw [e]
  obtain ⟨f, rfl, hfl⟩ := isIn_nat hf
  obtain ⟨t, rfl, htl⟩ := isIn_nat ht
  rw [rowAt_nat (show rows[f]? = some rows[f] by simp [hfl]), rowAt_nat (show rows[t]? = some rows[t] by simp [htl]), Int.toNat_natCast, Int.toNat_natCast]
  exact r_move_ok h hZ f t hfl htl (fun e => heq (by rw [e])) hl
end Go.Proofs.Ytffehagmchcpkaa

import Derived.Test.YtffehagmchcpkaaA11
import Derived.Test.YtffehagmchcpkaaK7
import Derived.Test.YtffehagmchcpkaaK10
namespace Go.Proofs.Ytffehagmchcpkaa
open Go.RowKit Go.Proofs.Cmd
variable {Z q g N : Nat} {vs : List Value} {rows : List (List Nat)} {w w' : World}
theorem one_ints (l : List Int) : ∀ u ∈ l.map (Value.int .i64), u.oneCell' = true := by
  intro u hu; obtain ⟨x, _, rfl⟩ := List.mem_map.1 hu; rfl

def DoneR (Z q g N : Nat) (w : World) (r : Int × List (List Nat)) (e : Ending) (w' : World) : Prop := ∃ vs', e = .returned (.int .i64 r.1) ∧ RA Z w' q g vs' r.2 N ∧ Upd (fun k => k = g) w w'
set_option maxRecDepth 100000 in
set_option maxHeartbeats 4000000 in
theorem r_put_end (h : RA Z w q g vs rows N) (hZ : Z ≤ w.heap.size) (k m : Nat) (hk : k < rows.length) (hm : m < N) (hf : inR rows (m : Int) = -1) (hl : ∀ (r : Nat) (l : List Nat), rows[r]? = some l → l.length ≤ 1000) :
    Calls Try.prog 67 #[.pointer (some ⟨q, 0, none⟩), .int .i64 k, .int .i64 m, .bool false] w (DoneR Z q g N w (0, rows.set k (rows[k] ++ [m]))) := by
  have RC := r_row h (k : Int)
  rw [isIn_of hk] at RC
  have RC := Lib.hid RC
  have IC := r_in h (m : Int)
  rw [hf] at IC
  have IC := Lib.hid IC
  have hr : rows[k]? = some rows[k] := by simp [hk]
  have hll := hl k _ hr
  obtain ⟨v, _, cg, hI⟩ := h.at_ hr
  obtain ⟨va, vc, hv, _⟩ := owns_shape hI.1
  have hlz : (lz rows[k]).length = rows[k].length := by simp
  rw [hlz] at hv
  subst hv
  have IV : Hid (w.ownsRow Z 3 1 (.slice va rows[k].length vc) rows[k].length ((lz rows[k]).map (Value.int .i64))) := by have := hI.1; rw [hlz] at this; exact this
  have c0 := h.c0
  rw [h.len] at c0
  have c1 := h.c1
  have hql : q < w.heap.size := lt_of h.head
  have hgl : g < w.heap.size := lt_of h.row
  have RQ := Lib.hid h
  have hm1 : (m : Int) < (N : Int) := by omega
  have hk1 : (k : Int) < (rows.length : Int) := by omega
  have hneg : ¬ (0 : Int) ≤ -1 := by omega
  obtain ⟨i0, hi, hz0, hz1, hz2⟩ := info_parts info3
  generalize hl' : rows[k] = l at hll cg IV
  have HL := Lib.hid hl'
  clear h hI hr hf hl hlz hl'
  go_enter Try.func67, Try.ntmps67
  go_wp2_with fail
  refine RC.out.mono ?_; rintro e w' ⟨rfl, rfl⟩
  go_wp2_with fail
  refine IC.out.mono ?_; rintro e w' ⟨rfl, rfl⟩
  go_wp2_with fail
  go_cut [8] (fun _ wx => ∃ vs', RA Z wx q g vs' (rows.set k (l ++ [m])) N ∧ Upd (fun b => b = g) w wx)
  case first =>
    refine wp_region_T (L := [18]) (S := fun wz => wz.cell? ⟨q, 0, none⟩ = some (.slice (some ⟨g, 0, none⟩) rows.length rows.length) ∧ wz.cell? ⟨g, k, none⟩ = some (.slice va l.length vc)) (by kernel_rfl) ?_
    intro hc
    have U0 := Lib.hid (show New w w.drew from (Upd.refl _ _).drew)
    have hS : (fun wz : World => wz.cell? ⟨q, 0, none⟩ = some (.slice (some ⟨g, 0, none⟩) rows.length rows.length) ∧ wz.cell? ⟨g, k, none⟩ = some (.slice va l.length vc)) w.drew := ⟨c0, cg⟩
    have sz0 : w.heap.size ≤ w.drew.heap.size := Nat.le_refl _
    generalize w.drew = x0 at U0 hS sz0 ⊢
    refine wpAnyT_take (i := 0) (oi := ⟨some 46, _, _, _, _, _⟩) (v := ?_) hc rfl (by kernel_rfl) (by kernel_rfl) (by kernel_rfl) (by kernel_rfl) (fun _ _ _ h => h) (Or.inl ⟨by rfl, ?_⟩) hS ?_
    rotate_left
    · intro wz hSw; obtain ⟨hs1, hs2⟩ := hSw; go_simp; with_reducible rfl
    intro hc; simp only [Act.put, List.setIfInBounds_toArray, List.set_cons_zero, List.set_cons_succ]
    refine wpAnyT_take (i := 1) (oi := ⟨some 47, _, _, _, _, _⟩) (v := ?_) hc rfl (by kernel_rfl) (by kernel_rfl) (by kernel_rfl) (by kernel_rfl) (fun _ _ _ h => h) (Or.inl ⟨by rfl, ?_⟩) hS ?_
    rotate_left
    · intro wz hSw; obtain ⟨hs1, hs2⟩ := hSw; go_simp; with_reducible rfl
    intro hc; simp only [Act.put, List.setIfInBounds_toArray, List.set_cons_zero, List.set_cons_succ]
    refine wpAnyT_take (i := 2) (oi := ⟨some 48, _, _, _, _, _⟩) (v := ?_) hc rfl (by kernel_rfl) (by kernel_rfl) (by kernel_rfl) (by kernel_rfl) (fun _ _ _ h => h) (Or.inl ⟨by rfl, ?_⟩) hS ?_
    rotate_left
    · intro wz hSw; obtain ⟨hs1, hs2⟩ := hSw; go_simp; with_reducible rfl
    intro hc; simp only [Act.put, List.setIfInBounds_toArray, List.set_cons_zero, List.set_cons_succ]
    refine wpAnyT_take (i := 3) (oi := ⟨some 49, _, _, _, _, _⟩) (v := ?_) hc rfl (by kernel_rfl) (by kernel_rfl) (by kernel_rfl) (by kernel_rfl) (fun _ _ _ h => h) (Or.inl ⟨by rfl, ?_⟩) hS ?_
    rotate_left
    · intro wz hSw; obtain ⟨hs1, hs2⟩ := hSw; go_simp; with_reducible rfl
    intro hc; simp only [Act.put, List.setIfInBounds_toArray, List.set_cons_zero, List.set_cons_succ]
    refine wpAnyT_take (i := 4) (oi := ⟨some 50, _, _, _, _, _⟩) (v := ?_) hc rfl (by kernel_rfl) (by kernel_rfl) (by kernel_rfl) (by kernel_rfl) (fun _ _ _ h => h) (Or.inl ⟨by rfl, ?_⟩) hS ?_
    rotate_left
    · intro wz hSw; obtain ⟨hs1, hs2⟩ := hSw; go_simp; with_reducible rfl
    intro hc; simp only [Act.put, List.setIfInBounds_toArray, List.set_cons_zero, List.set_cons_succ]
    refine wpAnyT_take (i := 6) (oi := ⟨some 52, _, _, _, _, _⟩) (v := ?_) hc rfl (by kernel_rfl) (by kernel_rfl) (by kernel_rfl) (by kernel_rfl) (fun _ _ _ h => h) (Or.inl ⟨by rfl, ?_⟩) hS ?_
    rotate_left
    · intro wz hSw; obtain ⟨hs1, hs2⟩ := hSw; go_simp; with_reducible rfl
    intro hc; simp only [Act.put, List.setIfInBounds_toArray, List.set_cons_zero, List.set_cons_succ]
    refine wpAnyT_take (i := 7) (oi := ⟨some 53, _, _, _, _, _⟩) (v := ?_) hc rfl (by kernel_rfl) (by kernel_rfl) (by kernel_rfl) (by kernel_rfl) (fun _ _ _ h => h) (Or.inl ⟨by rfl, ?_⟩) hS ?_
    rotate_left
    · intro wz hSw; obtain ⟨hs1, hs2⟩ := hSw; go_simp; with_reducible rfl
    intro hc; simp only [Act.put, List.setIfInBounds_toArray, List.set_cons_zero, List.set_cons_succ]
    refine wpAnyT_take (i := 8) (oi := ⟨some 54, _, _, _, _, _⟩) (v := ?_) hc rfl (by kernel_rfl) (by kernel_rfl) (by kernel_rfl) (by kernel_rfl) (fun _ _ _ h => h) (Or.inl ⟨by rfl, ?_⟩) hS ?_
    rotate_left
    · intro wz hSw; obtain ⟨hs1, hs2⟩ := hSw; go_simp; with_reducible rfl
    intro hc; simp only [Act.put, List.setIfInBounds_toArray, List.set_cons_zero, List.set_cons_succ]
    refine wpAnyT_take (i := 9) (oi := ⟨some 55, _, _, _, _, _⟩) (v := ?_) hc rfl (by kernel_rfl) (by kernel_rfl) (by kernel_rfl) (by kernel_rfl) (fun _ _ _ h => h) (Or.inl ⟨by rfl, ?_⟩) hS ?_
    rotate_left
    · intro wz hSw; obtain ⟨hs1, hs2⟩ := hSw; go_simp; with_reducible rfl
    intro hc; simp only [Act.put, List.setIfInBounds_toArray, List.set_cons_zero, List.set_cons_succ]
    refine wpAnyT_take (i := 10) (oi := ⟨some 56, _, _, _, _, _⟩) (v := ?_) hc rfl (by kernel_rfl) (by kernel_rfl) (by kernel_rfl) (by kernel_rfl) (fun _ _ _ h => h) (Or.inl ⟨by rfl, ?_⟩) hS ?_
    rotate_left
    · intro wz hSw; obtain ⟨hs1, hs2⟩ := hSw; go_simp; with_reducible rfl
    intro hc; simp only [Act.put, List.setIfInBounds_toArray, List.set_cons_zero, List.set_cons_succ]
    refine wpAnyT_take (i := 11) (oi := ⟨some 57, _, _, _, _, _⟩) (v := ?_) hc rfl (by kernel_rfl) (by kernel_rfl) (by kernel_rfl) (by kernel_rfl) (fun _ _ _ h => h) (Or.inl ⟨by rfl, ?_⟩) hS ?_
    rotate_left
    · intro wz hSw; obtain ⟨hs1, hs2⟩ := hSw; go_simp; with_reducible rfl
    intro hc; simp only [Act.put, List.setIfInBounds_toArray, List.set_cons_zero, List.set_cons_succ]
    refine wpAnyT_take (i := 12) (oi := ⟨some 58, _, _, _, _, _⟩) (v := ?_) hc rfl (by kernel_rfl) (by kernel_rfl) (by kernel_rfl) (by kernel_rfl) (fun _ _ _ h => h) (Or.inl ⟨by rfl, ?_⟩) hS ?_
    rotate_left
    · intro wz hSw; obtain ⟨hs1, hs2⟩ := hSw; go_simp; with_reducible rfl
    intro hc; simp only [Act.put, List.setIfInBounds_toArray, List.set_cons_zero, List.set_cons_succ]
    refine wpAnyT_take (i := 14) (oi := ⟨some 60, _, _, _, _, _⟩) (v := ?_) hc rfl (by kernel_rfl) (by kernel_rfl) (by kernel_rfl) (by kernel_rfl) (fun _ _ _ h => h) (Or.inl ⟨by rfl, ?_⟩) hS ?_
    rotate_left
    · intro wz hSw; obtain ⟨hs1, hs2⟩ := hSw; go_simp; with_reducible rfl
    intro hc; simp only [Act.put, List.setIfInBounds_toArray, List.set_cons_zero, List.set_cons_succ]
    refine wpAnyT_two (i := 5) (j := 15) (oi := ⟨some 51, _, _, _, _, _⟩) (oj := ⟨some 61, _, _, _, _, _⟩) hc (by kernel_rfl) rfl rfl (by kernel_rfl) (by kernel_rfl) ?_ ?_
    · intro K hK
      go_simp
      have NB := new_alloc x0 (.cells #[] 3)
      have O1 := Lib.hid (World.ownsRow_lit (base := x0.heap.size) (e := 3) (size := 1) x0 #[] 0 (Nat.le_refl _) (by simp) rfl)
      have OB1 : x0.heap.size ≤ x0.heap.size := Nat.le_refl _
      have U1 := Lib.hid (U0.out.trans NB)
      have sz1 := NB.size
      have sl1 := Lib.hid (show (x0.alloc (.cells #[] 3)).heap.size = x0.heap.size + 1 by simp)
      clear NB
      generalize x0.alloc (.cells #[] 3) = x1 at *
      have hS1 : (fun wz : World => wz.cell? ⟨q, 0, none⟩ = some (.slice (some ⟨g, 0, none⟩) rows.length rows.length) ∧ wz.cell? ⟨g, k, none⟩ = some (.slice va l.length vc)) x1 := ⟨(New.cell U1.out (p := ⟨q, 0, none⟩) hql).trans c0, (New.cell U1.out (p := ⟨g, k, none⟩) hgl).trans cg⟩
      refine hK _ _ (fun _ => hS1) (fun hc => ?_)
      clear hK K
      refine wpAnyT_two (i := 13) (j := 15) (oi := ⟨some 59, _, _, _, _, _⟩) (oj := ⟨some 61, _, _, _, _, _⟩) hc (by kernel_rfl) rfl rfl (by kernel_rfl) (by kernel_rfl) ?_ ?_
      · intro K hK
        refine wp_app_at _ _ _ _ (by rfl) x0.heap.size 3 i0 _ 1 8 Try.underlying39 hi hz0 hz1 hz2 rfl (by omega) _ 0 [] (by rfl) O1.out Z _ l.length ((lz l).map (Value.int .i64)) (by rfl) (owns_new IV.out U1.out) (one_ints _) (by unfold maxLen; omega) (by omega) (by omega) ?_
        intro v1 x2 hown hgrow hat
        have U2 := Lib.hid (U1.out.grown hgrow (fun b hb => .inr (by have := (O1.out.lt b hb).1; omega)))
        have O2 := Lib.hid hown
        have sz2 := hgrow.size
        clear hown hgrow hat
        have hS2 : (fun wz : World => wz.cell? ⟨q, 0, none⟩ = some (.slice (some ⟨g, 0, none⟩) rows.length rows.length) ∧ wz.cell? ⟨g, k, none⟩ = some (.slice va l.length vc)) x2 := ⟨(New.cell U2.out (p := ⟨q, 0, none⟩) hql).trans c0, (New.cell U2.out (p := ⟨g, k, none⟩) hgl).trans cg⟩
        refine hK _ _ (fun _ => hS2) (fun hc => ?_)
        clear hK K
        simp only [Act.put, List.setIfInBounds_toArray, List.set_cons_zero, List.set_cons_succ]
        refine wpAnyT_oper (i := 15) (oi := ⟨some 61, _, _, _, _, _⟩) hc (by kernel_rfl) rfl (by kernel_rfl) ?_
        intro K hK
        go_simp
        have NB := new_alloc x2 (.cells #[.int .i64 m] 3)
        have B3 := Lib.hid (heap_at (w := x2) (k := x2.heap.size) (.cells #[.int .i64 m] 3) rfl)
        have O3 := Lib.hid (owns_new O2.out NB)
        have U3 := Lib.hid (U2.out.trans NB)
        have sz3 := NB.size
        have sl3 := Lib.hid (show (x2.alloc (.cells #[.int .i64 m] 3)).heap.size = x2.heap.size + 1 by simp)
        clear NB
        generalize x2.alloc (.cells #[.int .i64 m] 3) = x3 at *
        have hS3 : (fun wz : World => wz.cell? ⟨q, 0, none⟩ = some (.slice (some ⟨g, 0, none⟩) rows.length rows.length) ∧ wz.cell? ⟨g, k, none⟩ = some (.slice va l.length vc)) x3 := ⟨(New.cell U3.out (p := ⟨q, 0, none⟩) hql).trans c0, (New.cell U3.out (p := ⟨g, k, none⟩) hgl).trans cg⟩
        refine hK _ _ (fun _ => hS3) (fun hc => ?_)
        clear hK K
        refine wpAnyT_oper (i := 16) (oi := ⟨some 62, _, _, _, _, _⟩) hc (by kernel_rfl) rfl (by kernel_rfl) ?_
        intro K hK
        refine wp_append_lies _ _ _ _ (by rfl) x0.heap.size 3 i0 _ 1 8 Try.underlying39 hi hz0 hz1 hz2 rfl (by omega) _ (0 + l.length) ([] ++ (lz l).map (Value.int .i64)) (by rfl) O3.out ⟨x2.heap.size, 0, none⟩ 1 1 [.int .i64 m] (by rfl) (by rfl) (World.news_of_block (cs := #[.int .i64 m]) (t := 3) (fr := (0, 0)) B3.out) (by simp [Value.oneCell']) (by omega) (by unfold maxLen; omega) (by omega) (by omega) _ rfl ?_
        intro g2 cap2 x4 hown hgrow hat hlt2
        have U4 := Lib.hid (U3.out.grown hgrow (fun b hb => .inr (by have := (O3.out.lt b hb).1; omega)))
        have O4 := Lib.hid hown
        have sz4 := hgrow.size
        clear hown hgrow hat
        have hS4 : (fun wz : World => wz.cell? ⟨q, 0, none⟩ = some (.slice (some ⟨g, 0, none⟩) rows.length rows.length) ∧ wz.cell? ⟨g, k, none⟩ = some (.slice va l.length vc)) x4 := ⟨(New.cell U4.out (p := ⟨q, 0, none⟩) hql).trans c0, (New.cell U4.out (p := ⟨g, k, none⟩) hgl).trans cg⟩
        refine hK _ _ (fun _ => hS4) (fun hc => ?_)
        clear hK K
        simp only [Act.put, List.setIfInBounds_toArray, List.set_cons_zero, List.set_cons_succ]
        refine wpAnyT_take (i := 17) (oi := ⟨some 63, _, _, _, _, _⟩) (v := ?_) hc rfl (by kernel_rfl) (by kernel_rfl) (by kernel_rfl) (by kernel_rfl) (fun _ _ _ h => h) (Or.inl ⟨by rfl, ?_⟩) hS4 ?_
        rotate_left
        · intro wz hSw; obtain ⟨hs1, hs2⟩ := hSw; go_simp; with_reducible rfl
        intro hc; simp only [Act.put, List.setIfInBounds_toArray, List.set_cons_zero, List.set_cons_succ]
        have GF := frozen_of (RQ.out.new U4.out).row k
        have FIN := Lib.hid (RA.set (RQ.out.new U4.out) hk (l := l ++ [m]) (v := .slice (some ⟨g2, 0, none⟩) (l.length + 1) cap2) ⟨by have := owns_base O4.out (base' := Z) (by omega); simpa using this, by simp; omega⟩)
        have FU := Lib.hid (Upd.setAt (S := fun b => b = g) (New.upd U4.out _) (.inl rfl) k (.slice (some ⟨g2, 0, none⟩) (l.length + 1) cap2))
        refine wpAnyT_oper (i := 18) (oi := ⟨none, _, _, _, _, _⟩) hc (by kernel_rfl) rfl (by kernel_rfl) ?_
        intro K hK
        go_simp
        refine hK _ _ (fun h => absurd (by decide) h) (fun hc => ?_)
        clear hK K
        refine wpAnyT_done (by kernel_rfl) ?_ _
        go_wp2_with fail
        go_meet
        exact ⟨_, FIN.out, FU.out⟩
      · intro K hK
        go_simp
        have NB := new_alloc x1 (.cells #[.int .i64 m] 3)
        have B5 := Lib.hid (heap_at (w := x1) (k := x1.heap.size) (.cells #[.int .i64 m] 3) rfl)
        have O5 := Lib.hid (owns_new O1.out NB)
        have U5 := Lib.hid (U1.out.trans NB)
        have sz5 := NB.size
        have sl5 := Lib.hid (show (x1.alloc (.cells #[.int .i64 m] 3)).heap.size = x1.heap.size + 1 by simp)
        clear NB
        generalize x1.alloc (.cells #[.int .i64 m] 3) = x5 at *
        have hS5 : (fun wz : World => wz.cell? ⟨q, 0, none⟩ = some (.slice (some ⟨g, 0, none⟩) rows.length rows.length) ∧ wz.cell? ⟨g, k, none⟩ = some (.slice va l.length vc)) x5 := ⟨(New.cell U5.out (p := ⟨q, 0, none⟩) hql).trans c0, (New.cell U5.out (p := ⟨g, k, none⟩) hgl).trans cg⟩
        refine hK _ _ (fun _ => hS5) (fun hc => ?_)
        clear hK K
        refine wpAnyT_oper (i := 13) (oi := ⟨some 59, _, _, _, _, _⟩) hc (by kernel_rfl) rfl (by kernel_rfl) ?_
        intro K hK
        refine wp_app_at _ _ _ _ (by rfl) x0.heap.size 3 i0 _ 1 8 Try.underlying39 hi hz0 hz1 hz2 rfl (by omega) _ 0 [] (by rfl) O5.out Z _ l.length ((lz l).map (Value.int .i64)) (by rfl) (owns_new IV.out U5.out) (one_ints _) (by unfold maxLen; omega) (by omega) (by omega) ?_
        intro v1 x6 hown hgrow hat
        have U6 := Lib.hid (U5.out.grown hgrow (fun b hb => .inr (by have := (O5.out.lt b hb).1; omega)))
        have O6 := Lib.hid hown
        have B6 := Lib.hid ((hgrow.block x1.heap.size (lt_of B5.out) (fun e => by simp [Value.ownBlock] at e; have := sl1.out; have := sl5.out; omega)).trans B5.out)
        have sz6 := hgrow.size
        clear hown hgrow hat
        have hS6 : (fun wz : World => wz.cell? ⟨q, 0, none⟩ = some (.slice (some ⟨g, 0, none⟩) rows.length rows.length) ∧ wz.cell? ⟨g, k, none⟩ = some (.slice va l.length vc)) x6 := ⟨(New.cell U6.out (p := ⟨q, 0, none⟩) hql).trans c0, (New.cell U6.out (p := ⟨g, k, none⟩) hgl).trans cg⟩
        refine hK _ _ (fun _ => hS6) (fun hc => ?_)
        clear hK K
        simp only [Act.put, List.setIfInBounds_toArray, List.set_cons_zero, List.set_cons_succ]
        refine wpAnyT_oper (i := 16) (oi := ⟨some 62, _, _, _, _, _⟩) hc (by kernel_rfl) rfl (by kernel_rfl) ?_
        intro K hK
        refine wp_append_lies _ _ _ _ (by rfl) x0.heap.size 3 i0 _ 1 8 Try.underlying39 hi hz0 hz1 hz2 rfl (by omega) _ (0 + l.length) ([] ++ (lz l).map (Value.int .i64)) (by rfl) O6.out ⟨x1.heap.size, 0, none⟩ 1 1 [.int .i64 m] (by rfl) (by rfl) (World.news_of_block (cs := #[.int .i64 m]) (t := 3) (fr := (0, 0)) B6.out) (by simp [Value.oneCell']) (by omega) (by unfold maxLen; omega) (by omega) (by omega) _ rfl ?_
        intro g2 cap2 x7 hown hgrow hat hlt2
        have U7 := Lib.hid (U6.out.grown hgrow (fun b hb => .inr (by have := (O6.out.lt b hb).1; omega)))
        have O7 := Lib.hid hown
        have sz7 := hgrow.size
        clear hown hgrow hat
        have hS7 : (fun wz : World => wz.cell? ⟨q, 0, none⟩ = some (.slice (some ⟨g, 0, none⟩) rows.length rows.length) ∧ wz.cell? ⟨g, k, none⟩ = some (.slice va l.length vc)) x7 := ⟨(New.cell U7.out (p := ⟨q, 0, none⟩) hql).trans c0, (New.cell U7.out (p := ⟨g, k, none⟩) hgl).trans cg⟩
        refine hK _ _ (fun _ => hS7) (fun hc => ?_)
        clear hK K
        simp only [Act.put, List.setIfInBounds_toArray, List.set_cons_zero, List.set_cons_succ]
        refine wpAnyT_take (i := 17) (oi := ⟨some 63, _, _, _, _, _⟩) (v := ?_) hc rfl (by kernel_rfl) (by kernel_rfl) (by kernel_rfl) (by kernel_rfl) (fun _ _ _ h => h) (Or.inl ⟨by rfl, ?_⟩) hS7 ?_
        rotate_left
        · intro wz hSw; obtain ⟨hs1, hs2⟩ := hSw; go_simp; with_reducible rfl
        intro hc; simp only [Act.put, List.setIfInBounds_toArray, List.set_cons_zero, List.set_cons_succ]
        have GF := frozen_of (RQ.out.new U7.out).row k
        have FIN := Lib.hid (RA.set (RQ.out.new U7.out) hk (l := l ++ [m]) (v := .slice (some ⟨g2, 0, none⟩) (l.length + 1) cap2) ⟨by have := owns_base O7.out (base' := Z) (by omega); simpa using this, by simp; omega⟩)
        have FU := Lib.hid (Upd.setAt (S := fun b => b = g) (New.upd U7.out _) (.inl rfl) k (.slice (some ⟨g2, 0, none⟩) (l.length + 1) cap2))
        refine wpAnyT_oper (i := 18) (oi := ⟨none, _, _, _, _, _⟩) hc (by kernel_rfl) rfl (by kernel_rfl) ?_
        intro K hK
        go_simp
        refine hK _ _ (fun h => absurd (by decide) h) (fun hc => ?_)
        clear hK K
        refine wpAnyT_done (by kernel_rfl) ?_ _
        go_wp2_with fail
        go_meet
        exact ⟨_, FIN.out, FU.out⟩
    · intro K hK
      go_simp
      have NB := new_alloc x0 (.cells #[.int .i64 m] 3)
      have B8 := Lib.hid (heap_at (w := x0) (k := x0.heap.size) (.cells #[.int .i64 m] 3) rfl)
      have U8 := Lib.hid (U0.out.trans NB)
      have sz8 := NB.size
      have sl8 := Lib.hid (show (x0.alloc (.cells #[.int .i64 m] 3)).heap.size = x0.heap.size + 1 by simp)
      clear NB
      generalize x0.alloc (.cells #[.int .i64 m] 3) = x8 at *
      have hS8 : (fun wz : World => wz.cell? ⟨q, 0, none⟩ = some (.slice (some ⟨g, 0, none⟩) rows.length rows.length) ∧ wz.cell? ⟨g, k, none⟩ = some (.slice va l.length vc)) x8 := ⟨(New.cell U8.out (p := ⟨q, 0, none⟩) hql).trans c0, (New.cell U8.out (p := ⟨g, k, none⟩) hgl).trans cg⟩
      refine hK _ _ (fun _ => hS8) (fun hc => ?_)
      clear hK K
      refine wpAnyT_oper (i := 5) (oi := ⟨some 51, _, _, _, _, _⟩) hc (by kernel_rfl) rfl (by kernel_rfl) ?_
      intro K hK
      go_simp
      have NB := new_alloc x8 (.cells #[] 3)
      have O9 := Lib.hid (World.ownsRow_lit (base := x8.heap.size) (e := 3) (size := 1) x8 #[] 0 (Nat.le_refl _) (by simp) rfl)
      have OB9 : x8.heap.size ≤ x8.heap.size := Nat.le_refl _
      have B9 := Lib.hid (heap_alloc B8.out (.cells #[] 3))
      have U9 := Lib.hid (U8.out.trans NB)
      have sz9 := NB.size
      have sl9 := Lib.hid (show (x8.alloc (.cells #[] 3)).heap.size = x8.heap.size + 1 by simp)
      clear NB
      generalize x8.alloc (.cells #[] 3) = x9 at *
      have hS9 : (fun wz : World => wz.cell? ⟨q, 0, none⟩ = some (.slice (some ⟨g, 0, none⟩) rows.length rows.length) ∧ wz.cell? ⟨g, k, none⟩ = some (.slice va l.length vc)) x9 := ⟨(New.cell U9.out (p := ⟨q, 0, none⟩) hql).trans c0, (New.cell U9.out (p := ⟨g, k, none⟩) hgl).trans cg⟩
      refine hK _ _ (fun _ => hS9) (fun hc => ?_)
      clear hK K
      refine wpAnyT_oper (i := 13) (oi := ⟨some 59, _, _, _, _, _⟩) hc (by kernel_rfl) rfl (by kernel_rfl) ?_
      intro K hK
      refine wp_app_at _ _ _ _ (by rfl) x8.heap.size 3 i0 _ 1 8 Try.underlying39 hi hz0 hz1 hz2 rfl (by omega) _ 0 [] (by rfl) O9.out Z _ l.length ((lz l).map (Value.int .i64)) (by rfl) (owns_new IV.out U9.out) (one_ints _) (by unfold maxLen; omega) (by omega) (by omega) ?_
      intro v1 x10 hown hgrow hat
      have U10 := Lib.hid (U9.out.grown hgrow (fun b hb => .inr (by have := (O9.out.lt b hb).1; omega)))
      have O10 := Lib.hid hown
      have B10 := Lib.hid ((hgrow.block x0.heap.size (lt_of B9.out) (fun e => by simp [Value.ownBlock] at e; have := sl8.out; have := sl9.out; omega)).trans B9.out)
      have sz10 := hgrow.size
      clear hown hgrow hat
      have hS10 : (fun wz : World => wz.cell? ⟨q, 0, none⟩ = some (.slice (some ⟨g, 0, none⟩) rows.length rows.length) ∧ wz.cell? ⟨g, k, none⟩ = some (.slice va l.length vc)) x10 := ⟨(New.cell U10.out (p := ⟨q, 0, none⟩) hql).trans c0, (New.cell U10.out (p := ⟨g, k, none⟩) hgl).trans cg⟩
      refine hK _ _ (fun _ => hS10) (fun hc => ?_)
      clear hK K
      simp only [Act.put, List.setIfInBounds_toArray, List.set_cons_zero, List.set_cons_succ]
      refine wpAnyT_oper (i := 16) (oi := ⟨some 62, _, _, _, _, _⟩) hc (by kernel_rfl) rfl (by kernel_rfl) ?_
      intro K hK
      refine wp_append_lies _ _ _ _ (by rfl) x8.heap.size 3 i0 _ 1 8 Try.underlying39 hi hz0 hz1 hz2 rfl (by omega) _ (0 + l.length) ([] ++ (lz l).map (Value.int .i64)) (by rfl) O10.out ⟨x0.heap.size, 0, none⟩ 1 1 [.int .i64 m] (by rfl) (by rfl) (World.news_of_block (cs := #[.int .i64 m]) (t := 3) (fr := (0, 0)) B10.out) (by simp [Value.oneCell']) (by omega) (by unfold maxLen; omega) (by omega) (by omega) _ rfl ?_
      intro g2 cap2 x11 hown hgrow hat hlt2
      have U11 := Lib.hid (U10.out.grown hgrow (fun b hb => .inr (by have := (O10.out.lt b hb).1; omega)))
      have O11 := Lib.hid hown
      have sz11 := hgrow.size
      clear hown hgrow hat
      have hS11 : (fun wz : World => wz.cell? ⟨q, 0, none⟩ = some (.slice (some ⟨g, 0, none⟩) rows.length rows.length) ∧ wz.cell? ⟨g, k, none⟩ = some (.slice va l.length vc)) x11 := ⟨(New.cell U11.out (p := ⟨q, 0, none⟩) hql).trans c0, (New.cell U11.out (p := ⟨g, k, none⟩) hgl).trans cg⟩
      refine hK _ _ (fun _ => hS11) (fun hc => ?_)
      clear hK K
      simp only [Act.put, List.setIfInBounds_toArray, List.set_cons_zero, List.set_cons_succ]
      refine wpAnyT_take (i := 17) (oi := ⟨some 63, _, _, _, _, _⟩) (v := ?_) hc rfl (by kernel_rfl) (by kernel_rfl) (by kernel_rfl) (by kernel_rfl) (fun _ _ _ h => h) (Or.inl ⟨by rfl, ?_⟩) hS11 ?_
      rotate_left
      · intro wz hSw; obtain ⟨hs1, hs2⟩ := hSw; go_simp; with_reducible rfl
      intro hc; simp only [Act.put, List.setIfInBounds_toArray, List.set_cons_zero, List.set_cons_succ]
      have GF := frozen_of (RQ.out.new U11.out).row k
      have FIN := Lib.hid (RA.set (RQ.out.new U11.out) hk (l := l ++ [m]) (v := .slice (some ⟨g2, 0, none⟩) (l.length + 1) cap2) ⟨by have := owns_base O11.out (base' := Z) (by omega); simpa using this, by simp; omega⟩)
      have FU := Lib.hid (Upd.setAt (S := fun b => b = g) (New.upd U11.out _) (.inl rfl) k (.slice (some ⟨g2, 0, none⟩) (l.length + 1) cap2))
      refine wpAnyT_oper (i := 18) (oi := ⟨none, _, _, _, _, _⟩) hc (by kernel_rfl) rfl (by kernel_rfl) ?_
      intro K hK
      go_simp
      refine hK _ _ (fun h => absurd (by decide) h) (fun hc => ?_)
      clear hK K
      refine wpAnyT_done (by kernel_rfl) ?_ _
      go_wp2_with fail
      go_meet
      exact ⟨_, FIN.out, FU.out⟩
  case rest =>
    obtain ⟨vs', hR, hU⟩ := hcut
    have HR := Lib.hid hR
    have HU := Lib.hid hU
    clear hR hU
    go_wp2_with fail
    go_ret
    exact ⟨vs', rfl, HR.out, HU.out⟩
set_option maxRecDepth 100000 in
set_option maxHeartbeats 4000000 in
theorem r_put_ahead (h : RA Z w q g vs rows N) (hZ : Z ≤ w.heap.size) (k m : Nat) (hk : k < rows.length) (hm : m < N) (hf : inR rows (m : Int) = -1) (hl : ∀ (r : Nat) (l : List Nat), rows[r]? = some l → l.length ≤ 1000) :
    Calls Try.prog 67 #[.pointer (some ⟨q, 0, none⟩), .int .i64 k, .int .i64 m, .bool true] w (DoneR Z q g N w (0, rows.set k (m :: rows[k]))) := by
  have RC := r_row h (k : Int)
  rw [isIn_of hk] at RC
  have RC := Lib.hid RC
  have IC := r_in h (m : Int)
  rw [hf] at IC
  have IC := Lib.hid IC
  have hr : rows[k]? = some rows[k] := by simp [hk]
  have hll := hl k _ hr
  obtain ⟨v, _, cg, hI⟩ := h.at_ hr
  obtain ⟨va, vc, hv, _⟩ := owns_shape hI.1
  have hlz : (lz rows[k]).length = rows[k].length := by simp
  rw [hlz] at hv
  subst hv
  have IV : Hid (w.ownsRow Z 3 1 (.slice va rows[k].length vc) rows[k].length ((lz rows[k]).map (Value.int .i64))) := by have := hI.1; rw [hlz] at this; exact this
  have c0 := h.c0
  rw [h.len] at c0
  have c1 := h.c1
  have hql : q < w.heap.size := lt_of h.head
  have hgl : g < w.heap.size := lt_of h.row
  have RQ := Lib.hid h
  have hm1 : (m : Int) < (N : Int) := by omega
  have hk1 : (k : Int) < (rows.length : Int) := by omega
  have hneg : ¬ (0 : Int) ≤ -1 := by omega
  obtain ⟨i0, hi, hz0, hz1, hz2⟩ := info_parts info3
  generalize hl' : rows[k] = l at hll cg IV
  have HL := Lib.hid hl'
  clear h hI hr hf hl hlz hl'
  go_enter Try.func67, Try.ntmps67
  go_wp2_with fail
  refine RC.out.mono ?_; rintro e w' ⟨rfl, rfl⟩
  go_wp2_with fail
  refine IC.out.mono ?_; rintro e w' ⟨rfl, rfl⟩
  go_wp2_with fail
  go_cut [8] (fun _ wx => ∃ vs', RA Z wx q g vs' (rows.set k (m :: l)) N ∧ Upd (fun b => b = g) w wx)
  case first =>
    refine wp_region_T (L := [16]) (S := fun wz => wz.cell? ⟨q, 0, none⟩ = some (.slice (some ⟨g, 0, none⟩) rows.length rows.length) ∧ wz.cell? ⟨g, k, none⟩ = some (.slice va l.length vc)) (by kernel_rfl) ?_
    intro hc
    have U0 := Lib.hid (show New w w.drew from (Upd.refl _ _).drew)
    have hS : (fun wz : World => wz.cell? ⟨q, 0, none⟩ = some (.slice (some ⟨g, 0, none⟩) rows.length rows.length) ∧ wz.cell? ⟨g, k, none⟩ = some (.slice va l.length vc)) w.drew := ⟨c0, cg⟩
    have sz0 : w.heap.size ≤ w.drew.heap.size := Nat.le_refl _
    generalize w.drew = x0 at U0 hS sz0 ⊢
    refine wpAnyT_take (i := 0) (oi := ⟨some 30, _, _, _, _, _⟩) (v := ?_) hc rfl (by kernel_rfl) (by kernel_rfl) (by kernel_rfl) (by kernel_rfl) (fun _ _ _ h => h) (Or.inl ⟨by rfl, ?_⟩) hS ?_
    rotate_left
    · intro wz hSw; obtain ⟨hs1, hs2⟩ := hSw; go_simp; with_reducible rfl
    intro hc; simp only [Act.put, List.setIfInBounds_toArray, List.set_cons_zero, List.set_cons_succ]
    refine wpAnyT_take (i := 1) (oi := ⟨some 31, _, _, _, _, _⟩) (v := ?_) hc rfl (by kernel_rfl) (by kernel_rfl) (by kernel_rfl) (by kernel_rfl) (fun _ _ _ h => h) (Or.inl ⟨by rfl, ?_⟩) hS ?_
    rotate_left
    · intro wz hSw; obtain ⟨hs1, hs2⟩ := hSw; go_simp; with_reducible rfl
    intro hc; simp only [Act.put, List.setIfInBounds_toArray, List.set_cons_zero, List.set_cons_succ]
    refine wpAnyT_take (i := 2) (oi := ⟨some 32, _, _, _, _, _⟩) (v := ?_) hc rfl (by kernel_rfl) (by kernel_rfl) (by kernel_rfl) (by kernel_rfl) (fun _ _ _ h => h) (Or.inl ⟨by rfl, ?_⟩) hS ?_
    rotate_left
    · intro wz hSw; obtain ⟨hs1, hs2⟩ := hSw; go_simp; with_reducible rfl
    intro hc; simp only [Act.put, List.setIfInBounds_toArray, List.set_cons_zero, List.set_cons_succ]
    refine wpAnyT_take (i := 3) (oi := ⟨some 33, _, _, _, _, _⟩) (v := ?_) hc rfl (by kernel_rfl) (by kernel_rfl) (by kernel_rfl) (by kernel_rfl) (fun _ _ _ h => h) (Or.inl ⟨by rfl, ?_⟩) hS ?_
    rotate_left
    · intro wz hSw; obtain ⟨hs1, hs2⟩ := hSw; go_simp; with_reducible rfl
    intro hc; simp only [Act.put, List.setIfInBounds_toArray, List.set_cons_zero, List.set_cons_succ]
    refine wpAnyT_take (i := 4) (oi := ⟨some 34, _, _, _, _, _⟩) (v := ?_) hc rfl (by kernel_rfl) (by kernel_rfl) (by kernel_rfl) (by kernel_rfl) (fun _ _ _ h => h) (Or.inl ⟨by rfl, ?_⟩) hS ?_
    rotate_left
    · intro wz hSw; obtain ⟨hs1, hs2⟩ := hSw; go_simp; with_reducible rfl
    intro hc; simp only [Act.put, List.setIfInBounds_toArray, List.set_cons_zero, List.set_cons_succ]
    refine wpAnyT_take (i := 5) (oi := ⟨some 35, _, _, _, _, _⟩) (v := ?_) hc rfl (by kernel_rfl) (by kernel_rfl) (by kernel_rfl) (by kernel_rfl) (fun _ _ _ h => h) (Or.inl ⟨by rfl, ?_⟩) hS ?_
    rotate_left
    · intro wz hSw; obtain ⟨hs1, hs2⟩ := hSw; go_simp; with_reducible rfl
    intro hc; simp only [Act.put, List.setIfInBounds_toArray, List.set_cons_zero, List.set_cons_succ]
    refine wpAnyT_take (i := 7) (oi := ⟨some 37, _, _, _, _, _⟩) (v := ?_) hc rfl (by kernel_rfl) (by kernel_rfl) (by kernel_rfl) (by kernel_rfl) (fun _ _ _ h => h) (Or.inl ⟨by rfl, ?_⟩) hS ?_
    rotate_left
    · intro wz hSw; obtain ⟨hs1, hs2⟩ := hSw; go_simp; with_reducible rfl
    intro hc; simp only [Act.put, List.setIfInBounds_toArray, List.set_cons_zero, List.set_cons_succ]
    refine wpAnyT_take (i := 8) (oi := ⟨some 38, _, _, _, _, _⟩) (v := ?_) hc rfl (by kernel_rfl) (by kernel_rfl) (by kernel_rfl) (by kernel_rfl) (fun _ _ _ h => h) (Or.inl ⟨by rfl, ?_⟩) hS ?_
    rotate_left
    · intro wz hSw; obtain ⟨hs1, hs2⟩ := hSw; go_simp; with_reducible rfl
    intro hc; simp only [Act.put, List.setIfInBounds_toArray, List.set_cons_zero, List.set_cons_succ]
    refine wpAnyT_take (i := 9) (oi := ⟨some 39, _, _, _, _, _⟩) (v := ?_) hc rfl (by kernel_rfl) (by kernel_rfl) (by kernel_rfl) (by kernel_rfl) (fun _ _ _ h => h) (Or.inl ⟨by rfl, ?_⟩) hS ?_
    rotate_left
    · intro wz hSw; obtain ⟨hs1, hs2⟩ := hSw; go_simp; with_reducible rfl
    intro hc; simp only [Act.put, List.setIfInBounds_toArray, List.set_cons_zero, List.set_cons_succ]
    refine wpAnyT_take (i := 10) (oi := ⟨some 40, _, _, _, _, _⟩) (v := ?_) hc rfl (by kernel_rfl) (by kernel_rfl) (by kernel_rfl) (by kernel_rfl) (fun _ _ _ h => h) (Or.inl ⟨by rfl, ?_⟩) hS ?_
    rotate_left
    · intro wz hSw; obtain ⟨hs1, hs2⟩ := hSw; go_simp; with_reducible rfl
    intro hc; simp only [Act.put, List.setIfInBounds_toArray, List.set_cons_zero, List.set_cons_succ]
    refine wpAnyT_take (i := 11) (oi := ⟨some 41, _, _, _, _, _⟩) (v := ?_) hc rfl (by kernel_rfl) (by kernel_rfl) (by kernel_rfl) (by kernel_rfl) (fun _ _ _ h => h) (Or.inl ⟨by rfl, ?_⟩) hS ?_
    rotate_left
    · intro wz hSw; obtain ⟨hs1, hs2⟩ := hSw; go_simp; with_reducible rfl
    intro hc; simp only [Act.put, List.setIfInBounds_toArray, List.set_cons_zero, List.set_cons_succ]
    refine wpAnyT_take (i := 12) (oi := ⟨some 42, _, _, _, _, _⟩) (v := ?_) hc rfl (by kernel_rfl) (by kernel_rfl) (by kernel_rfl) (by kernel_rfl) (fun _ _ _ h => h) (Or.inl ⟨by rfl, ?_⟩) hS ?_
    rotate_left
    · intro wz hSw; obtain ⟨hs1, hs2⟩ := hSw; go_simp; with_reducible rfl
    intro hc; simp only [Act.put, List.setIfInBounds_toArray, List.set_cons_zero, List.set_cons_succ]
    refine wpAnyT_take (i := 13) (oi := ⟨some 43, _, _, _, _, _⟩) (v := ?_) hc rfl (by kernel_rfl) (by kernel_rfl) (by kernel_rfl) (by kernel_rfl) (fun _ _ _ h => h) (Or.inl ⟨by rfl, ?_⟩) hS ?_
    rotate_left
    · intro wz hSw; obtain ⟨hs1, hs2⟩ := hSw; go_simp; with_reducible rfl
    intro hc; simp only [Act.put, List.setIfInBounds_toArray, List.set_cons_zero, List.set_cons_succ]
    refine wpAnyT_oper (i := 6) (oi := ⟨some 36, _, _, _, _, _⟩) hc (by kernel_rfl) rfl (by kernel_rfl) ?_
    intro K hK
    go_simp
    have NB := new_alloc x0 (.cells #[.int .i64 m] 3)
    have O1 := Lib.hid (World.ownsRow_lit (base := x0.heap.size) (e := 3) (size := 1) x0 #[.int .i64 m] 1 (Nat.le_refl _) (by unfold maxLen; omega) rfl)
    have U1 := Lib.hid (U0.out.trans NB)
    have sz1 := NB.size
    clear NB
    generalize x0.alloc (.cells #[.int .i64 m] 3) = x1 at *
    have hS1 : (fun wz : World => wz.cell? ⟨q, 0, none⟩ = some (.slice (some ⟨g, 0, none⟩) rows.length rows.length) ∧ wz.cell? ⟨g, k, none⟩ = some (.slice va l.length vc)) x1 := ⟨(New.cell U1.out (p := ⟨q, 0, none⟩) hql).trans c0, (New.cell U1.out (p := ⟨g, k, none⟩) hgl).trans cg⟩
    refine hK _ _ (fun _ => hS1) (fun hc => ?_)
    clear hK K
    refine wpAnyT_oper (i := 14) (oi := ⟨some 44, _, _, _, _, _⟩) hc (by kernel_rfl) rfl (by kernel_rfl) ?_
    intro K hK
    refine wp_app_at _ _ _ _ (by rfl) x0.heap.size 3 i0 _ 1 8 Try.underlying39 hi hz0 hz1 hz2 rfl (by omega) _ 1 [.int .i64 m] (by rfl) O1.out Z _ l.length ((lz l).map (Value.int .i64)) (by rfl) (owns_new IV.out U1.out) (one_ints _) (by unfold maxLen; omega) (by omega) (by omega) ?_
    intro v1 x2 hown hgrow hat
    have U2 := Lib.hid (U1.out.grown hgrow (fun b hb => .inr (by have := (O1.out.lt b hb).1; omega)))
    have O2 := Lib.hid hown
    have sz2 := hgrow.size
    obtain ⟨g2, cap2, hv1, _⟩ := owns_some hown (by omega)
    subst hv1
    clear hown hgrow hat
    have hS2 : (fun wz : World => wz.cell? ⟨q, 0, none⟩ = some (.slice (some ⟨g, 0, none⟩) rows.length rows.length) ∧ wz.cell? ⟨g, k, none⟩ = some (.slice va l.length vc)) x2 := ⟨(New.cell U2.out (p := ⟨q, 0, none⟩) hql).trans c0, (New.cell U2.out (p := ⟨g, k, none⟩) hgl).trans cg⟩
    refine hK _ _ (fun _ => hS2) (fun hc => ?_)
    clear hK K
    simp only [Act.put, List.setIfInBounds_toArray, List.set_cons_zero, List.set_cons_succ]
    refine wpAnyT_take (i := 15) (oi := ⟨some 45, _, _, _, _, _⟩) (v := ?_) hc rfl (by kernel_rfl) (by kernel_rfl) (by kernel_rfl) (by kernel_rfl) (fun _ _ _ h => h) (Or.inl ⟨by rfl, ?_⟩) hS2 ?_
    rotate_left
    · intro wz hSw; obtain ⟨hs1, hs2⟩ := hSw; go_simp; with_reducible rfl
    intro hc; simp only [Act.put, List.setIfInBounds_toArray, List.set_cons_zero, List.set_cons_succ]
    have GF := frozen_of (RQ.out.new U2.out).row k
    have FIN := Lib.hid (RA.set (RQ.out.new U2.out) hk (l := m :: l) (v := .slice (some ⟨g2, 0, none⟩) (1 + l.length) cap2) ⟨by have := owns_base O2.out (base' := Z) (by omega); simpa [Nat.add_comm] using this, by simp; omega⟩)
    have FU := Lib.hid (Upd.setAt (S := fun b => b = g) (New.upd U2.out _) (.inl rfl) k (.slice (some ⟨g2, 0, none⟩) (1 + l.length) cap2))
    refine wpAnyT_oper (i := 16) (oi := ⟨none, _, _, _, _, _⟩) hc (by kernel_rfl) rfl (by kernel_rfl) ?_
    intro K hK
    go_simp
    refine hK _ _ (fun h => absurd (by decide) h) (fun hc => ?_)
    clear hK K
    refine wpAnyT_done (by kernel_rfl) ?_ _
    go_wp2_with fail
    go_meet
    exact ⟨_, FIN.out, FU.out⟩
  case rest =>
    obtain ⟨vs', hR, hU⟩ := hcut
    have HR := Lib.hid hR
    have HU := Lib.hid hU
    clear hR hU
    go_wp2_with fail
    go_ret
    exact ⟨vs', rfl, HR.out, HU.out⟩
end Go.Proofs.Ytffehagmchcpkaa

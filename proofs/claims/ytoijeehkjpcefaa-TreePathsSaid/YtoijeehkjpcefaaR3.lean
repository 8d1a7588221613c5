import Derived.Test.YtoijeehkjpcefaaR2b
import Derived.Test.YtoijeehkjpcefaaK7
import Derived.Deep.RegionLaw
import Derived.Deep.DeepCutAuto
import Derived.Deep.CutBlock
namespace Go.Proofs.Ytoijeehkjpcefaa
open Go.RowKit Go.Proofs.Cmd
variable {B p : Nat} {sv : Value} {rs : List Row} {most : Int} {w : World}

theorem put_full (h : Tr B w p sv rs most) (hm : (rs.length : Int) = most) (o : Int) (c : Bool) :
    Calls Try.prog 33 #[.pointer (some ⟨p, 0, none⟩), .agg #[.int .i64 o, .bool c, .slice none 0 0]] w fun e w' => e = .returned (.tuple #[.int .i64 (-1), .int .i64 2]) ∧ New w w' := by
  obtain ⟨s, cap, rfl, hc⟩ := owns_shape h.rows
  have h0 := cell_of h.head 0
  have h1 := cell_of h.head 1
  simp only [List.getElem?_toArray, List.getElem?_cons_zero, List.getElem?_cons_succ] at h0 h1
  have hpl := lt_of h.head
  subst hm
  clear h
  go_enter Try.func33, Try.ntmps33
  go_wp2_with fail
  go_quiet (fail)
  go_wp2_with fail
  go_ret2
  exact ⟨rfl, (Upd.refl _ _).alloc _ |>.drewN _⟩

theorem info56 : (Try.prog.info? 56).map (fun i => (i.zero, i.size, i.bytes)) = some (some (.agg #[.int .i64 0, .bool false, .slice none 0 0]), 3, 40) := by kernel_rfl
theorem info3 : (Try.prog.info? 3).map (fun i => (i.zero, i.size, i.bytes)) = some (some (.int .i64 0), 1, 8) := by kernel_rfl

/-- The world in which the new row is there, its over's kids not yet. -/
def Mid4 (B p : Nat) (sv : Value) (rs : List Row) (most o : Int) (c : Bool) (w4 : World) (s29 : Value) (wx : World) : Prop :=
  ∃ gg cc, s29 = .slice (some ⟨gg, 0, none⟩) (rs.length + 1) cc ∧ wx.heap[p]? = some (.cells #[s29, .int .i64 most] 54 (0, 0)) ∧
    wx.ownsRow B 56 3 s29 (rs.length + 1) (flat rs ++ [.int .i64 o, .bool c, .slice none 0 0]) ∧ Upd (fun k => k = p ∨ sv.ownBlock = some k) w4 wx ∧ (sv.ownBlock = some gg ∨ w4.heap.size ≤ gg)
/-- The kid is there. -/
def Mid6 (B p : Nat) (sv : Value) (rs : List Row) (most o : Int) (c : Bool) (w4 wx : World) : Prop :=
  ∃ sv' rs', Tr B wx p sv' rs' most ∧ nds rs' = nds rs ++ [(o, c)] ∧ Upd (Tr.blk p sv rs) w4 wx
set_option maxHeartbeats 1000000 in
theorem put_more (h : Tr B w p sv rs most) (hm : (rs.length : Int) ≠ most) (hn : rs.length < 1000) (o : Int) (c : Bool) (ho : -1 ≤ o) (ho2 : o < rs.length) :
    Calls Try.prog 33 #[.pointer (some ⟨p, 0, none⟩), .agg #[.int .i64 o, .bool c, .slice none 0 0]] w fun e w' => ∃ sv' rs', e = .returned (.tuple #[.int .i64 rs.length, .int .i64 0]) ∧
      Tr B w' p sv' rs' most ∧ nds rs' = nds rs ++ [(o, c)] ∧ Upd (Tr.blk p sv rs) w w' := by
  obtain ⟨s, cap, rfl, hc⟩ := owns_shape h.rows
  have h0 := cell_of h.head 0
  have h1 := cell_of h.head 1
  have f0 := frozen_of h.head 0
  simp only [List.getElem?_toArray, List.getElem?_cons_zero, List.getElem?_cons_succ] at h0 h1
  have hpl := lt_of h.head
  have hmm : ((rs.length : Int) == most) = false := by simpa using hm
  have H := Lib.hid h
  obtain ⟨i0, hi, hz0, hz1, hz2⟩ := info_parts info56
  clear h hm
  go_enter Try.func33, Try.ntmps33
  go_wp2_with fail
  go_quiet (fail)
  go_wp2_with fail
  have hX : ((w.alloc (.cells #[.int .i64 o, .bool c, .slice none 0 0] 56)).drewN nq).heap[w.heap.size]? = some (.cells #[.int .i64 o, .bool c, .slice none 0 0] 56 (0, 0)) := heap_at _ rfl
  have hN4 : New w ((w.alloc (.cells #[.int .i64 o, .bool c, .slice none 0 0] 56)).drewN nq) := ((Upd.refl _ _).alloc _).drewN _
  generalize (w.alloc (.cells #[.int .i64 o, .bool c, .slice none 0 0] 56)).drewN nq = w4 at hX hN4 ⊢
  have H4 := Lib.hid (H.out.new hN4)
  have q0 := cell_of H4.out.head 0
  have g0 := frozen_of H4.out.head 0
  have x0 := cell_of hX 0
  have x1 := cell_of hX 1
  have x2 := cell_of hX 2
  simp only [List.getElem?_toArray, List.getElem?_cons_zero, List.getElem?_cons_succ] at q0 x0 x1 x2
  have hp4 := lt_of H4.out.head
  have hX4 := lt_of hX
  have hpX : p ≠ w.heap.size := by omega
  have hB4 : B ≤ w4.heap.size := by have := H4.out.base; omega
  have HX := Lib.hid hX
  have N4 := Lib.hid hN4
  clear h0 h1 f0 hX hN4
  have NP := Lib.hid (show (Value.slice s rs.length cap).ownBlock ≠ some p from fun e => by
    obtain ⟨cur, hcur⟩ := owns_type H4.out.rows e
    rw [H4.out.head] at hcur; cases hcur)
  have SVX := Lib.hid (show ∀ k, (Value.slice s rs.length cap).ownBlock = some k → k < w.heap.size from fun k hk => (H.out.rows.lt k hk).2)
  generalize w.heap.size = X at x0 x1 x2 hX4 hpX HX hpl SVX ⊢
  go_cut [29] (fun s29 wx => Mid4 B p (.slice s rs.length cap) rs most o c w4 s29 wx)
  case first =>
    go_region_law (((refine step_append_lies _ (by rfl) _ _ _ (by rfl) B 56 i0 _ 3 40 Try.underlying52 hi hz0 hz1 hz2 rfl (by omega) (.slice s rs.length cap) rs.length (flat rs) (by rfl) (owns_new H4.out.rows ((Upd.refl _ _).alloc _).drew) ⟨w4.heap.size, 0, none⟩ 1 1 [.int .i64 o, .bool c, .slice none 0 0] (by rfl) (by rfl) (World.news_of_block (cs := #[.int .i64 o, .bool c, .slice none 0 0]) (t := 56) (fr := (0, 0)) (heap_at (w := w4) _ rfl)) (by simp [Value.oneCell']) (by omega) (by unfold maxLen; omega) (by omega) (by simp; omega) (w4.heap.size + 1) (by simp) ?_)); intro gg cc w5 hown1 hgrow hat hlt; have e5 : w5.heap[p]? = some (.cells #[.slice s rs.length cap, .int .i64 most] 54 (0, 0)) := (hgrow.block p (by simp; omega) (fun e => NP.out e.symm)).trans (heap_alloc H4.out.head _); have q5 : w5.cell? ⟨p, 0, none⟩ = some (.slice s rs.length cap) := cell_of e5 0; have g5 := frozen_of e5 0; have E5 := Lib.hid e5; clear e5; have HO5 := Lib.hid hown1; have HG5 := Lib.hid hgrow; have HA5 := Lib.hid hat; clear hown1 hgrow hat)
    all_goals
      go_wp2_with fail
      go_meet
      refine ⟨gg, cc, rfl, by rw [heap_set_same E5.out]; rfl, ?_, ?_, ?_⟩
      · refine owns_heap HO5.out (fun k hk => heap_set_other ?_ _ _)
        intro e
        subst e
        obtain ⟨cur, hcur⟩ := owns_type HO5.out hk
        rw [E5.out] at hcur; cases hcur
      · exact Upd.setAt (Upd.mono (Upd.grown (((Upd.refl (fun k => (Value.slice s rs.length cap).ownBlock = some k) _).alloc _).drew) HG5.out (fun k e => .inl e)) (fun _ _ e => .inr e)) (.inl (.inl rfl)) _ _
      · exact HA5.out.imp id (fun e => by omega)
  case rest =>
    obtain ⟨gg, cc, rfl, hp5, hr5, hu5, hs5⟩ := hcut
    have GG := Lib.hid hs5
    have hs5 := hu5.size
    have X5 := Lib.hid (hu5.heap HX.out (by
      rintro (e | e)
      · exact hpX e.symm
      · have := SVX.out _ e; omega))
    have c5 := cell_of hp5 0
    have x0 := cell_of X5.out 0
    simp only [List.getElem?_toArray, List.getElem?_cons_zero] at c5 x0
    have P5 := Lib.hid hp5
    have R5 := Lib.hid hr5
    have U5 := Lib.hid hu5
    have TH := Lib.hid (there_raw c5 o)
    clear hp5 hr5 hu5 x1 x2 q0 g0
    by_cases h0 : 0 ≤ o
    · obtain ⟨k, rfl⟩ := Int.eq_ofNat_of_zero_le h0
      have hk : k < rs.length := by omega
      have HI := Lib.hid (isIn_of (n := rs.length + 1) (k := k) (by omega))
      go_wp2_with fail
      refine TH.out.mono ?_; rintro e w' ⟨rfl, rfl⟩
      rw [HI.out]
      go_wp2_with fail
      have hr : rs[k]? = some rs[k] := by simp [hk]
      have KX := Lib.hid (owns_upd (H4.out.kids k _ hr) U5.out (H4.out.kid_apart hr))
      have A5 := owns_cell R5.out (j := k * 3 + 2) (by omega)
      have A5' : wc.cell? ⟨gg, k * 3 + 2, none⟩ = some rs[k].2.2 := by
        rw [A5, List.getElem?_append_left (by rw [flat_len]; omega), flat_get rs k _ hr 2 (by omega)]; rfl
      have HRR := Lib.hid hr
      have HKL := Lib.hid (kids_len (nds rs) k)
      have HNL := Lib.hid (nds_len rs)
      obtain ⟨ka, kc, hkv, hkc⟩ := owns_shape KX.out
      have HKV := Lib.hid hkv
      have hb5 : B ≤ wc.heap.size := by omega
      have hgl := (World.ownsRow.lt R5.out gg rfl).2
      have hp5l := lt_of P5.out
      have hX5 := lt_of X5.out
      clear A5 hr
      rw [hkv] at A5'
      have NK := Lib.hid (show (Value.slice ka (kidsOf (nds rs) k).length kc).ownBlock ≠ some gg from fun e => by
        rw [← hkv] at e
        obtain ⟨c1, h1⟩ := owns_type KX.out e
        obtain ⟨c2, h2⟩ := owns_type R5.out (k := gg) rfl
        rw [h1] at h2; cases h2)
      have NKp := Lib.hid (show (Value.slice ka (kidsOf (nds rs) k).length kc).ownBlock ≠ some p from fun e => by
        rw [← hkv] at e
        obtain ⟨c1, h1⟩ := owns_type KX.out e
        rw [P5.out] at h1; cases h1)
      have NKX := Lib.hid (show (Value.slice ka (kidsOf (nds rs) k).length kc).ownBlock ≠ some X from fun e => by
        rw [← hkv] at e
        obtain ⟨c1, h1⟩ := owns_type KX.out e
        rw [X5.out] at h1; cases h1)
      have KX' := KX.out
      rw [hkv] at KX'
      have KX2 := Lib.hid KX'
      have hm1 : (kidsOf (nds rs) k).length ≤ 1000 := by have := HKL.out; have := HNL.out; omega
      have hkk : (k : Int) < (rs.length : Int) + 1 := by omega
      have hk1 : k < rs.length + 1 := by omega
      generalize hml : (kidsOf (nds rs) k).length = m at A5' KX2 NK NKp NKX hm1 HKV
      have HM := Lib.hid hml
      clear hkv KX' hml
      obtain ⟨i1, hj, hy0, hy1, hy2⟩ := info_parts info3
      go_cut [53] (fun s53 wx => Mid6 B p (.slice s rs.length cap) rs most k c w4 wx)
      case first =>
        refine wp_region_T (L := [20]) (S := fun wz => wz.cell? ⟨p, 0, none⟩ = some (.slice (some ⟨gg, 0, none⟩) (rs.length + 1) cc) ∧ wz.cell? ⟨X, 0, none⟩ = some (.int .i64 k) ∧ wz.cell? ⟨gg, k * 3 + 2, none⟩ = some (.slice ka m kc)) (by kernel_rfl) ?_
        intro hc
        have hS : (fun wz : World => wz.cell? ⟨p, 0, none⟩ = some (.slice (some ⟨gg, 0, none⟩) (rs.length + 1) cc) ∧ wz.cell? ⟨X, 0, none⟩ = some (.int .i64 k) ∧ wz.cell? ⟨gg, k * 3 + 2, none⟩ = some (.slice ka m kc)) wc.drew := ⟨c5, x0, A5'⟩
        refine wpAnyT_take (i := 0) (oi := ⟨some 36, _, _, _, _, _⟩) (v := ?_) hc rfl (by kernel_rfl) (by kernel_rfl) (by kernel_rfl) (by kernel_rfl) (fun _ _ _ h => h) (Or.inl ⟨by rfl, ?_⟩) hS ?_
        rotate_left
        · intro wz hSw; obtain ⟨hs1, hs2, hs3⟩ := hSw; go_simp; with_reducible rfl
        intro hc; simp only [Act.put, List.setIfInBounds_toArray, List.set_cons_zero, List.set_cons_succ]
        refine wpAnyT_take (i := 1) (oi := ⟨some 37, _, _, _, _, _⟩) (v := ?_) hc rfl (by kernel_rfl) (by kernel_rfl) (by kernel_rfl) (by kernel_rfl) (fun _ _ _ h => h) (Or.inl ⟨by rfl, ?_⟩) hS ?_
        rotate_left
        · intro wz hSw; obtain ⟨hs1, hs2, hs3⟩ := hSw; go_simp; with_reducible rfl
        intro hc; simp only [Act.put, List.setIfInBounds_toArray, List.set_cons_zero, List.set_cons_succ]
        refine wpAnyT_take (i := 2) (oi := ⟨some 38, _, _, _, _, _⟩) (v := ?_) hc rfl (by kernel_rfl) (by kernel_rfl) (by kernel_rfl) (by kernel_rfl) (fun _ _ _ h => h) (Or.inl ⟨by rfl, ?_⟩) hS ?_
        rotate_left
        · intro wz hSw; obtain ⟨hs1, hs2, hs3⟩ := hSw; go_simp; with_reducible rfl
        intro hc; simp only [Act.put, List.setIfInBounds_toArray, List.set_cons_zero, List.set_cons_succ]
        refine wpAnyT_take (i := 3) (oi := ⟨some 39, _, _, _, _, _⟩) (v := ?_) hc rfl (by kernel_rfl) (by kernel_rfl) (by kernel_rfl) (by kernel_rfl) (fun _ _ _ h => h) (Or.inl ⟨by rfl, ?_⟩) hS ?_
        rotate_left
        · intro wz hSw; obtain ⟨hs1, hs2, hs3⟩ := hSw; go_simp; with_reducible rfl
        intro hc; simp only [Act.put, List.setIfInBounds_toArray, List.set_cons_zero, List.set_cons_succ]
        refine wpAnyT_take (i := 4) (oi := ⟨some 40, _, _, _, _, _⟩) (v := ?_) hc rfl (by kernel_rfl) (by kernel_rfl) (by kernel_rfl) (by kernel_rfl) (fun _ _ _ h => h) (Or.inl ⟨by rfl, ?_⟩) hS ?_
        rotate_left
        · intro wz hSw; obtain ⟨hs1, hs2, hs3⟩ := hSw; go_simp; with_reducible rfl
        intro hc; simp only [Act.put, List.setIfInBounds_toArray, List.set_cons_zero, List.set_cons_succ]
        refine wpAnyT_take (i := 5) (oi := ⟨some 41, _, _, _, _, _⟩) (v := ?_) hc rfl (by kernel_rfl) (by kernel_rfl) (by kernel_rfl) (by kernel_rfl) (fun _ _ _ h => h) (Or.inl ⟨by rfl, ?_⟩) hS ?_
        rotate_left
        · intro wz hSw; obtain ⟨hs1, hs2, hs3⟩ := hSw; go_simp; with_reducible rfl
        intro hc; simp only [Act.put, List.setIfInBounds_toArray, List.set_cons_zero, List.set_cons_succ]
        refine wpAnyT_take (i := 6) (oi := ⟨some 42, _, _, _, _, _⟩) (v := ?_) hc rfl (by kernel_rfl) (by kernel_rfl) (by kernel_rfl) (by kernel_rfl) (fun _ _ _ h => h) (Or.inl ⟨by rfl, ?_⟩) hS ?_
        rotate_left
        · intro wz hSw; obtain ⟨hs1, hs2, hs3⟩ := hSw; go_simp; with_reducible rfl
        intro hc; simp only [Act.put, List.setIfInBounds_toArray, List.set_cons_zero, List.set_cons_succ]
        refine wpAnyT_take (i := 7) (oi := ⟨some 43, _, _, _, _, _⟩) (v := ?_) hc rfl (by kernel_rfl) (by kernel_rfl) (by kernel_rfl) (by kernel_rfl) (fun _ _ _ h => h) (Or.inl ⟨by rfl, ?_⟩) hS ?_
        rotate_left
        · intro wz hSw; obtain ⟨hs1, hs2, hs3⟩ := hSw; go_simp; with_reducible rfl
        intro hc; simp only [Act.put, List.setIfInBounds_toArray, List.set_cons_zero, List.set_cons_succ]
        refine wpAnyT_take (i := 8) (oi := ⟨some 44, _, _, _, _, _⟩) (v := ?_) hc rfl (by kernel_rfl) (by kernel_rfl) (by kernel_rfl) (by kernel_rfl) (fun _ _ _ h => h) (Or.inl ⟨by rfl, ?_⟩) hS ?_
        rotate_left
        · intro wz hSw; obtain ⟨hs1, hs2, hs3⟩ := hSw; go_simp; with_reducible rfl
        intro hc; simp only [Act.put, List.setIfInBounds_toArray, List.set_cons_zero, List.set_cons_succ]
        refine wpAnyT_take (i := 9) (oi := ⟨some 45, _, _, _, _, _⟩) (v := ?_) hc rfl (by kernel_rfl) (by kernel_rfl) (by kernel_rfl) (by kernel_rfl) (fun _ _ _ h => h) (Or.inl ⟨by rfl, ?_⟩) hS ?_
        rotate_left
        · intro wz hSw; obtain ⟨hs1, hs2, hs3⟩ := hSw; go_simp; with_reducible rfl
        intro hc; simp only [Act.put, List.setIfInBounds_toArray, List.set_cons_zero, List.set_cons_succ]
        refine wpAnyT_take (i := 10) (oi := ⟨some 46, _, _, _, _, _⟩) (v := ?_) hc rfl (by kernel_rfl) (by kernel_rfl) (by kernel_rfl) (by kernel_rfl) (fun _ _ _ h => h) (Or.inl ⟨by rfl, ?_⟩) hS ?_
        rotate_left
        · intro wz hSw; obtain ⟨hs1, hs2, hs3⟩ := hSw; go_simp; with_reducible rfl
        intro hc; simp only [Act.put, List.setIfInBounds_toArray, List.set_cons_zero, List.set_cons_succ]
        refine wpAnyT_take (i := 11) (oi := ⟨some 47, _, _, _, _, _⟩) (v := ?_) hc rfl (by kernel_rfl) (by kernel_rfl) (by kernel_rfl) (by kernel_rfl) (fun _ _ _ h => h) (Or.inl ⟨by rfl, ?_⟩) hS ?_
        rotate_left
        · intro wz hSw; obtain ⟨hs1, hs2, hs3⟩ := hSw; go_simp; with_reducible rfl
        intro hc; simp only [Act.put, List.setIfInBounds_toArray, List.set_cons_zero, List.set_cons_succ]
        refine wpAnyT_take (i := 12) (oi := ⟨some 48, _, _, _, _, _⟩) (v := ?_) hc rfl (by kernel_rfl) (by kernel_rfl) (by kernel_rfl) (by kernel_rfl) (fun _ _ _ h => h) (Or.inl ⟨by rfl, ?_⟩) hS ?_
        rotate_left
        · intro wz hSw; obtain ⟨hs1, hs2, hs3⟩ := hSw; go_simp; with_reducible rfl
        intro hc; simp only [Act.put, List.setIfInBounds_toArray, List.set_cons_zero, List.set_cons_succ]
        refine wpAnyT_take (i := 13) (oi := ⟨some 49, _, _, _, _, _⟩) (v := ?_) hc rfl (by kernel_rfl) (by kernel_rfl) (by kernel_rfl) (by kernel_rfl) (fun _ _ _ h => h) (Or.inl ⟨by rfl, ?_⟩) hS ?_
        rotate_left
        · intro wz hSw; obtain ⟨hs1, hs2, hs3⟩ := hSw; go_simp; with_reducible rfl
        intro hc; simp only [Act.put, List.setIfInBounds_toArray, List.set_cons_zero, List.set_cons_succ]
        refine wpAnyT_take (i := 14) (oi := ⟨some 50, _, _, _, _, _⟩) (v := ?_) hc rfl (by kernel_rfl) (by kernel_rfl) (by kernel_rfl) (by kernel_rfl) (fun _ _ _ h => h) (Or.inl ⟨by rfl, ?_⟩) hS ?_
        rotate_left
        · intro wz hSw; obtain ⟨hs1, hs2, hs3⟩ := hSw; go_simp; with_reducible rfl
        intro hc; simp only [Act.put, List.setIfInBounds_toArray, List.set_cons_zero, List.set_cons_succ]
        refine wpAnyT_take (i := 15) (oi := ⟨some 51, _, _, _, _, _⟩) (v := ?_) hc rfl (by kernel_rfl) (by kernel_rfl) (by kernel_rfl) (by kernel_rfl) (fun _ _ _ h => h) (Or.inl ⟨by rfl, ?_⟩) hS ?_
        rotate_left
        · intro wz hSw; obtain ⟨hs1, hs2, hs3⟩ := hSw; go_simp; with_reducible rfl
        intro hc; simp only [Act.put, List.setIfInBounds_toArray, List.set_cons_zero, List.set_cons_succ]
        refine wpAnyT_oper (i := 16) (oi := ⟨some 52, _, _, _, _, _⟩) hc (by kernel_rfl) rfl (by kernel_rfl) ?_
        intro K hK
        go_simp
        refine hK _ _ (fun _ => ⟨?_, ?_, ?_⟩) (fun hc => ?_)
        · go_simp
        · go_simp
        · go_simp
        clear hK K
        have OK6 := Lib.hid (owns_new KX2.out (((Upd.refl _ _).alloc (Obj.cells #[Value.int IntKind.i64 ↑rs.length] 3)).drew))
        refine wpAnyT_oper (i := 17) (oi := ⟨some 53, _, _, _, _, _⟩) hc (by kernel_rfl) rfl (by kernel_rfl) ?_
        intro K hK
        refine wp_append_lies _ _ _ _ (by rfl) B 3 i1 _ 1 8 Try.underlying45 hj hy0 hy1 hy2 rfl (by omega) (.slice ka m kc) m _ (by rfl) OK6.out ⟨wc.heap.size, 0, none⟩ 1 1 [.int .i64 rs.length] (by rfl) (by rfl) (World.news_of_block (cs := #[.int .i64 rs.length]) (t := 3) (fr := (0, 0)) (heap_at (w := wc) _ rfl)) (by simp [Value.oneCell']) (by omega) (by unfold maxLen; omega) (by omega) (by simp; omega) (wc.heap.size + 1) (by simp) ?_
        intro g' c' w6 hown6 hgrow6 hat6 hlt6
        have U6 := Lib.hid (show Upd (fun q => (Value.slice ka m kc).ownBlock = some q) wc w6 from (((Upd.refl _ _).alloc _).drew).grown hgrow6 (fun q hq => .inl hq))
        have P6 := Lib.hid (U6.out.heap P5.out NKp.out)
        have X6 := Lib.hid (U6.out.heap X5.out NKX.out)
        have R6 := Lib.hid (owns_upd R5.out U6.out (fun q hq e => by cases hq; exact NK.out e))
        have p6 := cell_of P6.out 0
        have x6 := cell_of X6.out 0
        simp only [List.getElem?_toArray, List.getElem?_cons_zero] at p6 x6
        have HO6 := Lib.hid hown6
        have HA6 := Lib.hid hat6
        clear hown6 hat6 hgrow6
        have A6 := owns_cell R6.out (j := k * 3 + 2) (by omega)
        have A6' : w6.cell? ⟨gg, k * 3 + 2, none⟩ = some (.slice ka m kc) := by
          rw [A6, ← owns_cell R5.out (j := k * 3 + 2) (by omega)]; exact A5'
        obtain ⟨cg6, hg6⟩ := owns_type R6.out (k := gg) rfl
        have F6 := frozen_of hg6 (k * 3 + 2)
        clear A6 hg6
        have hS6 : (fun wz : World => wz.cell? ⟨p, 0, none⟩ = some (.slice (some ⟨gg, 0, none⟩) (rs.length + 1) cc) ∧ wz.cell? ⟨X, 0, none⟩ = some (.int .i64 k) ∧ wz.cell? ⟨gg, k * 3 + 2, none⟩ = some (.slice ka m kc)) w6 := ⟨p6, x6, A6'⟩
        refine hK _ _ (fun _ => hS6) (fun hc => ?_)
        clear hK K hS
        simp only [Act.put, List.setIfInBounds_toArray, List.set_cons_zero, List.set_cons_succ]
        refine wpAnyT_take (i := 18) (oi := ⟨some 54, _, _, _, _, _⟩) (v := ?_) hc rfl (by kernel_rfl) (by kernel_rfl) (by kernel_rfl) (by kernel_rfl) (fun _ _ _ h => h) (Or.inl ⟨by rfl, ?_⟩) hS6 ?_
        rotate_left
        · intro wz hSw; obtain ⟨hs1, hs2, hs3⟩ := hSw; go_simp; with_reducible rfl
        intro hc; simp only [Act.put, List.setIfInBounds_toArray, List.set_cons_zero, List.set_cons_succ]
        refine wpAnyT_take (i := 19) (oi := ⟨some 55, _, _, _, _, _⟩) (v := ?_) hc rfl (by kernel_rfl) (by kernel_rfl) (by kernel_rfl) (by kernel_rfl) (fun _ _ _ h => h) (Or.inl ⟨by rfl, ?_⟩) hS6 ?_
        rotate_left
        · intro wz hSw; obtain ⟨hs1, hs2, hs3⟩ := hSw; go_simp; with_reducible rfl
        intro hc; simp only [Act.put, List.setIfInBounds_toArray, List.set_cons_zero, List.set_cons_succ]
        refine wpAnyT_oper (i := 20) (oi := ⟨none, _, _, _, _, _⟩) hc (by kernel_rfl) rfl (by kernel_rfl) ?_
        intro K hK
        go_simp
        refine hK _ _ (fun h => absurd (by decide) h) (fun hc => ?_)
        clear hK K
        refine wpAnyT_done (by kernel_rfl) ?_ _
        go_wp2_with fail
        go_meet
        obtain rfl := HM.out
        have U6' : Upd (fun q => rs[k].2.2.ownBlock = some q) wc w6 := by rw [HKV.out]; exact U6.out
        refine ⟨_, _, H4.out.add_kid c k _ HRR.out hn P5.out R5.out U5.out g' c' HO6.out U6' ?_, ?_, ?_⟩
        · rw [HKV.out]; exact HA6.out.imp id (fun e => by omega)
        · rw [nds_set _ _ _ _ (by rw [List.getElem?_append_left hk]; exact HRR.out), nds_append]
        · have u1 : Upd (Tr.blk p (.slice s rs.length cap) rs) w4 wc := U5.out.mono (fun q _ e => e.imp id .inl)
          have u2 : Upd (Tr.blk p (.slice s rs.length cap) rs) w4 w6 := u1.then U6' (fun q _ e => .inr (.inr ⟨k, _, HRR.out, e⟩))
          refine u2.setAt ?_ _ _
          exact GG.out.imp (fun e => .inr (.inl e)) id
      case rest =>
        obtain ⟨sv', rs', hT, hnd, hU⟩ := hcut
        have HT := Lib.hid hT
        have HND := Lib.hid hnd
        have HU := Lib.hid hU
        clear hT hnd hU
        go_wp2_with fail
        go_ret2
        exact ⟨_, _, rfl, HT.out, HND.out, pre_new N4.out HU.out⟩
    · have HI := Lib.hid (show isIn (rs.length + 1) o = false by simp [isIn, h0])
      go_wp2_with fail
      refine TH.out.mono ?_; rintro e w' ⟨rfl, rfl⟩
      rw [HI.out]
      go_wp2_with fail
      go_ret2
      refine ⟨_, _, rfl, H4.out.add_root c o (by omega) hn P5.out R5.out U5.out, nds_append _ _ _ _, ?_⟩
      exact pre_new N4.out (U5.out.mono (fun q _ e => e.imp id .inl))
end Go.Proofs.Ytoijeehkjpcefaa

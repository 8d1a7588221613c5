import Derived.Test.YtdbdpmpnblmfkaaT9
namespace Go.Proofs.Ytdbdpmpnblmfkaa
open Go.RowKit Go.Proofs.Cmd
variable {B p n : Nat} {sv : Value} {xs : List Int} {most : Int} {w : World}

theorem set_two {xs : List Int} (k : Nat) (h : xs.getD (17 * k) 0 = 2) : xs.set (17 * k) 2 = xs := by
  by_cases hk : 17 * k < xs.length
  · have e : xs[17 * k] = 2 := by simpa [List.getD, hk] using h
    rw [← e, List.set_getElem_self]
  · rw [List.set_eq_of_length_le (by omega)]
theorem r_set (h : Tab 47 57 B w p sv n xs most) (hv : Val n xs) (i r a : Int) :
    Calls Try.prog 10 #[.pointer (some ⟨p, 0, none⟩), .int .i64 i, .int .i64 r, .int .i64 a] w (Did 47 57 B p sv n most (mayDo liv n xs i && isReg r) (setX n xs i r a) w) := by
  have IS := Lib.hid (r_is h i 1)
  have IS2 := Lib.hid (r_is h i 2)
  have H := Lib.hid h
  have HM := Lib.hid (mayDo_liv hv i)
  clear hv
  cases hb : (isB n xs i 1 || isB n xs i 2)
  · have HB := Lib.hid hb
    rw [Bool.or_eq_false_iff] at hb
    have HB1 := Lib.hid hb.1
    have HB2 := Lib.hid hb.2
    clear h hb
    go_enter Try.func10, Try.ntmps10
    go_wp2_with fail
    refine IS.out.mono ?_; rintro e w' ⟨rfl, rfl⟩
    rw [HB1.out]
    go_wp2_with fail
    refine IS2.out.mono ?_; rintro e w' ⟨rfl, rfl⟩
    rw [HB2.out]
    go_wp2_with fail
    go_ret
    unfold setX; rw [HM.out, HB.out]
    exact ⟨rfl, H.out, Upd.refl _ _⟩
  · have HB := Lib.hid hb
    rw [Bool.or_eq_true] at hb
    by_cases hr : 0 ≤ r ∧ r < 6
    · obtain ⟨k, rfl, hk⟩ : ∃ k : Nat, i = k ∧ k < n := hb.elim isB_in isB_in
      obtain ⟨g, cap, cur, rfl, _⟩ := h.block (by omega)
      have hs := h.small
      have h1 := cell_of h.head 0
      simp only [List.getElem?_toArray, List.getElem?_cons_zero] at h1
      obtain ⟨hr0, hr6⟩ := hr
      obtain ⟨q, rfl⟩ := Int.eq_ofNat_of_zero_le hr0
      have k0 := h.cell' hk (4 + q) (by omega)
      rw [← Nat.add_assoc] at k0
      have f := h.frozen
      clear h
      generalize xs.getD (k * 17 + 4 + q) 0 = v at k0
      have FIN := Lib.hid (show Did 47 57 B p (.slice (some ⟨g, 0, none⟩) n cap) n most (mayDo liv n xs k && isReg q) (setX n xs k q a) w (.returned (.bool true)) (w.setCell ⟨g, k * 17 + 4 + q, none⟩ (.int .i64 a)) from by
        have e : isReg (q : Int) = true := by simp [isReg, hr6]
        unfold setX; rw [HM.out, HB.out, e, Int.toNat_natCast, Nat.mul_comm 17 k]
        exact ⟨rfl, H.out.set _ _, by (repeat' (first | with_reducible exact Upd.refl _ _ | with_reducible apply Upd.setCell | with_reducible apply Upd.alloc | with_reducible apply Upd.drew | exact Or.inl rfl | (right; simp; omega)))⟩)
      have hq5 : ¬ (5 : Int) < q := by omega
      cases h1b : isB n xs k 1
      · have HB1 := Lib.hid h1b
        rw [h1b] at hb; simp only [Bool.false_eq_true, false_or] at hb
        have HB2 := Lib.hid hb
        clear h1b hb
        go_enter Try.func10, Try.ntmps10
        go_wp2_with fail
        refine IS.out.mono ?_; rintro e w' ⟨rfl, rfl⟩
        rw [HB1.out]
        go_wp2_with fail
        refine IS2.out.mono ?_; rintro e w' ⟨rfl, rfl⟩
        rw [HB2.out]
        go_wp2_with fail
        go_ret
        exact FIN.out
      · have HB1 := Lib.hid h1b
        clear h1b hb
        go_enter Try.func10, Try.ntmps10
        go_wp2_with fail
        refine IS.out.mono ?_; rintro e w' ⟨rfl, rfl⟩
        rw [HB1.out]
        go_wp2_with fail
        go_ret
        exact FIN.out
    · have FIN := Lib.hid (show Did 47 57 B p sv n most (mayDo liv n xs i && isReg r) (setX n xs i r a) w (.returned (.bool false)) w from by
        have e : isReg r = false := by simp [isReg]; omega
        unfold setX; rw [e, Bool.and_false]
        exact ⟨rfl, H.out, Upd.refl _ _⟩)
      have NR : r < 0 ∨ (0 ≤ r ∧ 5 < r) := by omega
      clear h hr
      rcases NR with hr | ⟨hr, hr5⟩ <;> cases h1b : isB n xs i 1
      all_goals (have HB1 := Lib.hid h1b; rw [h1b] at hb; clear h1b; simp only [Bool.false_eq_true, false_or, true_or] at hb; have HB2 := Lib.hid hb; clear hb)
      all_goals
        go_enter Try.func10, Try.ntmps10
        go_wp2_with fail
        refine IS.out.mono ?_; rintro e w' ⟨rfl, rfl⟩
        rw [HB1.out]
        go_wp2_with fail
        first | (go_ret; exact FIN.out) | skip
      all_goals
        refine IS2.out.mono ?_; rintro e w' ⟨rfl, rfl⟩
        rw [HB2.out]
        go_wp2_with fail
        go_ret
        exact FIN.out

theorem r_again (h : Tab 47 57 B w p sv n xs most) (i a0 a1 a2 a3 a4 a5 : Int) :
    Calls Try.prog 11 #[.pointer (some ⟨p, 0, none⟩), .int .i64 i, .agg #[.int .i64 a0, .int .i64 a1, .int .i64 a2, .int .i64 a3, .int .i64 a4, .int .i64 a5], .bool true] w
      (Did 47 57 B p sv n most (decide (1 ≤ a0) && mayDo prk n xs i) (againX n xs i a0 a1 a2 a3 a4 a5) w) := by
  have hN := new_alloc w (.cells #[.int .i64 a0, .int .i64 a1, .int .i64 a2, .int .i64 a3, .int .i64 a4, .int .i64 a5] 42)
  have IS := Lib.hid (r_is (h.new hN) i 2)
  have H := Lib.hid h
  have N := Lib.hid hN
  have HM := Lib.hid (mayDo_prk n xs i)
  clear hN
  by_cases ha : 1 ≤ a0
  case neg =>
    have FIN := Lib.hid (show Did 47 57 B p sv n most (decide (1 ≤ a0) && mayDo prk n xs i) (againX n xs i a0 a1 a2 a3 a4 a5) w (.returned (.bool false)) (w.alloc (.cells #[.int .i64 a0, .int .i64 a1, .int .i64 a2, .int .i64 a3, .int .i64 a4, .int .i64 a5] 42)) from by
      unfold againX; rw [decide_eq_false ha, Bool.false_and]
      exact ⟨rfl, H.out.new N.out, New.upd N.out _⟩)
    clear h
    go_enter Try.func11, Try.ntmps11
    go_wp2_with fail
    go_ret
    exact FIN.out
  case pos =>
  cases hb : isB n xs i 2
  · have HB := Lib.hid hb
    have FIN := Lib.hid (show Did 47 57 B p sv n most (decide (1 ≤ a0) && mayDo prk n xs i) (againX n xs i a0 a1 a2 a3 a4 a5) w (.returned (.bool false)) (w.alloc (.cells #[.int .i64 a0, .int .i64 a1, .int .i64 a2, .int .i64 a3, .int .i64 a4, .int .i64 a5] 42)) from by
      unfold againX; rw [HM.out, HB.out, Bool.and_false]
      exact ⟨rfl, H.out.new N.out, New.upd N.out _⟩)
    clear h hb
    go_enter Try.func11, Try.ntmps11
    go_wp2_with fail
    refine IS.out.mono ?_; rintro e w' ⟨rfl, rfl⟩
    rw [HB.out]
    go_wp2_with fail
    go_ret
    exact FIN.out
  · have HB := Lib.hid hb
    obtain ⟨k, rfl, hk⟩ := isB_in hb
    obtain ⟨g, cap, cur, rfl, _⟩ := h.block (by omega)
    have hs := h.small
    have h1 := cell_of h.head 0
    simp only [List.getElem?_toArray, List.getElem?_cons_zero] at h1
    have hpl := lt_of h.head
    have hgl := h.lt
    have k0 := h.cell' hk 0 (by omega)
    have k10 := h.cell' hk 10 (by omega)
    have k11 := h.cell' hk 11 (by omega)
    have k12 := h.cell' hk 12 (by omega)
    have k13 := h.cell' hk 13 (by omega)
    have k14 := h.cell' hk 14 (by omega)
    have k15 := h.cell' hk 15 (by omega)
    rw [Nat.add_zero] at k0
    have f := h.frozen
    have hgp : g ≠ p := fun e => h.two (by simp [Value.ownBlock, e])
    clear h hb
    have FIN := Lib.hid (show Did 47 57 B p (.slice (some ⟨g, 0, none⟩) n cap) n most (decide (1 ≤ a0) && mayDo prk n xs k) (againX n xs k a0 a1 a2 a3 a4 a5) w (.returned (.bool true)) (((((((((w.setCell ⟨g, k * 17, none⟩ (.int .i64 2)).setCell ⟨g, k * 17 + 10, none⟩ (.int .i64 a0)).setCell ⟨g, k * 17 + 10 + 1, none⟩ (.int .i64 a1)).setCell ⟨g, k * 17 + 10 + 2, none⟩ (.int .i64 a2)).setCell ⟨g, k * 17 + 10 + 3, none⟩ (.int .i64 a3)).setCell ⟨g, k * 17 + 10 + 4, none⟩ (.int .i64 a4)).setCell ⟨g, k * 17 + 10 + 5, none⟩ (.int .i64 a5)).alloc (.cells #[.int .i64 a0, .int .i64 a1, .int .i64 a2, .int .i64 a3, .int .i64 a4, .int .i64 a5] 42)).drew) from by
      unfold againX; rw [HM.out, HB.out, Bool.and_true, decide_eq_true ha, Int.toNat_natCast]
      refine ⟨rfl, ?_, by (repeat' (first | with_reducible exact Upd.refl _ _ | with_reducible apply Upd.setCell | with_reducible apply Upd.alloc | with_reducible apply Upd.drew | exact Or.inl rfl | (right; simp; omega)))⟩
      have e2 : xs.set (17 * k) 2 = xs := set_two k (by have := HB.out; simp only [isB, Bool.and_eq_true, beq_iff_eq, Int.toNat_natCast] at this; exact this.2)
      rw [if_pos rfl, ← e2]
      simp only [setW, Nat.mul_comm 17 k]
      exact ((((((((H.out.set _ _).set _ _).set _ _).set _ _).set _ _).set _ _).set _ _).new (new_alloc _ _)).drew)
    generalize xs.getD (k * 17) 0 = v0 at k0
    generalize xs.getD (k * 17 + 10) 0 = v10 at k10
    generalize xs.getD (k * 17 + 11) 0 = v11 at k11
    generalize xs.getD (k * 17 + 12) 0 = v12 at k12
    generalize xs.getD (k * 17 + 13) 0 = v13 at k13
    generalize xs.getD (k * 17 + 14) 0 = v14 at k14
    generalize xs.getD (k * 17 + 15) 0 = v15 at k15
    go_enter Try.func11, Try.ntmps11
    go_wp2_with fail
    refine IS.out.mono ?_; rintro e w' ⟨rfl, rfl⟩
    rw [HB.out]
    go_wp2_with fail
    go_region
    all_goals go_wp2_with fail
    all_goals go_ret
    all_goals exact FIN.out

theorem r_park (h : Tab 47 57 B w p sv n xs most) (i a0 a1 a2 a3 a4 a5 : Int) :
    Calls Try.prog 11 #[.pointer (some ⟨p, 0, none⟩), .int .i64 i, .agg #[.int .i64 a0, .int .i64 a1, .int .i64 a2, .int .i64 a3, .int .i64 a4, .int .i64 a5], .bool false] w
      (Did 47 57 B p sv n most (decide (1 ≤ a0) && mayDo rdy n xs i) (parkX n xs i a0 a1 a2 a3 a4 a5) w) := by
  have hN := new_alloc w (.cells #[.int .i64 a0, .int .i64 a1, .int .i64 a2, .int .i64 a3, .int .i64 a4, .int .i64 a5] 42)
  have IS := Lib.hid (r_is (h.new hN) i 1)
  have H := Lib.hid h
  have N := Lib.hid hN
  have HM := Lib.hid (mayDo_rdy n xs i)
  clear hN
  by_cases ha : 1 ≤ a0
  case neg =>
    have FIN := Lib.hid (show Did 47 57 B p sv n most (decide (1 ≤ a0) && mayDo rdy n xs i) (parkX n xs i a0 a1 a2 a3 a4 a5) w (.returned (.bool false)) (w.alloc (.cells #[.int .i64 a0, .int .i64 a1, .int .i64 a2, .int .i64 a3, .int .i64 a4, .int .i64 a5] 42)) from by
      unfold parkX; rw [decide_eq_false ha, Bool.false_and]
      exact ⟨rfl, H.out.new N.out, New.upd N.out _⟩)
    clear h
    go_enter Try.func11, Try.ntmps11
    go_wp2_with fail
    go_ret
    exact FIN.out
  case pos =>
  cases hb : isB n xs i 1
  · have HB := Lib.hid hb
    have FIN := Lib.hid (show Did 47 57 B p sv n most (decide (1 ≤ a0) && mayDo rdy n xs i) (parkX n xs i a0 a1 a2 a3 a4 a5) w (.returned (.bool false)) (w.alloc (.cells #[.int .i64 a0, .int .i64 a1, .int .i64 a2, .int .i64 a3, .int .i64 a4, .int .i64 a5] 42)) from by
      unfold parkX; rw [HM.out, HB.out, Bool.and_false]
      exact ⟨rfl, H.out.new N.out, New.upd N.out _⟩)
    clear h hb
    go_enter Try.func11, Try.ntmps11
    go_wp2_with fail
    refine IS.out.mono ?_; rintro e w' ⟨rfl, rfl⟩
    rw [HB.out]
    go_wp2_with fail
    go_ret
    exact FIN.out
  · have HB := Lib.hid hb
    obtain ⟨k, rfl, hk⟩ := isB_in hb
    obtain ⟨g, cap, cur, rfl, _⟩ := h.block (by omega)
    have hs := h.small
    have h1 := cell_of h.head 0
    simp only [List.getElem?_toArray, List.getElem?_cons_zero] at h1
    have hpl := lt_of h.head
    have hgl := h.lt
    have k0 := h.cell' hk 0 (by omega)
    have k10 := h.cell' hk 10 (by omega)
    have k11 := h.cell' hk 11 (by omega)
    have k12 := h.cell' hk 12 (by omega)
    have k13 := h.cell' hk 13 (by omega)
    have k14 := h.cell' hk 14 (by omega)
    have k15 := h.cell' hk 15 (by omega)
    rw [Nat.add_zero] at k0
    have f := h.frozen
    have hgp : g ≠ p := fun e => h.two (by simp [Value.ownBlock, e])
    clear h hb
    have FIN := Lib.hid (show Did 47 57 B p (.slice (some ⟨g, 0, none⟩) n cap) n most (decide (1 ≤ a0) && mayDo rdy n xs k) (parkX n xs k a0 a1 a2 a3 a4 a5) w (.returned (.bool true)) (((((((((w.setCell ⟨g, k * 17, none⟩ (.int .i64 2)).setCell ⟨g, k * 17 + 10, none⟩ (.int .i64 a0)).setCell ⟨g, k * 17 + 10 + 1, none⟩ (.int .i64 a1)).setCell ⟨g, k * 17 + 10 + 2, none⟩ (.int .i64 a2)).setCell ⟨g, k * 17 + 10 + 3, none⟩ (.int .i64 a3)).setCell ⟨g, k * 17 + 10 + 4, none⟩ (.int .i64 a4)).setCell ⟨g, k * 17 + 10 + 5, none⟩ (.int .i64 a5)).alloc (.cells #[.int .i64 a0, .int .i64 a1, .int .i64 a2, .int .i64 a3, .int .i64 a4, .int .i64 a5] 42)).drew) from by
      unfold parkX; rw [HM.out, HB.out, Bool.and_true, decide_eq_true ha, Int.toNat_natCast]
      refine ⟨rfl, ?_, by (repeat' (first | with_reducible exact Upd.refl _ _ | with_reducible apply Upd.setCell | with_reducible apply Upd.alloc | with_reducible apply Upd.drew | exact Or.inl rfl | (right; simp; omega)))⟩
      rw [if_pos rfl]
      simp only [setW, Nat.mul_comm 17 k]
      exact ((((((((H.out.set _ _).set _ _).set _ _).set _ _).set _ _).set _ _).set _ _).new (new_alloc _ _)).drew)
    generalize xs.getD (k * 17) 0 = v0 at k0
    generalize xs.getD (k * 17 + 10) 0 = v10 at k10
    generalize xs.getD (k * 17 + 11) 0 = v11 at k11
    generalize xs.getD (k * 17 + 12) 0 = v12 at k12
    generalize xs.getD (k * 17 + 13) 0 = v13 at k13
    generalize xs.getD (k * 17 + 14) 0 = v14 at k14
    generalize xs.getD (k * 17 + 15) 0 = v15 at k15
    go_enter Try.func11, Try.ntmps11
    go_wp2_with fail
    refine IS.out.mono ?_; rintro e w' ⟨rfl, rfl⟩
    rw [HB.out]
    go_wp2_with fail
    go_region
    all_goals go_wp2_with fail
    all_goals go_ret
    all_goals exact FIN.out

end Go.Proofs.Ytdbdpmpnblmfkaa

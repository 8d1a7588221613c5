import Derived.Test.YtdbdpmpnblmfkaaT8
namespace Go.Proofs.Ytdbdpmpnblmfkaa
open Go.RowKit Go.Proofs.Cmd

/-- Is there a task i, of state s? -/
def isB (n : Nat) (xs : List Int) (i s : Int) : Bool := decide (0 ≤ i) && decide (i < n) && (xs.getD (17 * i.toNat) 0 == s)
theorem not_zer {xs : List Int} {k : Nat} (h : xs.getD (17 * k) 0 ≠ 0) : tk xs k ≠ zer := by
  intro e
  have := tk_head xs k
  rw [e] at this
  exact h (by rw [← this]; rfl)
theorem mayDo_rdy (n : Nat) (xs : List Int) (i : Int) : mayDo rdy n xs i = isB n xs i 1 := by
  unfold mayDo isB rdy
  by_cases h : xs.getD (17 * i.toNat) 0 = 1
  · rw [decide_eq_false (not_zer (by rw [h]; decide)), h]; simp
  · rw [beq_eq_false_iff_ne.2 h]; simp
theorem mayDo_prk (n : Nat) (xs : List Int) (i : Int) : mayDo prk n xs i = isB n xs i 2 := by
  unfold mayDo isB prk
  by_cases h : xs.getD (17 * i.toNat) 0 = 2
  · rw [decide_eq_false (not_zer (by rw [h]; decide)), h]; simp
  · rw [beq_eq_false_iff_ne.2 h]; simp
/-- Every task is ready, parked or ended. -/
def Val (n : Nat) (xs : List Int) : Prop := ∀ k, k < n → xs.getD (17 * k) 0 = 1 ∨ xs.getD (17 * k) 0 = 2 ∨ xs.getD (17 * k) 0 = 3
theorem mayDo_liv {n : Nat} {xs : List Int} (hv : Val n xs) (i : Int) : mayDo liv n xs i = (isB n xs i 1 || isB n xs i 2) := by
  unfold mayDo isB liv
  by_cases h : 0 ≤ i ∧ i < n
  · obtain ⟨h0, h1⟩ := h
    have := hv i.toNat (by omega)
    rw [decide_eq_true h0, decide_eq_true h1]
    rcases this with e | e | e
    · rw [decide_eq_false (not_zer (by rw [e]; decide)), e]; rfl
    · rw [decide_eq_false (not_zer (by rw [e]; decide)), e]; rfl
    · rw [e]; simp
  · have : (decide (0 ≤ i) && decide (i < (n : Int))) = false := by simp; omega
    rw [this]; simp

theorem Tab.cell' {ty e : TypeId} {B : Nat} {w : World} {p g cap n : Nat} {xs : List Int} {most : Int} (h : Tab ty e B w p (.slice (.some ⟨g, 0, none⟩) n cap) n xs most) {k : Nat} (hk : k < n) (j : Nat) (hj : j < 17) :
    w.cell? ⟨g, k * 17 + j, none⟩ = some (.int .i64 (xs.getD (k * 17 + j) 0)) := by
  have := h.cell hk j hj
  rwa [Nat.mul_comm] at this
variable {B p n : Nat} {sv : Value} {xs : List Int} {most : Int} {w : World}

theorem r_is (h : Tab 47 57 B w p sv n xs most) (i s : Int) :
    Calls Try.prog 30 #[.pointer (some ⟨p, 0, none⟩), .int .i64 i, .int .i64 s] w fun e w' => e = .returned (.bool (isB n xs i s)) ∧ w = w' := by
  obtain ⟨a, cap, rfl, hc⟩ := h.shape
  have h1 := cell_of h.head 0
  simp only [List.getElem?_toArray, List.getElem?_cons_zero] at h1
  by_cases h0 : 0 ≤ i
  · by_cases hi : i < n
    · obtain ⟨k, rfl⟩ := Int.eq_ofNat_of_zero_le h0
      have hk : k < n := by omega
      obtain ⟨g, cap', cur, e1, _⟩ := h.block (by omega)
      cases e1
      have k0 := h.cell' hk 0 (by omega)
      rw [Nat.add_zero] at k0
      have HF := Lib.hid (show isB n xs (k : Int) s = (xs.getD (k * 17) 0 == s) by simp [isB, hi, Nat.mul_comm])
      clear h
      generalize xs.getD (k * 17) 0 = v at k0 HF
      go_enter Try.func30, Try.ntmps30
      go_wp2
      go_ret
      exact ⟨by rw [HF.out]; rfl, rfl⟩
    · have HF := Lib.hid (show isB n xs i s = false by simp [isB, hi])
      clear h
      go_enter Try.func30, Try.ntmps30
      go_wp2
      go_ret
      exact ⟨by rw [HF.out]; rfl, rfl⟩
  · have HF := Lib.hid (show isB n xs i s = false by simp [isB, h0])
    clear h
    go_enter Try.func30, Try.ntmps30
    go_wp2
    go_ret
    exact ⟨by rw [HF.out]; rfl, rfl⟩

theorem isB_in {n : Nat} {xs : List Int} {i s : Int} (h : isB n xs i s = true) : ∃ k : Nat, i = k ∧ k < n := by
  simp only [isB, Bool.and_eq_true, decide_eq_true_eq] at h
  exact ⟨i.toNat, by omega, by omega⟩

theorem r_go (h : Tab 47 57 B w p sv n xs most) (i a : Int) :
    Calls Try.prog 9 #[.pointer (some ⟨p, 0, none⟩), .int .i64 i, .int .i64 a] w (Did 47 57 B p sv n most (mayDo rdy n xs i) (goX n xs i a) w) := by
  have IS := Lib.hid (r_is h i 1)
  have H := Lib.hid h
  have HM := Lib.hid (mayDo_rdy n xs i)
  cases hb : isB n xs i 1
  · have HB := Lib.hid hb
    clear h hb
    go_enter Try.func9, Try.ntmps9
    go_wp2_with fail
    refine IS.out.mono ?_; rintro e w' ⟨rfl, rfl⟩
    rw [HB.out]
    go_wp2_with fail
    go_ret
    unfold goX; rw [HM.out, HB.out]
    exact ⟨rfl, H.out, Upd.refl _ _⟩
  · have HB := Lib.hid hb
    obtain ⟨k, rfl, hk⟩ := isB_in hb
    obtain ⟨g, cap, cur, rfl, _⟩ := h.block (by omega)
    have hs := h.small
    have h1 := cell_of h.head 0
    simp only [List.getElem?_toArray, List.getElem?_cons_zero] at h1
    have k2 := h.cell' hk 2 (by omega)
    have f := h.frozen
    clear h hb
    generalize xs.getD (k * 17 + 2) 0 = v at k2
    go_enter Try.func9, Try.ntmps9
    go_wp2_with fail
    refine IS.out.mono ?_; rintro e w' ⟨rfl, rfl⟩
    rw [HB.out]
    go_wp2_with fail
    go_ret
    unfold goX; rw [HM.out, HB.out, Int.toNat_natCast, Nat.mul_comm 17 k]
    exact ⟨rfl, H.out.set _ _, by (repeat' (first | with_reducible exact Upd.refl _ _ | with_reducible apply Upd.setCell | with_reducible apply Upd.alloc | with_reducible apply Upd.drew | exact Or.inl rfl | (right; simp; omega)))⟩

theorem r_end (h : Tab 47 57 B w p sv n xs most) (hv : Val n xs) (i a : Int) :
    Calls Try.prog 13 #[.pointer (some ⟨p, 0, none⟩), .int .i64 i, .int .i64 a] w (Did 47 57 B p sv n most (mayDo liv n xs i) (endX n xs i a) w) := by
  have IS := Lib.hid (r_is h i 1)
  have IS2 := Lib.hid (r_is h i 2)
  have H := Lib.hid h
  have HM := Lib.hid (mayDo_liv hv i)
  clear hv
  cases hb : (isB n xs i 1 || isB n xs i 2)
  · have HB := Lib.hid hb
    rw [Bool.or_eq_false_iff] at hb
    have HB1 := Lib.hid hb.1
    have HB2 := Lib.hid hb.2
    clear h hb
    go_enter Try.func13, Try.ntmps13
    go_wp2_with fail
    refine IS.out.mono ?_; rintro e w' ⟨rfl, rfl⟩
    rw [HB1.out]
    go_wp2_with fail
    refine IS2.out.mono ?_; rintro e w' ⟨rfl, rfl⟩
    rw [HB2.out]
    go_wp2_with fail
    go_ret
    unfold endX; rw [HM.out, HB.out]
    exact ⟨rfl, H.out, Upd.refl _ _⟩
  · have HB := Lib.hid hb
    rw [Bool.or_eq_true] at hb
    obtain ⟨k, rfl, hk⟩ : ∃ k : Nat, i = k ∧ k < n := hb.elim isB_in isB_in
    obtain ⟨g, cap, cur, rfl, _⟩ := h.block (by omega)
    have hs := h.small
    have h1 := cell_of h.head 0
    simp only [List.getElem?_toArray, List.getElem?_cons_zero] at h1
    have k0 := h.cell' hk 0 (by omega)
    have k10 := h.cell' hk 10 (by omega)
    have k11 := h.cell' hk 11 (by omega)
    have k12 := h.cell' hk 12 (by omega)
    have k13 := h.cell' hk 13 (by omega)
    have k14 := h.cell' hk 14 (by omega)
    have k15 := h.cell' hk 15 (by omega)
    have k16 := h.cell' hk 16 (by omega)
    rw [Nat.add_zero] at k0
    have f := h.frozen
    have hgp : g ≠ p := fun e => h.two (by simp [Value.ownBlock, e])
    clear h
    generalize xs.getD (k * 17) 0 = v0 at k0
    generalize xs.getD (k * 17 + 10) 0 = v10 at k10
    generalize xs.getD (k * 17 + 11) 0 = v11 at k11
    generalize xs.getD (k * 17 + 12) 0 = v12 at k12
    generalize xs.getD (k * 17 + 13) 0 = v13 at k13
    generalize xs.getD (k * 17 + 14) 0 = v14 at k14
    generalize xs.getD (k * 17 + 15) 0 = v15 at k15
    generalize xs.getD (k * 17 + 16) 0 = v16 at k16
    have FIN := Lib.hid (show Did 47 57 B p (.slice (some ⟨g, 0, none⟩) n cap) n most (mayDo liv n xs k) (endX n xs k a) w (.returned (.bool true)) (((((((((w.setCell ⟨g, k * 17, none⟩ (.int .i64 3)).setCell ⟨g, k * 17 + 10, none⟩ (.int .i64 0)).setCell ⟨g, k * 17 + 10 + 1, none⟩ (.int .i64 0)).setCell ⟨g, k * 17 + 10 + 2, none⟩ (.int .i64 0)).setCell ⟨g, k * 17 + 10 + 3, none⟩ (.int .i64 0)).setCell ⟨g, k * 17 + 10 + 4, none⟩ (.int .i64 0)).setCell ⟨g, k * 17 + 10 + 5, none⟩ (.int .i64 0)).setCell ⟨g, k * 17 + 16, none⟩ (.int .i64 a))) from by
      unfold endX; rw [HM.out, HB.out, Int.toNat_natCast, Nat.mul_comm 17 k]
      refine ⟨rfl, ?_, by (repeat' (first | with_reducible exact Upd.refl _ _ | with_reducible apply Upd.setCell | with_reducible apply Upd.alloc | with_reducible apply Upd.drew | exact Or.inl rfl | (right; simp; omega)))⟩
      simp only [setW, Nat.mul_comm 17 k]
      exact ((((((((H.out.set _ _).set _ _).set _ _).set _ _).set _ _).set _ _).set _ _).set _ _))
    cases h1b : isB n xs k 1
    · have HB1 := Lib.hid h1b
      rw [h1b] at hb; simp only [Bool.false_eq_true, false_or] at hb
      have HB2 := Lib.hid hb
      clear h1b hb
      go_enter Try.func13, Try.ntmps13
      go_wp2_with fail
      refine IS.out.mono ?_; rintro e w' ⟨rfl, rfl⟩
      rw [HB1.out]
      go_wp2_with fail
      refine IS2.out.mono ?_; rintro e w' ⟨rfl, rfl⟩
      rw [HB2.out]
      go_wp2_with fail
      go_ret
      exact FIN.out
    · have HB1 := Lib.hid h1b
      clear h1b hb
      go_enter Try.func13, Try.ntmps13
      go_wp2_with fail
      refine IS.out.mono ?_; rintro e w' ⟨rfl, rfl⟩
      rw [HB1.out]
      go_wp2_with fail
      go_ret
      exact FIN.out

end Go.Proofs.Ytdbdpmpnblmfkaa

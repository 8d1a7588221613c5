import Derived.Test.YtdbdpmpnblmfkaaT2
namespace Go.Proofs.Ytdbdpmpnblmfkaa
open Go.RowKit Go.Proofs.Cmd

/-- What a task waits for is set: six numbers. -/
def setW (xs : List Int) (k : Nat) (a0 a1 a2 a3 a4 a5 : Int) : List Int :=
  (((((xs.set (17 * k + 10) a0).set (17 * k + 10 + 1) a1).set (17 * k + 10 + 2) a2).set (17 * k + 10 + 3) a3).set (17 * k + 10 + 4) a4).set (17 * k + 10 + 5) a5

section
variable {B p g cap n k : Nat} {xs : List Int} {most : Int} {w : World} (h : Tab 65 53 B w p (.slice (some ⟨g, 0, none⟩) n cap) n xs most) (hk : k < n)
include h hk

theorem clo37 (c : Nat) (at_ : Int) (hc : w.cell? ⟨c, 0, none⟩ = some (.int .i64 at_)) :
    Calls Try.prog 37 #[.pointer (some ⟨g, 17 * k, none⟩), .pointer (some ⟨c, 0, none⟩)] w fun e w' => e = .returned (.tuple #[]) ∧
      (Tab 65 53 B w' p (.slice (some ⟨g, 0, none⟩) n cap) n (xs.set (17 * k + 2) at_) most ∧ Upd (· = g) w w') := by
  have k2 := h.cell hk 2 (by omega)
  have f := h.frozen
  have H := Lib.hid h
  clear h
  generalize xs.getD (17 * k + 2) 0 = v at k2
  go_enter Try.func37, Try.ntmps37
  go_wp2
  go_end0
  exact ⟨rfl, H.out.set _ _, by (repeat' (first | with_reducible exact Upd.refl _ _ | with_reducible apply Upd.setCell | with_reducible apply Upd.alloc | with_reducible apply Upd.drew | exact Or.inl rfl | (right; simp; omega)))⟩

theorem clo41 (c : Nat) (a0 a1 a2 a3 a4 a5 : Int) (hcg : c ≠ g) (hc0 : w.cell? ⟨c, 0, none⟩ = some (.int .i64 a0)) (hc1 : w.cell? ⟨c, 1, none⟩ = some (.int .i64 a1)) (hc2 : w.cell? ⟨c, 2, none⟩ = some (.int .i64 a2))
    (hc3 : w.cell? ⟨c, 3, none⟩ = some (.int .i64 a3)) (hc4 : w.cell? ⟨c, 4, none⟩ = some (.int .i64 a4)) (hc5 : w.cell? ⟨c, 5, none⟩ = some (.int .i64 a5)) :
    Calls Try.prog 41 #[.pointer (some ⟨g, 17 * k, none⟩), .pointer (some ⟨c, 0, none⟩)] w fun e w' => e = .returned (.tuple #[]) ∧
      (Tab 65 53 B w' p (.slice (some ⟨g, 0, none⟩) n cap) n (setW (xs.set (17 * k) 2) k a0 a1 a2 a3 a4 a5) most ∧ Upd (· = g) w w') := by
  have k0 := h.cell hk 0 (by omega)
  have k10 := h.cell hk 10 (by omega)
  have k11 := h.cell hk 11 (by omega)
  have k12 := h.cell hk 12 (by omega)
  have k13 := h.cell hk 13 (by omega)
  have k14 := h.cell hk 14 (by omega)
  have k15 := h.cell hk 15 (by omega)
  have f := h.frozen
  have H := Lib.hid h
  clear h
  rw [Nat.add_zero] at k0
  generalize xs.getD (17 * k) 0 = v0 at k0
  generalize xs.getD (17 * k + 10) 0 = v10 at k10
  generalize xs.getD (17 * k + 11) 0 = v11 at k11
  generalize xs.getD (17 * k + 12) 0 = v12 at k12
  generalize xs.getD (17 * k + 13) 0 = v13 at k13
  generalize xs.getD (17 * k + 14) 0 = v14 at k14
  generalize xs.getD (17 * k + 15) 0 = v15 at k15
  go_enter Try.func41, Try.ntmps41
  go_region
  all_goals go_end0
  all_goals exact ⟨rfl, (((((((H.out.set _ _).set _ _).set _ _).set _ _).set _ _).set _ _).set _ _).drew, by (repeat' (first | with_reducible exact Upd.refl _ _ | with_reducible apply Upd.setCell | with_reducible apply Upd.alloc | with_reducible apply Upd.drew | exact Or.inl rfl | (right; simp; omega)))⟩

theorem clo43 (c : Nat) (a0 a1 a2 a3 a4 a5 : Int) (_hcg : c ≠ g) (hc0 : w.cell? ⟨c, 0, none⟩ = some (.int .i64 a0)) (hc1 : w.cell? ⟨c, 1, none⟩ = some (.int .i64 a1)) (hc2 : w.cell? ⟨c, 2, none⟩ = some (.int .i64 a2))
    (hc3 : w.cell? ⟨c, 3, none⟩ = some (.int .i64 a3)) (hc4 : w.cell? ⟨c, 4, none⟩ = some (.int .i64 a4)) (hc5 : w.cell? ⟨c, 5, none⟩ = some (.int .i64 a5)) :
    Calls Try.prog 43 #[.pointer (some ⟨g, 17 * k, none⟩), .pointer (some ⟨c, 0, none⟩)] w fun e w' => e = .returned (.tuple #[]) ∧
      (Tab 65 53 B w' p (.slice (some ⟨g, 0, none⟩) n cap) n (setW xs k a0 a1 a2 a3 a4 a5) most ∧ Upd (· = g) w w') := by
  have k10 := h.cell hk 10 (by omega)
  have k11 := h.cell hk 11 (by omega)
  have k12 := h.cell hk 12 (by omega)
  have k13 := h.cell hk 13 (by omega)
  have k14 := h.cell hk 14 (by omega)
  have k15 := h.cell hk 15 (by omega)
  have f := h.frozen
  have H := Lib.hid h
  clear h
  generalize xs.getD (17 * k + 10) 0 = v10 at k10
  generalize xs.getD (17 * k + 11) 0 = v11 at k11
  generalize xs.getD (17 * k + 12) 0 = v12 at k12
  generalize xs.getD (17 * k + 13) 0 = v13 at k13
  generalize xs.getD (17 * k + 14) 0 = v14 at k14
  generalize xs.getD (17 * k + 15) 0 = v15 at k15
  go_enter Try.func43, Try.ntmps43
  go_wp2
  go_end0
  exact ⟨rfl, (((((H.out.set _ _).set _ _).set _ _).set _ _).set _ _).set _ _, by (repeat' (first | with_reducible exact Upd.refl _ _ | with_reducible apply Upd.setCell | with_reducible apply Upd.alloc | with_reducible apply Upd.drew | exact Or.inl rfl | (right; simp; omega)))⟩

theorem clo45 (c : Nat) (er : Int) (hcg : c ≠ g) (hc0 : w.cell? ⟨c, 0, none⟩ = some (.int .i64 er)) :
    Calls Try.prog 45 #[.pointer (some ⟨g, 17 * k, none⟩), .pointer (some ⟨c, 0, none⟩)] w fun e w' => e = .returned (.tuple #[]) ∧
      (Tab 65 53 B w' p (.slice (some ⟨g, 0, none⟩) n cap) n ((setW (xs.set (17 * k) 3) k 0 0 0 0 0 0).set (17 * k + 16) er) most ∧ Upd (· = g) w w') := by
  have k0 := h.cell hk 0 (by omega)
  have k10 := h.cell hk 10 (by omega)
  have k11 := h.cell hk 11 (by omega)
  have k12 := h.cell hk 12 (by omega)
  have k13 := h.cell hk 13 (by omega)
  have k14 := h.cell hk 14 (by omega)
  have k15 := h.cell hk 15 (by omega)
  have k16 := h.cell hk 16 (by omega)
  have f := h.frozen
  have H := Lib.hid h
  clear h
  rw [Nat.add_zero] at k0
  generalize xs.getD (17 * k) 0 = v0 at k0
  generalize xs.getD (17 * k + 10) 0 = v10 at k10
  generalize xs.getD (17 * k + 11) 0 = v11 at k11
  generalize xs.getD (17 * k + 12) 0 = v12 at k12
  generalize xs.getD (17 * k + 13) 0 = v13 at k13
  generalize xs.getD (17 * k + 14) 0 = v14 at k14
  generalize xs.getD (17 * k + 15) 0 = v15 at k15
  generalize xs.getD (17 * k + 16) 0 = v16 at k16
  go_enter Try.func45, Try.ntmps45
  go_region
  all_goals go_end0
  all_goals exact ⟨rfl, ((((((((H.out.set _ _).set _ _).set _ _).set _ _).set _ _).set _ _).set _ _).set _ _).drew, by (repeat' (first | with_reducible exact Upd.refl _ _ | with_reducible apply Upd.setCell | with_reducible apply Upd.alloc | with_reducible apply Upd.drew | exact Or.inl rfl | (right; simp; omega)))⟩

theorem put_in (r x : Int) (h0 : 0 ≤ r) (h6 : r < 6) :
    Calls Try.prog 40 #[.pointer (some ⟨g, 17 * k, none⟩), .int .i64 r, .int .i64 x] w fun e w' => e = .returned (.bool true) ∧
      (Tab 65 53 B w' p (.slice (some ⟨g, 0, none⟩) n cap) n (xs.set (17 * k + 4 + r.toNat) x) most ∧ Upd (· = g) w w') := by
  obtain ⟨q, rfl⟩ := Int.eq_ofNat_of_zero_le h0
  rw [Int.toNat_natCast]
  have k0 := h.cell hk (4 + q) (by omega)
  rw [← Nat.add_assoc] at k0
  have f := h.frozen
  have H := Lib.hid h
  clear h
  generalize xs.getD (17 * k + 4 + q) 0 = v0 at k0
  go_enter Try.func40, Try.ntmps40
  go_wp2
  go_ret
  exact ⟨rfl, H.out.set _ _, by (repeat' (first | with_reducible exact Upd.refl _ _ | with_reducible apply Upd.setCell | with_reducible apply Upd.alloc | with_reducible apply Upd.drew | exact Or.inl rfl | (right; simp; omega)))⟩
omit h hk in
theorem put_out (g o : Nat) (r x : Int) (w : World) (h : r < 0 ∨ 6 ≤ r) :
    Calls Try.prog 40 #[.pointer (some ⟨g, o, none⟩), .int .i64 r, .int .i64 x] w fun e w' => e = .returned (.bool false) ∧ w = w' := by
  rcases h with h | h
  · have : ¬ 0 ≤ r := by omega
    clear h
    go_enter Try.func40, Try.ntmps40
    go_wp2
    go_ret
    exact ⟨rfl, rfl⟩
  · have h0 : 0 ≤ r := by omega
    have : ¬ r < 6 := by omega
    clear h
    go_enter Try.func40, Try.ntmps40
    go_wp2
    go_ret
    exact ⟨rfl, rfl⟩
end
end Go.Proofs.Ytdbdpmpnblmfkaa

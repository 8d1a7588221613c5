import Derived.Test.YtdbdpmpnblmfkaaT3
import Derived.StillTailTactics
namespace Go.Proofs.Ytdbdpmpnblmfkaa
open Go.RowKit Go.Proofs.Cmd

theorem Upd.setAt {S : Nat → Prop} {a w : World} (h : Upd S a w) {g : Nat} (hg : S g ∨ a.heap.size ≤ g) (o : Nat) (u : Value) : Upd S a (w.setCell ⟨g, o, none⟩ u) := h.setCell hg u
theorem Tab.upd {ty e : TypeId} {B : Nat} {w w' : World} {p : Nat} {sv : Value} {n : Nat} {xs : List Int} {most : Int} {S : Nat → Prop} (h : Tab ty e B w p sv n xs most) (hu : Upd S w w')
    (hp : ¬ S p) (hs : ∀ k, sv.ownBlock = .some k → ¬ S k) : Tab ty e B w' p sv n xs most :=
  ⟨hu.heap h.head hp, h.base, owns_upd h.rows hu hs, h.small, h.two⟩

section
variable {B p g cap n k : Nat} {xs : List Int} {most : Int} {w : World} (h : Tab 65 53 B w p (.slice (some ⟨g, 0, none⟩) n cap) n xs most) (hk : k < n)
include h hk

theorem clo39_in (c d s : Nat) (r x : Int) (b : Bool) (hr : w.cell? ⟨c, 0, none⟩ = some (.int .i64 r)) (hx : w.cell? ⟨d, 0, none⟩ = some (.int .i64 x)) (hs : w.heap[s]? = some (.cells #[.bool b] 4 (0, 0)))
    (hsg : s ≠ g) (hsp : s ≠ p) (h0 : 0 ≤ r) (h6 : r < 6) :
    Calls Try.prog 39 #[.pointer (some ⟨g, 17 * k, none⟩), .pointer (some ⟨c, 0, none⟩), .pointer (some ⟨d, 0, none⟩), .pointer (some ⟨s, 0, none⟩)] w fun e w' => e = .returned (.tuple #[]) ∧
      (Tab 65 53 B w' p (.slice (some ⟨g, 0, none⟩) n cap) n (xs.set (17 * k + 4 + r.toNat) x) most ∧ w'.heap[s]? = some (.cells #[.bool true] 4 (0, 0)) ∧ Upd (fun b => b = g ∨ b = s) w w') := by
  have PUT := Lib.hid (put_in h hk r x h0 h6)
  have HS := Lib.hid hs
  clear h hs
  go_enter Try.func39, Try.ntmps39
  go_wp2_with fail
  refine PUT.out.mono ?_; rintro e w1 ⟨rfl, ht, hu⟩
  have hs1 := hu.heap HS.out (fun e => hsg e)
  have c1 := cell_of hs1 0
  have f1 := frozen_of hs1 0
  simp only [List.getElem?_toArray, List.getElem?_cons_zero] at c1
  have HT := Lib.hid ht; have HU := Lib.hid hu; have HS1 := Lib.hid hs1
  clear ht hu hs1 hr hx
  go_wp2_with fail
  go_end0
  refine ⟨rfl, HT.out.upd (S := (· = s)) (by refine Upd.setAt (Upd.refl _ _) ?_ _ _; exact .inl rfl) (fun e => hsp e.symm) (fun k e => by simp [Value.ownBlock] at e; omega), ?_, ?_⟩
  · rw [heap_set_same HS1.out]; rfl
  · exact Upd.setAt (HU.out.mono (fun _ _ e => .inl e)) (.inl (.inr rfl)) _ _
theorem clo39_out (c d s : Nat) (r x : Int) (b : Bool) (hr : w.cell? ⟨c, 0, none⟩ = some (.int .i64 r)) (hx : w.cell? ⟨d, 0, none⟩ = some (.int .i64 x)) (hs : w.heap[s]? = some (.cells #[.bool b] 4 (0, 0)))
    (hsg : s ≠ g) (hsp : s ≠ p) (h6 : r < 0 ∨ 6 ≤ r) :
    Calls Try.prog 39 #[.pointer (some ⟨g, 17 * k, none⟩), .pointer (some ⟨c, 0, none⟩), .pointer (some ⟨d, 0, none⟩), .pointer (some ⟨s, 0, none⟩)] w fun e w' => e = .returned (.tuple #[]) ∧
      (Tab 65 53 B w' p (.slice (some ⟨g, 0, none⟩) n cap) n xs most ∧ w'.heap[s]? = some (.cells #[.bool false] 4 (0, 0)) ∧ Upd (fun b => b = g ∨ b = s) w w') := by
  have _ := hk
  have PUT := Lib.hid (put_out g (17 * k) r x w h6)
  have HS := Lib.hid hs
  have HT := Lib.hid h
  have c1 := cell_of hs 0
  have f1 := frozen_of hs 0
  simp only [List.getElem?_toArray, List.getElem?_cons_zero] at c1
  clear h hs
  go_enter Try.func39, Try.ntmps39
  go_wp2_with fail
  refine PUT.out.mono ?_; rintro e w1 ⟨rfl, rfl⟩
  go_wp2_with fail
  go_end0
  refine ⟨rfl, HT.out.upd (S := (· = s)) (by refine Upd.setAt (Upd.refl _ _) ?_ _ _; exact .inl rfl) (fun e => hsp e.symm) (fun k e => by simp [Value.ownBlock] at e; omega), ?_, ?_⟩
  · rw [heap_set_same HS.out]; rfl
  · exact Upd.setAt (Upd.refl _ _) (.inl (.inr rfl)) _ _

theorem clo44_out (c : Nat) (x : Int) (hx : w.cell? ⟨c, 0, none⟩ = some (.int .i64 x)) (h6 : xs.getD (17 * k + 13) 0 < 0 ∨ 6 ≤ xs.getD (17 * k + 13) 0) :
    Calls Try.prog 44 #[.pointer (some ⟨g, 17 * k, none⟩), .pointer (some ⟨c, 0, none⟩)] w fun e w' => e = .returned (.tuple #[]) ∧
      (Tab 65 53 B w' p (.slice (some ⟨g, 0, none⟩) n cap) n (setW (xs.set (17 * k) 1) k 0 0 0 0 0 0) most ∧ Upd (· = g) w w') := by
  have k0 := h.cell hk 0 (by omega)
  have k10 := h.cell hk 10 (by omega)
  have k11 := h.cell hk 11 (by omega)
  have k12 := h.cell hk 12 (by omega)
  have k13 := h.cell hk 13 (by omega)
  have k14 := h.cell hk 14 (by omega)
  have k15 := h.cell hk 15 (by omega)
  have f := h.frozen
  have H := Lib.hid h
  clear h
  rw [Nat.add_zero] at k0
  generalize xs.getD (17 * k) 0 = v0 at k0
  generalize xs.getD (17 * k + 10) 0 = v10 at k10
  generalize xs.getD (17 * k + 11) 0 = v11 at k11
  generalize xs.getD (17 * k + 12) 0 = v12 at k12
  generalize xs.getD (17 * k + 13) 0 = v13 at k13 h6
  generalize xs.getD (17 * k + 14) 0 = v14 at k14
  generalize xs.getD (17 * k + 15) 0 = v15 at k15
  have PUT := Lib.hid (fun w => put_out g (17 * k) v13 x w h6)
  clear h6
  go_enter Try.func44, Try.ntmps44
  go_wp2_with fail
  go_still_tail 7, (by kernel_rfl)
  go_wp2_with fail
  refine (PUT.out _).mono ?_; rintro e w1 ⟨rfl, rfl⟩
  go_wp2_with fail
  go_end0
  exact ⟨rfl, (((((((H.out.set _ _).set _ _).set _ _).set _ _).set _ _).set _ _).set _ _).drew, by (repeat' (first | with_reducible exact Upd.refl _ _ | with_reducible apply Upd.setCell | with_reducible apply Upd.alloc | with_reducible apply Upd.drew | exact Or.inl rfl | (right; simp; omega)))⟩

theorem clo44_in (c : Nat) (x : Int) (hx : w.cell? ⟨c, 0, none⟩ = some (.int .i64 x)) (h0 : 0 ≤ xs.getD (17 * k + 13) 0) (h6 : xs.getD (17 * k + 13) 0 < 6) :
    Calls Try.prog 44 #[.pointer (some ⟨g, 17 * k, none⟩), .pointer (some ⟨c, 0, none⟩)] w fun e w' => e = .returned (.tuple #[]) ∧
      (Tab 65 53 B w' p (.slice (some ⟨g, 0, none⟩) n cap) n (setW ((xs.set (17 * k + 4 + (xs.getD (17 * k + 13) 0).toNat) x).set (17 * k) 1) k 0 0 0 0 0 0) most ∧ Upd (· = g) w w') := by
  have k13 := h.cell hk 13 (by omega)
  have PUT := Lib.hid (fun w => fun (h : Tab 65 53 B w p (.slice (some ⟨g, 0, none⟩) n cap) n xs most) => put_in h hk (xs.getD (17 * k + 13) 0) x h0 h6)
  generalize xs.getD (17 * k + 13) 0 = v13 at k13 h0 h6 PUT ⊢
  have H := Lib.hid h
  clear h h0 h6
  go_enter Try.func44, Try.ntmps44
  go_wp2_with fail
  go_still_tail 7, (by kernel_rfl)
  go_wp2_with fail
  refine (PUT.out _ H.out.drew).mono ?_; rintro e w1 ⟨rfl, h, hu⟩
  have k0 := h.cell hk 0 (by omega)
  have k10 := h.cell hk 10 (by omega)
  have k11 := h.cell hk 11 (by omega)
  have k12 := h.cell hk 12 (by omega)
  have k13 := h.cell hk 13 (by omega)
  have k14 := h.cell hk 14 (by omega)
  have k15 := h.cell hk 15 (by omega)
  have f := h.frozen
  have H1 := Lib.hid h
  have U1 := Lib.hid hu
  clear h hu
  rw [Nat.add_zero] at k0
  generalize (xs.set (17 * k + 4 + v13.toNat) x).getD (17 * k) 0 = v0 at k0
  generalize (xs.set (17 * k + 4 + v13.toNat) x).getD (17 * k + 10) 0 = v10 at k10
  generalize (xs.set (17 * k + 4 + v13.toNat) x).getD (17 * k + 11) 0 = v11 at k11
  generalize (xs.set (17 * k + 4 + v13.toNat) x).getD (17 * k + 12) 0 = v12 at k12
  generalize (xs.set (17 * k + 4 + v13.toNat) x).getD (17 * k + 13) 0 = v13' at k13
  generalize (xs.set (17 * k + 4 + v13.toNat) x).getD (17 * k + 14) 0 = v14 at k14
  generalize (xs.set (17 * k + 4 + v13.toNat) x).getD (17 * k + 15) 0 = v15 at k15
  go_wp2_with fail
  go_end0
  exact ⟨rfl, (((((((H1.out.set _ _).set _ _).set _ _).set _ _).set _ _).set _ _).set _ _), by
    have U2 : Upd (· = g) w w1 := ⟨U1.out.os, U1.out.tape, U1.out.output, U1.out.size, U1.out.block⟩
    refine U2.trans ?_
    (repeat' (first | with_reducible exact Upd.refl _ _ | with_reducible apply Upd.setCell | with_reducible apply Upd.alloc | with_reducible apply Upd.drew | exact Or.inl rfl | (right; simp; omega)))⟩
end
end Go.Proofs.Ytdbdpmpnblmfkaa

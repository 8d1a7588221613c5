import Derived.Test.YtdbdpmpnblmfkaaT14b
namespace Go.Proofs.Ytdbdpmpnblmfkaa
open Go.RowKit Go.Proofs.Cmd

theorem val_other {n : Nat} {xs : List Int} (h : Val n xs) (j : Nat) (v : Int) (hj : j % 17 ≠ 0) : Val n (xs.set j v) := by
  intro k hk
  have e : (xs.set j v).getD (17 * k) 0 = xs.getD (17 * k) 0 := by
    simp [List.getD, show j ≠ 17 * k by intro e; subst e; simp at hj]
  rw [e]; exact h k hk
theorem val_head {n : Nat} {xs : List Int} (h : Val n xs) (i : Nat) (v : Int) (hv : v = 1 ∨ v = 2 ∨ v = 3) : Val n (xs.set (17 * i) v) := by
  intro k hk
  by_cases e : 17 * i = 17 * k
  · rw [e]
    by_cases hl : 17 * k < xs.length
    · simp [List.getD, hl]; exact hv
    · rw [List.set_eq_of_length_le (by omega)]; exact h k hk
  · have e' : (xs.set (17 * i) v).getD (17 * k) 0 = xs.getD (17 * k) 0 := by simp [List.getD, e]
    rw [e']; exact h k hk
theorem val_setW {n : Nat} {xs : List Int} (h : Val n xs) (k : Nat) (a0 a1 a2 a3 a4 a5 : Int) : Val n (setW xs k a0 a1 a2 a3 a4 a5) := by
  unfold setW
  repeat (first | exact h | (refine val_other ?_ _ _ (by omega)))
theorem val_append {n : Nat} {xs : List Int} (h : Val n xs) (hl : xs.length = 17 * n) (a b : Int) : Val (n + 1) (xs ++ fresh a b) := by
  intro k hk
  by_cases e : k < n
  · have e' : (xs ++ fresh a b).getD (17 * k) 0 = xs.getD (17 * k) 0 := by
      simp [List.getD, List.getElem?_append_left, show 17 * k < xs.length by omega]
    rw [e']; exact h k e
  · have : k = n := by omega
    subst this
    left
    simp [List.getD, hl, fresh]
theorem act_val {n : Nat} {xs : List Int} {most : Int} (h : Val n xs) (hl : xs.length = 17 * n) (d t a b x p0 p1 p2 p3 p4 p5 : Int) :
    Val (act n xs most d t a b x p0 p1 p2 p3 p4 p5).n (act n xs most d t a b x p0 p1 p2 p3 p4 p5).xs := by
  unfold act
  split
  · split
    · exact h
    · exact val_append h hl _ _
  split
  · show Val n (goX n xs t a)
    unfold goX; split
    · exact val_other h _ _ (by omega)
    · exact h
  split
  · show Val n (setX n xs t a x)
    unfold setX; split
    · rename_i hr
      simp only [isReg, Bool.and_eq_true, decide_eq_true_eq] at hr
      exact val_other h _ _ (by omega)
    · exact h
  split
  · show Val n (parkX n xs t p0 p1 p2 p3 p4 p5)
    unfold parkX; split
    · exact val_setW (val_head h _ _ (by omega)) _ _ _ _ _ _ _
    · exact h
  split
  · show Val n (againX n xs t p0 p1 p2 p3 p4 p5)
    unfold againX; split
    · exact val_setW h _ _ _ _ _ _ _
    · exact h
  split
  · show Val n (wokeX n xs t x)
    unfold wokeX wakeX
    split
    · split
      · rename_i hr
        refine val_setW (val_head (val_other h _ _ ?_) _ _ (by omega)) _ _ _ _ _ _ _
        omega
      · exact val_setW (val_head h _ _ (by omega)) _ _ _ _ _ _ _
    · exact h
  split
  · show Val n (endX n xs t x)
    unfold endX; split
    · exact val_other (val_setW (val_head h _ _ (by omega)) _ _ _ _ _ _ _) _ _ (by omega)
    · exact h
  · exact h
theorem act_n {n : Nat} {xs : List Int} {most : Int} (h : (n : Int) ≤ most) (d t a b x p0 p1 p2 p3 p4 p5 : Int) :
    ((act n xs most d t a b x p0 p1 p2 p3 p4 p5).n : Int) ≤ most := by
  unfold act
  repeat' split
  all_goals first | exact h | (simp; omega)
theorem act_ge {n : Nat} {xs : List Int} {most : Int} (d t a b x p0 p1 p2 p3 p4 p5 : Int) : n ≤ (act n xs most d t a b x p0 p1 p2 p3 p4 p5).n := by
  unfold act
  repeat' split
  all_goals simp
end Go.Proofs.Ytdbdpmpnblmfkaa

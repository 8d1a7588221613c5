import Derived.Test.YtffehagmchcpkaaA12
import Derived.Test.YtffehagmchcpkaaA10
namespace Go.Proofs.Ytffehagmchcpkaa
open Go.RowKit Go.Proofs.Cmd
variable {Z q g N : Nat} {vs : List Value} {rows : List (List Nat)} {w w' : World}

theorem rinR_nonneg (x : Int) (h : inR rows x ≠ -1) : 0 ≤ inR rows x := by
  rcases inR_spec rows x with ⟨e, _⟩ | ⟨r, l, _, _, e⟩
  · exact absurd e h
  · omega
set_option maxRecDepth 100000 in
theorem r_put_not (h : RA Z w q g vs rows N) (r x : Int) (ahead : Bool) (hm : mayR N rows r x ≠ 0) :
    Calls Try.prog 67 #[.pointer (some ⟨q, 0, none⟩), .int .i64 r, .int .i64 x, .bool ahead] w fun e w' => e = .returned (.int .i64 (mayR N rows r x)) ∧ w = w' := by
  have RC := Lib.hid (r_row h r)
  have IC := Lib.hid (r_in h x)
  have c1 := h.c1
  cases h1 : isIn rows.length r
  · rw [h1] at RC
    have HF := Lib.hid (show mayR N rows r x = 3 by unfold mayR; rw [h1]; rfl)
    clear h h1 hm
    go_enter Try.func67, Try.ntmps67
    go_wp2_with fail
    refine RC.out.mono ?_; rintro e w' ⟨rfl, rfl⟩
    go_wp2_with fail
    go_ret
    exact ⟨by rw [HF.out]; rfl, rfl⟩
  · rw [h1] at RC
    by_cases h0 : x < 0
    · have HF := Lib.hid (show mayR N rows r x = 3 by unfold mayR; rw [h1, show isIn N x = false by simp [isIn]; omega]; rfl)
      clear h h1 hm
      go_enter Try.func67, Try.ntmps67
      go_wp2_with fail
      refine RC.out.mono ?_; rintro e w' ⟨rfl, rfl⟩
      go_wp2_with fail
      go_ret
      exact ⟨by rw [HF.out]; rfl, rfl⟩
    · have h0' : 0 ≤ x := by omega
      by_cases h2 : (N : Int) ≤ x
      · have HF := Lib.hid (show mayR N rows r x = 3 by unfold mayR; rw [h1, show isIn N x = false by simp [isIn]; omega]; rfl)
        clear h h1 hm h0
        go_enter Try.func67, Try.ntmps67
        go_wp2_with fail
        refine RC.out.mono ?_; rintro e w' ⟨rfl, rfl⟩
        go_wp2_with fail
        go_ret
        exact ⟨by rw [HF.out]; rfl, rfl⟩
      · have h2' : x < (N : Int) := by omega
        have hI : isIn N x = true := by simp [isIn]; omega
        have hf : inR rows x ≠ -1 := fun e => hm (by unfold mayR; rw [h1, hI, e]; rfl)
        have HF := Lib.hid (show mayR N rows r x = 6 by unfold mayR; rw [h1, hI]; simp [hf])
        have hpos := rinR_nonneg x hf
        clear h h1 hm h0 h2 hI hf
        generalize inR rows x = v at IC hpos
        go_enter Try.func67, Try.ntmps67
        go_wp2_with fail
        refine RC.out.mono ?_; rintro e w' ⟨rfl, rfl⟩
        go_wp2_with fail
        refine IC.out.mono ?_; rintro e w' ⟨rfl, rfl⟩
        go_wp2_with fail
        go_ret
        exact ⟨by rw [HF.out]; rfl, rfl⟩
theorem r_put (h : RA Z w q g vs rows N) (hZ : Z ≤ w.heap.size) (hl : ∀ (r : Nat) (l : List Nat), rows[r]? = some l → l.length ≤ 1000) (r x : Int) (ahead : Bool) :
    Calls Try.prog 67 #[.pointer (some ⟨q, 0, none⟩), .int .i64 r, .int .i64 x, .bool ahead] w (DoneR Z q g N w (putR N rows r x ahead)) := by
  by_cases hm : mayR N rows r x = 0
  · obtain ⟨k, m, rfl, rfl, hk, hm2, hf⟩ := may_ok hm
    have hr : rows[k]? = some rows[k] := by simp [hk]
    cases ahead
    · have e : putR N rows (k : Int) (m : Int) false = (0, rows.set k (rows[k] ++ [m])) := by unfold putR; rw [if_pos hm, rowAt_nat hr]; simp
      rw [e]; exact r_put_end h hZ k m hk hm2 hf hl
    · have e : putR N rows (k : Int) (m : Int) true = (0, rows.set k (m :: rows[k])) := by unfold putR; rw [if_pos hm, rowAt_nat hr]; simp
      rw [e]; exact r_put_ahead h hZ k m hk hm2 hf hl
  · have e : putR N rows r x ahead = (mayR N rows r x, rows) := by unfold putR; rw [if_neg hm]
    rw [e]
    refine (r_put_not h r x ahead hm).mono ?_
    rintro e w' ⟨rfl, rfl⟩
    exact ⟨vs, rfl, h, Upd.refl _ _⟩
set_option maxRecDepth 100000 in
theorem r_first (h : RA Z w q g vs rows N) (r : Int) : Calls Try.prog 72 #[.pointer (some ⟨q, 0, none⟩), .int .i64 r] w fun e w' => e = .returned (.int .i64 (firstR rows r)) ∧ w = w' := by
  have RC := Lib.hid (r_row h r)
  cases hI : isIn rows.length r
  · rw [hI] at RC
    have HF := Lib.hid (show firstR rows r = -1 by unfold firstR rowAt; rw [hI]; rfl)
    clear h hI
    go_enter Try.func72, Try.ntmps72
    go_wp2_with fail
    refine RC.out.mono ?_; rintro e w' ⟨rfl, rfl⟩
    go_wp2_with fail
    go_ret
    exact ⟨by rw [HF.out]; rfl, rfl⟩
  · rw [hI] at RC
    obtain ⟨k, rfl, hk⟩ := isIn_nat hI
    have hl : rows[k]? = some rows[k] := by simp [hk]
    obtain ⟨v, _, cg, hI2⟩ := h.at_ hl
    have c0 := h.c0
    rw [h.len] at c0
    have hra := rowAt_nat hl
    have hk1 : (k : Int) < (rows.length : Int) := by omega
    generalize rows[k] = l at cg hI2 hra
    cases l with
    | nil =>
      have HF := Lib.hid (show firstR rows (k : Int) = -1 by unfold firstR; rw [hra])
      obtain ⟨a, c, rfl, _⟩ := owns_shape hI2.1
      clear h hI hl hra hI2
      go_enter Try.func72, Try.ntmps72
      go_wp2_with fail
      refine RC.out.mono ?_; rintro e w' ⟨rfl, rfl⟩
      go_wp2_with fail
      go_ret
      exact ⟨by rw [HF.out]; rfl, rfl⟩
    | cons y l =>
      have HF := Lib.hid (show firstR rows (k : Int) = (y : Int) by unfold firstR; rw [hra])
      obtain ⟨ga, c, rfl, _, hlc, _⟩ := owns_some hI2.1 (by simp)
      have cy := owns_cell hI2.1 (j := 0) (by simp)
      have cy : w.cell? ⟨ga, 0, none⟩ = some (.int .i64 y) := cy
      have hz2 : ((l.length : Int) + 1 == 0) = false := by simp; omega
      have hz : ((((lz (y :: l)).length : Nat) : Int) == 0) = false := by simp; omega
      clear h hI hl hra hI2
      go_enter Try.func72, Try.ntmps72
      go_wp2_with fail
      refine RC.out.mono ?_; rintro e w' ⟨rfl, rfl⟩
      go_wp2_with fail
      go_ret
      exact ⟨by rw [HF.out]; rfl, rfl⟩
theorem r_list (h : RA Z w q g vs rows N) (r : Int) : Calls Try.prog 71 #[.pointer (some ⟨q, 0, none⟩), .int .i64 r] w fun e w' => ∃ v, e = .returned v ∧ Ints w' v (lz (rowAt rows r)) ∧ New w w' := by
  have RC := r_row h r
  cases hI : isIn rows.length r
  · rw [hI] at RC
    have RC := Lib.hid RC
    have HF := Lib.hid (show rowAt rows r = [] by unfold rowAt; rw [hI]; rfl)
    clear h hI
    go_enter Try.func71, Try.ntmps71
    go_wp2_with fail
    refine RC.out.mono ?_; rintro e w' ⟨rfl, rfl⟩
    go_wp2_with fail
    go_ret
    exact ⟨_, rfl, by rw [HF.out]; exact ⟨World.ownsRow_lit _ #[] 0 (Nat.zero_le _) (by simp) rfl, by simp⟩, new_alloc _ _⟩
  · rw [hI] at RC
    have RC := Lib.hid RC
    obtain ⟨k, rfl, hk⟩ := isIn_nat hI
    have hl : rows[k]? = some rows[k] := by simp [hk]
    obtain ⟨v, _, cg, hI2⟩ := h.at_ hl
    have c0 := h.c0
    rw [h.len] at c0
    have hk1 : (k : Int) < (rows.length : Int) := by omega
    rw [rowAt_nat hl]
    have II := Lib.hid hI2.ints
    obtain ⟨a, c, rfl, _⟩ := owns_shape hI2.1
    clear h hI hI2 hl
    go_enter Try.func71, Try.ntmps71
    go_wp2_with fail
    refine RC.out.mono ?_; rintro e w' ⟨rfl, rfl⟩
    go_wp2_with fail
    go_ret
    exact ⟨_, rfl, by have := II.out; simpa using this, Upd.refl _ _⟩
end Go.Proofs.Ytffehagmchcpkaa

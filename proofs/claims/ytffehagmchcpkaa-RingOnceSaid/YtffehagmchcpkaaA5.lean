import Derived.Test.YtffehagmchcpkaaA4
namespace Go.Proofs.Ytffehagmchcpkaa
open Go.RowKit Go.Proofs.Cmd
variable {N : Nat} {rows : List (List Nat)} {s : St} {w w' : World} {b : Bl}

theorem may_ok {r x : Int} (h : mayR N rows r x = 0) : ∃ k m : Nat, r = k ∧ x = m ∧ k < rows.length ∧ m < N ∧ inR rows x = -1 := by
  unfold mayR at h
  cases h1 : isIn rows.length r
  · rw [h1] at h; simp at h
  · cases h2 : isIn N x
    · rw [h1, h2] at h; simp at h
    · rw [h1, h2] at h
      obtain ⟨k, rfl, hk⟩ := isIn_nat h1
      obtain ⟨m, rfl, hm⟩ := isIn_nat h2
      by_cases hf : inR rows (m : Int) = -1
      · exact ⟨k, m, rfl, rfl, hk, hm, hf⟩
      · simp [hf] at h
theorem last_of (a : Nat) (l : List Nat) : ∃ p k, a :: l = p ++ [k] := by
  induction l generalizing a with
  | nil => exact ⟨[], a, rfl⟩
  | cons c l ih => obtain ⟨p, k, e⟩ := ih c; exact ⟨a :: p, k, by rw [e]; rfl⟩
theorem first_of (a : Nat) (l : List Nat) : ∃ k q, l ++ [a] = k :: q := by
  cases l with
  | nil => exact ⟨a, [], rfl⟩
  | cons c l => exact ⟨c, l ++ [a], rfl⟩
def Done (N : Nat) (b : Bl) (w : World) (r : Int × List (List Nat)) (e : Ending) (w' : World) : Prop := e = .returned (.int .i64 r.1) ∧ Rg N r.2 b w' ∧ Upd b.S w w'

set_option maxHeartbeats 400000 in
set_option maxRecDepth 100000 in
theorem put_c (h : Rg N rows b w) (r x : Int) : Calls Try.prog 59 #[.pointer (some ⟨b.p, 0, none⟩), .int .i64 r, .int .i64 x] w (Done N b w (putR N rows r x false)) := by
  obtain ⟨s, h1, h2⟩ := h
  have MC := Lib.hid (may_c h1 h2 r x)
  by_cases hm : mayR N rows r x = 0
  · rw [hm] at MC
    obtain ⟨k, m, rfl, rfl, hk, hm2, hf⟩ := may_ok hm
    have hl : rows[k]? = some rows[k] := by simp [hk]
    have HF := Lib.hid (show putR N rows (k : Int) (m : Int) false = (0, rows.set k (rows[k] ++ [m])) by unfold putR; rw [if_pos hm, rowAt_nat hl]; simp)
    obtain ⟨p, a, hp⟩ := last_of (N + k) rows[k]
    have hfree : s.inn.getD m 0 = -1 := by
      have := h2.in_ (m : Int)
      rw [hf] at this
      unfold inS at this; rw [h2.sz.inn, isIn_of hm2] at this; simpa using this
    obtain ⟨q1, q2, q3, q4⟩ := h2.lay (r := k) (m := m) (k := a) (a := N + k) (l1 := rows[k]) (l2 := []) (p := p) (q := []) (by simp) hm2 hfree hp rfl
    have hpv : s.pv.getD (N + k) 0 = (a : Int) := (h2.at_ (p := p) (q := []) (x := a) (y := N + k) hl (by rw [hp]; simp)).2
    have hlen := h2.len k _ hl
    have hsm := h2.small hl
    have hN := h2.sz.n
    have hR := h2.sz.r
    have h1' : Ar w.drew b s := h1.new ((Upd.refl _ _).drew)
    have LC := Lib.hid (lay_c h1' h2.sz k m a (N + k) hk hm2 q2 q1 (by omega) (by rw [hlen]; omega) (by rw [hlen]; omega))
    have HC := Lib.hid ((head_c h1' k (by rw [h2.sz.inn]; omega) (by omega)).mono (R' := fun e w'' => e = .returned (.int .i64 ((s.inn.length + k : Nat) : Int)) ∧ w'' = w.drew) fun e w' ⟨a, b⟩ => ⟨a, b.symm⟩)
    rw [h2.sz.inn] at HC
    have p1 := h1.p1
    have c0 := cells3_cell h1.pv (i := N + k) (by rw [h2.sz.pv]; omega)
    rw [hpv] at c0
    have i0 : (0 : Int) ≤ ((N + k : Nat) : Int) := by omega
    have i1 : ((N + k : Nat) : Int) < (s.pv.length : Int) := by rw [h2.sz.pv]; omega
    have R4 := Lib.hid q4
    obtain ⟨hd, ehd⟩ : ∃ hd, hd = N + k := ⟨_, rfl⟩
    rw [← ehd] at HC c0 i0 i1 q3
    clear ehd
    clear hm hf hp hfree q1 q4 hpv hlen h1 h1' h2 hl
    go_enter Try.func59, Try.ntmps59
    go_wp2_with fail
    refine MC.out.mono ?_; rintro e w' ⟨rfl, rfl⟩
    go_wp2_with fail
    go_still_tail 13, (by kernel_rfl)
    still_call HC.out
    repeat still_step
    refine wpStill_nil ?_
    go_wp2_with fail
    refine LC.out.mono ?_
    rintro e w2 ⟨rfl, hA, hU⟩
    have A2 := Lib.hid hA
    have U2 := Lib.hid hU
    clear hA hU
    go_wp2_with fail
    go_ret
    rw [HF.out]
    exact ⟨rfl, ⟨_, A2.out, by have := R4.out; simpa using this⟩, pre_new ((Upd.refl _ _).drew) U2.out⟩
  · have HF := Lib.hid (show putR N rows r x false = (mayR N rows r x, rows) by unfold putR; rw [if_neg hm])
    have hb : (mayR N rows r x != 0) = true := by simpa using hm
    have HG := Lib.hid (show Rg N rows b w from ⟨s, h1, h2⟩)
    clear hm h1 h2
    generalize mayR N rows r x = v at MC hb HF
    go_enter Try.func59, Try.ntmps59
    go_wp2_with fail
    refine MC.out.mono ?_; rintro e w' ⟨rfl, rfl⟩
    go_wp2_with fail
    go_ret
    rw [HF.out]
    exact ⟨rfl, HG.out, Upd.refl _ _⟩
set_option maxHeartbeats 400000 in
theorem push_c (h : Rg N rows b w) (r x : Int) : Calls Try.prog 61 #[.pointer (some ⟨b.p, 0, none⟩), .int .i64 r, .int .i64 x] w (Done N b w (putR N rows r x true)) := by
  obtain ⟨s, h1, h2⟩ := h
  have MC := Lib.hid (may_c h1 h2 r x)
  by_cases hm : mayR N rows r x = 0
  · rw [hm] at MC
    obtain ⟨k, m, rfl, rfl, hk, hm2, hf⟩ := may_ok hm
    have hl : rows[k]? = some rows[k] := by simp [hk]
    have HF := Lib.hid (show putR N rows (k : Int) (m : Int) true = (0, rows.set k (m :: rows[k])) by unfold putR; rw [if_pos hm, rowAt_nat hl]; simp)
    obtain ⟨a, q, hq⟩ := first_of (N + k) rows[k]
    have hfree : s.inn.getD m 0 = -1 := by
      have := h2.in_ (m : Int)
      rw [hf] at this
      unfold inS at this; rw [h2.sz.inn, isIn_of hm2] at this; simpa using this
    obtain ⟨q1, q2, q3, q4⟩ := h2.lay (r := k) (m := m) (k := N + k) (a := a) (l1 := []) (l2 := rows[k]) (p := []) (q := q) (by simp) hm2 hfree rfl hq
    have hlen := h2.len k _ hl
    have hsm := h2.small hl
    have hN := h2.sz.n
    have hR := h2.sz.r
    have LC := Lib.hid (lay_c h1 h2.sz k m (N + k) a hk hm2 q2 q1 q3 (by rw [hlen]; omega) (by rw [hlen]; omega))
    have HC := Lib.hid (head_c h1 k (by rw [h2.sz.inn]; omega) (by omega))
    rw [h2.sz.inn] at HC
    have R4 := Lib.hid q4
    obtain ⟨hd, ehd⟩ : ∃ hd, hd = N + k := ⟨_, rfl⟩
    rw [← ehd] at HC LC R4
    clear ehd hm hf hq hfree q1 q2 q3 q4 hlen h1 h2 hl
    go_enter Try.func61, Try.ntmps61
    go_wp2_with fail
    refine MC.out.mono ?_; rintro e w' ⟨rfl, rfl⟩
    go_wp2_with fail
    refine HC.out.mono ?_; rintro e w' ⟨rfl, rfl⟩
    go_wp2_with fail
    refine LC.out.mono ?_
    rintro e w2 ⟨rfl, hA, hU⟩
    have A2 := Lib.hid hA
    have U2 := Lib.hid hU
    clear hA hU
    go_wp2_with fail
    go_ret
    rw [HF.out]
    exact ⟨rfl, ⟨_, A2.out, R4.out⟩, U2.out⟩
  · have HF := Lib.hid (show putR N rows r x true = (mayR N rows r x, rows) by unfold putR; rw [if_neg hm])
    have hb : (mayR N rows r x != 0) = true := by simpa using hm
    have HG := Lib.hid (show Rg N rows b w from ⟨s, h1, h2⟩)
    clear hm h1 h2
    generalize mayR N rows r x = v at MC hb HF
    go_enter Try.func61, Try.ntmps61
    go_wp2_with fail
    refine MC.out.mono ?_; rintro e w' ⟨rfl, rfl⟩
    go_wp2_with fail
    go_ret
    rw [HF.out]
    exact ⟨rfl, HG.out, Upd.refl _ _⟩
end Go.Proofs.Ytffehagmchcpkaa

import Derived.Test.YtffehagmchcpkaaA15
import Derived.Test.YtffehagmchcpkaaSame
namespace Go.Proofs.Ytffehagmchcpkaa
open Go.RowKit Go.Proofs.Cmd
variable {Z q g N : Nat} {vs : List Value} {rows : List (List Nat)} {w w' : World} {b : Bl}

/-- What an act comes to: an error, a node, a truth, the rows. -/
structure Act3 where
  e : Int
  n : Int
  is : Bool
  rows : List (List Nat)
def actR (N : Nat) (rows : List (List Nat)) (d a c : Int) : Act3 :=
  if d = 0 then ⟨(putR N rows a c false).1, 0, false, (putR N rows a c false).2⟩
  else if d = 1 then ⟨(putR N rows a c true).1, 0, false, (putR N rows a c true).2⟩
  else if d = 2 then ⟨0, firstR rows a, (dropR rows (firstR rows a)).1, (dropR rows (firstR rows a)).2⟩
  else if d = 3 then ⟨0, 0, (dropR rows a).1, (dropR rows a).2⟩
  else if d = 4 then ⟨(moveR rows a c).1, 0, false, (moveR rows a c).2⟩
  else ⟨0, 0, false, rows⟩
def actV (r : Act3) : Value := .tuple #[.int .i64 r.e, .int .i64 r.n, .bool r.is]
def DoneA (N : Nat) (b : Bl) (w : World) (r : Act3) (e : Ending) (w' : World) : Prop := e = .returned (actV r) ∧ Rg N r.rows b w' ∧ Upd b.S w w'
def DoneRA (Z q g N : Nat) (w : World) (r : Act3) (e : Ending) (w' : World) : Prop := ∃ vs', e = .returned (actV r) ∧ RA Z w' q g vs' r.rows N ∧ Upd (fun k => k = g) w w'
set_option maxRecDepth 100000 in
set_option maxHeartbeats 1000000 in
theorem do_c (h : Rg N rows b w) (d a c : Int) : Calls Try.prog 15 #[.pointer (some ⟨b.p, 0, none⟩), .agg #[.int .i64 d, .int .i64 a, .int .i64 c]] w (DoneA N b w (actR N rows d a c)) := by
  have hX := new_alloc w (.cells #[.int .i64 d, .int .i64 a, .int .i64 c] 32)
  have HX := Lib.hid hX
  have H := h.new hX
  clear h
  by_cases h0 : d = 0
  · subst h0
    have HF := Lib.hid (show actR N rows 0 a c = ⟨(putR N rows a c false).1, 0, false, (putR N rows a c false).2⟩ from by simp [actR])
    have CC := Lib.hid (put_c H a c)
    clear H hX
    go_enter Try.func15, Try.ntmps15
    go_wp2_with fail
    refine CC.out.mono ?_; rintro e w1 ⟨rfl, hg, hu⟩
    have G := Lib.hid hg
    have U := Lib.hid (pre_new HX.out hu)
    clear hg hu
    go_wp2_with fail
    go_ret3
    rw [HF.out]
    exact ⟨rfl, G.out, U.out⟩
  by_cases h1 : d = 1
  · subst h1
    have HF := Lib.hid (show actR N rows 1 a c = ⟨(putR N rows a c true).1, 0, false, (putR N rows a c true).2⟩ from by simp [actR])
    have CC := Lib.hid (push_c H a c)
    clear H hX
    go_enter Try.func15, Try.ntmps15
    go_wp2_with fail
    refine CC.out.mono ?_; rintro e w1 ⟨rfl, hg, hu⟩
    have G := Lib.hid hg
    have U := Lib.hid (pre_new HX.out hu)
    clear hg hu
    go_wp2_with fail
    go_ret3
    rw [HF.out]
    exact ⟨rfl, G.out, U.out⟩
  by_cases h2 : d = 2
  · subst h2
    have HF := Lib.hid (show actR N rows 2 a c = ⟨0, firstR rows a, (dropR rows (firstR rows a)).1, (dropR rows (firstR rows a)).2⟩ from by simp [actR])
    have CC := Lib.hid (take_c H a)
    clear H hX
    go_enter Try.func15, Try.ntmps15
    go_wp2_with fail
    refine CC.out.mono ?_; rintro e w1 ⟨rfl, hg, hu⟩
    have G := Lib.hid hg
    have U := Lib.hid (pre_new HX.out hu)
    clear hg hu
    go_wp2_with fail
    go_ret3
    rw [HF.out]
    exact ⟨rfl, G.out, U.out⟩
  by_cases h3 : d = 3
  · subst h3
    have HF := Lib.hid (show actR N rows 3 a c = ⟨0, 0, (dropR rows a).1, (dropR rows a).2⟩ from by simp [actR])
    have CC := Lib.hid (drop_c H a)
    clear H hX
    go_enter Try.func15, Try.ntmps15
    go_wp2_with fail
    refine CC.out.mono ?_; rintro e w1 ⟨rfl, hg, hu⟩
    have G := Lib.hid hg
    have U := Lib.hid (pre_new HX.out hu)
    clear hg hu
    go_wp2_with fail
    go_ret3
    rw [HF.out]
    exact ⟨rfl, G.out, U.out⟩
  by_cases h4 : d = 4
  · subst h4
    have HF := Lib.hid (show actR N rows 4 a c = ⟨(moveR rows a c).1, 0, false, (moveR rows a c).2⟩ from by simp [actR])
    have CC := Lib.hid (move_c H a c)
    clear H hX
    go_enter Try.func15, Try.ntmps15
    go_wp2_with fail
    refine CC.out.mono ?_; rintro e w1 ⟨rfl, hg, hu⟩
    have G := Lib.hid hg
    have U := Lib.hid (pre_new HX.out hu)
    clear hg hu
    go_wp2_with fail
    go_ret3
    rw [HF.out]
    exact ⟨rfl, G.out, U.out⟩
  have HF := Lib.hid (show actR N rows d a c = ⟨0, 0, false, rows⟩ from by simp [actR, h0, h1, h2, h3, h4])
  have b0 : (d == 0) = false := by simpa using h0
  have b1 : (d == 1) = false := by simpa using h1
  have b2 : (d == 2) = false := by simpa using h2
  have b3 : (d == 3) = false := by simpa using h3
  have b4 : (d == 4) = false := by simpa using h4
  have HH := Lib.hid H
  clear h0 h1 h2 h3 h4 H hX
  go_enter Try.func15, Try.ntmps15
  go_wp2_with fail
  go_ret3
  rw [HF.out]
  exact ⟨rfl, HH.out, New.upd HX.out _⟩
set_option maxRecDepth 100000 in
set_option maxHeartbeats 1000000 in
theorem own_c (h : RA Z w q g vs rows N) (hZ : Z ≤ w.heap.size) (hsm : ∀ (r : Nat) (l : List Nat), rows[r]? = some l → l.length ≤ 1000) (d a c : Int) : Calls Try.prog 16 #[.pointer (some ⟨q, 0, none⟩), .agg #[.int .i64 d, .int .i64 a, .int .i64 c]] w (DoneRA Z q g N w (actR N rows d a c)) := by
  have hX := new_alloc w (.cells #[.int .i64 d, .int .i64 a, .int .i64 c] 32)
  have HX := Lib.hid hX
  have H := h.new hX
  clear h
  by_cases h0 : d = 0
  · subst h0
    have HF := Lib.hid (show actR N rows 0 a c = ⟨(putR N rows a c false).1, 0, false, (putR N rows a c false).2⟩ from by simp [actR])
    have CC := Lib.hid (r_put H (Nat.le_trans hZ (by simp)) hsm a c false)
    clear H hX hsm
    go_enter Try.func16, Try.ntmps16
    go_wp2_with fail
    refine CC.out.mono ?_; rintro e w1 ⟨vs', rfl, hg, hu⟩
    have G := Lib.hid hg
    have U := Lib.hid (pre_new HX.out hu)
    clear hg hu
    go_wp2_with fail
    go_ret3
    rw [HF.out]
    exact ⟨vs', rfl, G.out, U.out⟩
  by_cases h1 : d = 1
  · subst h1
    have HF := Lib.hid (show actR N rows 1 a c = ⟨(putR N rows a c true).1, 0, false, (putR N rows a c true).2⟩ from by simp [actR])
    have CC := Lib.hid (r_put H (Nat.le_trans hZ (by simp)) hsm a c true)
    clear H hX hsm
    go_enter Try.func16, Try.ntmps16
    go_wp2_with fail
    refine CC.out.mono ?_; rintro e w1 ⟨vs', rfl, hg, hu⟩
    have G := Lib.hid hg
    have U := Lib.hid (pre_new HX.out hu)
    clear hg hu
    go_wp2_with fail
    go_ret3
    rw [HF.out]
    exact ⟨vs', rfl, G.out, U.out⟩
  by_cases h2 : d = 2
  · subst h2
    have HF := Lib.hid (show actR N rows 2 a c = ⟨0, firstR rows a, (dropR rows (firstR rows a)).1, (dropR rows (firstR rows a)).2⟩ from by simp [actR])
    have CC := Lib.hid (r_take H (Nat.le_trans hZ (by simp)) hsm a)
    clear H hX hsm
    go_enter Try.func16, Try.ntmps16
    go_wp2_with fail
    refine CC.out.mono ?_; rintro e w1 ⟨vs', rfl, hg, hu⟩
    have G := Lib.hid hg
    have U := Lib.hid (pre_new HX.out hu)
    clear hg hu
    go_wp2_with fail
    go_ret3
    rw [HF.out]
    exact ⟨vs', rfl, G.out, U.out⟩
  by_cases h3 : d = 3
  · subst h3
    have HF := Lib.hid (show actR N rows 3 a c = ⟨0, 0, (dropR rows a).1, (dropR rows a).2⟩ from by simp [actR])
    have CC := Lib.hid (r_drop H (Nat.le_trans hZ (by simp)) hsm a)
    clear H hX hsm
    go_enter Try.func16, Try.ntmps16
    go_wp2_with fail
    refine CC.out.mono ?_; rintro e w1 ⟨vs', rfl, hg, hu⟩
    have G := Lib.hid hg
    have U := Lib.hid (pre_new HX.out hu)
    clear hg hu
    go_wp2_with fail
    go_ret3
    rw [HF.out]
    exact ⟨vs', rfl, G.out, U.out⟩
  by_cases h4 : d = 4
  · subst h4
    have HF := Lib.hid (show actR N rows 4 a c = ⟨(moveR rows a c).1, 0, false, (moveR rows a c).2⟩ from by simp [actR])
    have CC := Lib.hid (r_move H (Nat.le_trans hZ (by simp)) hsm a c)
    clear H hX hsm
    go_enter Try.func16, Try.ntmps16
    go_wp2_with fail
    refine CC.out.mono ?_; rintro e w1 ⟨vs', rfl, hg, hu⟩
    have G := Lib.hid hg
    have U := Lib.hid (pre_new HX.out hu)
    clear hg hu
    go_wp2_with fail
    go_ret3
    rw [HF.out]
    exact ⟨vs', rfl, G.out, U.out⟩
  have HF := Lib.hid (show actR N rows d a c = ⟨0, 0, false, rows⟩ from by simp [actR, h0, h1, h2, h3, h4])
  have b0 : (d == 0) = false := by simpa using h0
  have b1 : (d == 1) = false := by simpa using h1
  have b2 : (d == 2) = false := by simpa using h2
  have b3 : (d == 3) = false := by simpa using h3
  have b4 : (d == 4) = false := by simpa using h4
  have HH := Lib.hid H
  clear h0 h1 h2 h3 h4 H hX hsm
  go_enter Try.func16, Try.ntmps16
  go_wp2_with fail
  go_ret3
  rw [HF.out]
  exact ⟨vs, rfl, HH.out, New.upd HX.out _⟩
end Go.Proofs.Ytffehagmchcpkaa

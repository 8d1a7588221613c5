import Derived.Test.YtffehagmchcpkaaA16
namespace Go.Proofs.Ytffehagmchcpkaa
open Go.RowKit Go.Proofs.Cmd

/-- The blocks of the two arenas stand apart. -/
structure Ok (w0 : World) (b : Bl) (q g Z : Nat) : Prop where
  t : ∀ k, b.T k → w0.heap.size ≤ k ∧ k < Z ∧ k ≠ q ∧ k ≠ g
  q : w0.heap.size ≤ q
  g : w0.heap.size ≤ g
/-- Both arenas, of the same rows. -/
def Two (w0 : World) (b : Bl) (q g Z N : Nat) (rows : List (List Nat)) (wx : World) : Prop := New w0 wx ∧ Z ≤ wx.heap.size ∧ Rg N rows b wx ∧ ∃ vs, RA Z wx q g vs rows N
variable {w0 a a' : World} {b : Bl} {q g Z N : Nat} {rows : List (List Nat)}
theorem Two.new (h : Two w0 b q g Z N rows a) (n : New a a') : Two w0 b q g Z N rows a' := by
  obtain ⟨h1, h2, h3, vs, h4⟩ := h
  exact ⟨h1.trans n, Nat.le_trans h2 n.size, h3.new n, vs, h4.new n⟩
theorem Rg.sm (h : Rg N rows b a) : ∀ (r : Nat) (l : List Nat), rows[r]? = some l → l.length ≤ 1000 := by
  obtain ⟨s, h1, h2⟩ := h
  intro r l hr
  have := h2.small hr; have := h2.sz.n; omega
theorem tw_list (h : Two w0 b q g Z N rows a) (i : Int) : Calls Try.prog 18 #[.pointer (some ⟨b.p, 0, none⟩), .int .i64 i] a fun e w' => ∃ v, e = .returned v ∧ Ints w' v (lz (rowAt rows i)) ∧ New a w' := list_c h.2.2.1 i
theorem tw_rlist (h : Two w0 b q g Z N rows a) (i : Int) : Calls Try.prog 71 #[.pointer (some ⟨q, 0, none⟩), .int .i64 i] a fun e w' => ∃ v, e = .returned v ∧ Ints w' v (lz (rowAt rows i)) ∧ New a w' := by
  obtain ⟨_, _, _, vs, h4⟩ := h; exact r_list h4 i
theorem tw_len (h : Two w0 b q g Z N rows a) (i : Int) : Calls Try.prog 19 #[.pointer (some ⟨b.p, 0, none⟩), .int .i64 i] a fun e w' => e = .returned (.int .i64 (rowAt rows i).length) ∧ a = w' := rg_len h.2.2.1 i
theorem tw_first (h : Two w0 b q g Z N rows a) (i : Int) : Calls Try.prog 64 #[.pointer (some ⟨b.p, 0, none⟩), .int .i64 i] a fun e w' => e = .returned (.int .i64 (firstR rows i)) ∧ New a w' := first_c h.2.2.1 i
theorem tw_rfirst (h : Two w0 b q g Z N rows a) (i : Int) : Calls Try.prog 72 #[.pointer (some ⟨q, 0, none⟩), .int .i64 i] a fun e w' => e = .returned (.int .i64 (firstR rows i)) ∧ a = w' := by
  obtain ⟨_, _, _, vs, h4⟩ := h; exact r_first h4 i
theorem tw_in (h : Two w0 b q g Z N rows a) (i : Int) : Calls Try.prog 20 #[.pointer (some ⟨b.p, 0, none⟩), .int .i64 i] a fun e w' => e = .returned (.int .i64 (inR rows i)) ∧ a = w' := rg_in h.2.2.1 i
theorem tw_rin (h : Two w0 b q g Z N rows a) (i : Int) : Calls Try.prog 73 #[.pointer (some ⟨q, 0, none⟩), .int .i64 i] a fun e w' => e = .returned (.int .i64 (inR rows i)) ∧ a = w' := by
  obtain ⟨_, _, _, vs, h4⟩ := h; exact r_in h4 i
theorem Two.cells (h : Two w0 b q g Z N rows a) : a.cell? ⟨q, 0, none⟩ = some (.slice (some ⟨g, 0, none⟩) rows.length rows.length) ∧ a.cell? ⟨q, 1, none⟩ = some (.int .i64 N) := by
  obtain ⟨_, _, _, vs, h4⟩ := h
  have c0 := h4.c0; rw [h4.len] at c0; exact ⟨c0, h4.c1⟩
theorem Two.bounds (h : Two w0 b q g Z N rows a) : rows.length ≤ 1000 ∧ N ≤ 1000 := by
  obtain ⟨_, _, ⟨s, _, h2⟩, _⟩ := h; exact ⟨h2.sz.r, h2.sz.n⟩

set_option maxRecDepth 100000 in
set_option maxHeartbeats 4000000 in
theorem alike_c (h : Two w0 b q g Z N rows a) : Calls Try.prog 17 #[.pointer (some ⟨b.p, 0, none⟩), .pointer (some ⟨q, 0, none⟩)] a fun e w' => e = .returned (.bool true) ∧ New a w' := by
  have S0 := Lib.hid h
  obtain ⟨hR, hNb⟩ := h.bounds
  clear h
  go_enter Try.func17, Try.ntmps17
  go_wp2_with fail
  go_loopw [5] (fun i wx => ∃ j : Int, -1 ≤ j ∧ j ≤ rows.length + 1 ∧ i = .int .i64 j ∧ New a wx) (fun i _ => (rows.length + 1 - intOf i).toNat)
  case atStart => exact ⟨-1, by omega, by omega, rfl, Upd.refl _ _⟩
  case round =>
    obtain ⟨j, hj1, hj2, rfl, hM⟩ := hrel
    have M := Lib.hid hM
    have S := Lib.hid (S0.out.new hM)
    obtain ⟨q0, q1⟩ := S.out.cells
    clear hM
    by_cases hle : j ≤ rows.length
    · have n1 : (((rowAt rows j).length : Int) != ((rowAt rows j).length : Int)) = false := by simp
      have n2 : (firstR rows j != firstR rows j) = false := by simp
      go_wp2_with fail
      refine (tw_list S.out j).mono ?_; rintro e wa ⟨va, rfl, hia, hna⟩
      have S1 := Lib.hid (S.out.new hna); have M1 := Lib.hid (M.out.trans hna); have IA := Lib.hid hia
      clear S M hia hna q0 q1
      go_wp2_with fail
      refine (tw_rlist S1.out j).mono ?_; rintro e wb ⟨vb, rfl, hib, hnb⟩
      have S2 := Lib.hid (S1.out.new hnb); have M2 := Lib.hid (M1.out.trans hnb); have IA1 := Lib.hid (IA.out.new hnb); have IB := Lib.hid hib
      clear S1 M1 IA hib hnb
      go_wp2_with fail
      refine (same_c va vb _ _ _ IA1.out IB.out).mono ?_; intro e wc hq
      rw [show decide (lz (rowAt rows j) = lz (rowAt rows j)) = true from decide_eq_true rfl] at hq
      obtain ⟨rfl, hnc⟩ := hq
      have S3 := Lib.hid (S2.out.new hnc); have M3 := Lib.hid (M2.out.trans hnc)
      clear S2 M2 IA1 IB hnc
      go_wp2_with fail
      refine (tw_len S3.out j).mono ?_; rintro e wd ⟨rfl, rfl⟩
      go_wp2_with fail
      refine (tw_rlist S3.out j).mono ?_; rintro e we ⟨vc, rfl, hic, hne⟩
      have S4 := Lib.hid (S3.out.new hne); have M4 := Lib.hid (M3.out.trans hne)
      obtain ⟨ca, cc, hvc, _⟩ := owns_shape hic.1
      rw [show (lz (rowAt rows j)).length = (rowAt rows j).length by simp] at hvc
      subst hvc
      clear S3 M3 hic hne
      go_wp2_with fail
      refine (tw_first S4.out j).mono ?_; rintro e wf ⟨rfl, hnf⟩
      have S5 := Lib.hid (S4.out.new hnf); have M5 := Lib.hid (M4.out.trans hnf)
      clear S4 M4 hnf
      go_wp2_with fail
      refine (tw_rfirst S5.out j).mono ?_; rintro e wg ⟨rfl, rfl⟩
      go_wp2_with fail
      go_roundw
      case rel => exact ⟨j + 1, by omega, by omega, by go_num, M5.out⟩
      case measure => simp [intOf]; omega
    · go_wp2_with fail
      go_loopw [6] (fun i wy => ∃ j : Int, -1 ≤ j ∧ j ≤ N + 1 ∧ i = .int .i64 j ∧ New a wy) (fun i _ => (N + 1 - intOf i).toNat)
      case atStart => exact ⟨-1, by omega, by omega, rfl, M.out⟩
      case round =>
        obtain ⟨i, hi1, hi2, rfl, hM2⟩ := hrel
        have M2 := Lib.hid hM2
        have S2 := Lib.hid (S0.out.new hM2)
        obtain ⟨q0, q1⟩ := S2.out.cells
        clear hM2
        by_cases hle2 : i ≤ N
        · have n1 : (inR rows i != inR rows i) = false := by simp
          go_wp2_with fail
          refine (tw_in S2.out i).mono ?_; rintro e wd ⟨rfl, rfl⟩
          go_wp2_with fail
          refine (tw_rin S2.out i).mono ?_; rintro e wd ⟨rfl, rfl⟩
          go_wp2_with fail
          go_roundw
          case rel => exact ⟨i + 1, by omega, by omega, by go_num, M2.out⟩
          case measure => simp [intOf]; omega
        · have RC := Lib.hid (fun n => rg_rows (S2.out.2.2.1.new (new_drewN wr n)))
          have NC := Lib.hid (fun n => rg_nodes (S2.out.2.2.1.new (new_drewN wr n)))
          have n1 : ((rows.length : Int) == (rows.length : Int)) = true := by simp
          have n2 : ((N : Int) == (N : Int)) = true := by simp
          go_wp2_with fail
          go_quiet ((first | (go_at_call 65; exact quiet_left (RC.out _)) | (go_at_call 66; exact quiet_left (NC.out _))))
          go_wp2_with fail
          go_ret
          exact ⟨rfl, M2.out.trans (new_drewN _ _)⟩
end Go.Proofs.Ytffehagmchcpkaa

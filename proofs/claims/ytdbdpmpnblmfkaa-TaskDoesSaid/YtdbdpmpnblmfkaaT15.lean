import Derived.Test.YtdbdpmpnblmfkaaT14b
namespace Go.Proofs.Ytdbdpmpnblmfkaa
open Go.RowKit Go.Proofs.Cmd
def A0 : List Int := []
def A1 : List Int := [1, 3, 0, -1, 0, 0, 0, 0, 0, 0, 0, 0, 0, 0, 0, 0, 0]
def A2 : List Int := [1, 3, 0, -1, 0, 0, 0, 0, 0, 0, 0, 0, 0, 0, 0, 0, 0, 1, 4, 0, 1, 0, 0, 0, 0, 0, 0, 0, 0, 0, 0, 0, 0, 0]
def A3 : List Int := [1, 3, 9, -1, 0, 0, 0, 0, 0, 0, 0, 0, 0, 0, 0, 0, 0, 1, 4, 0, 1, 0, 0, 0, 0, 0, 0, 0, 0, 0, 0, 0, 0, 0]
def A4 : List Int := [1, 3, 9, -1, 0, 5, 0, 0, 0, 0, 0, 0, 0, 0, 0, 0, 0, 1, 4, 0, 1, 0, 0, 0, 0, 0, 0, 0, 0, 0, 0, 0, 0, 0]
def A5 : List Int := [2, 3, 9, -1, 0, 5, 0, 0, 0, 0, 2, 7, 3, 2, -1, 0, 0, 1, 4, 0, 1, 0, 0, 0, 0, 0, 0, 0, 0, 0, 0, 0, 0, 0]
def A6 : List Int := [2, 3, 9, -1, 0, 5, 0, 0, 0, 0, 4, 0, -1, 2, 0, 0, 0, 1, 4, 0, 1, 0, 0, 0, 0, 0, 0, 0, 0, 0, 0, 0, 0, 0]
def A7 : List Int := [1, 3, 9, -1, 0, 5, 8, 0, 0, 0, 0, 0, 0, 0, 0, 0, 0, 1, 4, 0, 1, 0, 0, 0, 0, 0, 0, 0, 0, 0, 0, 0, 0, 0]
def A8 : List Int := [1, 3, 9, -1, 0, 5, 8, 0, 0, 0, 0, 0, 0, 0, 0, 0, 0, 3, 4, 0, 1, 0, 0, 0, 0, 0, 0, 0, 0, 0, 0, 0, 0, 6]
def G0 : List Int := [1, 3, 9, -1, 0, 5, 8, 0, 0, 0, 0, 0, 0, 0, 0, 0, 0]
def G1 : List Int := [3, 4, 0, 1, 0, 0, 0, 0, 0, 0, 0, 0, 0, 0, 0, 0, 6]

theorem eqg0 (w : World) : (binOp .eql 53 (.agg (G0.map (Value.int .i64)).toArray) (.agg #[.int .i64 1, .int .i64 3, .int .i64 9, .int .i64 (-1), .int .i64 0, .int .i64 5, .int .i64 8, .int .i64 0, .int .i64 0, .int .i64 0, .int .i64 0, .int .i64 0, .int .i64 0, .int .i64 0, .int .i64 0, .int .i64 0, .int .i64 0])).run Try.prog w = .ok (.bool true) w :=
  (run_eql_struct64 Try.underlying53 flat53 (by omega) [1, 3, 9, -1, 0, 5, 8, 0, 0, 0, 0, 0, 0, 0, 0, 0, 0] [1, 3, 9, -1, 0, 5, 8, 0, 0, 0, 0, 0, 0, 0, 0, 0, 0] rfl rfl w).trans (by rw [decide_eq_true rfl])
theorem eqg1 (w : World) : (binOp .eql 53 (.agg (G1.map (Value.int .i64)).toArray) (.agg #[.int .i64 3, .int .i64 4, .int .i64 0, .int .i64 1, .int .i64 0, .int .i64 0, .int .i64 0, .int .i64 0, .int .i64 0, .int .i64 0, .int .i64 0, .int .i64 0, .int .i64 0, .int .i64 0, .int .i64 0, .int .i64 0, .int .i64 6])).run Try.prog w = .ok (.bool true) w :=
  (run_eql_struct64 Try.underlying53 flat53 (by omega) [3, 4, 0, 1, 0, 0, 0, 0, 0, 0, 0, 0, 0, 0, 0, 0, 6] [3, 4, 0, 1, 0, 0, 0, 0, 0, 0, 0, 0, 0, 0, 0, 0, 6] rfl rfl w).trans (by rw [decide_eq_true rfl])
set_option maxRecDepth 100000 in
set_option maxHeartbeats 4000000 in
theorem awake_c (w : World) : Calls Try.prog 4 #[] w fun e w' => e = .returned (.bool true) ∧ New w w' := by
  have E0 := eqg0
  have E1 := eqg1
  have H := Lib.hid (Tab.fresh 65 53 w 2)
  have N := Lib.hid (new_alloc w (.cells #[.slice none 0 0, .int .i64 2] 65))
  have hp : Hid True := trivial
  go_enter Try.func4, Try.ntmps4
  go_wp2_with fail
  refine (new_good 2 _ (by omega) (by omega)).mono ?_; rintro e w1 ⟨rfl, rfl⟩
  go_wp2_with fail
  refine (new_bad 0 _ (by omega)).mono ?_; rintro e w1 ⟨rfl, rfl⟩
  go_wp2_with fail
  refine (begin_more (xs := A0) H.out (by omega) (by omega) (3) (-1)).mono ?_; rintro e w1 ⟨sv', rfl, ht, hu⟩
  have N1 := Lib.hid (new_step N.out hu H.out.own_ge'); clear N; have N := N1; clear N1
  rw [show A0 ++ fresh (3) (-1) = A1 from by decide] at ht
  have H1 := Lib.hid ht; clear H ht hu; have H := H1; clear H1
  go_wp2_with fail
  refine (begin_more H.out (by omega) (by omega) (4) (1)).mono ?_; rintro e w1 ⟨sv', rfl, ht, hu⟩
  have N1 := Lib.hid (new_step N.out hu H.out.own_ge'); clear N; have N := N1; clear N1
  rw [show A1 ++ fresh (4) (1) = A2 from by decide] at ht
  have H1 := Lib.hid ht; clear H ht hu; have H := H1; clear H1
  go_wp2_with fail
  refine (begin_full H.out (by omega) 5 0).mono ?_; rintro e w1 ⟨rfl, hn⟩
  have N1 := Lib.hid (N.out.trans hn); clear N; have N := N1; clear N1
  have H1 := Lib.hid (H.out.new hn); clear H hn; have H := H1; clear H1
  go_wp2_with fail
  refine (go_c H.out 0 9).mono ?_; intro e w1 hq
  rw [show (mayDo rdy (1 + 1) A2 0) = true from by decide, show goX (1 + 1) A2 0 9 = A3 from by decide] at hq
  obtain ⟨rfl, ht, hu⟩ := hq
  have N1 := Lib.hid (new_step N.out hu H.out.own_ge); clear N; have N := N1; clear N1
  have H1 := Lib.hid ht; clear H ht hu; have H := H1; clear H1
  go_wp2_with fail
  refine (set_c H.out 0 1 5).mono ?_; intro e w1 hq
  rw [show (mayDo liv (1 + 1) A3 0 && isReg 1) = true from by decide, show setX (1 + 1) A3 0 1 5 = A4 from by decide] at hq
  obtain ⟨rfl, ht, hu⟩ := hq
  have N1 := Lib.hid (new_step N.out hu H.out.own_ge); clear N; have N := N1; clear N1
  have H1 := Lib.hid ht; clear H ht hu; have H := H1; clear H1
  go_wp2_with fail
  refine (set_c H.out 0 6 5).mono ?_; intro e w1 hq
  rw [show (mayDo liv (1 + 1) A4 0 && isReg 6) = false from by decide, show setX (1 + 1) A4 0 6 5 = A4 from by decide] at hq
  obtain ⟨rfl, ht, hu⟩ := hq
  have N1 := Lib.hid (new_step N.out hu H.out.own_ge); clear N; have N := N1; clear N1
  have H1 := Lib.hid ht; clear H ht hu; have H := H1; clear H1
  go_wp2_with fail
  refine (park_c H.out 0 2 7 3 2 (-1) 0).mono ?_; intro e w1 hq
  rw [show (decide ((1 : Int) ≤ 2) && mayDo rdy (1 + 1) A4 0) = true from by decide, show parkX (1 + 1) A4 0 2 7 3 2 (-1) 0 = A5 from by decide] at hq
  obtain ⟨rfl, ht, hu⟩ := hq
  have N1 := Lib.hid (new_step N.out hu H.out.own_ge); clear N; have N := N1; clear N1
  have H1 := Lib.hid ht; clear H ht hu; have H := H1; clear H1
  go_wp2_with fail
  refine (park_c H.out 0 1 0 0 0 0 0).mono ?_; intro e w1 hq
  rw [show (decide ((1 : Int) ≤ 1) && mayDo rdy (1 + 1) A5 0) = false from by decide, show parkX (1 + 1) A5 0 1 0 0 0 0 0 = A5 from by decide] at hq
  obtain ⟨rfl, ht, hu⟩ := hq
  have N1 := Lib.hid (new_step N.out hu H.out.own_ge); clear N; have N := N1; clear N1
  have H1 := Lib.hid ht; clear H ht hu; have H := H1; clear H1
  go_wp2_with fail
  refine (under_c H.out 3).mono ?_; rintro e w1 ⟨v14, rfl, hi, hn⟩
  rw [show sel (underF 3) A5 (1 + 1) = [0] from by decide] at hi
  have N1 := Lib.hid (N.out.trans hn); clear N; have N := N1; clear N1
  have H1 := Lib.hid (H.out.new hn); clear H hn; have H := H1; clear H1
  have I := Lib.hid hi; clear hi
  go_wp2_with fail
  refine (again_c H.out 0 4 0 (-1) 2 0 0).mono ?_; intro e w1 hq
  rw [show (decide ((1 : Int) ≤ 4) && mayDo prk (1 + 1) A5 0) = true from by decide, show againX (1 + 1) A5 0 4 0 (-1) 2 0 0 = A6 from by decide] at hq
  obtain ⟨rfl, ht, hu⟩ := hq
  have I1 := Lib.hid (Ints.keep I.out H.out (by decide) hu); clear I; have I := I1; clear I1
  have N1 := Lib.hid (new_step N.out hu H.out.own_ge); clear N; have N := N1; clear N1
  have H1 := Lib.hid ht; clear H ht hu; have H := H1; clear H1
  go_wp2_with fail
  refine (wake_c H.out 0 8).mono ?_; intro e w1 hq
  rw [show (mayDo prk (1 + 1) A6 0) = true from by decide, show wokeX (1 + 1) A6 0 8 = A7 from by decide] at hq
  obtain ⟨rfl, ht, hu⟩ := hq
  have I1 := Lib.hid (Ints.keep I.out H.out (by decide) hu); clear I; have I := I1; clear I1
  have N1 := Lib.hid (new_step N.out hu H.out.own_ge); clear N; have N := N1; clear N1
  have H1 := Lib.hid ht; clear H ht hu; have H := H1; clear H1
  go_wp2_with fail
  refine (end_c H.out 1 6).mono ?_; intro e w1 hq
  rw [show (mayDo liv (1 + 1) A7 1) = true from by decide, show endX (1 + 1) A7 1 6 = A8 from by decide] at hq
  obtain ⟨rfl, ht, hu⟩ := hq
  have I1 := Lib.hid (Ints.keep I.out H.out (by decide) hu); clear I; have I := I1; clear I1
  have N1 := Lib.hid (new_step N.out hu H.out.own_ge); clear N; have N := N1; clear N1
  have H1 := Lib.hid ht; clear H ht hu; have H := H1; clear H1
  go_wp2_with fail
  refine (end_c H.out 1 7).mono ?_; intro e w1 hq
  rw [show (mayDo liv (1 + 1) A8 1) = false from by decide, show endX (1 + 1) A8 1 7 = A8 from by decide] at hq
  obtain ⟨rfl, ht, hu⟩ := hq
  have I1 := Lib.hid (Ints.keep I.out H.out (by decide) hu); clear I; have I := I1; clear I1
  have N1 := Lib.hid (new_step N.out hu H.out.own_ge); clear N; have N := N1; clear N1
  have H1 := Lib.hid ht; clear H ht hu; have H := H1; clear H1
  go_wp2_with fail
  refine (get_in H.out 0 (by omega) (by omega)).mono ?_; intro e wa hq
  rw [show tk A8 ((0 : Int).toNat) = G0 from by decide] at hq
  obtain ⟨rfl, hn⟩ := hq
  have hn2 := hn.trans (new_alloc wa (.cells (G0.map (Value.int .i64)).toArray 53))
  have N1 := Lib.hid (N.out.trans hn2); clear N; have N := N1; clear N1
  have GG0 := Lib.hid (heap_at (w := wa) (k := wa.heap.size) (.cells (G0.map (Value.int .i64)).toArray 53) rfl)
  have H1 := Lib.hid (H.out.new hn2); have I1 := Lib.hid (I.out.new hn2); clear H I hn hn2; have H := H1; have I := I1; clear H1 I1
  go_wp2_with (refine wpList_stnew (ty := 53) (x := .tmp 19) (y := .tmp 73) _ _ _ G0 (by rfl) rfl (by rfl) (by rfl) (by rfl) (by rw [info53]; rfl) ?_)
  refine (get_in H.out 1 (by omega) (by omega)).mono ?_; intro e wb hq
  rw [show tk A8 ((1 : Int).toNat) = G1 from by decide] at hq
  obtain ⟨rfl, hn⟩ := hq
  have hn2 := hn.trans (new_alloc wb (.cells (G1.map (Value.int .i64)).toArray 53))
  have N1 := Lib.hid (N.out.trans hn2); clear N; have N := N1; clear N1
  have GG0' := Lib.hid (New.heap hn2 GG0.out); clear GG0; have GG0 := GG0'; clear GG0'
  have GG1 := Lib.hid (heap_at (w := wb) (k := wb.heap.size) (.cells (G1.map (Value.int .i64)).toArray 53) rfl)
  have H1 := Lib.hid (H.out.new hn2); have I1 := Lib.hid (I.out.new hn2); clear H I hn hn2; have H := H1; have I := I1; clear H1 I1
  go_wp2_with (refine wpList_stnew (ty := 53) (x := .tmp 21) (y := .tmp 78) _ _ _ G1 (by rfl) rfl (by rfl) (by rfl) (by rfl) (by rw [info53]; rfl) ?_)
  refine (get_out H.out 2 (by omega)).mono ?_; intro e wc hq
  obtain ⟨rfl, hn⟩ := hq
  have hn2 := hn.trans (new_alloc wc (.cells (zer.map (Value.int .i64)).toArray 53))
  have N1 := Lib.hid (N.out.trans hn2); clear N; have N := N1; clear N1
  have GG0' := Lib.hid (New.heap hn2 GG0.out); clear GG0; have GG0 := GG0'; clear GG0'
  have GG1' := Lib.hid (New.heap hn2 GG1.out); clear GG1; have GG1 := GG1'; clear GG1'
  have GG2 := Lib.hid (heap_at (w := wc) (k := wc.heap.size) (.cells (zer.map (Value.int .i64)).toArray 53) rfl)
  have H1 := Lib.hid (H.out.new hn2); have I1 := Lib.hid (I.out.new hn2); clear H I hn hn2; have H := H1; have I := I1; clear H1 I1
  go_wp2_with (refine wpList_stnew (ty := 53) (x := .tmp 23) (y := .tmp 83) _ _ _ zer (by rfl) rfl (by rfl) (by rfl) (by rfl) (by rw [info53]; rfl) ?_)
  refine (same_c v14 _ [0] [0] _ (I.out.new (new_alloc _ _)) (ints_lit' _ [0] (wc.heap.size + 1) (by simp) (by decide))).mono ?_; intro e wd hq
  rw [show decide (([0] : List Int) = [0]) = true from rfl] at hq
  obtain ⟨rfl, hn⟩ := hq
  have hn2 := (new_alloc _ _).trans hn
  have N1 := Lib.hid (N.out.trans hn2); clear N; have N := N1; clear N1
  have H1 := Lib.hid (H.out.new hn2)
  have GG0' := Lib.hid (New.heap hn2 GG0.out); have GG1' := Lib.hid (New.heap hn2 GG1.out); clear GG0 GG1 H I hn hn2; have H := H1; clear H1
  have R0 := Lib.hid (range_blk GG0'.out)
  have R1 := Lib.hid (range_blk GG1'.out)
  go_wp2_with (first | (refine wpList_ld (ty := 53) (x := .tmp 19) wa.heap.size _ _ _ (by rfl) (by rfl) R0.out Try.underlying53 rfl (by rw [info53]; rfl) ?_) | (refine wpList_ld (ty := 53) (x := .tmp 21) wb.heap.size _ _ _ (by rfl) (by rfl) R1.out Try.underlying53 rfl (by rw [info53]; rfl) ?_))
  refine (in_c H.out 3).mono ?_; rintro e we ⟨v165, rfl, hi, hn⟩
  rw [show sel (inF 3) A8 (1 + 1) = [1] from by decide] at hi
  have N1 := Lib.hid (N.out.trans hn); clear N; have N := N1; clear N1
  have H1 := Lib.hid (H.out.new hn); clear H hn; have H := H1; clear H1
  have I := Lib.hid hi; clear hi
  go_wp2_with fail
  refine (same_c v165 _ [1] [1] _ (I.out.new (new_alloc _ _)) (ints_lit' _ [1] we.heap.size (by simp) (by decide))).mono ?_; intro e wf hq
  rw [show decide (([1] : List Int) = [1]) = true from rfl] at hq
  obtain ⟨rfl, hn⟩ := hq
  have hn2 := (new_alloc _ _).trans hn
  have N1 := Lib.hid (N.out.trans hn2); clear N; have N := N1; clear N1
  have H1 := Lib.hid (H.out.new hn2); clear H hn hn2; have H := H1; clear H1
  go_wp2_with fail
  refine (len_c H.out).mono ?_; rintro e wg ⟨rfl, rfl⟩
  go_wp2_with fail
  go_ret
  exact ⟨rfl, N.out⟩
end Go.Proofs.Ytdbdpmpnblmfkaa

import Derived.Test.YtffehagmchcpkaaA17
namespace Go.Proofs.Ytffehagmchcpkaa
open Go.RowKit Go.Proofs.Cmd
set_option maxRecDepth 100000 in
set_option maxHeartbeats 8000000 in
theorem awake_c (w : World) : Calls Try.prog 12 #[] w fun e w' => e = .returned (.bool true) ∧ New w w' := by
  have NG := Lib.hid (fun w => new_good 2 5 w (by omega) (by omega) (by omega) (by omega))
  have NB := Lib.hid (fun w => new_bad 0 5 w (by omega))
  go_enter Try.func12, Try.ntmps12
  dsimp only [List.append]
  go_wp2_with fail
  refine (NG.out _).mono ?_; rintro e w1 ⟨b, rfl, hg, hn, hge⟩
  have H := Lib.hid (show Rg 5 [[], []] b w1 from hg)
  have N := Lib.hid hn
  have GE := Lib.hid hge
  clear hg hn hge
  go_wp2_with fail
  refine (NB.out _).mono ?_; rintro e w1 ⟨rfl, rfl⟩
  go_wp2_with fail
  refine (put_c H.out (0) (3)).mono ?_; intro e w1 hq
  rw [show putR 5 [[], []] 0 3 false = ((0, [[3], []]) : Int × List (List Nat)) from by rfl] at hq
  obtain ⟨rfl, ht, hu⟩ := hq
  have N1 := Lib.hid (new_step N.out hu (fun k hk => GE.out k (.inr hk))); clear N; have N := N1; clear N1
  have H1 := Lib.hid ht; clear H; have H := H1; clear ht hu H1
  go_wp2_with fail
  refine (put_c H.out (0) (1)).mono ?_; intro e w1 hq
  rw [show putR 5 [[3], []] 0 1 false = ((0, [[3, 1], []]) : Int × List (List Nat)) from by rfl] at hq
  obtain ⟨rfl, ht, hu⟩ := hq
  have N1 := Lib.hid (new_step N.out hu (fun k hk => GE.out k (.inr hk))); clear N; have N := N1; clear N1
  have H1 := Lib.hid ht; clear H; have H := H1; clear ht hu H1
  go_wp2_with fail
  refine (put_c H.out (0) (2)).mono ?_; intro e w1 hq
  rw [show putR 5 [[3, 1], []] 0 2 false = ((0, [[3, 1, 2], []]) : Int × List (List Nat)) from by rfl] at hq
  obtain ⟨rfl, ht, hu⟩ := hq
  have N1 := Lib.hid (new_step N.out hu (fun k hk => GE.out k (.inr hk))); clear N; have N := N1; clear N1
  have H1 := Lib.hid ht; clear H; have H := H1; clear ht hu H1
  go_wp2_with fail
  refine (put_c H.out (1) (2)).mono ?_; intro e w1 hq
  rw [show putR 5 [[3, 1, 2], []] 1 2 false = ((6, [[3, 1, 2], []]) : Int × List (List Nat)) from by rfl] at hq
  obtain ⟨rfl, ht, hu⟩ := hq
  have N1 := Lib.hid (new_step N.out hu (fun k hk => GE.out k (.inr hk))); clear N; have N := N1; clear N1
  have H1 := Lib.hid ht; clear H; have H := H1; clear ht hu H1
  go_wp2_with fail
  refine (drop_c H.out (1)).mono ?_; intro e w1 hq
  rw [show dropR [[3, 1, 2], []] 1 = ((true, [[3, 2], []]) : Bool × List (List Nat)) from by rfl] at hq
  obtain ⟨rfl, ht, hu⟩ := hq
  have N1 := Lib.hid (new_step N.out hu (fun k hk => GE.out k (.inr hk))); clear N; have N := N1; clear N1
  have H1 := Lib.hid ht; clear H; have H := H1; clear ht hu H1
  go_wp2_with fail
  refine (list_cb H.out 0).mono ?_; rintro e wl ⟨vl, rfl, hi, hn⟩
  have ZL := Lib.hid (show ∀ k, b.T k → k < _ from fun k hk => H.out.lt hk)
  rw [show lz (rowAt [[3, 2], []] 0) = ([3, 2] : List Int) from by rfl] at hi
  have N1 := Lib.hid (N.out.trans hn); clear N; have N := N1; clear N1
  have H1 := Lib.hid (H.out.new hn); clear H; have H := H1; clear H1
  have I := Lib.hid hi; clear hi hn
  go_wp2_with fail
  refine (push_c H.out (1) (4)).mono ?_; intro e w1 hq
  rw [show putR 5 [[3, 2], []] 1 4 true = ((0, [[3, 2], [4]]) : Int × List (List Nat)) from by rfl] at hq
  obtain ⟨rfl, ht, hu⟩ := hq
  have N1 := Lib.hid (new_step N.out hu (fun k hk => GE.out k (.inr hk))); clear N; have N := N1; clear N1
  have I1 := Lib.hid (intsB_upd I.out hu (fun k hk => ZL.out k (.inr hk))); clear I; have I := I1; clear I1
  have H1 := Lib.hid ht; clear H; have H := H1; clear ht hu H1
  go_wp2_with fail
  refine (move_c H.out (0) (1)).mono ?_; intro e w1 hq
  rw [show moveR [[3, 2], [4]] 0 1 = ((0, [[], [4, 3, 2]]) : Int × List (List Nat)) from by rfl] at hq
  obtain ⟨rfl, ht, hu⟩ := hq
  have N1 := Lib.hid (new_step N.out hu (fun k hk => GE.out k (.inr hk))); clear N; have N := N1; clear N1
  have I1 := Lib.hid (intsB_upd I.out hu (fun k hk => ZL.out k (.inr hk))); clear I; have I := I1; clear I1
  have H1 := Lib.hid ht; clear H; have H := H1; clear ht hu H1
  go_wp2_with fail
  refine (take_c H.out (1)).mono ?_; intro e w1 hq
  rw [show firstR [[], [4, 3, 2]] 1 = 4 from by rfl, show dropR [[], [4, 3, 2]] 4 = ((true, [[], [3, 2]]) : Bool × List (List Nat)) from by rfl] at hq
  obtain ⟨rfl, ht, hu⟩ := hq
  have N1 := Lib.hid (new_step N.out hu (fun k hk => GE.out k (.inr hk))); clear N; have N := N1; clear N1
  have I1 := Lib.hid (intsB_upd I.out hu (fun k hk => ZL.out k (.inr hk))); clear I; have I := I1; clear I1
  have H1 := Lib.hid ht; clear H; have H := H1; clear ht hu H1
  go_wp2_with fail
  refine (same_c vl _ [3, 2] [3, 2] _ (I.out.ints.new (new_alloc w1 (.cells (([3, 2] : List Int).map (Value.int .i64)).toArray 3))) (ints_lit w1 [3, 2] w1.heap.size rfl (by simp))).mono ?_; intro e w2 hq
  rw [show decide (([3, 2] : List Int) = [3, 2]) = true from rfl] at hq
  obtain ⟨rfl, hk⟩ := hq
  have hn := (new_alloc w1 (.cells (([3, 2] : List Int).map (Value.int .i64)).toArray 3)).trans hk
  have N1 := Lib.hid (N.out.trans hn); clear N; have N := N1; clear N1
  have I1 := Lib.hid (intsB_upd I.out hn (fun _ x => x.elim)); clear I; have I := I1; clear I1
  have H1 := Lib.hid (H.out.new hn); clear H; have H := H1; clear H1
  clear hn hk
  clear I
  go_wp2_with fail
  refine (list_cb H.out 1).mono ?_; rintro e w1 ⟨vm, rfl, hi, hn⟩
  rw [show lz (rowAt [[], [3, 2]] 1) = ([3, 2] : List Int) from by rfl] at hi
  have N1 := Lib.hid (N.out.trans hn); clear N; have N := N1; clear N1
  have H1 := Lib.hid (H.out.new hn); clear H; have H := H1; clear H1
  have I := Lib.hid hi; clear hi hn
  go_wp2_with fail
  refine (same_c vm _ [3, 2] [3, 2] _ (I.out.ints.new (new_alloc w1 (.cells (([3, 2] : List Int).map (Value.int .i64)).toArray 3))) (ints_lit w1 [3, 2] w1.heap.size rfl (by simp))).mono ?_; intro e w2 hq
  rw [show decide (([3, 2] : List Int) = [3, 2]) = true from rfl] at hq
  obtain ⟨rfl, hk⟩ := hq
  have hn := (new_alloc w1 (.cells (([3, 2] : List Int).map (Value.int .i64)).toArray 3)).trans hk
  have N1 := Lib.hid (N.out.trans hn); clear N; have N := N1; clear N1
  have I1 := Lib.hid (intsB_upd I.out hn (fun _ x => x.elim)); clear I; have I := I1; clear I1
  have H1 := Lib.hid (H.out.new hn); clear H; have H := H1; clear H1
  clear hn hk
  clear I
  go_wp2_with fail
  refine (rg_len H.out 0).mono ?_; intro e w1 hq
  rw [show ((rowAt [[], [3, 2]] 0).length : Int) = 0 from by rfl] at hq
  obtain ⟨rfl, rfl⟩ := hq
  go_wp2_with fail
  refine (first_c H.out (0)).mono ?_; intro e w1 hq
  rw [show firstR [[], [3, 2]] 0 = -1 from by rfl] at hq
  obtain ⟨rfl, hn⟩ := hq
  have N1 := Lib.hid (N.out.trans hn); clear N; have N := N1; clear N1
  have H1 := Lib.hid (H.out.new hn); clear H; have H := H1; clear H1
  clear hn
  go_wp2_with fail
  refine (first_c H.out (1)).mono ?_; intro e w1 hq
  rw [show firstR [[], [3, 2]] 1 = 3 from by rfl] at hq
  obtain ⟨rfl, hn⟩ := hq
  have N1 := Lib.hid (N.out.trans hn); clear N; have N := N1; clear N1
  have H1 := Lib.hid (H.out.new hn); clear H; have H := H1; clear H1
  clear hn
  go_wp2_with fail
  refine (rg_in H.out 3).mono ?_; intro e w1 hq
  rw [show inR [[], [3, 2]] 3 = 1 from by rfl] at hq
  obtain ⟨rfl, rfl⟩ := hq
  go_wp2_with fail
  refine (rg_in H.out 1).mono ?_; intro e w1 hq
  rw [show inR [[], [3, 2]] 1 = -1 from by rfl] at hq
  obtain ⟨rfl, rfl⟩ := hq
  go_wp2_with fail
  refine (rg_rows H.out).mono ?_; rintro e w1 ⟨rfl, rfl⟩
  go_wp2_with fail
  refine (rg_nodes H.out).mono ?_; rintro e w1 ⟨rfl, rfl⟩
  go_wp2_with fail
  refine (put_c H.out (2) (0)).mono ?_; intro e w1 hq
  rw [show putR 5 [[], [3, 2]] 2 0 false = ((3, [[], [3, 2]]) : Int × List (List Nat)) from by rfl] at hq
  obtain ⟨rfl, ht, hu⟩ := hq
  have N1 := Lib.hid (new_step N.out hu (fun k hk => GE.out k (.inr hk))); clear N; have N := N1; clear N1
  have H1 := Lib.hid ht; clear H; have H := H1; clear ht hu H1
  go_wp2_with fail
  go_ret
  exact ⟨rfl, N.out⟩
end Go.Proofs.Ytffehagmchcpkaa

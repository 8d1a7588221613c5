import Derived.Test.YtoijeehkjpcefaaR13
import Derived.Test.YtoijeehkjpcefaaSame
namespace Go.Proofs.Ytoijeehkjpcefaa
open Go.RowKit Go.Proofs.Cmd
theorem Tr.blk_ge {B p : Nat} {sv : Value} {rs : List Row} {most : Int} {w : World} (h : Tr B w p sv rs most) {k : Nat} (hk : Tr.blk p sv rs k) : B ≤ k := by
  rcases hk with rfl | hk | ⟨i, r, hr, hk⟩
  · exact h.base
  · exact (h.rows.lt k hk).1
  · exact ((h.kids i r hr).lt k hk).1
theorem small_of {rs : List Row} {l : List Nd} (h : nds rs = l) (hl : l.length < 1000) : rs.length < 1000 := by rw [← nds_len, h]; exact hl
set_option maxRecDepth 100000 in
set_option maxHeartbeats 4000000 in
theorem awake_c (w : World) : Calls Try.prog 6 #[] w fun e w' => e = .returned (.bool true) ∧ New w w' := by
  have H := Lib.hid (Tr.fresh w 4)
  have HND := Lib.hid (show nds [] = [] from rfl)
  have N := Lib.hid (new_alloc w (.cells #[.slice none 0 0, .int .i64 4] 54))
  go_enter Try.func6, Try.ntmps6
  go_wp2_with fail
  refine (new_good 4 _ (by omega) (by omega)).mono ?_; rintro e w1 ⟨rfl, rfl⟩
  go_wp2_with fail
  refine (new_bad 0 _ (by omega)).mono ?_; rintro e w1 ⟨rfl, rfl⟩
  go_wp2_with fail
  refine (root_c H.out (small_of HND.out (by simp))).mono ?_; intro e w1 hq
  rw [HND.out, show putF [] 4 (-1) false = ((0, 0, [(-1, false)]) : Int × Int × List Nd) from by rfl] at hq
  obtain ⟨sv1, rs1, rfl, ht, hnd, hu⟩ := hq
  have N1 := Lib.hid (new_step N.out hu (fun k hk => H.out.blk_ge hk)); clear N; have N := N1; clear N1
  have H1 := Lib.hid ht; clear H; have H := H1; have HND1 := Lib.hid hnd; clear HND; have HND := HND1; clear ht hu hnd H1 HND1
  go_wp2_with fail
  refine (add_c H.out (small_of HND.out (by simp)) (0) false).mono ?_; intro e w1 hq
  rw [HND.out, show addF [(-1, false)] 4 (0) false = ((1, 0, [(-1, false), (0, false)]) : Int × Int × List Nd) from by rfl] at hq
  obtain ⟨sv1, rs1, rfl, ht, hnd, hu⟩ := hq
  have N1 := Lib.hid (new_step N.out hu (fun k hk => H.out.blk_ge hk)); clear N; have N := N1; clear N1
  have H1 := Lib.hid ht; clear H; have H := H1; have HND1 := Lib.hid hnd; clear HND; have HND := HND1; clear ht hu hnd H1 HND1
  go_wp2_with fail
  refine (add_c H.out (small_of HND.out (by simp)) (1) true).mono ?_; intro e w1 hq
  rw [HND.out, show addF [(-1, false), (0, false)] 4 (1) true = ((2, 0, [(-1, false), (0, false), (1, true)]) : Int × Int × List Nd) from by rfl] at hq
  obtain ⟨sv1, rs1, rfl, ht, hnd, hu⟩ := hq
  have N1 := Lib.hid (new_step N.out hu (fun k hk => H.out.blk_ge hk)); clear N; have N := N1; clear N1
  have H1 := Lib.hid ht; clear H; have H := H1; have HND1 := Lib.hid hnd; clear HND; have HND := HND1; clear ht hu hnd H1 HND1
  go_wp2_with fail
  refine (add_c H.out (small_of HND.out (by simp)) (0) false).mono ?_; intro e w1 hq
  rw [HND.out, show addF [(-1, false), (0, false), (1, true)] 4 (0) false = ((3, 0, [(-1, false), (0, false), (1, true), (0, false)]) : Int × Int × List Nd) from by rfl] at hq
  obtain ⟨sv1, rs1, rfl, ht, hnd, hu⟩ := hq
  have N1 := Lib.hid (new_step N.out hu (fun k hk => H.out.blk_ge hk)); clear N; have N := N1; clear N1
  have H1 := Lib.hid ht; clear H; have H := H1; have HND1 := Lib.hid hnd; clear HND; have HND := HND1; clear ht hu hnd H1 HND1
  go_wp2_with fail
  refine (add_c H.out (small_of HND.out (by simp)) (0) false).mono ?_; intro e w1 hq
  rw [HND.out, show addF [(-1, false), (0, false), (1, true), (0, false)] 4 (0) false = ((-1, 2, [(-1, false), (0, false), (1, true), (0, false)]) : Int × Int × List Nd) from by rfl] at hq
  obtain ⟨sv1, rs1, rfl, ht, hnd, hu⟩ := hq
  have N1 := Lib.hid (new_step N.out hu (fun k hk => H.out.blk_ge hk)); clear N; have N := N1; clear N1
  have H1 := Lib.hid ht; clear H; have H := H1; have HND1 := Lib.hid hnd; clear HND; have HND := HND1; clear ht hu hnd H1 HND1
  go_wp2_with fail
  refine (add_c H.out (small_of HND.out (by simp)) (9) false).mono ?_; intro e w1 hq
  rw [HND.out, show addF [(-1, false), (0, false), (1, true), (0, false)] 4 (9) false = ((-1, 3, [(-1, false), (0, false), (1, true), (0, false)]) : Int × Int × List Nd) from by rfl] at hq
  obtain ⟨sv1, rs1, rfl, ht, hnd, hu⟩ := hq
  have N1 := Lib.hid (new_step N.out hu (fun k hk => H.out.blk_ge hk)); clear N; have N := N1; clear N1
  have H1 := Lib.hid ht; clear H; have H := H1; have HND1 := Lib.hid hnd; clear HND; have HND := HND1; clear ht hu hnd H1 HND1
  go_wp2_with fail
  refine (reach_c H.out (0)).mono ?_; rintro e w1 ⟨v1, rfl, hi, hn⟩
  rw [HND.out, show reachTop [(-1, false), (0, false), (1, true), (0, false)] 0 = ([0, 1, 3] : List Int) from by rfl] at hi
  have N1 := Lib.hid (N.out.trans hn); clear N; have N := N1; clear N1
  have H1 := Lib.hid (H.out.new hn); clear H; have H := H1; clear H1 hn
  have I := Lib.hid hi; clear hi
  go_wp2_with fail
  refine (same_c v1 _ [0, 1, 3] [0, 1, 3] _ (I.out.new (new_alloc w1 (.cells (([0, 1, 3] : List Int).map (Value.int .i64)).toArray 3))) (ints_lit w1 [0, 1, 3] w1.heap.size rfl (by simp))).mono ?_; intro e w2 hq
  rw [show decide (([0, 1, 3] : List Int) = [0, 1, 3]) = true from rfl] at hq
  obtain ⟨rfl, hn⟩ := hq
  have hn2 := (new_alloc w1 (.cells (([0, 1, 3] : List Int).map (Value.int .i64)).toArray 3)).trans hn
  have N1 := Lib.hid (N.out.trans hn2); clear N; have N := N1; clear N1
  have H1 := Lib.hid (H.out.new hn2); clear H I hn hn2; have H := H1; clear H1
  go_wp2_with fail
  refine (path_c H.out (2)).mono ?_; rintro e w1 ⟨v1, rfl, hi, hn⟩
  rw [← nds_len rs1, HND.out, show upF [(-1, false), (0, false), (1, true), (0, false)] false [(-1, false), (0, false), (1, true), (0, false)].length 2 = ([2, 1, 0] : List Int) from by rfl] at hi
  have N1 := Lib.hid (N.out.trans hn); clear N; have N := N1; clear N1
  have H1 := Lib.hid (H.out.new hn); clear H; have H := H1; clear H1 hn
  have I := Lib.hid hi; clear hi
  go_wp2_with fail
  refine (same_c v1 _ [2, 1, 0] [2, 1, 0] _ (I.out.new (new_alloc w1 (.cells (([2, 1, 0] : List Int).map (Value.int .i64)).toArray 3))) (ints_lit w1 [2, 1, 0] w1.heap.size rfl (by simp))).mono ?_; intro e w2 hq
  rw [show decide (([2, 1, 0] : List Int) = [2, 1, 0]) = true from rfl] at hq
  obtain ⟨rfl, hn⟩ := hq
  have hn2 := (new_alloc w1 (.cells (([2, 1, 0] : List Int).map (Value.int .i64)).toArray 3)).trans hn
  have N1 := Lib.hid (N.out.trans hn2); clear N; have N := N1; clear N1
  have H1 := Lib.hid (H.out.new hn2); clear H I hn hn2; have H := H1; clear H1
  go_wp2_with fail
  refine (chain_c H.out (2)).mono ?_; rintro e w1 ⟨v1, rfl, hi, hn⟩
  rw [← nds_len rs1, HND.out, show upF [(-1, false), (0, false), (1, true), (0, false)] true [(-1, false), (0, false), (1, true), (0, false)].length 2 = ([2] : List Int) from by rfl] at hi
  have N1 := Lib.hid (N.out.trans hn); clear N; have N := N1; clear N1
  have H1 := Lib.hid (H.out.new hn); clear H; have H := H1; clear H1 hn
  have I := Lib.hid hi; clear hi
  go_wp2_with fail
  refine (same_c v1 _ [2] [2] _ (I.out.new (new_alloc w1 (.cells (([2] : List Int).map (Value.int .i64)).toArray 3))) (ints_lit w1 [2] w1.heap.size rfl (by simp))).mono ?_; intro e w2 hq
  rw [show decide (([2] : List Int) = [2]) = true from rfl] at hq
  obtain ⟨rfl, hn⟩ := hq
  have hn2 := (new_alloc w1 (.cells (([2] : List Int).map (Value.int .i64)).toArray 3)).trans hn
  have N1 := Lib.hid (N.out.trans hn2); clear N; have N := N1; clear N1
  have H1 := Lib.hid (H.out.new hn2); clear H I hn hn2; have H := H1; clear H1
  go_wp2_with fail
  refine (chain_c H.out (1)).mono ?_; rintro e w1 ⟨v1, rfl, hi, hn⟩
  rw [← nds_len rs1, HND.out, show upF [(-1, false), (0, false), (1, true), (0, false)] true [(-1, false), (0, false), (1, true), (0, false)].length 1 = ([1, 0] : List Int) from by rfl] at hi
  have N1 := Lib.hid (N.out.trans hn); clear N; have N := N1; clear N1
  have H1 := Lib.hid (H.out.new hn); clear H; have H := H1; clear H1 hn
  have I := Lib.hid hi; clear hi
  go_wp2_with fail
  refine (same_c v1 _ [1, 0] [1, 0] _ (I.out.new (new_alloc w1 (.cells (([1, 0] : List Int).map (Value.int .i64)).toArray 3))) (ints_lit w1 [1, 0] w1.heap.size rfl (by simp))).mono ?_; intro e w2 hq
  rw [show decide (([1, 0] : List Int) = [1, 0]) = true from rfl] at hq
  obtain ⟨rfl, hn⟩ := hq
  have hn2 := (new_alloc w1 (.cells (([1, 0] : List Int).map (Value.int .i64)).toArray 3)).trans hn
  have N1 := Lib.hid (N.out.trans hn2); clear N; have N := N1; clear N1
  have H1 := Lib.hid (H.out.new hn2); clear H I hn hn2; have H := H1; clear H1
  go_wp2_with fail
  refine (kids_c H.out (0)).mono ?_; rintro e w1 ⟨v1, rfl, hi, hn⟩
  rw [HND.out, show kidsF [(-1, false), (0, false), (1, true), (0, false)] 0 = ([1, 3] : List Int) from by rfl] at hi
  have N1 := Lib.hid (N.out.trans hn); clear N; have N := N1; clear N1
  have H1 := Lib.hid (H.out.new hn); clear H; have H := H1; clear H1 hn
  have I := Lib.hid hi; clear hi
  go_wp2_with fail
  refine (same_c v1 _ [1, 3] [1, 3] _ (I.out.new (new_alloc w1 (.cells (([1, 3] : List Int).map (Value.int .i64)).toArray 3))) (ints_lit w1 [1, 3] w1.heap.size rfl (by simp))).mono ?_; intro e w2 hq
  rw [show decide (([1, 3] : List Int) = [1, 3]) = true from rfl] at hq
  obtain ⟨rfl, hn⟩ := hq
  have hn2 := (new_alloc w1 (.cells (([1, 3] : List Int).map (Value.int .i64)).toArray 3)).trans hn
  have N1 := Lib.hid (N.out.trans hn2); clear N; have N := N1; clear N1
  have H1 := Lib.hid (H.out.new hn2); clear H I hn hn2; have H := H1; clear H1
  go_wp2_with fail
  refine (kids_c H.out (1)).mono ?_; rintro e w1 ⟨v1, rfl, hi, hn⟩
  rw [HND.out, show kidsF [(-1, false), (0, false), (1, true), (0, false)] 1 = ([2] : List Int) from by rfl] at hi
  have N1 := Lib.hid (N.out.trans hn); clear N; have N := N1; clear N1
  have H1 := Lib.hid (H.out.new hn); clear H; have H := H1; clear H1 hn
  have I := Lib.hid hi; clear hi
  go_wp2_with fail
  refine (same_c v1 _ [2] [2] _ (I.out.new (new_alloc w1 (.cells (([2] : List Int).map (Value.int .i64)).toArray 3))) (ints_lit w1 [2] w1.heap.size rfl (by simp))).mono ?_; intro e w2 hq
  rw [show decide (([2] : List Int) = [2]) = true from rfl] at hq
  obtain ⟨rfl, hn⟩ := hq
  have hn2 := (new_alloc w1 (.cells (([2] : List Int).map (Value.int .i64)).toArray 3)).trans hn
  have N1 := Lib.hid (N.out.trans hn2); clear N; have N := N1; clear N1
  have H1 := Lib.hid (H.out.new hn2); clear H I hn hn2; have H := H1; clear H1
  go_wp2_with fail
  refine (over_c H.out (2)).mono ?_; intro e w1 hq
  rw [HND.out, show overF [(-1, false), (0, false), (1, true), (0, false)] 2 = 1 from by rfl] at hq
  obtain ⟨rfl, rfl⟩ := hq
  go_wp2_with fail
  refine (over_c H.out (0)).mono ?_; intro e w1 hq
  rw [HND.out, show overF [(-1, false), (0, false), (1, true), (0, false)] 0 = -1 from by rfl] at hq
  obtain ⟨rfl, rfl⟩ := hq
  go_wp2_with fail
  refine (cut_c H.out (2)).mono ?_; intro e w1 hq
  rw [HND.out, show cutF [(-1, false), (0, false), (1, true), (0, false)] 2 = true from by rfl] at hq
  obtain ⟨rfl, rfl⟩ := hq
  go_wp2_with fail
  refine (cut_c H.out (1)).mono ?_; intro e w1 hq
  rw [HND.out, show cutF [(-1, false), (0, false), (1, true), (0, false)] 1 = false from by rfl] at hq
  obtain ⟨rfl, rfl⟩ := hq
  go_wp2_with fail
  refine (len_c H.out).mono ?_; intro e w1 hq
  rw [← nds_len rs1, HND.out] at hq
  obtain ⟨rfl, rfl⟩ := hq
  go_wp2_with fail
  go_ret
  exact ⟨rfl, N.out⟩
end Go.Proofs.Ytoijeehkjpcefaa

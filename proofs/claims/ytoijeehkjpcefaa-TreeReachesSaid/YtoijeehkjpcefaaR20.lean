import Derived.Test.YtoijeehkjpcefaaR19
namespace Go.Proofs.Ytoijeehkjpcefaa
open Go.RowKit Go.Proofs.Cmd

set_option maxRecDepth 100000 in
set_option maxHeartbeats 20000000 in
theorem reaches_walk (la : Option Addr) (len cap : Nat) (x y : Int) (w : World) (hA : Acts w la len) (_hc : len ≤ cap) (_hm : cap ≤ maxLen) (hx0 : 0 ≤ x) (hx1 : x ≤ 255) (hy0 : 0 ≤ y) (hy1 : y ≤ 255) :
    Calls Try.prog 4 #[.slice la len cap, .int .u8 x, .int .u8 y] w fun e w' => e = .returned (.bool true) ∧ New w w' := by
  by_cases hl : 40 < len
  · clear hA
    go_enter Try.func4, Try.ntmps4
    go_wp2_with fail
    refine (awake_c w).mono ?_; rintro e w0 ⟨rfl, hn⟩
    have N0 := Lib.hid hn
    clear hn
    go_wp2_with fail
    go_ret
    exact ⟨rfl, N0.out⟩
  have HA := Lib.hid hA
  clear hA
  have hl1 : ¬ (40 : Int) < (len : Int) := by omega
  have hl2 : len ≤ 40 := by omega
  go_enter Try.func4, Try.ntmps4
  go_wp2_with fail
  refine (awake_c w).mono ?_; rintro e w0 ⟨rfl, hn⟩
  have I0 := Lib.hid (one_fresh hn)
  clear hn
  go_wp2_with fail
  refine (new_good 40 _ (by omega) (by omega)).mono ?_; rintro e w1 ⟨rfl, rfl⟩
  go_wp2_with fail
  generalize w0.alloc (.cells #[.slice none 0 0, .int .i64 40] 54) = wI at I0 ⊢
  generalize w0.heap.size = P at I0 ⊢
  go_loopw [30] (fun i wr => ∃ (k : Nat) (ns : List Nd), k ≤ len ∧ i = .int .i64 k ∧ (ns.length : Int) ≤ 40 ∧ One w P ns wr) (fun i _ => len - (intOf i).toNat)
  case atStart => exact ⟨0, [], by omega, rfl, by simp, I0⟩
  case round =>
    obtain ⟨k, ns, hk, rfl, hnm, hB⟩ := hrel
    have S := Lib.hid hB
    clear hB I0
    by_cases hlt : k < len
    · obtain ⟨lb, lo, rfl, hlb, r, c, o, hr⟩ := HA.out k hlt
      have R0 := range_new' hr hlb S.out.nw
      have c0 : wr.cell? ⟨lb, lo + k * 3, none⟩ = some (.bool r) := R0 0 _ rfl
      have c1 : wr.cell? ⟨lb, lo + k * 3 + 1, none⟩ = some (.bool c) := R0 1 _ rfl
      have c2 : wr.cell? ⟨lb, lo + k * 3 + 2, none⟩ = some (.int .i64 o) := R0 2 _ rfl
      clear hr R0
      have DC := Lib.hid (one_do (S.out.new (new_alloc wr (.cells #[.bool r, .bool c, .int .i64 o] 32))) (by omega) r c o)
      have hal := Lib.hid (actF_len ns 40 r c o hnm)
      go_wp2_with fail
      refine DC.out.mono ?_
      rintro e w3 ⟨rfl, hS⟩
      have S3 := Lib.hid hS
      clear hS c0 c1 c2
      go_wp2_with fail
      go_roundw
      case rel => exact ⟨k + 1, _, by omega, by go_num, hal.out.1, S3.out⟩
      case measure => simp [intOf]; omega
    · have LC := Lib.hid (one_len S.out)
      have hns : ns.length ≤ 40 := by omega
      by_cases h0 : ns.length < 1
      · have h0' : ns.length = 0 := by omega
        rw [h0'] at LC
        clear h0 h0'
        go_wp2_with fail
        refine LC.out.mono ?_; rintro e w3 ⟨rfl, rfl⟩
        go_wp2_with fail
        refine LC.out.mono ?_; rintro e w3 ⟨rfl, rfl⟩
        go_wp2_with fail
        go_ret
        exact ⟨rfl, S.out.nw⟩
      · have hn1 : 1 ≤ ns.length := by omega
        have LQ := Lib.hid (fun n => one_len (S.out.new (new_drewN wr n)))
        obtain ⟨a, ha, hxa⟩ : ∃ a : Nat, a < ns.length ∧ x.tmod (ns.length : Int) = (a : Int) := ⟨(x.tmod (ns.length : Int)).toNat, by
          have := Int.tmod_lt_of_pos x (show (0 : Int) < ns.length by omega)
          have := Int.tmod_nonneg (ns.length : Int) hx0
          omega, by have := Int.tmod_nonneg (ns.length : Int) hx0; omega⟩
        obtain ⟨b, hb, hyb⟩ : ∃ b : Nat, b < ns.length ∧ y.tmod (ns.length : Int) = (b : Int) := ⟨(y.tmod (ns.length : Int)).toNat, by
          have := Int.tmod_lt_of_pos y (show (0 : Int) < ns.length by omega)
          have := Int.tmod_nonneg (ns.length : Int) hy0
          omega, by have := Int.tmod_nonneg (ns.length : Int) hy0; omega⟩
        go_wp2_with fail
        refine LC.out.mono ?_; rintro e w3 ⟨rfl, rfl⟩
        go_wp2_with fail
        go_quiet ((go_at_call 12; exact quiet_left (LQ.out _)))
        go_wp2_with fail
        obtain ⟨c, hc01, e1, e2, e3⟩ := both_counts S.out.tree ha hb
        obtain ⟨l, hl0⟩ := reach_head ha
        have Sq := Lib.hid (S.out.new (new_drewN wr nq))
        have RC := Lib.hid (one_reach Sq.out (a : Int))
        rw [hl0] at e1 e3 RC
        have E1 := Lib.hid e1
        have E2 := Lib.hid e2
        have E3 := Lib.hid e3
        generalize wr.drewN nq = wq at Sq RC ⊢
        clear S LC LQ hxa hyb e1 e2 e3 hl0
        refine RC.out.mono ?_; rintro e w4 ⟨v, rfl, hi, hn⟩
        have S4 := Lib.hid (Sq.out.new hn)
        have I4 := Lib.hid hi
        obtain ⟨va, vc, rfl, hll, _, _, hcell⟩ := hi.open
        obtain ⟨vg, rfl, hv0⟩ := hcell 0 (by simp)
        have hv0 : w4.cell? ⟨vg, 0, none⟩ = some (.int .i64 a) := hv0
        clear hi hn hcell Sq RC
        have hll : l.length ≤ 1000000 := by simp at hll; omega
        have hz1 : ((l.length : Int) + 1 == 0) = false := by simp; omega
        have hz2 : ((a : Int) != (a : Int)) = false := by simp
        go_wp2_with fail
        refine (in_c _ _ _ _ I4.out).mono ?_; rintro e w5 ⟨rfl, rfl⟩
        rw [E1.out]
        rcases hc01 with rfl | rfl
        · go_wp2_with fail
          refine (one_chain S4.out (b : Int)).mono ?_; rintro e w6 ⟨v6, rfl, hi, hn⟩
          have S6 := Lib.hid (S4.out.new hn)
          have I6 := Lib.hid hi
          have J6 := Lib.hid (I4.out.new hn)
          have hv6 := (hn.cell (World.block_lt_of_cell? w4 _ hv0)).trans hv0
          clear hi hn hv0
          go_wp2_with fail
          refine (in_c _ _ _ _ I6.out).mono ?_; rintro e w7 ⟨rfl, rfl⟩
          rw [E2.out]
          go_wp2_with fail
          refine (one_chain S6.out (b : Int)).mono ?_; rintro e w7 ⟨v7, rfl, hi, hn⟩
          have S7 := Lib.hid (S6.out.new hn)
          have I7 := Lib.hid hi
          have J7 := Lib.hid (J6.out.new hn)
          have hv7 := (hn.cell (World.block_lt_of_cell? w6 _ hv6)).trans hv6
          clear hi hn hv6
          go_wp2_with fail
          refine (in_c _ _ _ _ I7.out).mono ?_; rintro e w8 ⟨rfl, rfl⟩
          rw [E2.out]
          go_wp2_with fail
          refine (one_reach S7.out (b : Int)).mono ?_; rintro e w8 ⟨v8, rfl, hi, hn⟩
          have S8 := Lib.hid (S7.out.new hn)
          have J8 := Lib.hid (J7.out.new hn)
          obtain ⟨ba, bc, rfl, hbl, _, _, hbc⟩ := hi.open
          have HBC := Lib.hid hbc
          have HM := Lib.hid (show ∀ k (h : k < (reachTop ns (b : Int)).length), (reachTop ns (b : Int))[k] ∈ reachTop ns (b : Int) from fun k h => List.getElem_mem h)
          clear hi hn hbc hv7
          generalize reachTop ns (b : Int) = rb at HBC hbl HM E3 ⊢
          go_wp2_with fail
          go_loop [97] (fun i => ∃ k : Nat, k ≤ rb.length ∧ i = .int .i64 k) (fun i => rb.length - (intOf i).toNat)
          case atStart => exact ⟨0, Nat.zero_le _, rfl⟩
          case round =>
            obtain ⟨k, hk, rfl⟩ := hrel
            by_cases hlt : k < rb.length
            · obtain ⟨bg, rfl, hb0⟩ := HBC.out k hlt
              rw [show rb[k]?.getD 0 = rb[k] by simp [hlt]] at hb0
              generalize rb[k] = z at hb0
              go_wp2_with fail
              go_round
              case rel => exact ⟨k + 1, by omega, by go_num⟩
              case measure => simp [intOf]; omega
            · go_wp2_with fail
              go_ret
              exact ⟨rfl, S8.out.nw⟩
        · go_wp2_with fail
          refine (one_chain S4.out (b : Int)).mono ?_; rintro e w6 ⟨v6, rfl, hi, hn⟩
          have S6 := Lib.hid (S4.out.new hn)
          have I6 := Lib.hid hi
          have J6 := Lib.hid (I4.out.new hn)
          have hv6 := (hn.cell (World.block_lt_of_cell? w4 _ hv0)).trans hv0
          clear hi hn hv0
          go_wp2_with fail
          refine (in_c _ _ _ _ I6.out).mono ?_; rintro e w7 ⟨rfl, rfl⟩
          rw [E2.out]
          go_wp2_with fail
          refine (one_chain S6.out (b : Int)).mono ?_; rintro e w7 ⟨v7, rfl, hi, hn⟩
          have S7 := Lib.hid (S6.out.new hn)
          have I7 := Lib.hid hi
          have J7 := Lib.hid (J6.out.new hn)
          have hv7 := (hn.cell (World.block_lt_of_cell? w6 _ hv6)).trans hv6
          clear hi hn hv6
          go_wp2_with fail
          refine (in_c _ _ _ _ I7.out).mono ?_; rintro e w8 ⟨rfl, rfl⟩
          rw [E2.out]
          go_wp2_with fail
          refine (one_reach S7.out (b : Int)).mono ?_; rintro e w8 ⟨v8, rfl, hi, hn⟩
          have S8 := Lib.hid (S7.out.new hn)
          have J8 := Lib.hid (J7.out.new hn)
          obtain ⟨ba, bc, rfl, hbl, _, _, hbc⟩ := hi.open
          have HBC := Lib.hid hbc
          have HM := Lib.hid (show ∀ k (h : k < (reachTop ns (b : Int)).length), (reachTop ns (b : Int))[k] ∈ reachTop ns (b : Int) from fun k h => List.getElem_mem h)
          clear hi hn hbc hv7
          generalize reachTop ns (b : Int) = rb at HBC hbl HM E3 ⊢
          go_wp2_with fail
          go_loop [97] (fun i => ∃ k : Nat, k ≤ rb.length ∧ i = .int .i64 k) (fun i => rb.length - (intOf i).toNat)
          case atStart => exact ⟨0, Nat.zero_le _, rfl⟩
          case round =>
            obtain ⟨k, hk, rfl⟩ := hrel
            by_cases hlt : k < rb.length
            · obtain ⟨bg, rfl, hb0⟩ := HBC.out k hlt
              rw [show rb[k]?.getD 0 = rb[k] by simp [hlt]] at hb0
              have E3' := Lib.hid (E3.out (by trivial) rb[k] (HM.out k hlt))
              generalize rb[k] = z at hb0 E3'
              go_wp2_with fail
              refine (in_c _ _ _ _ J8.out).mono ?_; rintro e w9 ⟨rfl, rfl⟩
              rw [E3'.out]
              go_wp2_with fail
              go_round
              case rel => exact ⟨k + 1, by omega, by go_num⟩
              case measure => simp [intOf]; omega
            · go_wp2_with fail
              go_ret
              exact ⟨rfl, S8.out.nw⟩
end Go.Proofs.Ytoijeehkjpcefaa

import Derived.Test.YtoijeehkjpcefaaR22
namespace Go.Proofs.Ytoijeehkjpcefaa
open Go.RowKit Go.Proofs.Cmd

set_option maxRecDepth 100000 in
set_option maxHeartbeats 20000000 in
theorem paths_walk (la : Option Addr) (len cap : Nat) (x : Int) (w : World) (hA : Acts w la len) (_hc : len ≤ cap) (_hm : cap ≤ maxLen) (hx0 : 0 ≤ x) (hx1 : x ≤ 255) :
    Calls Try.prog 5 #[.slice la len cap, .int .u8 x] w fun e w' => e = .returned (.bool true) ∧ New w w' := by
  by_cases hl : 40 < len
  · clear hA
    go_enter Try.func5, Try.ntmps5
    go_wp2_with fail
    refine (awake_c w).mono ?_; rintro e w0 ⟨rfl, hn⟩
    have N0 := Lib.hid hn
    clear hn
    go_wp2_with fail
    go_ret
    exact ⟨rfl, N0.out⟩
  have HA := Lib.hid hA
  clear hA
  have hl1 : ¬ (40 : Int) < (len : Int) := by omega
  have hl2 : len ≤ 40 := by omega
  go_enter Try.func5, Try.ntmps5
  go_wp2_with fail
  refine (awake_c w).mono ?_; rintro e w0 ⟨rfl, hn⟩
  have I0 := Lib.hid (one_fresh hn)
  clear hn
  go_wp2_with fail
  refine (new_good 40 _ (by omega) (by omega)).mono ?_; rintro e w1 ⟨rfl, rfl⟩
  go_wp2_with fail
  generalize w0.alloc (.cells #[.slice none 0 0, .int .i64 40] 54) = wI at I0 ⊢
  generalize w0.heap.size = P at I0 ⊢
  go_loopw [28] (fun i wr => ∃ (k : Nat) (ns : List Nd), k ≤ len ∧ i = .int .i64 k ∧ (ns.length : Int) ≤ 40 ∧ One w P ns wr) (fun i _ => len - (intOf i).toNat)
  case atStart => exact ⟨0, [], by omega, rfl, by simp, I0⟩
  case round =>
    obtain ⟨k, ns, hk, rfl, hnm, hB⟩ := hrel
    have S := Lib.hid hB
    clear hB I0
    by_cases hlt : k < len
    · obtain ⟨lb, lo, rfl, hlb, r, c, o, hr⟩ := HA.out k hlt
      have R0 := range_new' hr hlb S.out.nw
      have c0 : wr.cell? ⟨lb, lo + k * 3, none⟩ = some (.bool r) := R0 0 _ rfl
      have c1 : wr.cell? ⟨lb, lo + k * 3 + 1, none⟩ = some (.bool c) := R0 1 _ rfl
      have c2 : wr.cell? ⟨lb, lo + k * 3 + 2, none⟩ = some (.int .i64 o) := R0 2 _ rfl
      clear hr R0
      have DC := Lib.hid (one_do (S.out.new (new_alloc wr (.cells #[.bool r, .bool c, .int .i64 o] 32))) (by omega) r c o)
      have hal := Lib.hid (actF_len ns 40 r c o hnm)
      go_wp2_with fail
      refine DC.out.mono ?_
      rintro e w3 ⟨rfl, hS⟩
      have S3 := Lib.hid hS
      clear hS c0 c1 c2
      go_wp2_with fail
      go_roundw
      case rel => exact ⟨k + 1, _, by omega, by go_num, hal.out.1, S3.out⟩
      case measure => simp [intOf]; omega
    · have LC := Lib.hid (one_len S.out)
      have hns : ns.length ≤ 40 := by omega
      by_cases h0 : ns.length < 1
      · have h0' : ns.length = 0 := by omega
        rw [h0'] at LC
        clear h0 h0'
        go_wp2_with fail
        refine LC.out.mono ?_; rintro e w3 ⟨rfl, rfl⟩
        go_wp2_with fail
        refine LC.out.mono ?_; rintro e w3 ⟨rfl, rfl⟩
        go_wp2_with fail
        go_ret
        exact ⟨rfl, S.out.nw⟩
      · have hn1 : 1 ≤ ns.length := by omega
        obtain ⟨a, ha, hxa⟩ : ∃ a : Nat, a < ns.length ∧ x.tmod (ns.length : Int) = (a : Int) := ⟨(x.tmod (ns.length : Int)).toNat, by
          have := Int.tmod_lt_of_pos x (show (0 : Int) < ns.length by omega)
          have := Int.tmod_nonneg (ns.length : Int) hx0
          omega, by have := Int.tmod_nonneg (ns.length : Int) hx0; omega⟩
        have hxb : x % (ns.length : Int) = (a : Int) := by rw [← hxa, Int.tmod_eq_emod_of_nonneg hx0]
        have AK := Lib.hid (asks S.out.tree ha)
        go_wp2_with fail
        refine LC.out.mono ?_; rintro e w3 ⟨rfl, rfl⟩
        go_wp2_with fail
        refine LC.out.mono ?_; rintro e w3 ⟨rfl, rfl⟩
        go_wp2_with fail
        refine (one_path S.out (a : Int)).mono ?_; rintro e w4 ⟨v4, rfl, hi, hn⟩
        have S4 := Lib.hid (S.out.new hn)
        have I4 := Lib.hid hi
        clear hi hn S LC hxa hxb
        go_wp2_with fail
        refine (one_chain S4.out (a : Int)).mono ?_; rintro e w5 ⟨v5, rfl, hi, hn⟩
        have S5 := Lib.hid (S4.out.new hn)
        have I5 := Lib.hid (I4.out.new hn)
        have J5 := Lib.hid hi
        clear hi hn S4 I4
        generalize upF ns false ns.length (a : Int) = pa at AK I5
        generalize upF ns true ns.length (a : Int) = ch at AK J5
        have hp1 := AK.out.pos
        have hp2 := AK.out.le
        obtain ⟨pg, pc, rfl, _, hpc, _⟩ := owns_some I5.out.1 (by omega)
        obtain ⟨cg, cc, rfl, _, hcc, _⟩ := owns_some J5.out.1 (by omega)
        have hpl := I5.out.2
        have hq1 : decide ((ch.length : Int) < 1) = false := by simp; omega
        have hq2 : decide (pa.length < ch.length) = false := by simp; omega
        have hq3 : (0 : Int) ≤ (ch.length : Int) := by omega
        have hq4 : (ch.length : Int) ≤ (pc : Int) := by omega
        go_wp2_with fail
        have I5t := Lib.hid (ints_take I5.out ch.length hp2)
        have HD := Lib.hid (show decide (ch = pa.take ch.length) = true from decide_eq_true AK.out.pre)
        refine (same_c _ _ _ _ _ J5.out I5t.out).mono ?_; intro e w6 hq
        rw [HD.out] at hq
        obtain ⟨rfl, hn⟩ := hq
        have S6 := Lib.hid (S5.out.new hn)
        have I6 := Lib.hid (I5.out.new hn)
        have J6 := Lib.hid (J5.out.new hn)
        clear hn S5 I5 J5 I5t HD
        go_wp2_with fail
        go_loopw [74] (fun i wx => ∃ k : Nat, k ≤ pa.length ∧ i = .int .i64 k ∧ New w6 wx) (fun i _ => pa.length - (intOf i).toNat)
        case atStart => exact ⟨0, Nat.zero_le _, rfl, Upd.refl _ _⟩
        case round =>
          obtain ⟨k, hk, rfl, hM⟩ := hrel
          have M := Lib.hid hM
          have S := Lib.hid (S6.out.new hM)
          have I := Lib.hid (I6.out.new hM)
          have J := Lib.hid (J6.out.new hM)
          clear hM
          by_cases hlt : k < pa.length
          · have hz := owns_cell I.out.1 (j := k) (by omega)
            rw [List.getElem?_map, List.getElem?_eq_getElem hlt] at hz
            have PKH := List.getElem?_eq_getElem hlt
            have OV := AK.out.over k _ PKH
            simp only [Option.map_some] at hz
            generalize pa[k] = z at hz PKH OV
            have PKH := Lib.hid PKH
            have n0 : ∀ o : Int, (o != o) = false := by simp
            by_cases hk1 : k + 1 < pa.length
            · have hy := owns_cell I.out.1 (j := k + 1) (by omega)
              rw [List.getElem?_map, List.getElem?_eq_getElem hk1] at hy
              have PN := List.getElem?_eq_getElem hk1
              simp only [Option.map_some] at hy
              generalize pa[k + 1] = y at hy PN
              rw [PN] at OV
              have PN := Lib.hid (show (pa[k + 1]?).getD (-1) = y by rw [PN]; rfl)
              have OV := Lib.hid (show overF ns z = y from OV)
              have n1 : (y != y) = false := n0 y
              clear n0
              by_cases h0 : 0 ≤ y
              · by_cases hc1 : (k : Int) < (ch.length : Int) - 1
                · have HC := Lib.hid (AK.out.cut k z PKH.out (by omega))
                  have KO := Lib.hid (AK.out.kids k z PKH.out (by rw [PN.out]; exact h0))
                  rw [PN.out] at KO
                  go_wp2_with fail
                  refine (one_over S.out z).mono ?_; rintro e w7 ⟨rfl, rfl⟩
                  rw [OV.out]
                  go_wp2_with fail
                  refine (one_cut S.out z).mono ?_; rintro e w7 ⟨rfl, rfl⟩
                  rw [HC.out]
                  go_wp2_with fail
                  refine (one_kids S.out y).mono ?_; rintro e w7 ⟨v7, rfl, hi, hn⟩
                  have M7 := Lib.hid (M.out.trans hn)
                  have I7 := Lib.hid hi
                  clear hi hn
                  go_wp2_with fail
                  refine (in_c _ _ _ _ I7.out).mono ?_; rintro e w8 ⟨rfl, rfl⟩
                  rw [KO.out]
                  go_wp2_with fail
                  go_roundw
                  case rel => exact ⟨k + 1, by omega, by go_num, M7.out⟩
                  case measure => simp [intOf]; omega
                · have hc2 : ¬ (k : Int) + 1 < (ch.length : Int) := by omega
                  have KO := Lib.hid (AK.out.kids k z PKH.out (by rw [PN.out]; exact h0))
                  rw [PN.out] at KO
                  go_wp2_with fail
                  refine (one_over S.out z).mono ?_; rintro e w7 ⟨rfl, rfl⟩
                  rw [OV.out]
                  go_wp2_with fail
                  refine (one_kids S.out y).mono ?_; rintro e w7 ⟨v7, rfl, hi, hn⟩
                  have M7 := Lib.hid (M.out.trans hn)
                  have I7 := Lib.hid hi
                  clear hi hn
                  go_wp2_with fail
                  refine (in_c _ _ _ _ I7.out).mono ?_; rintro e w8 ⟨rfl, rfl⟩
                  rw [KO.out]
                  go_wp2_with fail
                  go_roundw
                  case rel => exact ⟨k + 1, by omega, by go_num, M7.out⟩
                  case measure => simp [intOf]; omega
              · by_cases hc1 : (k : Int) < (ch.length : Int) - 1
                · have HC := Lib.hid (AK.out.cut k z PKH.out (by omega))
                  go_wp2_with fail
                  refine (one_over S.out z).mono ?_; rintro e w7 ⟨rfl, rfl⟩
                  rw [OV.out]
                  go_wp2_with fail
                  refine (one_cut S.out z).mono ?_; rintro e w7 ⟨rfl, rfl⟩
                  rw [HC.out]
                  go_wp2_with fail
                  go_roundw
                  case rel => exact ⟨k + 1, by omega, by go_num, M.out⟩
                  case measure => simp [intOf]; omega
                · have hc2 : ¬ (k : Int) + 1 < (ch.length : Int) := by omega
                  go_wp2_with fail
                  refine (one_over S.out z).mono ?_; rintro e w7 ⟨rfl, rfl⟩
                  rw [OV.out]
                  go_wp2_with fail
                  go_roundw
                  case rel => exact ⟨k + 1, by omega, by go_num, M.out⟩
                  case measure => simp [intOf]; omega
            · rw [List.getElem?_eq_none (by omega)] at OV
              have OV := Lib.hid (show overF ns z = -1 from OV)
              have hke : k + 1 = pa.length := by omega
              have hc1' : ¬ (k : Int) + 1 < (pa.length : Int) := by omega
              clear n0
              by_cases hc1 : (k : Int) < (ch.length : Int) - 1
              · have HC := Lib.hid (AK.out.cut k z PKH.out (by omega))
                go_wp2_with fail
                refine (one_over S.out z).mono ?_; rintro e w7 ⟨rfl, rfl⟩
                rw [OV.out]
                go_wp2_with fail
                refine (one_cut S.out z).mono ?_; rintro e w7 ⟨rfl, rfl⟩
                rw [HC.out]
                go_wp2_with fail
                go_roundw
                case rel => exact ⟨k + 1, by omega, by go_num, M.out⟩
                case measure => simp [intOf]; omega
              · have hc2 : ¬ (k : Int) + 1 < (ch.length : Int) := by omega
                go_wp2_with fail
                refine (one_over S.out z).mono ?_; rintro e w7 ⟨rfl, rfl⟩
                rw [OV.out]
                go_wp2_with fail
                go_roundw
                case rel => exact ⟨k + 1, by omega, by go_num, M.out⟩
                case measure => simp [intOf]; omega
          · have HE := AK.out.last
            by_cases he : ch.length = pa.length
            · have he1 : ((ch.length : Int) == (pa.length : Int)) = true := by simp; omega
              clear HE he
              go_wp2_with fail
              go_ret
              exact ⟨rfl, S.out.nw⟩
            · have he1 : ((ch.length : Int) == (pa.length : Int)) = false := by simp; omega
              obtain ⟨z, hz, hcz⟩ := HE.resolve_left he
              have c0 := owns_cell J.out.1 (j := ch.length - 1) (by omega)
              rw [List.getElem?_map, hz] at c0
              simp only [Option.map_some] at c0
              have HC := Lib.hid hcz
              obtain ⟨m, hm⟩ : ∃ m, ch.length = m + 1 := ⟨ch.length - 1, by omega⟩
              rw [hm] at c0
              have c1 : wr.cell? ⟨cg, m, none⟩ = some (.int .i64 z) := c0
              have hm1 : (ch.length : Int) - 1 = (m : Int) := by omega
              have hm2 : (m : Int) < (ch.length : Int) := by omega
              clear hz hcz c0 he hm
              go_wp2_with fail
              refine (one_cut S.out z).mono ?_; rintro e w7 ⟨rfl, rfl⟩
              rw [HC.out]
              go_wp2_with fail
              go_ret
              exact ⟨rfl, S.out.nw⟩
end Go.Proofs.Ytoijeehkjpcefaa

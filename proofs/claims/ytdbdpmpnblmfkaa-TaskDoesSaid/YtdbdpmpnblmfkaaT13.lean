import Derived.Test.YtdbdpmpnblmfkaaT12
namespace Go.Proofs.Ytdbdpmpnblmfkaa
open Go.RowKit Go.Proofs.Cmd
variable {B p n : Nat} {sv : Value} {xs : List Int} {most : Int} {w : World}
theorem tk_at (xs : List Int) (k j : Nat) (hj : j < 17) : (tk xs k).getD j 0 = xs.getD (k * 17 + j) 0 := by
  simp [tk, List.getElem?_take_of_lt hj, Nat.mul_comm]

set_option maxHeartbeats 1000000 in
theorem r_in (h : Tab 47 57 B w p sv n xs most) (st : Int) :
    Calls Try.prog 17 #[.pointer (some ⟨p, 0, none⟩), .int .i64 st] w fun e w' => ∃ v, e = .returned v ∧ Ints w' v (sel (inF st) xs n) ∧ New w w' := by
  obtain ⟨s, cap, rfl, hc⟩ := h.shape
  have h0 := cell_of h.head 0
  simp only [List.getElem?_toArray, List.getElem?_cons_zero] at h0
  have hpl := lt_of h.head
  have H := Lib.hid h
  have hsm := h.small
  obtain ⟨i0, hi, hz0, hz1, hz2⟩ := info_parts info3
  clear h
  go_enter Try.func17, Try.ntmps17
  go_wp2_with fail
  go_loopw [5, 6] (fun v i wr => ∃ k : Nat, k ≤ n ∧ i = .int .i64 k ∧ New w wr ∧ wr.ownsRow w.heap.size 3 1 v (sel (inF st) xs k).length ((sel (inF st) xs k).map (Value.int .i64))) (fun _ i _ => n - (intOf i).toNat)
  case atStart => exact ⟨0, Nat.zero_le _, rfl, new_alloc _ _, World.ownsRow_lit _ #[] 0 (Nat.le_refl _) (by simp) rfl⟩
  case round =>
    obtain ⟨k, hk, rfl, hN, hO⟩ := hrel
    have HN := Lib.hid hN
    have HO := Lib.hid hO
    have hb := hN.size
    have hl := sel_len (inF st) xs k
    have h0r := (New.cell hN (p := ⟨p, 0, none⟩) hpl).trans h0
    clear hN hO h0
    by_cases hlt : k < n
    · obtain ⟨g, cap', cur, e1, _, _, hg, _, _, _, ht⟩ := H.out.block (by omega)
      cases e1
      have k0 := (H.out.new HN.out).cell' hlt 0 (by omega)
      have HF := Lib.hid (show inF st (tk xs k) = (xs.getD (k * 17) 0 == st) by unfold inF; rw [tk_at _ _ _ (by omega)]; rfl)
      have HS0 := sel_succ (inF st) xs k
      rw [Nat.add_zero] at k0
      clear hg ht
      generalize xs.getD (k * 17) 0 = v0 at k0 HF
      cases hfk : v0 == st
      · have HS := Lib.hid (show sel (inF st) xs (k + 1) = sel (inF st) xs k by rw [HS0, HF.out, hfk]; simp)
        clear HS0
        go_wp2_with fail
        go_roundw
        case rel => exact ⟨k + 1, by omega, by go_num, HN.out, by rw [HS.out]; exact HO.out⟩
        case measure => simp [intOf]; omega
      · have HS := Lib.hid (show sel (inF st) xs (k + 1) = sel (inF st) xs k ++ [(k : Int)] by rw [HS0, HF.out, hfk]; simp)
        clear HS0
        go_wp2_with (at_builtin; refine wpList_append_own _ rfl _ _ 49 rfl w.heap.size 3 i0 _ 1 8 Try.underlying49 hi hz0 hz1 hz2 rfl (by decide) _ _ _ rfl (owns_new HO.out (new_alloc _ _)) ⟨wr.heap.size, 0, none⟩ 1 1 [.int .i64 k] rfl rfl (cell_one_new _ _ _) (by simp [Value.oneCell']) (by unfold maxLen; omega) (by omega) (by simp; omega) ?_)
        intro v' w1 hown1 hgrow _
        have HG := Lib.hid ((HN.out.alloc (.cells #[.int .i64 k] 3)).grown hgrow (fun q e => .inr (HO.out.lt q e).1))
        have HO1 := Lib.hid hown1
        clear hown1 hgrow
        go_wp2_with fail
        go_roundw
        case rel => exact ⟨k + 1, by omega, by go_num, HG.out, by rw [HS.out, List.length_append, List.map_append]; exact HO1.out⟩
        case measure => simp [intOf]; omega
    · have e : k = n := by omega
      subst e
      go_wp2_with fail
      go_ret
      exact ⟨_, rfl, ⟨owns_base HO.out (Nat.zero_le _), by omega⟩, HN.out⟩

set_option maxHeartbeats 1000000 in
theorem r_under (h : Tab 47 57 B w p sv n xs most) (st : Int) :
    Calls Try.prog 19 #[.pointer (some ⟨p, 0, none⟩), .int .i64 st] w fun e w' => ∃ v, e = .returned v ∧ Ints w' v (sel (underF st) xs n) ∧ New w w' := by
  obtain ⟨s, cap, rfl, hc⟩ := h.shape
  have h0 := cell_of h.head 0
  simp only [List.getElem?_toArray, List.getElem?_cons_zero] at h0
  have hpl := lt_of h.head
  have H := Lib.hid h
  have hsm := h.small
  obtain ⟨i0, hi, hz0, hz1, hz2⟩ := info_parts info3
  clear h
  go_enter Try.func19, Try.ntmps19
  go_wp2_with fail
  go_loopw [5, 6] (fun v i wr => ∃ k : Nat, k ≤ n ∧ i = .int .i64 k ∧ New w wr ∧ wr.ownsRow w.heap.size 3 1 v (sel (underF st) xs k).length ((sel (underF st) xs k).map (Value.int .i64))) (fun _ i _ => n - (intOf i).toNat)
  case atStart => exact ⟨0, Nat.zero_le _, rfl, new_alloc _ _, World.ownsRow_lit _ #[] 0 (Nat.le_refl _) (by simp) rfl⟩
  case round =>
    obtain ⟨k, hk, rfl, hN, hO⟩ := hrel
    have HN := Lib.hid hN
    have HO := Lib.hid hO
    have hb := hN.size
    have hl := sel_len (underF st) xs k
    have h0r := (New.cell hN (p := ⟨p, 0, none⟩) hpl).trans h0
    clear hN hO h0
    by_cases hlt : k < n
    · obtain ⟨g, cap', cur, e1, _, _, hg, _, _, _, ht⟩ := H.out.block (by omega)
      cases e1
      have k0 := (H.out.new HN.out).cell' hlt 0 (by omega)
      have k12 := (H.out.new HN.out).cell' hlt 12 (by omega)
      have HF := Lib.hid (show underF st (tk xs k) = (decide (0 ≤ st) && (xs.getD (k * 17) 0 == 2) && (xs.getD (k * 17 + 12) 0 == st)) by unfold underF; rw [tk_at _ _ _ (by omega), tk_at _ _ _ (by omega)]; rfl)
      have HS0 := sel_succ (underF st) xs k
      rw [Nat.add_zero] at k0
      clear hg ht
      generalize xs.getD (k * 17) 0 = v0 at k0 HF
      generalize xs.getD (k * 17 + 12) 0 = v12 at k12 HF
      cases hfk : (decide (0 ≤ st) && (v0 == 2) && (v12 == st))
      · have HS := Lib.hid (show sel (underF st) xs (k + 1) = sel (underF st) xs k by rw [HS0, HF.out, hfk]; simp)
        clear HS0
        have FIN := Lib.hid (show ∃ k_1 : Nat, k_1 ≤ n ∧ Value.int .i64 ((k : Int) + 1) = .int .i64 k_1 ∧ New w wr ∧ wr.ownsRow w.heap.size 3 1 u5 (sel (underF st) xs k_1).length ((sel (underF st) xs k_1).map (Value.int .i64)) from
          ⟨k + 1, by omega, by go_num, HN.out, by rw [HS.out]; exact HO.out⟩)
        by_cases hs0 : 0 ≤ st
        · rw [decide_eq_true hs0, Bool.true_and] at hfk
          cases h2 : v0 == 2
          · clear hfk
            go_wp2_with fail
            go_roundw
            case rel => exact FIN.out
            case measure => simp [intOf]; omega
          · rw [h2, Bool.true_and] at hfk
            go_wp2_with fail
            go_roundw
            case rel => exact FIN.out
            case measure => simp [intOf]; omega
        · clear hfk
          go_wp2_with fail
          go_roundw
          case rel => exact FIN.out
          case measure => simp [intOf]; omega
      · have HS := Lib.hid (show sel (underF st) xs (k + 1) = sel (underF st) xs k ++ [(k : Int)] by rw [HS0, HF.out, hfk]; simp)
        clear HS0
        rw [Bool.and_eq_true, Bool.and_eq_true, decide_eq_true_eq] at hfk
        obtain ⟨⟨hs0, h2⟩, h3⟩ := hfk
        go_wp2_with (at_builtin; refine wpList_append_own _ rfl _ _ 49 rfl w.heap.size 3 i0 _ 1 8 Try.underlying49 hi hz0 hz1 hz2 rfl (by decide) _ _ _ rfl (owns_new HO.out (new_alloc _ _)) ⟨wr.heap.size, 0, none⟩ 1 1 [.int .i64 k] rfl rfl (cell_one_new _ _ _) (by simp [Value.oneCell']) (by unfold maxLen; omega) (by omega) (by simp; omega) ?_)
        intro v' w1 hown1 hgrow _
        have HG := Lib.hid ((HN.out.alloc (.cells #[.int .i64 k] 3)).grown hgrow (fun q e => .inr (HO.out.lt q e).1))
        have HO1 := Lib.hid hown1
        clear hown1 hgrow
        go_wp2_with fail
        go_roundw
        case rel => exact ⟨k + 1, by omega, by go_num, HG.out, by rw [HS.out, List.length_append, List.map_append]; exact HO1.out⟩
        case measure => simp [intOf]; omega
    · have e : k = n := by omega
      subst e
      go_wp2_with fail
      go_ret
      exact ⟨_, rfl, ⟨owns_base HO.out (Nat.zero_le _), by omega⟩, HN.out⟩
end Go.Proofs.Ytdbdpmpnblmfkaa

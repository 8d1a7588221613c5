import Derived.Test.YtffehagmchcpkaaK6
import Derived.Test.YtffehagmchcpkaaChecked
namespace Go.Proofs.Ytffehagmchcpkaa
open Go.RowKit Go.Proofs.Cmd
theorem same_c (va vb : Value) (la lb : List Int) (w : World) (ha : Ints w va la) (hb : Ints w vb lb) :
    Calls Try.prog 43 #[va, vb] w fun e w' => e = .returned (.bool (decide (la = lb))) ∧ New w w' := by
  obtain ⟨a, ca, rfl, hla, hca, hma, hA⟩ := ha.open
  obtain ⟨b, cb, rfl, hlb, hcb, hmb, hB⟩ := hb.open
  unfold maxLen at hma hmb
  have HA := Lib.hid hA
  have HB := Lib.hid hB
  clear ha hb hA hB
  by_cases hl : la.length = lb.length
  · have hl1 : ((la.length : Int) != lb.length) = false := by simp; omega
    have hl2 : ((la.length : Int) == lb.length) = true := by simp; omega
    have HL := Lib.hid hl
    clear hl
    go_enter Try.func43, Try.ntmps43
    go_wp2_with fail
    go_loopw [5] (fun i wr => ∃ k : Nat, k ≤ la.length ∧ i = .int .i64 k ∧ New w wr ∧ la.take k = lb.take k) (fun i _ => la.length - (intOf i).toNat)
    case atStart => exact ⟨0, Nat.zero_le _, rfl, Upd.refl _ _, by simp⟩
    case round =>
      obtain ⟨k, hk, rfl, hN, hT⟩ := hrel
      have HN := Lib.hid hN
      have HT := Lib.hid hT
      clear hN hT
      by_cases hlt : k < la.length
      · obtain ⟨ga, rfl, hca'⟩ := HA.out k hlt
        obtain ⟨gb, rfl, hcb'⟩ := HB.out k (by have := HL.out; omega)
        have kb : k < lb.length := by have := HL.out; omega
        have qa := (New.cell HN.out (World.block_lt_of_cell? w _ hca')).trans hca'
        have qb := (New.cell HN.out (World.block_lt_of_cell? w _ hcb')).trans hcb'
        have ea : la[k]?.getD 0 = la[k] := by simp [hlt]
        have eb : lb[k]?.getD 0 = lb[k] := by simp [kb]
        rw [ea] at qa; rw [eb] at qb
        have hka : (0 : Int) ≤ (k : Int) := by omega
        have hkb : (k : Int) < (la.length : Int) := by omega
        have hkc : (k : Int) < (lb.length : Int) := by omega
        clear hca' hcb' ea eb
        by_cases he : la[k] = lb[k]
        · have hne : (la[k] != lb[k]) = false := by simpa using he
          have HE := Lib.hid he
          clear he
          go_wp2_with fail
          go_quiet (fail)
          go_wp2_with fail
          go_roundw
          case rel => exact ⟨k + 1, by omega, by go_num, HN.out.drewN _, by rw [List.take_succ_eq_append_getElem hlt, List.take_succ_eq_append_getElem kb, HT.out, HE.out]⟩
          case measure => simp [intOf]; omega
        · have hne : (la[k] != lb[k]) = true := by simpa using he
          have HF := Lib.hid (show decide (la = lb) = false by
            simp only [decide_eq_false_iff_not]; intro e; subst e; exact he rfl)
          clear he
          go_wp2_with fail
          go_quiet (fail)
          go_wp2_with fail
          go_ret
          rw [HF.out]
          exact ⟨rfl, HN.out.drewN _⟩
      · have HF := Lib.hid (show decide (la = lb) = true by
          have e : k = la.length := by omega
          have h2 := HT.out
          rw [e, List.take_length, HL.out, List.take_length] at h2
          simpa using h2)
        go_wp2_with fail
        go_ret
        rw [HF.out]
        exact ⟨rfl, HN.out⟩
  · have HF := Lib.hid (show decide (la = lb) = false by simp; intro e; exact hl (by rw [e]))
    have hl1 : ((la.length : Int) != lb.length) = true := by simp; omega
    have hl2 : ((la.length : Int) == lb.length) = false := by simp; omega
    clear hl
    go_enter Try.func43, Try.ntmps43
    go_wp2_with fail
    go_ret
    rw [HF.out]
    exact ⟨rfl, Upd.refl _ _⟩
end Go.Proofs.Ytffehagmchcpkaa

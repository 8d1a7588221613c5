import Derived.Test.YtdbdpmpnblmfkaaT10
namespace Go.Proofs.Ytdbdpmpnblmfkaa
open Go.RowKit Go.Proofs.Cmd
variable {B p n : Nat} {sv : Value} {xs : List Int} {most : Int} {w : World}

theorem r_new_bad (n : Int) (w : World) (h : n < 1 ∨ 200 < n) : Calls Try.prog 6 #[.int .i64 n] w fun e w' => e = .returned (.tuple #[.pointer none, .int .i64 1]) ∧ w = w' := by
  by_cases h1 : n < 1
  · clear h
    go_enter Try.func6, Try.ntmps6
    go_wp2
    go_ret2
    exact ⟨rfl, rfl⟩
  · have h2 : 200 < n := by omega
    have h3 : 1 ≤ n := by omega
    clear h h1
    go_enter Try.func6, Try.ntmps6
    go_wp2
    go_ret2
    exact ⟨rfl, rfl⟩
theorem r_new_good (n : Int) (w : World) (h : 1 ≤ n) (h2 : n ≤ 200) : Calls Try.prog 6 #[.int .i64 n] w fun e w' => e = .returned (.tuple #[.pointer (some ⟨w.heap.size, 0, none⟩), .int .i64 0]) ∧ w' = w.alloc (.cells #[.slice none 0 0, .int .i64 n] 47) := by
  go_enter Try.func6, Try.ntmps6
  go_wp2
  go_ret2
  exact ⟨rfl, rfl⟩

theorem r_wake (h : Tab 47 57 B w p sv n xs most) (hv : Val n xs) (i a : Int) :
    Calls Try.prog 12 #[.pointer (some ⟨p, 0, none⟩), .int .i64 i, .int .i64 a] w (Did 47 57 B p sv n most (mayDo prk n xs i) (wokeX n xs i a) w) := by
  have IS := Lib.hid (r_is h i 2)
  have H := Lib.hid h
  have HM := Lib.hid (mayDo_prk n xs i)
  cases hb : isB n xs i 2
  · have HB := Lib.hid hb
    clear h hb
    go_enter Try.func12, Try.ntmps12
    go_wp2_with fail
    refine IS.out.mono ?_; rintro e w' ⟨rfl, rfl⟩
    rw [HB.out]
    go_wp2_with fail
    go_ret
    unfold wokeX; rw [HM.out, HB.out]
    exact ⟨rfl, H.out, Upd.refl _ _⟩
  · have HB := Lib.hid hb
    have hl : mayDo liv n xs i = true := by rw [mayDo_liv hv, hb]; simp
    obtain ⟨k, rfl, hk⟩ := isB_in hb
    obtain ⟨g, cap, cur, rfl, _⟩ := h.block (by omega)
    have hs := h.small
    have h1 := cell_of h.head 0
    simp only [List.getElem?_toArray, List.getElem?_cons_zero] at h1
    have k13 := h.cell' hk 13 (by omega)
    have hgp : g ≠ p := fun e => h.two (by simp [Value.ownBlock, e])
    have SET := Lib.hid (r_set h hv k (xs.getD (k * 17 + 13) 0) a)
    have HW := Lib.hid (show setW ((setX n xs k (xs.getD (k * 17 + 13) 0) a).set (k * 17) 1) k 0 0 0 0 0 0 = wakeX xs k a from by
      unfold setX wakeX isReg
      rw [hl, Nat.mul_comm k 17, Bool.true_and, Int.toNat_natCast]
      simp only [Bool.and_eq_true, decide_eq_true_eq]
      split <;> rfl)
    clear h hb hl
    generalize xs.getD (k * 17 + 13) 0 = v13 at k13 SET HW
    generalize hys : setX n xs k v13 a = ys at SET HW
    clear hys
    go_enter Try.func12, Try.ntmps12
    go_wp2_with fail
    refine IS.out.mono ?_; rintro e w' ⟨rfl, rfl⟩
    rw [HB.out]
    go_wp2_with fail
    refine SET.out.mono ?_; rintro e w1 ⟨rfl, h, hu⟩
    have h1 := cell_of h.head 0
    simp only [List.getElem?_toArray, List.getElem?_cons_zero] at h1
    have k0 := h.cell' hk 0 (by omega)
    have k10 := h.cell' hk 10 (by omega)
    have k11 := h.cell' hk 11 (by omega)
    have k12 := h.cell' hk 12 (by omega)
    have k13 := h.cell' hk 13 (by omega)
    have k14 := h.cell' hk 14 (by omega)
    have k15 := h.cell' hk 15 (by omega)
    have f := h.frozen
    rw [Nat.add_zero] at k0
    have H1 := Lib.hid h
    have U1 := Lib.hid hu
    clear h hu
    generalize ys.getD (k * 17) 0 = v0 at k0
    generalize ys.getD (k * 17 + 10) 0 = v10 at k10
    generalize ys.getD (k * 17 + 11) 0 = v11 at k11
    generalize ys.getD (k * 17 + 12) 0 = v12 at k12
    generalize ys.getD (k * 17 + 13) 0 = v13' at k13
    generalize ys.getD (k * 17 + 14) 0 = v14 at k14
    generalize ys.getD (k * 17 + 15) 0 = v15 at k15
    go_wp2_with fail
    go_ret
    unfold wokeX; rw [HM.out, HB.out, if_pos rfl, Int.toNat_natCast, ← HW.out]
    refine ⟨rfl, ?_, U1.out.trans (by (repeat' (first | with_reducible exact Upd.refl _ _ | with_reducible apply Upd.setCell | with_reducible apply Upd.alloc | with_reducible apply Upd.drew | exact Or.inl rfl | (right; simp; omega))))⟩
    simp only [setW, Nat.mul_comm 17 k]
    exact ((((((H1.out.set _ _).set _ _).set _ _).set _ _).set _ _).set _ _).set _ _

theorem same_c (va vb : Value) (la lb : List Int) (w : World) (ha : Ints w va la) (hb : Ints w vb lb) :
    Calls Try.prog 15 #[va, vb] w fun e w' => e = .returned (.bool (decide (la = lb))) ∧ New w w' := by
  obtain ⟨a, ca, rfl, hla, hca, hma, hA⟩ := ha.open
  obtain ⟨b, cb, rfl, hlb, hcb, hmb, hB⟩ := hb.open
  unfold maxLen at hma hmb
  have HA := Lib.hid hA
  have HB := Lib.hid hB
  clear ha hb hA hB
  by_cases hl : la.length = lb.length
  · have hl1 : ((la.length : Int) != lb.length) = false := by simp; omega
    have hl2 : ((la.length : Int) == lb.length) = true := by simp; omega
    have HL := Lib.hid hl
    clear hl
    go_enter Try.func15, Try.ntmps15
    go_wp2_with fail
    go_loopw [5] (fun i wr => ∃ k : Nat, k ≤ la.length ∧ i = .int .i64 k ∧ New w wr ∧ la.take k = lb.take k) (fun i _ => la.length - (intOf i).toNat)
    case atStart => exact ⟨0, Nat.zero_le _, rfl, Upd.refl _ _, by simp⟩
    case round =>
      obtain ⟨k, hk, rfl, hN, hT⟩ := hrel
      have HN := Lib.hid hN
      have HT := Lib.hid hT
      clear hN hT
      by_cases hlt : k < la.length
      · obtain ⟨ga, rfl, hca'⟩ := HA.out k hlt
        obtain ⟨gb, rfl, hcb'⟩ := HB.out k (by have := HL.out; omega)
        have kb : k < lb.length := by have := HL.out; omega
        have qa := (New.cell HN.out (World.block_lt_of_cell? w _ hca')).trans hca'
        have qb := (New.cell HN.out (World.block_lt_of_cell? w _ hcb')).trans hcb'
        have ea : la[k]?.getD 0 = la[k] := by simp [hlt]
        have eb : lb[k]?.getD 0 = lb[k] := by simp [kb]
        rw [ea] at qa; rw [eb] at qb
        have hka : (0 : Int) ≤ (k : Int) := by omega
        have hkb : (k : Int) < (la.length : Int) := by omega
        have hkc : (k : Int) < (lb.length : Int) := by omega
        clear hca' hcb' ea eb
        by_cases he : la[k] = lb[k]
        · have hne : (la[k] != lb[k]) = false := by simpa using he
          have HE := Lib.hid he
          clear he
          go_wp2_with fail
          go_quiet (fail)
          go_wp2_with fail
          go_roundw
          case rel => exact ⟨k + 1, by omega, by go_num, HN.out.drewN _, by rw [List.take_succ_eq_append_getElem hlt, List.take_succ_eq_append_getElem kb, HT.out, HE.out]⟩
          case measure => simp [intOf]; omega
        · have hne : (la[k] != lb[k]) = true := by simpa using he
          have HF := Lib.hid (show decide (la = lb) = false by
            simp only [decide_eq_false_iff_not]; intro e; subst e; exact he rfl)
          clear he
          go_wp2_with fail
          go_quiet (fail)
          go_wp2_with fail
          go_ret
          rw [HF.out]
          exact ⟨rfl, HN.out.drewN _⟩
      · have HF := Lib.hid (show decide (la = lb) = true by
          have e : k = la.length := by omega
          have h2 := HT.out
          rw [e, List.take_length, HL.out, List.take_length] at h2
          simpa using h2)
        go_wp2_with fail
        go_ret
        rw [HF.out]
        exact ⟨rfl, HN.out⟩
  · have HF := Lib.hid (show decide (la = lb) = false by simp; intro e; exact hl (by rw [e]))
    have hl1 : ((la.length : Int) != lb.length) = true := by simp; omega
    have hl2 : ((la.length : Int) == lb.length) = false := by simp; omega
    clear hl
    go_enter Try.func15, Try.ntmps15
    go_wp2_with fail
    go_ret
    rw [HF.out]
    exact ⟨rfl, Upd.refl _ _⟩
theorem info57 : (Try.prog.info? 57).map (·.size) = some 17 := by kernel_rfl
theorem flat57 : flat64 Try.prog 5 57 = some 17 := by kernel_rfl
theorem info57' : (Try.prog.info? 57).map (fun i => (i.zero, i.size, i.bytes)) = some (some (.agg #[.int .i64 0, .int .i64 0, .int .i64 0, .int .i64 0, .int .i64 0, .int .i64 0, .int .i64 0, .int .i64 0, .int .i64 0, .int .i64 0, .int .i64 0, .int .i64 0, .int .i64 0, .int .i64 0, .int .i64 0, .int .i64 0, .int .i64 0]), 17, 136) := by kernel_rfl

theorem own_c (r : List Int) (hr : r.length = 17) (w : World) :
    Calls Try.prog 22 #[.agg (r.map (Value.int .i64)).toArray] w fun e w' => e = .returned (.agg (r.map (Value.int .i64)).toArray) ∧ New w w' := by
  match r, hr with
  | [a0, a1, a2, a3, a4, a5, a6, a7, a8, a9, a10, a11, a12, a13, a14, a15, a16], _ =>
  simp only [List.map_cons, List.map_nil]
  go_enter Try.func22, Try.ntmps22
  go_wp2
  exact bodyPost_ret (results_cell_row (fn := Try.f22) (p := 2) rfl _ _ (w.heap.size + 1) 57 #[.int .i64 a0, .int .i64 a1, .int .i64 a2, .int .i64 a3, .int .i64 a4, .int .i64 a5, .int .i64 a6, .int .i64 a7, .int .i64 a8, .int .i64 a9, .int .i64 a10, .int .i64 a11, .int .i64 a12, .int .i64 a13, .int .i64 a14, .int .i64 a15, .int .i64 a16] (0, 0) _ (by rfl) (heap_at _ (by simp)) Try.underlying57 rfl (by rw [info57]; rfl)) rfl ⟨rfl, (new_alloc _ _).trans (new_alloc _ _)⟩

theorem r_get_out (h : Tab 47 57 B w p sv n xs most) (i : Int) (hi : i < 0 ∨ n ≤ i) :
    Calls Try.prog 21 #[.pointer (some ⟨p, 0, none⟩), .int .i64 i] w fun e w' => e = .returned (.tuple #[.agg (zer.map (Value.int .i64)).toArray, .bool false]) ∧ New w w' := by
  obtain ⟨a, cap, rfl, hc⟩ := h.shape
  have h1 := cell_of h.head 0
  simp only [List.getElem?_toArray, List.getElem?_cons_zero] at h1
  have hpl := lt_of h.head
  clear h
  by_cases h0 : i < 0
  · clear hi
    go_enter Try.func21, Try.ntmps21
    go_wp2_with fail
    exact bodyPost_ret (results_celltmp (fn := Try.f21) (p := 4) (t := 5) rfl _ _ w.heap.size 57 #[.int .i64 0, .int .i64 0, .int .i64 0, .int .i64 0, .int .i64 0, .int .i64 0, .int .i64 0, .int .i64 0, .int .i64 0, .int .i64 0, .int .i64 0, .int .i64 0, .int .i64 0, .int .i64 0, .int .i64 0, .int .i64 0, .int .i64 0] (0, 0) _ (by rfl) (heap_at _ rfl) Try.underlying57 rfl (by rw [info57]; rfl)) rfl ⟨rfl, new_alloc _ _⟩
  · have hi : (n : Int) ≤ i := by omega
    have hi0 : 0 ≤ i := by omega
    clear h0
    go_enter Try.func21, Try.ntmps21
    go_wp2_with fail
    exact bodyPost_ret (results_celltmp (fn := Try.f21) (p := 4) (t := 5) rfl _ _ w.heap.size 57 #[.int .i64 0, .int .i64 0, .int .i64 0, .int .i64 0, .int .i64 0, .int .i64 0, .int .i64 0, .int .i64 0, .int .i64 0, .int .i64 0, .int .i64 0, .int .i64 0, .int .i64 0, .int .i64 0, .int .i64 0, .int .i64 0, .int .i64 0] (0, 0) _ (by rfl) (heap_at _ rfl) Try.underlying57 rfl (by rw [info57]; rfl)) rfl ⟨rfl, new_alloc _ _⟩

set_option maxHeartbeats 400000 in
theorem r_get_in (h : Tab 47 57 B w p sv n xs most) (i : Int) (h0 : 0 ≤ i) (hi : i < n) :
    Calls Try.prog 21 #[.pointer (some ⟨p, 0, none⟩), .int .i64 i] w fun e w' => e = .returned (.tuple #[.agg ((tk xs i.toNat).map (Value.int .i64)).toArray, .bool true]) ∧ New w w' := by
  obtain ⟨k, rfl⟩ := Int.eq_ofNat_of_zero_le h0
  have hk : k < n := by omega
  obtain ⟨g, cap, cur, rfl, _, _, hg, _, _, _, ht⟩ := h.block (by omega)
  have h' := h.new (new_alloc w (.cells #[.int .i64 0, .int .i64 0, .int .i64 0, .int .i64 0, .int .i64 0, .int .i64 0, .int .i64 0, .int .i64 0, .int .i64 0, .int .i64 0, .int .i64 0, .int .i64 0, .int .i64 0, .int .i64 0, .int .i64 0, .int .i64 0, .int .i64 0] 57))
  have R00 := h'.range (heap_alloc hg _) ht hk
  rw [Nat.mul_comm] at R00
  have R0 := Lib.hid R00
  have hr : (tk xs k).length = 17 := tk_len h.len (by omega)
  have HR := Lib.hid hr
  have h1 := cell_of h.head 0
  simp only [List.getElem?_toArray, List.getElem?_cons_zero] at h1
  have hpl := lt_of h.head
  have hs := h.small
  have hgp : g ≠ p := fun e => h.two (by simp [Value.ownBlock, e])
  rw [Int.toNat_natCast]
  clear h h' hg ht hr R00
  go_enter Try.func21, Try.ntmps21
  go_wp2_with (first | (refine wpList_ld (ty := 57) (x := .tmp 23) g _ _ _ (by rfl) (by rfl) R0.out Try.underlying57 rfl (by rw [info57]; simp [HR.out]) ?_) | (refine wpList_stnew (ty := 57) (x := .tmp 4) (y := .tmp 24) _ _ _ (tk xs k) (by rfl) rfl (by rfl) (by rfl) (by simp [HR.out]) (by rw [info57]; simp [HR.out]) ?_))
  exact bodyPost_ret (results_celltmp (fn := Try.f21) (p := 4) (t := 5) rfl _ _ w.heap.size 57 ((tk xs k).map (Value.int .i64)).toArray (0, 0) _ (by rfl) (heap_at _ rfl) Try.underlying57 rfl (by rw [info57]; simp [HR.out])) rfl ⟨rfl, new_alloc _ _⟩

end Go.Proofs.Ytdbdpmpnblmfkaa

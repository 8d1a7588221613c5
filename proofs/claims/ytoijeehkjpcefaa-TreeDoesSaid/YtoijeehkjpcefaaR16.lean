import Derived.Test.YtoijeehkjpcefaaR15
import Derived.Test.YtoijeehkjpcefaaK9
namespace Go.Proofs.Ytoijeehkjpcefaa
open Go.RowKit Go.Proofs.Cmd

/-- Both trees, of nodes ns. -/
def Both (w : World) (p q : Nat) (most : Int) (ns : List Nd) (wr : World) : Prop :=
  ∃ sv rv rs, New w wr ∧ nds rs = ns ∧ Tr w.heap.size wr p sv rs most ∧ Rf w.heap.size wr q rv ns most

theorem Both.new {w : World} {p q : Nat} {most : Int} {ns : List Nd} {a b : World} (h : Both w p q most ns a) (n : New a b) : Both w p q most ns b := by
  obtain ⟨sv, rv, rs, hN, hnd, hT, hR⟩ := h
  exact ⟨sv, rv, rs, hN.trans n, hnd, hT.new n, hR.new n⟩
section
variable {w : World} {p q : Nat} {most : Int} {ns : List Nd} {a : World}
theorem bo_over (h : Both w p q most ns a) (i : Int) : Calls Try.prog 13 #[.pointer (some ⟨p, 0, none⟩), .int .i64 i] a fun e w' => e = .returned (.int .i64 (overF ns i)) ∧ a = w' := by
  obtain ⟨sv, rv, rs, hN, rfl, hT, hR⟩ := h; exact over_c hT i
theorem bo_rover (h : Both w p q most ns a) (i : Int) : Calls Try.prog 14 #[.pointer (some ⟨q, 0, none⟩), .int .i64 i] a fun e w' => e = .returned (.int .i64 (overF ns i)) ∧ a = w' := by
  obtain ⟨sv, rv, rs, hN, rfl, hT, hR⟩ := h; exact r_over hR i
theorem bo_cut (h : Both w p q most ns a) (i : Int) : Calls Try.prog 15 #[.pointer (some ⟨p, 0, none⟩), .int .i64 i] a fun e w' => e = .returned (.bool (cutF ns i)) ∧ a = w' := by
  obtain ⟨sv, rv, rs, hN, rfl, hT, hR⟩ := h; exact cut_c hT i
theorem bo_rthere (h : Both w p q most ns a) (i : Int) : Calls Try.prog 16 #[.pointer (some ⟨q, 0, none⟩), .int .i64 i] a fun e w' => e = .returned (.bool (isIn ns.length i)) ∧ a = w' := by
  obtain ⟨sv, rv, rs, hN, rfl, hT, hR⟩ := h; exact r_there hR i
theorem bo_kids (h : Both w p q most ns a) (i : Int) : Calls Try.prog 18 #[.pointer (some ⟨p, 0, none⟩), .int .i64 i] a fun e w' => ∃ v, e = .returned v ∧ Ints w' v (kidsF ns i) ∧ New a w' := by
  obtain ⟨sv, rv, rs, hN, rfl, hT, hR⟩ := h; exact kids_c hT i
theorem bo_rkids (h : Both w p q most ns a) (i : Int) : Calls Try.prog 19 #[.pointer (some ⟨q, 0, none⟩), .int .i64 i] a fun e w' => ∃ v, e = .returned v ∧ Ints w' v (kidsF ns i) ∧ New a w' := by
  obtain ⟨sv, rv, rs, hN, rfl, hT, hR⟩ := h; exact (r_kids hR i).mono fun e w' ⟨v, h1, h2, h3⟩ => ⟨v, h1, h2.ints, h3⟩
theorem bo_reach (h : Both w p q most ns a) (i : Int) : Calls Try.prog 20 #[.pointer (some ⟨p, 0, none⟩), .int .i64 i] a fun e w' => ∃ v, e = .returned v ∧ Ints w' v (reachTop ns i) ∧ New a w' := by
  obtain ⟨sv, rv, rs, hN, rfl, hT, hR⟩ := h; exact reach_c hT i
theorem bo_rreach (h : Both w p q most ns a) (i : Int) : Calls Try.prog 21 #[.pointer (some ⟨q, 0, none⟩), .int .i64 i] a fun e w' => ∃ v, e = .returned v ∧ Ints w' v (reachTop ns i) ∧ New a w' := by
  obtain ⟨sv, rv, rs, hN, rfl, hT, hR⟩ := h; exact r_reach hR i
theorem bo_chain (h : Both w p q most ns a) (i : Int) : Calls Try.prog 22 #[.pointer (some ⟨p, 0, none⟩), .int .i64 i] a fun e w' => ∃ v, e = .returned v ∧ Ints w' v (upF ns true ns.length i) ∧ New a w' := by
  obtain ⟨sv, rv, rs, hN, rfl, hT, hR⟩ := h; rw [nds_len]; exact chain_c hT i
theorem bo_rchain (h : Both w p q most ns a) (i : Int) : Calls Try.prog 23 #[.pointer (some ⟨q, 0, none⟩), .int .i64 i] a fun e w' => ∃ v, e = .returned v ∧ Ints w' v (upF ns true ns.length i) ∧ New a w' := by
  obtain ⟨sv, rv, rs, hN, rfl, hT, hR⟩ := h; exact r_chain hR i
theorem bo_path (h : Both w p q most ns a) (i : Int) : Calls Try.prog 24 #[.pointer (some ⟨p, 0, none⟩), .int .i64 i] a fun e w' => ∃ v, e = .returned v ∧ Ints w' v (upF ns false ns.length i) ∧ New a w' := by
  obtain ⟨sv, rv, rs, hN, rfl, hT, hR⟩ := h; rw [nds_len]; exact path_c hT i
theorem bo_rpath (h : Both w p q most ns a) (i : Int) : Calls Try.prog 25 #[.pointer (some ⟨q, 0, none⟩), .int .i64 i] a fun e w' => ∃ v, e = .returned v ∧ Ints w' v (upF ns false ns.length i) ∧ New a w' := by
  obtain ⟨sv, rv, rs, hN, rfl, hT, hR⟩ := h; exact r_path hR i
end

set_option maxRecDepth 100000 in
set_option maxHeartbeats 20000000 in
theorem does_loop (most : Int) (la : Option Addr) (len cap : Nat) (w : World) (h1 : 1 ≤ most) (h40 : most ≤ 40) (hlen : len ≤ 40) (hlc : len ≤ cap) (hA : Acts w la len) :
    Calls Try.prog 3 #[.int .i64 most, .slice la len cap] w fun e w' => e = .returned (.bool true) ∧ New w w' := by
  have _ := hlc
  have HA := Lib.hid hA
  clear hA
  have hl1 : ¬ (40 : Int) < (len : Int) := by omega
  go_enter Try.func3, Try.ntmps3
  go_wp2_with fail
  refine (awake_c w).mono ?_; rintro e w0 ⟨rfl, hn⟩
  have N0 := Lib.hid hn
  have b0 := hn.size
  clear hn
  go_wp2_with fail
  refine (new_good most _ h1 (by omega)).mono ?_; rintro e w1 ⟨rfl, rfl⟩
  go_wp2_with fail
  refine (r_new_good most _ h1 (by omega)).mono ?_; rintro e w1 ⟨rfl, rfl⟩
  go_wp2_with fail
  have I0 : Hid (Both w w0.heap.size (w0.heap.size + 1) most [] ((w0.alloc (.cells #[.slice none 0 0, .int .i64 most] 54)).alloc (.cells #[.slice none 0 0, .int .i64 most] 39))) :=
    ⟨_, _, [], (N0.out.alloc _).alloc _, rfl, ((Tr.fresh w0 most).low b0).new (new_alloc _ _), by
      have := Rf.fresh (w0.alloc (.cells #[.slice none 0 0, .int .i64 most] 54)) most
      rw [World.size_alloc] at this
      exact this.low (by omega)⟩
  have hPw : w.heap.size ≤ w0.heap.size := b0
  generalize (w0.alloc (.cells #[.slice none 0 0, .int .i64 most] 54)).alloc (.cells #[.slice none 0 0, .int .i64 most] 39) = wI at I0 ⊢
  generalize w0.heap.size + 1 = Q at I0 ⊢
  generalize w0.heap.size = P at I0 hPw ⊢
  clear N0 b0
  go_loopw [53] (fun i wr => ∃ (k : Nat) (ns : List Nd), k ≤ len ∧ i = .int .i64 k ∧ (ns.length : Int) ≤ most ∧ Both w P Q most ns wr) (fun i _ => len - (intOf i).toNat)
  case atStart => exact ⟨0, [], by omega, rfl, by simp; omega, I0⟩
  case round =>
    obtain ⟨k, ns, hk, rfl, hnm, hB⟩ := hrel
    obtain ⟨sv, rv, rs, hN, hnd, hT, hR⟩ := hB
    have HT := Lib.hid hT
    have HR := Lib.hid hR
    have HN := Lib.hid hN
    have HND := Lib.hid hnd
    have hrl := nds_len rs
    rw [hnd] at hrl
    have HRL := Lib.hid hrl
    have hrs : rs.length < 1000 := by omega
    have hbw := hN.size
    clear hN hT hR I0 hnd hrl
    by_cases hlt : k < len
    · obtain ⟨lb, lo, rfl, hlb, r, c, o, hr⟩ := HA.out k hlt
      have R0 := range_new' hr hlb HN.out
      have c0 : wr.cell? ⟨lb, lo + k * 3, none⟩ = some (.bool r) := R0 0 _ rfl
      have c1 : wr.cell? ⟨lb, lo + k * 3 + 1, none⟩ = some (.bool c) := R0 1 _ rfl
      have c2 : wr.cell? ⟨lb, lo + k * 3 + 2, none⟩ = some (.int .i64 o) := R0 2 _ rfl
      clear hr R0
      have hX := new_alloc wr (.cells #[.bool r, .bool c, .int .i64 o] 32)
      have DC := Lib.hid (do_c (HT.out.new hX) hrs r c o)
      have HX := Lib.hid hX
      have HXB := Lib.hid (heap_at (w := wr) (k := wr.heap.size) (.cells #[.bool r, .bool c, .int .i64 o] 32) rfl)
      clear hX
      go_wp2_with fail
      refine DC.out.mono ?_
      intro e w3 hq
      rw [HND.out] at hq
      have hal := actF_len ns most r c o hnm
      have HEQ : (if r then putR ns most (-1) false else addR ns most o c) = actF ns most r c o := by
        unfold actF; rw [putR_eq ns most false (-1) hnm, addR_eq ns most c o hnm]
      have HEQ := Lib.hid HEQ
      generalize actF ns most r c o = F at hq hal HEQ
      obtain ⟨F1, F2, ns'⟩ := F
      obtain ⟨sv', rs', rfl, hT', hnd', hU'⟩ := hq
      dsimp only at hT' hnd' hU' hal ⊢
      have U3 := Lib.hid hU'
      have N3 := Lib.hid (new_step (HN.out.trans HX.out) hU' (fun q hq => (HT.out.new HX.out).blk_ge hq))
      have R3 := Lib.hid ((HR.out.new HX.out).keep (HT.out.new HX.out) hU')
      have X3 := Lib.hid (hU'.heap HXB.out (fun hb => (HT.out.new HX.out).not_blk HXB.out (by decide) (by decide) (by decide) hb))
      have x0 := cell_of X3.out 0
      have x1 := cell_of X3.out 1
      have x2 := cell_of X3.out 2
      simp only [List.getElem?_toArray, List.getElem?_cons_zero, List.getElem?_cons_succ] at x0 x1 x2
      have T3 := Lib.hid hT'
      have D3 := Lib.hid hnd'
      clear hT' hnd' hU' c0 c1 c2
      obtain ⟨hal1, hal2⟩ := hal
      have hnl : ns.length < 1000 := by omega
      cases r
      · have RA := Lib.hid (r_add R3.out hnl o c)
        simp only [Bool.false_eq_true, if_false] at HEQ
        rw [HEQ.out] at RA
        go_wp2_with fail
        refine RA.out.mono ?_
        rintro e w4 ⟨rv4, rfl, hR4, hU4⟩
        have T4 := Lib.hid (T3.out.keep R3.out hU4)
        have N4 := Lib.hid (new_step N3.out hU4 (fun k e => by subst e; exact R3.out.base))
        have R4 := Lib.hid hR4
        obtain ⟨ra, rc, hrv, _⟩ := owns_shape hR4.rows
        subst hrv
        have q0 := cell_of hR4.head 0
        simp only [List.getElem?_toArray, List.getElem?_cons_zero] at q0
        clear hR4 hU4 x0 x1 x2
        have hll := nds_len rs'
        rw [D3.out] at hll
        have LC : ∀ n, Calls Try.prog 12 #[.pointer (some ⟨P, 0, none⟩)] (w4.drewN n) fun e w' => e = .returned (.int .i64 ns'.length) ∧ w4.drewN n = w' := fun n => by
          rw [hll]; exact len_c (T4.out.new (new_drewN _ _))
        have LC := Lib.hid LC
        have n1 : (F1 != F1) = false := by simp
        have n2 : (F2 != F2) = false := by simp
        have n3 : ((ns'.length : Int) != (ns'.length : Int)) = false := by simp
        clear hll
        dsimp only
        go_wp2_with fail
        go_quiet ((go_at_call 12; exact quiet_left (LC.out _)))
        go_wp2_with fail
        go_roundw
        case rel => exact ⟨k + 1, ns', by omega, by go_num, hal1, _, _, rs', N4.out.trans (new_drewN _ _), D3.out, T4.out.new (new_drewN _ _), R4.out.new (new_drewN _ _)⟩
        case measure => simp [intOf]; omega
      · have RA := Lib.hid (r_put R3.out hnl (-1) false (by omega) (by omega))
        simp only [if_true] at HEQ
        rw [HEQ.out] at RA
        go_wp2_with fail
        refine RA.out.mono ?_
        rintro e w4 ⟨rv4, rfl, hR4, hU4⟩
        have T4 := Lib.hid (T3.out.keep R3.out hU4)
        have N4 := Lib.hid (new_step N3.out hU4 (fun k e => by subst e; exact R3.out.base))
        have R4 := Lib.hid hR4
        obtain ⟨ra, rc, hrv, _⟩ := owns_shape hR4.rows
        subst hrv
        have q0 := cell_of hR4.head 0
        simp only [List.getElem?_toArray, List.getElem?_cons_zero] at q0
        clear hR4 hU4 x0 x1 x2
        have hll := nds_len rs'
        rw [D3.out] at hll
        have LC : ∀ n, Calls Try.prog 12 #[.pointer (some ⟨P, 0, none⟩)] (w4.drewN n) fun e w' => e = .returned (.int .i64 ns'.length) ∧ w4.drewN n = w' := fun n => by
          rw [hll]; exact len_c (T4.out.new (new_drewN _ _))
        have LC := Lib.hid LC
        have n1 : (F1 != F1) = false := by simp
        have n2 : (F2 != F2) = false := by simp
        have n3 : ((ns'.length : Int) != (ns'.length : Int)) = false := by simp
        clear hll
        dsimp only
        go_wp2_with fail
        go_quiet ((go_at_call 12; exact quiet_left (LC.out _)))
        go_wp2_with fail
        go_roundw
        case rel => exact ⟨k + 1, ns', by omega, by go_num, hal1, _, _, rs', N4.out.trans (new_drewN _ _), D3.out, T4.out.new (new_drewN _ _), R4.out.new (new_drewN _ _)⟩
        case measure => simp [intOf]; omega
    · have S := Lib.hid (show Both w P Q most ns wr from ⟨sv, rv, rs, HN.out, HND.out, HT.out, HR.out⟩)
      have hns : ns.length ≤ 40 := by omega
      clear HND HRL hrs
      go_wp2_with fail
      obtain ⟨ra, rc, hrv, _⟩ := owns_shape HR.out.rows
      subst hrv
      go_loopw [15] (fun i wx => ∃ j : Int, -1 ≤ j ∧ j ≤ ns.length + 1 ∧ i = .int .i64 j ∧ New wr wx) (fun i _ => (ns.length + 1 - intOf i).toNat)
      case atStart => exact ⟨-1, by omega, by omega, rfl, Upd.refl _ _⟩
      case round =>
        obtain ⟨j, hj1, hj2, rfl, hM⟩ := hrel
        have M := Lib.hid hM
        have S1 := Lib.hid (S.out.new hM); clear S; have S := S1; clear S1
        have q0 := cell_of (HR.out.new hM).head 0
        simp only [List.getElem?_toArray, List.getElem?_cons_zero] at q0
        have n1 : (overF ns j != overF ns j) = false := by simp
        clear hM
        by_cases hle : j ≤ ns.length
        · dsimp only [List.append]
          cases hI : isIn ns.length j
          · have HC : cutF ns j = false := by simp [cutF, hI]
            have HC := Lib.hid HC
            have HI := Lib.hid hI
            clear hI
            go_wp2_with fail
            refine (bo_over S.out j).mono ?_; rintro e wx1 ⟨rfl, rfl⟩
            go_wp2_with fail
            refine (bo_rover S.out j).mono ?_; rintro e wx1 ⟨rfl, rfl⟩
            go_wp2_with fail
            refine (bo_cut S.out j).mono ?_; rintro e wx1 ⟨rfl, rfl⟩
            rw [HC.out]
            go_wp2_with fail
            refine (bo_rthere S.out j).mono ?_; rintro e wx1 ⟨rfl, rfl⟩
            rw [HI.out]
            clear q0
            go_wp2_with fail
            refine (bo_kids S.out j).mono ?_; rintro e wa1 ⟨va1, rfl, hia, hna⟩
            have S1 := Lib.hid (S.out.new hna); have M1 := Lib.hid (M.out.trans hna); have IA := Lib.hid hia; clear S M hia hna; have S := S1; have M := M1; clear S1 M1
            go_wp2_with fail
            refine (bo_rkids S.out j).mono ?_; rintro e wb1 ⟨vb1, rfl, hib, hnb⟩
            have S1 := Lib.hid (S.out.new hnb); have M1 := Lib.hid (M.out.trans hnb); have IA1 := Lib.hid (IA.out.new hnb); have IB := Lib.hid hib; clear S M IA hib hnb; have S := S1; have M := M1; have IA := IA1; clear S1 M1 IA1
            go_wp2_with fail
            refine (same_c va1 vb1 _ _ _ IA.out IB.out).mono ?_; intro e wc1 hq
            rw [show decide (kidsF ns j = kidsF ns j) = true from decide_eq_true rfl] at hq
            obtain ⟨rfl, hnc⟩ := hq
            have S1 := Lib.hid (S.out.new hnc); have M1 := Lib.hid (M.out.trans hnc); clear S M IA IB hnc; have S := S1; have M := M1; clear S1 M1
            go_wp2_with fail
            refine (bo_reach S.out j).mono ?_; rintro e wa2 ⟨va2, rfl, hia, hna⟩
            have S1 := Lib.hid (S.out.new hna); have M1 := Lib.hid (M.out.trans hna); have IA := Lib.hid hia; clear S M hia hna; have S := S1; have M := M1; clear S1 M1
            go_wp2_with fail
            refine (bo_rreach S.out j).mono ?_; rintro e wb2 ⟨vb2, rfl, hib, hnb⟩
            have S1 := Lib.hid (S.out.new hnb); have M1 := Lib.hid (M.out.trans hnb); have IA1 := Lib.hid (IA.out.new hnb); have IB := Lib.hid hib; clear S M IA hib hnb; have S := S1; have M := M1; have IA := IA1; clear S1 M1 IA1
            go_wp2_with fail
            refine (same_c va2 vb2 _ _ _ IA.out IB.out).mono ?_; intro e wc2 hq
            rw [show decide (reachTop ns j = reachTop ns j) = true from decide_eq_true rfl] at hq
            obtain ⟨rfl, hnc⟩ := hq
            have S1 := Lib.hid (S.out.new hnc); have M1 := Lib.hid (M.out.trans hnc); clear S M IA IB hnc; have S := S1; have M := M1; clear S1 M1
            go_wp2_with fail
            refine (bo_chain S.out j).mono ?_; rintro e wa3 ⟨va3, rfl, hia, hna⟩
            have S1 := Lib.hid (S.out.new hna); have M1 := Lib.hid (M.out.trans hna); have IA := Lib.hid hia; clear S M hia hna; have S := S1; have M := M1; clear S1 M1
            go_wp2_with fail
            refine (bo_rchain S.out j).mono ?_; rintro e wb3 ⟨vb3, rfl, hib, hnb⟩
            have S1 := Lib.hid (S.out.new hnb); have M1 := Lib.hid (M.out.trans hnb); have IA1 := Lib.hid (IA.out.new hnb); have IB := Lib.hid hib; clear S M IA hib hnb; have S := S1; have M := M1; have IA := IA1; clear S1 M1 IA1
            go_wp2_with fail
            refine (same_c va3 vb3 _ _ _ IA.out IB.out).mono ?_; intro e wc3 hq
            rw [show decide (upF ns true ns.length j = upF ns true ns.length j) = true from decide_eq_true rfl] at hq
            obtain ⟨rfl, hnc⟩ := hq
            have S1 := Lib.hid (S.out.new hnc); have M1 := Lib.hid (M.out.trans hnc); clear S M IA IB hnc; have S := S1; have M := M1; clear S1 M1
            go_wp2_with fail
            refine (bo_path S.out j).mono ?_; rintro e wa4 ⟨va4, rfl, hia, hna⟩
            have S1 := Lib.hid (S.out.new hna); have M1 := Lib.hid (M.out.trans hna); have IA := Lib.hid hia; clear S M hia hna; have S := S1; have M := M1; clear S1 M1
            go_wp2_with fail
            refine (bo_rpath S.out j).mono ?_; rintro e wb4 ⟨vb4, rfl, hib, hnb⟩
            have S1 := Lib.hid (S.out.new hnb); have M1 := Lib.hid (M.out.trans hnb); have IA1 := Lib.hid (IA.out.new hnb); have IB := Lib.hid hib; clear S M IA hib hnb; have S := S1; have M := M1; have IA := IA1; clear S1 M1 IA1
            go_wp2_with fail
            refine (same_c va4 vb4 _ _ _ IA.out IB.out).mono ?_; intro e wc4 hq
            rw [show decide (upF ns false ns.length j = upF ns false ns.length j) = true from decide_eq_true rfl] at hq
            obtain ⟨rfl, hnc⟩ := hq
            have S1 := Lib.hid (S.out.new hnc); have M1 := Lib.hid (M.out.trans hnc); clear S M IA IB hnc; have S := S1; have M := M1; clear S1 M1
            go_wp2_with fail
            go_roundw
            case rel => exact ⟨j + 1, by omega, by omega, by go_num, M.out⟩
            case measure => simp [intOf]; omega
          · obtain ⟨m, hjm, hm⟩ := isIn_nat hI
            have HI := Lib.hid hI
            have HC := Lib.hid (show cutF ns j = cutOf ns m by subst hjm; simp [cutF, hI])
            obtain ⟨g, cap', e1, _, _, _⟩ := owns_some HR.out.rows (by omega)
            cases e1
            have hrm : ns[m]? = some ns[m] := by simp [hm]
            have c1 := (HR.out.new M.out).at_ hrm 1 (by omega)
            simp only [ndV, List.getElem?_cons_zero, List.getElem?_cons_succ] at c1
            rw [show ns[m].2 = cutOf ns m from (cut_get hrm).symm] at c1
            have hm0 : j < (ns.length : Int) := by omega
            have hm00 : 0 ≤ j := by omega
            have hmt : j.toNat = m := by omega
            rw [← hmt] at c1 HC
            have n2 : (cutOf ns j.toNat != cutOf ns j.toNat) = false := by simp
            clear hI hrm hmt hjm
            generalize cutOf ns j.toNat = cc at c1 n2 HC
            go_wp2_with fail
            refine (bo_over S.out j).mono ?_; rintro e wx1 ⟨rfl, rfl⟩
            go_wp2_with fail
            refine (bo_rover S.out j).mono ?_; rintro e wx1 ⟨rfl, rfl⟩
            go_wp2_with fail
            refine (bo_cut S.out j).mono ?_; rintro e wx1 ⟨rfl, rfl⟩
            rw [HC.out]
            go_wp2_with fail
            refine (bo_rthere S.out j).mono ?_; rintro e wx1 ⟨rfl, rfl⟩
            rw [HI.out]
            go_wp2_with fail
            refine (bo_kids S.out j).mono ?_; rintro e wd1 ⟨va1, rfl, hia, hna⟩
            have S1 := Lib.hid (S.out.new hna); have M1 := Lib.hid (M.out.trans hna); have IA := Lib.hid hia; clear S M hia hna; have S := S1; have M := M1; clear S1 M1
            go_wp2_with fail
            refine (bo_rkids S.out j).mono ?_; rintro e we1 ⟨vb1, rfl, hib, hnb⟩
            have S1 := Lib.hid (S.out.new hnb); have M1 := Lib.hid (M.out.trans hnb); have IA1 := Lib.hid (IA.out.new hnb); have IB := Lib.hid hib; clear S M IA hib hnb; have S := S1; have M := M1; have IA := IA1; clear S1 M1 IA1
            go_wp2_with fail
            refine (same_c va1 vb1 _ _ _ IA.out IB.out).mono ?_; intro e wf1 hq
            rw [show decide (kidsF ns j = kidsF ns j) = true from decide_eq_true rfl] at hq
            obtain ⟨rfl, hnc⟩ := hq
            have S1 := Lib.hid (S.out.new hnc); have M1 := Lib.hid (M.out.trans hnc); clear S M IA IB hnc; have S := S1; have M := M1; clear S1 M1
            go_wp2_with fail
            refine (bo_reach S.out j).mono ?_; rintro e wd2 ⟨va2, rfl, hia, hna⟩
            have S1 := Lib.hid (S.out.new hna); have M1 := Lib.hid (M.out.trans hna); have IA := Lib.hid hia; clear S M hia hna; have S := S1; have M := M1; clear S1 M1
            go_wp2_with fail
            refine (bo_rreach S.out j).mono ?_; rintro e we2 ⟨vb2, rfl, hib, hnb⟩
            have S1 := Lib.hid (S.out.new hnb); have M1 := Lib.hid (M.out.trans hnb); have IA1 := Lib.hid (IA.out.new hnb); have IB := Lib.hid hib; clear S M IA hib hnb; have S := S1; have M := M1; have IA := IA1; clear S1 M1 IA1
            go_wp2_with fail
            refine (same_c va2 vb2 _ _ _ IA.out IB.out).mono ?_; intro e wf2 hq
            rw [show decide (reachTop ns j = reachTop ns j) = true from decide_eq_true rfl] at hq
            obtain ⟨rfl, hnc⟩ := hq
            have S1 := Lib.hid (S.out.new hnc); have M1 := Lib.hid (M.out.trans hnc); clear S M IA IB hnc; have S := S1; have M := M1; clear S1 M1
            go_wp2_with fail
            refine (bo_chain S.out j).mono ?_; rintro e wd3 ⟨va3, rfl, hia, hna⟩
            have S1 := Lib.hid (S.out.new hna); have M1 := Lib.hid (M.out.trans hna); have IA := Lib.hid hia; clear S M hia hna; have S := S1; have M := M1; clear S1 M1
            go_wp2_with fail
            refine (bo_rchain S.out j).mono ?_; rintro e we3 ⟨vb3, rfl, hib, hnb⟩
            have S1 := Lib.hid (S.out.new hnb); have M1 := Lib.hid (M.out.trans hnb); have IA1 := Lib.hid (IA.out.new hnb); have IB := Lib.hid hib; clear S M IA hib hnb; have S := S1; have M := M1; have IA := IA1; clear S1 M1 IA1
            go_wp2_with fail
            refine (same_c va3 vb3 _ _ _ IA.out IB.out).mono ?_; intro e wf3 hq
            rw [show decide (upF ns true ns.length j = upF ns true ns.length j) = true from decide_eq_true rfl] at hq
            obtain ⟨rfl, hnc⟩ := hq
            have S1 := Lib.hid (S.out.new hnc); have M1 := Lib.hid (M.out.trans hnc); clear S M IA IB hnc; have S := S1; have M := M1; clear S1 M1
            go_wp2_with fail
            refine (bo_path S.out j).mono ?_; rintro e wd4 ⟨va4, rfl, hia, hna⟩
            have S1 := Lib.hid (S.out.new hna); have M1 := Lib.hid (M.out.trans hna); have IA := Lib.hid hia; clear S M hia hna; have S := S1; have M := M1; clear S1 M1
            go_wp2_with fail
            refine (bo_rpath S.out j).mono ?_; rintro e we4 ⟨vb4, rfl, hib, hnb⟩
            have S1 := Lib.hid (S.out.new hnb); have M1 := Lib.hid (M.out.trans hnb); have IA1 := Lib.hid (IA.out.new hnb); have IB := Lib.hid hib; clear S M IA hib hnb; have S := S1; have M := M1; have IA := IA1; clear S1 M1 IA1
            go_wp2_with fail
            refine (same_c va4 vb4 _ _ _ IA.out IB.out).mono ?_; intro e wf4 hq
            rw [show decide (upF ns false ns.length j = upF ns false ns.length j) = true from decide_eq_true rfl] at hq
            obtain ⟨rfl, hnc⟩ := hq
            have S1 := Lib.hid (S.out.new hnc); have M1 := Lib.hid (M.out.trans hnc); clear S M IA IB hnc; have S := S1; have M := M1; clear S1 M1
            go_wp2_with fail
            go_roundw
            case rel => exact ⟨j + 1, by omega, by omega, by go_num, M.out⟩
            case measure => simp [intOf]; omega
        · go_wp2_with fail
          go_ret
          exact ⟨rfl, HN.out.trans M.out⟩
end Go.Proofs.Ytoijeehkjpcefaa

/- RingOnce's walk where the rows and the nodes are few. -/
import Derived.Test.YtffehagmchcpkaaB1
import Derived.Test.YtffehagmchcpkaaA19
import Derived.Test.YtffehagmchcpkaaA17
namespace Go.Proofs.Ytffehagmchcpkaa
open Go.RowKit Go.Maps Go.Proofs.Cmd

theorem wf_small (n : Nat) (h : n ≤ 1000) : (Lit.int .i64 (n : Int)).wf = true := by
  simp [Lit.wf, IntKind.min, IntKind.max, IntKind.signed, IntKind.bits]
  omega
theorem putR_len (N : Nat) (rows : List (List Nat)) (r x : Int) (d : Bool) : (putR N rows r x d).2.length = rows.length := by
  unfold putR; split <;> simp
theorem dropR_len (rows : List (List Nat)) (x : Int) : (dropR rows x).2.length = rows.length := by
  unfold dropR; split <;> simp
theorem moveR_len (rows : List (List Nat)) (f t : Int) : (moveR rows f t).2.length = rows.length := by
  unfold moveR; split
  · split <;> simp
  · rfl
theorem actR_len (N : Nat) (rows : List (List Nat)) (d a c : Int) : (actR N rows d a c).rows.length = rows.length := by
  unfold actR
  split
  · exact putR_len ..
  split
  · exact putR_len ..
  split
  · exact dropR_len ..
  split
  · exact dropR_len ..
  split
  · exact moveR_len ..
  · rfl
/-- The arena and the world since w. -/
def One (w : World) (b : Bl) (N R : Nat) (rows : List (List Nat)) (wr : World) : Prop := Rg N rows b wr ∧ rows.length = R ∧ New w wr ∧ (∀ k, b.T k → w.heap.size ≤ k)
theorem One.new {w a c : World} {b : Bl} {N R : Nat} {rows : List (List Nat)} (h : One w b N R rows a) (u : New a c) : One w b N R rows c := ⟨h.1.new u, h.2.1, h.2.2.1.trans u, h.2.2.2⟩
theorem One.off {w a c : World} {b : Bl} {N R m : Nat} {rows : List (List Nat)} (h : One w b N R rows a) (u : Upd (fun k => k = m) a c) (hm : w.heap.size ≤ m) (hb : ∀ k, b.T k → k < m) : One w b N R rows c :=
  ⟨h.1.upd u (fun k hk e => by have := hb k hk; omega), h.2.1, new_step h.2.2.1 u (fun k e => by omega), h.2.2.2⟩

set_option maxRecDepth 100000 in
set_option maxHeartbeats 20000000 in
theorem once_loop (R N : Nat) (la : Option Addr) (len cap : Nat) (w : World) (h1 : 1 ≤ R) (h2 : R ≤ 20) (h3 : 1 ≤ N) (h4 : N ≤ 20) (hlen : len ≤ 120) (hA : Acts w la len) :
    Calls Try.prog 4 #[.int .u8 R, .int .u8 N, .slice la len cap] w fun e w' => e = .returned (.bool true) ∧ New w w' := by
  have HA := Lib.hid hA
  clear hA
  have hmm := @run_makeMap Try.prog
  have hl1 : decide ((120 : Int) < (len : Int)) = false := by simp; omega
  have z1 : ((R : Int) == 0) = false := by simp; omega
  have z2 : ((N : Int) == 0) = false := by simp; omega
  have d1 : decide ((20 : Int) < (R : Int)) = false := by simp; omega
  have d2 : decide ((20 : Int) < (N : Int)) = false := by simp; omega
  have r2 : (R : Int) ≤ 20 := by omega
  have n2 : (N : Int) ≤ 20 := by omega
  have NG := Lib.hid (fun w => new_good R N w h1 (by omega) h3 (by omega))
  go_enter Try.func4, Try.ntmps4
  go_wp2_with fail
  refine (awake_c w).mono ?_; rintro e w0 ⟨rfl, hn⟩
  have N0 := Lib.hid hn
  clear hn
  go_wp2_with fail
  refine (NG.out _).mono ?_; rintro e w1 ⟨b, rfl, hg, hn, hge⟩
  have I0 : Hid (One w b N R (List.replicate R []) w1) := ⟨hg, by simp, N0.out.trans hn, fun k hk => Nat.le_trans N0.out.size (hge k hk)⟩
  clear hg hn hge N0 NG
  go_wp2_with fail
  go_loopw [50] (fun i wr => ∃ (k : Nat) (rows : List (List Nat)), k ≤ len ∧ i = .int .i64 k ∧ One w b N R rows wr) (fun i _ => len - (intOf i).toNat)
  case atStart => exact ⟨0, _, by omega, rfl, I0⟩
  case round =>
    obtain ⟨k, rows0, hk, rfl, hB⟩ := hrel
    have S := Lib.hid hB
    clear hB I0
    by_cases hlt : k < len
    · obtain ⟨lb, lo, rfl, hlb, d, x, y, hr⟩ := HA.out k hlt
      have R0 := range_new' hr hlb S.out.2.2.1
      have c0 : wr.cell? ⟨lb, lo + k * 3, none⟩ = some (.int .i64 d) := R0 0 _ rfl
      have c1 : wr.cell? ⟨lb, lo + k * 3 + 1, none⟩ = some (.int .i64 x) := R0 1 _ rfl
      have c2 : wr.cell? ⟨lb, lo + k * 3 + 2, none⟩ = some (.int .i64 y) := R0 2 _ rfl
      clear hr R0
      have hX := new_alloc wr (.cells #[.int .i64 d, .int .i64 x, .int .i64 y] 32)
      have DC := Lib.hid (do_c (S.out.1.new hX) d x y)
      have SX := Lib.hid (S.out.new hX)
      clear hX
      go_wp2_with fail
      refine DC.out.mono ?_
      rintro e w3 ⟨rfl, hg, hu⟩
      have S3 : Hid (One w b N R (actR N rows0 d x y).rows w3) :=
        ⟨hg, by rw [actR_len]; exact S.out.2.1, new_step SX.out.2.2.1 hu (fun k hk => S.out.2.2.2 k (.inr hk)), S.out.2.2.2⟩
      clear hg hu c0 c1 c2 DC SX S
      generalize (actR N rows0 d x y).rows = rows at S3
      simp only [actV]
      go_wp2_with fail
      have hm0 := S3.out.2.2.1.size
      have hbm : ∀ k, b.T k → k < w3.heap.size := fun k hk => S3.out.1.lt hk
      have C0 := Lib.hid (cnt_made w3)
      have S4 := Lib.hid (S3.out.new (new_alloc w3 (.map #[] 0)))
      have hmb : ∀ (w w' : World) (u : Upd (fun k => k = w3.heap.size) w w') (h : One _ b N R rows w), One _ b N R rows w' := fun a c u h => h.off u hm0 hbm
      have HB := Lib.hid hmb
      clear hmb hbm S3
      generalize w3.heap.size = m at C0 HB hm0 ⊢
      generalize w3.alloc (.map #[] 0) = w4 at C0 S4 ⊢
      go_loopw [60] (fun i wx => ∃ r : Nat, r ≤ R ∧ i = .int .i64 r ∧ One w b N R rows wx ∧ Cnt m (flat (rows.take r)) wx) (fun i _ => R - (intOf i).toNat)
      case atStart => exact ⟨0, by omega, rfl, S4.out, by simpa [flat] using C0.out⟩
      case round =>
        obtain ⟨r, hr, rfl, hO, hC⟩ := hrel
        have O := Lib.hid hO
        have C := Lib.hid hC
        clear hO hC C0 S4
        by_cases hrl : r < R
        · obtain ⟨l, hl⟩ : ∃ l, rows[r]? = some l := ⟨_, List.getElem?_eq_getElem (by rw [O.out.2.1]; exact hrl)⟩
          have hl2 := rowAt_nat hl
          have RL := Lib.hid hl
          have LC := Lib.hid (list_cb O.out.1 (r : Int))
          rw [hl2] at LC
          clear hl
          go_wp2_with fail
          refine LC.out.mono ?_
          rintro e w5 ⟨v, rfl, hI, hn5⟩
          have O5 := Lib.hid (O.out.new hn5)
          have C5 := Lib.hid (C.out.new hn5)
          have hmB := C.out.lt
          have I5 := Lib.hid hI
          obtain ⟨ga, gc, hv, _⟩ := owns_shape hI.1
          rw [show (lz l).length = l.length by simp] at hv
          subst hv
          have NC := Lib.hid (rg_len O5.out.1 (r : Int))
          rw [hl2] at NC
          have n1 : ((l.length : Int) != (l.length : Int)) = false := by simp
          clear hI hn5 LC O C
          go_wp2_with fail
          refine NC.out.mono ?_
          rintro e w6 ⟨rfl, rfl⟩
          go_wp2_with fail
          generalize hBe : wr.heap.size = B at I5 hmB
          clear hBe NC
          go_loopw [74] (fun i wy => ∃ j : Nat, j ≤ l.length ∧ i = .int .i64 j ∧ One w b N R rows wy ∧ Cnt m (pre rows r l j) wy ∧ IntsB B wy (.slice ga l.length gc) (lz l)) (fun i _ => l.length - (intOf i).toNat)
          case atStart => exact ⟨0, by omega, rfl, O5.out, by rw [pre_zero]; exact C5.out, I5.out⟩
          case round =>
            obtain ⟨j, hj, rfl, hO, hC, hI⟩ := hrel
            have O := Lib.hid hO
            have C := Lib.hid hC
            have I := Lib.hid hI
            clear hO hC hI O5 C5 I5
            by_cases hjl : j < l.length
            · obtain ⟨g', cap', hv, hg1, hg2, _⟩ := owns_some I.out.1 (by simpa using (show 0 < l.length by omega))
              simp only [Value.slice.injEq] at hv
              obtain ⟨hga, hq, hgc⟩ := hv
              clear hq; subst hga; subst hgc
              have hc := owns_cell (j := j) (by simpa using I.out.1) (by simpa using hjl)
              have hc1 : wr.cell? ⟨g', j, none⟩ = some (.int .i64 (l[j] : Nat)) := by rw [hc]; simp [hjl]
              have hnot : ((l[j] : Nat) : Int) ∉ pre rows r l j := by
                obtain ⟨s, _, hR⟩ := O.out.1; exact hR.fresh RL.out hjl
              have hlN : l[j] < N := by obtain ⟨s, _, hR⟩ := O.out.1; exact hR.lt r l RL.out _ (by simp)
              have hin : inR rows (l[j] : Nat) = (r : Int) := by obtain ⟨s, _, hR⟩ := O.out.1; exact hR.inR_eq RL.out (by simp)
              have hlen2 : (pre rows r l j).length ≤ N := by obtain ⟨s, _, hR⟩ := O.out.1; exact hR.pre_small RL.out j
              have hl1000 : l.length ≤ 1000 := O.out.1.sm r l RL.out
              have hwf := wf_small (l[j]) (by omega)
              have hlook := C.out.look _ hwf
              rw [if_neg hnot] at hlook
              obtain ⟨w', hput, hC', hU⟩ := C.out.put _ hwf (by unfold maxLen; omega)
              have O' := Lib.hid (HB.out _ _ hU O.out)
              have C' := Lib.hid (show Cnt m (pre rows r l (j + 1)) w' by rw [pre_succ rows r hjl]; exact hC')
              have I' := Lib.hid (show IntsB B w' (.slice (some ⟨g', 0, none⟩) l.length gc) (lz l) from ⟨owns_upd I.out.1 hU (fun k hk e => by subst e; simp [Value.ownBlock] at hk; omega), I.out.2⟩)
              have hlook2 := C'.out.look _ hwf
              rw [if_pos (by rw [pre_succ rows r hjl]; simp)] at hlook2
              have IC := Lib.hid (rg_in O'.out.1 (l[j] : Nat))
              rw [hin] at IC
              have p1 : decide (((l[j] : Nat) : Int) < 0) = false := by simp
              have p2 : decide ((N : Int) ≤ ((l[j] : Nat) : Int)) = false := by simp; omega
              have p3 : ((r : Int) != (r : Int)) = false := by simp
              clear hc hnot hin hlen2 hwf hC' hU hg1 hg2 O C I
              generalize ((l[j] : Nat) : Int) = n at *
              go_wp2_with fail
              refine IC.out.mono ?_
              rintro e w7 ⟨rfl, rfl⟩
              go_wp2_with fail
              go_roundw
              case rel => exact ⟨j + 1, by omega, by go_num, O'.out, C'.out, I'.out⟩
              case measure => simp [intOf]; omega
            · have hjj : j = l.length := by omega
              subst hjj
              go_wp2_with fail
              go_roundw
              case rel => exact ⟨r + 1, by omega, by go_num, O.out, by rw [← pre_all RL.out]; exact C.out⟩
              case measure => simp [intOf]; omega
        · have hrr : R = r := by omega
          subst hrr
          have C1 := Lib.hid (show Cnt m (flat rows) wr by have := C.out; rwa [← O.out.2.1, List.take_length] at this)
          clear C
          go_wp2_with fail
          go_loopw [107] (fun i wy => ∃ t : Nat, t ≤ N ∧ i = .int .i64 t ∧ One w b N R rows wy ∧ Cnt m (flat rows) wy) (fun i _ => N - (intOf i).toNat)
          case atStart => exact ⟨0, by omega, rfl, O.out, C1.out⟩
          case round =>
            obtain ⟨t, ht, rfl, hO, hC⟩ := hrel
            have O2 := Lib.hid hO
            have C2 := Lib.hid hC
            clear hO hC O C1
            by_cases htn : t < N
            · have IC := Lib.hid (fun n => rg_in (O2.out.1.new (new_drewN wr n)) (t : Int))
              have LK := fun n => (C2.out.new (new_drewN wr n)).look (t : Int) (wf_small t (by omega))
              have hiff := inR_iff rows (t : Int)
              by_cases hm : (t : Int) ∈ flat rows
              · have hi0 := hiff.2 hm
                simp only [if_pos hm] at LK
                clear hiff hm
                generalize inR rows (t : Int) = q at IC hi0
                go_wp2_with fail
                go_quiet ((go_at_call 20; exact quiet_left (IC.out _)))
                go_wp2_with fail
                go_roundw
                case rel => exact ⟨t + 1, by omega, by go_num, O2.out.new (new_drewN _ _), C2.out.new (new_drewN _ _)⟩
                case measure => simp [intOf]; omega
              · have hi0 : ¬ 0 ≤ inR rows (t : Int) := fun h => hm (hiff.1 h)
                simp only [if_neg hm] at LK
                clear hiff hm
                generalize inR rows (t : Int) = q at IC hi0
                go_wp2_with fail
                go_quiet ((go_at_call 20; exact quiet_left (IC.out _)))
                go_wp2_with fail
                go_roundw
                case rel => exact ⟨t + 1, by omega, by go_num, O2.out.new (new_drewN _ _), C2.out.new (new_drewN _ _)⟩
                case measure => simp [intOf]; omega
            · go_wp2_with fail
              go_roundw
              case rel => exact ⟨k + 1, rows, by omega, by go_num, O2.out⟩
              case measure => simp [intOf]; omega
    · go_wp2_with fail
      go_ret
      exact ⟨rfl, S.out.2.2.1⟩
end Go.Proofs.Ytffehagmchcpkaa

import Derived.Test.YtffehagmchcpkaaA18
namespace Go.Proofs.Ytffehagmchcpkaa
open Go.RowKit Go.Proofs.Cmd

/-- A list of acts that lies in w. -/
def Acts (w : World) (la : Option Addr) (len : Nat) : Prop :=
  ∀ k, k < len → ∃ b off, la = some ⟨b, off, none⟩ ∧ b < w.heap.size ∧ ∃ (d a c : Int), w.rangeAt b (off + k * 3) [.int .i64 d, .int .i64 a, .int .i64 c]
set_option maxRecDepth 100000 in
set_option maxHeartbeats 20000000 in
theorem does_loop (R N : Nat) (la : Option Addr) (len cap : Nat) (w : World) (h1 : 1 ≤ R) (h2 : R ≤ 20) (h3 : 1 ≤ N) (h4 : N ≤ 20) (hlen : len ≤ 120) (hA : Acts w la len) :
    Calls Try.prog 3 #[.int .i64 R, .int .i64 N, .slice la len cap] w fun e w' => e = .returned (.bool true) ∧ New w w' := by
  have HA := Lib.hid hA
  clear hA
  have hl1 : decide ((120 : Int) < (len : Int)) = false := by simp; omega
  have r1 : (1 : Int) ≤ (R : Int) := by omega
  have r2 : (R : Int) ≤ 20 := by omega
  have n1 : (1 : Int) ≤ (N : Int) := by omega
  have n2 : (N : Int) ≤ 20 := by omega
  have d1 : decide ((20 : Int) < (R : Int)) = false := by simp; omega
  have d2 : decide ((20 : Int) < (N : Int)) = false := by simp; omega
  have NG := Lib.hid (fun w => new_good R N w h1 (by omega) h3 (by omega))
  have RG := Lib.hid (fun w => r_new_good R N w h1 (by omega) h3 (by omega))
  go_enter Try.func3, Try.ntmps3
  go_wp2_with fail
  refine (awake_c w).mono ?_; rintro e w0 ⟨rfl, hn⟩
  have N0 := Lib.hid hn
  clear hn
  go_wp2_with fail
  refine (NG.out _).mono ?_; rintro e w1 ⟨b, rfl, hg, hn, hge⟩
  have H := Lib.hid hg
  have N1 := Lib.hid hn
  have GE := Lib.hid hge
  clear hg hn hge
  go_wp2_with fail
  refine (RG.out _).mono ?_; rintro e w2 ⟨rfl, hn, hsz, hra⟩
  have I0 : Hid (Two w b (w1.heap.size + 1) w1.heap.size (w1.heap.size + 2) N (List.replicate R []) w2) :=
    ⟨(N0.out.trans N1.out).trans hn, by omega, H.out.new hn, _, hra⟩
  have OK : Hid (Ok w b (w1.heap.size + 1) w1.heap.size (w1.heap.size + 2)) := by
    have e1 := N0.out.size
    have e2 := N1.out.size
    exact ⟨fun k hk => by have g1 := GE.out k hk; have g2 := H.out.lt hk; exact ⟨by omega, by omega, by omega, by omega⟩, by omega, by omega⟩
  clear hn hra hsz
  generalize w1.heap.size + 2 = Z at I0 OK
  generalize w1.heap.size + 1 = q at I0 OK ⊢
  generalize w1.heap.size = g at I0 OK
  clear H N1 GE NG RG N0
  go_wp2_with fail
  go_loopw [74] (fun i wr => ∃ (k : Nat) (rows : List (List Nat)), k ≤ len ∧ i = .int .i64 k ∧ Two w b q g Z N rows wr) (fun i _ => len - (intOf i).toNat)
  case atStart => exact ⟨0, _, by omega, rfl, I0⟩
  case round =>
    obtain ⟨k, rows, hk, rfl, hB⟩ := hrel
    have S := Lib.hid hB
    clear hB I0
    by_cases hlt : k < len
    · obtain ⟨lb, lo, rfl, hlb, d, x, y, hr⟩ := HA.out k hlt
      have R0 := range_new' hr hlb S.out.1
      have c0 : wr.cell? ⟨lb, lo + k * 3, none⟩ = some (.int .i64 d) := R0 0 _ rfl
      have c1 : wr.cell? ⟨lb, lo + k * 3 + 1, none⟩ = some (.int .i64 x) := R0 1 _ rfl
      have c2 : wr.cell? ⟨lb, lo + k * 3 + 2, none⟩ = some (.int .i64 y) := R0 2 _ rfl
      clear hr R0
      have hX := new_alloc wr (.cells #[.int .i64 d, .int .i64 x, .int .i64 y] 32)
      have DC := Lib.hid (do_c (S.out.2.2.1.new hX) d x y)
      have SX := Lib.hid (S.out.new hX)
      have HXB := Lib.hid (heap_at (w := wr) (k := wr.heap.size) (.cells #[.int .i64 d, .int .i64 x, .int .i64 y] 32) rfl)
      clear hX
      go_wp2_with fail
      refine DC.out.mono ?_
      rintro e w3 ⟨rfl, hg, hu⟩
      -- the reference's arena stands
      have S3 : Hid (New w w3 ∧ Z ≤ w3.heap.size ∧ ∃ vs, RA Z w3 q g vs rows N) := by
        obtain ⟨t1, t2, t3, vs, t4⟩ := SX.out
        have us : ∀ k, b.S k → w.heap.size ≤ k ∧ k < Z ∧ k ≠ q ∧ k ≠ g := fun k hk => OK.out.t k (.inr hk)
        exact ⟨new_step t1 hu (fun k hk => (us k hk).1), Nat.le_trans t2 hu.size, vs, t4.upd hu (fun hk => (us _ hk).2.2.1 rfl) (fun hk => (us _ hk).2.2.2 rfl) (fun k hk => (us k hk).2.1)⟩
      have X3 := Lib.hid (hu.heap HXB.out (fun hk => by
        have := (OK.out.t _ (.inr hk)).2.1
        have := S.out.2.1
        omega))
      have x0 := cell_of X3.out 0
      have x1 := cell_of X3.out 1
      have x2 := cell_of X3.out 2
      simp only [List.getElem?_toArray, List.getElem?_cons_zero, List.getElem?_cons_succ] at x0 x1 x2
      have G3 := Lib.hid hg
      obtain ⟨vs, hra⟩ := S3.out.2.2
      have OC := Lib.hid (own_c hra S3.out.2.1 S.out.2.2.1.sm d x y)
      clear hg hu c0 c1 c2 hra
      generalize actR N rows d x y = F at G3 OC
      obtain ⟨Fe, Fn, Fi, rows'⟩ := F
      have b1 : (Fe != Fe) = false := by simp
      have b2 : (Fn != Fn) = false := by simp
      have b3 : (Fi != Fi) = false := by simp
      simp only [actV]
      go_wp2_with fail
      refine OC.out.mono ?_
      rintro e w4 ⟨vs', rfl, hra4, hu4⟩
      have S4 : Hid (Two w b q g Z N rows' w4) :=
        ⟨new_step S3.out.1 hu4 (fun k hk => by subst hk; exact OK.out.g), Nat.le_trans S3.out.2.1 hu4.size, G3.out.upd hu4 (fun k hk e => (OK.out.t k hk).2.2.2 e), vs', hra4⟩
      have AC := Lib.hid (alike_c S4.out)
      clear hra4 hu4 x0 x1 x2
      simp only [actV]
      go_wp2_with fail
      refine AC.out.mono ?_
      rintro e w5 ⟨rfl, hn5⟩
      have S5 := Lib.hid (S4.out.new hn5)
      clear hn5
      go_wp2_with fail
      go_roundw
      case rel => exact ⟨k + 1, rows', by omega, by go_num, S5.out⟩
      case measure => simp [intOf]; omega
    · have AC := Lib.hid (alike_c S.out)
      go_wp2_with fail
      refine AC.out.mono ?_
      rintro e w5 ⟨rfl, hn5⟩
      have N5 := Lib.hid hn5
      clear hn5
      go_wp2_with fail
      go_ret
      exact ⟨rfl, S.out.1.trans N5.out⟩
end Go.Proofs.Ytffehagmchcpkaa

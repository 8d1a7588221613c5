import Derived.Test.YtdbdpmpnblmfkaaT15
import Derived.Test.YtdbdpmpnblmfkaaT16
import Derived.Deep.DeepCutAuto
import Derived.Deep.CutBlock
import Derived.Test.YtdbdpmpnblmfkaaK5
namespace Go.Proofs.Ytdbdpmpnblmfkaa
open Go.RowKit Go.Proofs.Cmd

/-- A list of acts that lies in w. -/
def Acts (w : World) (la : Option Addr) (len : Nat) : Prop :=
  ∀ k, k < len → ∃ b off, la = some ⟨b, off, none⟩ ∧ b < w.heap.size ∧ ∃ d t a b' x p0 p1 p2 p3 p4 p5 : Int,
    w.rangeAt b (off + k * 11) ([d, t, a, b', x, p0, p1, p2, p3, p4, p5].map (Value.int .i64))
theorem info34 : (Try.prog.info? 34).map (·.size) = some 11 := by kernel_rfl
theorem range_new' {w w' : World} {b o : Nat} {cs : List Value} (h : w.rangeAt b o cs) (hb : b < w.heap.size) (hn : New w w') : w'.rangeAt b o cs := by
  intro j v hv
  rw [New.cell hn (p := ⟨b, o + j, none⟩) hb]
  exact h j v hv


theorem Tab.low {ty e : TypeId} {B B' : Nat} {w : World} {p : Nat} {sv : Value} {n : Nat} {xs : List Int} {most : Int} (h : Tab ty e B w p sv n xs most) (hb : B' ≤ B) : Tab ty e B' w p sv n xs most :=
  ⟨h.head, by have := h.base; omega, owns_base h.rows hb, h.small, h.two⟩
/-- A table of other types is left alone. -/
theorem Tab.keep {ty e ty' e' : TypeId} {B B' : Nat} {w w' : World} {p p' : Nat} {sv sv' : Value} {n n' : Nat} {xs xs' : List Int} {most most' : Int} (h : Tab ty e B w p sv n xs most) (h' : Tab ty' e' B' w p' sv' n' xs' most')
    (h1 : ty ≠ ty') (h2 : ty ≠ e') (h3 : e ≠ ty') (h4 : e ≠ e') (u : Upd (fun k => k = p ∨ sv.ownBlock = .some k) w w') : Tab ty' e' B' w' p' sv' n' xs' most' := by
  refine h'.upd u ?_ ?_
  · rintro (rfl | hk)
    · have := h.head; rw [h'.head] at this; cases this; exact h1 rfl
    · obtain ⟨c, hc⟩ := owns_type h.rows hk; rw [h'.head] at hc; cases hc; exact h3 rfl
  · rintro k hk (rfl | hk')
    · obtain ⟨c, hc⟩ := owns_type h'.rows hk; rw [h.head] at hc; cases hc; exact h2 rfl
    · obtain ⟨c, hc⟩ := owns_type h'.rows hk; obtain ⟨c', hc'⟩ := owns_type h.rows hk'; rw [hc] at hc'; cases hc'; exact h4 rfl
theorem Upd.orr {S : Nat → Prop} {w w' : World} (p : Nat) (h : Upd S w w') : Upd (fun k => k = p ∨ S k) w w' := h.mono (fun _ _ e => .inr e)

/-- Between two rounds: n tasks of numbers xs, in both tables. -/
def Both (w : World) (P : Nat) (most : Int) (n : Nat) (xs : List Int) (wr : World) : Prop :=
  ∃ sv rv, New w wr ∧ Tab 65 53 P wr P sv n xs most ∧ Tab 47 57 P wr (P + 1) rv n xs most

def Mid (w : World) (P : Nat) (most : Int) (R : Res) (s18 s19 s20 : Value) (wx : World) : Prop :=
  s18 = .int .i64 R.r ∧ s19 = .bool R.ok ∧ s20 = .int .i64 R.er ∧ Both w P most R.n R.xs wx

set_option maxRecDepth 100000 in
set_option maxHeartbeats 20000000 in
theorem law_loop (most : Int) (la : Option Addr) (len cap : Nat) (state ctx : Int) (w : World) (h1 : 1 ≤ most) (h30 : most ≤ 30) (hlen : len ≤ 100) (hlc : len ≤ cap) (hA : Acts w la len) :
    Calls Try.prog 3 #[.int .i64 most, .slice la len cap, .int .i64 state, .int .i64 ctx] w fun e w' => e = .returned (.bool true) ∧ New w w' := by
  have _ := hlc
  have HA := Lib.hid hA
  clear hA
  have hl1 : ¬ (100 : Int) < (len : Int) := by omega
  go_enter Try.func3, Try.ntmps3
  go_wp2_with fail
  refine (awake_c w).mono ?_; rintro e w0 ⟨rfl, hn⟩
  have N0 := Lib.hid hn
  have b0 := hn.size
  clear hn
  go_wp2_with fail
  refine (new_good most _ h1 (by omega)).mono ?_; rintro e w1 ⟨rfl, rfl⟩
  go_wp2_with fail
  refine (r_new_good most _ h1 (by omega)).mono ?_; rintro e w1 ⟨rfl, rfl⟩
  go_wp2_with fail
  have I0 : Hid (Both w w0.heap.size most 0 [] ((w0.alloc (.cells #[.slice none 0 0, .int .i64 most] 65)).alloc (.cells #[.slice none 0 0, .int .i64 most] 47))) :=
    ⟨_, _, (N0.out.alloc _).alloc _, (Tab.fresh 65 53 w0 most).new (new_alloc _ _), by
      have := Tab.fresh 47 57 (w0.alloc (.cells #[.slice none 0 0, .int .i64 most] 65)) most
      rw [World.size_alloc] at this
      exact this.low (by omega)⟩
  have hPw : w.heap.size ≤ w0.heap.size := b0
  generalize (w0.alloc (.cells #[.slice none 0 0, .int .i64 most] 65)).alloc (.cells #[.slice none 0 0, .int .i64 most] 47) = wI at I0 ⊢
  generalize w0.heap.size = P at I0 hPw ⊢
  clear N0 b0
  go_loopw [63] (fun i wr => ∃ (k n : Nat) (xs : List Int), k ≤ len ∧ i = .int .i64 k ∧ (n : Int) ≤ most ∧ Val n xs ∧ Both w P most n xs wr) (fun i _ => len - (intOf i).toNat)
  case atStart => exact ⟨0, 0, [], by omega, rfl, by omega, fun k hk => by omega, I0⟩
  case round =>
    obtain ⟨k, n, xs, hk, rfl, hnm, hv, hB⟩ := hrel
    have HV := Lib.hid hv
    obtain ⟨sv, rv, hN, hT, hR⟩ := hB
    have HT := Lib.hid hT
    have HR := Lib.hid hR
    have HN := Lib.hid hN
    have hbw := hN.size
    clear hv hN hT hR I0
    by_cases hlt : k < len
    · obtain ⟨lb, lo, rfl, hlb, d, t, a, b, x, p0, p1, p2, p3, p4, p5, hr⟩ := HA.out k hlt
      have R0 := Lib.hid (range_new' hr hlb HN.out)
      clear hr
      go_wp2_with (refine wpList_ld (ty := 34) (x := .tmp 65) lb _ _ _ (by rfl) (by rfl) R0.out Try.underlying34 rfl (by rw [info34]; rfl) ?_)
      refine (do_c (HT.out.new (new_alloc _ _)) (by omega) d t a b x p0 p1 p2 p3 p4 p5).mono ?_
      rintro e w3 ⟨rfl, sv3, ht, hu⟩
      have HR3 := Lib.hid ((HT.out.new (new_alloc _ _)).keep (HR.out.new (new_alloc _ _)) (by decide) (by decide) (by decide) (by decide) hu)
      have HN3 := Lib.hid (new_step (HN.out.trans (new_alloc _ _)) hu (fun q hq => by have := HT.out.own_ge' q hq; omega))
      have HT3 := Lib.hid ht
      have HBX := Lib.hid (heap_at (w := wr) (k := wr.heap.size) (.cells #[.int .i64 d, .int .i64 t, .int .i64 a, .int .i64 b, .int .i64 x, .int .i64 p0, .int .i64 p1, .int .i64 p2, .int .i64 p3, .int .i64 p4, .int .i64 p5] 34) rfl)
      have hbx : w3.heap[wr.heap.size]? = some (.cells #[.int .i64 d, .int .i64 t, .int .i64 a, .int .i64 b, .int .i64 x, .int .i64 p0, .int .i64 p1, .int .i64 p2, .int .i64 p3, .int .i64 p4, .int .i64 p5] 34 (0, 0)) := hu.heap HBX.out (by
        rintro (e | hk)
        · have := lt_of HT.out.head; omega
        · have := (HT.out.rows.lt _ hk).2; omega)
      have HB3 := Lib.hid hbx
      have HM := Lib.hid (act_n (xs := xs) hnm d t a b x p0 p1 p2 p3 p4 p5)
      have HV3 := Lib.hid (act_val (most := most) HV.out HT.out.len d t a b x p0 p1 p2 p3 p4 p5)
      have c0 : w3.cell? ⟨wr.heap.size, 0, none⟩ = some (.int .i64 d) := by rw [cell_of hbx]; rfl
      have c1 : w3.cell? ⟨wr.heap.size, 1, none⟩ = some (.int .i64 t) := by rw [cell_of hbx]; rfl
      have c2 : w3.cell? ⟨wr.heap.size, 2, none⟩ = some (.int .i64 a) := by rw [cell_of hbx]; rfl
      have c3 : w3.cell? ⟨wr.heap.size, 3, none⟩ = some (.int .i64 b) := by rw [cell_of hbx]; rfl
      have c4 : w3.cell? ⟨wr.heap.size, 4, none⟩ = some (.int .i64 x) := by rw [cell_of hbx]; rfl
      have c5 : w3.cell? ⟨wr.heap.size, 5, none⟩ = some (.int .i64 p0) := by rw [cell_of hbx]; rfl
      have c6 : w3.cell? ⟨wr.heap.size, 6, none⟩ = some (.int .i64 p1) := by rw [cell_of hbx]; rfl
      have c7 : w3.cell? ⟨wr.heap.size, 7, none⟩ = some (.int .i64 p2) := by rw [cell_of hbx]; rfl
      have c8 : w3.cell? ⟨wr.heap.size, 8, none⟩ = some (.int .i64 p3) := by rw [cell_of hbx]; rfl
      have c9 : w3.cell? ⟨wr.heap.size, 9, none⟩ = some (.int .i64 p4) := by rw [cell_of hbx]; rfl
      have c10 : w3.cell? ⟨wr.heap.size, 10, none⟩ = some (.int .i64 p5) := by rw [cell_of hbx]; rfl
      clear ht hu hbx HBX
      go_upto_block 2 with fail
      generalize hRA : act n xs most d t a b x p0 p1 p2 p3 p4 p5 = R at HT3 HM HV3 ⊢
      have HRA := Lib.hid hRA
      clear hRA
      have hn1000 : n < 1000 := by omega
      go_cut [18, 19, 20] (fun s18 s19 s20 wx => Mid w P most R s18 s19 s20 wx)
      case first =>
        by_cases d0 : d = 0
        · subst d0
          by_cases hm : (n : Int) = most
          · have RR := HRA.out
            simp only [act, if_true, hm] at RR
            subst RR
            go_wp2_with fail
            refine (r_begin_full HR3.out (by omega) a b).mono ?_; rintro e w4 ⟨rfl, hn4⟩
            have K := Lib.hid (show Both w P most n xs w4 from ⟨_, _, HN3.out.trans hn4, HT3.out.new hn4, HR3.out.new hn4⟩)
            clear hn4
            go_wp2_with fail
            go_meet
            exact ⟨rfl, rfl, rfl, K.out⟩
          · have RR := HRA.out
            simp only [act, if_true, hm, if_false] at RR
            subst RR
            go_wp2_with fail
            refine (r_begin_more HR3.out (by omega) (by omega) a b).mono ?_; rintro e w4 ⟨rv4, rfl, ht4, hu4⟩
            have K := Lib.hid (show Both w P most (n + 1) (xs ++ fresh a b) w4 from ⟨_, _, new_step HN3.out hu4 (fun q hq => by have := HR3.out.own_ge' q hq; omega), HR3.out.keep HT3.out (by decide) (by decide) (by decide) (by decide) hu4, ht4⟩)
            clear ht4 hu4
            go_wp2_with fail
            go_meet
            exact ⟨rfl, rfl, rfl, K.out⟩
        by_cases d1 : d = 1
        · subst d1
          have RR := HRA.out
          simp only [act, show ¬ (((1 : Int)) = 0) by omega, if_true, if_false] at RR
          subst RR
          clear d0
          go_wp2_with fail
          refine (r_go HR3.out t a).mono ?_; rintro e w4 ⟨rfl, ht4, hu4⟩
          have K := Lib.hid (show Both w P most n _ w4 from ⟨_, _, new_step HN3.out hu4 (fun q hq => by have := HR3.out.own_ge q hq; omega), HR3.out.keep HT3.out (by decide) (by decide) (by decide) (by decide) (Upd.orr _ hu4), ht4⟩)
          clear ht4 hu4
          go_wp2_with fail
          go_meet
          exact ⟨rfl, rfl, rfl, K.out⟩
        by_cases d2 : d = 2
        · subst d2
          have RR := HRA.out
          simp only [act, show ¬ (((2 : Int)) = 0) by omega, show ¬ (((2 : Int)) = 1) by omega, if_true, if_false] at RR
          subst RR
          clear d0 d1
          go_wp2_with fail
          refine (r_set HR3.out HV.out t a x).mono ?_; rintro e w4 ⟨rfl, ht4, hu4⟩
          have K := Lib.hid (show Both w P most n _ w4 from ⟨_, _, new_step HN3.out hu4 (fun q hq => by have := HR3.out.own_ge q hq; omega), HR3.out.keep HT3.out (by decide) (by decide) (by decide) (by decide) (Upd.orr _ hu4), ht4⟩)
          clear ht4 hu4
          go_wp2_with fail
          go_meet
          exact ⟨rfl, rfl, rfl, K.out⟩
        by_cases d3 : d = 3
        · subst d3
          have RR := HRA.out
          simp only [act, show ¬ (((3 : Int)) = 0) by omega, show ¬ (((3 : Int)) = 1) by omega, show ¬ (((3 : Int)) = 2) by omega, if_true, if_false] at RR
          subst RR
          clear d0 d1 d2
          go_wp2_with fail
          refine (r_park HR3.out t p0 p1 p2 p3 p4 p5).mono ?_; rintro e w4 ⟨rfl, ht4, hu4⟩
          have K := Lib.hid (show Both w P most n _ w4 from ⟨_, _, new_step HN3.out hu4 (fun q hq => by have := HR3.out.own_ge q hq; omega), HR3.out.keep HT3.out (by decide) (by decide) (by decide) (by decide) (Upd.orr _ hu4), ht4⟩)
          clear ht4 hu4
          go_wp2_with fail
          go_meet
          exact ⟨rfl, rfl, rfl, K.out⟩
        by_cases d4 : d = 4
        · subst d4
          have RR := HRA.out
          simp only [act, show ¬ (((4 : Int)) = 0) by omega, show ¬ (((4 : Int)) = 1) by omega, show ¬ (((4 : Int)) = 2) by omega, show ¬ (((4 : Int)) = 3) by omega, if_true, if_false] at RR
          subst RR
          clear d0 d1 d2 d3
          go_wp2_with fail
          refine (r_again HR3.out t p0 p1 p2 p3 p4 p5).mono ?_; rintro e w4 ⟨rfl, ht4, hu4⟩
          have K := Lib.hid (show Both w P most n _ w4 from ⟨_, _, new_step HN3.out hu4 (fun q hq => by have := HR3.out.own_ge q hq; omega), HR3.out.keep HT3.out (by decide) (by decide) (by decide) (by decide) (Upd.orr _ hu4), ht4⟩)
          clear ht4 hu4
          go_wp2_with fail
          go_meet
          exact ⟨rfl, rfl, rfl, K.out⟩
        by_cases d5 : d = 5
        · subst d5
          have RR := HRA.out
          simp only [act, show ¬ (((5 : Int)) = 0) by omega, show ¬ (((5 : Int)) = 1) by omega, show ¬ (((5 : Int)) = 2) by omega, show ¬ (((5 : Int)) = 3) by omega, show ¬ (((5 : Int)) = 4) by omega, if_true, if_false] at RR
          subst RR
          clear d0 d1 d2 d3 d4
          go_wp2_with fail
          refine (r_wake HR3.out HV.out t x).mono ?_; rintro e w4 ⟨rfl, ht4, hu4⟩
          have K := Lib.hid (show Both w P most n _ w4 from ⟨_, _, new_step HN3.out hu4 (fun q hq => by have := HR3.out.own_ge q hq; omega), HR3.out.keep HT3.out (by decide) (by decide) (by decide) (by decide) (Upd.orr _ hu4), ht4⟩)
          clear ht4 hu4
          go_wp2_with fail
          go_meet
          exact ⟨rfl, rfl, rfl, K.out⟩
        by_cases d6 : d = 6
        · subst d6
          have RR := HRA.out
          simp only [act, show ¬ (((6 : Int)) = 0) by omega, show ¬ (((6 : Int)) = 1) by omega, show ¬ (((6 : Int)) = 2) by omega, show ¬ (((6 : Int)) = 3) by omega, show ¬ (((6 : Int)) = 4) by omega, show ¬ (((6 : Int)) = 5) by omega, if_true, if_false] at RR
          subst RR
          clear d0 d1 d2 d3 d4 d5
          go_wp2_with fail
          refine (r_end HR3.out HV.out t x).mono ?_; rintro e w4 ⟨rfl, ht4, hu4⟩
          have K := Lib.hid (show Both w P most n _ w4 from ⟨_, _, new_step HN3.out hu4 (fun q hq => by have := HR3.out.own_ge q hq; omega), HR3.out.keep HT3.out (by decide) (by decide) (by decide) (by decide) (Upd.orr _ hu4), ht4⟩)
          clear ht4 hu4
          go_wp2_with fail
          go_meet
          exact ⟨rfl, rfl, rfl, K.out⟩
        have e0 : (d == 0) = false := by simpa using d0
        have e1 : (d == 1) = false := by simpa using d1
        have e2 : (d == 2) = false := by simpa using d2
        have e3 : (d == 3) = false := by simpa using d3
        have e4 : (d == 4) = false := by simpa using d4
        have e5 : (d == 5) = false := by simpa using d5
        have e6 : (d == 6) = false := by simpa using d6
        have RR := HRA.out
        simp only [act, d0, d1, d2, d3, d4, d5, d6, if_false] at RR
        subst RR
        clear d0 d1 d2 d3 d4 d5 d6
        have K := Lib.hid (show Both w P most n xs w3 from ⟨_, _, HN3.out, HT3.out, HR3.out⟩)
        go_wp2_with fail
        go_meet
        exact ⟨rfl, rfl, rfl, K.out⟩
      case rest =>
        obtain ⟨rfl, rfl, rfl, sv4, rv4, hN4, hT4, hR4⟩ := hcut
        clear HT3 HR3 HN3 HB3 HRA c0 c1 c2 c3 c4 c5 c6 c7 c8 c9 c10 R0 HT HR HN HV
        obtain ⟨rl, rcap, rfl, hrc⟩ := hR4.shape
        have r0 := cell_of hR4.head 0
        simp only [List.getElem?_toArray, List.getElem?_cons_zero] at r0
        have HT4 := Lib.hid hT4
        have HR4 := Lib.hid hR4
        have HTq := Lib.hid hT4.drew
        have HRq := Lib.hid hR4.drew
        have NNq := Lib.hid (Upd.refl (fun _ => False) wc.drew)
        have HN4 := Lib.hid hN4
        clear hT4 hR4 hN4
        have b1 : (R.r != R.r) = false := by simp
        have b2 : (R.ok != R.ok) = false := by simp
        have b3 : (R.er != R.er) = false := by simp
        have b4 : ((R.n : Int) != (R.n : Int)) = false := by simp
        go_wp2_with fail
        go_cut [175] (fun s175 wx => s175 = .bool false ∧ New wc wx)
        case first =>
          go_region_held3 (fun w' => w'.cell? ⟨P + 1, 0, none⟩ = some (.slice rl R.n rcap)) (exact cell_of HRq.out.head 0)
            (first
              | (go_at_call 14; refine (len_c HTq.out).mono ?_; rintro e w5 ⟨rfl, rfl⟩)
              | (go_at_call 16; refine (in_c HTq.out state).mono ?_; rintro e w5 ⟨v5, rfl, hi5, hn5⟩; have HT' := Lib.hid (HTq.out.new hn5); have HR' := Lib.hid (HRq.out.new hn5); have NN' := Lib.hid (NNq.out.trans hn5); clear HTq HRq NNq hn5; have HTq := HT'; have HRq := HR'; have NNq := NN'; clear HT' HR' NN'; have IA := Lib.hid hi5; clear hi5)
              | (go_at_call 17; refine (r_in HRq.out state).mono ?_; rintro e w5 ⟨v6, rfl, hi5, hn5⟩; have IA' := Lib.hid (IA.out.new hn5); have HT' := Lib.hid (HTq.out.new hn5); have HR' := Lib.hid (HRq.out.new hn5); have NN' := Lib.hid (NNq.out.trans hn5); clear HTq HRq NNq hn5; have HTq := HT'; have HRq := HR'; have NNq := NN'; clear HT' HR' NN'; clear IA; have IA := IA'; clear IA'; have IB := Lib.hid hi5; clear hi5)
              | (go_at_call 18; refine (under_c HTq.out ctx).mono ?_; rintro e w5 ⟨v5, rfl, hi5, hn5⟩; have HT' := Lib.hid (HTq.out.new hn5); have HR' := Lib.hid (HRq.out.new hn5); have NN' := Lib.hid (NNq.out.trans hn5); clear HTq HRq NNq hn5; have HTq := HT'; have HRq := HR'; have NNq := NN'; clear HT' HR' NN'; have IA := Lib.hid hi5; clear hi5)
              | (go_at_call 19; refine (r_under HRq.out ctx).mono ?_; rintro e w5 ⟨v6, rfl, hi5, hn5⟩; have IA' := Lib.hid (IA.out.new hn5); have HT' := Lib.hid (HTq.out.new hn5); have HR' := Lib.hid (HRq.out.new hn5); have NN' := Lib.hid (NNq.out.trans hn5); clear HTq HRq NNq hn5; have HTq := HT'; have HRq := HR'; have NNq := NN'; clear HT' HR' NN'; clear IA; have IA := IA'; clear IA'; have IB := Lib.hid hi5; clear hi5)
              | (go_at_call 15; refine (same_c _ _ _ _ _ IA.out IB.out).mono ?_; intro e w5 hq5; rw [decide_eq_true rfl] at hq5; obtain ⟨rfl, hn5⟩ := hq5; have HT' := Lib.hid (HTq.out.new hn5); have HR' := Lib.hid (HRq.out.new hn5); have NN' := Lib.hid (NNq.out.trans hn5); clear HTq HRq NNq hn5; have HTq := HT'; have HRq := HR'; have NNq := NN'; clear HT' HR' NN'; clear IA IB))

          go_wp2_with fail
          go_meet
          exact ⟨rfl, NNq.out.os, NNq.out.tape, NNq.out.output, NNq.out.size, NNq.out.block⟩
        case rest =>
          obtain ⟨rfl, hn5⟩ := hcut
          have HT6 := Lib.hid (HT4.out.new hn5)
          have HR6 := Lib.hid (HR4.out.new hn5)
          have HN6 := Lib.hid (HN4.out.trans hn5)
          clear HT4 HR4 HN4 HTq HRq NNq r0 hn5 b1 b2 b3 b4
          go_wp2_with fail
          go_loopw [21] (fun i wx => ∃ j : Int, -1 ≤ j ∧ j ≤ R.n + 1 ∧ i = .int .i64 j ∧ New wc wx) (fun i _ => (R.n + 1 - intOf i).toNat)
          case atStart => exact ⟨-1, by omega, by omega, rfl, Upd.refl _ _⟩
          case round =>
            obtain ⟨j, hj0, hj1, rfl, hx⟩ := hrel
            have r0 := cell_of (HR6.out.new hx).head 0
            simp only [List.getElem?_toArray, List.getElem?_cons_zero] at r0
            have HX := Lib.hid hx
            clear hx
            by_cases hj : j ≤ R.n
            · obtain ⟨gl, bo, hgl, hG1, hG2⟩ : ∃ (gl : List Int) (bo : Bool), gl.length = 17 ∧
                  (∀ wy, New wc wy → Calls Try.prog 20 #[.pointer (some ⟨P, 0, none⟩), .int .i64 j] wy fun e w' => e = .returned (.tuple #[.agg (gl.map (Value.int .i64)).toArray, .bool bo]) ∧ New wy w') ∧
                  (∀ wy, New wc wy → Calls Try.prog 21 #[.pointer (some ⟨P + 1, 0, none⟩), .int .i64 j] wy fun e w' => e = .returned (.tuple #[.agg (gl.map (Value.int .i64)).toArray, .bool bo]) ∧ New wy w') := by
                by_cases hin : 0 ≤ j ∧ j < R.n
                · exact ⟨tk R.xs j.toNat, true, tk_len HT6.out.len (by omega), fun wy h => get_in (HT6.out.new h) j hin.1 hin.2, fun wy h => r_get_in (HR6.out.new h) j hin.1 hin.2⟩
                · exact ⟨zer, false, rfl, fun wy h => get_out (HT6.out.new h) j (by omega), fun wy h => r_get_out (HR6.out.new h) j (by omega)⟩
              have G1 := Lib.hid hG1
              have G2 := Lib.hid hG2
              have GL := Lib.hid hgl
              clear hG1 hG2 hgl
              have hjb : j ≤ 30 := by have := HM.out; omega
              go_wp2_with fail
              refine (G1.out _ HX.out).mono ?_; rintro e w6 ⟨rfl, hn6⟩
              have X6 := Lib.hid (HX.out.trans hn6)
              clear hn6
              go_wp2_with (refine wpList_stnew (ty := 53) (x := .tmp 22) (y := .tmp 189) _ _ _ gl (by rfl) rfl (by rfl) (by rfl) (by rw [GL.out]; rfl) (by rw [GL.out, info53]) ?_)
              refine (G2.out _ (X6.out.alloc _)).mono ?_; rintro e w7 ⟨rfl, hn7⟩
              have A7 := Lib.hid (New.heap hn7 (heap_at (w := w6) (k := w6.heap.size) (.cells (gl.map (Value.int .i64)).toArray 53) rfl))
              have X7 := Lib.hid ((X6.out.alloc _).trans hn7)
              clear hn7
              go_wp2_with (refine wpList_stnew (ty := 57) (x := .tmp 24) (y := .tmp 195) _ _ _ gl (by rfl) rfl (by rfl) (by rfl) (by rw [GL.out]; rfl) (by rw [GL.out, info57]) ?_)
              have B8 := heap_at (w := w7) (k := w7.heap.size) (.cells (gl.map (Value.int .i64)).toArray 57) rfl
              have A8 := heap_alloc A7.out (.cells (gl.map (Value.int .i64)).toArray 57)
              have X8 := Lib.hid (X7.out.alloc (.cells (gl.map (Value.int .i64)).toArray 57))
              generalize hw8 : w7.alloc (.cells (gl.map (Value.int .i64)).toArray 57) = w8 at B8 A8 X8 ⊢
              have SA := Lib.hid (range_blk A8)
              have SB := Lib.hid (range_blk B8)
              have NE := run_neq_struct64 Try.underlying57 flat57 (by omega) gl gl GL.out GL.out
              have LA := Lib.hid (lt_of A8)
              have LB := Lib.hid (lt_of B8)
              clear hw8 B8 A8 A7
              rw [decide_eq_true rfl] at NE
              refine wp_region_held (S := fun wz => wz.rangeAt w6.heap.size 0 (gl.map (Value.int .i64)) ∧ wz.rangeAt w7.heap.size 0 (gl.map (Value.int .i64))) (by kernel_rfl) ?_
              refine wpAnyH_take (i := 0) (oi := ⟨some 197, _, _, _, _, _⟩) (v := .agg (gl.map (Value.int .i64)).toArray) rfl (by kernel_rfl) (by kernel_rfl) (by kernel_rfl) (fun _ _ _ h => h) (yieldsIf_load_mid (by rfl) 53 (.tmp 22) rfl w6.heap.size 0 (by rfl) _ _ (fun wz h => h.1) Try.underlying53 rfl (by rw [info53]; simp [GL.out])) ⟨SA.out, SB.out⟩ ?_
              simp only [Act.put, List.setIfInBounds_toArray, List.set_cons_zero, List.set_cons_succ]
              refine wpAnyH_take (i := 2) (oi := ⟨some 199, _, _, _, _, _⟩) (v := .agg (gl.map (Value.int .i64)).toArray) rfl (by kernel_rfl) (by kernel_rfl) (by kernel_rfl) (fun _ _ _ h => h) (yieldsIf_load_mid (by rfl) 57 (.tmp 24) rfl w7.heap.size 0 (by rfl) _ _ (fun wz h => h.2) Try.underlying57 rfl (by rw [info57]; simp [GL.out])) ⟨SA.out, SB.out⟩ ?_
              simp only [Act.put, List.setIfInBounds_toArray, List.set_cons_zero, List.set_cons_succ]
              refine wpAnyH_call (i := 1) (oi := ⟨some 198, _, _, _, _, _⟩) (f := 22) (args := #[.agg (gl.map (Value.int .i64)).toArray]) (by kernel_rfl) rfl (by rfl) (by go_simp) ?_
              refine (own_c gl GL.out _).mono ?_
              rintro e w9 ⟨rfl, hn9⟩
              have hn9' : New w8 w9 := ⟨hn9.os, hn9.tape, hn9.output, hn9.size, hn9.block⟩
              have S9 : w9.rangeAt w6.heap.size 0 (gl.map (Value.int .i64)) ∧ w9.rangeAt w7.heap.size 0 (gl.map (Value.int .i64)) := ⟨range_new' SA.out LA.out hn9', range_new' SB.out LB.out hn9'⟩
              have X9 := Lib.hid (show New wc w9 from X8.out.trans hn9')
              clear hn9 hn9'
              refine ⟨_, rfl, S9, ?_⟩
              simp only [Act.put, List.setIfInBounds_toArray, List.set_cons_zero, List.set_cons_succ]
              refine wpAnyH_take (i := 3) (oi := ⟨some 200, _, _, _, _, _⟩) (v := .bool false) rfl (by kernel_rfl) (by kernel_rfl) (by kernel_rfl) (fun _ _ _ h => h) (.inl ⟨by rfl, fun wz _ => by go_simp⟩) S9 ?_
              simp only [Act.put, List.setIfInBounds_toArray, List.set_cons_zero, List.set_cons_succ]
              refine wpAnyH_take (i := 4) (oi := ⟨some 201, _, _, _, _, _⟩) (v := .bool false) rfl (by kernel_rfl) (by kernel_rfl) (by kernel_rfl) (fun _ _ _ h => h) (.inl ⟨by rfl, fun wz _ => by go_simp⟩) S9 ?_
              simp only [Act.put, List.setIfInBounds_toArray, List.set_cons_zero, List.set_cons_succ]
              refine wpAnyH_take (i := 5) (oi := ⟨some 202, _, _, _, _, _⟩) (v := .bool bo) rfl (by kernel_rfl) (by kernel_rfl) (by kernel_rfl) (fun _ _ _ h => h) (.inl ⟨by rfl, fun wz _ => by go_simp⟩) S9 ?_
              simp only [Act.put, List.setIfInBounds_toArray, List.set_cons_zero, List.set_cons_succ]
              refine wpAnyH_take (i := 6) (oi := ⟨some 203, _, _, _, _, _⟩) (v := .bool bo) rfl (by kernel_rfl) (by kernel_rfl) (by kernel_rfl) (fun _ _ _ h => h) (.inl ⟨by rfl, fun wz _ => by go_simp⟩) S9 ?_
              simp only [Act.put, List.setIfInBounds_toArray, List.set_cons_zero, List.set_cons_succ]
              refine wpAnyH_take (i := 7) (oi := ⟨some 204, _, _, _, _, _⟩) (v := .bool false) rfl (by kernel_rfl) (by kernel_rfl) (by kernel_rfl) (fun _ _ _ h => h) (.inl ⟨by rfl, fun wz _ => by cases bo <;> go_simp⟩) S9 ?_
              simp only [Act.put, List.setIfInBounds_toArray, List.set_cons_zero, List.set_cons_succ]
              refine wpAnyH_take (i := 8) (oi := ⟨some 205, _, _, _, _, _⟩) (v := .bool false) rfl (by kernel_rfl) (by kernel_rfl) (by kernel_rfl) (fun _ _ _ h => h) (.inl ⟨by rfl, fun wz _ => by go_simp⟩) S9 ?_
              simp only [Act.put, List.setIfInBounds_toArray, List.set_cons_zero, List.set_cons_succ]
              apply wpAnyH_done
              · kernel_rfl
              go_wp2_with fail
              go_roundw
              case rel => exact ⟨j + 1, by omega, by omega, by first | rfl | go_num, X9.out⟩
              case measure => simp [intOf]; omega
            · go_wp2_with fail
              go_roundw
              case rel => exact ⟨k + 1, R.n, R.xs, by omega, by go_num, HM.out, HV3.out, ⟨_, _, HN6.out.trans HX.out, HT6.out.new HX.out, HR6.out.new HX.out⟩⟩
              case measure => simp [intOf]; omega
    · go_wp2_with fail
      go_ret
      exact ⟨rfl, HN.out⟩
end Go.Proofs.Ytdbdpmpnblmfkaa

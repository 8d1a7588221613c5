/- The law TaskDoes: called with any input it returns true, and each argument reads afterwards as it read before. No condition. -/
import Derived.Test.YtdbdpmpnblmfkaaT17
import Derived.Test.YtdbdpmpnblmfkaaRows
import Derived.ProofKit
import Derived.OpenShut
import Derived.ChangeOld
import Derived.Deep.Slices
namespace Go.Proofs.Ytdbdpmpnblmfkaa
open Go.ChangeShapes Go.WideShapes Go.ChangeAt Go.RowKit Go.Deep
open Go.Proofs.Cmd

theorem cells34 : Try.prog.cellsOf 34 = 11 := by kernel_rfl
theorem cells3 : Try.prog.cellsOf 3 = 1 := by kernel_rfl
theorem cells2 : Try.prog.cellsOf 2 = 1 := by kernel_rfl
theorem cells32 : Try.prog.cellsOf 32 = 6 := by kernel_rfl

theorem one_int {H : Type} {enc : TypeId × Value → H} {w : World} {base fuel : Nat} {spare : Nat → Bool} {held : Bool} {t : TypeId} {c : Value} {o : Option (DataW H × List MemPlace)} (ht : Try.prog.underlying t = some (.int .i64))
    (h : DataW.trod enc Try.prog w base spare held fuel t [c] = o) (ho : o.isSome = true) : ∃ n, c = .int .i64 n := by
  obtain ⟨x, hx⟩ := Option.isSome_iff_exists.1 ho
  obtain ⟨n, h1, _⟩ := DataW.trod_int ht (h.trans hx)
  exact ⟨n, by simpa using h1⟩

theorem act_ints {H : Type} {enc : TypeId × Value → H} {w : World} {base fuel : Nat} {spare : Nat → Bool} {held : Bool} {cs : List Value} {x : DataW H × List MemPlace}
    (h : DataW.trod enc Try.prog w base spare held fuel 34 cs = some x) : ∃ d t a b' x p0 p1 p2 p3 p4 p5 : Int, cs = [d, t, a, b', x, p0, p1, p2, p3, p4, p5].map (Value.int .i64) := by
  obtain ⟨xs, m, rfl, rfl, hlen, hxs, hf⟩ := DataW.trod_struct Try.underlying34 h
  rw [cells34] at hlen
  match cs, hlen with
  | [c0, c1, c2, c3, c4, c5, c6, c7, c8, c9, c10], _ =>
  have hs : ∀ i, i < 6 → (xs[i]?).isSome = true := fun i hi => by
    rw [List.getElem?_eq_getElem (by rw [hxs]; exact hi)]; rfl
  have g0 : DataW.trod enc Try.prog w base spare held m 3 (([c0, c1, c2, c3, c4, c5, c6, c7, c8, c9, c10].drop 0).take (Try.prog.cellsOf 3)) = xs[0]? := hf 0 _ rfl
  rw [cells3] at g0
  have g1 : DataW.trod enc Try.prog w base spare held m 3 (([c0, c1, c2, c3, c4, c5, c6, c7, c8, c9, c10].drop 1).take (Try.prog.cellsOf 3)) = xs[1]? := hf 1 _ rfl
  rw [cells3] at g1
  have g2 : DataW.trod enc Try.prog w base spare held m 3 (([c0, c1, c2, c3, c4, c5, c6, c7, c8, c9, c10].drop 2).take (Try.prog.cellsOf 3)) = xs[2]? := hf 2 _ rfl
  rw [cells3] at g2
  have g3 : DataW.trod enc Try.prog w base spare held m 3 (([c0, c1, c2, c3, c4, c5, c6, c7, c8, c9, c10].drop 3).take (Try.prog.cellsOf 3)) = xs[3]? := hf 3 _ rfl
  rw [cells3] at g3
  have g4 : DataW.trod enc Try.prog w base spare held m 2 (([c0, c1, c2, c3, c4, c5, c6, c7, c8, c9, c10].drop 4).take (Try.prog.cellsOf 2)) = xs[4]? := hf 4 _ rfl
  rw [cells2] at g4
  have g5 : DataW.trod enc Try.prog w base spare held m 32 (([c0, c1, c2, c3, c4, c5, c6, c7, c8, c9, c10].drop 5).take (Try.prog.cellsOf 32)) = xs[5]? := hf 5 _ rfl
  rw [cells32] at g5
  obtain ⟨n0, rfl⟩ := one_int Try.underlying3 g0 (hs 0 (by omega))
  obtain ⟨n1, rfl⟩ := one_int Try.underlying3 g1 (hs 1 (by omega))
  obtain ⟨n2, rfl⟩ := one_int Try.underlying3 g2 (hs 2 (by omega))
  obtain ⟨n3, rfl⟩ := one_int Try.underlying3 g3 (hs 3 (by omega))
  obtain ⟨n4, rfl⟩ := one_int Try.underlying2 g4 (hs 4 (by omega))
  obtain ⟨y, hy⟩ := Option.isSome_iff_exists.1 (hs 5 (by omega))
  obtain ⟨ys, m', rfl, rfl, _, hys, hg⟩ := DataW.trod_struct Try.underlying32 (g5.trans hy)
  have hs' : ∀ i, i < 6 → (ys[i]?).isSome = true := fun i hi => by
    rw [List.getElem?_eq_getElem (by rw [hys]; exact hi)]; rfl
  have k0 : DataW.trod enc Try.prog w base spare held m' 3 (([c5, c6, c7, c8, c9, c10].drop 0).take (Try.prog.cellsOf 3)) = ys[0]? := hg 0 _ rfl
  rw [cells3] at k0
  have k1 : DataW.trod enc Try.prog w base spare held m' 3 (([c5, c6, c7, c8, c9, c10].drop 1).take (Try.prog.cellsOf 3)) = ys[1]? := hg 1 _ rfl
  rw [cells3] at k1
  have k2 : DataW.trod enc Try.prog w base spare held m' 3 (([c5, c6, c7, c8, c9, c10].drop 2).take (Try.prog.cellsOf 3)) = ys[2]? := hg 2 _ rfl
  rw [cells3] at k2
  have k3 : DataW.trod enc Try.prog w base spare held m' 3 (([c5, c6, c7, c8, c9, c10].drop 3).take (Try.prog.cellsOf 3)) = ys[3]? := hg 3 _ rfl
  rw [cells3] at k3
  have k4 : DataW.trod enc Try.prog w base spare held m' 3 (([c5, c6, c7, c8, c9, c10].drop 4).take (Try.prog.cellsOf 3)) = ys[4]? := hg 4 _ rfl
  rw [cells3] at k4
  have k5 : DataW.trod enc Try.prog w base spare held m' 2 (([c5, c6, c7, c8, c9, c10].drop 5).take (Try.prog.cellsOf 2)) = ys[5]? := hg 5 _ rfl
  rw [cells2] at k5
  obtain ⟨n5, rfl⟩ := one_int Try.underlying3 k0 (hs' 0 (by omega))
  obtain ⟨n6, rfl⟩ := one_int Try.underlying3 k1 (hs' 1 (by omega))
  obtain ⟨n7, rfl⟩ := one_int Try.underlying3 k2 (hs' 2 (by omega))
  obtain ⟨n8, rfl⟩ := one_int Try.underlying3 k3 (hs' 3 (by omega))
  obtain ⟨n9, rfl⟩ := one_int Try.underlying3 k4 (hs' 4 (by omega))
  obtain ⟨n10, rfl⟩ := one_int Try.underlying2 k5 (hs' 5 (by omega))
  exact ⟨n0, n1, n2, n3, n4, n5, n6, n7, n8, n9, n10, rfl⟩

theorem acts_of {H : Type} {enc : TypeId × Value → H} {w : World} {base fuel : Nat} {spare : Nat → Bool} {held : Bool} {la : Option Addr} {len cap : Nat} {x : DataW H × List MemPlace}
    (h : DataW.trod enc Try.prog w base spare held fuel 22 [.slice la len cap] = some x) : Acts w la len ∧ len ≤ cap ∧ cap ≤ maxLen := by
  rcases open_slice Try.underlying22 h with ⟨hcs, _⟩ | ⟨a, l, c, m, n, D, Pl, hcs, _, hl, hm, hmm, _, hx⟩
  · simp at hcs; obtain ⟨rfl, rfl, rfl⟩ := hcs
    exact ⟨fun k hk => by omega, by omega, by simp⟩
  · simp at hcs; obtain ⟨rfl, rfl, rfl⟩ := hcs
    refine ⟨fun k hk => ?_, hl, hm⟩
    have hle : len ≤ m := by subst hmm; split <;> omega
    obtain ⟨b, off, spot⟩ := a
    have hspot : spot = none := by
      obtain ⟨cs', h1, h2⟩ := hx 0 (by omega)
      rw [cells34] at h1
      obtain ⟨d, t, a1, b', x, p0, p1, p2, p3, p4, p5, rfl⟩ := act_ints h2
      obtain ⟨_, _, hc⟩ := World.cells?_some h1
      have hc0 := hc 0 (by omega)
      have h00 : w.cell? ⟨b, off, spot⟩ = some (.int .i64 d) := by simpa [Addr.add] using hc0
      exact World.cell?_spot h00
    subst hspot
    obtain ⟨cs', h1, h2⟩ := hx k (by omega)
    rw [cells34, Addr.add_mid] at h1
    obtain ⟨d, t, a1, b', x, p0, p1, p2, p3, p4, p5, rfl⟩ := act_ints h2
    obtain ⟨_, _, hc⟩ := World.cells?_some h1
    have hr : w.rangeAt b (off + k * 11) ([d, t, a1, b', x, p0, p1, p2, p3, p4, p5].map (Value.int .i64)) := by
      intro j v hv
      have hj : j < 11 := by have := (List.getElem?_eq_some_iff.1 hv).1; simpa using this
      have := hc j hj
      rw [Addr.add_mid] at this
      rw [this, hv]
    refine ⟨b, off, rfl, ?_, d, t, a1, b', x, p0, p1, p2, p3, p4, p5, hr⟩
    exact World.block_lt_of_cell? w _ (hr 0 _ rfl)

set_option maxRecDepth 100000 in
set_option maxHeartbeats 2000000 in
theorem walk_all (n : Int) (la : Option Addr) (len cap : Nat) (state ctx : Int) (w : World) (hA : Acts w la len) (hc : len ≤ cap) (_hm : cap ≤ maxLen) :
    Calls Try.prog 3 #[.int .i64 n, .slice la len cap, .int .i64 state, .int .i64 ctx] w fun e w' => e = .returned (.bool true) ∧ New w w' := by
  by_cases h1 : 30 < n ∧ n ≤ 200
  · obtain ⟨h1, h2⟩ := h1
    clear hA
    go_enter Try.func3, Try.ntmps3
    go_wp2_with fail
    refine (awake_c w).mono ?_; rintro e w0 ⟨rfl, hn⟩
    have N0 := Lib.hid hn
    clear hn
    go_wp2_with fail
    go_ret
    exact ⟨rfl, N0.out⟩
  · by_cases h2 : 100 < len
    · have h3 : ¬ (len : Int) ≤ 100 := by omega
      clear hA
      by_cases h4 : 30 < n
      · have h5 : ¬ n ≤ 200 := by omega
        clear h1
        go_enter Try.func3, Try.ntmps3
        go_wp2_with fail
        refine (awake_c w).mono ?_; rintro e w0 ⟨rfl, hn⟩
        have N0 := Lib.hid hn
        clear hn
        go_wp2_with fail
        go_ret
        exact ⟨rfl, N0.out⟩
      · clear h1
        go_enter Try.func3, Try.ntmps3
        go_wp2_with fail
        refine (awake_c w).mono ?_; rintro e w0 ⟨rfl, hn⟩
        have N0 := Lib.hid hn
        clear hn
        go_wp2_with fail
        go_ret
        exact ⟨rfl, N0.out⟩
    · by_cases h4 : 1 ≤ n ∧ n ≤ 30
      · exact law_loop n la len cap state ctx w h4.1 h4.2 (by omega) hc hA
      · have hb : n < 1 ∨ 200 < n := by omega
        have hl : ¬ (100 : Int) < (len : Int) := by omega
        have B1 := Lib.hid (fun w => new_bad n w hb)
        have B2 := Lib.hid (fun w => r_new_bad n w hb)
        clear hA
        rcases hb with hb | hb
        · have h5 : ¬ 30 < n := by omega
          clear h1 h2 h4
          go_enter Try.func3, Try.ntmps3
          go_wp2_with fail
          refine (awake_c w).mono ?_; rintro e w0 ⟨rfl, hn⟩
          have N0 := Lib.hid hn
          clear hn
          go_wp2_with fail
          refine (B1.out _).mono ?_; rintro e w1 ⟨rfl, rfl⟩
          go_wp2_with fail
          refine (B2.out _).mono ?_; rintro e w1 ⟨rfl, rfl⟩
          go_wp2_with fail
          go_ret
          exact ⟨rfl, N0.out⟩
        · have h5 : 30 < n := by omega
          have h6 : ¬ n ≤ 200 := by omega
          clear h1 h2 h4
          go_enter Try.func3, Try.ntmps3
          go_wp2_with fail
          refine (awake_c w).mono ?_; rintro e w0 ⟨rfl, hn⟩
          have N0 := Lib.hid hn
          clear hn
          go_wp2_with fail
          refine (B1.out _).mono ?_; rintro e w1 ⟨rfl, rfl⟩
          go_wp2_with fail
          refine (B2.out _).mono ?_; rintro e w1 ⟨rfl, rfl⟩
          go_wp2_with fail
          go_ret
          exact ⟨rfl, N0.out⟩

theorem own : ownKnob Try.prog.godebug = none := by kernel_rfl
theorem laidOut : laidOutB Try.prog = true := by kernel_rfl

set_option maxRecDepth 100000 in
theorem lifted (os : Os) (started : os.Started) (H : Type) (enc : TypeId × Value → H) :
    ReturnsInHanded {} Try.checked os 3 .any (Rows.taskDoesSpec.pre6 enc Try.prog Try.f3 Rows.taskDoesRow.domain false) (Rows.taskDoesSpec.post enc Try.prog Try.f3 false true false false) := by
  refine returnsInHanded_of_change (C := Try.checked) own started (by kernel_rfl) Try.func3
    (ChangeSpec.witness6 (enc := enc) (C := Try.checked) false ⟨#[], #[.int .i64 0, .slice none 0 0, .int .i64 0, .int .i64 0], []⟩ 8 (by kernel_rfl) (by kernel_rfl) (by kernel_rfl) (by kernel_rfl)) ?_
  intro W base args ds gs before hval0 hW hcnd _
  have hval : ∀ (j : Nat) t v, Try.f3.params[j]? = some t → args[j]? = some v → Value.okWide Try.prog W .any base t v := hval0
  have hW' := hW
  obtain ⟨p, q, hA0, hV, rfl, hfz, hnd⟩ := hW
  have hA : DataW.TrodAll enc Try.prog W 0 (fun _ => true) true Try.f3.params.toList args.toList ds p := hA0
  rw [Try.params3] at hA hval
  obtain ⟨v0, vs0, d0, ds0, p0, q0, hargs, rfl, rfl, h0, r0⟩ := trodAll_cons hA
  obtain ⟨v1, vs1, d1, ds1, p1, q1, rfl, rfl, rfl, h1, r1⟩ := trodAll_cons r0
  obtain ⟨v2, vs2, d2, ds2, p2, q2, rfl, rfl, rfl, h2, r2⟩ := trodAll_cons r1
  obtain ⟨v3, vs3, d3, ds3, p3, q3, rfl, rfl, rfl, h3, r3⟩ := trodAll_cons r2
  obtain ⟨rfl, rfl, rfl⟩ := trodAll_nil r3
  obtain rfl : args = #[v0, v1, v2, v3] := by cases args; simp_all
  obtain ⟨rfl, rfl⟩ := trodVars_none hV
  obtain ⟨a0, rfl, rfl, rfl, w0⟩ := open_int Try.underlying3 (hval 0 3 v0 rfl rfl) h0
  obtain ⟨la, len, cap, rfl⟩ := okWide_slice Try.underlying22 (hval 1 22 v1 rfl rfl)
  have k1 := h1
  have lt1 : ∀ x ∈ p1, x.block < W.heap.size := by obtain ⟨m, hm⟩ := k1; exact DataW.trod_lt m _ _ _ hm
  obtain ⟨hL, hlc, hcm⟩ : Acts W la len ∧ len ≤ cap ∧ cap ≤ maxLen := by
    obtain ⟨fuel, hf⟩ := h1
    exact acts_of (by simpa [Value.cells] using hf)
  obtain ⟨a2, rfl, rfl, rfl, w2⟩ := open_int Try.underlying3 (hval 2 3 v2 rfl rfl) h2
  obtain ⟨a3, rfl, rfl, rfl, w3⟩ := open_int Try.underlying3 (hval 3 3 v3 rfl rfl) h3
  clear hA0 hval0
  refine (walk_all a0 la len cap a2 a3 W hL hlc hcm).mono fun e W' ⟨he, hn⟩ => ?_
  subst he
  have bel := New.below hn
  exact ⟨_, rfl, _, _, _, [], _, [], hW', trodAll_mk1 (shut_bool Try.underlying4 _), (trodAll_cons_mk (shut_int Try.underlying3 w0) (trodAll_cons_mk (Below.trod laidOut (by kernel_rfl) (of_decide_eq_true (by kernel_rfl)) k1 bel lt1) (trodAll_cons_mk (shut_int Try.underlying3 w2) (trodAll_cons_mk (shut_int Try.underlying3 w3) trodAll_mk0)))), rfl, bel.frame _, fun h => by cases h⟩

theorem task_does : Rows.TaskDoesSaid :=
  OpenClaim.holds_of_wide 3 Try.f3 rfl rfl rfl rfl rfl rfl rfl ⟨rfl, rfl, rfl, rfl, rfl⟩ rfl rfl rfl rfl rfl (by kernel_rfl) Try.func3 (by kernel_rfl)
    (of_decide_eq_true (by kernel_rfl)) (by unfold Func.isWrapper; first | (rw [if_pos (by decide +kernel)]; kernel_rfl) | (rw [if_neg (by decide +kernel)]; exact ⟨rfl, rfl⟩))
    (fun os started H enc _ => lifted os started H enc)
#print axioms task_does
end Go.Proofs.Ytdbdpmpnblmfkaa

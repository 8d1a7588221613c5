/- The law TreeDoes: called with any input it returns true, and each argument reads afterwards as it read before. No condition. -/
import Derived.Test.YtoijeehkjpcefaaR16
import Derived.Test.YtoijeehkjpcefaaR17
import Derived.Test.YtoijeehkjpcefaaRows
import Derived.ProofKit
import Derived.OpenShut
import Derived.ChangeOld
import Derived.Deep.Slices
namespace Go.Proofs.Ytoijeehkjpcefaa
open Go.ChangeShapes Go.WideShapes Go.ChangeAt Go.RowKit Go.Deep
open Go.Proofs.Cmd

set_option maxRecDepth 100000 in
theorem walk_all (n : Int) (la : Option Addr) (len cap : Nat) (w : World) (hA : Acts w la len) (hc : len ≤ cap) (_hm : cap ≤ maxLen) :
    Calls Try.prog 3 #[.int .i64 n, .slice la len cap] w fun e w' => e = .returned (.bool true) ∧ New w w' := by
  by_cases h1 : 40 < n ∧ n ≤ 200
  · obtain ⟨h1, h2⟩ := h1
    clear hA
    go_enter Try.func3, Try.ntmps3
    go_wp2_with fail
    refine (awake_c w).mono ?_; rintro e w0 ⟨rfl, hn⟩
    have N0 := Lib.hid hn
    clear hn
    go_wp2_with fail
    go_ret
    exact ⟨rfl, N0.out⟩
  · by_cases h2 : 40 < len
    · have h3 : ¬ (len : Int) ≤ 40 := by omega
      clear hA
      by_cases h4 : 40 < n
      · have h5 : ¬ n ≤ 200 := by omega
        clear h1
        go_enter Try.func3, Try.ntmps3
        go_wp2_with fail
        refine (awake_c w).mono ?_; rintro e w0 ⟨rfl, hn⟩
        have N0 := Lib.hid hn
        clear hn
        go_wp2_with fail
        go_ret
        exact ⟨rfl, N0.out⟩
      · clear h1
        go_enter Try.func3, Try.ntmps3
        go_wp2_with fail
        refine (awake_c w).mono ?_; rintro e w0 ⟨rfl, hn⟩
        have N0 := Lib.hid hn
        clear hn
        go_wp2_with fail
        go_ret
        exact ⟨rfl, N0.out⟩
    · by_cases h4 : 1 ≤ n ∧ n ≤ 40
      · exact does_loop n la len cap w h4.1 h4.2 (by omega) hc hA
      · have hb : n < 1 ∨ 200 < n := by omega
        have hl : ¬ (40 : Int) < (len : Int) := by omega
        have B1 := Lib.hid (fun w => new_bad n w hb)
        have B2 := Lib.hid (fun w => r_new_bad n w hb)
        clear hA
        rcases hb with hb | hb
        · have h5 : ¬ 40 < n := by omega
          clear h1 h2 h4
          go_enter Try.func3, Try.ntmps3
          go_wp2_with fail
          refine (awake_c w).mono ?_; rintro e w0 ⟨rfl, hn⟩
          have N0 := Lib.hid hn
          clear hn
          go_wp2_with fail
          refine (B1.out _).mono ?_; rintro e w1 ⟨rfl, rfl⟩
          go_wp2_with fail
          refine (B2.out _).mono ?_; rintro e w1 ⟨rfl, rfl⟩
          go_wp2_with fail
          go_ret
          exact ⟨rfl, N0.out⟩
        · have h5 : 40 < n := by omega
          have h6 : ¬ n ≤ 200 := by omega
          clear h1 h2 h4
          go_enter Try.func3, Try.ntmps3
          go_wp2_with fail
          refine (awake_c w).mono ?_; rintro e w0 ⟨rfl, hn⟩
          have N0 := Lib.hid hn
          clear hn
          go_wp2_with fail
          refine (B1.out _).mono ?_; rintro e w1 ⟨rfl, rfl⟩
          go_wp2_with fail
          refine (B2.out _).mono ?_; rintro e w1 ⟨rfl, rfl⟩
          go_wp2_with fail
          go_ret
          exact ⟨rfl, N0.out⟩

theorem own : ownKnob Try.prog.godebug = none := by kernel_rfl
theorem laidOut : laidOutB Try.prog = true := by kernel_rfl

set_option maxRecDepth 100000 in
theorem lifted (os : Os) (started : os.Started) (H : Type) (enc : TypeId × Value → H) :
    ReturnsInHanded {} Try.checked os 3 .any (Rows.treeDoesSpec.pre6 enc Try.prog Try.f3 Rows.treeDoesRow.domain false) (Rows.treeDoesSpec.post enc Try.prog Try.f3 false true false false) := by
  refine returnsInHanded_of_change (C := Try.checked) own started (by kernel_rfl) Try.func3
    (ChangeSpec.witness6 (enc := enc) (C := Try.checked) false ⟨#[], #[.int .i64 0, .slice none 0 0], []⟩ 8 (by kernel_rfl) (by kernel_rfl) (by kernel_rfl) (by kernel_rfl)) ?_
  intro W base args ds gs before hval0 hW hcnd _
  have hval : ∀ (j : Nat) t v, Try.f3.params[j]? = some t → args[j]? = some v → Value.okWide Try.prog W .any base t v := hval0
  have hW' := hW
  obtain ⟨p, q, hA0, hV, rfl, hfz, hnd⟩ := hW
  have hA : DataW.TrodAll enc Try.prog W 0 (fun _ => true) true Try.f3.params.toList args.toList ds p := hA0
  rw [Try.params3] at hA hval
  obtain ⟨v0, vs0, d0, ds0, p0, q0, hargs, rfl, rfl, h0, r0⟩ := trodAll_cons hA
  obtain ⟨v1, vs1, d1, ds1, p1, q1, rfl, rfl, rfl, h1, r1⟩ := trodAll_cons r0
  obtain ⟨rfl, rfl, rfl⟩ := trodAll_nil r1
  obtain rfl : args = #[v0, v1] := by cases args; simp_all
  obtain ⟨rfl, rfl⟩ := trodVars_none hV
  obtain ⟨a0, rfl, rfl, rfl, w0⟩ := open_int Try.underlying3 (hval 0 3 v0 rfl rfl) h0
  obtain ⟨la1, len1, cap1, rfl⟩ := okWide_slice Try.underlying22 (hval 1 22 v1 rfl rfl)
  have k1 := h1
  have lt1 : ∀ x ∈ p1, x.block < W.heap.size := by obtain ⟨m, hm⟩ := k1; exact DataW.trod_lt m _ _ _ hm
  obtain ⟨hL1, hlc1, hcm1⟩ : Acts W la1 len1 ∧ len1 ≤ cap1 ∧ cap1 ≤ maxLen := by
    obtain ⟨fuel, hf⟩ := h1
    exact acts_of (by simpa [Value.cells] using hf)
  clear hA0 hval0
  refine (walk_all a0 la1 len1 cap1 W hL1 hlc1 hcm1).mono fun e W' ⟨he, hn⟩ => ?_
  subst he
  have bel := New.below hn
  exact ⟨_, rfl, _, _, _, [], _, [], hW', trodAll_mk1 (shut_bool Try.underlying4 _), (trodAll_cons_mk (shut_int Try.underlying3 w0) (trodAll_cons_mk (Below.trod laidOut (by kernel_rfl) (of_decide_eq_true (by kernel_rfl)) k1 bel lt1) trodAll_mk0)), rfl, bel.frame _, fun h => by cases h⟩

theorem tree_does : Rows.TreeDoesSaid :=
  OpenClaim.holds_of_wide 3 Try.f3 rfl rfl rfl rfl rfl rfl rfl ⟨rfl, rfl, rfl, rfl, rfl⟩ rfl rfl rfl rfl rfl (by kernel_rfl) Try.func3 (by kernel_rfl)
    (of_decide_eq_true (by kernel_rfl)) (by unfold Func.isWrapper; first | (rw [if_pos (by decide +kernel)]; kernel_rfl) | (rw [if_neg (by decide +kernel)]; exact ⟨rfl, rfl⟩))
    (fun os started H enc _ => lifted os started H enc)
#print axioms tree_does
end Go.Proofs.Ytoijeehkjpcefaa

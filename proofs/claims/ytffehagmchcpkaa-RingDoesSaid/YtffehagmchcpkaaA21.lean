/- The law RingDoes: called with any input it returns true, and each argument reads afterwards as it read before. No condition. -/
import Derived.Test.YtffehagmchcpkaaA20
import Derived.Test.YtffehagmchcpkaaRows
import Derived.ProofKit
import Derived.OpenShut
import Derived.ChangeOld
import Derived.Deep.Slices
namespace Go.Proofs.Ytffehagmchcpkaa
open Go.ChangeShapes Go.WideShapes Go.ChangeAt Go.RowKit Go.Deep
open Go.Proofs.Cmd

/-- Where the law answers true without a round: too large, or no arena. -/
def Quick (r n : Int) (len : Nat) : Prop := (1 ≤ r ∧ r ≤ 1000 ∧ 1 ≤ n ∧ n ≤ 1000 ∧ (20 < r ∨ 20 < n)) ∨ 120 < len ∨ r < 1 ∨ 1000 < r ∨ n < 1 ∨ 1000 < n
set_option maxRecDepth 100000 in
set_option maxHeartbeats 4000000 in
theorem quick_c (r n : Int) (la : Option Addr) (len cap : Nat) (w : World) (h : Quick r n len) :
    Calls Try.prog 3 #[.int .i64 r, .int .i64 n, .slice la len cap] w fun e w' => e = .returned (.bool true) ∧ New w w' := by
  have B1 := Lib.hid (fun w (h : r < 1 ∨ 1000 < r ∨ n < 1 ∨ 1000 < n) => new_bad r n w h)
  have B2 := Lib.hid (fun w (h : r < 1 ∨ 1000 < r ∨ n < 1 ∨ 1000 < n) => r_new_bad r n w h)
  have hr : r < 1 ∨ (1 ≤ r ∧ r ≤ 20) ∨ (20 < r ∧ 1 ≤ r ∧ r ≤ 1000) ∨ (1000 < r ∧ 1 ≤ r ∧ 20 < r) := by omega
  have hn : n < 1 ∨ (1 ≤ n ∧ n ≤ 20) ∨ (20 < n ∧ 1 ≤ n ∧ n ≤ 1000) ∨ (1000 < n ∧ 1 ≤ n ∧ 20 < n) := by omega
  have hl : (120 : Int) < (len : Int) ∨ (len : Int) ≤ 120 := by omega
  have HQ := Lib.hid h
  clear h
  rcases hl with hl | hl <;> rcases hr with hr | ⟨hr, hr'⟩ | ⟨hr, hr', hr''⟩ | ⟨hr, hr', hr''⟩ <;> rcases hn with hn | ⟨hn, hn'⟩ | ⟨hn, hn', hn''⟩ | ⟨hn, hn', hn''⟩
  all_goals first
    | (exfalso; have := HQ.out; unfold Quick at this; omega)
    | (go_enter Try.func3, Try.ntmps3
       go_wp2_with fail
       refine (awake_c w).mono ?_; rintro e w0 ⟨rfl, hnn⟩
       have N0 := Lib.hid hnn
       clear hnn
       go_wp2_with fail
       first
         | (go_ret; exact ⟨rfl, N0.out⟩)
         | (refine (B1.out _ (by omega)).mono ?_; rintro e w1 ⟨rfl, rfl⟩
            go_wp2_with fail
            refine (B2.out _ (by omega)).mono ?_; rintro e w1 ⟨rfl, rfl⟩
            go_wp2_with fail
            go_ret
            exact ⟨rfl, N0.out⟩))
theorem walk_all (r n : Int) (la : Option Addr) (len cap : Nat) (w : World) (hA : Acts w la len) (_hc : len ≤ cap) (_hm : cap ≤ maxLen) :
    Calls Try.prog 3 #[.int .i64 r, .int .i64 n, .slice la len cap] w fun e w' => e = .returned (.bool true) ∧ New w w' := by
  by_cases h : Quick r n len
  · exact quick_c r n la len cap w h
  · unfold Quick at h
    obtain ⟨R, rfl⟩ := Int.eq_ofNat_of_zero_le (show 0 ≤ r by omega)
    obtain ⟨N, rfl⟩ := Int.eq_ofNat_of_zero_le (show 0 ≤ n by omega)
    exact does_loop R N la len cap w (by omega) (by omega) (by omega) (by omega) (by omega) hA

theorem own : ownKnob Try.prog.godebug = none := by kernel_rfl
theorem laidOut : laidOutB Try.prog = true := by kernel_rfl

set_option maxRecDepth 100000 in
theorem lifted (os : Os) (started : os.Started) (H : Type) (enc : TypeId × Value → H) :
    ReturnsInHanded {} Try.checked os 3 .any (Rows.ringDoesSpec.pre6 enc Try.prog Try.f3 Rows.ringDoesRow.domain false) (Rows.ringDoesSpec.post enc Try.prog Try.f3 false true false false) := by
  refine returnsInHanded_of_change (C := Try.checked) own started (by kernel_rfl) Try.func3
    (ChangeSpec.witness6 (enc := enc) (C := Try.checked) false ⟨#[], #[.int .i64 0, .int .i64 0, .slice none 0 0], []⟩ 8 (by kernel_rfl) (by kernel_rfl) (by kernel_rfl) (by kernel_rfl)) ?_
  intro W base args ds gs before hval0 hW hcnd _
  have hval : ∀ (j : Nat) t v, Try.f3.params[j]? = some t → args[j]? = some v → Value.okWide Try.prog W .any base t v := hval0
  have hW' := hW
  obtain ⟨p, q, hA0, hV, rfl, hfz, hnd⟩ := hW
  have hA : DataW.TrodAll enc Try.prog W 0 (fun _ => true) true Try.f3.params.toList args.toList ds p := hA0
  rw [Try.params3] at hA hval
  obtain ⟨v0, vs0, d0, ds0, p0, q0, hargs, rfl, rfl, h0, r0⟩ := trodAll_cons hA
  obtain ⟨v1, vs1, d1, ds1, p1, q1, rfl, rfl, rfl, h1, r1⟩ := trodAll_cons r0
  obtain ⟨v2, vs2, d2, ds2, p2, q2, rfl, rfl, rfl, h2, r2⟩ := trodAll_cons r1
  obtain ⟨rfl, rfl, rfl⟩ := trodAll_nil r2
  obtain rfl : args = #[v0, v1, v2] := by cases args; simp_all
  obtain ⟨rfl, rfl⟩ := trodVars_none hV
  obtain ⟨a0, rfl, rfl, rfl, w0⟩ := open_int Try.underlying3 (hval 0 3 v0 rfl rfl) h0
  obtain ⟨a1, rfl, rfl, rfl, w1⟩ := open_int Try.underlying3 (hval 1 3 v1 rfl rfl) h1
  obtain ⟨la2, len2, cap2, rfl⟩ := okWide_slice Try.underlying22 (hval 2 22 v2 rfl rfl)
  have k2 := h2
  have lt2 : ∀ x ∈ p2, x.block < W.heap.size := by obtain ⟨m, hm⟩ := k2; exact DataW.trod_lt m _ _ _ hm
  obtain ⟨hL2, hlc2, hcm2⟩ : Acts W la2 len2 ∧ len2 ≤ cap2 ∧ cap2 ≤ maxLen := by
    obtain ⟨fuel, hf⟩ := h2
    exact acts_of (by simpa [Value.cells] using hf)
  clear hA0 hval0
  refine (walk_all a0 a1 la2 len2 cap2 W hL2 hlc2 hcm2).mono fun e W' ⟨he, hn⟩ => ?_
  subst he
  have bel := New.below hn
  exact ⟨_, rfl, _, _, _, [], _, [], hW', trodAll_mk1 (shut_bool Try.underlying4 _), (trodAll_cons_mk (shut_int Try.underlying3 w0) (trodAll_cons_mk (shut_int Try.underlying3 w1) (trodAll_cons_mk (Below.trod laidOut (by kernel_rfl) (of_decide_eq_true (by kernel_rfl)) k2 bel lt2) trodAll_mk0))), rfl, bel.frame _, fun h => by cases h⟩

theorem ring_does : Rows.RingDoesSaid :=
  OpenClaim.holds_of_wide 3 Try.f3 rfl rfl rfl rfl rfl rfl rfl ⟨rfl, rfl, rfl, rfl, rfl⟩ rfl rfl rfl rfl rfl (by kernel_rfl) Try.func3 (by kernel_rfl)
    (of_decide_eq_true (by kernel_rfl)) (by unfold Func.isWrapper; first | (rw [if_pos (by decide +kernel)]; kernel_rfl) | (rw [if_neg (by decide +kernel)]; exact ⟨rfl, rfl⟩))
    (fun os started H enc _ => lifted os started H enc)
#print axioms ring_does
end Go.Proofs.Ytffehagmchcpkaa

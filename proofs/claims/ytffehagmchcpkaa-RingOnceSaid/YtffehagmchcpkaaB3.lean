/- The law RingOnce: called with any input it returns true, and each argument reads afterwards as it read before. No condition. -/
import Derived.Test.YtffehagmchcpkaaB2
import Derived.Test.YtffehagmchcpkaaA20
import Derived.Test.YtffehagmchcpkaaRows
import Derived.ProofKit
import Derived.OpenShut
import Derived.ChangeOld
import Derived.Deep.Slices
namespace Go.Proofs.Ytffehagmchcpkaa
open Go.ChangeShapes Go.WideShapes Go.ChangeAt Go.RowKit Go.Deep
open Go.Proofs.Cmd

/-- Where the law answers true without a round. -/
def Quick (r n : Int) (len : Nat) : Prop := r = 0 ∨ n = 0 ∨ 20 < r ∨ 20 < n ∨ 120 < len
set_option maxRecDepth 100000 in
set_option maxHeartbeats 4000000 in
theorem quick_c (r n : Int) (la : Option Addr) (len cap : Nat) (w : World) (hr0 : 0 ≤ r) (hn0 : 0 ≤ n) (h : Quick r n len) :
    Calls Try.prog 4 #[.int .u8 r, .int .u8 n, .slice la len cap] w fun e w' => e = .returned (.bool true) ∧ New w w' := by
  have hr : r = 0 ∨ ((r == 0) = false ∧ decide (20 < r) = false) ∨ ((r == 0) = false ∧ decide (20 < r) = true) := by simp; omega
  have hn : n = 0 ∨ ((n == 0) = false ∧ decide (20 < n) = false) ∨ ((n == 0) = false ∧ decide (20 < n) = true) := by simp; omega
  have hl : decide ((120 : Int) < (len : Int)) = true ∨ decide ((120 : Int) < (len : Int)) = false := by cases decide ((120 : Int) < (len : Int)) <;> simp
  have HQ := Lib.hid h
  clear h
  rcases hl with hl | hl <;> rcases hr with rfl | ⟨hr, hr'⟩ | ⟨hr, hr'⟩ <;> rcases hn with rfl | ⟨hn, hn'⟩ | ⟨hn, hn'⟩
  all_goals first
    | (exfalso; have := HQ.out; unfold Quick at this; simp at *; omega)
    | (clear hr0 hn0
       go_enter Try.func4, Try.ntmps4
       go_wp2_with fail
       refine (awake_c w).mono ?_; rintro e w0 ⟨rfl, hnn⟩
       have N0 := Lib.hid hnn
       clear hnn
       go_wp2_with fail
       go_ret; exact ⟨rfl, N0.out⟩)
theorem walk_all (r n : Int) (la : Option Addr) (len cap : Nat) (w : World) (hr : (Lit.int .u8 r).wf = true) (hn : (Lit.int .u8 n).wf = true) (hA : Acts w la len) (_hc : len ≤ cap) (_hm : cap ≤ maxLen) :
    Calls Try.prog 4 #[.int .u8 r, .int .u8 n, .slice la len cap] w fun e w' => e = .returned (.bool true) ∧ New w w' := by
  have hr0 := (bounds_u8 hr).1
  have hn0 := (bounds_u8 hn).1
  by_cases h : Quick r n len
  · exact quick_c r n la len cap w hr0 hn0 h
  · unfold Quick at h
    obtain ⟨R, rfl⟩ := Int.eq_ofNat_of_zero_le hr0
    obtain ⟨N, rfl⟩ := Int.eq_ofNat_of_zero_le hn0
    exact once_loop R N la len cap w (by omega) (by omega) (by omega) (by omega) (by omega) hA

theorem own : ownKnob Try.prog.godebug = none := by kernel_rfl
theorem laidOut : laidOutB Try.prog = true := by kernel_rfl

set_option maxRecDepth 100000 in
theorem lifted (os : Os) (started : os.Started) (H : Type) (enc : TypeId × Value → H) :
    ReturnsInHanded {} Try.checked os 4 .any (Rows.ringOnceSpec.pre6 enc Try.prog Try.f4 Rows.ringOnceRow.domain false) (Rows.ringOnceSpec.post enc Try.prog Try.f4 false true false false) := by
  refine returnsInHanded_of_change (C := Try.checked) own started (by kernel_rfl) Try.func4
    (ChangeSpec.witness6 (enc := enc) (C := Try.checked) false ⟨#[], #[.int .u8 0, .int .u8 0, .slice none 0 0], []⟩ 8 (by kernel_rfl) (by kernel_rfl) (by kernel_rfl) (by kernel_rfl)) ?_
  intro W base args ds gs before hval0 hW hcnd _
  have hval : ∀ (j : Nat) t v, Try.f4.params[j]? = some t → args[j]? = some v → Value.okWide Try.prog W .any base t v := hval0
  have hW' := hW
  obtain ⟨p, q, hA0, hV, rfl, hfz, hnd⟩ := hW
  have hA : DataW.TrodAll enc Try.prog W 0 (fun _ => true) true Try.f4.params.toList args.toList ds p := hA0
  rw [Try.params4] at hA hval
  obtain ⟨v0, vs0, d0, ds0, p0, q0, hargs, rfl, rfl, h0, r0⟩ := trodAll_cons hA
  obtain ⟨v1, vs1, d1, ds1, p1, q1, rfl, rfl, rfl, h1, r1⟩ := trodAll_cons r0
  obtain ⟨v2, vs2, d2, ds2, p2, q2, rfl, rfl, rfl, h2, r2⟩ := trodAll_cons r1
  obtain ⟨rfl, rfl, rfl⟩ := trodAll_nil r2
  obtain rfl : args = #[v0, v1, v2] := by cases args; simp_all
  obtain ⟨rfl, rfl⟩ := trodVars_none hV
  obtain ⟨a0, rfl, rfl, rfl, w0⟩ := open_int Try.underlying5 (hval 0 5 v0 rfl rfl) h0
  obtain ⟨a1, rfl, rfl, rfl, w1⟩ := open_int Try.underlying5 (hval 1 5 v1 rfl rfl) h1
  obtain ⟨la2, len2, cap2, rfl⟩ := okWide_slice Try.underlying22 (hval 2 22 v2 rfl rfl)
  have k2 := h2
  have lt2 : ∀ x ∈ p2, x.block < W.heap.size := by obtain ⟨m, hm⟩ := k2; exact DataW.trod_lt m _ _ _ hm
  obtain ⟨hL2, hlc2, hcm2⟩ : Acts W la2 len2 ∧ len2 ≤ cap2 ∧ cap2 ≤ maxLen := by
    obtain ⟨fuel, hf⟩ := h2
    exact acts_of (by simpa [Value.cells] using hf)
  clear hA0 hval0
  refine (walk_all a0 a1 la2 len2 cap2 W w0 w1 hL2 hlc2 hcm2).mono fun e W' ⟨he, hn⟩ => ?_
  subst he
  have bel := New.below hn
  exact ⟨_, rfl, _, _, _, [], _, [], hW', trodAll_mk1 (shut_bool Try.underlying4 _), (trodAll_cons_mk (shut_int Try.underlying5 w0) (trodAll_cons_mk (shut_int Try.underlying5 w1) (trodAll_cons_mk (Below.trod laidOut (by kernel_rfl) (of_decide_eq_true (by kernel_rfl)) k2 bel lt2) trodAll_mk0))), rfl, bel.frame _, fun h => by cases h⟩

theorem ring_once : Rows.RingOnceSaid :=
  OpenClaim.holds_of_wide 4 Try.f4 rfl rfl rfl rfl rfl rfl rfl ⟨rfl, rfl, rfl, rfl, rfl⟩ rfl rfl rfl rfl rfl (by kernel_rfl) Try.func4 (by kernel_rfl)
    (of_decide_eq_true (by kernel_rfl)) (by unfold Func.isWrapper; first | (rw [if_pos (by decide +kernel)]; kernel_rfl) | (rw [if_neg (by decide +kernel)]; exact ⟨rfl, rfl⟩))
    (fun os started H enc _ => lifted os started H enc)
#print axioms ring_once
end Go.Proofs.Ytffehagmchcpkaa

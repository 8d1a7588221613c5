import Derived.Test.YtdbdpmpnblmfkaaT6
namespace Go.Proofs.Ytdbdpmpnblmfkaa
open Go.RowKit Go.Proofs.Cmd
variable {B p n : Nat} {sv : Value} {xs : List Int} {most : Int} {w : World}

theorem seventeen {r : List Int} (h : r.length = 17) : ∃ a0 a1 a2 a3 a4 a5 a6 a7 a8 a9 a10 a11 a12 a13 a14 a15 a16, r = [a0, a1, a2, a3, a4, a5, a6, a7, a8, a9, a10, a11, a12, a13, a14, a15, a16] := by
  match r, h with
  | [a0, a1, a2, a3, a4, a5, a6, a7, a8, a9, a10, a11, a12, a13, a14, a15, a16], _ => exact ⟨a0, a1, a2, a3, a4, a5, a6, a7, a8, a9, a10, a11, a12, a13, a14, a15, a16, rfl⟩

theorem len_c (h : Tab 65 53 B w p sv n xs most) : Calls Try.prog 14 #[.pointer (some ⟨p, 0, none⟩)] w fun e w' => e = .returned (.int .i64 n) ∧ w = w' := by
  obtain ⟨s, cap, rfl, hc⟩ := h.shape
  have h0 := cell_of h.head 0
  simp only [List.getElem?_toArray, List.getElem?_cons_zero] at h0
  clear h
  go_enter Try.func14, Try.ntmps14
  go_wp2
  go_ret
  exact ⟨rfl, rfl⟩

theorem get_out (h : Tab 65 53 B w p sv n xs most) (i : Int) (hi : i < 0 ∨ n ≤ i) :
    Calls Try.prog 20 #[.pointer (some ⟨p, 0, none⟩), .int .i64 i] w fun e w' => e = .returned (.tuple #[.agg (zer.map (Value.int .i64)).toArray, .bool false]) ∧ New w w' := by
  have OF := Lib.hid (of_out B p n sv xs most _ (h.new (new_alloc w (.cells #[.int .i64 0, .int .i64 0, .int .i64 0, .int .i64 0, .int .i64 0, .int .i64 0, .int .i64 0, .int .i64 0, .int .i64 0, .int .i64 0, .int .i64 0, .int .i64 0, .int .i64 0, .int .i64 0, .int .i64 0, .int .i64 0, .int .i64 0] 53))) i hi)
  clear h hi
  go_enter Try.func20, Try.ntmps20
  go_wp2_with fail
  refine OF.out.mono ?_; rintro e w' ⟨rfl, rfl⟩
  go_wp2_with fail
  exact bodyPost_ret (results_celltmp (fn := Try.f20) (p := 4) (t := 5) rfl _ _ w.heap.size 53 #[.int .i64 0, .int .i64 0, .int .i64 0, .int .i64 0, .int .i64 0, .int .i64 0, .int .i64 0, .int .i64 0, .int .i64 0, .int .i64 0, .int .i64 0, .int .i64 0, .int .i64 0, .int .i64 0, .int .i64 0, .int .i64 0, .int .i64 0] (0, 0) _ (by rfl) (heap_at _ rfl) Try.underlying53 rfl (by rw [info53]; rfl)) rfl ⟨rfl, new_alloc _ _⟩

set_option maxHeartbeats 400000 in
theorem get_in (h : Tab 65 53 B w p sv n xs most) (i : Int) (h0 : 0 ≤ i) (hi : i < n) :
    Calls Try.prog 20 #[.pointer (some ⟨p, 0, none⟩), .int .i64 i] w fun e w' => e = .returned (.tuple #[.agg ((tk xs i.toNat).map (Value.int .i64)).toArray, .bool true]) ∧ New w w' := by
  obtain ⟨g, cap, cur, rfl, _, _, hg, _, _, _, ht⟩ := h.block (by omega)
  have h' := h.new (new_alloc w (.cells #[.int .i64 0, .int .i64 0, .int .i64 0, .int .i64 0, .int .i64 0, .int .i64 0, .int .i64 0, .int .i64 0, .int .i64 0, .int .i64 0, .int .i64 0, .int .i64 0, .int .i64 0, .int .i64 0, .int .i64 0, .int .i64 0, .int .i64 0] 53))
  have OF := Lib.hid (of_in B p g cap n xs most _ h' i h0 hi)
  have R0 := Lib.hid (h'.range (heap_alloc hg _) ht (k := i.toNat) (by omega))
  have hr : (tk xs i.toNat).length = 17 := tk_len h.len (by omega)
  obtain ⟨a0, a1, a2, a3, a4, a5, a6, a7, a8, a9, a10, a11, a12, a13, a14, a15, a16, hr⟩ := seventeen hr
  rw [hr] at R0 ⊢
  clear h h' hg ht hr
  go_enter Try.func20, Try.ntmps20
  go_wp2_with fail
  refine OF.out.mono ?_; rintro e w' ⟨rfl, rfl⟩
  go_wp2_with (refine wpList_ld (ty := 53) (x := .tmp 14) g _ _ _ (by rfl) (by rfl) R0.out Try.underlying53 rfl (by rw [info53]; rfl) ?_)
  exact bodyPost_ret (results_celltmp (fn := Try.f20) (p := 4) (t := 5) rfl _ _ w.heap.size 53 #[.int .i64 a0, .int .i64 a1, .int .i64 a2, .int .i64 a3, .int .i64 a4, .int .i64 a5, .int .i64 a6, .int .i64 a7, .int .i64 a8, .int .i64 a9, .int .i64 a10, .int .i64 a11, .int .i64 a12, .int .i64 a13, .int .i64 a14, .int .i64 a15, .int .i64 a16] (0, 0) _ (by rfl) (heap_at _ rfl) Try.underlying53 rfl (by rw [info53]; rfl)) rfl ⟨rfl, new_alloc _ _⟩

end Go.Proofs.Ytdbdpmpnblmfkaa

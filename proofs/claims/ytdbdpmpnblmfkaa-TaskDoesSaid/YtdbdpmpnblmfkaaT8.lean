import Derived.Test.YtdbdpmpnblmfkaaT7
import Derived.Test.YtdbdpmpnblmfkaaK3
import Derived.Maps.AppendAt
namespace Go.Proofs.Ytdbdpmpnblmfkaa
open Go.RowKit Go.Proofs.Cmd
variable {B p n : Nat} {sv : Value} {xs : List Int} {most : Int} {w : World}

/-- Which of the first k tasks are such. -/
def sel (f : List Int → Bool) (xs : List Int) (k : Nat) : List Int := ((List.range k).filter fun j => f (tk xs j)).map (fun j : Nat => (j : Int))
theorem sel_succ (f : List Int → Bool) (xs : List Int) (k : Nat) : sel f xs (k + 1) = sel f xs k ++ (if f (tk xs k) then [(k : Int)] else []) := by
  simp only [sel, List.range_succ, List.filter_append, List.map_append]
  congr 1
  by_cases h : f (tk xs k) <;> simp [h]
theorem sel_len (f : List Int → Bool) (xs : List Int) (k : Nat) : (sel f xs k).length ≤ k := by
  simp only [sel, List.length_map]
  exact Nat.le_trans (List.length_filter_le _ _) (by simp)

theorem info3 : (Try.prog.info? 3).map (fun i => (i.zero, i.size, i.bytes)) = some (some (.int .i64 0), 1, 8) := by kernel_rfl

set_option maxHeartbeats 1000000 in
theorem those_32 (h : Tab 65 53 B w p sv n xs most) (c : Value) (f : List Int → Bool)
    (hf : ∀ (r : List Int) (w1 : World), r.length = 17 → New w w1 → Calls Try.prog 32 #[.agg (r.map (Value.int .i64)).toArray, c] w1 fun e w2 => e = .returned (.bool (f r)) ∧ New w1 w2) :
    Calls Try.prog 31 #[.pointer (some ⟨p, 0, none⟩), .func (.func 32) #[] #[c]] w fun e w' => ∃ v, e = .returned v ∧ Ints w' v (sel f xs n) ∧ New w w' := by
  obtain ⟨s, cap, rfl, hc⟩ := h.shape
  have h0 := cell_of h.head 0
  simp only [List.getElem?_toArray, List.getElem?_cons_zero] at h0
  have H := Lib.hid h
  have F := Lib.hid hf
  have hsm := h.small
  obtain ⟨i0, hi, hz0, hz1, hz2⟩ := info_parts info3
  clear h hf
  go_enter Try.func31, Try.ntmps31
  go_wp2_with fail
  go_loopw [5, 13] (fun v i wr => ∃ k : Nat, k ≤ n ∧ i = .int .i64 k ∧ New w wr ∧ wr.ownsRow w.heap.size 3 1 v (sel f xs k).length ((sel f xs k).map (Value.int .i64))) (fun _ i _ => n - (intOf i).toNat)
  case atStart => exact ⟨0, Nat.zero_le _, rfl, Upd.refl _ _, World.ownsRow_nil _ _ _ _⟩
  case round =>
    obtain ⟨k, hk, rfl, hN, hO⟩ := hrel
    have HN := Lib.hid hN
    have HO := Lib.hid hO
    have hb := hN.size
    have hl := sel_len f xs k
    clear hN hO h0
    by_cases hlt : k < n
    · obtain ⟨g, cap', cur, e1, _, _, hg, _, _, _, ht⟩ := H.out.block (by omega)
      cases e1
      have R00 := (H.out.new HN.out).range (New.heap HN.out hg) ht hlt
      rw [Nat.mul_comm] at R00
      have R0 := Lib.hid R00; clear R00
      have hr : (tk xs k).length = 17 := tk_len H.out.len hlt
      have HR := Lib.hid hr
      clear hg ht hr
      go_wp2_with (first | (refine wpList_ld (ty := 53) (x := .tmp 16) g _ _ _ (by rfl) (by rfl) R0.out Try.underlying53 rfl (by rw [info53]; simp [HR.out]) ?_) | (refine wpList_stnew (ty := 53) (x := .tmp 7) (y := .tmp 17) _ _ _ (tk xs k) (by rfl) rfl (by rfl) (by rfl) (by simp [HR.out]) (by rw [info53]; simp [HR.out]) ?_) | (refine wpList_ld (ty := 53) (x := .tmp 7) wr.heap.size 0 _ _ (by rfl) (by rfl) (range_new _ _ _ _ rfl) Try.underlying53 rfl (by rw [info53]; simp [HR.out]) ?_))
      refine (F.out (tk xs k) _ HR.out (HN.out.alloc _)).mono ?_
      rintro e w2 ⟨rfl, hN2⟩
      have HN2 := Lib.hid ((HN.out.alloc _).trans hN2)
      have HO2 := Lib.hid (owns_new HO.out (((Upd.refl _ _).alloc _).trans hN2))
      have HS := sel_succ f xs k
      have hb2 := HN2.out.size
      clear hN2
      by_cases hfk : f (tk xs k) = true
      · rw [hfk] at HS ⊢
        simp only [if_true] at HS
        have HS' := Lib.hid HS; clear HS hfk
        go_wp2_with (at_builtin; refine wpList_append_own _ rfl _ _ 49 rfl w.heap.size 3 i0 _ 1 8 Try.underlying49 hi hz0 hz1 hz2 rfl (by decide) _ _ _ rfl (owns_new HO2.out (new_alloc _ _)) ⟨w2.heap.size, 0, none⟩ 1 1 [.int .i64 k] rfl rfl (cell_one_new _ _ _) (by simp [Value.oneCell']) (by unfold maxLen; omega) (by omega) (by simp; omega) ?_)
        intro v' w1 hown1 hgrow _
        have HG := Lib.hid ((HN2.out.alloc (.cells #[.int .i64 k] 3)).grown hgrow (fun q e => .inr (HO2.out.lt q e).1))
        have HO1 := Lib.hid hown1
        clear hown1 hgrow
        go_wp2_with fail
        go_roundw
        case rel => exact ⟨k + 1, by omega, by go_num, HG.out, by rw [HS'.out, List.length_append, List.map_append]; exact HO1.out⟩
        case measure => simp [intOf]; omega
      · rw [Bool.eq_false_iff.2 hfk] at HS ⊢
        simp only [Bool.false_eq_true, if_false, List.append_nil] at HS
        have HS' := Lib.hid HS; clear HS hfk
        go_wp2_with fail
        go_roundw
        case rel => exact ⟨k + 1, by omega, by go_num, HN2.out, by rw [HS'.out]; exact HO2.out⟩
        case measure => simp [intOf]; omega
    · have e : k = n := by omega
      subst e
      go_wp2_with fail
      go_ret
      exact ⟨_, rfl, ⟨owns_base HO.out (Nat.zero_le _), by omega⟩, HN.out⟩
set_option maxHeartbeats 1000000 in
theorem those_33 (h : Tab 65 53 B w p sv n xs most) (c : Value) (f : List Int → Bool)
    (hf : ∀ (r : List Int) (w1 : World), r.length = 17 → New w w1 → Calls Try.prog 33 #[.agg (r.map (Value.int .i64)).toArray, c] w1 fun e w2 => e = .returned (.bool (f r)) ∧ New w1 w2) :
    Calls Try.prog 31 #[.pointer (some ⟨p, 0, none⟩), .func (.func 33) #[] #[c]] w fun e w' => ∃ v, e = .returned v ∧ Ints w' v (sel f xs n) ∧ New w w' := by
  obtain ⟨s, cap, rfl, hc⟩ := h.shape
  have h0 := cell_of h.head 0
  simp only [List.getElem?_toArray, List.getElem?_cons_zero] at h0
  have H := Lib.hid h
  have F := Lib.hid hf
  have hsm := h.small
  obtain ⟨i0, hi, hz0, hz1, hz2⟩ := info_parts info3
  clear h hf
  go_enter Try.func31, Try.ntmps31
  go_wp2_with fail
  go_loopw [5, 13] (fun v i wr => ∃ k : Nat, k ≤ n ∧ i = .int .i64 k ∧ New w wr ∧ wr.ownsRow w.heap.size 3 1 v (sel f xs k).length ((sel f xs k).map (Value.int .i64))) (fun _ i _ => n - (intOf i).toNat)
  case atStart => exact ⟨0, Nat.zero_le _, rfl, Upd.refl _ _, World.ownsRow_nil _ _ _ _⟩
  case round =>
    obtain ⟨k, hk, rfl, hN, hO⟩ := hrel
    have HN := Lib.hid hN
    have HO := Lib.hid hO
    have hb := hN.size
    have hl := sel_len f xs k
    clear hN hO h0
    by_cases hlt : k < n
    · obtain ⟨g, cap', cur, e1, _, _, hg, _, _, _, ht⟩ := H.out.block (by omega)
      cases e1
      have R00 := (H.out.new HN.out).range (New.heap HN.out hg) ht hlt
      rw [Nat.mul_comm] at R00
      have R0 := Lib.hid R00; clear R00
      have hr : (tk xs k).length = 17 := tk_len H.out.len hlt
      have HR := Lib.hid hr
      clear hg ht hr
      go_wp2_with (first | (refine wpList_ld (ty := 53) (x := .tmp 16) g _ _ _ (by rfl) (by rfl) R0.out Try.underlying53 rfl (by rw [info53]; simp [HR.out]) ?_) | (refine wpList_stnew (ty := 53) (x := .tmp 7) (y := .tmp 17) _ _ _ (tk xs k) (by rfl) rfl (by rfl) (by rfl) (by simp [HR.out]) (by rw [info53]; simp [HR.out]) ?_) | (refine wpList_ld (ty := 53) (x := .tmp 7) wr.heap.size 0 _ _ (by rfl) (by rfl) (range_new _ _ _ _ rfl) Try.underlying53 rfl (by rw [info53]; simp [HR.out]) ?_))
      refine (F.out (tk xs k) _ HR.out (HN.out.alloc _)).mono ?_
      rintro e w2 ⟨rfl, hN2⟩
      have HN2 := Lib.hid ((HN.out.alloc _).trans hN2)
      have HO2 := Lib.hid (owns_new HO.out (((Upd.refl _ _).alloc _).trans hN2))
      have HS := sel_succ f xs k
      have hb2 := HN2.out.size
      clear hN2
      by_cases hfk : f (tk xs k) = true
      · rw [hfk] at HS ⊢
        simp only [if_true] at HS
        have HS' := Lib.hid HS; clear HS hfk
        go_wp2_with (at_builtin; refine wpList_append_own _ rfl _ _ 49 rfl w.heap.size 3 i0 _ 1 8 Try.underlying49 hi hz0 hz1 hz2 rfl (by decide) _ _ _ rfl (owns_new HO2.out (new_alloc _ _)) ⟨w2.heap.size, 0, none⟩ 1 1 [.int .i64 k] rfl rfl (cell_one_new _ _ _) (by simp [Value.oneCell']) (by unfold maxLen; omega) (by omega) (by simp; omega) ?_)
        intro v' w1 hown1 hgrow _
        have HG := Lib.hid ((HN2.out.alloc (.cells #[.int .i64 k] 3)).grown hgrow (fun q e => .inr (HO2.out.lt q e).1))
        have HO1 := Lib.hid hown1
        clear hown1 hgrow
        go_wp2_with fail
        go_roundw
        case rel => exact ⟨k + 1, by omega, by go_num, HG.out, by rw [HS'.out, List.length_append, List.map_append]; exact HO1.out⟩
        case measure => simp [intOf]; omega
      · rw [Bool.eq_false_iff.2 hfk] at HS ⊢
        simp only [Bool.false_eq_true, if_false, List.append_nil] at HS
        have HS' := Lib.hid HS; clear HS hfk
        go_wp2_with fail
        go_roundw
        case rel => exact ⟨k + 1, by omega, by go_num, HN2.out, by rw [HS'.out]; exact HO2.out⟩
        case measure => simp [intOf]; omega
    · have e : k = n := by omega
      subst e
      go_wp2_with fail
      go_ret
      exact ⟨_, rfl, ⟨owns_base HO.out (Nat.zero_le _), by omega⟩, HN.out⟩

def inF (st : Int) (r : List Int) : Bool := r.getD 0 0 == st
def underF (ctx : Int) (r : List Int) : Bool := decide (0 ≤ ctx) && (r.getD 0 0 == 2) && (r.getD 12 0 == ctx)

theorem clo32 (r : List Int) (hr : r.length = 17) (st : Int) (c : Nat) (w : World) (hc : w.cell? ⟨c, 0, none⟩ = some (.int .i64 st)) :
    Calls Try.prog 32 #[.agg (r.map (Value.int .i64)).toArray, .pointer (some ⟨c, 0, none⟩)] w fun e w' => e = .returned (.bool (inF st r)) ∧ New w w' := by
  match r, hr with
  | [a0, a1, a2, a3, a4, a5, a6, a7, a8, a9, a10, a11, a12, a13, a14, a15, a16], _ =>
  have hlt := World.block_lt_of_cell? w _ hc
  simp only [List.map_cons, List.map_nil]
  go_enter Try.func32, Try.ntmps32
  go_wp2
  go_ret
  exact ⟨rfl, (Upd.refl _ _).alloc _⟩
theorem clo33 (r : List Int) (hr : r.length = 17) (st : Int) (c : Nat) (w : World) (hc : w.cell? ⟨c, 0, none⟩ = some (.int .i64 st)) :
    Calls Try.prog 33 #[.agg (r.map (Value.int .i64)).toArray, .pointer (some ⟨c, 0, none⟩)] w fun e w' => e = .returned (.bool (underF st r)) ∧ New w w' := by
  match r, hr with
  | [a0, a1, a2, a3, a4, a5, a6, a7, a8, a9, a10, a11, a12, a13, a14, a15, a16], _ =>
  have hlt := World.block_lt_of_cell? w _ hc
  simp only [List.map_cons, List.map_nil]
  by_cases h0 : 0 ≤ st
  · by_cases h1 : a0 = 2
    · have h1' : (a0 == 2) = true := by simpa using h1
      have HF := Lib.hid (show underF st [a0, a1, a2, a3, a4, a5, a6, a7, a8, a9, a10, a11, a12, a13, a14, a15, a16] = (a12 == st) by simp [underF, h0, h1])
      clear h1
      go_enter Try.func33, Try.ntmps33
      go_wp2
      go_ret
      refine ⟨?_, (Upd.refl _ _).alloc _⟩
      rw [HF.out]; rfl
    · have h1' : (a0 == 2) = false := by simpa using h1
      have HF := Lib.hid (show underF st [a0, a1, a2, a3, a4, a5, a6, a7, a8, a9, a10, a11, a12, a13, a14, a15, a16] = false by simp [underF, h1])
      clear h1
      go_enter Try.func33, Try.ntmps33
      go_wp2
      go_ret
      refine ⟨?_, (Upd.refl _ _).alloc _⟩
      rw [HF.out]; rfl
  · have HF := Lib.hid (show underF st [a0, a1, a2, a3, a4, a5, a6, a7, a8, a9, a10, a11, a12, a13, a14, a15, a16] = false by simp [underF, h0])
    go_enter Try.func33, Try.ntmps33
    go_wp2
    go_ret
    refine ⟨?_, (Upd.refl _ _).alloc _⟩
    rw [HF.out]; rfl

theorem in_c (h : Tab 65 53 B w p sv n xs most) (st : Int) :
    Calls Try.prog 16 #[.pointer (some ⟨p, 0, none⟩), .int .i64 st] w fun e w' => ∃ v, e = .returned v ∧ Ints w' v (sel (inF st) xs n) ∧ New w w' := by
  have C := Lib.hid (those_32 (h.new (new_alloc w (.cells #[.int .i64 st] 3))) (.pointer (some ⟨w.heap.size, 0, none⟩)) (inF st)
    (fun r w1 hr hn => clo32 r hr st _ w1 (by rw [box_cell hn]; rfl)))
  clear h
  go_enter Try.func16, Try.ntmps16
  go_wp2_with fail
  refine C.out.mono ?_; rintro e w' ⟨v, rfl, hI, hn⟩
  have HI := Lib.hid hI; have HN := Lib.hid hn; clear hI hn
  go_wp2_with fail
  go_ret
  exact ⟨_, rfl, HI.out, (new_alloc _ _).trans HN.out⟩
theorem under_c (h : Tab 65 53 B w p sv n xs most) (st : Int) :
    Calls Try.prog 18 #[.pointer (some ⟨p, 0, none⟩), .int .i64 st] w fun e w' => ∃ v, e = .returned v ∧ Ints w' v (sel (underF st) xs n) ∧ New w w' := by
  have C := Lib.hid (those_33 (h.new (new_alloc w (.cells #[.int .i64 st] 3))) (.pointer (some ⟨w.heap.size, 0, none⟩)) (underF st)
    (fun r w1 hr hn => clo33 r hr st _ w1 (by rw [box_cell hn]; rfl)))
  clear h
  go_enter Try.func18, Try.ntmps18
  go_wp2_with fail
  refine C.out.mono ?_; rintro e w' ⟨v, rfl, hI, hn⟩
  have HI := Lib.hid hI; have HN := Lib.hid hn; clear hI hn
  go_wp2_with fail
  go_ret
  exact ⟨_, rfl, HI.out, (new_alloc _ _).trans HN.out⟩

end Go.Proofs.Ytdbdpmpnblmfkaa

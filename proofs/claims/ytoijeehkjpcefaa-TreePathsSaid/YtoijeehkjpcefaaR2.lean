import Derived.Test.YtoijeehkjpcefaaR1
namespace Go.Proofs.Ytoijeehkjpcefaa
open Go.RowKit Go.Proofs.Cmd

def isIn (n : Nat) (i : Int) : Bool := decide (0 ≤ i) && decide (i < n)
def overF (ns : List Nd) (i : Int) : Int := if isIn ns.length i then ovr ns i.toNat else -1
def cutF (ns : List Nd) (i : Int) : Bool := isIn ns.length i && cutOf ns i.toNat
theorem isIn_nat {n : Nat} {i : Int} (h : isIn n i = true) : ∃ k : Nat, i = k ∧ k < n := by
  simp only [isIn, Bool.and_eq_true, decide_eq_true_eq] at h
  exact ⟨i.toNat, by omega, by omega⟩
theorem isIn_of {n k : Nat} (h : k < n) : isIn n (k : Int) = true := by simp [isIn, h]
theorem nds_len (rs : List Row) : (nds rs).length = rs.length := by simp [nds]
theorem nds_get (rs : List Row) (i : Nat) (r : Row) (h : rs[i]? = some r) : (nds rs)[i]? = some (r.1, r.2.1) := by simp [nds, h]
theorem ovr_get {ns : List Nd} {i : Nat} {r : Nd} (h : ns[i]? = some r) : ovr ns i = r.1 := by simp [ovr, h]
theorem cut_get {ns : List Nd} {i : Nat} {r : Nd} (h : ns[i]? = some r) : cutOf ns i = r.2 := by simp [cutOf, h]

variable {B p : Nat} {sv : Value} {rs : List Row} {most : Int} {w : World}

theorem new_bad (n : Int) (w : World) (h : n < 1 ∨ 200 < n) : Calls Try.prog 7 #[.int .i64 n] w fun e w' => e = .returned (.tuple #[.pointer none, .int .i64 1]) ∧ w = w' := by
  by_cases h1 : n < 1
  · clear h
    go_enter Try.func7, Try.ntmps7
    go_wp2
    go_ret2
    exact ⟨rfl, rfl⟩
  · have h2 : 200 < n := by omega
    have h3 : 1 ≤ n := by omega
    clear h h1
    go_enter Try.func7, Try.ntmps7
    go_wp2
    go_ret2
    exact ⟨rfl, rfl⟩
theorem new_good (n : Int) (w : World) (h : 1 ≤ n) (h2 : n ≤ 200) : Calls Try.prog 7 #[.int .i64 n] w fun e w' => e = .returned (.tuple #[.pointer (some ⟨w.heap.size, 0, none⟩), .int .i64 0]) ∧ w' = w.alloc (.cells #[.slice none 0 0, .int .i64 n] 54) := by
  go_enter Try.func7, Try.ntmps7
  go_wp2
  go_ret2
  exact ⟨rfl, rfl⟩
theorem Tr.fresh (w : World) (n : Int) : Tr w.heap.size (w.alloc (.cells #[.slice none 0 0, .int .i64 n] 54)) w.heap.size (.slice none 0 0) [] n :=
  ⟨heap_alloc_new w _, Nat.le_refl _, World.ownsRow_nil _ _ _ _, fun i r h => by simp at h, fun i j r q k h => by simp at h, by simp, fun i r h => by simp at h⟩
theorem Rf.fresh (w : World) (n : Int) : Rf w.heap.size (w.alloc (.cells #[.slice none 0 0, .int .i64 n] 39)) w.heap.size (.slice none 0 0) [] n :=
  ⟨heap_alloc_new w _, Nat.le_refl _, World.ownsRow_nil _ _ _ _, by simp, fun i r h => by simp at h⟩

theorem there_raw {a : Option Addr} {n cap : Nat} (h1 : w.cell? ⟨p, 0, none⟩ = some (.slice a n cap)) (i : Int) : Calls Try.prog 29 #[.pointer (some ⟨p, 0, none⟩), .int .i64 i] w fun e w' => e = .returned (.bool (isIn n i)) ∧ w = w' := by
  by_cases h0 : 0 ≤ i
  · have HF := Lib.hid (show isIn n i = decide (i < n) by simp [isIn, h0])
    go_enter Try.func29, Try.ntmps29
    go_wp2
    go_ret
    exact ⟨by rw [HF.out]; rfl, rfl⟩
  · have HF := Lib.hid (show isIn n i = false by simp [isIn, h0])
    go_enter Try.func29, Try.ntmps29
    go_wp2
    go_ret
    exact ⟨by rw [HF.out]; rfl, rfl⟩
theorem there_c (h : Tr B w p sv rs most) (i : Int) : Calls Try.prog 29 #[.pointer (some ⟨p, 0, none⟩), .int .i64 i] w fun e w' => e = .returned (.bool (isIn rs.length i)) ∧ w = w' := by
  obtain ⟨a, cap, rfl, hc⟩ := owns_shape h.rows
  have h1 := cell_of h.head 0
  simp only [List.getElem?_toArray, List.getElem?_cons_zero] at h1
  exact there_raw h1 i
theorem len_c (h : Tr B w p sv rs most) : Calls Try.prog 12 #[.pointer (some ⟨p, 0, none⟩)] w fun e w' => e = .returned (.int .i64 rs.length) ∧ w = w' := by
  obtain ⟨a, cap, rfl, hc⟩ := owns_shape h.rows
  have h1 := cell_of h.head 0
  simp only [List.getElem?_toArray, List.getElem?_cons_zero] at h1
  clear h
  go_enter Try.func12, Try.ntmps12
  go_wp2
  go_ret
  exact ⟨rfl, rfl⟩
theorem over_c (h : Tr B w p sv rs most) (i : Int) : Calls Try.prog 13 #[.pointer (some ⟨p, 0, none⟩), .int .i64 i] w fun e w' => e = .returned (.int .i64 (overF (nds rs) i)) ∧ w = w' := by
  have TH := Lib.hid (there_c h i)
  have HF : overF (nds rs) i = if isIn rs.length i then ovr (nds rs) i.toNat else -1 := by simp [overF, nds_len]
  cases hb : isIn rs.length i
  · have HF' := Lib.hid (show overF (nds rs) i = -1 by rw [HF, hb]; rfl)
    have HB := Lib.hid hb
    clear h hb HF
    go_enter Try.func13, Try.ntmps13
    go_wp2_with fail
    refine TH.out.mono ?_; rintro e w' ⟨rfl, rfl⟩
    rw [HB.out]
    go_wp2_with fail
    go_ret
    exact ⟨by rw [HF'.out]; rfl, rfl⟩
  · have HB := Lib.hid hb
    obtain ⟨k, rfl, hk⟩ := isIn_nat hb
    obtain ⟨g, cap, rfl, _, hc, _⟩ := owns_some h.rows (by omega)
    have hs := h.small
    have h1 := cell_of h.head 0
    simp only [List.getElem?_toArray, List.getElem?_cons_zero] at h1
    have hr : rs[k]? = some rs[k] := by simp [hk]
    have k0 := h.at_ hr 0 (by omega)
    have HF' := Lib.hid (show overF (nds rs) (k : Int) = rs[k].1 by rw [HF, hb, Int.toNat_natCast, ovr_get (nds_get rs k _ hr)]; rfl)
    simp only [rowV, List.getElem?_cons_zero, Nat.add_zero] at k0
    clear h hb HF hr
    generalize rs[k].1 = v0 at k0 HF'
    go_enter Try.func13, Try.ntmps13
    go_wp2_with fail
    refine TH.out.mono ?_; rintro e w' ⟨rfl, rfl⟩
    rw [HB.out]
    go_wp2_with fail
    go_ret
    exact ⟨by rw [HF'.out]; rfl, rfl⟩
theorem cut_c (h : Tr B w p sv rs most) (i : Int) : Calls Try.prog 15 #[.pointer (some ⟨p, 0, none⟩), .int .i64 i] w fun e w' => e = .returned (.bool (cutF (nds rs) i)) ∧ w = w' := by
  have TH := Lib.hid (there_c h i)
  have HF : cutF (nds rs) i = (isIn rs.length i && cutOf (nds rs) i.toNat) := by simp [cutF, nds_len]
  cases hb : isIn rs.length i
  · have HF' := Lib.hid (show cutF (nds rs) i = false by rw [HF, hb]; rfl)
    have HB := Lib.hid hb
    clear h hb HF
    go_enter Try.func15, Try.ntmps15
    go_wp2_with fail
    refine TH.out.mono ?_; rintro e w' ⟨rfl, rfl⟩
    rw [HB.out]
    go_wp2_with fail
    go_ret
    exact ⟨by rw [HF'.out]; rfl, rfl⟩
  · have HB := Lib.hid hb
    obtain ⟨k, rfl, hk⟩ := isIn_nat hb
    obtain ⟨g, cap, rfl, _, hc, _⟩ := owns_some h.rows (by omega)
    have hs := h.small
    have h1 := cell_of h.head 0
    simp only [List.getElem?_toArray, List.getElem?_cons_zero] at h1
    have hr : rs[k]? = some rs[k] := by simp [hk]
    have k0 := h.at_ hr 1 (by omega)
    have HF' := Lib.hid (show cutF (nds rs) (k : Int) = rs[k].2.1 by rw [HF, hb, Int.toNat_natCast, cut_get (nds_get rs k _ hr)]; rfl)
    simp only [rowV, List.getElem?_cons_zero, List.getElem?_cons_succ] at k0
    clear h hb HF hr
    generalize rs[k].2.1 = v0 at k0 HF'
    go_enter Try.func15, Try.ntmps15
    go_wp2_with fail
    refine TH.out.mono ?_; rintro e w' ⟨rfl, rfl⟩
    rw [HB.out]
    go_wp2_with fail
    go_ret
    exact ⟨by rw [HF'.out]; rfl, rfl⟩
end Go.Proofs.Ytoijeehkjpcefaa

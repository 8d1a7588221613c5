import Derived.Test.YtoijeehkjpcefaaR8
namespace Go.Proofs.Ytoijeehkjpcefaa
open Go.RowKit Go.Proofs.Cmd
variable {B p q : Nat} {sv rv : Value} {rs : List Row} {ns : List Nd} {most : Int} {w : World}

/-- What the box holds. -/
def boxAt (w : World) (X : Nat) : Nat := ((w.cell? ⟨X, 0, none⟩).map (fun u => (intOf u + 1).toNat)).getD 0
theorem boxAt_of {w : World} {X : Nat} {j : Int} (h : w.heap[X]? = some (.cells #[.int .i64 j] 3 (0, 0))) : boxAt w X = (j + 1).toNat := by
  unfold boxAt; rw [cell_of h]; rfl
def UpRel (ns : List Nd) (c : Bool) (i : Int) (w : World) (X : Nat) (v : Value) (wr : World) : Prop :=
  ∃ (j : Int) (f : Nat) (l : List Int), wr.heap[X]? = some (.cells #[.int .i64 j] 3 (0, 0)) ∧ (isIn ns.length j = true → j < f) ∧ upF ns c ns.length i = l ++ upF ns c f j ∧ l.length + f ≤ ns.length ∧ New w wr ∧
    wr.ownsRow (X + 1) 3 1 v l.length (l.map (Value.int .i64))
set_option maxHeartbeats 1000000 in
theorem up_c (h : Tr B w p sv rs most) (i : Int) (c : Bool) (ev : Value) (hv : Ends p c w ev) :
    Calls Try.prog 32 #[.pointer (some ⟨p, 0, none⟩), .int .i64 i, ev] w fun e w' => ∃ v, e = .returned v ∧ Ints w' v (upF (nds rs) c rs.length i) ∧ New w w' := by
  obtain ⟨s, cap, rfl, hc⟩ := owns_shape h.rows
  have hq := lt_of h.head
  have hs := h.small
  have H := Lib.hid h
  have HV := Lib.hid hv
  obtain ⟨i0, hi, hz0, hz1, hz2⟩ := info_parts info3
  have hX : ∃ X, X = w.heap.size := ⟨_, rfl⟩
  obtain ⟨X, hX⟩ := hX
  have HX := Lib.hid hX
  clear h hv
  go_enter Try.func32, Try.ntmps32
  go_wp2_with fail
  rw [← hX]
  clear hX
  go_loopw [7] (fun v wr => UpRel (nds rs) c i w X v wr) (fun _ wr => boxAt wr X)
  case atStart =>
    have hX := HX.out
    exact ⟨i, (nds rs).length, [], heap_at _ hX, fun h => by obtain ⟨k, rfl, hk⟩ := isIn_nat h; omega, rfl, by simp, new_alloc _ _, World.ownsRow_nil _ _ _ _⟩
  case round =>
    obtain ⟨j, f, l, hX, hf, hl, hlen, hN, hO⟩ := hrel
    rw [nds_len] at hlen
    have HN := Lib.hid hN
    have HO := Lib.hid hO
    have HL := Lib.hid hl
    have HF := Lib.hid hf
    have HXb := Lib.hid hX
    have Hr := Lib.hid (H.out.new hN)
    have h1 := cell_of Hr.out.head 0
    have x1 := cell_of hX 0
    have xf := frozen_of hX 0
    simp only [List.getElem?_toArray, List.getElem?_cons_zero] at h1 x1
    have hqw := lt_of Hr.out.head
    have hXw := lt_of hX
    have TH := Lib.hid (there_c Hr.out j)
    have hb := hN.size
    have hXX : X ≤ w.heap.size ∧ w.heap.size ≤ X := by have := HX.out; omega
    obtain ⟨hX1, hX2⟩ := hXX
    clear hN hO hl hf hX
    cases hI : isIn rs.length j
    · have HI := Lib.hid hI
      clear hI
      go_wp2_with fail
      refine TH.out.mono ?_; rintro e w' ⟨rfl, rfl⟩
      rw [HI.out]
      go_wp2_with fail
      go_ret
      have e0 : upF (nds rs) c rs.length i = l := by
        have := HL.out
        rw [nds_len] at this
        rw [this, upF_not (by rw [nds_len]; exact HI.out), List.append_nil]
      exact ⟨_, rfl, by rw [e0]; exact ⟨owns_base HO.out (Nat.zero_le _), by omega⟩, HN.out⟩
    · have HI := Lib.hid hI
      obtain ⟨k, rfl, hk⟩ := isIn_nat hI
      have hf := HF.out (by rw [nds_len]; exact hI)
      obtain ⟨f, rfl⟩ : ∃ m, f = m + 1 := ⟨f - 1, by omega⟩
      obtain ⟨g, cap', e1, _, _, _⟩ := owns_some Hr.out.rows (by omega)
      cases e1
      have hr : rs[k]? = some rs[k] := by simp [hk]
      obtain ⟨ho1, ho2⟩ := Hr.out.ov hk
      have HU := Lib.hid (show upF (nds rs) c (f + 1) (k : Int) = (k : Int) :: (if c && cutF (nds rs) k then [] else upF (nds rs) c f (ovr (nds rs) k)) by
        rw [upF, nds_len, hI, if_pos rfl, cutF, nds_len, hI]; simp)
      have HRR := Lib.hid hr
      have hla : l.length ≤ 1000 := by omega
      have hkk : k < 1000 := by omega
      clear hI hr
      go_wp2_with fail
      refine TH.out.mono ?_; rintro e w' ⟨rfl, rfl⟩
      rw [HI.out]
      go_wp2_with (at_builtin; refine wpList_append_own _ rfl _ _ 45 rfl (X + 1) 3 i0 _ 1 8 Try.underlying45 hi hz0 hz1 hz2 rfl (by decide) _ _ _ rfl (owns_new HO.out (new_alloc _ _)) ⟨wr.heap.size, 0, none⟩ 1 1 [.int .i64 k] rfl rfl (cell_one_new _ _ _) (by simp [Value.oneCell']) (by unfold maxLen; omega) (by omega) (by simp; omega) ?_)
      intro v' w1 hown1 hgrow _
      have HG := Lib.hid ((HN.out.alloc (.cells #[.int .i64 k] 3)).grown hgrow (fun q e => .inr (by have := (HO.out.lt q e).1; omega)))
      have X1 := Lib.hid ((hgrow.block X (by simp; omega) (fun e => by have := (HO.out.lt X e.symm).1; omega)).trans (heap_alloc HXb.out _))
      have HO1 := Lib.hid hown1
      have Hr1 := Lib.hid (H.out.new HG.out)
      have h2 := cell_of Hr1.out.head 0
      have x1 := cell_of X1.out 0
      have xf := frozen_of X1.out 0
      simp only [List.getElem?_toArray, List.getElem?_cons_zero] at h2 x1
      have q0 := Hr1.out.at_ HRR.out 0 (by omega)
      simp only [rowV, List.getElem?_cons_zero, Nat.add_zero] at q0
      rw [← ovr_get (nds_get rs k _ HRR.out)] at q0
      have CT := Lib.hid (contains34 Hr1.out (k : Int) X x1 c ev (HV.out.new HG.out))
      have hk0 : (0 : Int) ≤ (k : Int) := by omega
      have hk1 : (k : Int) < (rs.length : Int) := by omega
      have hX1w := lt_of X1.out
      clear hown1 hgrow h1 
      generalize ovr (nds rs) k = o at q0 ho1 ho2 HU
      go_wp2_with fail
      refine CT.out.mono ?_; rintro e w' ⟨rfl, rfl⟩
      cases hcc : c && cutF (nds rs) k
      · rw [hcc] at HU
        simp only [Bool.false_eq_true, if_false] at HU
        clear hcc
        go_wp2_with fail
        go_still_tail 8, (by kernel_rfl)
        all_goals
          go_wp2_with fail
          have XS : (w1.setCell ⟨X, 0, none⟩ (.int .i64 o)).drew.heap[X]? = some (.cells #[.int .i64 o] 3 (0, 0)) := by
            show (w1.setCell ⟨X, 0, none⟩ (.int .i64 o)).heap[X]? = _
            rw [heap_set_same X1.out]; rfl
          refine ⟨⟨o, f, l ++ [(k : Int)], XS, fun _ => by omega, by rw [HL.out, HU.out]; simp, by rw [nds_len]; simp; omega, (Upd.setAt HG.out (.inr (by omega)) _ _).drew, ?_⟩, by rw [boxAt_of XS, boxAt_of HXb.out]; omega⟩
          rw [List.length_append, List.map_append]
          exact owns_heap HO1.out (fun b hb => heap_set_other (fun e => by have := (HO1.out.lt b hb).1; omega) _ _)
      · rw [hcc] at HU
        simp only [if_true] at HU
        clear hcc
        go_wp2_with fail
        go_ret
        have e0 : upF (nds rs) c rs.length i = l ++ [(k : Int)] := by
          have := HL.out
          rw [nds_len] at this
          rw [this, HU.out]
        exact ⟨_, rfl, by rw [e0]; exact ⟨by rw [List.length_append, List.map_append]; exact owns_base HO1.out (Nat.zero_le _), by simp; omega⟩, HG.out⟩
theorem chain_c (h : Tr B w p sv rs most) (i : Int) : Calls Try.prog 22 #[.pointer (some ⟨p, 0, none⟩), .int .i64 i] w fun e w' => ∃ v, e = .returned v ∧ Ints w' v (upF (nds rs) true rs.length i) ∧ New w w' := by
  have hN := new_alloc w (.cells #[.func (.func 15) #[.pointer (some ⟨p, 0, none⟩)] #[]] 41)
  have UC := Lib.hid (up_c (h.new hN) i true (.slice (some ⟨w.heap.size, 0, none⟩) 1 1) ⟨w.heap.size, rfl, by simp⟩)
  have HN := Lib.hid hN
  clear h hN
  go_enter Try.func22, Try.ntmps22
  go_wp2_with fail
  refine UC.out.mono ?_; rintro e w' ⟨v, rfl, hI, hn⟩
  have HI := Lib.hid hI; have HM := Lib.hid hn; clear hI hn
  go_wp2_with fail
  go_ret
  exact ⟨_, rfl, HI.out, HN.out.trans HM.out⟩
theorem path_c (h : Tr B w p sv rs most) (i : Int) : Calls Try.prog 24 #[.pointer (some ⟨p, 0, none⟩), .int .i64 i] w fun e w' => ∃ v, e = .returned v ∧ Ints w' v (upF (nds rs) false rs.length i) ∧ New w w' := by
  have UC := Lib.hid (up_c h i false (.slice none 0 0) rfl)
  clear h
  go_enter Try.func24, Try.ntmps24
  go_wp2_with fail
  refine UC.out.mono ?_; rintro e w' ⟨v, rfl, hI, hn⟩
  have HI := Lib.hid hI; have HM := Lib.hid hn; clear hI hn
  go_wp2_with fail
  go_ret
  exact ⟨_, rfl, HI.out, HM.out⟩
end Go.Proofs.Ytoijeehkjpcefaa

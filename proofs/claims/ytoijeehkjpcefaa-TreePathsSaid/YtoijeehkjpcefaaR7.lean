import Derived.Test.YtoijeehkjpcefaaR6
namespace Go.Proofs.Ytoijeehkjpcefaa
open Go.RowKit Go.Proofs.Cmd
variable {B p q : Nat} {sv rv : Value} {rs : List Row} {ns : List Nd} {most : Int} {w : World}

/-- Who is gone up from a node; with c: till one that is cut. -/
def upF (ns : List Nd) (c : Bool) : Nat → Int → List Int
  | 0, _ => []
  | f + 1, i => if isIn ns.length i then i :: (if c && cutOf ns i.toNat then [] else upF ns c f (ovr ns i.toNat)) else []
theorem upF_not {f : Nat} {i : Int} {c : Bool} (h : isIn ns.length i = false) : upF ns c f i = [] := by
  cases f with
  | zero => rfl
  | succ f => rw [upF, h]; rfl
theorem Rf.ov (h : Rf B w q rv ns most) {k : Nat} (hk : k < ns.length) : -1 ≤ ovr ns k ∧ ovr ns k < k := by
  have hr : ns[k]? = some ns[k] := by simp [hk]
  rw [ovr_get hr]; exact h.tree k _ hr
theorem Tr.ov (h : Tr B w p sv rs most) {k : Nat} (hk : k < rs.length) : -1 ≤ ovr (nds rs) k ∧ ovr (nds rs) k < k := by
  have hr : rs[k]? = some rs[k] := by simp [hk]
  rw [ovr_get (nds_get rs k _ hr)]; exact h.tree k _ hr

set_option maxHeartbeats 400000 in
theorem r_chain (h : Rf B w q rv ns most) (i : Int) : Calls Try.prog 23 #[.pointer (some ⟨q, 0, none⟩), .int .i64 i] w fun e w' => ∃ v, e = .returned v ∧ Ints w' v (upF ns true ns.length i) ∧ New w w' := by
  obtain ⟨s, cap, rfl, hc⟩ := owns_shape h.rows
  have hq := lt_of h.head
  have hs := h.small
  have H := Lib.hid h
  obtain ⟨i0, hi, hz0, hz1, hz2⟩ := info_parts info3
  clear h
  go_enter Try.func23, Try.ntmps23
  go_wp2_with fail
  go_loopw [1, 5] (fun u v wr => ∃ (j : Int) (f : Nat) (l : List Int), u = .int .i64 j ∧ (isIn ns.length j = true → j < f) ∧ upF ns true ns.length i = l ++ upF ns true f j ∧ l.length + f ≤ ns.length ∧ New w wr ∧ wr.ownsRow w.heap.size 3 1 v l.length (l.map (Value.int .i64))) (fun u _ _ => (intOf u + 1).toNat)
  case atStart => exact ⟨i, ns.length, [], rfl, fun h => by obtain ⟨k, rfl, hk⟩ := isIn_nat h; omega, rfl, by simp, new_alloc _ _, World.ownsRow_lit _ #[] 0 (Nat.le_refl _) (by simp) rfl⟩
  case round =>
    obtain ⟨j, f, l, rfl, hf, hl, hlen, hN, hO⟩ := hrel
    have HN := Lib.hid hN
    have HO := Lib.hid hO
    have HL := Lib.hid hl
    have HF := Lib.hid hf
    have Hr := Lib.hid (H.out.new hN)
    have h1 := cell_of Hr.out.head 0
    simp only [List.getElem?_toArray, List.getElem?_cons_zero] at h1
    have hqw := lt_of Hr.out.head
    have TH := Lib.hid (r_there Hr.out j)
    have hb := hN.size
    clear hN hO hl hf
    cases hI : isIn ns.length j
    · have HI := Lib.hid hI
      clear hI
      go_wp2_with fail
      refine TH.out.mono ?_; rintro e w' ⟨rfl, rfl⟩
      rw [HI.out]
      go_wp2_with fail
      go_ret
      have e0 : upF ns true ns.length i = l := by rw [HL.out, upF_not HI.out, List.append_nil]
      exact ⟨_, rfl, by rw [e0]; exact ⟨owns_base HO.out (Nat.zero_le _), by omega⟩, HN.out⟩
    · have HI := Lib.hid hI
      obtain ⟨k, rfl, hk⟩ := isIn_nat hI
      have hf := HF.out hI
      obtain ⟨f, rfl⟩ : ∃ m, f = m + 1 := ⟨f - 1, by omega⟩
      obtain ⟨g, cap', e1, _, _, _⟩ := owns_some Hr.out.rows (by omega)
      cases e1
      have hr : ns[k]? = some ns[k] := by simp [hk]
      obtain ⟨ho1, ho2⟩ := Hr.out.ov hk
      have HU := Lib.hid (show upF ns true (f + 1) (k : Int) = (k : Int) :: (if cutOf ns k then [] else upF ns true f (ovr ns k)) by
        rw [upF, hI, if_pos rfl]; simp)
      have HRR := Lib.hid hr
      clear hI hr
      have hla : l.length ≤ 1000 := by omega
      have hkk : k < 1000 := by omega
      go_wp2_with fail
      refine TH.out.mono ?_; rintro e w' ⟨rfl, rfl⟩
      rw [HI.out]
      go_wp2_with (at_builtin; refine wpList_append_own _ rfl _ _ 45 rfl w.heap.size 3 i0 _ 1 8 Try.underlying45 hi hz0 hz1 hz2 rfl (by decide) _ _ _ rfl (owns_new HO.out (new_alloc _ _)) ⟨wr.heap.size, 0, none⟩ 1 1 [.int .i64 k] rfl rfl (cell_one_new _ _ _) (by simp [Value.oneCell']) (by unfold maxLen; omega) (by omega) (by simp; omega) ?_)
      intro v' w1 hown1 hgrow _
      have HG := Lib.hid ((HN.out.alloc (.cells #[.int .i64 k] 3)).grown hgrow (fun q e => .inr (HO.out.lt q e).1))
      have HO1 := Lib.hid hown1
      have Hr1 := Lib.hid (H.out.new HG.out)
      have h2 := cell_of Hr1.out.head 0
      simp only [List.getElem?_toArray, List.getElem?_cons_zero] at h2
      have q0 := Hr1.out.at_ HRR.out 0 (by omega)
      have q1 := Hr1.out.at_ HRR.out 1 (by omega)
      simp only [ndV, List.getElem?_cons_zero, List.getElem?_cons_succ, Nat.add_zero] at q0 q1
      rw [← ovr_get HRR.out] at q0
      rw [← cut_get HRR.out] at q1
      clear hown1 hgrow h1
      generalize ovr ns k = o at q0 ho1 ho2 HU
      cases hcc : cutOf ns k
      · rw [hcc] at q1 HU
        simp only [Bool.false_eq_true, if_false] at HU
        have HU' := Lib.hid HU
        clear hcc
        go_wp2_with fail
        go_roundw
        case rel => exact ⟨o, f, l ++ [(k : Int)], rfl, fun _ => by omega, by rw [HL.out, HU.out]; simp, by simp; omega, HG.out, by rw [List.length_append, List.map_append]; exact HO1.out⟩
        case measure => simp [intOf]; omega
      · rw [hcc] at q1 HU
        simp only [if_true] at HU
        clear hcc
        go_wp2_with fail
        go_ret
        have e0 : upF ns true ns.length i = l ++ [(k : Int)] := by rw [HL.out, HU.out]
        exact ⟨_, rfl, by rw [e0]; exact ⟨by rw [List.length_append, List.map_append]; exact owns_base HO1.out (Nat.zero_le _), by simp; omega⟩, HG.out⟩
set_option maxHeartbeats 400000 in
theorem r_path (h : Rf B w q rv ns most) (i : Int) : Calls Try.prog 25 #[.pointer (some ⟨q, 0, none⟩), .int .i64 i] w fun e w' => ∃ v, e = .returned v ∧ Ints w' v (upF ns false ns.length i) ∧ New w w' := by
  obtain ⟨s, cap, rfl, hc⟩ := owns_shape h.rows
  have hq := lt_of h.head
  have hs := h.small
  have H := Lib.hid h
  obtain ⟨i0, hi, hz0, hz1, hz2⟩ := info_parts info3
  clear h
  go_enter Try.func25, Try.ntmps25
  go_wp2_with fail
  go_loopw [1, 5] (fun u v wr => ∃ (j : Int) (f : Nat) (l : List Int), u = .int .i64 j ∧ (isIn ns.length j = true → j < f) ∧ upF ns false ns.length i = l ++ upF ns false f j ∧ l.length + f ≤ ns.length ∧ New w wr ∧ wr.ownsRow w.heap.size 3 1 v l.length (l.map (Value.int .i64))) (fun u _ _ => (intOf u + 1).toNat)
  case atStart => exact ⟨i, ns.length, [], rfl, fun h => by obtain ⟨k, rfl, hk⟩ := isIn_nat h; omega, rfl, by simp, new_alloc _ _, World.ownsRow_lit _ #[] 0 (Nat.le_refl _) (by simp) rfl⟩
  case round =>
    obtain ⟨j, f, l, rfl, hf, hl, hlen, hN, hO⟩ := hrel
    have HN := Lib.hid hN
    have HO := Lib.hid hO
    have HL := Lib.hid hl
    have HF := Lib.hid hf
    have Hr := Lib.hid (H.out.new hN)
    have h1 := cell_of Hr.out.head 0
    simp only [List.getElem?_toArray, List.getElem?_cons_zero] at h1
    have hqw := lt_of Hr.out.head
    have TH := Lib.hid (r_there Hr.out j)
    have hb := hN.size
    clear hN hO hl hf
    cases hI : isIn ns.length j
    · have HI := Lib.hid hI
      clear hI
      go_wp2_with fail
      refine TH.out.mono ?_; rintro e w' ⟨rfl, rfl⟩
      rw [HI.out]
      go_wp2_with fail
      go_ret
      have e0 : upF ns false ns.length i = l := by rw [HL.out, upF_not HI.out, List.append_nil]
      exact ⟨_, rfl, by rw [e0]; exact ⟨owns_base HO.out (Nat.zero_le _), by omega⟩, HN.out⟩
    · have HI := Lib.hid hI
      obtain ⟨k, rfl, hk⟩ := isIn_nat hI
      have hf := HF.out hI
      obtain ⟨f, rfl⟩ : ∃ m, f = m + 1 := ⟨f - 1, by omega⟩
      obtain ⟨g, cap', e1, _, _, _⟩ := owns_some Hr.out.rows (by omega)
      cases e1
      have hr : ns[k]? = some ns[k] := by simp [hk]
      obtain ⟨ho1, ho2⟩ := Hr.out.ov hk
      have HU := Lib.hid (show upF ns false (f + 1) (k : Int) = (k : Int) :: upF ns false f (ovr ns k) by
        rw [upF, hI, if_pos rfl]; simp)
      have HRR := Lib.hid hr
      clear hI hr
      have hla : l.length ≤ 1000 := by omega
      have hkk : k < 1000 := by omega
      go_wp2_with fail
      refine TH.out.mono ?_; rintro e w' ⟨rfl, rfl⟩
      rw [HI.out]
      go_wp2_with (at_builtin; refine wpList_append_own _ rfl _ _ 45 rfl w.heap.size 3 i0 _ 1 8 Try.underlying45 hi hz0 hz1 hz2 rfl (by decide) _ _ _ rfl (owns_new HO.out (new_alloc _ _)) ⟨wr.heap.size, 0, none⟩ 1 1 [.int .i64 k] rfl rfl (cell_one_new _ _ _) (by simp [Value.oneCell']) (by unfold maxLen; omega) (by omega) (by simp; omega) ?_)
      intro v' w1 hown1 hgrow _
      have HG := Lib.hid ((HN.out.alloc (.cells #[.int .i64 k] 3)).grown hgrow (fun q e => .inr (HO.out.lt q e).1))
      have HO1 := Lib.hid hown1
      have Hr1 := Lib.hid (H.out.new HG.out)
      have h2 := cell_of Hr1.out.head 0
      simp only [List.getElem?_toArray, List.getElem?_cons_zero] at h2
      have q0 := Hr1.out.at_ HRR.out 0 (by omega)
      simp only [ndV, List.getElem?_cons_zero, Nat.add_zero] at q0
      rw [← ovr_get HRR.out] at q0
      clear hown1 hgrow h1
      generalize ovr ns k = o at q0 ho1 ho2 HU
      go_wp2_with fail
      go_roundw
      case rel => exact ⟨o, f, l ++ [(k : Int)], rfl, fun _ => by omega, by rw [HL.out, HU.out]; simp, by simp; omega, HG.out, by rw [List.length_append, List.map_append]; exact HO1.out⟩
      case measure => simp [intOf]; omega
end Go.Proofs.Ytoijeehkjpcefaa

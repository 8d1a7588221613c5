import Derived.Test.YtoijeehkjpcefaaR5
import Derived.Test.YtoijeehkjpcefaaK8
namespace Go.Proofs.Ytoijeehkjpcefaa
open Go.RowKit Go.Proofs.Cmd
variable {B p q : Nat} {sv rv : Value} {rs : List Row} {ns : List Nd} {most : Int} {w : World}

def kidsF (ns : List Nd) (i : Int) : List Int := if isIn ns.length i then kidsOf ns i.toNat else []
theorem one_ints (l : List Int) : ∀ u ∈ l.map (Value.int .i64), u.oneCell' = true := by
  intro u hu; obtain ⟨x, _, rfl⟩ := List.mem_map.1 hu; rfl

theorem clone_c (v : Value) (l : List Int) (w : World) (h : Ints w v l) (hl : l.length ≤ 1000) :
    Calls Try.prog 30 #[v] w fun e w' => ∃ v', e = .returned v' ∧ Ints w' v' l ∧ New w w' := by
  obtain ⟨a, cap, rfl, hla, hca, hma, hA⟩ := h.open
  have H := Lib.hid h
  obtain ⟨i0, hi, hz0, hz1, hz2⟩ := info_parts info3
  have hnil := fun w => Lib.run_eql_slice_nil (P := Try.prog) w 45 3 a l.length cap 0 0 Try.underlying45
  cases a with
  | none =>
    clear hA h
    go_enter Try.func30, Try.ntmps30
    go_wp2_with fail
    go_ret
    have e0 : l = [] := by
      have := H.out.1.2
      rcases this with ⟨_, h0⟩ | ⟨g, cap, cur, h0, _⟩
      · exact List.eq_nil_of_length_eq_zero h0
      · cases h0
    subst e0
    exact ⟨_, rfl, Ints.nil _, Upd.refl _ _⟩
  | some a =>
    have OC := Lib.hid (one_ints l)
    clear hA h
    go_enter Try.func30, Try.ntmps30
    go_wp2_with (at_builtin; refine wpList_app _ rfl (.tmp 5) (.tmp 6) 45 rfl w.heap.size 3 i0 _ 1 8 Try.underlying45 hi hz0 hz1 hz2 rfl (by decide) _ 0 [] rfl ?hown 0 _ l.length (l.map (Value.int .i64)) rfl ?hu ?c2 ?c3 ?c4 ?c5 ?_)
    case hown => exact World.ownsRow_lit _ #[] 0 (Nat.le_refl _) (by simp) rfl
    case hu => exact owns_new H.out.1 (new_alloc _ _)
    case c2 => exact OC.out
    case c3 => unfold maxLen; omega
    case c4 => omega
    case c5 => first | (simp; done) | (simp; omega)
    intro v1 w1 hown1 hgrow1
    have hv1 := hown1.lt
    have N1 : New w w1 := (new_alloc _ _).grown hgrow1 (fun k e => by simp [Value.ownBlock] at e; subst e; right; simp)
    have HO1 := Lib.hid hown1
    have HN1 := Lib.hid N1
    clear hown1 hgrow1 N1
    go_wp2_with fail
    go_ret
    refine ⟨_, rfl, ⟨?_, hla⟩, HN1.out⟩
    have := HO1.out
    exact owns_base this (Nat.zero_le _)
theorem kids_c (h : Tr B w p sv rs most) (i : Int) : Calls Try.prog 18 #[.pointer (some ⟨p, 0, none⟩), .int .i64 i] w fun e w' => ∃ v, e = .returned v ∧ Ints w' v (kidsF (nds rs) i) ∧ New w w' := by
  have TH := Lib.hid (there_c h i)
  cases hb : isIn rs.length i
  · have HF' := Lib.hid (show kidsF (nds rs) i = [] by unfold kidsF; rw [nds_len, hb]; rfl)
    have HB := Lib.hid hb
    clear h hb
    go_enter Try.func18, Try.ntmps18
    go_wp2_with fail
    refine TH.out.mono ?_; rintro e w' ⟨rfl, rfl⟩
    rw [HB.out]
    go_wp2_with fail
    go_ret
    exact ⟨_, rfl, by rw [HF'.out]; exact Ints.nil _, Upd.refl _ _⟩
  · have HB := Lib.hid hb
    obtain ⟨k, rfl, hk⟩ := isIn_nat hb
    have HF' := Lib.hid (show kidsF (nds rs) (k : Int) = kidsOf (nds rs) k by unfold kidsF; rw [nds_len, hb]; simp)
    obtain ⟨g, cap, rfl, _, hc, _⟩ := owns_some h.rows (by omega)
    have hs := h.small
    have h1 := cell_of h.head 0
    simp only [List.getElem?_toArray, List.getElem?_cons_zero] at h1
    have hr : rs[k]? = some rs[k] := by simp [hk]
    have k0 := h.at_ hr 2 (by omega)
    have hkl := kids_len (nds rs) k
    rw [nds_len] at hkl
    obtain ⟨ka, kc, hkv, _⟩ := owns_shape (h.kids k _ hr)
    have hI : Ints w (Value.slice ka (kidsOf (nds rs) k).length kc) (kidsOf (nds rs) k) := ⟨by rw [← hkv]; exact owns_base (h.kids k _ hr) (Nat.zero_le _), by omega⟩
    have CC := Lib.hid (clone_c _ _ w hI (by omega))
    simp only [rowV, List.getElem?_cons_zero, List.getElem?_cons_succ] at k0
    rw [hkv] at k0
    clear h hb hr hkv hI
    go_enter Try.func18, Try.ntmps18
    go_wp2_with fail
    refine TH.out.mono ?_; rintro e w' ⟨rfl, rfl⟩
    rw [HB.out]
    go_wp2_with fail
    refine CC.out.mono ?_; rintro e w' ⟨v', rfl, hI, hN⟩
    have HI := Lib.hid hI
    have HN := Lib.hid hN
    clear hI hN
    go_wp2_with fail
    go_ret
    exact ⟨_, rfl, by rw [HF'.out]; exact HI.out, HN.out⟩
set_option maxHeartbeats 400000 in
theorem r_kids (h : Rf B w q rv ns most) (i : Int) : Calls Try.prog 19 #[.pointer (some ⟨q, 0, none⟩), .int .i64 i] w fun e w' => ∃ v, e = .returned v ∧ IntsB w.heap.size w' v (kidsF ns i) ∧ New w w' := by
  obtain ⟨s, cap, rfl, hc⟩ := owns_shape h.rows
  have hq := lt_of h.head
  have hs := h.small
  have H := Lib.hid h
  obtain ⟨i0, hi, hz0, hz1, hz2⟩ := info_parts info3
  clear h
  go_enter Try.func19, Try.ntmps19
  go_wp2_with fail
  go_loopw [5, 6] (fun v j wr => ∃ k : Nat, k ≤ ns.length ∧ (isIn ns.length i = false → k = 0) ∧ j = .int .i64 k ∧ New w wr ∧ wr.ownsRow w.heap.size 3 1 v (kidsTo ns i k).length ((kidsTo ns i k).map (Value.int .i64))) (fun _ j _ => ns.length - (intOf j).toNat)
  case atStart => exact ⟨0, Nat.zero_le _, fun _ => rfl, rfl, new_alloc _ _, World.ownsRow_lit _ #[] 0 (Nat.le_refl _) (by simp) rfl⟩
  case round =>
    obtain ⟨k, hk, hz, rfl, hN, hO⟩ := hrel
    have HN := Lib.hid hN
    have HO := Lib.hid hO
    have HZ := Lib.hid hz
    have Hr := Lib.hid (H.out.new hN)
    have h1 := cell_of Hr.out.head 0
    simp only [List.getElem?_toArray, List.getElem?_cons_zero] at h1
    have hqw := lt_of Hr.out.head
    have TH := Lib.hid (r_there Hr.out i)
    have hb := hN.size
    have hl : (kidsTo ns i k).length ≤ k := by
      simp only [kidsTo, List.length_map]
      exact Nat.le_trans (List.length_filter_le _ _) (by simp)
    clear hN hO hz
    by_cases hlt : k < ns.length
    · cases hI : isIn ns.length i
      · have HI := Lib.hid hI
        have e0 := Lib.hid (HZ.out hI)
        clear hI
        go_wp2_with fail
        refine TH.out.mono ?_; rintro e w' ⟨rfl, rfl⟩
        rw [HI.out]
        go_wp2_with fail
        go_ret
        obtain rfl := e0.out
        refine ⟨_, rfl, ?_, HN.out⟩
        have : kidsF ns i = [] := by unfold kidsF; rw [HI.out]; rfl
        rw [this]
        exact ⟨HO.out, by simp⟩
      · have HI := Lib.hid hI
        obtain ⟨g, cap', e1, _, _, _⟩ := owns_some Hr.out.rows (by omega)
        cases e1
        have hr : ns[k]? = some ns[k] := by simp [hlt]
        have k0 := Hr.out.at_ hr 0 (by omega)
        simp only [ndV, List.getElem?_cons_zero, Nat.add_zero] at k0
        have HS := kidsTo_succ ns i k
        have ho : ovr ns k = ns[k].1 := ovr_get hr
        clear hI hr
        rw [ho] at HS
        have HC := Lib.hid ho
        clear ho
        generalize ns[k].1 = v0 at k0 HS HC
        by_cases hv : v0 = i
        · have hv' : (v0 == i) = true := by simpa using hv
          rw [if_pos hv] at HS
          have HS' := Lib.hid HS
          clear HS hv
          go_wp2_with fail
          refine TH.out.mono ?_; rintro e w' ⟨rfl, rfl⟩
          rw [HI.out]
          go_wp2_with (at_builtin; refine wpList_append_own _ rfl _ _ 45 rfl w.heap.size 3 i0 _ 1 8 Try.underlying45 hi hz0 hz1 hz2 rfl (by decide) _ _ _ rfl (owns_new HO.out (new_alloc _ _)) ⟨wr.heap.size, 0, none⟩ 1 1 [.int .i64 k] rfl rfl (cell_one_new _ _ _) (by simp [Value.oneCell']) (by unfold maxLen; omega) (by omega) (by simp; omega) ?_)
          intro v' w1 hown1 hgrow _
          have HG := Lib.hid ((HN.out.alloc (.cells #[.int .i64 k] 3)).grown hgrow (fun q e => .inr (HO.out.lt q e).1))
          have HO1 := Lib.hid hown1
          clear hown1 hgrow
          go_wp2_with fail
          go_roundw
          case rel => exact ⟨k + 1, by omega, (fun e => by cases e), by go_num, HG.out, by rw [HS'.out, List.length_append, List.map_append]; exact HO1.out⟩
          case measure => simp [intOf]; omega
        · have hv' : (v0 == i) = false := by simpa using hv
          rw [if_neg hv, List.append_nil] at HS
          have HS' := Lib.hid HS
          clear HS hv
          go_wp2_with fail
          refine TH.out.mono ?_; rintro e w' ⟨rfl, rfl⟩
          rw [HI.out]
          go_wp2_with fail
          go_roundw
          case rel => exact ⟨k + 1, by omega, (fun e => by cases e), by go_num, HN.out, by rw [HS'.out]; exact HO.out⟩
          case measure => simp [intOf]; omega
    · have e : k = ns.length := by omega
      subst e
      go_wp2_with fail
      go_ret
      refine ⟨_, rfl, ?_, HN.out⟩
      cases hI : isIn ns.length i
      · have h0 := HZ.out hI
        have : kidsF ns i = [] := by unfold kidsF; rw [hI]; rfl
        rw [this]
        have hO := HO.out
        rw [h0] at hO
        exact ⟨hO, by simp⟩
      · obtain ⟨j, rfl, hj⟩ := isIn_nat hI
        have : kidsF ns (j : Int) = kidsTo ns j ns.length := by unfold kidsF; rw [hI]; simp [kidsOf]
        rw [this]
        exact ⟨HO.out, by omega⟩
end Go.Proofs.Ytoijeehkjpcefaa

import Derived.Test.YtoijeehkjpcefaaR4
namespace Go.Proofs.Ytoijeehkjpcefaa
open Go.RowKit Go.Proofs.Cmd
variable {B q : Nat} {rv : Value} {ns : List Nd} {most : Int} {w : World}

theorem r_new_bad (n : Int) (w : World) (h : n < 1 ∨ 200 < n) : Calls Try.prog 8 #[.int .i64 n] w fun e w' => e = .returned (.tuple #[.pointer none, .int .i64 1]) ∧ w = w' := by
  by_cases h1 : n < 1
  · clear h
    go_enter Try.func8, Try.ntmps8
    go_wp2
    go_ret2
    exact ⟨rfl, rfl⟩
  · have h2 : 200 < n := by omega
    have h3 : 1 ≤ n := by omega
    clear h h1
    go_enter Try.func8, Try.ntmps8
    go_wp2
    go_ret2
    exact ⟨rfl, rfl⟩
theorem r_new_good (n : Int) (w : World) (h : 1 ≤ n) (h2 : n ≤ 200) : Calls Try.prog 8 #[.int .i64 n] w fun e w' => e = .returned (.tuple #[.pointer (some ⟨w.heap.size, 0, none⟩), .int .i64 0]) ∧ w' = w.alloc (.cells #[.slice none 0 0, .int .i64 n] 39) := by
  go_enter Try.func8, Try.ntmps8
  go_wp2
  go_ret2
  exact ⟨rfl, rfl⟩

theorem r_there (h : Rf B w q rv ns most) (i : Int) : Calls Try.prog 16 #[.pointer (some ⟨q, 0, none⟩), .int .i64 i] w fun e w' => e = .returned (.bool (isIn ns.length i)) ∧ w = w' := by
  obtain ⟨a, cap, rfl, hc⟩ := owns_shape h.rows
  have h1 := cell_of h.head 0
  simp only [List.getElem?_toArray, List.getElem?_cons_zero] at h1
  clear h
  by_cases h0 : 0 ≤ i
  · have HF := Lib.hid (show isIn ns.length i = decide (i < ns.length) by simp [isIn, h0])
    go_enter Try.func16, Try.ntmps16
    go_wp2
    go_ret
    exact ⟨by rw [HF.out]; rfl, rfl⟩
  · have HF := Lib.hid (show isIn ns.length i = false by simp [isIn, h0])
    go_enter Try.func16, Try.ntmps16
    go_wp2
    go_ret
    exact ⟨by rw [HF.out]; rfl, rfl⟩
theorem r_over (h : Rf B w q rv ns most) (i : Int) : Calls Try.prog 14 #[.pointer (some ⟨q, 0, none⟩), .int .i64 i] w fun e w' => e = .returned (.int .i64 (overF ns i)) ∧ w = w' := by
  have TH := Lib.hid (r_there h i)
  cases hb : isIn ns.length i
  · have HF' := Lib.hid (show overF ns i = -1 by simp [overF, hb])
    have HB := Lib.hid hb
    clear h hb
    go_enter Try.func14, Try.ntmps14
    go_wp2_with fail
    refine TH.out.mono ?_; rintro e w' ⟨rfl, rfl⟩
    rw [HB.out]
    go_wp2_with fail
    go_ret
    exact ⟨by rw [HF'.out]; rfl, rfl⟩
  · have HB := Lib.hid hb
    obtain ⟨k, rfl, hk⟩ := isIn_nat hb
    obtain ⟨g, cap, rfl, _, hc, _⟩ := owns_some h.rows (by omega)
    have hs := h.small
    have h1 := cell_of h.head 0
    simp only [List.getElem?_toArray, List.getElem?_cons_zero] at h1
    have hr : ns[k]? = some ns[k] := by simp [hk]
    have k0 := h.at_ hr 0 (by omega)
    have HF' := Lib.hid (show overF ns (k : Int) = ns[k].1 by unfold overF; rw [hb, Int.toNat_natCast, ovr_get hr]; rfl)
    simp only [ndV, List.getElem?_cons_zero, Nat.add_zero] at k0
    clear h hb hr
    generalize ns[k].1 = v0 at k0 HF'
    go_enter Try.func14, Try.ntmps14
    go_wp2_with fail
    refine TH.out.mono ?_; rintro e w' ⟨rfl, rfl⟩
    rw [HB.out]
    go_wp2_with fail
    go_ret
    exact ⟨by rw [HF'.out]; rfl, rfl⟩

/-- What the reference's put comes to. -/
def putR (ns : List Nd) (most : Int) (o : Int) (c : Bool) : Int × Int × List Nd := if most ≤ (ns.length : Int) then (-1, 2, ns) else ((ns.length : Int), 0, ns ++ [(o, c)])
def addR (ns : List Nd) (most : Int) (o : Int) (c : Bool) : Int × Int × List Nd := if isIn ns.length o then putR ns most o c else (-1, 3, ns)
def RPost (B q : Nat) (most : Int) (w : World) (r : Int × Int × List Nd) (e : Ending) (w' : World) : Prop :=
  ∃ rv', e = .returned (.tuple #[.int .i64 r.1, .int .i64 r.2.1]) ∧ Rf B w' q rv' r.2.2 most ∧ Upd (fun k => k = q) w w'
theorem r_put_full (h : Rf B w q rv ns most) (hm : most ≤ ns.length) (o : Int) (c : Bool) :
    Calls Try.prog 10 #[.pointer (some ⟨q, 0, none⟩), .int .i64 o, .bool c] w fun e w' => e = .returned (.tuple #[.int .i64 (-1), .int .i64 2]) ∧ New w w' := by
  obtain ⟨s, cap, rfl, hc⟩ := owns_shape h.rows
  have h0 := cell_of h.head 0
  have h1 := cell_of h.head 1
  simp only [List.getElem?_toArray, List.getElem?_cons_zero, List.getElem?_cons_succ] at h0 h1
  clear h
  go_enter Try.func10, Try.ntmps10
  go_wp2_with fail
  go_quiet (fail)
  go_wp2_with fail
  go_ret2
  exact ⟨rfl, (Upd.refl _ _).drewN _⟩
theorem info43 : (Try.prog.info? 43).map (fun i => (i.zero, i.size, i.bytes)) = some (some (.agg #[.int .i64 0, .bool false]), 2, 16) := by kernel_rfl
theorem one_ndV (ns : List Nd) : ∀ u ∈ flat2 ns, u.oneCell' = true := by
  intro u hu
  simp only [flat2, List.mem_flatMap] at hu
  obtain ⟨r, _, hr⟩ := hu
  simp [ndV] at hr
  rcases hr with rfl | rfl <;> rfl

set_option maxHeartbeats 400000 in
theorem r_put_more (h : Rf B w q rv ns most) (hm : (ns.length : Int) < most) (hn : ns.length < 1000) (o : Int) (c : Bool) (ho : -1 ≤ o) (ho2 : o < ns.length) :
    Calls Try.prog 10 #[.pointer (some ⟨q, 0, none⟩), .int .i64 o, .bool c] w fun e w' => ∃ rv', e = .returned (.tuple #[.int .i64 ns.length, .int .i64 0]) ∧
      Rf B w' q rv' (ns ++ [(o, c)]) most ∧ Upd (fun k => k = q) w w' := by
  obtain ⟨s, cap, rfl, hc⟩ := owns_shape h.rows
  have h0 := cell_of h.head 0
  have h1 := cell_of h.head 1
  simp only [List.getElem?_toArray, List.getElem?_cons_zero, List.getElem?_cons_succ] at h0 h1
  have H := Lib.hid h
  have hbase : B ≤ w.heap.size := by have := h.base; have := lt_of h.head; omega
  have hplt := lt_of h.head
  have hnm : ¬ most ≤ (ns.length : Int) := by omega
  have OC := Lib.hid (one_ndV ns)
  obtain ⟨i0, hi, hz0, hz1, hz2⟩ := info_parts info43
  clear h hm
  go_enter Try.func10, Try.ntmps10
  go_wp2_with fail
  go_quiet (fail)
  have HNq := Lib.hid (show New w (w.drewN nq) from (Upd.refl _ _).drewN _)
  have h0q : (w.drewN nq).cell? ⟨q, 0, none⟩ = _ := h0
  have hpq : q < (w.drewN nq).heap.size := hplt
  have hsz : w.heap.size ≤ (w.drewN nq).heap.size := Nat.le_refl _
  have Hq := Lib.hid (H.out.new HNq.out)
  generalize w.drewN nq = wq at HNq h0q hpq hsz Hq ⊢
  clear h0 h1 hplt
  go_wp2_with (at_builtin; refine wpList_app _ rfl (.tmp 19) (.tmp 23) 37 rfl wq.heap.size 43 i0 _ 2 16 Try.underlying37 hi hz0 hz1 hz2 rfl (by decide) _ 0 [] rfl ?hown B _ ns.length (flat2 ns) rfl ?hu ?c2 ?c3 ?c4 ?c5 ?_)
  case hown => exact World.ownsRow_lit _ #[] 0 (Nat.le_refl _) (by simp) rfl
  case hu => exact owns_new Hq.out.rows (new_alloc _ _)
  case c2 => exact OC.out
  case c3 => unfold maxLen; omega
  case c4 => omega
  case c5 => first | (simp; done) | (simp; omega)
  intro v1 w1 hown1 hgrow1
  have hv1 := hown1.lt
  have N1 : New wq w1 := (new_alloc _ _).grown hgrow1 (fun k e => by simp [Value.ownBlock] at e; subst e; right; simp)
  have b1 := N1.size
  have HO1 := Lib.hid hown1
  have HN1 := Lib.hid N1
  clear hown1 hgrow1 N1
  go_wp2_with (at_builtin; refine wpList_append_own _ rfl (.tmp 24) (.tmp 28) 37 rfl wq.heap.size 43 i0 _ 2 16 Try.underlying37 hi hz0 hz1 hz2 rfl (by decide) _ ns.length (flat2 ns) rfl ?hown ⟨w1.heap.size, 0, none⟩ 1 1 [.int .i64 o, .bool c] rfl rfl ?c1 ?c2 ?c3 ?c4 ?c5 ?_)
  case hown => exact owns_new HO1.out (new_alloc _ _)
  case c1 => exact World.news_of_block (cs := #[.int .i64 o, .bool c]) (t := 43) (fr := (0, 0)) (heap_at _ (by simp))
  case c2 => simp [Value.oneCell']
  case c3 => unfold maxLen; omega
  case c4 => omega
  case c5 => first | (simp; done) | (simp; omega)
  intro v' w2 hown2 hgrow _
  have U2 : New w w2 := HNq.out.trans ((HN1.out.alloc _).grown hgrow (fun k e => .inr (hv1 k e).1))
  have hp1 : w2.heap[q]? = some (.cells #[.slice s ns.length cap, .int .i64 most] 39 (0, 0)) := New.heap U2 H.out.head
  obtain ⟨g', cap', rfl⟩ : ∃ g cap', v' = .slice (some ⟨g, 0, none⟩) (ns.length + 1) cap' := by
    rcases hown2.2 with ⟨_, h⟩ | ⟨g, cap', _, h, _⟩
    · omega
    · exact ⟨g, cap', h⟩
  have q0 := cell_of hp1 0
  have f0 := frozen_of hp1 0
  simp only [List.getElem?_toArray, List.getElem?_cons_zero] at q0
  have HO2 := Lib.hid hown2
  have HP := Lib.hid hp1
  have HU := Lib.hid U2
  clear hp1 hown2 hgrow U2
  go_wp2_with fail
  go_ret2
  refine ⟨.slice (some ⟨g', 0, none⟩) (ns.length + 1) cap', by simp, ⟨?_, H.out.base, ?_, ?_, ?_⟩, ?_⟩
  · rw [heap_set_same HP.out]; rfl
  · rw [flat2_append, List.length_append]
    refine owns_base (owns_heap HO2.out (fun k hk => heap_set_other ?_ _ _)) (by omega)
    intro e; subst e
    obtain ⟨cur, hcur⟩ := owns_type HO2.out hk
    rw [HP.out] at hcur; cases hcur
  · simp; omega
  · intro i r hi
    by_cases e : i < ns.length
    · rw [List.getElem?_append_left e] at hi; exact H.out.tree i r hi
    · have e2 : i = ns.length := by
        have := (List.getElem?_eq_some_iff.1 hi).1; simp at this; omega
      subst e2
      simp at hi; subst hi
      exact ⟨ho, ho2⟩
  · exact Upd.setAt (S := fun k => k = q) (New.upd HU.out _) (.inl rfl) _ _
theorem r_put (h : Rf B w q rv ns most) (hn : ns.length < 1000) (o : Int) (c : Bool) (ho : -1 ≤ o) (ho2 : o < ns.length) :
    Calls Try.prog 10 #[.pointer (some ⟨q, 0, none⟩), .int .i64 o, .bool c] w (RPost B q most w (putR ns most o c)) := by
  by_cases hm : most ≤ (ns.length : Int)
  · refine (r_put_full h hm o c).mono ?_
    rintro e w' ⟨rfl, hN⟩
    have e1 : putR ns most o c = (-1, 2, ns) := by unfold putR; rw [if_pos hm]
    rw [e1]
    exact ⟨rv, rfl, h.new hN, New.upd hN _⟩
  · refine (r_put_more h (by omega) hn o c ho ho2).mono ?_
    rintro e w' ⟨rv', rfl, hT, hU⟩
    have e1 : putR ns most o c = ((ns.length : Int), 0, ns ++ [(o, c)]) := by unfold putR; rw [if_neg hm]
    rw [e1]
    exact ⟨rv', rfl, hT, hU⟩
theorem r_add (h : Rf B w q rv ns most) (hn : ns.length < 1000) (o : Int) (c : Bool) :
    Calls Try.prog 11 #[.pointer (some ⟨q, 0, none⟩), .int .i64 o, .bool c] w (RPost B q most w (addR ns most o c)) := by
  have TH := Lib.hid (r_there h o)
  cases hb : isIn ns.length o
  · have HA := Lib.hid (show addR ns most o c = (-1, 3, ns) by unfold addR; rw [hb]; rfl)
    have HB := Lib.hid hb
    have H := Lib.hid h
    clear h hb
    go_enter Try.func11, Try.ntmps11
    go_wp2_with fail
    refine TH.out.mono ?_; rintro e w' ⟨rfl, rfl⟩
    rw [HB.out]
    go_wp2_with fail
    go_ret2
    rw [HA.out]
    exact ⟨rv, rfl, H.out, Upd.refl _ _⟩
  · have HA := Lib.hid (show addR ns most o c = putR ns most o c by unfold addR; rw [hb]; rfl)
    obtain ⟨k, hk, hlt⟩ := isIn_nat hb
    have PC := Lib.hid (r_put h hn o c (by omega) (by omega))
    have HB := Lib.hid hb
    clear h hb hk
    go_enter Try.func11, Try.ntmps11
    go_wp2_with fail
    refine TH.out.mono ?_; rintro e w' ⟨rfl, rfl⟩
    rw [HB.out]
    go_wp2_with fail
    refine PC.out.mono ?_; rintro e w' ⟨rv', rfl, hT, hU⟩
    have HT := Lib.hid hT
    have HU := Lib.hid hU
    clear hT hU
    go_wp2_with fail
    go_ret2
    rw [HA.out]
    exact ⟨rv', rfl, HT.out, HU.out⟩
end Go.Proofs.Ytoijeehkjpcefaa

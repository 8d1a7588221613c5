import Derived.Test.YtoijeehkjpcefaaR12
import Derived.Test.YtoijeehkjpcefaaK8
namespace Go.Proofs.Ytoijeehkjpcefaa
open Go.RowKit Go.Proofs.Cmd
variable {B p q : Nat} {sv rv : Value} {rs : List Row} {ns : List Nd} {most : Int} {w : World}

theorem r_reach_not (h : Rf B w q rv ns most) (i : Int) (hI : isIn ns.length i = false) : Calls Try.prog 21 #[.pointer (some ⟨q, 0, none⟩), .int .i64 i] w fun e w' => ∃ v, e = .returned v ∧ Ints w' v [] ∧ New w w' := by
  have TH := Lib.hid (r_there (h.new (new_alloc w (.cells #[] 3))) i)
  rw [hI] at TH
  clear h hI
  go_enter Try.func21, Try.ntmps21
  go_wp2_with fail
  refine TH.out.mono ?_; rintro e w' ⟨rfl, rfl⟩
  go_wp2_with fail
  go_ret
  exact ⟨_, rfl, ⟨World.ownsRow_lit _ #[] 0 (Nat.zero_le _) (by simp) rfl, by simp⟩, new_alloc _ _⟩
set_option maxHeartbeats 1000000 in
theorem r_reach_in : ∀ (f i : Nat) (w : World), Rf B w q rv ns most → i < ns.length → ns.length ≤ f + i →
    Calls Try.prog 21 #[.pointer (some ⟨q, 0, none⟩), .int .i64 i] w fun e w' => ∃ v, e = .returned v ∧ Ints w' v (reachF ns f i) ∧ New w w' := by
  intro f
  induction f with
  | zero => intro i w _ h1 h2; omega
  | succ f ih =>
    intro i w h hi hf
    have IH := Lib.hid ih
    have H := Lib.hid h
    have TH := Lib.hid (r_there (h.new (new_alloc w (.cells #[] 3))) i)
    rw [isIn_of hi] at TH
    have hs := h.small
    have hln := reach_len h.tr' hi hf
    rw [reachF_succ] at hln ⊢
    rw [List.length_cons] at hln
    have HT := Lib.hid h.tr'
    obtain ⟨i0, hj, hz0, hz1, hz2⟩ := info_parts info3
    have hkl := kids_len ns i
    clear ih h
    go_enter Try.func21, Try.ntmps21
    go_wp2_with fail
    refine TH.out.mono ?_; rintro e w' ⟨rfl, rfl⟩
    go_wp2_with (at_builtin; refine wpList_append_own _ rfl _ _ 45 rfl w.heap.size 3 i0 _ 1 8 Try.underlying45 hj hz0 hz1 hz2 rfl (by decide) _ 0 [] rfl ?hown ⟨w.heap.size + 1, 0, none⟩ 1 1 [.int .i64 i] rfl rfl ?c1 ?c2 ?c3 ?c4 ?c5 ?_)
    case hown => exact owns_new (World.ownsRow_lit w #[] 0 (Nat.le_refl _) (by simp) rfl) (new_alloc _ _)
    case c2 => simp [Value.oneCell']
    case c3 => unfold maxLen; omega
    case c4 => omega
    case c5 => simp; omega
    case c1 => exact World.news_of_block (cs := #[.int .i64 i]) (t := 3) (fr := (0, 0)) (heap_at _ (by simp))
    intro v1 w1 hown1 hgrow _
    have N1 := Lib.hid (show New w w1 from ((((Upd.refl (fun _ => False) w).alloc _).alloc _).grown hgrow (fun q e => .inr (by simp [Value.ownBlock] at e; omega))))
    have R1 := Lib.hid hown1
    have HK := Lib.hid (r_kids (H.out.new N1.out) i)
    clear hown1 hgrow
    go_wp2_with fail
    refine HK.out.mono ?_; rintro e w2 ⟨lv, rfl, hI2, hN2⟩
    have hkf : kidsF ns (i : Int) = kidsOf ns i := by unfold kidsF; rw [isIn_of hi]; simp
    rw [hkf] at hI2
    have SEP := Lib.hid (show ∀ b, lv.ownBlock = some b → v1.ownBlock ≠ some b from fun b hb e => by
      have h1 := (hI2.1.lt b hb).1
      have h2 := (R1.out.lt b e).2
      omega)
    have R2 := Lib.hid (owns_new R1.out hN2)
    have N2 := Lib.hid (N1.out.trans hN2)
    have I2 := Lib.hid hI2.ints
    obtain ⟨la, lc, hlv, _⟩ := owns_shape hI2.1
    subst hlv
    clear hI2 hN2 hkf
    go_wp2_with fail
    go_loopw [5, 7] (fun v j wr => ∃ k : Nat, j = .int .i64 k ∧ k ≤ (kidsOf ns i).length ∧ New w wr ∧ Ints wr (.slice la (kidsOf ns i).length lc) (kidsOf ns i) ∧
      wr.ownsRow w.heap.size 3 1 v ((i : Int) :: ((kidsOf ns i).take k).flatMap (subF ns f)).length (((i : Int) :: ((kidsOf ns i).take k).flatMap (subF ns f)).map (Value.int .i64)) ∧
      ∀ b, (Value.slice la (kidsOf ns i).length lc).ownBlock = some b → v.ownBlock ≠ some b) (fun _ j _ => (kidsOf ns i).length - (intOf j).toNat)
    case atStart => exact ⟨0, rfl, Nat.zero_le _, N2.out, I2.out, R2.out, SEP.out⟩
    case round =>
      obtain ⟨k, rfl, hk, hN, hI, hO, hS⟩ := hrel
      have HN := Lib.hid hN
      have HI := Lib.hid hI
      have HO := Lib.hid hO
      have HS := Lib.hid hS
      have hb := hN.size
      clear hN hI hO hS
      by_cases hlt : k < (kidsOf ns i).length
      · obtain ⟨m, hm, hmlt, hov⟩ := kids_mem (List.getElem_mem hlt)
        have hmi := (HT.out m hmlt).2
        rw [hov] at hmi
        have HTS := Lib.hid (flat_take_succ (subF ns f) (kidsOf ns i) k hlt)
        have HTL := flat_take_le (subF ns f) (kidsOf ns i) k hlt
        have c0' : wr.rangeAt 0 0 [] := by intro j v h; simp at h
        obtain ⟨g0, cp0, e0, _, _, _⟩ := owns_some HI.out.1 (by omega)
        cases e0
        have c0 := owns_cell HI.out.1 (j := k) (by omega)
        rw [List.getElem?_map, List.getElem?_eq_getElem hlt] at c0
        rw [hm] at c0 HTS HTL
        have Hr := Lib.hid (H.out.new HN.out)
        have q0 := cell_of Hr.out.head 0
        obtain ⟨g, cap, e1, _, _, _⟩ := owns_some Hr.out.rows (by omega)
        subst e1
        have hrm : ns[m]? = some ns[m] := by simp [hmlt]
        have c1 := Hr.out.at_ hrm 1 (by omega)
        simp only [List.getElem?_toArray, List.getElem?_cons_zero, List.getElem?_cons_succ, ndV, Option.map_some] at q0 c1 c0
        rw [show ns[m].2 = cutOf ns m from (cut_get hrm).symm] at c1
        have hm0 : (0 : Int) ≤ (m : Int) := by omega
        have hm1 : (m : Int) < (ns.length : Int) := by omega
        have hk0 : (0 : Int) ≤ (k : Int) := by omega
        have hk1 : (k : Int) < ((kidsOf ns i).length : Int) := by omega
        have HSUB := Lib.hid (show subF ns f (m : Int) = if cutOf ns m then [] else reachF ns f m by simp [subF])
        clear hm hov hrm c0'
        cases hc : cutOf ns m
        · rw [hc] at c1 HSUB
          simp only [Bool.false_eq_true, if_false] at HSUB
          rw [HSUB.out] at HTL
          have hTLl : (((kidsOf ns i).take k).flatMap (subF ns f)).length + 1 + (reachF ns f m).length ≤ 1000 := by omega
          clear hc HTL
          go_wp2_with fail
          go_quiet (fail)
          go_wp2_with fail
          refine (IH.out m _ (Hr.out.new ((Upd.refl _ _).drewN nq)) hmlt (by omega)).mono ?_
          rintro e w3 ⟨v3, rfl, hI3, hN3⟩
          have D3 := Lib.hid (show New wr w3 from ((Upd.refl _ _).drewN nq).trans hN3)
          have I3 := Lib.hid hI3
          have b3 := D3.out.size
          clear hI3 hN3
          go_wp2_with (at_builtin; refine wpList_app_at _ rfl (.tmp 39) (.tmp 45) 45 rfl w.heap.size 3 i0 _ 1 8 Try.underlying45 hj hz0 hz1 hz2 rfl (by decide) _ _ _ rfl (owns_new HO.out D3.out) 0 _ (reachF ns f m).length ((reachF ns f m).map (Value.int .i64)) rfl ?huB ?c2B ?c3B ?c4B ?c5B ?_)
          case huB => exact I3.out.1
          case c2B => exact one_ints _
          case c3B => rw [List.length_cons]; unfold maxLen; omega
          case c4B => rw [List.length_cons]; omega
          case c5B => omega
          intro v4 w4 hown4 hgrow4 hat4
          have R4 := Lib.hid hown4
          have U4 := Lib.hid (show New w w4 from ((HN.out.trans D3.out).grown hgrow4 (fun b hb => .inr (HO.out.lt b hb).1)))
          have I4 := Lib.hid (ints_upd (S := fun b => u5.ownBlock = some b) (HI.out.new D3.out) (((Upd.refl _ _)).grown hgrow4 (fun b hb => .inl hb)) (fun b hb e => HS.out b hb e))
          have S4 := Lib.hid (show ∀ b, (Value.slice (some ⟨g0, 0, none⟩) (kidsOf ns i).length lc).ownBlock = some b → v4.ownBlock ≠ some b from fun b hb e => by
            rcases hat4 with e2 | e2
            · rw [e2] at e; exact HS.out b hb e
            · rw [e2] at e; cases e
              have := (HI.out.1.lt _ hb).2
              omega)
          clear hown4 hgrow4 hat4
          go_wp2_with fail
          go_roundw
          case rel =>
            refine ⟨k + 1, by go_num, by omega, U4.out, I4.out, ?_, S4.out⟩
            rw [HTS.out, HSUB.out, ← List.cons_append, List.length_append, List.map_append]; simpa using R4.out
          case measure => simp [intOf]; omega
        · rw [hc] at c1 HSUB
          simp only [if_true] at HSUB
          clear hc HTL
          go_wp2_with fail
          go_quiet (fail)
          go_wp2_with fail
          go_roundw
          case rel => exact ⟨k + 1, by go_num, by omega, HN.out.drewN _, HI.out.new ((Upd.refl _ _).drewN _), by rw [HTS.out, HSUB.out, List.append_nil]; exact HO.out, HS.out⟩
          case measure => simp [intOf]; omega
      · have HE := Lib.hid (show k = (kidsOf ns i).length by omega)
        go_wp2_with fail
        go_ret
        have := HO.out
        rw [HE.out, List.take_length] at this
        exact ⟨_, rfl, ⟨owns_base this (Nat.zero_le _), by rw [List.length_cons]; omega⟩, HN.out⟩
theorem r_reach (h : Rf B w q rv ns most) (i : Int) : Calls Try.prog 21 #[.pointer (some ⟨q, 0, none⟩), .int .i64 i] w fun e w' => ∃ v, e = .returned v ∧ Ints w' v (reachTop ns i) ∧ New w w' := by
  cases hI : isIn ns.length i
  · have e0 : reachTop ns i = [] := by unfold reachTop; rw [hI]; rfl
    rw [e0]; exact r_reach_not h i hI
  · obtain ⟨k, rfl, hk⟩ := isIn_nat hI
    have e0 : reachTop ns (k : Int) = reachF ns ns.length k := by unfold reachTop; rw [hI]; simp
    rw [e0]; exact r_reach_in _ k w h hk (by omega)
end Go.Proofs.Ytoijeehkjpcefaa

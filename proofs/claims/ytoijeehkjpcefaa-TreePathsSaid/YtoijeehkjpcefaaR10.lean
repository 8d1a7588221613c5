import Derived.Test.YtoijeehkjpcefaaR9
namespace Go.Proofs.Ytoijeehkjpcefaa
open Go.RowKit Go.Proofs.Cmd
variable {B p q : Nat} {sv rv : Value} {rs : List Row} {ns : List Nd} {most : Int} {w : World}

/-- What a node reaches. -/
def reachF (ns : List Nd) : Nat → Nat → List Int
  | 0, _ => []
  | f + 1, i => (i : Int) :: (kidsOf ns i).flatMap fun k => if cutOf ns k.toNat then [] else reachF ns f k.toNat
def subF (ns : List Nd) (f : Nat) (k : Int) : List Int := if cutOf ns k.toNat then [] else reachF ns f k.toNat
theorem reachF_succ (ns : List Nd) (f i : Nat) : reachF ns (f + 1) i = (i : Int) :: (kidsOf ns i).flatMap (subF ns f) := rfl
theorem kids_mem {ns : List Nd} {i : Nat} {x : Int} (h : x ∈ kidsOf ns i) : ∃ m : Nat, x = m ∧ m < ns.length ∧ ovr ns m = i := by
  simp only [kidsOf, kidsTo, List.mem_map, List.mem_filter, List.mem_range, beq_iff_eq] at h
  obtain ⟨m, ⟨h1, h2⟩, rfl⟩ := h
  exact ⟨m, rfl, h1, h2⟩
theorem flat_take_succ (g : Int → List Int) (ks : List Int) (k : Nat) (h : k < ks.length) : (ks.take (k + 1)).flatMap g = (ks.take k).flatMap g ++ g ks[k] := by
  rw [List.take_succ_eq_append_getElem h, List.flatMap_append]; simp
theorem flat_take_le (g : Int → List Int) (ks : List Int) (k : Nat) (h : k < ks.length) : ((ks.take k).flatMap g).length + (g ks[k]).length ≤ (ks.flatMap g).length := by
  have e : ks = ks.take k ++ ks[k] :: ks.drop (k + 1) := by simp
  conv => rhs; rw [e]
  rw [List.flatMap_append, List.flatMap_cons]; simp only [List.length_append]; omega

/-- The world in which a visit goes on: behind w0 only the box O of the list has turned. -/
structure Vis (w0 : World) (O : Nat) (w : World) (v : Value) (l : List Int) : Prop where
  upd : Upd (fun k => k = O) w0 w
  out : w.heap[O]? = some (.cells #[v] 45 (0, 0))
  row : w.ownsRow w0.heap.size 3 1 v l.length (l.map (Value.int .i64))
/-- What stands fast in it. -/
structure Fast (w0 : World) (O T V p : Nat) (B : Nat) (sv : Value) (rs : List Row) (most : Int) : Prop where
  tr : Tr B w0 p sv rs most
  lt : O < w0.heap.size
  no : ∀ k, Tr.blk p sv rs k → ¬ k = O
  t : w0.heap[T]? = some (.cells #[.pointer (some ⟨p, 0, none⟩)] 24 (0, 0))
  nt : ¬ T = O
  v : w0.heap[V]? = some (.cells #[.func (.func 31) #[] #[.pointer (some ⟨O, 0, none⟩), .pointer (some ⟨T, 0, none⟩), .pointer (some ⟨V, 0, none⟩)]] 58 (0, 0))
  nv : ¬ V = O
def Visited (w0 : World) (O : Nat) (l : List Int) (e : Ending) (w' : World) : Prop := (∃ u, e = .returned u) ∧ ∃ v', Vis w0 O w' v' l

set_option maxHeartbeats 1000000 in
theorem visit_c {w0 : World} {O T V : Nat} (h : Fast w0 O T V p B sv rs most) : ∀ (f i : Nat) (v : Value) (l : List Int) (w : World), Vis w0 O w v l → i < rs.length → rs.length ≤ f + i →
    l.length + (reachF (nds rs) f i).length ≤ 1000 → Calls Try.prog 31 #[.int .i64 i, .pointer (some ⟨O, 0, none⟩), .pointer (some ⟨T, 0, none⟩), .pointer (some ⟨V, 0, none⟩)] w (Visited w0 O (l ++ reachF (nds rs) f i)) := by
  intro f
  induction f with
  | zero => intro i v l w _ h1 h2; omega
  | succ f ih =>
    intro i v l w hV hi hf hb
    have IH := Lib.hid ih
    have HV := Lib.hid hV
    have H := Lib.hid h
    have hO := hV.out
    have o0 := cell_of hV.out 0
    have of := frozen_of hV.out 0
    have hT := hV.upd.heap h.t h.nt
    have t0 := cell_of hT 0
    simp only [List.getElem?_toArray, List.getElem?_cons_zero] at o0 t0
    have hz := hV.upd.size
    have hOw := lt_of hV.out
    have hTw := lt_of hT
    have hs := h.tr.small
    have hOlt := h.lt
    obtain ⟨i0, hj, hz0, hz1, hz2⟩ := info_parts info3
    have HT := Lib.hid hT
    have NTO := Lib.hid h.nt
    have RS := reachF_succ (nds rs) f i
    rw [RS] at hb ⊢
    simp only [List.length_cons] at hb
    have HB := Lib.hid hb
    have hla : l.length ≤ 1000 := by omega
    clear ih hV h hT RS hb hO
    go_enter Try.func31, Try.ntmps31
    go_wp2_with (at_builtin; refine wpList_append_own _ rfl _ _ 45 rfl w0.heap.size 3 i0 _ 1 8 Try.underlying45 hj hz0 hz1 hz2 rfl (by decide) _ _ _ rfl (owns_new HV.out.row (new_alloc _ _)) ⟨w.heap.size, 0, none⟩ 1 1 [.int .i64 i] rfl rfl (cell_one_new _ _ _) (by simp [Value.oneCell']) (by unfold maxLen; omega) (by omega) (by simp; omega) ?_)
    intro v' w1 hown1 hgrow _
    have O1 := Lib.hid ((hgrow.block O (by simp; omega) (fun e => by have := (HV.out.row.lt O e.symm).1; omega)).trans (heap_alloc HV.out.out _))
    have U1 := Lib.hid ((HV.out.upd.alloc (.cells #[.int .i64 i] 3)).grown hgrow (fun q e => .inr (HV.out.row.lt q e).1))
    have R1 := Lib.hid hown1
    have o1 := cell_of O1.out 0
    have f1 := frozen_of O1.out 0
    have T1 := Lib.hid (U1.out.heap H.out.t H.out.nt)
    have t1 := cell_of T1.out 0
    simp only [List.getElem?_toArray, List.getElem?_cons_zero] at o1 t1
    obtain ⟨g', c', hv', _⟩ := owns_some hown1 (by omega)
    subst hv'
    have V2 : Vis w0 O (w1.setCell ⟨O, 0, none⟩ (.slice (some ⟨g', 0, none⟩) (l.length + 1) c')) (.slice (some ⟨g', 0, none⟩) (l.length + 1) c') (l ++ [(i : Int)]) := by
      refine ⟨Upd.setAt U1.out (.inl rfl) _ _, by rw [heap_set_same O1.out]; rfl, ?_⟩
      rw [List.length_append, List.map_append]
      exact owns_heap R1.out (fun b hb => heap_set_other (fun e => by have := (R1.out.lt b hb).1; omega) _ _)
    have HV2 := Lib.hid V2
    clear hown1 hgrow V2
    go_upto_region 1 with (fail)
    generalize w1.setCell ⟨O, 0, none⟩ (.slice (some ⟨g', 0, none⟩) (l.length + 1) c') = w2 at HV2 ⊢
    generalize (.slice (some ⟨g', 0, none⟩) (l.length + 1) c' : Value) = v2 at HV2
    clear o0 of t0 o1 f1 t1
    have TR2 := Lib.hid (H.out.tr.upd HV2.out.upd H.out.no)
    have t0 := cell_of (HV2.out.upd.heap H.out.t H.out.nt) 0
    obtain ⟨g, cap, rfl, _, _, _⟩ := owns_some TR2.out.rows (by omega)
    have p0 := cell_of TR2.out.head 0
    have hr : rs[i]? = some rs[i] := by simp [hi]
    have k0 := TR2.out.at_ hr 2 (by omega)
    simp only [List.getElem?_toArray, List.getElem?_cons_zero, List.getElem?_cons_succ, rowV] at t0 p0 k0
    have KX := Lib.hid (H.out.tr.kids i _ hr)
    obtain ⟨ka, kc, hkv, _⟩ := owns_shape KX.out
    have HKV := Lib.hid hkv
    have hkl := kids_len (nds rs) i
    rw [nds_len] at hkl
    rw [hkv] at k0
    clear hkv hr
    go_wp2_with fail
    go_loopw [20] (fun j wr => ∃ (k : Nat) (v : Value), j = .int .i64 k ∧ k ≤ (kidsOf (nds rs) i).length ∧ Vis w0 O wr v (l ++ (i : Int) :: ((kidsOf (nds rs) i).take k).flatMap (subF (nds rs) f))) (fun j _ => (kidsOf (nds rs) i).length - (intOf j).toNat)
    case atStart => exact ⟨0, _, rfl, Nat.zero_le _, HV2.out⟩
    case round =>
      obtain ⟨k, v, rfl, hk, hV⟩ := hrel
      have HV := Lib.hid hV
      clear hV t0 p0 k0
      by_cases hlt : k < (kidsOf (nds rs) i).length
      · have KW := owns_upd KX.out HV.out.upd (fun b hb => H.out.no b (.inr (.inr ⟨i, _, by simp [hi], hb⟩)))
        rw [HKV.out] at KW
        obtain ⟨gk, ck, e2, _, _, _⟩ := owns_some KW (by omega)
        cases e2
        have c0 := owns_cell KW (j := k) (by omega)
        rw [List.getElem?_map, List.getElem?_eq_getElem hlt] at c0
        obtain ⟨m, hm, hmlt, hov⟩ := kids_mem (List.getElem_mem hlt)
        rw [nds_len] at hmlt
        have hmi := (H.out.tr.ov hmlt).2
        rw [hov] at hmi
        have HTS := Lib.hid (flat_take_succ (subF (nds rs) f) (kidsOf (nds rs) i) k hlt)
        have HTL := Lib.hid (flat_take_le (subF (nds rs) f) (kidsOf (nds rs) i) k hlt)
        rw [hm] at c0 HTS HTL
        have TRW := Lib.hid (H.out.tr.upd HV.out.upd H.out.no)
        have t0 := cell_of (HV.out.upd.heap H.out.t H.out.nt) 0
        have v0 := cell_of (HV.out.upd.heap H.out.v H.out.nv) 0
        have p0 := cell_of TRW.out.head 0
        have hrm : rs[m]? = some rs[m] := by simp [hmlt]
        have c1 := TRW.out.at_ hrm 1 (by omega)
        simp only [List.getElem?_toArray, List.getElem?_cons_zero, List.getElem?_cons_succ, rowV, Option.map_some] at t0 p0 c1 c0 v0
        rw [show rs[m].2.1 = cutOf (nds rs) m from (cut_get (nds_get rs m _ hrm)).symm] at c1
        have hm1 : (m : Int) < (rs.length : Int) := by omega
        have hk1 : (k : Int) < ((kidsOf (nds rs) i).length : Int) := by omega
        have HSUB := Lib.hid (show subF (nds rs) f (m : Int) = if cutOf (nds rs) m then [] else reachF (nds rs) f m by simp [subF])
        clear KW hm hov hrm
        cases hc : cutOf (nds rs) m
        · rw [hc] at c1 HSUB
          simp only [Bool.false_eq_true, if_false] at HSUB
          have hbm : (l ++ (i : Int) :: ((kidsOf (nds rs) i).take k).flatMap (subF (nds rs) f)).length + (reachF (nds rs) f m).length ≤ 1000 := by
            have h1 := HTL.out
            rw [HSUB.out] at h1
            have h2 := HB.out
            rw [List.length_append, List.length_cons]
            omega
          have CL := Lib.hid (IH.out m v _ wr HV.out hmlt (by omega) hbm)
          clear hc hbm
          go_wp2_with fail
          refine CL.out.mono ?_
          rintro e w3 ⟨⟨u, rfl⟩, v3, hV3⟩
          have HV3 := Lib.hid hV3
          clear hV3
          go_wp2_with fail
          go_roundw
          case rel => exact ⟨k + 1, v3, by go_num, by omega, by rw [HTS.out, HSUB.out, ← List.cons_append, ← List.append_assoc]; exact HV3.out⟩
          case measure => simp [intOf]; omega
        · rw [hc] at c1 HSUB
          simp only [if_true] at HSUB
          clear hc
          go_wp2_with fail
          go_roundw
          case rel => exact ⟨k + 1, v, by go_num, by omega, by rw [HTS.out, HSUB.out, List.append_nil]; exact HV.out⟩
          case measure => simp [intOf]; omega
      · have e : k = (kidsOf (nds rs) i).length := by omega
        have HE := Lib.hid e
        clear e
        go_wp2_with fail
        go_end0
        refine ⟨⟨_, rfl⟩, v, ?_⟩
        have := HV.out
        rw [HE.out, List.take_length] at this
        exact this
end Go.Proofs.Ytoijeehkjpcefaa

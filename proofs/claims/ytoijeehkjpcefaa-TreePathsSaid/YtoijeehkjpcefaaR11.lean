import Derived.Test.YtoijeehkjpcefaaR10
namespace Go.Proofs.Ytoijeehkjpcefaa
open Go.RowKit Go.Proofs.Cmd

/-- Each over stands before. -/
def Tree (ns : List Nd) : Prop := ∀ i, i < ns.length → -1 ≤ ovr ns i ∧ ovr ns i < i
inductive Anc (ns : List Nd) (a : Nat) : Nat → Prop
  | here : Anc ns a a
  | up {b : Nat} (o : Nat) : ovr ns b = o → cutOf ns b = false → Anc ns a o → Anc ns a b
theorem Anc.inv {ns : List Nd} {a b : Nat} (h : Anc ns a b) : a = b ∨ ∃ o : Nat, ovr ns b = o ∧ cutOf ns b = false ∧ Anc ns a o := by
  cases h with
  | here => exact .inl rfl
  | up o h1 h2 h3 => exact .inr ⟨o, h1, h2, h3⟩
theorem Anc.trans {ns : List Nd} {a b c : Nat} (h : Anc ns a b) (k : Anc ns b c) : Anc ns a c := by
  induction k with
  | here => exact h
  | up o h1 h2 _ ih => exact .up o h1 h2 ih
theorem ovr_lt {ns : List Nd} (ht : Tree ns) {b o : Nat} (h : ovr ns b = o) : o < b ∧ b < ns.length := by
  rcases Nat.lt_or_ge b ns.length with hb | hb
  · have := (ht b hb).2; omega
  · unfold ovr at h; rw [List.getD_eq_getElem?_getD, List.getElem?_eq_none hb] at h; simp at h <;> omega
theorem Anc.le {ns : List Nd} (ht : Tree ns) {a b : Nat} (h : Anc ns a b) : a ≤ b := by
  induction h with
  | here => exact Nat.le_refl _
  | up o h1 _ _ ih => have := ovr_lt ht h1; omega
theorem Anc.line {ns : List Nd} {a a' b : Nat} (h : Anc ns a b) (h' : Anc ns a' b) : Anc ns a a' ∨ Anc ns a' a := by
  induction h with
  | here => exact .inr h'
  | up o h1 h2 h3 ih =>
    rcases h'.inv with rfl | ⟨o', e1, _, h4⟩
    · exact .inl (.up o h1 h2 h3)
    · rw [h1] at e1
      have : o = o' := by omega
      subst this
      exact ih h4

theorem mem_kids {ns : List Nd} {i m : Nat} (hm : m < ns.length) (ho : ovr ns m = i) : (m : Int) ∈ kidsOf ns i := by
  simp only [kidsOf, kidsTo, List.mem_map, List.mem_filter, List.mem_range, beq_iff_eq]
  exact ⟨m, ⟨hm, ho⟩, rfl⟩
theorem reach_step {ns : List Nd} (ht : Tree ns) {o m : Nat} (ho : ovr ns m = o) (hc : cutOf ns m = false) : ∀ (f i : Nat), ns.length ≤ f + i → (o : Int) ∈ reachF ns f i → (m : Int) ∈ reachF ns f i := by
  intro f
  induction f with
  | zero => intro i _ h; cases h
  | succ f ih =>
    intro i hf h
    have hm := ovr_lt ht ho
    rw [reachF_succ] at h ⊢
    rw [List.mem_cons] at h ⊢
    right
    rw [List.mem_flatMap] at h ⊢
    rcases h with e | ⟨k, hk, h⟩
    · have e : o = i := by omega
      subst e
      refine ⟨m, mem_kids hm.2 ho, ?_⟩
      unfold subF
      rw [Int.toNat_natCast, hc]
      obtain ⟨f, rfl⟩ : ∃ g, f = g + 1 := ⟨f - 1, by omega⟩
      rw [reachF_succ]; simp
    · refine ⟨k, hk, ?_⟩
      obtain ⟨j, rfl, _, hj⟩ := kids_mem hk
      have := ovr_lt ht hj
      unfold subF at h ⊢
      cases hcj : cutOf ns (j : Int).toNat
      · rw [hcj] at h
        simp only [Bool.false_eq_true, if_false, Int.toNat_natCast] at h ⊢
        exact ih j (by omega) h
      · rw [hcj] at h; simp at h
theorem mem_reach {ns : List Nd} (ht : Tree ns) : ∀ (f i : Nat), i < ns.length → ns.length ≤ f + i → ∀ x, x ∈ reachF ns f i ↔ ∃ m : Nat, x = m ∧ m < ns.length ∧ Anc ns i m := by
  intro f i hi hf x
  constructor
  · have : ∀ (f i : Nat), i < ns.length → x ∈ reachF ns f i → ∃ m : Nat, x = m ∧ m < ns.length ∧ Anc ns i m := by
      intro f
      induction f with
      | zero => intro i _ h; cases h
      | succ f ih =>
        intro i hi h
        rw [reachF_succ, List.mem_cons, List.mem_flatMap] at h
        rcases h with rfl | ⟨k, hk, h⟩
        · exact ⟨i, rfl, hi, .here⟩
        · obtain ⟨j, rfl, hj, ho⟩ := kids_mem hk
          unfold subF at h
          rw [Int.toNat_natCast] at h
          cases hc : cutOf ns j
          · rw [hc] at h
            obtain ⟨m, e, hm, ha⟩ := ih j hj (by simpa using h)
            exact ⟨m, e, hm, (Anc.up i ho hc .here).trans ha⟩
          · rw [hc] at h; simp at h
    exact this f i hi
  · rintro ⟨m, rfl, hm, ha⟩
    induction ha with
    | here =>
      obtain ⟨f, rfl⟩ : ∃ g, f = g + 1 := ⟨f - 1, by omega⟩
      rw [reachF_succ]; simp
    | up o h1 h2 _ ih => exact reach_step ht h1 h2 f i hf (ih (by have := ovr_lt ht h1; omega))
theorem mem_chain {ns : List Nd} (ht : Tree ns) : ∀ (f b : Nat), b < ns.length → b < f → ∀ x, x ∈ upF ns true f (b : Int) ↔ ∃ a : Nat, x = a ∧ a < ns.length ∧ Anc ns a b := by
  intro f
  induction f with
  | zero => intro b _ h; omega
  | succ f ih =>
    intro b hb hf x
    rw [upF, isIn_of hb, if_pos rfl, Int.toNat_natCast]
    have hob := ht b hb
    cases hc : cutOf ns b
    · simp only [Bool.and_false, Bool.false_eq_true, if_false, List.mem_cons]
      by_cases ho : 0 ≤ ovr ns b
      · obtain ⟨o, ho'⟩ := Int.eq_ofNat_of_zero_le ho
        have hlt := ovr_lt ht ho'
        rw [ho', ih o (by omega) (by omega)]
        constructor
        · rintro (rfl | ⟨a, rfl, ha, h⟩)
          · exact ⟨b, rfl, hb, .here⟩
          · exact ⟨a, rfl, ha, .up o ho' hc h⟩
        · rintro ⟨a, rfl, ha, h⟩
          rcases h.inv with rfl | ⟨o', e1, _, h4⟩
          · exact .inl rfl
          · rw [ho'] at e1
            have : o = o' := by omega
            subst this
            exact .inr ⟨a, rfl, ha, h4⟩
      · rw [upF_not (by simp [isIn]; omega)]
        constructor
        · rintro (rfl | h)
          · exact ⟨b, rfl, hb, .here⟩
          · cases h
        · rintro ⟨a, rfl, ha, h⟩
          rcases h.inv with rfl | ⟨o', e1, _, h4⟩
          · exact .inl rfl
          · omega
    · simp only [Bool.and_true, if_true, List.mem_cons, List.not_mem_nil, or_false]
      constructor
      · rintro rfl
        exact ⟨b, rfl, hb, .here⟩
      · rintro ⟨a, rfl, ha, h⟩
        rcases h.inv with rfl | ⟨o', _, e2, _⟩
        · rfl
        · rw [hc] at e2; cases e2
theorem up_le {ns : List Nd} (ht : Tree ns) (c : Bool) : ∀ (f : Nat) (j : Int), ∀ x ∈ upF ns c f j, 0 ≤ x ∧ x ≤ j := by
  intro f
  induction f with
  | zero => intro j x h; cases h
  | succ f ih =>
    intro j x h
    rw [upF] at h
    cases hI : isIn ns.length j
    · rw [hI] at h; cases h
    · obtain ⟨k, rfl, hk⟩ := isIn_nat hI
      have := ht k hk
      rw [hI, if_pos rfl, List.mem_cons] at h
      rcases h with rfl | h
      · omega
      · rw [Int.toNat_natCast] at h
        split at h
        · cases h
        · have := ih _ x h; omega
theorem up_nodup {ns : List Nd} (ht : Tree ns) (c : Bool) : ∀ (f : Nat) (j : Int), (upF ns c f j).Nodup := by
  intro f
  induction f with
  | zero => intro j; exact List.nodup_nil
  | succ f ih =>
    intro j
    rw [upF]
    cases hI : isIn ns.length j
    · exact List.nodup_nil
    · obtain ⟨k, rfl, hk⟩ := isIn_nat hI
      have := ht k hk
      rw [if_pos rfl, List.nodup_cons, Int.toNat_natCast]
      split
      · exact ⟨by simp, List.nodup_nil⟩
      · refine ⟨fun h => ?_, ih _⟩
        have := up_le ht c _ _ _ h; omega
theorem kids_nodup (ns : List Nd) (i : Nat) : (kidsOf ns i).Nodup := by
  unfold kidsOf kidsTo
  refine List.pairwise_map.2 (List.Pairwise.filter _ (List.nodup_range.imp ?_))
  intro a b h e; exact h (by omega)
theorem reach_nodup {ns : List Nd} (ht : Tree ns) : ∀ (f i : Nat), i < ns.length → ns.length ≤ f + i → (reachF ns f i).Nodup := by
  intro f
  induction f with
  | zero => intro i _ _; exact List.nodup_nil
  | succ f ih =>
    intro i hi hf
    rw [reachF_succ, List.nodup_cons]
    have sub : ∀ (k : Int), k ∈ kidsOf ns i → ∀ x ∈ subF ns f k, ∃ j m : Nat, k = j ∧ x = m ∧ j < ns.length ∧ ovr ns j = i ∧ Anc ns j m := by
      intro k hk x hx
      obtain ⟨j, rfl, hj, ho⟩ := kids_mem hk
      have := ovr_lt ht ho
      unfold subF at hx
      rw [Int.toNat_natCast] at hx
      cases hc : cutOf ns j
      · rw [hc] at hx
        obtain ⟨m, e, _, ha⟩ := (mem_reach ht f j hj (by omega) x).1 (by simpa using hx)
        exact ⟨j, m, rfl, e, hj, ho, ha⟩
      · rw [hc] at hx; simp at hx
    constructor
    · intro h
      rw [List.mem_flatMap] at h
      obtain ⟨k, hk, h⟩ := h
      obtain ⟨j, m, rfl, e, hj, ho, ha⟩ := sub k hk _ h
      have := ha.le ht
      have := ovr_lt ht ho
      omega
    · rw [List.nodup_iff_pairwise_ne, List.pairwise_flatMap]
      constructor
      · intro k hk
        obtain ⟨j, rfl, hj, ho⟩ := kids_mem hk
        have := ovr_lt ht ho
        unfold subF
        rw [Int.toNat_natCast]
        split
        · exact List.Pairwise.nil
        · exact ih j hj (by omega)
      · have hkn := kids_nodup ns i
        rw [List.nodup_iff_pairwise_ne] at hkn
        refine hkn.imp_of_mem ?_
        intro k k' hk hk' hne x hx y hy e
        subst e
        obtain ⟨j, m, rfl, e1, hj, ho, ha⟩ := sub k hk x hx
        obtain ⟨j', m', rfl, e2, hj', ho', ha'⟩ := sub k' hk' x hy
        have : m = m' := by omega
        subst this
        have l1 := ovr_lt ht ho
        have l2 := ovr_lt ht ho'
        rcases ha.line ha' with h | h
        · rcases h.inv with e | ⟨o, e3, _, h4⟩
          · exact hne (by omega)
          · have := h4.le ht; omega
        · rcases h.inv with e | ⟨o, e3, _, h4⟩
          · exact hne (by omega)
          · have := h4.le ht; omega
theorem small_of_nodup : ∀ (n : Nat) (l : List Int), l.Nodup → (∀ x ∈ l, 0 ≤ x ∧ x < n) → l.length ≤ n := by
  intro n
  induction n with
  | zero =>
    intro l _ h
    cases l with
    | nil => simp
    | cons x l => have := h x (by simp); omega
  | succ n ih =>
    intro l hn h
    have h1 := ih (l.filter (fun x => !decide (x = (n : Int)))) (List.Pairwise.filter _ hn) (by
      intro x hx
      rw [List.mem_filter] at hx
      have := h x hx.1
      have h2 := hx.2
      simp at h2
      omega)
    have h2 := List.length_eq_countP_add_countP (p := fun x => decide (x = (n : Int))) (l := l)
    have h3 : l.countP (fun x => decide (x = (n : Int))) ≤ 1 := by
      have := List.nodup_iff_count.1 hn (n : Int)
      rw [List.count] at this
      refine Nat.le_trans (Nat.le_of_eq ?_) this
      congr 1
    rw [← List.countP_eq_length_filter] at h1
    have h4 : l.countP (fun x => decide ¬ (decide (x = (n : Int))) = true) = l.countP (fun x => !decide (x = (n : Int))) := by congr 1; funext x; simp
    omega
theorem reach_len {ns : List Nd} (ht : Tree ns) {f i : Nat} (hi : i < ns.length) (hf : ns.length ≤ f + i) : (reachF ns f i).length ≤ ns.length := by
  refine small_of_nodup _ _ (reach_nodup ht f i hi hf) ?_
  intro x hx
  obtain ⟨m, rfl, h, _⟩ := (mem_reach ht f i hi hf x).1 hx
  omega
end Go.Proofs.Ytoijeehkjpcefaa

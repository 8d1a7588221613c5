import Derived.Test.YtffehagmchcpkaaA1
namespace Go.Proofs.Ytffehagmchcpkaa
open Go.Proofs.Cmd
variable {N : Nat} {rows : List (List Nat)} {s : St}

def dropS (s : St) (m : Nat) : St :=
  { nx := (s.nx.set (s.pv.getD m 0).toNat (((s.nx.getD m 0).toNat : Nat) : Int)).set m (m : Int), pv := (s.pv.set (s.nx.getD m 0).toNat (((s.pv.getD m 0).toNat : Nat) : Int)).set m (m : Int),
    inn := s.inn.set m (-1), lg := s.lg.set (s.inn.getD m 0).toNat (s.lg.getD (s.inn.getD m 0).toNat 0 - 1) }
/-- Node m, between x and y, leaves. -/
theorem Rep.drop (h : Rep N rows s) {r m x y : Nat} {l1 l2 p q : List Nat} (hr : rows[r]? = some (l1 ++ m :: l2)) (hx : (N + r) :: l1 = p ++ [x]) (hy : l2 ++ [N + r] = y :: q) :
    s.pv.getD m 0 = (x : Int) ∧ s.nx.getD m 0 = (y : Int) ∧ s.inn.getD m 0 = (r : Int) ∧ x < N + rows.length ∧ y < N + rows.length ∧ Rep N (rows.set r (l1 ++ l2)) (dropS s m) := by
  have e : (N + r) :: (l1 ++ m :: l2) ++ [N + r] = p ++ x :: m :: y :: q := by
    have e3 : (N + r) :: (l1 ++ m :: l2) ++ [N + r] = ((N + r) :: l1) ++ m :: (l2 ++ [N + r]) := by simp
    rw [e3, hx, hy]; simp
  have hlr := h.rlt hr
  obtain ⟨hxm, hmx⟩ := h.at_ hr e
  obtain ⟨hmy, hym⟩ := h.at_ hr (p := p ++ [x]) (x := m) (y := y) (q := q) (by rw [e]; simp)
  obtain ⟨c1, c2⟩ := h.circ hr
  have hm : m < N := h.lt r _ hr m (by simp)
  have hin : s.inn.getD m 0 = (r : Int) := (h.inn m hm r _ hr).2 (by simp)
  have hnd := h.nodup r _ hr
  have hperm : (l1 ++ m :: l2).Perm (m :: (l1 ++ l2)) := List.perm_middle
  have hnd' := List.nodup_cons.1 (hperm.nodup_iff.1 hnd)
  have hml := hnd'.1
  have hxm' : x = N + r ∨ x ∈ l1 := by
    have : x ∈ (N + r) :: l1 := by rw [hx]; simp
    simpa using this
  have hym' : y ∈ l2 ∨ y = N + r := by
    have : y ∈ l2 ++ [N + r] := by rw [hy]; simp
    simpa using this
  have hxN : x < N + rows.length := by
    rcases hxm' with e | e
    · omega
    · have := h.lt r _ hr x (by simp [e]); omega
  have hyN : y < N + rows.length := by
    rcases hym' with e | e
    · have := h.lt r _ hr y (by simp [e]); omega
    · omega
  have xm : x ≠ m := by
    rintro rfl
    rcases hxm' with e | e
    · omega
    · exact hml (by simp [e])
  have ym : y ≠ m := by
    rintro rfl
    rcases hym' with e | e
    · exact hml (by simp [e])
    · omega
  refine ⟨hmx, hmy, hin, hxN, hyN, ?_⟩
  have hsz := h.sz
  have hL : dropS s m = { nx := (s.nx.set x (y : Int)).set m (m : Int), pv := (s.pv.set y (x : Int)).set m (m : Int), inn := s.inn.set m (-1), lg := s.lg.set r (s.lg.getD r 0 - 1) } := by
    unfold dropS; rw [hmx, hmy, hin, Int.toNat_natCast, Int.toNat_natCast, Int.toNat_natCast]
  have gn : ∀ z, ((s.nx.set x (y : Int)).set m (m : Int)).getD z 0 = if z = m then (m : Int) else if z = x then (y : Int) else s.nx.getD z 0 := fun z => by
    rw [getD_set _ _ _ _ (by simp [hsz.nx]; omega)]
    split
    · rfl
    · rw [getD_set _ _ _ _ (by rw [hsz.nx]; exact hxN)]
  have gp : ∀ z, ((s.pv.set y (x : Int)).set m (m : Int)).getD z 0 = if z = m then (m : Int) else if z = y then (x : Int) else s.pv.getD z 0 := fun z => by
    rw [getD_set _ _ _ _ (by simp [hsz.pv]; omega)]
    split
    · rfl
    · rw [getD_set _ _ _ _ (by rw [hsz.pv]; exact hyN)]
  rw [hL]
  refine ⟨⟨by simp [hsz.nx], by simp [hsz.pv], by simp [hsz.inn], by simp [hsz.lg], hsz.n, by simpa using hsz.r⟩, ?_, ?_, ?_, ?_, ?_, ?_⟩
  · intro r' l' h' z hz
    by_cases er : r' = r
    · subst er
      rw [List.getElem?_set_self hlr] at h'; cases h'
      exact h.lt _ _ hr z (by simp only [List.mem_append, List.mem_cons] at hz ⊢; rcases hz with e | e; exact .inl e; exact .inr (.inr e))
    · rw [List.getElem?_set_ne (Ne.symm er)] at h'; exact h.lt r' l' h' z hz
  · intro r' l' h'
    by_cases er : r' = r
    · subst er
      rw [List.getElem?_set_self hlr] at h'; cases h'
      exact hnd'.2
    · rw [List.getElem?_set_ne (Ne.symm er)] at h'; exact h.nodup r' l' h'
  · intro r' l' h'
    by_cases er : r' = r
    · subst er
      rw [List.getElem?_set_self hlr] at h'; cases h'
      have e2 : (N + r') :: (l1 ++ l2) ++ [N + r'] = p ++ x :: y :: q := by
        have e3 : (N + r') :: (l1 ++ l2) ++ [N + r'] = ((N + r') :: l1) ++ (l2 ++ [N + r']) := by simp
        rw [e3, hx, hy]; simp
      have h0 := h.link _ _ hr
      rw [e, linked_mid] at h0
      obtain ⟨b1, _, _, b4⟩ := h0
      have b4 : Linked s.nx s.pv (y :: q) := by
        have := (linked_mid [] m y q).1 b4
        exact this.2.2.2
      rw [e2, linked_mid]
      have nd1 : (p ++ [x]).Nodup := by rw [← hx]; exact (List.nodup_append.1 (by rw [← List.cons_append] at c1; exact c1)).1
      have nd2 : (y :: q).Nodup := by
        rw [← hy]
        rw [List.append_assoc] at c2
        exact (List.nodup_cons.1 (List.nodup_append.1 c2).2.1).2
      have cross1 : ∀ z ∈ l1, z ≠ y := fun z hz => by
        rw [List.append_assoc] at c2
        exact (List.nodup_append.1 c2).2.2 z hz y (by rw [List.cons_append, hy]; simp)
      have cross2 : ∀ z ∈ l2, z ≠ x := fun z hz e => by
        rw [← List.cons_append] at c1
        exact (List.nodup_append.1 c1).2.2 x (by rw [hx]; simp) z (by simp [hz]) e.symm
      refine ⟨linked_congr _ b1 ?_ ?_, ?_, ?_, linked_congr _ b4 ?_ ?_⟩
      · intro z hz
        have hz : z ∈ p := by simpa using hz
        have h1 : z ≠ x := fun e => (List.nodup_append.1 nd1).2.2 z hz x (by simp) e
        have h2 : z ≠ m := by
          rintro rfl
          have : z ∈ (N + r') :: l1 := by rw [hx]; simp [hz]
          simp at this
          rcases this with e | e
          · omega
          · exact hml (by simp [e])
        rw [gn, if_neg h2, if_neg h1]
      · intro z hz
        have hz : z ∈ l1 := by rw [← hx] at hz; simpa using hz
        have h2 : z ≠ m := fun e => hml (by rw [← e]; simp [hz])
        rw [gp, if_neg h2, if_neg (cross1 z hz)]
      · rw [gn, if_neg xm, if_pos rfl]
      · rw [gp, if_neg ym, if_pos rfl]
      · intro z hz
        have hz : z ∈ l2 := by rw [← hy] at hz; simpa using hz
        have h2 : z ≠ m := fun e => hml (by rw [← e]; simp [hz])
        rw [gn, if_neg h2, if_neg (cross2 z hz)]
      · intro z hz
        have hz : z ∈ q := by simpa using hz
        have h1 : z ≠ y := fun e => (List.nodup_cons.1 nd2).1 (e ▸ hz)
        have h2 : z ≠ m := by
          rintro rfl
          have : z ∈ l2 ++ [N + r'] := by rw [hy]; simp [hz]
          simp at this
          rcases this with e | e
          · exact hml (by simp [e])
          · omega
        rw [gp, if_neg h2, if_neg h1]
    · rw [List.getElem?_set_ne (Ne.symm er)] at h'
      have far : ∀ z, z ∈ (N + r') :: l' ++ [N + r'] → z ≠ x ∧ z ≠ m ∧ z ≠ y := by
        intro z hz
        have hz : z = N + r' ∨ z ∈ l' := by
          simp only [List.cons_append, List.mem_cons, List.mem_append, List.not_mem_nil, or_false] at hz
          rcases hz with e | e | e
          · exact .inl e
          · exact .inr e
          · exact .inl e
        have inrow : ∀ u, u ∈ l1 ++ m :: l2 → z ≠ u := by
          rintro u hu rfl
          rcases hz with e | e
          · have := h.lt r _ hr z hu; omega
          · exact er (h.disj h' hr e hu)
        refine ⟨?_, inrow m (by simp), ?_⟩
        · rintro rfl
          rcases hxm' with e | e
          · rcases hz with e' | e'
            · omega
            · have := h.lt r' l' h' z e'; omega
          · exact inrow z (by simp [e]) rfl
        · rintro rfl
          rcases hym' with e | e
          · exact inrow z (by simp [e]) rfl
          · rcases hz with e' | e'
            · omega
            · have := h.lt r' l' h' z e'; omega
      refine linked_congr _ (h.link r' l' h') ?_ ?_
      · intro z hz
        obtain ⟨f1, f2, f3⟩ := far z (List.dropLast_subset _ hz)
        rw [gn, if_neg f2, if_neg f1]
      · intro z hz
        obtain ⟨f1, f2, f3⟩ := far z (List.mem_of_mem_tail hz)
        rw [gp, if_neg f2, if_neg f3]
  · intro r' l' h'
    by_cases er : r' = r
    · subst er
      rw [List.getElem?_set_self hlr] at h'; cases h'
      rw [getD_set _ _ _ _ (by rw [hsz.lg]; exact hlr), if_pos rfl, h.len _ _ hr]
      simp; omega
    · rw [List.getElem?_set_ne (Ne.symm er)] at h'
      rw [getD_set_ne _ _ _ _ er]; exact h.len r' l' h'
  · intro n hn r' l' h'
    rw [getD_set _ _ _ _ (by rw [hsz.inn]; exact hm)]
    by_cases er : r' = r
    · subst er
      rw [List.getElem?_set_self hlr] at h'; cases h'
      by_cases en : n = m
      · subst en
        rw [if_pos rfl]
        exact ⟨fun e => by omega, fun e => absurd e hml⟩
      · rw [if_neg en, h.inn n hn _ _ hr]; simp [en]
    · rw [List.getElem?_set_ne (Ne.symm er)] at h'
      by_cases en : n = m
      · subst en
        rw [if_pos rfl]
        constructor
        · intro e; omega
        · intro hx; have := (h.inn n hn r' l' h').2 hx; omega
      · rw [if_neg en]; exact h.inn n hn r' l' h'
  · intro n hn
    rw [getD_set _ _ _ _ (by rw [hsz.inn]; exact hm)]
    by_cases en : n = m
    · rw [if_pos en]; left; rfl
    · rw [if_neg en]; simpa using h.free n hn
end Go.Proofs.Ytffehagmchcpkaa

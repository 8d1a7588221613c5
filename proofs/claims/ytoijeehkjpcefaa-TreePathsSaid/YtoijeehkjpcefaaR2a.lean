import Derived.Test.YtoijeehkjpcefaaR2
namespace Go.Proofs.Ytoijeehkjpcefaa
open Go.RowKit Go.Proofs.Cmd

theorem nds_append (rs : List Row) (o : Int) (c : Bool) (v : Value) : nds (rs ++ [(o, c, v)]) = nds rs ++ [(o, c)] := by simp [nds]
theorem nds_set (rs : List Row) (i : Nat) (r : Row) (v : Value) (h : rs[i]? = some r) : nds (rs.set i (r.1, r.2.1, v)) = nds rs := by
  have hi := (List.getElem?_eq_some_iff.1 h)
  obtain ⟨hl, he⟩ := hi
  simp only [nds, List.map_set]
  apply List.ext_getElem (by simp)
  intro j h1 h2
  rw [List.getElem_set]
  split
  · rename_i e; subst e; simp [he]
  · rfl
theorem ovr_left {ns : List Nd} {j : Nat} (h : j < ns.length) (r : Nd) : ovr (ns ++ [r]) j = ovr ns j := by
  simp [ovr, List.getElem?_append_left h]
theorem ovr_last (ns : List Nd) (r : Nd) : ovr (ns ++ [r]) ns.length = r.1 := by simp [ovr]
theorem kidsTo_succ (ns : List Nd) (i : Int) (k : Nat) : kidsTo ns i (k + 1) = kidsTo ns i k ++ (if ovr ns k = i then [(k : Int)] else []) := by
  simp only [kidsTo, List.range_succ, List.filter_append, List.map_append]
  congr 1
  by_cases h : ovr ns k = i <;> simp [h]
theorem kidsTo_left (ns : List Nd) (r : Nd) (i : Int) : ∀ k, k ≤ ns.length → kidsTo (ns ++ [r]) i k = kidsTo ns i k := by
  intro k
  induction k with
  | zero => intro _; rfl
  | succ k ih => intro hk; rw [kidsTo_succ, kidsTo_succ, ih (by omega), ovr_left (by omega)]
theorem kids_append (ns : List Nd) (o : Int) (c : Bool) (i : Nat) : kidsOf (ns ++ [(o, c)]) i = kidsOf ns i ++ (if o = (i : Int) then [(ns.length : Int)] else []) := by
  unfold kidsOf
  rw [List.length_append, List.length_singleton, kidsTo_succ, kidsTo_left _ _ _ _ (Nat.le_refl _), ovr_last]
theorem kids_none (ns : List Nd) (ht : ∀ (i : Nat) (r : Nd), ns[i]? = some r → r.1 < i) (i : Nat) (hi : ns.length ≤ i) : kidsOf ns i = [] := by
  have : ∀ k, k ≤ ns.length → kidsTo ns i k = [] := by
    intro k
    induction k with
    | zero => intro _; rfl
    | succ k ih =>
      intro hk
      have := ht k ns[k] (by simp [show k < ns.length by omega])
      rw [kidsTo_succ, ih (by omega), if_neg]
      · rfl
      · simp [ovr, show k < ns.length by omega]; omega
  exact this _ (Nat.le_refl _)
theorem kids_len (ns : List Nd) (i : Nat) : (kidsOf ns i).length ≤ ns.length := by
  simp only [kidsOf, kidsTo, List.length_map]
  exact Nat.le_trans (List.length_filter_le _ _) (by simp)

variable {B p : Nat} {sv : Value} {rs : List Row} {most : Int} {w : World}
theorem Tr.ntree (h : Tr B w p sv rs most) : ∀ (i : Nat) (r : Nd), (nds rs)[i]? = some r → r.1 < i := by
  intro i r hr
  simp only [nds, List.getElem?_map, Option.map_eq_some_iff] at hr
  obtain ⟨q, hq, rfl⟩ := hr
  exact (h.tree i q hq).2
/-- Kids' blocks are none of the table's. -/
theorem Tr.kid_apart (h : Tr B w p sv rs most) {i : Nat} {r : Row} (hr : rs[i]? = some r) : ∀ k, r.2.2.ownBlock = some k → ¬ (k = p ∨ sv.ownBlock = some k) := by
  rintro k hk (rfl | hs)
  · obtain ⟨c, hc⟩ := owns_type (h.kids i r hr) hk
    rw [h.head] at hc; cases hc
  · obtain ⟨c, hc⟩ := owns_type (h.kids i r hr) hk
    obtain ⟨c', hc'⟩ := owns_type h.rows hs
    rw [hc] at hc'; cases hc'

/-- A root is added. -/
theorem Tr.add_root (h : Tr B w p sv rs most) {wx : World} {v : Value} (c : Bool) (o : Int) (ho : o = -1) (hn : rs.length < 1000) (hp : wx.heap[p]? = some (.cells #[v, .int .i64 most] 54 (0, 0)))
    (hr : wx.ownsRow B 56 3 v (rs.length + 1) (flat rs ++ [.int .i64 o, .bool c, .slice none 0 0])) (hu : Upd (fun k => k = p ∨ sv.ownBlock = some k) w wx) :
    Tr B wx p v (rs ++ [(o, c, .slice none 0 0)]) most := by
  refine ⟨hp, h.base, ?_, ?_, ?_, ?_, ?_⟩
  · rw [flat_append, List.length_append]; exact hr
  · intro i r hi
    rw [nds_append, kids_append, if_neg (by omega), List.append_nil]
    by_cases e : i < rs.length
    · rw [List.getElem?_append_left e] at hi
      exact owns_upd (h.kids i r hi) hu (h.kid_apart hi)
    · have e2 : i = rs.length := by
        have := (List.getElem?_eq_some_iff.1 hi).1; simp at this; omega
      subst e2
      simp at hi; subst hi
      rw [kids_none _ h.ntree _ (by rw [nds_len]; omega)]
      exact World.ownsRow_nil _ _ _ _
  · intro i j r q k hi hj h1 h2
    have aux : ∀ (i : Nat) (r : Row), (rs ++ [(o, c, Value.slice none 0 0)])[i]? = some r → r.2.2.ownBlock = some k → rs[i]? = some r := by
      intro i r hi h1
      by_cases e : i < rs.length
      · rwa [List.getElem?_append_left e] at hi
      · have e2 : i = rs.length := by
          have := (List.getElem?_eq_some_iff.1 hi).1; simp at this; omega
        subst e2
        simp at hi; subst hi
        simp [Value.ownBlock] at h1
    exact h.sep i j r q k (aux i r hi h1) (aux j q hj h2) h1 h2
  · simp; omega
  · intro i r hi
    by_cases e : i < rs.length
    · rw [List.getElem?_append_left e] at hi; exact h.tree i r hi
    · have e2 : i = rs.length := by
        have := (List.getElem?_eq_some_iff.1 hi).1; simp at this; omega
      subst e2
      simp at hi; subst hi
      simp [ho]; omega
end Go.Proofs.Ytoijeehkjpcefaa

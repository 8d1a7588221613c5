import Derived.Test.YtoijeehkjpcefaaR2a
namespace Go.Proofs.Ytoijeehkjpcefaa
open Go.RowKit Go.Proofs.Cmd
variable {B p : Nat} {sv : Value} {rs : List Row} {most : Int} {w : World}

/-- A node is added below node k. -/
theorem Tr.add_kid (h : Tr B w p sv rs most) {wx w6 : World} {gg cc : Nat} (c : Bool) (k : Nat) (r : Row) (hk : rs[k]? = some r) (hn : rs.length < 1000)
    (hp : wx.heap[p]? = some (.cells #[.slice (some ⟨gg, 0, none⟩) (rs.length + 1) cc, .int .i64 most] 54 (0, 0)))
    (hr : wx.ownsRow B 56 3 (Value.slice (some ⟨gg, 0, none⟩) (rs.length + 1) cc) (rs.length + 1) (flat rs ++ [.int .i64 k, .bool c, Value.slice none 0 0])) (hu : Upd (fun q => q = p ∨ sv.ownBlock = some q) w wx)
    (g' c' : Nat) (hown : w6.ownsRow B 3 1 (Value.slice (some ⟨g', 0, none⟩) ((kidsOf (nds rs) k).length + 1) c') ((kidsOf (nds rs) k).length + 1) ((kidsOf (nds rs) k).map (Value.int .i64) ++ [.int .i64 rs.length]))
    (hg : Upd (fun q => r.2.2.ownBlock = some q) wx w6) (hat : r.2.2.ownBlock = some g' ∨ wx.heap.size ≤ g') :
    Tr B (w6.setCell ⟨gg, k * 3 + 2, none⟩ (Value.slice (some ⟨g', 0, none⟩) ((kidsOf (nds rs) k).length + 1) c')) p (Value.slice (some ⟨gg, 0, none⟩) (rs.length + 1) cc)
      ((rs ++ [((k : Int), c, Value.slice none 0 0)]).set k (r.1, r.2.1, Value.slice (some ⟨g', 0, none⟩) ((kidsOf (nds rs) k).length + 1) c')) most := by
  have hkl := (List.getElem?_eq_some_iff.1 hk).1
  have kx := owns_upd (h.kids k r hk) hu (h.kid_apart hk)
  -- the blocks of the table are none of the kids'
  have p6 : w6.heap[p]? = some (.cells #[.slice (some ⟨gg, 0, none⟩) (rs.length + 1) cc, .int .i64 most] 54 (0, 0)) := hg.heap hp (fun e => by
    obtain ⟨cu, hc⟩ := owns_type kx e
    rw [hp] at hc; cases hc)
  have r6 := owns_upd hr hg (fun q hq e => by
    obtain ⟨c1, h1⟩ := owns_type hr hq
    obtain ⟨c2, h2⟩ := owns_type kx e
    rw [h1] at h2; cases h2)
  obtain ⟨cg, hcg⟩ := owns_type r6 (k := gg) rfl
  have hgp : gg ≠ p := fun e => by subst e; rw [p6] at hcg; cases hcg
  have hk' : (rs ++ [((k : Int), c, Value.slice none 0 0)])[k]? = some r := by rw [List.getElem?_append_left hkl]; exact hk
  have rowOther : ∀ (v : Value) (n : Nat) (ys : List Value), w6.ownsRow B 3 1 v n ys → (w6.setCell ⟨gg, k * 3 + 2, none⟩ (Value.slice (some ⟨g', 0, none⟩) ((kidsOf (nds rs) k).length + 1) c')).ownsRow B 3 1 v n ys := by
    intro v n ys ho
    refine owns_heap ho (fun q hq => heap_set_other ?_ _ _)
    intro e; subst e
    obtain ⟨c1, h1⟩ := owns_type ho hq
    rw [hcg] at h1; cases h1
  have notk : ∀ (i : Nat) (q : Row), i ≠ k → rs[i]? = some q → ∀ b, q.2.2.ownBlock = some b → b ≠ g' := by
    rintro i q hik hq b hb rfl
    rcases hat with e | e
    · exact hik (h.sep i k q r b hq hk hb e)
    · have := (h.kids i q hq).lt b hb
      have := hu.size
      omega
  have idx : ∀ (i : Nat) (q : Row), i ≠ k → ((rs ++ [((k : Int), c, Value.slice none 0 0)]).set k (r.1, r.2.1, Value.slice (some ⟨g', 0, none⟩) ((kidsOf (nds rs) k).length + 1) c'))[i]? = some q →
      rs[i]? = some q ∨ (i = rs.length ∧ q = ((k : Int), c, Value.slice none 0 0)) := by
    intro i q hik hq
    rw [List.getElem?_set_ne (Ne.symm hik)] at hq
    by_cases e : i < rs.length
    · rw [List.getElem?_append_left e] at hq; exact .inl hq
    · have e2 : i = rs.length := by have := (List.getElem?_eq_some_iff.1 hq).1; simp at this; omega
      subst e2
      simp at hq
      exact .inr ⟨rfl, hq.symm⟩
  have atk : ((rs ++ [((k : Int), c, Value.slice none 0 0)]).set k (r.1, r.2.1, Value.slice (some ⟨g', 0, none⟩) ((kidsOf (nds rs) k).length + 1) c'))[k]? = some (r.1, r.2.1, Value.slice (some ⟨g', 0, none⟩) ((kidsOf (nds rs) k).length + 1) c') := by
    rw [List.getElem?_set_self (by simp; omega)]
  refine ⟨?_, h.base, ?_, ?_, ?_, ?_, ?_⟩
  · rw [heap_set_other hgp]; exact p6
  · rw [← flat_set _ _ r _ hk', flat_append, List.length_set, List.length_append]
    exact owns_set r6 _ _
  · intro i q hq
    rw [nds_set _ _ r _ hk', nds_append, kids_append]
    by_cases hik : i = k
    · subst hik
      rw [atk] at hq; cases hq
      rw [if_pos rfl, List.length_append, List.map_append, nds_len]
      exact rowOther _ _ _ hown
    · rw [if_neg (by omega), List.append_nil]
      rcases idx i q hik hq with hq' | ⟨rfl, rfl⟩
      · refine rowOther _ _ _ (owns_upd (owns_upd (h.kids i q hq') hu (h.kid_apart hq')) hg (fun b hb e => ?_))
        exact hik (h.sep i k q r b hq' hk hb e)
      · rw [kids_none (nds rs) h.ntree rs.length (by rw [nds_len]; omega)]
        exact World.ownsRow_nil _ _ _ _
  · intro i j q q' b hq hq' h1 h2
    have aux : ∀ (i : Nat) (q : Row), i ≠ k → ((rs ++ [((k : Int), c, Value.slice none 0 0)]).set k (r.1, r.2.1, Value.slice (some ⟨g', 0, none⟩) ((kidsOf (nds rs) k).length + 1) c'))[i]? = some q → q.2.2.ownBlock = some b → rs[i]? = some q := by
      intro i q hik hq h1
      rcases idx i q hik hq with e | ⟨rfl, rfl⟩
      · exact e
      · simp [Value.ownBlock] at h1
    by_cases hi : i = k
    · by_cases hj : j = k
      · omega
      · subst hi
        rw [atk] at hq; cases hq
        simp [Value.ownBlock] at h1
        exact absurd h1.symm (notk j q' hj (aux j q' hj hq' h2) b h2)
    · by_cases hj : j = k
      · subst hj
        rw [atk] at hq'; cases hq'
        simp [Value.ownBlock] at h2
        exact absurd h2.symm (notk i q hi (aux i q hi hq h1) b h1)
      · exact h.sep i j q q' b (aux i q hi hq h1) (aux j q' hj hq' h2) h1 h2
  · simp; omega
  · intro i q hq
    by_cases hik : i = k
    · subst hik; rw [atk] at hq; cases hq; exact h.tree i r hk
    · rcases idx i q hik hq with e | ⟨rfl, rfl⟩
      · exact h.tree i q e
      · exact ⟨by show (-1 : Int) ≤ k; omega, by show (k : Int) < rs.length; omega⟩
end Go.Proofs.Ytoijeehkjpcefaa

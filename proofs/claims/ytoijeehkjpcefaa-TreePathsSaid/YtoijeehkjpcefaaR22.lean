import Derived.Test.YtoijeehkjpcefaaR19
namespace Go.Proofs.Ytoijeehkjpcefaa
open Go.RowKit Go.Proofs.Cmd

theorem up_pre {ns : List Nd} : ∀ (f : Nat) (i : Int), ∃ r, upF ns false f i = upF ns true f i ++ r := by
  intro f
  induction f with
  | zero => intro i; exact ⟨[], rfl⟩
  | succ f ih =>
    intro i
    rw [upF, upF]
    cases isIn ns.length i
    · exact ⟨[], rfl⟩
    · simp only [if_true, Bool.false_and, Bool.false_eq_true, if_false, Bool.true_and, List.cons_append]
      split
      · exact ⟨upF ns false f (ovr ns i.toNat), rfl⟩
      · obtain ⟨r, hr⟩ := ih (ovr ns i.toNat)
        exact ⟨r, by rw [hr]⟩
theorem up_head {ns : List Nd} {c : Bool} {f : Nat} {i : Int} (h : isIn ns.length i = true) : (upF ns c (f + 1) i)[0]? = some i := by
  rw [upF, h]; rfl
theorem path_over {ns : List Nd} (ht : Tree ns) : ∀ (f : Nat) (i : Int), (isIn ns.length i = true → i < f) → ∀ (k : Nat) (x : Int), (upF ns false f i)[k]? = some x →
    isIn ns.length x = true ∧ overF ns x = ((upF ns false f i)[k + 1]?).getD (-1) := by
  intro f
  induction f with
  | zero => intro i _ k x h; simp [upF] at h
  | succ f ih =>
    intro i hi k x h
    cases hI : isIn ns.length i
    · rw [upF, hI] at h; simp at h
    · obtain ⟨m, rfl, hm⟩ := isIn_nat hI
      have ho := ht m hm
      have hf := hi hI
      have e : upF ns false (f + 1) (m : Int) = (m : Int) :: upF ns false f (ovr ns m) := by rw [upF, hI]; simp
      rw [e] at h ⊢
      cases k with
      | zero =>
        simp at h; subst h
        refine ⟨hI, ?_⟩
        rw [List.getElem?_cons_succ]
        have e2 : overF ns (m : Int) = ovr ns m := by simp [overF, hI]
        rw [e2]
        cases hO : isIn ns.length (ovr ns m)
        · rw [upF_not hO]
          simp [isIn] at hO
          simp; omega
        · obtain ⟨f', rfl⟩ : ∃ g, f = g + 1 := ⟨f - 1, by obtain ⟨o, h1, h2⟩ := isIn_nat hO; omega⟩
          rw [up_head hO]; rfl
      | succ k =>
        rw [List.getElem?_cons_succ] at h ⊢
        exact ih _ (fun _ => by omega) k x h
theorem chain_cut {ns : List Nd} : ∀ (f : Nat) (i : Int) (k : Nat) (x : Int), (upF ns true f i)[k]? = some x → k + 1 < (upF ns true f i).length → cutF ns x = false := by
  intro f
  induction f with
  | zero => intro i k x h; simp [upF] at h
  | succ f ih =>
    intro i k x h hk
    cases hI : isIn ns.length i
    · rw [upF, hI] at h; simp at h
    · obtain ⟨m, rfl, hm⟩ := isIn_nat hI
      cases hc : cutOf ns m
      · have e : upF ns true (f + 1) (m : Int) = (m : Int) :: upF ns true f (ovr ns m) := by rw [upF, hI]; simp [hc]
        rw [e] at h hk
        cases k with
        | zero => simp at h; subst h; simp [cutF, hc]
        | succ k => rw [List.getElem?_cons_succ] at h; exact ih _ k x h (by simpa using hk)
      · have e : upF ns true (f + 1) (m : Int) = [(m : Int)] := by rw [upF, hI]; simp [hc]
        rw [e] at hk; simp at hk
theorem chain_end {ns : List Nd} : ∀ (f : Nat) (i : Int), (upF ns true f i).length = (upF ns false f i).length ∨ ∃ x, (upF ns true f i)[(upF ns true f i).length - 1]? = some x ∧ cutF ns x = true := by
  intro f
  induction f with
  | zero => intro i; exact .inl rfl
  | succ f ih =>
    intro i
    cases hI : isIn ns.length i
    · left; rw [upF, upF, hI]; rfl
    · obtain ⟨m, rfl, hm⟩ := isIn_nat hI
      have e0 : upF ns false (f + 1) (m : Int) = (m : Int) :: upF ns false f (ovr ns m) := by rw [upF, hI]; simp
      cases hc : cutOf ns m
      · have e : upF ns true (f + 1) (m : Int) = (m : Int) :: upF ns true f (ovr ns m) := by rw [upF, hI]; simp [hc]
        rw [e, e0]
        rcases ih (ovr ns m) with h | ⟨x, h1, h2⟩
        · left; simp [h]
        · right
          refine ⟨x, ?_, h2⟩
          cases hl : (upF ns true f (ovr ns m)).length with
          | zero => rw [List.length_eq_zero_iff.1 hl] at h1; simp at h1
          | succ n => rw [hl] at h1; simpa [hl] using h1
      · have e : upF ns true (f + 1) (m : Int) = [(m : Int)] := by rw [upF, hI]; simp [hc]
        right; rw [e]; exact ⟨m, rfl, by simp [cutF, hI, hc]⟩
theorem kids_once {ns : List Nd} {x o : Int} (hx : isIn ns.length x = true) (ho : overF ns x = o) (h0 : 0 ≤ o) (hon : isIn ns.length o = true) : (kidsF ns o).count x = 1 := by
  obtain ⟨m, rfl, hm⟩ := isIn_nat hx
  obtain ⟨j, rfl, hj⟩ := isIn_nat hon
  have e : ovr ns m = (j : Int) := by simpa [overF, hx] using ho
  have e2 : kidsF ns (j : Int) = kidsOf ns j := by unfold kidsF; rw [hon]; simp
  rw [e2]
  rcases count_nodup (kids_nodup ns j) (m : Int) with ⟨_, h⟩ | ⟨h, _⟩
  · exact absurd (mem_kids hm e) h
  · exact h
/-- All that the law asks of the two lists. -/
structure Asks (ns : List Nd) (path chain : List Int) : Prop where
  pos : 1 ≤ chain.length
  le : chain.length ≤ path.length
  pre : chain = path.take chain.length
  over : ∀ (k : Nat) (x : Int), path[k]? = some x → overF ns x = (path[k + 1]?).getD (-1)
  cut : ∀ (k : Nat) (x : Int), path[k]? = some x → k + 1 < chain.length → cutF ns x = false
  kids : ∀ (k : Nat) (x : Int), path[k]? = some x → 0 ≤ (path[k + 1]?).getD (-1) → (kidsF ns ((path[k + 1]?).getD (-1))).count x = 1
  last : chain.length = path.length ∨ ∃ x, chain[chain.length - 1]? = some x ∧ cutF ns x = true
theorem asks {ns : List Nd} (ht : Tree ns) {i : Nat} (hi : i < ns.length) : Asks ns (upF ns false ns.length (i : Int)) (upF ns true ns.length (i : Int)) := by
  obtain ⟨r, hr⟩ := up_pre (ns := ns) ns.length (i : Int)
  obtain ⟨n, hn⟩ : ∃ n, ns.length = n + 1 := ⟨ns.length - 1, by omega⟩
  have hpo := path_over ht ns.length (i : Int) (fun _ => by omega)
  have pos : 1 ≤ (upF ns true ns.length (i : Int)).length := by
    have : (upF ns true ns.length (i : Int))[0]? = some (i : Int) := by
      have h := up_head (c := true) (f := n) (isIn_of hi)
      rwa [← hn] at h
    have := (List.getElem?_eq_some_iff.1 this).1
    omega
  refine ⟨pos, by rw [hr]; simp, by rw [hr]; simp, fun k x h => (hpo k x h).2, ?_, ?_, chain_end _ _⟩
  · intro k x h hk
    rw [hr, List.getElem?_append_left (by omega)] at h
    exact chain_cut _ _ k x h hk
  · intro k x h h0
    obtain ⟨h1, h2⟩ := hpo k x h
    refine kids_once h1 h2 h0 ?_
    cases h3 : (upF ns false ns.length (i : Int))[k + 1]? with
    | none => rw [h3] at h0; simp at h0
    | some y => exact (hpo (k + 1) y h3).1
theorem ints_take {w : World} {g n cap : Nat} {l : List Int} (h : Ints w (.slice (some ⟨g, 0, none⟩) n cap) l) (m : Nat) (hm : m ≤ l.length) : Ints w (.slice (some ⟨g, 0, none⟩) m cap) (l.take m) := by
  obtain ⟨⟨h1, h2⟩, h3⟩ := h
  refine ⟨⟨by simp, ?_⟩, by simp; omega⟩
  rcases h2 with ⟨e, _⟩ | ⟨g', cap', cur, e, hb, hg, hc, hmx, hs, ht⟩
  · cases e
  · cases e
    refine .inr ⟨g, cap, cur, by simp [hm], hb, hg, by simp; omega, hmx, hs, ?_⟩
    have e2 : cur.toList.take (l.take m).length = (cur.toList.take (l.length * 1)).take m := by
      rw [List.take_take]; congr 1; simp
    rw [Nat.mul_one, e2, ht, ← List.map_take]
end Go.Proofs.Ytoijeehkjpcefaa

/- Rows of nodes as circles of links: plain facts on lists, no program in sight. -/
import Derived.Test.YtffehagmchcpkaaA3
namespace Go.Proofs.Ytffehagmchcpkaa
open Go.Proofs.Cmd

/-- Each stands beside the next one. -/
def Linked (nx pv : List Int) : List Nat → Prop
  | x :: y :: l => nx.getD x 0 = (y : Int) ∧ pv.getD y 0 = (x : Int) ∧ Linked nx pv (y :: l)
  | _ => True
theorem getD_set (l : List Int) (i j : Nat) (v : Int) (hi : i < l.length) : (l.set i v).getD j 0 = if j = i then v else l.getD j 0 := by
  by_cases e : j = i
  · subst e; simp [hi]
  · have : i ≠ j := fun h => e h.symm
    simp [e, this]
theorem getD_set_ne (l : List Int) (i j : Nat) (v : Int) (h : j ≠ i) : (l.set i v).getD j 0 = l.getD j 0 := by
  have : i ≠ j := fun e => h e.symm
  simp [this]
theorem linked_mid {nx pv : List Int} (p : List Nat) (x y : Nat) (q : List Nat) : Linked nx pv (p ++ x :: y :: q) ↔ Linked nx pv (p ++ [x]) ∧ nx.getD x 0 = (y : Int) ∧ pv.getD y 0 = (x : Int) ∧ Linked nx pv (y :: q) := by
  induction p with
  | nil => simp [Linked]
  | cons a p ih =>
    cases p with
    | nil => simp only [List.cons_append, List.nil_append, Linked, and_true]; constructor <;> (rintro ⟨h1, h2, h3⟩; first | exact ⟨⟨h1, h2⟩, h3⟩ | exact ⟨h1.1, h1.2, h2, h3⟩)
    | cons c p => simp only [List.cons_append, Linked] at ih ⊢; rw [ih]; simp only [and_assoc]
theorem linked_congr {nx pv nx' pv' : List Int} : ∀ (l : List Nat), Linked nx pv l → (∀ x ∈ l.dropLast, nx'.getD x 0 = nx.getD x 0) → (∀ y ∈ l.tail, pv'.getD y 0 = pv.getD y 0) → Linked nx' pv' l := by
  intro l
  induction l with
  | nil => intro _ _ _; trivial
  | cons x l ih =>
    cases l with
    | nil => intro _ _ _; trivial
    | cons y l =>
      intro h h1 h2
      obtain ⟨a, b, c⟩ := h
      refine ⟨by rw [h1 x (by simp)]; exact a, by rw [h2 y (by simp)]; exact b, ih c (fun z hz => h1 z (by simp [hz])) (fun z hz => h2 z (by simp at hz ⊢; exact .inr hz))⟩

/-- The arrays stand for the rows. -/
structure Rep (N : Nat) (rows : List (List Nat)) (s : St) : Prop where
  sz : Sz s N rows.length
  lt : ∀ (r : Nat) (l : List Nat), rows[r]? = some l → ∀ x ∈ l, x < N
  nodup : ∀ (r : Nat) (l : List Nat), rows[r]? = some l → l.Nodup
  link : ∀ (r : Nat) (l : List Nat), rows[r]? = some l → Linked s.nx s.pv ((N + r) :: l ++ [N + r])
  len : ∀ (r : Nat) (l : List Nat), rows[r]? = some l → s.lg.getD r 0 = (l.length : Int)
  inn : ∀ (n : Nat), n < N → ∀ (r : Nat) (l : List Nat), rows[r]? = some l → (s.inn.getD n 0 = (r : Int) ↔ n ∈ l)
  free : ∀ (n : Nat), n < N → s.inn.getD n 0 = -1 ∨ ∃ r : Nat, r < rows.length ∧ s.inn.getD n 0 = (r : Int)

variable {N : Nat} {rows : List (List Nat)} {s : St}
theorem Rep.disj (h : Rep N rows s) {r r' : Nat} {l l' : List Nat} (hr : rows[r]? = some l) (hr' : rows[r']? = some l') {x : Nat} (hx : x ∈ l) (hx' : x ∈ l') : r = r' := by
  have hN := h.lt r l hr x hx
  have a := (h.inn x hN r l hr).2 hx
  have b := (h.inn x hN r' l' hr').2 hx'
  omega
theorem Rep.rlt (_h : Rep N rows s) {r : Nat} {l : List Nat} (hr : rows[r]? = some l) : r < rows.length := (List.getElem?_eq_some_iff.1 hr).1
theorem nat_small : ∀ (n : Nat) (l : List Nat), l.Nodup → (∀ x ∈ l, x < n) → l.length ≤ n := by
  intro n
  induction n with
  | zero =>
    intro l _ h
    cases l with
    | nil => simp
    | cons x l => have := h x (by simp); omega
  | succ n ih =>
    intro l hn h
    have h1 := ih (l.filter (fun x => !decide (x = n))) (List.Pairwise.filter _ hn) (by
      intro x hx
      rw [List.mem_filter] at hx
      have := h x hx.1
      have h2 := hx.2
      simp at h2
      omega)
    have h2 := List.length_eq_countP_add_countP (p := fun x => decide (x = n)) (l := l)
    have h3 : l.countP (fun x => decide (x = n)) ≤ 1 := by
      have := List.nodup_iff_count.1 hn n
      rw [List.count] at this
      refine Nat.le_trans (Nat.le_of_eq ?_) this
      congr 1
    rw [← List.countP_eq_length_filter] at h1
    have h4 : l.countP (fun x => decide ¬ (decide (x = n)) = true) = l.countP (fun x => !decide (x = n)) := by congr 1; funext x; simp
    omega
theorem Rep.small (h : Rep N rows s) {r : Nat} {l : List Nat} (hr : rows[r]? = some l) : l.length ≤ N := nat_small N l (h.nodup r l hr) (h.lt r l hr)
theorem Rep.circ (h : Rep N rows s) {r : Nat} {l : List Nat} (hr : rows[r]? = some l) : ((N + r) :: l).Nodup ∧ (l ++ [N + r]).Nodup := by
  have hn : N + r ∉ l := fun hx => by have := h.lt r l hr _ hx; omega
  have h1 := h.nodup r l hr
  exact ⟨List.nodup_cons.2 ⟨hn, h1⟩, List.nodup_append.2 ⟨h1, by simp, by rintro a ha b hb rfl; simp at hb; subst hb; exact hn ha⟩⟩
/-- What a circle reads at a place. -/
theorem Rep.at_ (h : Rep N rows s) {r : Nat} {l : List Nat} (hr : rows[r]? = some l) {p q : List Nat} {x y : Nat} (e : (N + r) :: l ++ [N + r] = p ++ x :: y :: q) : s.nx.getD x 0 = (y : Int) ∧ s.pv.getD y 0 = (x : Int) := by
  have := h.link r l hr
  rw [e, linked_mid] at this
  exact ⟨this.2.1, this.2.2.1⟩

/-- Node m comes to stand between k and a. -/
theorem Rep.lay (h : Rep N rows s) {r m k a : Nat} {l1 l2 p q : List Nat} (hr : rows[r]? = some (l1 ++ l2)) (hm : m < N) (hf : s.inn.getD m 0 = -1) (hk : (N + r) :: l1 = p ++ [k]) (ha : l2 ++ [N + r] = a :: q) :
    s.nx.getD k 0 = (a : Int) ∧ k < N + rows.length ∧ a < N + rows.length ∧ Rep N (rows.set r (l1 ++ m :: l2)) (layS s r m k) := by
  have e : (N + r) :: (l1 ++ l2) ++ [N + r] = p ++ k :: a :: q := by
    rw [← List.cons_append, List.append_assoc, ha, hk]; simp
  have hlr := h.rlt hr
  obtain ⟨hnx, hpv⟩ := h.at_ hr e
  obtain ⟨c1, c2⟩ := h.circ hr
  have hml : m ∉ l1 ++ l2 := fun hx => by have := (h.inn m hm r _ hr).2 hx; omega
  have hkm : k = N + r ∨ k ∈ l1 := by
    have : k ∈ (N + r) :: l1 := by rw [hk]; simp
    simpa using this
  have ham : a ∈ l2 ∨ a = N + r := by
    have : a ∈ l2 ++ [N + r] := by rw [ha]; simp
    simpa using this
  have hkN : k < N + rows.length := by
    rcases hkm with e | e
    · omega
    · have := h.lt r _ hr k (by simp [e]); omega
  have haN : a < N + rows.length := by
    rcases ham with e | e
    · have := h.lt r _ hr a (by simp [e]); omega
    · omega
  have km : k ≠ m := by
    rintro rfl
    rcases hkm with e | e
    · omega
    · exact hml (by simp [e])
  have am : a ≠ m := by
    rintro rfl
    rcases ham with e | e
    · exact hml (by simp [e])
    · omega
  refine ⟨hnx, hkN, haN, ?_⟩
  have hsz := h.sz
  have hL : layS s r m k = { nx := (s.nx.set k (m : Int)).set m (a : Int), pv := (s.pv.set m (k : Int)).set a (m : Int), inn := s.inn.set m (r : Int), lg := s.lg.set r (s.lg.getD r 0 + 1) } := by
    unfold layS joinS; rw [hnx, Int.toNat_natCast]
  have gn : ∀ x, ((s.nx.set k (m : Int)).set m (a : Int)).getD x 0 = if x = m then (a : Int) else if x = k then (m : Int) else s.nx.getD x 0 := fun x => by
    rw [getD_set _ _ _ _ (by simp [hsz.nx]; omega)]
    split
    · rfl
    · rw [getD_set _ _ _ _ (by rw [hsz.nx]; exact hkN)]
  have gp : ∀ x, ((s.pv.set m (k : Int)).set a (m : Int)).getD x 0 = if x = a then (m : Int) else if x = m then (k : Int) else s.pv.getD x 0 := fun x => by
    rw [getD_set _ _ _ _ (by simp [hsz.pv]; exact haN)]
    split
    · rfl
    · rw [getD_set _ _ _ _ (by rw [hsz.pv]; omega)]
  rw [hL]
  refine ⟨⟨by simp [hsz.nx], by simp [hsz.pv], by simp [hsz.inn], by simp [hsz.lg], hsz.n, by simpa using hsz.r⟩, ?_, ?_, ?_, ?_, ?_, ?_⟩
  · intro r' l' h' x hx
    by_cases er : r' = r
    · subst er
      rw [List.getElem?_set_self hlr] at h'; cases h'
      simp only [List.mem_append, List.mem_cons] at hx
      rcases hx with hx | rfl | hx
      · exact h.lt _ _ hr x (by simp [hx])
      · exact hm
      · exact h.lt _ _ hr x (by simp [hx])
    · rw [List.getElem?_set_ne (Ne.symm er)] at h'; exact h.lt r' l' h' x hx
  · intro r' l' h'
    by_cases er : r' = r
    · subst er
      rw [List.getElem?_set_self hlr] at h'; cases h'
      have h0 := h.nodup _ _ hr
      have : (l1 ++ m :: l2).Perm (m :: (l1 ++ l2)) := List.perm_middle
      exact this.nodup_iff.2 (List.nodup_cons.2 ⟨hml, h0⟩)
    · rw [List.getElem?_set_ne (Ne.symm er)] at h'; exact h.nodup r' l' h'
  · intro r' l' h'
    by_cases er : r' = r
    · subst er
      rw [List.getElem?_set_self hlr] at h'; cases h'
      have e2 : (N + r') :: (l1 ++ m :: l2) ++ [N + r'] = p ++ k :: m :: a :: q := by
        have e3 : (N + r') :: (l1 ++ m :: l2) ++ [N + r'] = ((N + r') :: l1) ++ m :: (l2 ++ [N + r']) := by simp
        rw [e3, ha, hk]; simp
      have h0 := h.link _ _ hr
      rw [e, linked_mid] at h0
      obtain ⟨b1, _, _, b4⟩ := h0
      rw [e2, linked_mid]
      have nd1 : (p ++ [k]).Nodup := by rw [← hk]; exact (List.nodup_append.1 (by rw [← List.cons_append] at c1; exact c1)).1
      have nd2 : (a :: q).Nodup := by rw [← ha]; rw [List.append_assoc] at c2; exact (List.nodup_append.1 c2).2.1
      have cross1 : ∀ x ∈ l1, x ≠ a := fun x hx => by
        rw [List.append_assoc] at c2
        exact (List.nodup_append.1 c2).2.2 x hx a (by rw [ha]; simp)
      have cross2 : ∀ x ∈ l2, x ≠ k := fun x hx e => by
        rw [← List.cons_append] at c1
        exact (List.nodup_append.1 c1).2.2 k (by rw [hk]; simp) x hx e.symm
      refine ⟨linked_congr _ b1 ?_ ?_, ?_, ?_, ?_, ?_, linked_congr _ b4 ?_ ?_⟩
      · intro x hx
        have hx : x ∈ p := by simpa using hx
        have h1 : x ≠ k := fun e => (List.nodup_append.1 nd1).2.2 x hx k (by simp) e
        have h2 : x ≠ m := by
          rintro rfl
          have : x ∈ (N + r') :: l1 := by rw [hk]; simp [hx]
          simp at this
          rcases this with e | e
          · omega
          · exact hml (by simp [e])
        rw [gn, if_neg h2, if_neg h1]
      · intro y hy
        have hy : y ∈ l1 := by rw [← hk] at hy; simpa using hy
        have h2 : y ≠ m := fun e => hml (by rw [← e]; simp [hy])
        rw [gp, if_neg (cross1 y hy), if_neg h2]
      · rw [gn, if_neg km, if_pos rfl]
      · rw [gp, if_neg (Ne.symm am), if_pos rfl]
      · rw [gn, if_pos rfl]
      · rw [gp, if_pos rfl]
      · intro x hx
        have hx : x ∈ l2 := by rw [← ha] at hx; simpa using hx
        have h2 : x ≠ m := fun e => hml (by rw [← e]; simp [hx])
        rw [gn, if_neg h2, if_neg (cross2 x hx)]
      · intro y hy
        have hy : y ∈ q := by simpa using hy
        have h1 : y ≠ a := fun e => (List.nodup_cons.1 nd2).1 (e ▸ hy)
        have h2 : y ≠ m := by
          rintro rfl
          have : y ∈ l2 ++ [N + r'] := by rw [ha]; simp [hy]
          simp at this
          rcases this with e | e
          · exact hml (by simp [e])
          · omega
        rw [gp, if_neg h1, if_neg h2]
    · rw [List.getElem?_set_ne (Ne.symm er)] at h'
      have far : ∀ x, x ∈ (N + r') :: l' ++ [N + r'] → x ≠ k ∧ x ≠ m ∧ x ≠ a := by
        intro x hx
        have hx : x = N + r' ∨ x ∈ l' := by
          simp only [List.cons_append, List.mem_cons, List.mem_append, List.not_mem_nil, or_false] at hx
          rcases hx with e | e | e
          · exact .inl e
          · exact .inr e
          · exact .inl e
        have inrow : ∀ z, z ∈ l1 ++ l2 → x ≠ z := by
          rintro z hz rfl
          rcases hx with e | e
          · have := h.lt r _ hr x hz; omega
          · exact er (h.disj h' hr e hz)
        refine ⟨?_, ?_, ?_⟩
        · rintro rfl
          rcases hkm with e | e
          · rcases hx with e' | e'
            · omega
            · have := h.lt r' l' h' x e'; omega
          · exact inrow x (by simp [e]) rfl
        · rintro rfl
          rcases hx with e | e
          · omega
          · have := (h.inn x hm r' l' h').2 e; omega
        · rintro rfl
          rcases ham with e | e
          · exact inrow x (by simp [e]) rfl
          · rcases hx with e' | e'
            · omega
            · have := h.lt r' l' h' x e'; omega
      refine linked_congr _ (h.link r' l' h') ?_ ?_
      · intro x hx
        obtain ⟨f1, f2, f3⟩ := far x (List.dropLast_subset _ hx)
        rw [gn, if_neg f2, if_neg f1]
      · intro y hy
        obtain ⟨f1, f2, f3⟩ := far y (List.mem_of_mem_tail hy)
        rw [gp, if_neg f3, if_neg f2]
  · intro r' l' h'
    by_cases er : r' = r
    · subst er
      rw [List.getElem?_set_self hlr] at h'; cases h'
      rw [getD_set _ _ _ _ (by rw [hsz.lg]; exact hlr), if_pos rfl, h.len _ _ hr]
      simp; omega
    · rw [List.getElem?_set_ne (Ne.symm er)] at h'
      rw [getD_set_ne _ _ _ _ er]; exact h.len r' l' h'
  · intro n hn r' l' h'
    rw [getD_set _ _ _ _ (by rw [hsz.inn]; exact hm)]
    by_cases er : r' = r
    · subst er
      rw [List.getElem?_set_self hlr] at h'; cases h'
      by_cases en : n = m
      · subst en; simp
      · rw [if_neg en, h.inn n hn _ _ hr]; simp [en]
    · rw [List.getElem?_set_ne (Ne.symm er)] at h'
      by_cases en : n = m
      · subst en
        rw [if_pos rfl]
        constructor
        · intro e; omega
        · intro hx; have := (h.inn n hn r' l' h').2 hx; omega
      · rw [if_neg en]; exact h.inn n hn r' l' h'
  · intro n hn
    rw [getD_set _ _ _ _ (by rw [hsz.inn]; exact hm)]
    by_cases en : n = m
    · rw [if_pos en]; right; exact ⟨r, by simpa using hlr, rfl⟩
    · rw [if_neg en]; simpa using h.free n hn
end Go.Proofs.Ytffehagmchcpkaa

/- Trees in memory: the program's (rows of over, cut, kids), the reference's (rows of over, cut). -/
import Derived.Test.YtoijeehkjpcefaaK6
import Derived.Test.YtoijeehkjpcefaaK5
import Derived.Test.YtoijeehkjpcefaaChecked
import Derived.Maps.AppendAt
import Derived.Deep.AppendLies
import Derived.StillTailTactics
namespace Go.Proofs.Ytoijeehkjpcefaa
open Go.RowKit Go.Proofs.Cmd

/-- A node's over, whether it is cut, and the slice of its kids. -/
abbrev Row := Int × Bool × Value
abbrev Nd := Int × Bool
def rowV (r : Row) : List Value := [.int .i64 r.1, .bool r.2.1, r.2.2]
def flat (rs : List Row) : List Value := rs.flatMap rowV
def nds (rs : List Row) : List Nd := rs.map fun r => (r.1, r.2.1)
def ndV (r : Nd) : List Value := [.int .i64 r.1, .bool r.2]
def flat2 (ns : List Nd) : List Value := ns.flatMap ndV
def ovr (ns : List Nd) (i : Nat) : Int := (ns.getD i (-1, false)).1
def cutOf (ns : List Nd) (i : Nat) : Bool := (ns.getD i (-1, false)).2
/-- Who stands below i, among the first k. -/
def kidsTo (ns : List Nd) (i : Int) (k : Nat) : List Int := ((List.range k).filter fun j => ovr ns j == i).map (fun j : Nat => (j : Int))
def kidsOf (ns : List Nd) (i : Nat) : List Int := kidsTo ns i ns.length

theorem flat_len (rs : List Row) : (flat rs).length = rs.length * 3 := by
  induction rs with
  | nil => rfl
  | cons r rs ih => simp only [flat, List.flatMap_cons, List.length_append, List.length_cons] at *; rw [ih]; simp [rowV]; omega
theorem flat_get (rs : List Row) : ∀ (i : Nat) (r : Row), rs[i]? = some r → ∀ j, j < 3 → (flat rs)[i * 3 + j]? = (rowV r)[j]? := by
  induction rs with
  | nil => intro i r h; simp at h
  | cons q rs ih =>
    intro i r h j hj
    simp only [flat, List.flatMap_cons] at *
    cases i with
    | zero => simp at h; subst h; rw [List.getElem?_append_left (by simp [rowV]; omega)]; simp
    | succ i =>
      rw [List.getElem?_append_right (by simp [rowV]; omega)]
      have := ih i r (by simpa using h) j hj
      rw [← this]; congr 1; simp [rowV]; omega
theorem flat_set (rs : List Row) : ∀ (i : Nat) (r : Row) (v : Value), rs[i]? = some r → (flat rs).set (i * 3 + 2) v = flat (rs.set i (r.1, r.2.1, v)) := by
  induction rs with
  | nil => intro i r v h; simp at h
  | cons q rs ih =>
    intro i r v h
    simp only [flat, List.flatMap_cons] at *
    cases i with
    | zero => simp at h; subst h; simp [rowV]
    | succ i =>
      have := ih i r v (by simpa using h)
      rw [List.set_cons_succ, List.flatMap_cons, ← this, List.set_append_right _ _ (by simp [rowV]; omega)]
      congr 2
      simp [rowV]; omega
theorem flat_append (rs : List Row) (r : Row) : flat (rs ++ [r]) = flat rs ++ rowV r := by simp [flat]
theorem flat2_len (ns : List Nd) : (flat2 ns).length = ns.length * 2 := by
  induction ns with
  | nil => rfl
  | cons r rs ih => simp only [flat2, List.flatMap_cons, List.length_append, List.length_cons] at *; rw [ih]; simp [ndV]; omega
theorem flat2_get (ns : List Nd) : ∀ (i : Nat) (r : Nd), ns[i]? = some r → ∀ j, j < 2 → (flat2 ns)[i * 2 + j]? = (ndV r)[j]? := by
  induction ns with
  | nil => intro i r h; simp at h
  | cons q rs ih =>
    intro i r h j hj
    simp only [flat2, List.flatMap_cons] at *
    cases i with
    | zero => simp at h; subst h; rw [List.getElem?_append_left (by simp [ndV]; omega)]; simp
    | succ i =>
      rw [List.getElem?_append_right (by simp [ndV]; omega)]
      have := ih i r (by simpa using h) j hj
      rw [← this]; congr 1; simp [ndV]; omega
theorem flat2_append (ns : List Nd) (r : Nd) : flat2 (ns ++ [r]) = flat2 ns ++ ndV r := by simp [flat2]

/-- A tree of the program at block p, from block B on. -/
structure Tr (B : Nat) (w : World) (p : Nat) (sv : Value) (rs : List Row) (most : Int) : Prop where
  head : w.heap[p]? = some (.cells #[sv, .int .i64 most] 54 (0, 0))
  base : B ≤ p
  rows : w.ownsRow B 56 3 sv rs.length (flat rs)
  kids : ∀ (i : Nat) (r : Row), rs[i]? = some r → w.ownsRow B 3 1 r.2.2 (kidsOf (nds rs) i).length ((kidsOf (nds rs) i).map (Value.int .i64))
  sep : ∀ (i j : Nat) (r q : Row) (k : Nat), rs[i]? = some r → rs[j]? = some q → r.2.2.ownBlock = some k → q.2.2.ownBlock = some k → i = j
  small : rs.length ≤ 1000
  tree : ∀ (i : Nat) (r : Row), rs[i]? = some r → -1 ≤ r.1 ∧ r.1 < i
/-- A tree of the reference at block q. -/
structure Rf (B : Nat) (w : World) (q : Nat) (rv : Value) (ns : List Nd) (most : Int) : Prop where
  head : w.heap[q]? = some (.cells #[rv, .int .i64 most] 39 (0, 0))
  base : B ≤ q
  rows : w.ownsRow B 43 2 rv ns.length (flat2 ns)
  small : ns.length ≤ 1000
  tree : ∀ (i : Nat) (r : Nd), ns[i]? = some r → -1 ≤ r.1 ∧ r.1 < i

/-- The blocks of a tree. -/
def Tr.blk (p : Nat) (sv : Value) (rs : List Row) (k : Nat) : Prop := k = p ∨ sv.ownBlock = some k ∨ ∃ (i : Nat) (r : Row), rs[i]? = some r ∧ r.2.2.ownBlock = some k
theorem Tr.upd {B : Nat} {w w' : World} {p : Nat} {sv : Value} {rs : List Row} {most : Int} {S : Nat → Prop} (h : Tr B w p sv rs most) (u : Upd S w w') (hs : ∀ k, Tr.blk p sv rs k → ¬ S k) : Tr B w' p sv rs most :=
  ⟨u.heap h.head (hs _ (.inl rfl)), h.base, owns_upd h.rows u (fun k hk => hs k (.inr (.inl hk))), fun i r hr => owns_upd (h.kids i r hr) u (fun k hk => hs k (.inr (.inr ⟨i, r, hr, hk⟩))), h.sep, h.small, h.tree⟩
theorem Tr.new {B : Nat} {w w' : World} {p : Nat} {sv : Value} {rs : List Row} {most : Int} (h : Tr B w p sv rs most) (u : New w w') : Tr B w' p sv rs most := h.upd u (fun _ _ x => x)
theorem Rf.upd {B : Nat} {w w' : World} {q : Nat} {rv : Value} {ns : List Nd} {most : Int} {S : Nat → Prop} (h : Rf B w q rv ns most) (u : Upd S w w') (h1 : ¬ S q) (h2 : ∀ k, rv.ownBlock = some k → ¬ S k) : Rf B w' q rv ns most :=
  ⟨u.heap h.head h1, h.base, owns_upd h.rows u h2, h.small, h.tree⟩
theorem Rf.new {B : Nat} {w w' : World} {q : Nat} {rv : Value} {ns : List Nd} {most : Int} (h : Rf B w q rv ns most) (u : New w w') : Rf B w' q rv ns most := h.upd u (fun x => x) (fun _ _ x => x)

/-- What the walk reads of node i. -/
theorem Tr.at_ {B : Nat} {w : World} {p g cap : Nat} {rs : List Row} {most : Int} (h : Tr B w p (.slice (some ⟨g, 0, none⟩) rs.length cap) rs most) {i : Nat} {r : Row} (hr : rs[i]? = some r) (j : Nat) (hj : j < 3) :
    w.cell? ⟨g, i * 3 + j, none⟩ = (rowV r)[j]? := by
  have hi := (List.getElem?_eq_some_iff.1 hr).1
  rw [owns_cell h.rows (by omega), flat_get rs i r hr j hj]
theorem Rf.at_ {B : Nat} {w : World} {p g cap : Nat} {ns : List Nd} {most : Int} (h : Rf B w p (.slice (some ⟨g, 0, none⟩) ns.length cap) ns most) {i : Nat} {r : Nd} (hr : ns[i]? = some r) (j : Nat) (hj : j < 2) :
    w.cell? ⟨g, i * 2 + j, none⟩ = (ndV r)[j]? := by
  have hi := (List.getElem?_eq_some_iff.1 hr).1
  rw [owns_cell h.rows (by omega), flat2_get ns i r hr j hj]
end Go.Proofs.Ytoijeehkjpcefaa

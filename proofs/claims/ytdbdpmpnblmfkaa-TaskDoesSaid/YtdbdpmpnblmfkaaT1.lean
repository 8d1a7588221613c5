import Derived.Test.YtdbdpmpnblmfkaaK
import Derived.Test.YtdbdpmpnblmfkaaK2
import Derived.Test.YtdbdpmpnblmfkaaE
import Derived.Test.YtdbdpmpnblmfkaaChecked
namespace Go.Proofs.Ytdbdpmpnblmfkaa
open Go.RowKit Go.Proofs.Cmd

/-- The numbers of a task: the k-th seventeen of xs. -/
def tk (xs : List Int) (k : Nat) : List Int := (xs.drop (17 * k)).take 17

/-- A table at block p, of types ty (the table's) and e (a task's), from block B on: n tasks, their numbers xs, the bound most. -/
structure Tab (ty e : TypeId) (B : Nat) (w : World) (p : Nat) (sv : Value) (n : Nat) (xs : List Int) (most : Int) : Prop where
  head : w.heap[p]? = some (.cells #[sv, .int .i64 most] ty (0, 0))
  base : B ≤ p
  rows : w.ownsRow B e 17 sv n (xs.map (Value.int .i64))
  small : n ≤ 1000
  /-- the two blocks are two -/
  two : sv.ownBlock ≠ some p

theorem Tab.len {ty e : TypeId} {B : Nat} {w : World} {p : Nat} {sv : Value} {n : Nat} {xs : List Int} {most : Int} (h : Tab ty e B w p sv n xs most) : xs.length = 17 * n := by
  have := h.rows.1; simp at this; omega
theorem Tab.shape {ty e : TypeId} {B : Nat} {w : World} {p : Nat} {sv : Value} {n : Nat} {xs : List Int} {most : Int} (h : Tab ty e B w p sv n xs most) :
    ∃ a cap, sv = .slice a n cap ∧ n ≤ cap := by
  rcases h.rows.2 with ⟨rfl, h0⟩ | ⟨g, cap, cur, rfl, _, _, hc, _⟩
  · exact ⟨none, 0, by rw [h0], by omega⟩
  · exact ⟨_, cap, rfl, hc⟩
/-- The table has a task: its block, whole. -/
theorem Tab.block {ty e : TypeId} {B : Nat} {w : World} {p : Nat} {sv : Value} {n : Nat} {xs : List Int} {most : Int} (h : Tab ty e B w p sv n xs most) (hn : 0 < n) :
    ∃ g cap cur, sv = .slice (some ⟨g, 0, none⟩) n cap ∧ B ≤ g ∧ g ≠ p ∧ w.heap[g]? = some (.cells cur e (0, 0)) ∧ n ≤ cap ∧ cap ≤ maxLen ∧ cur.size = cap * 17 ∧ cur.toList.take (n * 17) = xs.map (Value.int .i64) := by
  rcases h.rows.2 with ⟨rfl, h0⟩ | ⟨g, cap, cur, rfl, hb, hg, hc, hm, hs, ht⟩
  · omega
  · exact ⟨g, cap, cur, rfl, hb, fun e => h.two (by simp [Value.ownBlock, e]), hg, hc, hm, hs, ht⟩
theorem tk_len {xs : List Int} {n k : Nat} (h : xs.length = 17 * n) (hk : k < n) : (tk xs k).length = 17 := by
  simp [tk]; omega
theorem Tab.range {ty e : TypeId} {B : Nat} {w : World} {p : Nat} {n cap g : Nat} {xs : List Int} {most : Int} {cur : Array Value} (h : Tab ty e B w p (.slice (.some ⟨g, 0, none⟩) n cap) n xs most)
    (hg : w.heap[g]? = .some (.cells cur e (0, 0))) (ht : cur.toList.take (n * 17) = xs.map (Value.int .i64)) {k : Nat} (hk : k < n) :
    w.rangeAt g (17 * k) ((tk xs k).map (Value.int .i64)) := by
  intro j v hv
  have hl := h.len
  have hj : j < 17 := by
    have := (List.getElem?_eq_some_iff.1 hv).1
    simp [tk] at this; omega
  rw [cell_of hg]
  have e : (cur.toList.take (n * 17))[17 * k + j]? = (xs.map (Value.int .i64))[17 * k + j]? := by rw [ht]
  rw [List.getElem?_take_of_lt (by omega)] at e
  simp only [Array.getElem?_toList] at e
  rw [e, ← hv]
  simp [tk, List.getElem?_take_of_lt hj]

theorem of_in (B p g cap n : Nat) (xs : List Int) (most : Int) (w : World) (h : Tab 65 53 B w p (.slice (some ⟨g, 0, none⟩) n cap) n xs most) (i : Int) (h0 : 0 ≤ i) (hi : i < n) :
    Calls Try.prog 34 #[.pointer (some ⟨p, 0, none⟩), .int .i64 i] w fun e w' => e = .returned (.pointer (some ⟨g, 17 * i.toNat, none⟩)) ∧ w = w' := by
  obtain ⟨k, rfl⟩ := Int.eq_ofNat_of_zero_le h0
  have hk : k < n := by omega
  obtain ⟨_, _, e1, hc⟩ := h.shape
  cases e1
  have hs := h.small
  have h1 := cell_of h.head 0
  simp only [List.getElem?_toArray, List.getElem?_cons_zero] at h1
  clear h
  go_enter Try.func34, Try.ntmps34
  go_wp2
  go_ret
  exact ⟨by simp, rfl⟩
theorem of_out (B p n : Nat) (sv : Value) (xs : List Int) (most : Int) (w : World) (h : Tab 65 53 B w p sv n xs most) (i : Int) (hi : i < 0 ∨ n ≤ i) :
    Calls Try.prog 34 #[.pointer (some ⟨p, 0, none⟩), .int .i64 i] w fun e w' => e = .returned (.pointer none) ∧ w = w' := by
  obtain ⟨a, cap, rfl, hc⟩ := h.shape
  have hs := h.small
  have h1 := cell_of h.head 0
  simp only [List.getElem?_toArray, List.getElem?_cons_zero] at h1
  clear h
  rcases hi with hi | hi
  · go_enter Try.func34, Try.ntmps34
    go_wp2
    go_ret
    exact ⟨rfl, rfl⟩
  · have : ¬ i < 0 := by omega
    go_enter Try.func34, Try.ntmps34
    go_wp2
    go_ret
    exact ⟨rfl, rfl⟩
end Go.Proofs.Ytdbdpmpnblmfkaa

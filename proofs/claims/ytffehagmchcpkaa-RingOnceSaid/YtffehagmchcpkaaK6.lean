/- More on frames: new blocks, rows by their types, lists of numbers. Over no program. -/
import Derived.Test.YtffehagmchcpkaaK
import Derived.Test.YtffehagmchcpkaaK2
import Derived.Test.YtffehagmchcpkaaK3
import Derived.Test.YtffehagmchcpkaaK4
namespace Go.Proofs.Cmd
open Go.RowKit

theorem pre_new {S : Nat → Prop} {a b c : World} (h : New a b) (k : Upd S b c) : Upd S a c := (New.upd h S).trans k
theorem heap_at {w : World} {k : Nat} (o : Obj) (hk : k = w.heap.size) : (w.alloc o).heap[k]? = some o := by subst hk; exact heap_alloc_new w o
theorem new_alloc (w : World) (o : Obj) : New w (w.alloc o) := (Upd.refl _ _).alloc o
theorem box_cell {w w1 : World} {cs : Array Value} {t : TypeId} (h : New (w.alloc (.cells cs t)) w1) (i : Nat) : w1.cell? ⟨w.heap.size, i, none⟩ = cs[i]? := by
  rw [h.cell (by simp)]; simp
theorem Upd.setAt {S : Nat → Prop} {a w : World} (h : Upd S a w) {g : Nat} (hg : S g ∨ a.heap.size ≤ g) (o : Nat) (u : Value) : Upd S a (w.setCell ⟨g, o, none⟩ u) := h.setCell hg u
theorem Upd.orr {S : Nat → Prop} {w w' : World} (p : Nat) (h : Upd S w w') : Upd (fun k => k = p ∨ S k) w w' := h.mono (fun _ _ e => .inr e)
theorem new_step {S : Nat → Prop} {w a b : World} (N : New w a) (u : Upd S a b) (hS : ∀ k, S k → w.heap.size ≤ k) : New w b :=
  N.then u (fun i hi x => absurd (hS i x) (by omega))
/-- A row that is written in one place. -/
theorem owns_set {w : World} {B : Nat} {e : TypeId} {size : Nat} {g n cap : Nat} {xs : List Value} (h : w.ownsRow B e size (.slice (some ⟨g, 0, none⟩) n cap) n xs) (j : Nat) (v : Value) :
    (w.setCell ⟨g, j, none⟩ v).ownsRow B e size (.slice (some ⟨g, 0, none⟩) n cap) n (xs.set j v) := by
  refine ⟨by simpa using h.1, ?_⟩
  rcases h.2 with ⟨e1, _⟩ | ⟨g', cap', cur, e1, hb, hg, hc, hm, hs, ht⟩
  · cases e1
  · cases e1
    refine .inr ⟨g, cap, cur.setIfInBounds j v, rfl, hb, heap_set_same hg _ _, hc, hm, by simpa using hs, ?_⟩
    rw [← ht]; simp [List.take_set]
theorem owns_type {w : World} {B : Nat} {e : TypeId} {size : Nat} {v : Value} {n : Nat} {xs : List Value} (h : w.ownsRow B e size v n xs) {k : Nat} (hk : v.ownBlock = some k) : ∃ cur, w.heap[k]? = some (.cells cur e (0, 0)) := by
  rcases h.2 with ⟨rfl, _⟩ | ⟨g, cap, cur, rfl, _, hg, _⟩
  · simp [Value.ownBlock] at hk
  · simp [Value.ownBlock] at hk; subst hk; exact ⟨cur, hg⟩
theorem range_blk {w : World} {b : Nat} {cs : Array Value} {t : TypeId} {f : Nat × Nat} (h : w.heap[b]? = some (.cells cs t f)) : w.rangeAt b 0 cs.toList := by
  intro j v hv
  rw [Nat.zero_add, cell_of h]
  simpa using hv
theorem range_new' {w w' : World} {b o : Nat} {cs : List Value} (h : w.rangeAt b o cs) (hb : b < w.heap.size) (hn : New w w') : w'.rangeAt b o cs := by
  intro j v hv
  rw [New.cell hn (p := ⟨b, o + j, none⟩) hb]
  exact h j v hv
theorem ints_lit (w : World) (l : List Int) (k : Nat) (hk : k = w.heap.size) (h : l.length ≤ 1000) : Ints (w.alloc (.cells (l.map (Value.int .i64)).toArray 3)) (.slice (some ⟨k, 0, none⟩) l.length l.length) l := by
  subst hk
  refine ⟨?_, by omega⟩
  have := World.ownsRow_lit (base := 0) (e := 3) (size := 1) w (l.map (Value.int .i64)).toArray l.length (Nat.zero_le _) (by unfold maxLen; omega) (by simp)
  simpa using this
theorem ints_upd {S : Nat → Prop} {w w' : World} {v : Value} {l : List Int} (h : Ints w v l) (u : Upd S w w') (hs : ∀ k, v.ownBlock = some k → ¬ S k) : Ints w' v l := ⟨owns_upd h.1 u hs, h.2⟩
/-- The cells of a row. -/
theorem owns_cell {w : World} {B : Nat} {e : TypeId} {size : Nat} {g n cap : Nat} {xs : List Value} (h : w.ownsRow B e size (.slice (some ⟨g, 0, none⟩) n cap) n xs) {j : Nat} (hj : j < n * size) : w.cell? ⟨g, j, none⟩ = xs[j]? := h.cellAt j hj
/-- A row of at least one element. -/
theorem owns_some {w : World} {B : Nat} {e : TypeId} {size : Nat} {v : Value} {n : Nat} {xs : List Value} (h : w.ownsRow B e size v n xs) (hn : 0 < n) : ∃ g cap, v = .slice (some ⟨g, 0, none⟩) n cap ∧ B ≤ g ∧ n ≤ cap ∧ g < w.heap.size := by
  rcases h.2 with ⟨_, h0⟩ | ⟨g, cap, cur, rfl, hb, hg, hc, _⟩
  · omega
  · exact ⟨g, cap, rfl, hb, hc, lt_of hg⟩
theorem owns_shape {w : World} {B : Nat} {e : TypeId} {size : Nat} {v : Value} {n : Nat} {xs : List Value} (h : w.ownsRow B e size v n xs) : ∃ a cap, v = .slice a n cap ∧ n ≤ cap := by
  rcases h.2 with ⟨rfl, h0⟩ | ⟨g, cap, cur, rfl, _, _, hc, _⟩
  · exact ⟨none, 0, by rw [h0], by omega⟩
  · exact ⟨_, cap, rfl, hc⟩
end Go.Proofs.Cmd

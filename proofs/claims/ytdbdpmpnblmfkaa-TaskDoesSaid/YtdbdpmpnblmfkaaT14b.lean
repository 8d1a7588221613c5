import Derived.Test.YtdbdpmpnblmfkaaT14
namespace Go.Proofs.Ytdbdpmpnblmfkaa
open Go.RowKit Go.Proofs.Cmd
theorem range_blk {w : World} {b : Nat} {cs : Array Value} {t : TypeId} {f : Nat × Nat} (h : w.heap[b]? = some (.cells cs t f)) : w.rangeAt b 0 cs.toList := by
  intro j v hv
  rw [Nat.zero_add, cell_of h]
  simpa using hv
theorem ints_lit (w : World) (l : List Int) (h : l.length ≤ 1000) : Ints (w.alloc (.cells (l.map (Value.int .i64)).toArray 3)) (.slice (some ⟨w.heap.size, 0, none⟩) l.length l.length) l := by
  refine ⟨?_, by omega⟩
  have := World.ownsRow_lit (base := 0) (e := 3) (size := 1) w (l.map (Value.int .i64)).toArray l.length (Nat.zero_le _) (by unfold maxLen; omega) (by simp)
  simpa using this
theorem ints_lit' (w : World) (l : List Int) (k : Nat) (hk : k = w.heap.size) (h : l.length ≤ 1000) : Ints (w.alloc (.cells (l.map (Value.int .i64)).toArray 3)) (.slice (some ⟨k, 0, none⟩) l.length l.length) l := by
  subst hk; exact ints_lit w l h
theorem owns_type {w : World} {B : Nat} {e : TypeId} {size : Nat} {v : Value} {n : Nat} {xs : List Value} (h : w.ownsRow B e size v n xs) {k : Nat} (hk : v.ownBlock = some k) : ∃ cur, w.heap[k]? = some (.cells cur e (0, 0)) := by
  rcases h.2 with ⟨rfl, _⟩ | ⟨g, cap, cur, rfl, _, hg, _⟩
  · simp [Value.ownBlock] at hk
  · simp [Value.ownBlock] at hk; subst hk; exact ⟨cur, hg⟩
theorem Ints.keep {ty e : TypeId} {B : Nat} {w w' : World} {p : Nat} {sv v : Value} {n : Nat} {xs l : List Int} {most : Int} (hi : Ints w v l) (h : Tab ty e B w p sv n xs most) (he : e ≠ 3)
    (u : Upd (fun k => sv.ownBlock = some k) w w') : Ints w' v l :=
  ⟨owns_upd hi.1 u (fun k hk hs => by
    obtain ⟨c1, h1⟩ := owns_type hi.1 hk
    obtain ⟨c2, h2⟩ := owns_type h.rows hs
    rw [h1] at h2; cases h2; exact he rfl), hi.2⟩
theorem new_step {S : Nat → Prop} {w a b : World} (N : New w a) (u : Upd S a b) (hS : ∀ k, S k → w.heap.size ≤ k) : New w b :=
  N.then u (fun i hi x => absurd (hS i x) (by omega))
theorem Tab.own_ge {ty e : TypeId} {B : Nat} {w : World} {p : Nat} {sv : Value} {n : Nat} {xs : List Int} {most : Int} (h : Tab ty e B w p sv n xs most) : ∀ k, sv.ownBlock = .some k → B ≤ k :=
  fun k hk => (h.rows.lt k hk).1
theorem Tab.own_ge' {ty e : TypeId} {B : Nat} {w : World} {p : Nat} {sv : Value} {n : Nat} {xs : List Int} {most : Int} (h : Tab ty e B w p sv n xs most) : ∀ k, (k = p ∨ sv.ownBlock = .some k) → B ≤ k := by
  rintro k (rfl | hk)
  · exact h.base
  · exact h.own_ge k hk
end Go.Proofs.Ytdbdpmpnblmfkaa

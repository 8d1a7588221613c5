/- A struct stored whole into a block that was just made for it; read whole out of a block known whole. Over any program. -/
import Derived.WalkKit
import Derived.Deep.MidRow
namespace Go.Proofs.Cmd
open Go.RowKit
variable {P : Program}

theorem setCells_alloc (w : World) (t : TypeId) (vs : List Value) : ∀ (pre old : List Value), old.length = vs.length →
    (w.alloc (.cells (pre ++ old).toArray t)).setCells w.heap.size pre.length vs = w.alloc (.cells (pre ++ vs).toArray t) := by
  induction vs with
  | nil => intro pre old h; have : old = [] := by simpa using h
           subst this; simp [World.setCells]
  | cons v vs ih =>
    intro pre old h
    match old, h with
    | x :: old, h =>
      rw [World.setCells, World.setCell_alloc_at _ _ _ _ _ rfl]
      have e : ((pre ++ x :: old).toArray.setIfInBounds pre.length v) = ((pre ++ [v]) ++ old).toArray := by
        simp
      rw [e]
      have := ih (pre ++ [v]) old (by simpa using h)
      rw [List.length_append] at this
      simpa using this
theorem setCells_new (w : World) (t : TypeId) (z cs : Array Value) (h : z.size = cs.size) :
    (w.alloc (.cells z t)).setCells w.heap.size 0 cs.toList = w.alloc (.cells cs t) := by
  have := setCells_alloc w t cs.toList [] z.toList (by simpa using h)
  simpa using this

/-- The store of a whole struct of int64 into the newest block, which was made for it. -/
theorem wpList_stnew {ops : Array Oper} {Q : Exit → Act → World → Prop} {a : Act} {w : World} {rest : List Oper} {dst : Option Tmp} {ty T : TypeId} {x y : Operand} {pos : String} {after : Array Edge} {guard : Option (Nat × Bool)}
    (b : Nat) (z : Array Value) (t : TypeId) (r : List Int)
    (hw : Region.wanted ⟨dst, .store ty x y, T, pos, after, guard⟩ (yielded ops a.tmps) = true) (hb : b = w.heap.size) (hx : a.eval x = .pointer (some ⟨b, 0, none⟩)) (hy : a.eval y = .agg (r.map (Value.int .i64)).toArray)
    (hz : z.size = r.length) (hi : (P.info? ty).map (·.size) = some r.length)
    (h : wpList P ops Q rest (a.put dst undef) (w.alloc (.cells (r.map (Value.int .i64)).toArray t))) : wpList P ops Q (⟨dst, .store ty x y, T, pos, after, guard⟩ :: rest) a (w.alloc (.cells z t)) :=
  wpList_step fun K hK => by
    rw [if_pos hw]
    subst hb
    refine wp_store_mid ty x y rfl w.heap.size 0 _ hx hy ?_ (by simpa using hi) ?_ ?_
    · intro j hj
      rw [World.cell?_alloc_at _ _ _ _ rfl, World.frozen?_alloc_at _ _ _ _ rfl]
      simp at hj
      simp [hz, hj]
    · simp [Value.oneCell']
    · rw [setCells_new _ _ _ _ (by simpa using hz)]
      exact hK _ _ h
theorem range_new (w : World) (t : TypeId) (cs : List Value) (b : Nat) (hb : b = w.heap.size) : (w.alloc (.cells cs.toArray t)).rangeAt b 0 cs := by
  subst hb
  intro j v hv
  rw [Nat.zero_add, World.cell?_alloc_at _ _ _ _ rfl]
  simpa using hv
end Go.Proofs.Cmd

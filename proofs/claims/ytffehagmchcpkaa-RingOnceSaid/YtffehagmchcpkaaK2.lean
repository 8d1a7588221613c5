/- Laws of single operations, guarded or not: a struct read or written whole; two structs of integers held against each other. Over any program. -/
import Derived.WalkKit
import Derived.Deep.MidRow
namespace Go.Proofs.Cmd
open Go.RowKit
variable {P : Program}

/-- An operation that is wanted and comes to a value. -/
theorem wpList_ran {ops : Array Oper} {Q : Exit → Act → World → Prop} {a : Act} {w w' : World} {rest : List Oper} {o : Oper} (v : Value)
    (hw : Region.wanted o (yielded ops a.tmps) = true) (hr : (execOp a.eval o).run P w = .ok (.value v) w') (h : wpList P ops Q rest (a.put o.dst v) w') : wpList P ops Q (o :: rest) a w :=
  wpList_step fun K hK => by rw [if_pos hw]; unfold Oper.wp; rw [hr]; exact hK _ _ h

/-- A struct or array is read whole. -/
theorem wpList_ld {ops : Array Oper} {Q : Exit → Act → World → Prop} {a : Act} {w : World} {rest : List Oper} {dst : Option Tmp} {ty T : TypeId} {x : Operand} {pos : String} {after : Array Edge} {guard : Option (Nat × Bool)}
    (b o : Nat) (cs : List Value) (d : TypeDesc)
    (hw : Region.wanted ⟨dst, .load ty x, T, pos, after, guard⟩ (yielded ops a.tmps) = true) (hx : a.eval x = .pointer (some ⟨b, o, none⟩)) (hc : w.rangeAt b o cs)
    (hu : P.underlying ty = some d) (hd : d.isRow = true) (hi : (P.info? ty).map (·.size) = some cs.length)
    (h : wpList P ops Q rest (a.put dst (.agg cs.toArray)) w) : wpList P ops Q (⟨dst, .load ty x, T, pos, after, guard⟩ :: rest) a w :=
  wpList_step fun K hK => by rw [if_pos hw]; exact wp_load_mid ty x rfl b o hx cs d hc hu hd hi (hK _ _ h)

/-- Results: one that lies in a cell (a struct, an array), then one in a slot. -/
theorem results_celltmp {fn : Func} {p t : Tmp} {ty : TypeId} (h : fn.results = #[.cell p ty, .tmp t]) (tmps : Array Value) (w : World) (g : Nat) (t' : TypeId) (cs : Array Value) (fr : Nat × Nat) (d : TypeDesc)
    (hp : tmps.getD p undef = .pointer (some ⟨g, 0, none⟩)) (hg : w.heap[g]? = some (.cells cs t' fr))
    (hu : P.underlying ty = some d) (hd : (match d with | .struct _ | .array _ _ => true | _ => false) = true) (hi : (P.info? ty).map (·.size) = some cs.size) :
    (results fn tmps).run P w = .ok (.tuple #[.agg cs, tmps.getD t undef]) w := by
  have hp' : tmps[p]?.getD undef = .pointer (some ⟨g, 0, none⟩) := by simpa using hp
  simp [results, h, hp', asAddr, run_loadVar_row w g t' ty cs fr d hg hu hd hi]
end Go.Proofs.Cmd

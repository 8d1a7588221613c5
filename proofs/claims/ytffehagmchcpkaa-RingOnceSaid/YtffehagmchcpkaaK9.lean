/- Calls in a region that draws its order and only reads: contracts that state 'w = w''. Over any program. -/
import Derived.Test.YtffehagmchcpkaaK6
namespace Go.Proofs.Cmd
open Go.RowKit
theorem quiet_left {P : Program} {f : FuncId} {args : Array Value} {w : World} {n : Nat} {v : Value}
    (h : Calls P f args (w.drewN n) fun e w' => e = .returned v ∧ w.drewN n = w') : Calls P f args (w.drewN n) fun e w'' => e = .returned v ∧ ∃ m, w'' = w.drewN m :=
  h.mono fun _ _ ⟨he, hm⟩ => ⟨he, n, hm.symm⟩
theorem new_drewN (w : World) (n : Nat) : New w (w.drewN n) := (Upd.refl _ _).drewN n
end Go.Proofs.Cmd

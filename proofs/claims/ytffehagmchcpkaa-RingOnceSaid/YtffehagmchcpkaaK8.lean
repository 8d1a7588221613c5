/- append of one owned row, nil or not, onto another, and where the new row lies. Over any program. -/
import Derived.Test.YtffehagmchcpkaaK6
import Derived.Maps.AppendAt
namespace Go.Proofs.Cmd
open Go.RowKit
variable {P : Program}
theorem wpList_app_at (w : World) {ops : Array Oper} {rest : List Oper} {o : Oper} {a : Act} {Q : Exit → Act → World → Prop} (hgd : o.guard = none) (s x : Operand) (t : TypeId)
    (ho : o.op = .call { callee := .builtin .append, args := #[s, x], argTypes := #[t, t] })
    (base : Nat) (e : TypeId) (i : TypeInfo) (z : Value) (size bytes : Nat) (ht : P.underlying t = some (.slice e)) (hi : P.info? e = some i) (hz : i.zero = some z)
    (hsize : i.size = size) (hby : i.bytes = bytes) (hzs : z.cells.size = size) (hsz : 0 < size)
    (v : Value) (n : Nat) (xs : List Value) (hs : a.eval s = v) (hown : w.ownsRow base e size v n xs)
    (base' : Nat) (u : Value) (m : Nat) (ys : List Value) (hx : a.eval x = u) (hu : w.ownsRow base' e size u m ys) (h1 : ∀ u ∈ ys, u.oneCell' = true)
    (h63 : n + m ≤ maxLen) (hbytes : (n + m) * bytes ≤ 140737488355328) (hbase : base ≤ w.heap.size)
    (h : ∀ v' w', w'.ownsRow base e size v' (n + m) (xs ++ ys) → w.grownBy w' v.ownBlock → (v'.ownBlock = v.ownBlock ∨ v'.ownBlock = some w.heap.size) → wpList P ops Q rest (a.put o.dst v') w') : wpList P ops Q (o :: rest) a w := by
  have hu' := hu
  rcases hu.2 with ⟨rfl, rfl⟩ | ⟨g, cap, cur, rfl, _, _, _⟩
  · have hys : ys = [] := by have := hu.1; simpa using this
    subst hys
    refine wpList_plain hgd fun K hK => ?_
    unfold Oper.wp execOp
    simp only [ho, resolve, invoke, builtin, Sem.run_bind, Sem.run_pure, Result.andThen_ok, List.map_toArray, List.map_cons, List.map_nil, hs, hx, run_append_owned_none (P := P) w base t _ e i size ht hi v n xs hown]
    exact hK _ _ (h v w (by simpa using hown) (World.grownBy.refl _ _) (.inl rfl))
  · exact wpList_append_own_at w hgd s x t ho base e i z size bytes ht hi hz hsize hby hzs hsz v n xs hs hown ⟨g, 0, none⟩ m cap ys hx hu.1 (hu'.cells rfl) h1 h63 hbytes hbase (fun v' w' a b _ c => h v' w' a b c)
/-- A list of numbers of one's own: from block b on. -/
def IntsB (b : Nat) (w : World) (v : Value) (l : List Int) : Prop := w.ownsRow b 3 1 v l.length (l.map (Value.int .i64)) ∧ l.length ≤ 1000000
theorem IntsB.ints {b : Nat} {w : World} {v : Value} {l : List Int} (h : IntsB b w v l) : Ints w v l := ⟨owns_base h.1 (Nat.zero_le _), h.2⟩
end Go.Proofs.Cmd

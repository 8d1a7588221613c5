import Derived.Test.YtoijeehkjpcefaaR7
namespace Go.Proofs.Ytoijeehkjpcefaa
open Go.RowKit Go.Proofs.Cmd
variable {B p q : Nat} {sv rv : Value} {rs : List Row} {ns : List Nd} {most : Int} {w : World}

/-- The rules of an end: none, or 'is it cut?'. -/
def Ends (p : Nat) (c : Bool) (w : World) (v : Value) : Prop :=
  if c then ∃ b, v = .slice (some ⟨b, 0, none⟩) 1 1 ∧ w.cell? ⟨b, 0, none⟩ = some (.func (.func 15) #[.pointer (some ⟨p, 0, none⟩)] #[]) else v = .slice none 0 0
theorem Ends.new {p : Nat} {c : Bool} {w w' : World} {v : Value} (h : Ends p c w v) (n : New w w') : Ends p c w' v := by
  cases c
  · exact h
  · obtain ⟨b, e, hc⟩ := h
    exact ⟨b, e, (n.cell (World.block_lt_of_cell? w _ hc)).trans hc⟩

theorem clo35 (h : Tr B w p sv rs most) (i : Int) (X : Nat) (hX : w.cell? ⟨X, 0, none⟩ = some (.int .i64 i)) :
    Calls Try.prog 35 #[.func (.func 15) #[.pointer (some ⟨p, 0, none⟩)] #[], .pointer (some ⟨X, 0, none⟩)] w fun e w' => e = .returned (.bool (cutF (nds rs) i)) ∧ w = w' := by
  have CC := Lib.hid (cut_c h i)
  clear h
  go_enter Try.func35, Try.ntmps35
  go_wp2_with fail
  refine CC.out.mono ?_; rintro e w' ⟨rfl, rfl⟩
  go_wp2_with fail
  go_ret
  exact ⟨rfl, rfl⟩
theorem index36 (h : Tr B w p sv rs most) (i : Int) (X : Nat) (hX : w.cell? ⟨X, 0, none⟩ = some (.int .i64 i)) (c : Bool) (v : Value) (hv : Ends p c w v) :
    Calls Try.prog 36 #[v, .func (.func 35) #[] #[.pointer (some ⟨X, 0, none⟩)]] w fun e w' => e = .returned (.int .i64 (if c && cutF (nds rs) i then 0 else -1)) ∧ w = w' := by
  cases c
  · have e : v = .slice none 0 0 := hv
    subst e
    clear hX h
    go_enter Try.func36, Try.ntmps36
    go_wp2_with fail
    go_loop [8] (fun u => u = .int .i64 0) (fun _ => 0)
    case atStart => rfl
    case round =>
      subst hrel
      go_wp2_with fail
      go_ret
      exact ⟨rfl, rfl⟩
  · obtain ⟨b, rfl, hb⟩ := hv
    have CC := Lib.hid (clo35 h i X hX)
    clear hX h
    cases hc : cutF (nds rs) i
    · rw [hc] at CC
      clear hc
      go_enter Try.func36, Try.ntmps36
      go_wp2_with fail
      go_loop [8] (fun u => ∃ k : Nat, k ≤ 1 ∧ u = .int .i64 k) (fun u => 1 - (intOf u).toNat)
      case atStart => exact ⟨0, by omega, rfl⟩
      case round =>
        obtain ⟨k, hk, rfl⟩ := hrel
        by_cases hlt : k < 1
        · obtain rfl : k = 0 := by omega
          go_wp2_with fail
          refine CC.out.mono ?_; rintro e w' ⟨rfl, rfl⟩
          go_wp2_with fail
          go_round
          case rel => exact ⟨1, by omega, rfl⟩
          case measure => simp [intOf]
        · obtain rfl : k = 1 := by omega
          go_wp2_with fail
          go_ret
          exact ⟨rfl, rfl⟩
    · rw [hc] at CC
      clear hc
      go_enter Try.func36, Try.ntmps36
      go_wp2_with fail
      go_loop [8] (fun u => u = .int .i64 0) (fun u => 0)
      case atStart => rfl
      case round =>
        subst hrel
        go_wp2_with fail
        refine CC.out.mono ?_; rintro e w' ⟨rfl, rfl⟩
        go_wp2_with fail
        go_ret
        exact ⟨rfl, rfl⟩
theorem contains34 (h : Tr B w p sv rs most) (i : Int) (X : Nat) (hX : w.cell? ⟨X, 0, none⟩ = some (.int .i64 i)) (c : Bool) (v : Value) (hv : Ends p c w v) :
    Calls Try.prog 34 #[v, .func (.func 35) #[] #[.pointer (some ⟨X, 0, none⟩)]] w fun e w' => e = .returned (.bool (c && cutF (nds rs) i)) ∧ w = w' := by
  have IC := Lib.hid (index36 h i X hX c v hv)
  clear h hX hv
  cases hb : c && cutF (nds rs) i
  · rw [hb] at IC
    clear hb
    go_enter Try.func34, Try.ntmps34
    go_wp2_with fail
    refine IC.out.mono ?_; rintro e w' ⟨rfl, rfl⟩
    go_wp2_with fail
    go_ret
    exact ⟨rfl, rfl⟩
  · rw [hb] at IC
    clear hb
    go_enter Try.func34, Try.ntmps34
    go_wp2_with fail
    refine IC.out.mono ?_; rintro e w' ⟨rfl, rfl⟩
    go_wp2_with fail
    go_ret
    exact ⟨rfl, rfl⟩
end Go.Proofs.Ytoijeehkjpcefaa

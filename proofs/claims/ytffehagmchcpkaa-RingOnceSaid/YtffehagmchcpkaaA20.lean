import Derived.Test.YtffehagmchcpkaaA19
import Derived.Test.YtffehagmchcpkaaRows
import Derived.ProofKit
import Derived.OpenShut
import Derived.ChangeOld
import Derived.Deep.Slices
namespace Go.Proofs.Ytffehagmchcpkaa
open Go.ChangeShapes Go.WideShapes Go.ChangeAt Go.RowKit Go.Deep
open Go.Proofs.Cmd
theorem cellsOf3 : Try.prog.cellsOf 3 = 1 := by kernel_rfl
theorem cellsOf32 : Try.prog.cellsOf 32 = 3 := by kernel_rfl
theorem one_int {H : Type} {enc : TypeId × Value → H} {w : World} {base fuel : Nat} {spare : Nat → Bool} {held : Bool} {t : TypeId} {c : Value} {o : Option (DataW H × List MemPlace)} (ht : Try.prog.underlying t = some (.int .i64))
    (h : DataW.trod enc Try.prog w base spare held fuel t [c] = o) (ho : o.isSome = true) : ∃ n, c = .int .i64 n := by
  obtain ⟨x, hx⟩ := Option.isSome_iff_exists.1 ho
  obtain ⟨n, h1, _⟩ := DataW.trod_int ht (h.trans hx)
  exact ⟨n, by simpa using h1⟩
theorem one_bool {H : Type} {enc : TypeId × Value → H} {w : World} {base fuel : Nat} {spare : Nat → Bool} {held : Bool} {t : TypeId} {c : Value} {o : Option (DataW H × List MemPlace)} (ht : Try.prog.underlying t = some .bool)
    (h : DataW.trod enc Try.prog w base spare held fuel t [c] = o) (ho : o.isSome = true) : ∃ n, c = .bool n := by
  obtain ⟨x, hx⟩ := Option.isSome_iff_exists.1 ho
  obtain ⟨n, h1, _⟩ := DataW.trod_bool ht (h.trans hx)
  exact ⟨n, by simpa using h1⟩
set_option maxRecDepth 100000 in
theorem act_cells {H : Type} {enc : TypeId × Value → H} {w : World} {base fuel : Nat} {spare : Nat → Bool} {held : Bool} {cs : List Value} {x : DataW H × List MemPlace}
    (h : DataW.trod enc Try.prog w base spare held fuel 32 cs = some x) : ∃ (d : Int) (a : Int) (c : Int), cs = [.int .i64 d, .int .i64 a, .int .i64 c] := by
  obtain ⟨xs, m, rfl, rfl, hlen, hxs, hf⟩ := DataW.trod_struct Try.underlying32 h
  rw [cellsOf32] at hlen
  match cs, hlen with
  | [c0, c1, c2], _ =>
  have hs : ∀ i, i < 3 → (xs[i]?).isSome = true := fun i hi => by
    rw [List.getElem?_eq_getElem (by rw [hxs]; exact hi)]; rfl
  have g0 : DataW.trod enc Try.prog w base spare held m 3 (([c0, c1, c2].drop 0).take (Try.prog.cellsOf 3)) = xs[0]? := hf 0 _ rfl
  rw [cellsOf3] at g0
  have g1 : DataW.trod enc Try.prog w base spare held m 3 (([c0, c1, c2].drop 1).take (Try.prog.cellsOf 3)) = xs[1]? := hf 1 _ rfl
  rw [cellsOf3] at g1
  have g2 : DataW.trod enc Try.prog w base spare held m 3 (([c0, c1, c2].drop 2).take (Try.prog.cellsOf 3)) = xs[2]? := hf 2 _ rfl
  rw [cellsOf3] at g2
  obtain ⟨n0, rfl⟩ := one_int Try.underlying3 g0 (hs 0 (by omega))
  obtain ⟨n1, rfl⟩ := one_int Try.underlying3 g1 (hs 1 (by omega))
  obtain ⟨n2, rfl⟩ := one_int Try.underlying3 g2 (hs 2 (by omega))
  exact ⟨n0, n1, n2, rfl⟩
set_option maxRecDepth 100000 in
theorem acts_of {H : Type} {enc : TypeId × Value → H} {w : World} {base fuel : Nat} {spare : Nat → Bool} {held : Bool} {la : Option Addr} {len cap : Nat} {x : DataW H × List MemPlace}
    (h : DataW.trod enc Try.prog w base spare held fuel 22 [.slice la len cap] = some x) : Acts w la len ∧ len ≤ cap ∧ cap ≤ maxLen := by
  rcases open_slice Try.underlying22 h with ⟨hcs, _⟩ | ⟨a, l, c, m, n, D, Pl, hcs, _, hl, hm, hmm, _, hx⟩
  · simp at hcs; obtain ⟨rfl, rfl, rfl⟩ := hcs
    exact ⟨fun k hk => by omega, by omega, by simp⟩
  · simp at hcs; obtain ⟨rfl, rfl, rfl⟩ := hcs
    refine ⟨fun k hk => ?_, hl, hm⟩
    have hle : len ≤ m := by subst hmm; split <;> omega
    obtain ⟨b, off, spot⟩ := a
    have hspot : spot = none := by
      obtain ⟨cs', h1, h2⟩ := hx 0 (by omega)
      rw [cellsOf32] at h1
      obtain ⟨d, a, c, rfl⟩ := act_cells h2
      obtain ⟨_, _, hc⟩ := World.cells?_some h1
      have hc0 := hc 0 (by omega)
      have h00 : w.cell? ⟨b, off, spot⟩ = some (.int .i64 d) := by simpa [Addr.add] using hc0
      exact World.cell?_spot h00
    subst hspot
    obtain ⟨cs', h1, h2⟩ := hx k (by omega)
    rw [cellsOf32, Addr.add_mid] at h1
    obtain ⟨d, a, c, rfl⟩ := act_cells h2
    obtain ⟨_, _, hc⟩ := World.cells?_some h1
    have hr : w.rangeAt b (off + k * 3) [.int .i64 d, .int .i64 a, .int .i64 c] := by
      intro j v hv
      have hj : j < 3 := by have := (List.getElem?_eq_some_iff.1 hv).1; simpa using this
      have := hc j hj
      rw [Addr.add_mid] at this
      rw [this, hv]
    refine ⟨b, off, rfl, ?_, d, a, c, hr⟩
    exact World.block_lt_of_cell? w _ (hr 0 _ rfl)
end Go.Proofs.Ytffehagmchcpkaa

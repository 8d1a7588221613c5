/- An arena of the program in memory: four arrays of numbers behind one struct. -/
import Derived.Test.YtffehagmchcpkaaK6
import Derived.Test.YtffehagmchcpkaaK8
import Derived.Test.YtffehagmchcpkaaK9
import Derived.Test.YtffehagmchcpkaaChecked
import Derived.Maps.AppendAt
import Derived.Deep.AppendLies
import Derived.StillTailTactics
import Derived.Deep.RegionLaw
import Derived.Deep.DeepCutAuto
import Derived.Deep.CutBlock
namespace Go.Proofs.Ytffehagmchcpkaa
open Go.RowKit Go.Proofs.Cmd

/-- The blocks of an arena. -/
structure Bl where
  p : Nat
  gn : Nat
  gp : Nat
  gi : Nat
  gl : Nat
/-- Its four arrays: who comes next, who came before, of nodes the row, of rows the length. -/
structure St where
  nx : List Int
  pv : List Int
  inn : List Int
  lg : List Int
abbrev arr (g : Nat) (l : List Int) : Value := .slice (some ⟨g, 0, none⟩) l.length l.length
abbrev cells3 (l : List Int) : Obj := .cells (l.map (Value.int .i64)).toArray 3 (0, 0)
structure Ar (w : World) (b : Bl) (s : St) : Prop where
  head : w.heap[b.p]? = some (.cells #[arr b.gn s.nx, arr b.gp s.pv, arr b.gi s.inn, arr b.gl s.lg] 127 (0, 0))
  nx : w.heap[b.gn]? = some (cells3 s.nx)
  pv : w.heap[b.gp]? = some (cells3 s.pv)
  inn : w.heap[b.gi]? = some (cells3 s.inn)
  lg : w.heap[b.gl]? = some (cells3 s.lg)
  np : b.gn ≠ b.gp
  ni : b.gn ≠ b.gi
  nl : b.gn ≠ b.gl
  pi : b.gp ≠ b.gi
  pl : b.gp ≠ b.gl
  il : b.gi ≠ b.gl
def Bl.S (b : Bl) (k : Nat) : Prop := k = b.gn ∨ k = b.gp ∨ k = b.gi ∨ k = b.gl
def Bl.T (b : Bl) (k : Nat) : Prop := k = b.p ∨ b.S k

theorem int_set (l : List Int) (i : Nat) (v : Int) : (l.map (Value.int .i64)).toArray.setIfInBounds i (.int .i64 v) = ((l.set i v).map (Value.int .i64)).toArray := by
  rw [List.setIfInBounds_toArray, List.map_set]
theorem cells3_set {w : World} {g : Nat} {l : List Int} (h : w.heap[g]? = some (cells3 l)) (i : Nat) (v : Int) : (w.setCell ⟨g, i, none⟩ (.int .i64 v)).heap[g]? = some (cells3 (l.set i v)) := by
  rw [heap_set_same h, int_set]
theorem cells3_cell {w : World} {g : Nat} {l : List Int} (h : w.heap[g]? = some (cells3 l)) {i : Nat} (hi : i < l.length) : w.cell? ⟨g, i, none⟩ = some (.int .i64 (l.getD i 0)) := by
  rw [cell_of h]; simp [hi]

theorem blk_ne {w : World} {k k' : Nat} {c c' : Array Value} {t t' : TypeId} {f f' : Nat × Nat} (h : w.heap[k]? = some (.cells c t f)) (h' : w.heap[k']? = some (.cells c' t' f')) (ht : t ≠ t') : k ≠ k' := by
  rintro rfl
  rw [h] at h'
  injection h' with h'
  injection h' with _ e
  exact ht e
variable {w w' : World} {b : Bl} {s : St}
theorem Ar.p_ne (h : Ar w b s) : b.p ≠ b.gn ∧ b.p ≠ b.gp ∧ b.p ≠ b.gi ∧ b.p ≠ b.gl := by
  exact ⟨blk_ne h.head h.nx (by decide), blk_ne h.head h.pv (by decide), blk_ne h.head h.inn (by decide), blk_ne h.head h.lg (by decide)⟩
theorem Ar.upd {S : Nat → Prop} (h : Ar w b s) (u : Upd S w w') (hs : ∀ k, b.T k → ¬ S k) : Ar w' b s :=
  ⟨u.heap h.head (hs _ (.inl rfl)), u.heap h.nx (hs _ (.inr (.inl rfl))), u.heap h.pv (hs _ (.inr (.inr (.inl rfl)))), u.heap h.inn (hs _ (.inr (.inr (.inr (.inl rfl))))), u.heap h.lg (hs _ (.inr (.inr (.inr (.inr rfl))))),
    h.np, h.ni, h.nl, h.pi, h.pl, h.il⟩
theorem Ar.new (h : Ar w b s) (u : New w w') : Ar w' b s := h.upd u (fun _ _ x => x)
theorem Ar.setN (h : Ar w b s) (i : Nat) (v : Int) : Ar (w.setCell ⟨b.gn, i, none⟩ (.int .i64 v)) b { s with nx := s.nx.set i v } := by
  obtain ⟨h1, h2, h3, h4⟩ := h.p_ne
  refine ⟨?_, cells3_set h.nx i v, ?_, ?_, ?_, h.np, h.ni, h.nl, h.pi, h.pl, h.il⟩
  · rw [heap_set_other (Ne.symm h1), h.head]; simp [arr]
  · rw [heap_set_other h.np, h.pv]
  · rw [heap_set_other h.ni, h.inn]
  · rw [heap_set_other h.nl, h.lg]
theorem Ar.setP (h : Ar w b s) (i : Nat) (v : Int) : Ar (w.setCell ⟨b.gp, i, none⟩ (.int .i64 v)) b { s with pv := s.pv.set i v } := by
  obtain ⟨h1, h2, h3, h4⟩ := h.p_ne
  refine ⟨?_, ?_, cells3_set h.pv i v, ?_, ?_, h.np, h.ni, h.nl, h.pi, h.pl, h.il⟩
  · rw [heap_set_other (Ne.symm h2), h.head]; simp [arr]
  · rw [heap_set_other (Ne.symm h.np), h.nx]
  · rw [heap_set_other h.pi, h.inn]
  · rw [heap_set_other h.pl, h.lg]
theorem Ar.setI (h : Ar w b s) (i : Nat) (v : Int) : Ar (w.setCell ⟨b.gi, i, none⟩ (.int .i64 v)) b { s with inn := s.inn.set i v } := by
  obtain ⟨h1, h2, h3, h4⟩ := h.p_ne
  refine ⟨?_, ?_, ?_, cells3_set h.inn i v, ?_, h.np, h.ni, h.nl, h.pi, h.pl, h.il⟩
  · rw [heap_set_other (Ne.symm h3), h.head]; simp [arr]
  · rw [heap_set_other (Ne.symm h.ni), h.nx]
  · rw [heap_set_other (Ne.symm h.pi), h.pv]
  · rw [heap_set_other h.il, h.lg]
theorem Ar.setL (h : Ar w b s) (i : Nat) (v : Int) : Ar (w.setCell ⟨b.gl, i, none⟩ (.int .i64 v)) b { s with lg := s.lg.set i v } := by
  obtain ⟨h1, h2, h3, h4⟩ := h.p_ne
  refine ⟨?_, ?_, ?_, ?_, cells3_set h.lg i v, h.np, h.ni, h.nl, h.pi, h.pl, h.il⟩
  · rw [heap_set_other (Ne.symm h4), h.head]; simp [arr]
  · rw [heap_set_other (Ne.symm h.nl), h.nx]
  · rw [heap_set_other (Ne.symm h.pl), h.pv]
  · rw [heap_set_other (Ne.symm h.il), h.inn]
theorem Ar.p0 (h : Ar w b s) : w.cell? ⟨b.p, 0, none⟩ = some (arr b.gn s.nx) := cell_of h.head 0
theorem Ar.p1 (h : Ar w b s) : w.cell? ⟨b.p, 1, none⟩ = some (arr b.gp s.pv) := cell_of h.head 1
theorem Ar.p2 (h : Ar w b s) : w.cell? ⟨b.p, 2, none⟩ = some (arr b.gi s.inn) := cell_of h.head 2
theorem Ar.p3 (h : Ar w b s) : w.cell? ⟨b.p, 3, none⟩ = some (arr b.gl s.lg) := cell_of h.head 3
theorem Ar.fn (h : Ar w b s) (i : Nat) : w.frozen? ⟨b.gn, i, none⟩ = false := frozen_of h.nx i
theorem Ar.fp (h : Ar w b s) (i : Nat) : w.frozen? ⟨b.gp, i, none⟩ = false := frozen_of h.pv i
theorem Ar.fi (h : Ar w b s) (i : Nat) : w.frozen? ⟨b.gi, i, none⟩ = false := frozen_of h.inn i
theorem Ar.fl (h : Ar w b s) (i : Nat) : w.frozen? ⟨b.gl, i, none⟩ = false := frozen_of h.lg i

def isIn (n : Nat) (i : Int) : Bool := decide (0 ≤ i) && decide (i < n)
theorem isIn_nat {n : Nat} {i : Int} (h : isIn n i = true) : ∃ k : Nat, i = k ∧ k < n := by
  simp only [isIn, Bool.and_eq_true, decide_eq_true_eq] at h
  exact ⟨i.toNat, by omega, by omega⟩
theorem isIn_of {n k : Nat} (h : k < n) : isIn n (k : Int) = true := by simp [isIn, h]

theorem row_c (h : Ar w b s) (i : Int) : Calls Try.prog 74 #[.pointer (some ⟨b.p, 0, none⟩), .int .i64 i] w fun e w' => e = .returned (.bool (isIn s.lg.length i)) ∧ w = w' := by
  have h3 := h.p3
  clear h
  by_cases h0 : 0 ≤ i
  · have HF := Lib.hid (show isIn s.lg.length i = decide (i < s.lg.length) by simp [isIn, h0])
    go_enter Try.func74, Try.ntmps74
    go_wp2
    go_ret
    exact ⟨by rw [HF.out]; rfl, rfl⟩
  · have HF := Lib.hid (show isIn s.lg.length i = false by simp [isIn, h0])
    go_enter Try.func74, Try.ntmps74
    go_wp2
    go_ret
    exact ⟨by rw [HF.out]; rfl, rfl⟩
theorem node_c (h : Ar w b s) (i : Int) : Calls Try.prog 76 #[.pointer (some ⟨b.p, 0, none⟩), .int .i64 i] w fun e w' => e = .returned (.bool (isIn s.inn.length i)) ∧ w = w' := by
  have h2 := h.p2
  clear h
  by_cases h0 : 0 ≤ i
  · have HF := Lib.hid (show isIn s.inn.length i = decide (i < s.inn.length) by simp [isIn, h0])
    go_enter Try.func76, Try.ntmps76
    go_wp2
    go_ret
    exact ⟨by rw [HF.out]; rfl, rfl⟩
  · have HF := Lib.hid (show isIn s.inn.length i = false by simp [isIn, h0])
    go_enter Try.func76, Try.ntmps76
    go_wp2
    go_ret
    exact ⟨by rw [HF.out]; rfl, rfl⟩
theorem head_c (h : Ar w b s) (r : Nat) (hN : s.inn.length ≤ 1000) (hr : r ≤ 1000) : Calls Try.prog 75 #[.pointer (some ⟨b.p, 0, none⟩), .int .i64 r] w fun e w' => e = .returned (.int .i64 ((s.inn.length + r : Nat) : Int)) ∧ w = w' := by
  have h2 := h.p2
  clear h
  go_enter Try.func75, Try.ntmps75
  go_wp2
  go_ret
  exact ⟨by simp, rfl⟩
theorem rows_c (h : Ar w b s) : Calls Try.prog 65 #[.pointer (some ⟨b.p, 0, none⟩)] w fun e w' => e = .returned (.int .i64 s.lg.length) ∧ w = w' := by
  have h3 := h.p3
  clear h
  go_enter Try.func65, Try.ntmps65
  go_wp2
  go_ret
  exact ⟨rfl, rfl⟩
theorem nodes_c (h : Ar w b s) : Calls Try.prog 66 #[.pointer (some ⟨b.p, 0, none⟩)] w fun e w' => e = .returned (.int .i64 s.inn.length) ∧ w = w' := by
  have h2 := h.p2
  clear h
  go_enter Try.func66, Try.ntmps66
  go_wp2
  go_ret
  exact ⟨rfl, rfl⟩
/-- What an arena tells of a row's length, and of a node's row. -/
def lenS (s : St) (i : Int) : Int := if isIn s.lg.length i then s.lg.getD i.toNat 0 else 0
def inS (s : St) (i : Int) : Int := if isIn s.inn.length i then s.inn.getD i.toNat 0 else -1
theorem len_c (h : Ar w b s) (i : Int) : Calls Try.prog 19 #[.pointer (some ⟨b.p, 0, none⟩), .int .i64 i] w fun e w' => e = .returned (.int .i64 (lenS s i)) ∧ w = w' := by
  have RC := Lib.hid (row_c h i)
  cases hI : isIn s.lg.length i
  · rw [hI] at RC
    have HF := Lib.hid (show lenS s i = 0 by unfold lenS; rw [hI]; rfl)
    clear h hI
    go_enter Try.func19, Try.ntmps19
    go_wp2_with fail
    refine RC.out.mono ?_; rintro e w' ⟨rfl, rfl⟩
    go_wp2_with fail
    go_ret
    exact ⟨by rw [HF.out]; rfl, rfl⟩
  · rw [hI] at RC
    obtain ⟨k, rfl, hk⟩ := isIn_nat hI
    have HF := Lib.hid (show lenS s (k : Int) = s.lg.getD k 0 by unfold lenS; rw [hI]; simp)
    have h3 := h.p3
    have c0 := cells3_cell h.lg hk
    clear h hI
    generalize s.lg.getD k 0 = v at c0 HF
    go_enter Try.func19, Try.ntmps19
    go_wp2_with fail
    refine RC.out.mono ?_; rintro e w' ⟨rfl, rfl⟩
    go_wp2_with fail
    go_ret
    exact ⟨by rw [HF.out]; rfl, rfl⟩
theorem in_c (h : Ar w b s) (i : Int) : Calls Try.prog 20 #[.pointer (some ⟨b.p, 0, none⟩), .int .i64 i] w fun e w' => e = .returned (.int .i64 (inS s i)) ∧ w = w' := by
  have RC := Lib.hid (node_c h i)
  cases hI : isIn s.inn.length i
  · rw [hI] at RC
    have HF := Lib.hid (show inS s i = -1 by unfold inS; rw [hI]; rfl)
    clear h hI
    go_enter Try.func20, Try.ntmps20
    go_wp2_with fail
    refine RC.out.mono ?_; rintro e w' ⟨rfl, rfl⟩
    go_wp2_with fail
    go_ret
    exact ⟨by rw [HF.out]; rfl, rfl⟩
  · rw [hI] at RC
    obtain ⟨k, rfl, hk⟩ := isIn_nat hI
    have HF := Lib.hid (show inS s (k : Int) = s.inn.getD k 0 by unfold inS; rw [hI]; simp)
    have h2 := h.p2
    have c0 := cells3_cell h.inn hk
    clear h hI
    generalize s.inn.getD k 0 = v at c0 HF
    go_enter Try.func20, Try.ntmps20
    go_wp2_with fail
    refine RC.out.mono ?_; rintro e w' ⟨rfl, rfl⟩
    go_wp2_with fail
    go_ret
    exact ⟨by rw [HF.out]; rfl, rfl⟩
end Go.Proofs.Ytffehagmchcpkaa

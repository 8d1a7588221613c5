/- The map of numbers seen, and what an arena's rows hold once each. -/
import Derived.Test.YtffehagmchcpkaaA18
import Derived.Maps.OwnOps
import Derived.Maps.Views
namespace Go.Proofs.Ytffehagmchcpkaa
open Go.RowKit Go.Maps Go.Proofs.Cmd

theorem key3 : Keyed Try.prog 3 := int_keyed Try.underlying3
theorem zero3 (w : World) : (zeroValue 3).run Try.prog w = .ok (.int .i64 0) w := by kernel_rfl
/-- The map at block b holds 1 at each number of acc, and nothing else. -/
def Cnt (b : Nat) (acc : List Int) (w : World) : Prop :=
  ∃ D : DataW Unit, w.ownsMap Try.prog 3 (plainElem Try.prog 3) b acc.length D ∧ ∀ x, D.atKey (.int .i64 x) (.lit (.int .i64 0)) = .lit (.int .i64 (if x ∈ acc then 1 else 0))
theorem cnt_made (w : World) : Cnt w.heap.size [] (w.alloc (.map #[] 0)) := ⟨.map [], World.ownsMap_made _ _ _ _, fun x => rfl⟩
theorem Cnt.upd {b : Nat} {acc : List Int} {w w' : World} {S : Nat → Prop} (h : Cnt b acc w) (u : Upd S w w') (hs : ¬ S b) : Cnt b acc w' := by
  obtain ⟨D, ⟨es, clock, hb, F, hz, hD⟩, h2⟩ := h
  exact ⟨D, ⟨es, clock, u.heap hb hs, F, hz, hD⟩, h2⟩
theorem Cnt.new {b : Nat} {acc : List Int} {w w' : World} (h : Cnt b acc w) (u : New w w') : Cnt b acc w' := h.upd u (fun x => x)
theorem Cnt.lt {b : Nat} {acc : List Int} {w : World} (h : Cnt b acc w) : b < w.heap.size := by
  obtain ⟨D, h1, _⟩ := h; exact h1.lt
theorem Cnt.look {b : Nat} {acc : List Int} {w : World} (h : Cnt b acc w) (x : Int) (hx : (Lit.int .i64 x).wf = true) :
    (Instr.lookup 38 (.map (some b)) (.int .i64 x) false).run Try.prog w = .ok (.int .i64 (if x ∈ acc then 1 else 0)) w := by
  obtain ⟨D, h1, h2⟩ := h
  obtain ⟨c, hrun, hat, _⟩ := h1.lookup_int key3 Try.underlying38 Try.underlying3 (zero3 _) (keyOf_int_mk Try.underlying3 hx)
  rw [h2] at hat
  simp only [DataW.lit.injEq, Lit.int.injEq, true_and] at hat
  rw [hrun, hat]
theorem Cnt.put {b : Nat} {acc : List Int} {w : World} (h : Cnt b acc w) (x : Int) (hx : (Lit.int .i64 x).wf = true) (hn : acc.length < maxLen) :
    ∃ w', (Instr.mapUpdate 38 (.map (some b)) (.int .i64 x) (.int .i64 1)).run Try.prog w = .ok () w' ∧ Cnt b (acc ++ [x]) w' ∧ Upd (fun k => k = b) w w' := by
  obtain ⟨D, h1, h2⟩ := h
  have hk := keyOf_int_mk Try.underlying3 hx
  obtain ⟨w', hrun, hown, hg⟩ := h1.update key3 Try.underlying38 hn hk (plainElem_int (H := Unit) Try.underlying3 (show (Lit.int .i64 1).wf = true by decide))
  refine ⟨w', hrun, ⟨_, by simpa using hown, fun y => ?_⟩, (Upd.refl _ _).grown hg (fun k e => .inl (by simpa using e.symm))⟩
  obtain ⟨es, clock, _, _, _, hD⟩ := h1
  by_cases hy : y = x
  · subst hy
    rw [atKey_put_same ⟨_, hD⟩ (key3.key hk)]; simp
  · rw [atKey_put_other (by simpa using hy), h2]; simp [hy]

/-- What the rows hold, one behind the other. -/
def flat (rows : List (List Nat)) : List Int := lz rows.flatten
theorem flat_nodup_of : ∀ (rows : List (List Nat)), (∀ l ∈ rows, l.Nodup) → rows.Pairwise (fun a b => ∀ x ∈ a, x ∉ b) → rows.flatten.Nodup := by
  intro rows
  induction rows with
  | nil => intro _ _; simp
  | cons l ls ih =>
    intro h1 h2
    rw [List.flatten_cons, List.nodup_append]
    rw [List.pairwise_cons] at h2
    refine ⟨h1 l (by simp), ih (fun k hk => h1 k (by simp [hk])) h2.2, ?_⟩
    rintro a ha c hc rfl
    obtain ⟨k, hk, hak⟩ := List.mem_flatten.1 hc
    exact h2.1 k hk a ha hak
theorem lz_nodup {l : List Nat} (h : l.Nodup) : (lz l).Nodup := by
  unfold lz List.Nodup
  rw [List.pairwise_map]
  exact h.imp (fun hne e => hne (by omega))
theorem Rep.flat {N : Nat} {rows : List (List Nat)} {s : St} (h : Rep N rows s) : rows.flatten.Nodup := by
  refine flat_nodup_of rows (fun l hl => ?_) ?_
  · obtain ⟨i, hi⟩ := List.getElem?_of_mem hl; exact h.nodup i l hi
  · rw [List.pairwise_iff_getElem]
    intro i j hi hj hij x hx hx'
    have := h.disj (List.getElem?_eq_getElem hi) (List.getElem?_eq_getElem hj) hx hx'
    omega
theorem Rep.flat_lt {N : Nat} {rows : List (List Nat)} {s : St} (h : Rep N rows s) : ∀ x ∈ rows.flatten, x < N := by
  intro x hx
  obtain ⟨l, hl, hxl⟩ := List.mem_flatten.1 hx
  obtain ⟨i, hi⟩ := List.getElem?_of_mem hl
  exact h.lt i l hi x hxl
/-- What is seen before the number at place j of row r. -/
def pre (rows : List (List Nat)) (r : Nat) (l : List Nat) (j : Nat) : List Int := lz ((rows.take r).flatten ++ l.take j)
theorem pre_zero (rows : List (List Nat)) (r : Nat) (l : List Nat) : pre rows r l 0 = flat (rows.take r) := by simp [pre, flat]
theorem pre_all {rows : List (List Nat)} {r : Nat} {l : List Nat} (h : rows[r]? = some l) : pre rows r l l.length = flat (rows.take (r + 1)) := by
  obtain ⟨hr, e⟩ := List.getElem?_eq_some_iff.1 h
  unfold pre flat
  rw [List.take_succ_eq_append_getElem hr, e, List.flatten_append]; simp
theorem pre_succ {l : List Nat} {j : Nat} (rows : List (List Nat)) (r : Nat) (hj : j < l.length) : pre rows r l (j + 1) = pre rows r l j ++ [((l[j]) : Int)] := by
  unfold pre
  rw [List.take_succ_eq_append_getElem hj]; simp only [lz, List.map_append, List.map_cons, List.map_nil, List.append_assoc]
theorem split_row {rows : List (List Nat)} {r : Nat} {l : List Nat} (h : rows[r]? = some l) : rows.flatten = (rows.take r).flatten ++ (l ++ (rows.drop (r + 1)).flatten) := by
  obtain ⟨hr, e⟩ := List.getElem?_eq_some_iff.1 h
  conv => lhs; rw [← List.take_append_drop r rows, List.drop_eq_getElem_cons hr, e]
  simp
theorem Rep.fresh {N : Nat} {rows : List (List Nat)} {s : St} (h : Rep N rows s) {r : Nat} {l : List Nat} (hr : rows[r]? = some l) {j : Nat} (hj : j < l.length) : ((l[j] : Nat) : Int) ∉ pre rows r l j := by
  have hf := h.flat
  rw [split_row hr, ← List.append_assoc] at hf
  have h2 := (List.nodup_append.1 hf).1
  have e : (rows.take r).flatten ++ l = ((rows.take r).flatten ++ l.take j) ++ l[j] :: l.drop (j + 1) := by
    rw [List.append_assoc]; congr 1; rw [← List.drop_eq_getElem_cons hj, List.take_append_drop]
  rw [e] at h2
  intro hm
  exact (List.nodup_append.1 h2).2.2 _ (mem_lz_nat.1 hm) _ List.mem_cons_self rfl
theorem Rep.pre_small {N : Nat} {rows : List (List Nat)} {s : St} (h : Rep N rows s) {r : Nat} {l : List Nat} (hr : rows[r]? = some l) (j : Nat) : (pre rows r l j).length ≤ N := by
  have hs := nat_small N rows.flatten h.flat h.flat_lt
  rw [split_row hr] at hs
  unfold pre; simp only [List.length_append, List.length_map, List.length_take] at *; omega
theorem inR_iff (rows : List (List Nat)) (x : Int) : (0 ≤ inR rows x) ↔ x ∈ flat rows := by
  unfold flat
  rw [mem_lz]
  rcases inR_spec rows x with ⟨h1, h2⟩ | ⟨r, l, h1, h2, h3⟩
  · rw [h1]
    refine ⟨fun h => by omega, ?_⟩
    rintro ⟨n, hn, rfl⟩
    obtain ⟨l, hl, hxl⟩ := List.mem_flatten.1 hn
    obtain ⟨i, hi⟩ := List.getElem?_of_mem hl
    exact absurd (mem_lz_nat.2 hxl) (h2 i l hi)
  · rw [h3]
    refine ⟨fun _ => ?_, fun _ => by omega⟩
    obtain ⟨n, hn, e⟩ := mem_lz.1 h2
    exact ⟨n, List.mem_flatten.2 ⟨l, List.mem_of_getElem? h1, hn⟩, e⟩
end Go.Proofs.Ytffehagmchcpkaa

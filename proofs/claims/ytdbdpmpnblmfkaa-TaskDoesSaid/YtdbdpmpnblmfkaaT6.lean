import Derived.Test.YtdbdpmpnblmfkaaT5
import Derived.Deep.AppendLies
namespace Go.Proofs.Ytdbdpmpnblmfkaa
open Go.RowKit Go.Proofs.Cmd

theorem new_bad (n : Int) (w : World) (h : n < 1 ∨ 200 < n) : Calls Try.prog 5 #[.int .i64 n] w fun e w' => e = .returned (.tuple #[.pointer none, .int .i64 1]) ∧ w = w' := by
  by_cases h1 : n < 1
  · clear h
    go_enter Try.func5, Try.ntmps5
    go_wp2
    go_ret2
    exact ⟨rfl, rfl⟩
  · have h2 : 200 < n := by omega
    have h3 : 1 ≤ n := by omega
    clear h h1
    go_enter Try.func5, Try.ntmps5
    go_wp2
    go_ret2
    exact ⟨rfl, rfl⟩
theorem new_good (n : Int) (w : World) (h : 1 ≤ n) (h2 : n ≤ 200) : Calls Try.prog 5 #[.int .i64 n] w fun e w' => e = .returned (.tuple #[.pointer (some ⟨w.heap.size, 0, none⟩), .int .i64 0]) ∧ w' = w.alloc (.cells #[.slice none 0 0, .int .i64 n] 65) := by
  go_enter Try.func5, Try.ntmps5
  go_wp2
  go_ret2
  exact ⟨rfl, rfl⟩
theorem Tab.fresh (ty e : TypeId) (w : World) (n : Int) : Tab ty e w.heap.size (w.alloc (.cells #[.slice none 0 0, .int .i64 n] ty)) w.heap.size (.slice none 0 0) 0 [] n :=
  ⟨heap_alloc_new w _, Nat.le_refl _, World.ownsRow_nil _ _ _ _, by omega, by simp [Value.ownBlock]⟩

theorem info53' : (Try.prog.info? 53).map (fun i => (i.zero, i.size, i.bytes)) = some (some (.agg #[.int .i64 0, .int .i64 0, .int .i64 0, .int .i64 0, .int .i64 0, .int .i64 0, .int .i64 0, .int .i64 0, .int .i64 0, .int .i64 0, .int .i64 0, .int .i64 0, .int .i64 0, .int .i64 0, .int .i64 0, .int .i64 0, .int .i64 0]), 17, 136) := by kernel_rfl

/-- A table whose slice has become another one. -/
theorem Tab.grow {ty e : TypeId} {B : Nat} {w w1 : World} {p : Nat} {sv v' : Value} {n n' : Nat} {xs ys : List Int} {most : Int} (h : Tab ty e B w p sv n xs most) (hte : ty ≠ e)
    (hg : Upd (fun k => sv.ownBlock = .some k) w w1) (ho : w1.ownsRow B e 17 v' n' (ys.map (Value.int .i64))) (hn : n' ≤ 1000) :
    Tab ty e B (w1.setCell ⟨p, 0, none⟩ v') p v' n' ys most := by
  have hp : w1.heap[p]? = .some (.cells #[sv, .int .i64 most] ty (0, 0)) := hg.heap h.head h.two
  have hne : ∀ k, v'.ownBlock = .some k → k ≠ p := by
    intro k hk e1
    subst e1
    rcases ho.2 with ⟨rfl, _⟩ | ⟨g, cap, cur, rfl, _, hgg, _⟩
    · simp [Value.ownBlock] at hk
    · simp [Value.ownBlock] at hk
      subst hk
      rw [hp] at hgg
      cases hgg
      exact hte rfl
  exact ⟨by rw [heap_set_same hp]; rfl, h.base, owns_heap ho (fun k hk => heap_set_other (fun e => hne k hk e.symm) _ _), hn, fun e => hne p e rfl⟩

variable {B p n : Nat} {sv : Value} {xs : List Int} {most : Int} {w : World}
theorem begin_full (h : Tab 65 53 B w p sv n xs most) (hm : (n : Int) = most) (a b : Int) :
    Calls Try.prog 23 #[.pointer (some ⟨p, 0, none⟩), .int .i64 a, .int .i64 b] w fun e w' => e = .returned (.tuple #[.int .i64 (-1), .int .i64 2]) ∧ New w w' := by
  obtain ⟨s, cap, rfl, hc⟩ := h.shape
  have h0 := cell_of h.head 0
  have h1 := cell_of h.head 1
  simp only [List.getElem?_toArray, List.getElem?_cons_zero, List.getElem?_cons_succ] at h0 h1
  subst hm
  clear h
  go_enter Try.func23, Try.ntmps23
  go_wp2_with fail
  go_quiet (fail)
  go_wp2_with fail
  go_ret2
  exact ⟨rfl, (Upd.refl _ _).drewN _⟩

/-- A new task's numbers. -/
def fresh (a b : Int) : List Int := [1, a, 0, b, 0, 0, 0, 0, 0, 0, 0, 0, 0, 0, 0, 0, 0]

set_option maxHeartbeats 400000 in
theorem begin_more (h : Tab 65 53 B w p sv n xs most) (hm : (n : Int) ≠ most) (hn : n < 1000) (a b : Int) :
    Calls Try.prog 23 #[.pointer (some ⟨p, 0, none⟩), .int .i64 a, .int .i64 b] w fun e w' => ∃ sv', e = .returned (.tuple #[.int .i64 n, .int .i64 0]) ∧
      Tab 65 53 B w' p sv' (n + 1) (xs ++ fresh a b) most ∧ Upd (fun k => k = p ∨ sv.ownBlock = some k) w w' := by
  obtain ⟨s, cap, rfl, hc⟩ := h.shape
  have h0 := cell_of h.head 0
  have h1 := cell_of h.head 1
  simp only [List.getElem?_toArray, List.getElem?_cons_zero, List.getElem?_cons_succ] at h0 h1
  have hmm : ((n : Int) == most) = false := by simpa using hm
  have H := Lib.hid h
  have hbase : B ≤ w.heap.size := by have := h.base; have := lt_of h.head; omega
  have hplt := lt_of h.head
  obtain ⟨i0, hi, hz0, hz1, hz2⟩ := info_parts info53'
  clear h hm
  go_enter Try.func23, Try.ntmps23
  go_wp2_with fail
  go_quiet (fail)
  go_wp2_with (at_builtin; refine wpList_append_own _ rfl _ _ 63 rfl B 53 i0 _ 17 136 Try.underlying63 hi hz0 hz1 hz2 rfl (by decide) _ n (xs.map (Value.int .i64)) rfl ?hown ⟨w.heap.size, 0, none⟩ 1 1 ((fresh a b).map (Value.int .i64)) rfl rfl ?c1 ?c2 ?c3 ?c4 ?c5 ?_)
  case hown => exact owns_new H.out.rows (((Upd.refl _ _).drewN _).alloc _)
  case c1 => exact World.news_of_block (cs := ((fresh a b).map (Value.int .i64)).toArray) (t := 53) (fr := (0, 0)) (heap_at _ (by simp))
  case c2 => intro u hu; obtain ⟨x, _, rfl⟩ := List.mem_map.1 hu; rfl
  case c3 => unfold maxLen; omega
  case c4 => omega
  case c5 => simp; omega
  intro v' w1 hown1 hgrow _
  have U1 : Upd (fun k => (Value.slice s n cap).ownBlock = some k) w w1 := (((Upd.refl _ _).drewN _).alloc _).grown hgrow (fun k e => .inl e)
  rw [← List.map_append] at hown1
  have hT := H.out.grow (by decide) U1 hown1 (by omega)
  have hp1 : w1.heap[p]? = some (.cells #[.slice s n cap, .int .i64 most] 65 (0, 0)) := U1.heap H.out.head H.out.two
  obtain ⟨g', cap', rfl⟩ : ∃ g cap', v' = .slice (some ⟨g, 0, none⟩) (n + 1) cap' := by
    rcases hown1.2 with ⟨_, h⟩ | ⟨g, cap', _, h, _⟩
    · omega
    · exact ⟨g, cap', h⟩
  have q0 := cell_of hp1 0
  have f0 := frozen_of hp1 0
  simp only [List.getElem?_toArray, List.getElem?_cons_zero] at q0
  have HT := Lib.hid hT
  have HU := Lib.hid U1
  clear hT hp1 hown1 hgrow U1 h0 h1
  go_wp2_with fail
  go_ret2
  refine ⟨_, by simp, HT.out, ?_⟩
  exact Upd.setAt (HU.out.mono (fun _ _ e => .inr e)) (.inl (.inl rfl)) _ _
end Go.Proofs.Ytdbdpmpnblmfkaa

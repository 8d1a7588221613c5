import Derived.Test.YtoijeehkjpcefaaR15
import Derived.Test.YtoijeehkjpcefaaK9
import Derived.Test.YtoijeehkjpcefaaR17
namespace Go.Proofs.Ytoijeehkjpcefaa
open Go.RowKit Go.Proofs.Cmd

theorem count_nodup {l : List Int} (h : l.Nodup) (x : Int) : l.count x = 0 ∧ x ∉ l ∨ l.count x = 1 ∧ x ∈ l := by
  by_cases hx : x ∈ l
  · right
    have h1 := List.nodup_iff_count.1 h x
    have h2 := List.count_pos_iff.2 hx
    exact ⟨by omega, hx⟩
  · left; exact ⟨List.count_eq_zero.2 hx, hx⟩
theorem reachTop_in {ns : List Nd} {a : Nat} (ha : a < ns.length) : reachTop ns (a : Int) = reachF ns ns.length a := by
  unfold reachTop; rw [isIn_of ha]; simp
/-- How often b is in the reach of a, and a in the chain of b. -/
theorem both_counts {ns : List Nd} (ht : Tree ns) {a b : Nat} (ha : a < ns.length) (hb : b < ns.length) :
    ∃ c : Nat, (c = 0 ∨ c = 1) ∧ (reachTop ns (a : Int)).count (b : Int) = c ∧ (upF ns true ns.length (b : Int)).count (a : Int) = c ∧
      (c = 1 → ∀ x ∈ reachTop ns (b : Int), (reachTop ns (a : Int)).count x = 1) := by
  rw [reachTop_in ha, reachTop_in hb]
  have n1 := reach_nodup ht ns.length a ha (by omega)
  have n2 := up_nodup ht true ns.length (b : Int)
  have m1 := mem_reach ht ns.length a ha (by omega) (b : Int)
  have m2 := mem_chain ht ns.length b hb hb (a : Int)
  have iff1 : (b : Int) ∈ reachF ns ns.length a ↔ (a : Int) ∈ upF ns true ns.length (b : Int) := by
    rw [m1, m2]
    constructor
    · rintro ⟨m, e, hm, h⟩
      have : m = b := by omega
      subst this
      exact ⟨a, rfl, ha, h⟩
    · rintro ⟨m, e, hm, h⟩
      have : m = a := by omega
      subst this
      exact ⟨b, rfl, hb, h⟩
  rcases count_nodup n1 (b : Int) with ⟨c1, h1⟩ | ⟨c1, h1⟩
  · refine ⟨0, .inl rfl, c1, ?_, fun e => by cases e⟩
    exact List.count_eq_zero.2 (fun h => h1 (iff1.2 h))
  · refine ⟨1, .inr rfl, c1, ?_, fun _ x hx => ?_⟩
    · rcases count_nodup n2 (a : Int) with ⟨_, h2⟩ | ⟨c2, _⟩
      · exact absurd (iff1.1 h1) h2
      · exact c2
    · obtain ⟨m, rfl, hm, h3⟩ := (mem_reach ht ns.length b hb (by omega) x).1 hx
      obtain ⟨m', e, _, h4⟩ := m1.1 h1
      have : m' = b := by omega
      subst this
      have hx' := (mem_reach ht ns.length a ha (by omega) (m : Int)).2 ⟨m, rfl, hm, h4.trans h3⟩
      rcases count_nodup n1 (m : Int) with ⟨_, h2⟩ | ⟨c2, _⟩
      · exact absurd hx' h2
      · exact c2
theorem reach_head {ns : List Nd} {a : Nat} (ha : a < ns.length) : ∃ l, reachTop ns (a : Int) = (a : Int) :: l := by
  rw [reachTop_in ha]
  obtain ⟨n, hn⟩ : ∃ n, ns.length = n + 1 := ⟨ns.length - 1, by omega⟩
  rw [hn, reachF_succ]; exact ⟨_, rfl⟩

/-- The tree of nodes ns stands. -/
def One (w : World) (p : Nat) (ns : List Nd) (wr : World) : Prop := ∃ sv rs, New w wr ∧ nds rs = ns ∧ Tr w.heap.size wr p sv rs 40
section
variable {w : World} {p : Nat} {ns : List Nd} {a : World}
theorem One.new {b : World} (h : One w p ns a) (n : New a b) : One w p ns b := by
  obtain ⟨sv, rs, hN, hnd, hT⟩ := h
  exact ⟨sv, rs, hN.trans n, hnd, hT.new n⟩
theorem One.tree (h : One w p ns a) : Tree ns := by
  obtain ⟨sv, rs, hN, rfl, hT⟩ := h; exact hT.tr'
theorem One.nw (h : One w p ns a) : New w a := by
  obtain ⟨sv, rs, hN, rfl, hT⟩ := h; exact hN
theorem one_len (h : One w p ns a) : Calls Try.prog 12 #[.pointer (some ⟨p, 0, none⟩)] a fun e w' => e = .returned (.int .i64 ns.length) ∧ a = w' := by
  obtain ⟨sv, rs, hN, rfl, hT⟩ := h; rw [nds_len]; exact len_c hT
theorem one_over (h : One w p ns a) (i : Int) : Calls Try.prog 13 #[.pointer (some ⟨p, 0, none⟩), .int .i64 i] a fun e w' => e = .returned (.int .i64 (overF ns i)) ∧ a = w' := by
  obtain ⟨sv, rs, hN, rfl, hT⟩ := h; exact over_c hT i
theorem one_cut (h : One w p ns a) (i : Int) : Calls Try.prog 15 #[.pointer (some ⟨p, 0, none⟩), .int .i64 i] a fun e w' => e = .returned (.bool (cutF ns i)) ∧ a = w' := by
  obtain ⟨sv, rs, hN, rfl, hT⟩ := h; exact cut_c hT i
theorem one_kids (h : One w p ns a) (i : Int) : Calls Try.prog 18 #[.pointer (some ⟨p, 0, none⟩), .int .i64 i] a fun e w' => ∃ v, e = .returned v ∧ Ints w' v (kidsF ns i) ∧ New a w' := by
  obtain ⟨sv, rs, hN, rfl, hT⟩ := h; exact kids_c hT i
theorem one_reach (h : One w p ns a) (i : Int) : Calls Try.prog 20 #[.pointer (some ⟨p, 0, none⟩), .int .i64 i] a fun e w' => ∃ v, e = .returned v ∧ Ints w' v (reachTop ns i) ∧ New a w' := by
  obtain ⟨sv, rs, hN, rfl, hT⟩ := h; exact reach_c hT i
theorem one_chain (h : One w p ns a) (i : Int) : Calls Try.prog 22 #[.pointer (some ⟨p, 0, none⟩), .int .i64 i] a fun e w' => ∃ v, e = .returned v ∧ Ints w' v (upF ns true ns.length i) ∧ New a w' := by
  obtain ⟨sv, rs, hN, rfl, hT⟩ := h; rw [nds_len]; exact chain_c hT i
theorem one_path (h : One w p ns a) (i : Int) : Calls Try.prog 24 #[.pointer (some ⟨p, 0, none⟩), .int .i64 i] a fun e w' => ∃ v, e = .returned v ∧ Ints w' v (upF ns false ns.length i) ∧ New a w' := by
  obtain ⟨sv, rs, hN, rfl, hT⟩ := h; rw [nds_len]; exact path_c hT i
theorem one_do (h : One w p ns a) (hn : ns.length < 1000) (r c : Bool) (o : Int) : Calls Try.prog 9 #[.pointer (some ⟨p, 0, none⟩), .agg #[.bool r, .bool c, .int .i64 o]] a fun e w' =>
    e = .returned (.tuple #[.int .i64 (actF ns 40 r c o).1, .int .i64 (actF ns 40 r c o).2.1]) ∧ One w p (actF ns 40 r c o).2.2 w' := by
  obtain ⟨sv, rs, hN, rfl, hT⟩ := h
  refine (do_c hT (by rw [nds_len] at hn; exact hn) r c o).mono ?_
  rintro e w' ⟨sv', rs', rfl, hT', hnd', hU'⟩
  exact ⟨rfl, sv', rs', new_step hN hU' (fun q hq => hT.blk_ge hq), hnd', hT'⟩
end
theorem one_fresh {w w0 : World} (h : New w w0) : One w w0.heap.size [] (w0.alloc (.cells #[.slice none 0 0, .int .i64 40] 54)) :=
  ⟨_, [], h.alloc _, rfl, (Tr.fresh w0 40).low h.size⟩
end Go.Proofs.Ytoijeehkjpcefaa

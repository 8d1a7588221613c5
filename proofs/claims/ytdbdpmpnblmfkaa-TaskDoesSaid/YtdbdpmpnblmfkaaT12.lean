import Derived.Test.YtdbdpmpnblmfkaaT11
import Derived.Test.YtdbdpmpnblmfkaaK4
namespace Go.Proofs.Ytdbdpmpnblmfkaa
open Go.RowKit Go.Proofs.Cmd
variable {B p n : Nat} {sv : Value} {xs : List Int} {most : Int} {w : World}
theorem r_begin_full (h : Tab 47 57 B w p sv n xs most) (hm : most ≤ n) (a b : Int) :
    Calls Try.prog 8 #[.pointer (some ⟨p, 0, none⟩), .int .i64 a, .int .i64 b] w fun e w' => e = .returned (.tuple #[.int .i64 (-1), .int .i64 2]) ∧ New w w' := by
  obtain ⟨s, cap, rfl, hc⟩ := h.shape
  have h0 := cell_of h.head 0
  have h1 := cell_of h.head 1
  simp only [List.getElem?_toArray, List.getElem?_cons_zero, List.getElem?_cons_succ] at h0 h1
  clear h
  go_enter Try.func8, Try.ntmps8
  go_wp2_with fail
  go_quiet (fail)
  go_wp2_with fail
  go_ret2
  exact ⟨rfl, (Upd.refl _ _).drewN _⟩

set_option maxHeartbeats 400000 in
theorem r_begin_more (h : Tab 47 57 B w p sv n xs most) (hm : (n : Int) < most) (hn : n < 1000) (a b : Int) :
    Calls Try.prog 8 #[.pointer (some ⟨p, 0, none⟩), .int .i64 a, .int .i64 b] w fun e w' => ∃ sv', e = .returned (.tuple #[.int .i64 n, .int .i64 0]) ∧
      Tab 47 57 B w' p sv' (n + 1) (xs ++ fresh a b) most ∧ Upd (fun k => k = p ∨ sv.ownBlock = some k) w w' := by
  obtain ⟨s, cap, rfl, hc⟩ := h.shape
  have h0 := cell_of h.head 0
  have h1 := cell_of h.head 1
  simp only [List.getElem?_toArray, List.getElem?_cons_zero, List.getElem?_cons_succ] at h0 h1
  have H := Lib.hid h
  have hbase : B ≤ w.heap.size := by have := h.base; have := lt_of h.head; omega
  have hplt := lt_of h.head
  have hnm : ¬ most ≤ (n : Int) := by omega
  obtain ⟨i0, hi, hz0, hz1, hz2⟩ := info_parts info57'
  clear h hm
  go_enter Try.func8, Try.ntmps8
  go_wp2_with fail
  go_quiet (fail)
  have HNq := Lib.hid (show New w (w.drewN nq) from (Upd.refl _ _).drewN _)
  have h0q : (w.drewN nq).cell? ⟨p, 0, none⟩ = _ := h0
  have hpq : p < (w.drewN nq).heap.size := hplt
  have hsz : w.heap.size ≤ (w.drewN nq).heap.size := Nat.le_refl _
  have Hq := Lib.hid (H.out.new HNq.out)
  generalize w.drewN nq = wq at HNq h0q hpq hsz Hq ⊢
  clear h0 h1 hplt
  go_wp2_with (at_builtin; refine wpList_app _ rfl (.tmp 19) (.tmp 23) 45 rfl wq.heap.size 57 i0 _ 17 136 Try.underlying45 hi hz0 hz1 hz2 rfl (by decide) _ 0 [] rfl ?hown B _ n (xs.map (Value.int .i64)) rfl ?hu ?c2 ?c3 ?c4 ?c5 ?_)
  case hown => exact World.ownsRow_lit _ #[] 0 (Nat.le_refl _) (by simp) rfl
  case hu => exact owns_new Hq.out.rows (new_alloc _ _)
  case c2 => intro u hu; obtain ⟨x, _, rfl⟩ := List.mem_map.1 hu; rfl
  case c3 => unfold maxLen; omega
  case c4 => omega
  case c5 => first | (simp; done) | (simp; omega)
  intro v1 w1 hown1 hgrow1
  have hv1 := hown1.lt
  have N1 : New wq w1 := (new_alloc _ _).grown hgrow1 (fun k e => by simp [Value.ownBlock] at e; subst e; right; simp)
  have b1 := N1.size
  have HO1 := Lib.hid hown1
  have HN1 := Lib.hid N1
  clear hown1 hgrow1 N1
  go_wp2_with (at_builtin; refine wpList_append_own _ rfl (.tmp 24) (.tmp 28) 45 rfl wq.heap.size 57 i0 _ 17 136 Try.underlying45 hi hz0 hz1 hz2 rfl (by decide) _ n (xs.map (Value.int .i64)) rfl ?hown ⟨w1.heap.size, 0, none⟩ 1 1 ((fresh a b).map (Value.int .i64)) rfl rfl ?c1 ?c2 ?c3 ?c4 ?c5 ?_)
  case hown => exact owns_new HO1.out (new_alloc _ _)
  case c1 => exact World.news_of_block (cs := ((fresh a b).map (Value.int .i64)).toArray) (t := 57) (fr := (0, 0)) (heap_at _ (by simp))
  case c2 => intro u hu; obtain ⟨x, _, rfl⟩ := List.mem_map.1 hu; rfl
  case c3 => unfold maxLen; omega
  case c4 => omega
  case c5 => first | (simp; done) | (simp; omega)
  intro v' w2 hown2 hgrow _
  have U2 : New w w2 := HNq.out.trans ((HN1.out.alloc _).grown hgrow (fun k e => .inr (hv1 k e).1))
  rw [← List.map_append] at hown2
  have hT := H.out.grow (by decide) (New.upd U2 _) (owns_base hown2 (by omega)) (by omega)
  have hp1 : w2.heap[p]? = some (.cells #[.slice s n cap, .int .i64 most] 47 (0, 0)) := New.heap U2 H.out.head
  obtain ⟨g', cap', rfl⟩ : ∃ g cap', v' = .slice (some ⟨g, 0, none⟩) (n + 1) cap' := by
    rcases hown2.2 with ⟨_, h⟩ | ⟨g, cap', _, h, _⟩
    · omega
    · exact ⟨g, cap', h⟩
  have q0 := cell_of hp1 0
  have f0 := frozen_of hp1 0
  simp only [List.getElem?_toArray, List.getElem?_cons_zero] at q0
  have HT := Lib.hid hT
  have HU := Lib.hid U2
  clear hT hp1 hown2 hgrow U2
  go_wp2_with fail
  go_ret2
  refine ⟨_, by simp, HT.out, ?_⟩
  exact Upd.setAt (New.upd HU.out _) (.inl (.inl rfl)) _ _
end Go.Proofs.Ytdbdpmpnblmfkaa

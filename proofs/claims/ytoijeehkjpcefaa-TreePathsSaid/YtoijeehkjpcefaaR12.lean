import Derived.Test.YtoijeehkjpcefaaR11
import Derived.Laws.EntriesVeiled
namespace Go.Proofs.Ytoijeehkjpcefaa
open Go.RowKit Go.Proofs.Cmd
variable {B p q : Nat} {sv rv : Value} {rs : List Row} {ns : List Nd} {most : Int} {w : World}

def reachTop (ns : List Nd) (i : Int) : List Int := if isIn ns.length i then reachF ns ns.length i.toNat else []
theorem Tr.tr' (h : Tr B w p sv rs most) : Tree (nds rs) := fun i hi => h.ov (by rw [nds_len] at hi; exact hi)
theorem Rf.tr' (h : Rf B w q rv ns most) : Tree ns := fun _ hi => h.ov hi
theorem Tr.blk_lt (h : Tr B w p sv rs most) {k : Nat} (hk : Tr.blk p sv rs k) : k < w.heap.size := by
  rcases hk with rfl | hk | ⟨i, r, hr, hk⟩
  · exact lt_of h.head
  · exact (h.rows.lt k hk).2
  · exact ((h.kids i r hr).lt k hk).2
theorem reach_c (h : Tr B w p sv rs most) (i : Int) : Calls Try.prog 20 #[.pointer (some ⟨p, 0, none⟩), .int .i64 i] w fun e w' => ∃ v, e = .returned v ∧ Ints w' v (reachTop (nds rs) i) ∧ New w w' := by
  have H := Lib.hid h
  cases hI : isIn rs.length i
  · have HI := Lib.hid hI
    have TH := Lib.hid (there_c (h.new (((Upd.refl _ w).alloc (.cells #[.pointer (some ⟨p, 0, none⟩)] 24)).alloc (.cells #[.slice none 0 0] 45))) i)
    rw [hI] at TH
    clear h hI
    go_enter Try.func20, Try.ntmps20
    go_wp2_with fail
    refine TH.out.mono ?_; rintro e w' ⟨rfl, rfl⟩
    go_wp2_with fail
    go_ret
    have e0 : reachTop (nds rs) i = [] := by unfold reachTop; rw [nds_len, HI.out]; rfl
    exact ⟨_, rfl, by rw [e0]; exact Ints.nil _, ((Upd.refl _ w).alloc (.cells #[.pointer (some ⟨p, 0, none⟩)] 24)).alloc (.cells #[.slice none 0 0] 45)⟩
  · have HI := Lib.hid hI
    have TH := Lib.hid (there_c (h.new (((Upd.refl _ w).alloc (.cells #[.pointer (some ⟨p, 0, none⟩)] 24)).alloc (.cells #[.slice none 0 0] 45))) i)
    rw [hI] at TH
    obtain ⟨k, rfl, hk⟩ := isIn_nat hI
    have hW : ∃ W3 : World, W3 = ((w.alloc (.cells #[.pointer (some ⟨p, 0, none⟩)] 24)).alloc (.cells #[.slice none 0 0] 45)).alloc (.cells #[.func (.func 31) #[] #[.pointer (some ⟨w.heap.size + 1, 0, none⟩), .pointer (some ⟨w.heap.size, 0, none⟩), .pointer (some ⟨w.heap.size + 2, 0, none⟩)]] 58) := ⟨_, rfl⟩
    obtain ⟨W3, hW⟩ := hW
    have hN : New w W3 := by rw [hW]; exact ((Upd.refl _ _).alloc _ |>.alloc _).alloc _
    have HW := Lib.hid hW
    have h0 : W3.heap[w.heap.size]? = some (.cells #[.pointer (some ⟨p, 0, none⟩)] 24 (0, 0)) := by rw [hW]; exact heap_alloc (heap_alloc (heap_at _ rfl) _) _
    have h1 : W3.heap[w.heap.size + 1]? = some (.cells #[.slice none 0 0] 45 (0, 0)) := by rw [hW]; exact heap_alloc (heap_at _ (by simp)) _
    have h2 : W3.heap[w.heap.size + 2]? = some (.cells #[.func (.func 31) #[] #[.pointer (some ⟨w.heap.size + 1, 0, none⟩), .pointer (some ⟨w.heap.size, 0, none⟩), .pointer (some ⟨w.heap.size + 2, 0, none⟩)]] 58 (0, 0)) := by rw [hW]; exact heap_at _ (by simp)
    have FA : Fast W3 (w.heap.size + 1) w.heap.size (w.heap.size + 2) p B sv rs most :=
      ⟨h.new hN, lt_of h1, fun q hq e => by have := h.blk_lt hq; omega, h0, by omega, h2, by omega⟩
    have VI : Vis W3 (w.heap.size + 1) W3 (.slice none 0 0) [] := ⟨Upd.refl _ _, h1, World.ownsRow_nil _ _ _ _⟩
    have hlen := reach_len h.tr' (f := rs.length) (i := k) (by rw [nds_len]; exact hk) (by rw [nds_len]; omega)
    rw [nds_len] at hlen
    have hsm := h.small
    have VC := Lib.hid (visit_c FA rs.length k _ [] W3 VI hk (by omega) (by simp; omega))
    have HN := Lib.hid hN
    have hre : reachTop (nds rs) (k : Int) = reachF (nds rs) rs.length k := by unfold reachTop; rw [nds_len, hI]; simp
    have HRE := Lib.hid hre
    clear h hI hW hN h0 h1 h2 FA VI hre
    go_enter Try.func20, Try.ntmps20
    go_wp2_with fail
    refine TH.out.mono ?_; rintro e w' ⟨rfl, rfl⟩
    go_wp2_with fail
    rw [← HW.out]
    refine VC.out.mono ?_
    rintro e w3 ⟨⟨u, rfl⟩, v3, hV3⟩
    have o0 := cell_of hV3.out 0
    simp only [List.getElem?_toArray, List.getElem?_cons_zero] at o0
    have HV3 := Lib.hid hV3
    clear hV3
    go_wp2_with fail
    go_ret
    rw [HRE.out]
    refine ⟨_, rfl, ⟨by have := HV3.out.row; rw [List.nil_append] at this; exact owns_base this (Nat.zero_le _), by omega⟩, ?_⟩
    exact HN.out.then HV3.out.upd (fun a ha e => by omega)
end Go.Proofs.Ytoijeehkjpcefaa

import Derived.Test.YtffehagmchcpkaaA5
namespace Go.Proofs.Ytffehagmchcpkaa
open Go.RowKit Go.Proofs.Cmd
variable {N : Nat} {rows : List (List Nat)} {s : St} {w w' : World} {b : Bl}

def DoneB (N : Nat) (b : Bl) (w : World) (r : Bool × List (List Nat)) (e : Ending) (w' : World) : Prop := e = .returned (.bool r.1) ∧ Rg N r.2 b w' ∧ Upd b.S w w'
theorem split_of {l : List Nat} (h : l.Nodup) {m : Nat} (hm : m ∈ l) : ∃ l1 l2, l = l1 ++ m :: l2 ∧ l.filter (fun n => decide (n ≠ m)) = l1 ++ l2 := by
  obtain ⟨l1, l2, rfl⟩ := List.append_of_mem hm
  refine ⟨l1, l2, rfl, ?_⟩
  have hp : (l1 ++ m :: l2).Perm (m :: (l1 ++ l2)) := List.perm_middle
  have hn := (List.nodup_cons.1 (hp.nodup_iff.1 h)).1
  have f1 : l1.filter (fun n => decide (n ≠ m)) = l1 := List.filter_eq_self.2 (fun a ha => by simp; rintro rfl; exact hn (by simp [ha]))
  have f2 : l2.filter (fun n => decide (n ≠ m)) = l2 := List.filter_eq_self.2 (fun a ha => by simp; rintro rfl; exact hn (by simp [ha]))
  rw [List.filter_append, List.filter_cons_of_neg (by simp), f1, f2]

set_option maxRecDepth 100000 in
set_option maxHeartbeats 1000000 in
theorem drop_c (h : Rg N rows b w) (x : Int) : Calls Try.prog 60 #[.pointer (some ⟨b.p, 0, none⟩), .int .i64 x] w (DoneB N b w (dropR rows x)) := by
  obtain ⟨s, h1, h2⟩ := h
  have IC := Lib.hid (in_c h1 x)
  rw [h2.in_] at IC
  by_cases hm : inR rows x = -1
  · rw [hm] at IC
    have HF := Lib.hid (show dropR rows x = (false, rows) by unfold dropR; rw [if_pos hm])
    have HG := Lib.hid (show Rg N rows b w from ⟨s, h1, h2⟩)
    clear hm h1 h2
    go_enter Try.func60, Try.ntmps60
    go_wp2_with fail
    refine IC.out.mono ?_; rintro e w' ⟨rfl, rfl⟩
    go_wp2_with fail
    go_ret
    rw [HF.out]
    exact ⟨rfl, HG.out, Upd.refl _ _⟩
  · rcases inR_spec rows x with ⟨e, _⟩ | ⟨r, l, hl, hx, e⟩
    · exact absurd e hm
    obtain ⟨m, hml, rfl⟩ := mem_lz.1 hx
    rw [e] at IC
    obtain ⟨l1, l2, hsp, hfil⟩ := split_of (h2.nodup r l hl) hml
    have HF := Lib.hid (show dropR rows (m : Int) = (true, rows.set r (l1 ++ l2)) by
      unfold dropR; rw [if_neg hm, e, Int.toNat_natCast, rowAt_nat hl, Int.toNat_natCast, hfil])
    have hl' : rows[r]? = some (l1 ++ m :: l2) := by rw [hl, hsp]
    obtain ⟨p, u, hp⟩ := last_of (N + r) l1
    obtain ⟨v, q, hq⟩ := first_of (N + r) l2
    obtain ⟨k1, k2, k3, k4, k5, k6⟩ := h2.drop hl' hp hq
    have hmN := h2.lt r l hl m hml
    have hrl := h2.rlt hl
    have hlen := h2.len r _ hl
    have hsm := h2.small hl
    have hN := h2.sz.n
    have hR := h2.sz.r
    have hpos : 1 ≤ l.length := by rw [hsp]; simp; omega
    have hne : ((r : Int) == -1) = false := by simp
    have h1' : Ar w.drew b s := h1.new ((Upd.refl _ _).drew)
    have JC := Lib.hid (join_c h1' u v (by rw [h2.sz.nx]; exact k4) (by rw [h2.sz.pv]; exact k5) (by rw [h2.sz.nx]; omega) (by rw [h2.sz.pv]; omega))
    have p0 := h1.p0
    have p1 := h1.p1
    have n0 := cells3_cell h1.nx (i := m) (by rw [h2.sz.nx]; omega)
    have n1 := cells3_cell h1.pv (i := m) (by rw [h2.sz.pv]; omega)
    rw [k2] at n0
    rw [k1] at n1
    have m0 : (0 : Int) ≤ (m : Int) := by omega
    have m1 : (m : Int) < (s.nx.length : Int) := by rw [h2.sz.nx]; omega
    have m2 : (m : Int) < (s.pv.length : Int) := by rw [h2.sz.pv]; omega
    have m3 : (m : Int) < (s.inn.length : Int) := by rw [h2.sz.inn]; omega
    have r1 : (r : Int) < (s.lg.length : Int) := by rw [h2.sz.lg]; omega
    have K6 := Lib.hid k6
    have SZ := Lib.hid h2.sz
    have KK := Lib.hid (show dropS s m = { nx := (s.nx.set u (v : Int)).set m (m : Int), pv := (s.pv.set v (u : Int)).set m (m : Int), inn := s.inn.set m (-1), lg := s.lg.set r (s.lg.getD r 0 - 1) } from by
      unfold dropS; rw [k1, k2, k3, Int.toNat_natCast, Int.toNat_natCast, Int.toNat_natCast])
    have HLEN := Lib.hid hlen
    clear hm hx e hsp hfil hl hl' hp hq k1 k2 k3 k6 h1 h1' h2 hml hlen
    go_enter Try.func60, Try.ntmps60
    go_wp2_with fail
    refine IC.out.mono ?_; rintro e w' ⟨rfl, rfl⟩
    go_wp2_with fail
    go_still_tail 19, (by kernel_rfl)
    go_wp2_with fail
    refine JC.out.mono ?_
    rintro e w2 ⟨⟨u2, rfl⟩, hA, hU⟩
    have A2 := Lib.hid hA
    have U2 := Lib.hid (pre_new ((Upd.refl _ w).drew) hU)
    have p0 : w2.cell? ⟨b.p, 0, none⟩ = some (.slice (some ⟨b.gn, 0, none⟩) s.nx.length s.nx.length) := by have := hA.p0; simpa [arr, joinS] using this
    have p1 : w2.cell? ⟨b.p, 1, none⟩ = some (.slice (some ⟨b.gp, 0, none⟩) s.pv.length s.pv.length) := by have := hA.p1; simpa [arr, joinS] using this
    have n0 := cells3_cell hA.nx (i := m) (by simp [joinS]; omega)
    have n1 := cells3_cell hA.pv (i := m) (by simp [joinS]; omega)
    have f0 := hA.fn m
    have f1 := hA.fp m
    obtain ⟨d1, d2, _, _⟩ := hA.p_ne
    have dn := hA.np
    have t0 : ∀ (w' : World) v, (w'.setCell ⟨b.gn, m, none⟩ v).cell? ⟨b.p, 0, none⟩ = w'.cell? ⟨b.p, 0, none⟩ := fun w' v => set_far w' (Ne.symm d1) _ _ v
    have t1 : ∀ (w' : World) v, (w'.setCell ⟨b.gn, m, none⟩ v).cell? ⟨b.p, 1, none⟩ = w'.cell? ⟨b.p, 1, none⟩ := fun w' v => set_far w' (Ne.symm d1) _ _ v
    have t2 : ∀ (w' : World) v, (w'.setCell ⟨b.gn, m, none⟩ v).cell? ⟨b.gp, m, none⟩ = w'.cell? ⟨b.gp, m, none⟩ := fun w' v => set_far w' dn _ _ v
    have t3 : ∀ (w' : World) v, (w'.setCell ⟨b.gp, m, none⟩ v).cell? ⟨b.p, 0, none⟩ = w'.cell? ⟨b.p, 0, none⟩ := fun w' v => set_far w' (Ne.symm d2) _ _ v
    have t4 : ∀ (w' : World) v, (w'.setCell ⟨b.gp, m, none⟩ v).cell? ⟨b.p, 1, none⟩ = w'.cell? ⟨b.p, 1, none⟩ := fun w' v => set_far w' (Ne.symm d2) _ _ v
    clear hA hU d1 d2 dn
    go_wp2_with fail
    go_region_held3 (fun w' => w'.cell? ⟨b.p, 0, none⟩ = some (.slice (some ⟨b.gn, 0, none⟩) s.nx.length s.nx.length) ∧ w'.cell? ⟨b.p, 1, none⟩ = some (.slice (some ⟨b.gp, 0, none⟩) s.pv.length s.pv.length)) (go_keep) (fail)
    have A3 := Lib.hid (((A2.out.setN m (m : Int)).setP m (m : Int)).new ((Upd.refl _ _).drew))
    have U3 := Lib.hid ((Upd.setAt (S := b.S) (Upd.setAt (S := b.S) U2.out (.inl (.inl rfl)) m (.int .i64 m)) (.inl (.inr (.inl rfl))) m (.int .i64 m)).drew)
    generalize ((w2.setCell ⟨b.gn, m, none⟩ (.int .i64 m)).setCell ⟨b.gp, m, none⟩ (.int .i64 m)).drew = w3 at A3 U3 ⊢
    have p2 : w3.cell? ⟨b.p, 2, none⟩ = some (.slice (some ⟨b.gi, 0, none⟩) s.inn.length s.inn.length) := A3.out.p2
    have i0 : w3.cell? ⟨b.gi, m, none⟩ = some (.int .i64 (s.inn.getD m 0)) := cells3_cell A3.out.inn (i := m) (by show m < s.inn.length; rw [SZ.out.inn]; exact hmN)
    have if0 := A3.out.fi m
    clear p0 p1 n0 n1 f0 f1 t0 t1 t2 t3 t4 A2 U2
    go_upto_region 7 with (fail)
    have A4 := Lib.hid (A3.out.setI m (-1))
    have U4 := Lib.hid (Upd.setAt (S := b.S) U3.out (.inl (.inr (.inr (.inl rfl)))) m (.int .i64 (-1)))
    generalize w3.setCell ⟨b.gi, m, none⟩ (.int .i64 (-1)) = w4 at A4 U4 ⊢
    have p3 : w4.cell? ⟨b.p, 3, none⟩ = some (.slice (some ⟨b.gl, 0, none⟩) s.lg.length s.lg.length) := A4.out.p3
    have l0 : w4.cell? ⟨b.gl, r, none⟩ = some (.int .i64 (s.lg.getD r 0)) := cells3_cell A4.out.lg (i := r) (by show r < s.lg.length; rw [SZ.out.lg]; exact hrl)
    have lf0 := A4.out.fl r
    have A5 := Lib.hid (A4.out.setL r (s.lg.getD r 0 - 1))
    have U5 := Lib.hid (Upd.setAt (S := b.S) U4.out (.inl (.inr (.inr (.inr rfl)))) r (.int .i64 (s.lg.getD r 0 - 1)))
    have FIN := Lib.hid (show Ar (w4.setCell ⟨b.gl, r, none⟩ (.int .i64 (s.lg.getD r 0 - 1))) b (dropS s m) from by rw [KK.out]; exact A5.out)
    have hl0 : 1 ≤ s.lg.getD r 0 := by have := HLEN.out; omega
    have hl1 : s.lg.getD r 0 ≤ 1000 := by have := HLEN.out; omega
    clear p2 i0 if0 A3 U3 A4 U4 A5 KK
    generalize s.lg.getD r 0 = lv at l0 hl0 hl1 FIN U5 HLEN
    go_wp2_with fail
    go_ret
    rw [HF.out]
    exact ⟨rfl, ⟨_, FIN.out, K6.out⟩, U5.out⟩
end Go.Proofs.Ytffehagmchcpkaa

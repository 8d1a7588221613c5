import Derived.Test.YtffehagmchcpkaaA2
namespace Go.Proofs.Ytffehagmchcpkaa
open Go.RowKit Go.Proofs.Cmd
variable {w w' : World} {b : Bl} {s : St}

theorem set_far (w : World) {g g' : Nat} (h : g ≠ g') (i j : Nat) (v : Value) : (w.setCell ⟨g, i, none⟩ v).cell? ⟨g', j, none⟩ = w.cell? ⟨g', j, none⟩ :=
  World.cell?_of_block (heap_set_other h i v)
def joinS (s : St) (a c : Nat) : St := { s with nx := s.nx.set a (c : Int), pv := s.pv.set c (a : Int) }
theorem join_c (h : Ar w b s) (a c : Nat) (ha : a < s.nx.length) (hc : c < s.pv.length) (_hn : s.nx.length ≤ 2000) (_hp : s.pv.length ≤ 2000) :
    Calls Try.prog 91 #[.pointer (some ⟨b.p, 0, none⟩), .int .i64 a, .int .i64 c] w fun e w' => (∃ u, e = .returned u) ∧ Ar w' b (joinS s a c) ∧ Upd b.S w w' := by
  have H := Lib.hid h
  have h0 := h.p0
  have h1 := h.p1
  have n0 := cells3_cell h.nx ha
  have n1 := cells3_cell h.pv hc
  have f0 := h.fn a
  have f1 := h.fp c
  obtain ⟨d1, d2, _, _⟩ := h.p_ne
  have dn := h.np
  have a0 : (0 : Int) ≤ (a : Int) := by omega
  have a1 : (a : Int) < (s.nx.length : Int) := by omega
  have c0 : (0 : Int) ≤ (c : Int) := by omega
  have c1 : (c : Int) < (s.pv.length : Int) := by omega
  have k0 : ∀ (w' : World) v, (w'.setCell ⟨b.gn, a, none⟩ v).cell? ⟨b.p, 0, none⟩ = w'.cell? ⟨b.p, 0, none⟩ := fun w' v => set_far w' (Ne.symm d1) _ _ v
  have k1 : ∀ (w' : World) v, (w'.setCell ⟨b.gn, a, none⟩ v).cell? ⟨b.p, 1, none⟩ = w'.cell? ⟨b.p, 1, none⟩ := fun w' v => set_far w' (Ne.symm d1) _ _ v
  have k2 : ∀ (w' : World) v, (w'.setCell ⟨b.gn, a, none⟩ v).cell? ⟨b.gp, c, none⟩ = w'.cell? ⟨b.gp, c, none⟩ := fun w' v => set_far w' dn _ _ v
  have k3 : ∀ (w' : World) v, (w'.setCell ⟨b.gp, c, none⟩ v).cell? ⟨b.p, 0, none⟩ = w'.cell? ⟨b.p, 0, none⟩ := fun w' v => set_far w' (Ne.symm d2) _ _ v
  have k4 : ∀ (w' : World) v, (w'.setCell ⟨b.gp, c, none⟩ v).cell? ⟨b.p, 1, none⟩ = w'.cell? ⟨b.p, 1, none⟩ := fun w' v => set_far w' (Ne.symm d2) _ _ v
  clear h d1 d2 dn
  go_enter Try.func91, Try.ntmps91
  go_region_held3 (fun w' => w'.cell? ⟨b.p, 0, none⟩ = some (arr b.gn s.nx) ∧ w'.cell? ⟨b.p, 1, none⟩ = some (arr b.gp s.pv)) (go_keep) (fail)
  go_end0
  exact ⟨⟨_, rfl⟩, ((H.out.setN a c).setP c a).new ((Upd.refl _ _).drew), (((Upd.refl _ _).setAt (.inl (.inl rfl)) _ _).setAt (.inl (.inr (.inl rfl))) _ _).drew⟩

/-- The sizes of an arena of N nodes and R rows. -/
structure Sz (s : St) (N R : Nat) : Prop where
  nx : s.nx.length = N + R
  pv : s.pv.length = N + R
  inn : s.inn.length = N
  lg : s.lg.length = R
  n : N ≤ 1000
  r : R ≤ 1000
theorem Sz.join {s : St} {N R : Nat} (h : Sz s N R) (a c : Nat) : Sz (joinS s a c) N R := ⟨by simp [joinS, h.nx], by simp [joinS, h.pv], h.inn, h.lg, h.n, h.r⟩
def layS (s : St) (r m k : Nat) : St :=
  { joinS (joinS s k m) m (s.nx.getD k 0).toNat with inn := s.inn.set m (r : Int), lg := s.lg.set r (s.lg.getD r 0 + 1) }
theorem lay_c {N R : Nat} (h : Ar w b s) (hz : Sz s N R) (r m k a : Nat) (hr : r < R) (hm : m < N) (hk : k < N + R) (ha : s.nx.getD k 0 = (a : Int)) (ha2 : a < N + R) (hl0 : 0 ≤ s.lg.getD r 0) (hl1 : s.lg.getD r 0 ≤ 1000) :
    Calls Try.prog 90 #[.pointer (some ⟨b.p, 0, none⟩), .int .i64 r, .int .i64 m, .int .i64 k] w fun e w' => e = .returned (.int .i64 0) ∧ Ar w' b (layS s r m k) ∧ Upd b.S w w' := by
  have H := Lib.hid h
  have p0 := h.p0
  have n0 := cells3_cell h.nx (i := k) (by rw [hz.nx]; exact hk)
  rw [ha] at n0
  have J1 := Lib.hid (join_c h k m (by rw [hz.nx]; exact hk) (by rw [hz.pv]; omega) (by have := hz.nx; have := hz.n; have := hz.r; omega) (by have := hz.pv; have := hz.n; have := hz.r; omega))
  have k0 : (0 : Int) ≤ (k : Int) := by omega
  have k1 : (k : Int) < (s.nx.length : Int) := by have := hz.nx; omega
  have Z := Lib.hid hz
  have HA := Lib.hid ha
  clear h ha
  go_enter Try.func90, Try.ntmps90
  go_wp2_with fail
  refine J1.out.mono ?_
  rintro e w1 ⟨⟨u, rfl⟩, hA1, hU1⟩
  have Z1 := Z.out.join k m
  have J2 := Lib.hid (join_c hA1 m a (by rw [Z1.nx]; omega) (by rw [Z1.pv]; exact ha2) (by have := Z1.nx; have := Z1.n; have := Z1.r; omega) (by have := Z1.pv; have := Z1.n; have := Z1.r; omega))
  have U1 := Lib.hid hU1
  clear hA1 hU1 Z1
  go_wp2_with fail
  refine J2.out.mono ?_
  rintro e w2 ⟨⟨u2, rfl⟩, hA2, hU2⟩
  have A2 := Lib.hid hA2
  have U2 := Lib.hid (U1.out.trans hU2)
  have q2 : w2.cell? ⟨b.p, 2, none⟩ = some (arr b.gi s.inn) := hA2.p2
  have i0 : w2.cell? ⟨b.gi, m, none⟩ = some (.int .i64 (s.inn.getD m 0)) := cells3_cell hA2.inn (i := m) (by show m < s.inn.length; rw [Z.out.inn]; exact hm)
  have if0 := hA2.fi m
  have m0 : (0 : Int) ≤ (m : Int) := by omega
  have m1 : (m : Int) < (s.inn.length : Int) := by have := Z.out.inn; omega
  have r0 : (0 : Int) ≤ (r : Int) := by omega
  have r1 : (r : Int) < (s.lg.length : Int) := by have := Z.out.lg; omega
  clear hA2 hU2 p0 n0
  go_upto_region 5 with (fail)
  have A3 := Lib.hid (A2.out.setI m (r : Int))
  have U3 := Lib.hid (Upd.setAt (S := b.S) U2.out (.inl (.inr (.inr (.inl rfl)))) m (.int .i64 r))
  generalize w2.setCell ⟨b.gi, m, none⟩ (.int .i64 r) = w3 at A3 U3 ⊢
  have q3 : w3.cell? ⟨b.p, 3, none⟩ = some (arr b.gl s.lg) := A3.out.p3
  have l0 : w3.cell? ⟨b.gl, r, none⟩ = some (.int .i64 (s.lg.getD r 0)) := cells3_cell A3.out.lg (i := r) (by show r < s.lg.length; rw [Z.out.lg]; exact hr)
  have lf0 := A3.out.fl r
  clear q2 i0 if0 A2 U2 U1
  have FIN := Lib.hid (show Ar (w3.setCell ⟨b.gl, r, none⟩ (.int .i64 (s.lg.getD r 0 + 1))) b (layS s r m k) from by
    have := A3.out.setL r (s.lg.getD r 0 + 1)
    unfold layS; rw [HA.out, Int.toNat_natCast]; exact this)
  have FINU := Lib.hid (Upd.setAt (S := b.S) U3.out (.inl (.inr (.inr (.inr rfl)))) r (.int .i64 (s.lg.getD r 0 + 1)))
  generalize s.lg.getD r 0 = lv at l0 hl0 hl1 FIN FINU
  go_wp2_with fail
  go_ret
  exact ⟨rfl, FIN.out, FINU.out⟩
end Go.Proofs.Ytffehagmchcpkaa

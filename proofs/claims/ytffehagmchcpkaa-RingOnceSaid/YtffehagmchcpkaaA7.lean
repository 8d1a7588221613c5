import Derived.Test.YtffehagmchcpkaaA6
namespace Go.Proofs.Ytffehagmchcpkaa
open Go.RowKit Go.Proofs.Cmd
variable {N : Nat} {rows : List (List Nat)} {s : St} {w w' : World} {b : Bl}

set_option maxRecDepth 100000 in
theorem first_c (h : Rg N rows b w) (r : Int) : Calls Try.prog 64 #[.pointer (some ⟨b.p, 0, none⟩), .int .i64 r] w fun e w' => e = .returned (.int .i64 (firstR rows r)) ∧ New w w' := by
  obtain ⟨s, h1, h2⟩ := h
  have RC := Lib.hid (row_c h1 r)
  rw [h2.sz.lg] at RC
  cases hI : isIn rows.length r
  · rw [hI] at RC
    have HF := Lib.hid (show firstR rows r = -1 by unfold firstR rowAt; rw [hI]; rfl)
    clear h1 h2 hI
    go_enter Try.func64, Try.ntmps64
    go_wp2_with fail
    refine RC.out.mono ?_; rintro e w' ⟨rfl, rfl⟩
    go_wp2_with fail
    go_ret
    exact ⟨by rw [HF.out]; rfl, Upd.refl _ _⟩
  · rw [hI] at RC
    obtain ⟨k, rfl, hk⟩ := isIn_nat hI
    have hl : rows[k]? = some rows[k] := by simp [hk]
    have hlen := h2.len k _ hl
    have p3 := h1.p3
    have l0 := cells3_cell h1.lg (i := k) (by rw [h2.sz.lg]; exact hk)
    rw [hlen] at l0
    have k1 : (k : Int) < (s.lg.length : Int) := by rw [h2.sz.lg]; omega
    have hra := rowAt_nat hl
    cases hrow : rows[k] with
    | nil =>
      rw [hrow] at l0 hra
      have HF := Lib.hid (show firstR rows (k : Int) = -1 by unfold firstR; rw [hra])
      have l0 : w.cell? ⟨b.gl, k, none⟩ = some (.int .i64 0) := l0
      clear h1 h2 hI hl hlen hra hrow
      go_enter Try.func64, Try.ntmps64
      go_wp2_with fail
      refine RC.out.mono ?_; rintro e w' ⟨rfl, rfl⟩
      go_wp2_with fail
      go_ret
      exact ⟨by rw [HF.out]; rfl, Upd.refl _ _⟩
    | cons a l =>
      rw [hrow] at l0 hra
      have HF := Lib.hid (show firstR rows (k : Int) = (a : Int) by unfold firstR; rw [hra])
      have hz : ((((a :: l).length : Nat) : Int) == 0) = false := by simp; omega
      have hz2 : ((l.length : Int) + 1 == 0) = false := by simp; omega
      have hnx := (h2.at_ hl (p := []) (x := N + k) (y := a) (q := l ++ [N + k]) (by rw [hrow]; simp)).1
      have n0 := cells3_cell h1.nx (i := N + k) (by rw [h2.sz.nx]; omega)
      rw [hnx] at n0
      have p0 := h1.p0
      have HC := Lib.hid (fun n => head_c (h1.new (new_drewN w n)) k (by rw [h2.sz.inn]; exact h2.sz.n) (by have := h2.sz.r; omega))
      rw [h2.sz.inn] at HC
      have i1 : ((N + k : Nat) : Int) < (s.nx.length : Int) := by rw [h2.sz.nx]; omega
      obtain ⟨hd, ehd⟩ : ∃ hd, hd = N + k := ⟨_, rfl⟩
      rw [← ehd] at HC n0 i1
      have i0 : (0 : Int) ≤ (hd : Int) := by omega
      clear ehd h1 h2 hI hl hlen hra hrow hnx
      go_enter Try.func64, Try.ntmps64
      go_wp2_with fail
      refine RC.out.mono ?_; rintro e w' ⟨rfl, rfl⟩
      go_wp2_with fail
      go_quiet ((go_at_call 75; exact quiet_left (HC.out _)))
      go_wp2_with fail
      go_ret
      exact ⟨by rw [HF.out]; rfl, new_drewN _ _⟩
def DoneT (N : Nat) (b : Bl) (w : World) (n : Int) (r : Bool × List (List Nat)) (e : Ending) (w' : World) : Prop := e = .returned (.tuple #[.int .i64 n, .bool r.1]) ∧ Rg N r.2 b w' ∧ Upd b.S w w'
theorem take_c (h : Rg N rows b w) (r : Int) : Calls Try.prog 63 #[.pointer (some ⟨b.p, 0, none⟩), .int .i64 r] w (DoneT N b w (firstR rows r) (dropR rows (firstR rows r))) := by
  have FC := Lib.hid (first_c h r)
  have H := Lib.hid h
  clear h
  go_enter Try.func63, Try.ntmps63
  go_wp2_with fail
  refine FC.out.mono ?_; rintro e w1 ⟨rfl, hn⟩
  have N1 := Lib.hid hn
  have DC := Lib.hid (drop_c (H.out.new hn) (firstR rows r))
  clear hn
  go_wp2_with fail
  refine DC.out.mono ?_; rintro e w2 ⟨rfl, hg, hu⟩
  have G := Lib.hid hg
  have U := Lib.hid (pre_new N1.out hu)
  clear hg hu
  go_wp2_with fail
  go_ret2
  exact ⟨rfl, G.out, U.out⟩
def sliceLen : Value → Nat
  | .slice _ n _ => n
  | _ => 0
theorem info3 : (Try.prog.info? 3).map (fun i => (i.zero, i.size, i.bytes)) = some (some (.int .i64 0), 1, 8) := by kernel_rfl
set_option maxRecDepth 100000 in
set_option maxHeartbeats 1000000 in
theorem list_cb (h : Rg N rows b w) (r : Int) : Calls Try.prog 18 #[.pointer (some ⟨b.p, 0, none⟩), .int .i64 r] w fun e w' => ∃ v, e = .returned v ∧ IntsB w.heap.size w' v (lz (rowAt rows r)) ∧ New w w' := by
  obtain ⟨s, h1, h2⟩ := h
  have RC := Lib.hid (row_c h1 r)
  rw [h2.sz.lg] at RC
  cases hI : isIn rows.length r
  · rw [hI] at RC
    have HF := Lib.hid (show rowAt rows r = [] by unfold rowAt; rw [hI]; rfl)
    clear h1 h2 hI
    go_enter Try.func18, Try.ntmps18
    go_wp2_with fail
    refine RC.out.mono ?_; rintro e w' ⟨rfl, rfl⟩
    go_wp2_with fail
    go_ret
    exact ⟨_, rfl, by rw [HF.out]; exact ⟨World.ownsRow_nil _ _ _ _, by simp⟩, Upd.refl _ _⟩
  · rw [hI] at RC
    obtain ⟨k, rfl, hk⟩ := isIn_nat hI
    have hl : rows[k]? = some rows[k] := by simp [hk]
    have hra := rowAt_nat hl
    rw [hra]
    have hsm := h2.small hl
    have hN := h2.sz.n
    have hR := h2.sz.r
    have HH := Lib.hid (fun (wz : World) (hn : New w wz) => head_c (h1.new hn) k (by rw [h2.sz.inn]; exact h2.sz.n) (by omega))
    have HC := Lib.hid (fun n => head_c (h1.new (new_drewN w n)) k (by rw [h2.sz.inn]; exact h2.sz.n) (by omega))
    rw [h2.sz.inn] at HC HH
    obtain ⟨hd, ehd⟩ : ∃ hd, hd = N + k := ⟨_, rfl⟩
    have HAT := Lib.hid (fun (p q : List Nat) (x y : Nat) (e : hd :: rows[k] ++ [hd] = p ++ x :: y :: q) => (h2.at_ hl (p := p) (q := q) (x := x) (y := y) (by rw [← ehd]; exact e)).1)
    have HLT := Lib.hid (show ∀ x ∈ rows[k], x < hd from fun x hx => by have := h2.lt k _ hl x hx; omega)
    have hdn : hd < s.nx.length := by rw [h2.sz.nx]; omega
    rw [← ehd] at HC HH
    have HA := Lib.hid h1
    obtain ⟨i0', hj, hz0, hz1, hz2⟩ := info_parts info3
    generalize rows[k] = row at hsm HAT HLT
    clear h1 h2 hI hl hra ehd hk
    obtain ⟨y0, q0, hy0⟩ := first_of hd row
    have n0 := cells3_cell HA.out.nx hdn
    rw [HAT.out [] q0 hd y0 (by rw [List.cons_append, hy0]; rfl)] at n0
    have p0 := HA.out.p0
    have i1 : (hd : Int) < (s.nx.length : Int) := by omega
    have i0 : (0 : Int) ≤ (hd : Int) := by omega
    have HY := Lib.hid hy0
    clear hy0
    go_enter Try.func18, Try.ntmps18
    go_wp2_with fail
    refine RC.out.mono ?_; rintro e w' ⟨rfl, rfl⟩
    go_wp2_with fail
    go_quiet ((go_at_call 75; exact quiet_left (HC.out _)))
    have NQ := Lib.hid (new_drewN w nq)
    generalize w.drewN nq = wq at NQ ⊢
    go_wp2_with fail
    go_loopw [5, 6] (fun v u wr => ∃ (done rest q : List Nat) (y : Nat), row = done ++ rest ∧ rest ++ [hd] = y :: q ∧ u = .int .i64 y ∧ New w wr ∧ wr.ownsRow w.heap.size 3 1 v done.length ((lz done).map (Value.int .i64))) (fun v _ _ => row.length - sliceLen v)
    case atStart => exact ⟨[], row, q0, y0, rfl, HY.out, rfl, NQ.out, World.ownsRow_nil _ _ _ _⟩
    case round =>
      obtain ⟨done, rest, q, y, hrow, hy, rfl, hN2, hO⟩ := hrel
      have HN := Lib.hid hN2
      have HO := Lib.hid hO
      have HROW := Lib.hid hrow
      have hb := hN2.size
      have hdl : done.length + rest.length = row.length := by rw [hrow]; simp
      obtain ⟨va, vc, hv, _⟩ := owns_shape hO
      have HV := Lib.hid hv
      clear hN2 hO hrow hv n0 p0
      cases rest with
      | nil =>
        simp at hy
        obtain ⟨rfl, rfl⟩ := hy
        have hne : ((hd : Int) != (hd : Int)) = false := by simp
        go_wp2_with fail
        refine (HH.out _ HN.out).mono ?_; rintro e w' ⟨rfl, rfl⟩
        go_wp2_with fail
        go_ret
        have e1 : row = done := by rw [HROW.out]; simp
        refine ⟨_, rfl, ⟨?_, by simp; omega⟩, HN.out⟩
        rw [e1]
        have := HO.out
        simp only [List.length_map]
        exact this
      | cons x rest =>
        simp at hy
        obtain ⟨rfl, rfl⟩ := hy
        obtain ⟨y', q', hy'⟩ := first_of hd rest
        have hx : x < hd := HLT.out x (by rw [HROW.out]; simp)
        have hne : ((x : Int) != (hd : Int)) = true := by simp; omega
        have hnx := HAT.out (hd :: done) q' x y' (by rw [HROW.out, ← hy']; simp)
        have hl1 : done.length ≤ 1000 := by omega
        have HY' := Lib.hid hy'
        clear hy'
        go_wp2_with fail
        refine (HH.out _ HN.out).mono ?_; rintro e w' ⟨rfl, rfl⟩
        go_wp2_with (at_builtin; refine wpList_append_own _ rfl _ _ 39 rfl w.heap.size 3 i0' _ 1 8 Try.underlying39 hj hz0 hz1 hz2 rfl (by decide) _ _ _ rfl (owns_new HO.out (new_alloc _ _)) ⟨wr.heap.size, 0, none⟩ 1 1 [.int .i64 x] rfl rfl (cell_one_new _ _ _) (by simp [Value.oneCell']) (by unfold maxLen; omega) (by omega) (by simp; omega) ?_)
        intro v' w1 hown1 hgrow _
        have HG := Lib.hid ((HN.out.alloc (.cells #[.int .i64 x] 3)).grown hgrow (fun q e => .inr (HO.out.lt q e).1))
        have HO1 := Lib.hid hown1
        obtain ⟨va', vc', hv', _⟩ := owns_shape hown1
        subst hv'
        have A1 := HA.out.new HG.out
        have p0 := A1.p0
        have n0 := cells3_cell A1.nx (i := x) (by omega)
        rw [hnx] at n0
        have x1 : (x : Int) < (s.nx.length : Int) := by omega
        clear hown1 hgrow A1 hnx
        go_wp2_with fail
        go_roundw
        case rel => exact ⟨done ++ [x], rest, q', y', by rw [HROW.out]; simp, HY'.out, rfl, HG.out, by simpa using HO1.out⟩
        case measure => rw [HV.out]; simp [sliceLen]; simp at hdl; omega
theorem list_c (h : Rg N rows b w) (r : Int) : Calls Try.prog 18 #[.pointer (some ⟨b.p, 0, none⟩), .int .i64 r] w fun e w' => ∃ v, e = .returned v ∧ Ints w' v (lz (rowAt rows r)) ∧ New w w' :=
  (list_cb h r).mono fun _ _ ⟨v, h1, h2, h3⟩ => ⟨v, h1, h2.ints, h3⟩
theorem Rg.lt (h : Rg N rows b w) {k : Nat} (hk : b.T k) : k < w.heap.size := by
  obtain ⟨s, h1, _⟩ := h
  rcases hk with rfl | rfl | rfl | rfl | rfl
  · exact lt_of h1.head
  · exact lt_of h1.nx
  · exact lt_of h1.pv
  · exact lt_of h1.inn
  · exact lt_of h1.lg
end Go.Proofs.Ytffehagmchcpkaa

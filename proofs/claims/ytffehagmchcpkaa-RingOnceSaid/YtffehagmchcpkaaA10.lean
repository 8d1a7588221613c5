import Derived.Test.YtffehagmchcpkaaA9
import Derived.Laws.MakeOwn
namespace Go.Proofs.Ytffehagmchcpkaa
open Go.RowKit Go.Proofs.Cmd
variable {N : Nat} {rows : List (List Nat)} {s : St} {w w' : World} {b : Bl}

theorem new_bad (r n : Int) (w : World) (h : r < 1 ∨ 1000 < r ∨ n < 1 ∨ 1000 < n) : Calls Try.prog 13 #[.int .i64 r, .int .i64 n] w fun e w' => e = .returned (.tuple #[.pointer none, .int .i64 1]) ∧ w = w' := by
  by_cases h1 : r < 1
  · clear h
    go_enter Try.func13, Try.ntmps13
    go_wp2
    go_ret2
    exact ⟨rfl, rfl⟩
  have h1' : 1 ≤ r := by omega
  by_cases h2 : 1000 < r
  · clear h
    go_enter Try.func13, Try.ntmps13
    go_wp2
    go_ret2
    exact ⟨rfl, rfl⟩
  have h2' : r ≤ 1000 := by omega
  by_cases h3 : n < 1
  · clear h
    go_enter Try.func13, Try.ntmps13
    go_wp2
    go_ret2
    exact ⟨rfl, rfl⟩
  have h3' : 1 ≤ n := by omega
  have h4 : 1000 < n := by omega
  clear h
  go_enter Try.func13, Try.ntmps13
  go_wp2
  go_ret2
  exact ⟨rfl, rfl⟩
/-- A block of zeros. -/
def zobj (n : Nat) : Obj := cells3 (List.replicate n 0)
theorem zobj_made (n : Nat) : Obj.cells (madeCells (Value.int .i64 0).cells (n * 1)) 3 = zobj n := by
  unfold zobj cells3
  have e : madeCells (Value.int .i64 0).cells (n * 1) = ((List.replicate n (0 : Int)).map (Value.int .i64)).toArray := by
    apply Array.ext
    · simp [madeCells]
    · intro i h1 h2; simp [madeCells, Value.cells, Nat.mod_one]
  rw [e]
theorem mk_c (n : Nat) (k : Int) (hk : k = (n : Int)) (hn : n ≤ 2000) (W : World) : (Instr.makeSlice 39 (.int .i64 k) (.int .i64 k)).run Try.prog W = .ok (.slice (some ⟨W.heap.size, 0, none⟩) n n) (W.alloc (zobj n)) := by
  subst hk
  obtain ⟨i0, hi, hz0, hz1, hz2⟩ := info_parts info3
  have := run_makeSlice (P := Try.prog) W 39 3 i0 _ Try.underlying39 hi hz0 .i64 .i64 (n : Int) (n : Int) (by omega) (Int.le_refl _) (by rw [hz1]; simp; omega) (by rw [hz2]; omega) (by omega)
  rw [this]
  simp only [Int.toNat_natCast]
  rw [hz1, zobj_made]
/-- An arena just made, all its arrays zero. -/
def Made (N R : Nat) (w : World) (v : Value) (wx : World) : Prop :=
  ∃ b : Bl, v = .pointer (some ⟨b.p, 0, none⟩) ∧ Ar wx b ⟨List.replicate (N + R) 0, List.replicate (N + R) 0, List.replicate N 0, List.replicate R 0⟩ ∧ New w wx ∧ ∀ k, b.T k → w.heap.size ≤ k
theorem made_mk {N R : Nat} {w wx : World} (p gn gp gi gl : Nat) (v : Value) (hv : v = .pointer (some ⟨p, 0, none⟩))
    (head : wx.heap[p]? = some (.cells #[.slice (some ⟨gn, 0, none⟩) (N + R) (N + R), .slice (some ⟨gp, 0, none⟩) (N + R) (N + R), .slice (some ⟨gi, 0, none⟩) N N, .slice (some ⟨gl, 0, none⟩) R R] 127 (0, 0)))
    (a : wx.heap[gn]? = some (zobj (N + R))) (c : wx.heap[gp]? = some (zobj (N + R))) (d : wx.heap[gi]? = some (zobj N)) (e : wx.heap[gl]? = some (zobj R))
    (n1 : gn ≠ gp) (n2 : gn ≠ gi) (n3 : gn ≠ gl) (n4 : gp ≠ gi) (n5 : gp ≠ gl) (n6 : gi ≠ gl) (hN : New w wx) (hge : w.heap.size ≤ p ∧ w.heap.size ≤ gn ∧ w.heap.size ≤ gp ∧ w.heap.size ≤ gi ∧ w.heap.size ≤ gl) : Made N R w v wx := by
  refine ⟨⟨p, gn, gp, gi, gl⟩, hv, ⟨?_, a, c, d, e, n1, n2, n3, n4, n5, n6⟩, hN, ?_⟩
  · simp only [arr, List.length_replicate]; exact head
  · obtain ⟨g1, g2, g3, g4, g5⟩ := hge
    rintro k (rfl | rfl | rfl | rfl | rfl)
    · exact g1
    · exact g2
    · exact g3
    · exact g4
    · exact g5
/-- The first k are numbered. -/
def idl (k M : Nat) : List Int := (List.range k).map (fun n : Nat => (n : Int)) ++ List.replicate (M - k) 0
theorem idl_len {k M : Nat} (h : k ≤ M) : (idl k M).length = M := by simp [idl]; omega
theorem idl_set {k M : Nat} (h : k < M) : (idl k M).set k (k : Int) = idl (k + 1) M := by
  unfold idl
  rw [List.set_append_right _ _ (by simp)]
  obtain ⟨d, hd⟩ : ∃ d, M - k = d + 1 := ⟨M - k - 1, by omega⟩
  rw [hd, show M - (k + 1) = d by omega, List.range_succ, List.map_append]
  simp [List.replicate_succ]
theorem idl_get {M j : Nat} (h : j < M) : (idl M M).getD j 0 = (j : Int) := by simp [idl, h]
def negl (k M : Nat) : List Int := List.replicate k (-1) ++ List.replicate (M - k) 0
theorem negl_len {k M : Nat} (h : k ≤ M) : (negl k M).length = M := by simp [negl]; omega
theorem negl_set {k M : Nat} (h : k < M) : (negl k M).set k (-1) = negl (k + 1) M := by
  unfold negl
  rw [List.set_append_right _ _ (by simp)]
  obtain ⟨d, hd⟩ : ∃ d, M - k = d + 1 := ⟨M - k - 1, by omega⟩
  rw [hd, show M - (k + 1) = d by omega, List.replicate_succ' (n := k)]
  simp [List.replicate_succ]
theorem negl_get {M j : Nat} (h : j < M) : (negl M M).getD j 0 = -1 := by simp [negl, h]
theorem rep_start {N R : Nat} (hN : N ≤ 1000) (hR : R ≤ 1000) : Rep N (List.replicate R []) ⟨idl (N + R) (N + R), idl (N + R) (N + R), negl N N, List.replicate R 0⟩ := by
  have row : ∀ (r : Nat) (l : List Nat), (List.replicate R ([] : List Nat))[r]? = some l → r < R ∧ l = [] := by
    intro r l h
    rw [List.getElem?_replicate] at h
    split at h
    · rename_i h1; cases h; exact ⟨h1, rfl⟩
    · cases h
  refine ⟨⟨by simp [idl_len], by simp [idl_len], negl_len (Nat.le_refl _), by simp, hN, by simpa using hR⟩, ?_, ?_, ?_, ?_, ?_, ?_⟩
  · intro r l h x hx; obtain ⟨_, rfl⟩ := row r l h; cases hx
  · intro r l h; obtain ⟨_, rfl⟩ := row r l h; exact List.nodup_nil
  · intro r l h; obtain ⟨hr, rfl⟩ := row r l h
    exact ⟨idl_get (by omega), idl_get (by omega), trivial⟩
  · intro r l h; obtain ⟨hr, rfl⟩ := row r l h
    simp [hr]
  · intro n hn r l h; obtain ⟨hr, rfl⟩ := row r l h
    rw [negl_get hn]; simp
  · intro n hn; left; exact negl_get hn
set_option maxRecDepth 100000 in
set_option maxHeartbeats 4000000 in
theorem new_good (R N : Nat) (w : World) (h1 : 1 ≤ R) (h2 : R ≤ 1000) (h3 : 1 ≤ N) (h4 : N ≤ 1000) :
    Calls Try.prog 13 #[.int .i64 R, .int .i64 N] w fun e w' => ∃ b : Bl, e = .returned (.tuple #[.pointer (some ⟨b.p, 0, none⟩), .int .i64 0]) ∧ Rg N (List.replicate R []) b w' ∧ New w w' ∧ ∀ k, b.T k → w.heap.size ≤ k := by
  have r1 : (1 : Int) ≤ (R : Int) := by omega
  have r2 : (R : Int) ≤ 1000 := by omega
  have n1 : (1 : Int) ≤ (N : Int) := by omega
  have n2 : (N : Int) ≤ 1000 := by omega
  have m1 := mk_c (N + R) ((N : Int) + (R : Int)) (by omega) (by omega)
  have m2 := mk_c N (N : Int) rfl (by omega)
  have m3 := mk_c R (R : Int) rfl (by omega)
  have wr : IntKind.i64.wrap ((N : Int) + (R : Int)) = ((N + R : Nat) : Int) := by
    rw [IntWalk.i64_in _ (by omega)]; simp
  go_enter Try.func13, Try.ntmps13
  go_wp2_with fail
  go_cut [6] (fun v wx => Made N R w v wx)
  case first =>
    go_region_held3 (fun _ => True) (trivial) (fail)
    all_goals
      go_wp2_with fail
      go_meet
      refine made_mk _ _ _ _ _ _ rfl (heap_at _ (by simp)) ?_ ?_ ?_ ?_ ?_ ?_ ?_ ?_ ?_ ?_ ?_ ?_
      · repeat (first | ((with_reducible refine heap_at _ ?_); (simp; done)) | refine heap_alloc ?_ _)
      · repeat (first | ((with_reducible refine heap_at _ ?_); (simp; done)) | refine heap_alloc ?_ _)
      · repeat (first | ((with_reducible refine heap_at _ ?_); (simp; done)) | refine heap_alloc ?_ _)
      · repeat (first | ((with_reducible refine heap_at _ ?_); (simp; done)) | refine heap_alloc ?_ _)
      all_goals first | (simp; done) | omega | (repeat (first | exact Upd.refl _ _ | refine Upd.drew ?_ | refine Upd.alloc ?_ _))
  case rest =>
    obtain ⟨b, rfl, hA, hN, hge⟩ := hcut
    have A := Lib.hid hA
    have NW := Lib.hid hN
    have GE := Lib.hid hge
    have hbs := hN.size
    have p0 := hA.p0
    have e0 : w.heap.size ≤ b.gn := hge _ (.inr (.inl rfl))
    have e1 : w.heap.size ≤ b.gp := hge _ (.inr (.inr (.inl rfl)))
    have e2 : w.heap.size ≤ b.gi := hge _ (.inr (.inr (.inr (.inl rfl))))
    have hcast : (((N + R : Nat)) : Int) = (N : Int) + (R : Int) := by simp
    have HCAST := Lib.hid hcast
    simp only [arr, List.length_replicate] at p0
    obtain ⟨M, hM⟩ : ∃ M, M = N + R := ⟨_, rfl⟩
    rw [← hM] at p0
    have HM := Lib.hid hM
    clear hA hN hge m1 m2 m3 wr hcast
    have hM2 : M ≤ 2000 := by omega
    clear hM
    go_wp2_with fail
    go_loopw [44] (fun i wr => ∃ k : Nat, k ≤ M ∧ i = .int .i64 k ∧ Ar wr b ⟨idl k M, idl k M, List.replicate N 0, List.replicate R 0⟩ ∧ New w wr) (fun i _ => M - (intOf i).toNat)
    case atStart => exact ⟨0, Nat.zero_le _, rfl, by rw [HM.out]; simpa [idl] using A.out, NW.out⟩
    case round =>
      obtain ⟨k, hk, rfl, hA, hN⟩ := hrel
      by_cases hlt : k < M
      · have il := idl_len hk
        have p0 : wr.cell? ⟨b.p, 0, none⟩ = some (.slice (some ⟨b.gn, 0, none⟩) M M) := by have := hA.p0; simpa [arr, il] using this
        have p1 : wr.cell? ⟨b.p, 1, none⟩ = some (.slice (some ⟨b.gp, 0, none⟩) M M) := by have := hA.p1; simpa [arr, il] using this
        have n0 := cells3_cell hA.nx (i := k) (by rw [il]; exact hlt)
        have n1 := cells3_cell hA.pv (i := k) (by rw [il]; exact hlt)
        have f0 := hA.fn k
        have f1 := hA.fp k
        obtain ⟨d1, d2, _, _⟩ := hA.p_ne
        have dn := hA.np
        have t0 : ∀ (w' : World) v, (w'.setCell ⟨b.gn, k, none⟩ v).cell? ⟨b.p, 0, none⟩ = w'.cell? ⟨b.p, 0, none⟩ := fun w' v => set_far w' (Ne.symm d1) _ _ v
        have t1 : ∀ (w' : World) v, (w'.setCell ⟨b.gn, k, none⟩ v).cell? ⟨b.p, 1, none⟩ = w'.cell? ⟨b.p, 1, none⟩ := fun w' v => set_far w' (Ne.symm d1) _ _ v
        have t2 : ∀ (w' : World) v, (w'.setCell ⟨b.gn, k, none⟩ v).cell? ⟨b.gp, k, none⟩ = w'.cell? ⟨b.gp, k, none⟩ := fun w' v => set_far w' dn _ _ v
        have t3 : ∀ (w' : World) v, (w'.setCell ⟨b.gp, k, none⟩ v).cell? ⟨b.p, 0, none⟩ = w'.cell? ⟨b.p, 0, none⟩ := fun w' v => set_far w' (Ne.symm d2) _ _ v
        have t4 : ∀ (w' : World) v, (w'.setCell ⟨b.gp, k, none⟩ v).cell? ⟨b.p, 1, none⟩ = w'.cell? ⟨b.p, 1, none⟩ := fun w' v => set_far w' (Ne.symm d2) _ _ v
        have k0 : (0 : Int) ≤ (k : Int) := by omega
        have k1 : (k : Int) < (M : Int) := by omega
        have FIN := Lib.hid (show Ar ((wr.setCell ⟨b.gn, k, none⟩ (.int .i64 k)).setCell ⟨b.gp, k, none⟩ (.int .i64 k)).drew b ⟨idl (k + 1) M, idl (k + 1) M, List.replicate N 0, List.replicate R 0⟩ from by
          have := ((hA.setN k (k : Int)).setP k (k : Int)).new ((Upd.refl _ _).drew)
          simp only [idl_set hlt] at this
          exact this)
        have FN := Lib.hid (show New w ((wr.setCell ⟨b.gn, k, none⟩ (.int .i64 k)).setCell ⟨b.gp, k, none⟩ (.int .i64 k)).drew from
          (Upd.setAt (Upd.setAt hN (.inr e0) k (.int .i64 k)) (.inr e1) k (.int .i64 k)).drew)
        clear hA hN d1 d2 dn il
        go_wp2_with fail
        go_region_held3 (fun w' => w'.cell? ⟨b.p, 0, none⟩ = some (.slice (some ⟨b.gn, 0, none⟩) M M) ∧ w'.cell? ⟨b.p, 1, none⟩ = some (.slice (some ⟨b.gp, 0, none⟩) M M)) (go_keep) (fail)
        go_wp2_with fail
        go_roundw
        case rel => exact ⟨k + 1, by omega, by go_num, FIN.out, FN.out⟩
        case measure => simp [intOf]; omega
      · obtain rfl : k = M := by omega
        have A1 := Lib.hid hA
        have N1 := Lib.hid hN
        have p2 : wr.cell? ⟨b.p, 2, none⟩ = some (.slice (some ⟨b.gi, 0, none⟩) N N) := by have := hA.p2; simpa [arr] using this
        clear hA hN
        go_wp2_with fail
        go_loopw [70] (fun i wx => ∃ j : Nat, j ≤ N ∧ i = .int .i64 j ∧ Ar wx b ⟨idl k k, idl k k, negl j N, List.replicate R 0⟩ ∧ New w wx) (fun i _ => N - (intOf i).toNat)
        case atStart => exact ⟨0, Nat.zero_le _, rfl, by simpa [negl] using A1.out, N1.out⟩
        case round =>
          obtain ⟨j, hj, rfl, hA, hN⟩ := hrel
          by_cases hlt2 : j < N
          · have il := negl_len hj
            have p2 : wr.cell? ⟨b.p, 2, none⟩ = some (.slice (some ⟨b.gi, 0, none⟩) N N) := by have := hA.p2; simpa [arr, il] using this
            have n0 := cells3_cell hA.inn (i := j) (by rw [il]; exact hlt2)
            have f0 := hA.fi j
            have k0 : (0 : Int) ≤ (j : Int) := by omega
            have k1 : (j : Int) < (N : Int) := by omega
            have FIN := Lib.hid (show Ar (wr.setCell ⟨b.gi, j, none⟩ (.int .i64 (-1))) b ⟨idl k k, idl k k, negl (j + 1) N, List.replicate R 0⟩ from by
              have := hA.setI j (-1)
              simp only [negl_set hlt2] at this
              exact this)
            have FN := Lib.hid (show New w (wr.setCell ⟨b.gi, j, none⟩ (.int .i64 (-1))) from Upd.setAt hN (.inr e2) j (.int .i64 (-1)))
            clear hA hN il
            go_wp2_with fail
            go_roundw
            case rel => exact ⟨j + 1, by omega, by go_num, FIN.out, FN.out⟩
            case measure => simp [intOf]; omega
          · obtain rfl : j = N := by omega
            have A2 := Lib.hid hA
            have N2 := Lib.hid hN
            clear hA hN
            go_wp2_with fail
            go_ret2
            refine ⟨b, rfl, ⟨_, A2.out, ?_⟩, N2.out, GE.out⟩
            obtain rfl := HM.out
            exact rep_start h4 h2
end Go.Proofs.Ytffehagmchcpkaa

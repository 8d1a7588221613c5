import Derived.Test.YtffehagmchcpkaaA13
namespace Go.Proofs.Ytffehagmchcpkaa
open Go.RowKit Go.Proofs.Cmd
variable {Z q g N : Nat} {vs : List Value} {rows : List (List Nat)} {w w' : World}

def DoneRB (Z q g N : Nat) (w : World) (r : Bool × List (List Nat)) (e : Ending) (w' : World) : Prop := ∃ vs', e = .returned (.bool r.1) ∧ RA Z w' q g vs' r.2 N ∧ Upd (fun k => k = g) w w'
def DoneRT (Z q g N : Nat) (w : World) (n : Int) (r : Bool × List (List Nat)) (e : Ending) (w' : World) : Prop := ∃ vs', e = .returned (.tuple #[.int .i64 n, .bool r.1]) ∧ RA Z w' q g vs' r.2 N ∧ Upd (fun k => k = g) w w'
/-- l without m. -/
def wo (l : List Nat) (m : Nat) : List Nat := l.filter (fun n => decide (n ≠ m))
theorem wo_le (l : List Nat) (m : Nat) : (wo l m).length ≤ l.length := List.length_filter_le _ _
theorem filt_succ {l : List Nat} {m j : Nat} (h : j < l.length) : wo (l.take (j + 1)) m = wo (l.take j) m ++ (if l[j] = m then [] else [l[j]]) := by
  unfold wo
  rw [List.take_succ_eq_append_getElem h, List.filter_append]
  congr 1
  by_cases e : l[j] = m <;> simp [e]
set_option maxRecDepth 100000 in
set_option maxHeartbeats 1000000 in
theorem r_drop (h : RA Z w q g vs rows N) (hZ : Z ≤ w.heap.size) (hsm : ∀ (r : Nat) (l : List Nat), rows[r]? = some l → l.length ≤ 1000) (x : Int) :
    Calls Try.prog 69 #[.pointer (some ⟨q, 0, none⟩), .int .i64 x] w (DoneRB Z q g N w (dropR rows x)) := by
  have IC := Lib.hid (r_in h x)
  by_cases hm : inR rows x = -1
  · rw [hm] at IC
    have HF := Lib.hid (show dropR rows x = (false, rows) by unfold dropR; rw [if_pos hm])
    have H := Lib.hid h
    clear h hm
    go_enter Try.func69, Try.ntmps69
    go_wp2_with fail
    refine IC.out.mono ?_; rintro e w' ⟨rfl, rfl⟩
    go_wp2_with fail
    go_ret
    rw [HF.out]
    exact ⟨vs, rfl, H.out, Upd.refl _ _⟩
  · rcases inR_spec rows x with ⟨e, _⟩ | ⟨r, l, hl, hx, e⟩
    · exact absurd e hm
    obtain ⟨m, hml, rfl⟩ := mem_lz.1 hx
    rw [e] at IC
    have HF := Lib.hid (show dropR rows (m : Int) = (true, rows.set r (wo l m)) by
      unfold dropR; rw [if_neg hm, e, Int.toNat_natCast, rowAt_nat hl, Int.toNat_natCast]; rfl)
    have hrl := (List.getElem?_eq_some_iff.1 hl).1
    have hll := hsm r l hl
    have hr1 : (r : Int) < (rows.length : Int) := by omega
    have hr0 : ¬ ((r : Int) < 0) := by omega
    have H := Lib.hid h
    have HL := Lib.hid hl
    obtain ⟨i0, hi, hz0, hz1, hz2⟩ := info_parts info3
    clear h hm hx e hl hml
    go_enter Try.func69, Try.ntmps69
    go_wp2_with fail
    refine IC.out.mono ?_; rintro e w' ⟨rfl, rfl⟩
    go_wp2_with fail
    go_loopw [6, 7] (fun v i wr => ∃ j : Nat, j ≤ l.length ∧ i = .int .i64 j ∧ New w wr ∧ wr.ownsRow w.heap.size 3 1 v (wo (l.take j) m).length ((lz (wo (l.take j) m)).map (Value.int .i64))) (fun _ i _ => l.length - (intOf i).toNat)
    case atStart => exact ⟨0, Nat.zero_le _, rfl, new_alloc _ _, World.ownsRow_lit _ #[] 0 (Nat.le_refl _) (by simp) rfl⟩
    case round =>
      obtain ⟨j, hj, rfl, hN, hO⟩ := hrel
      have HN := Lib.hid hN
      have HO := Lib.hid hO
      have hb := hN.size
      have HR := Lib.hid (H.out.new hN)
      have c0 := HR.out.c0
      rw [HR.out.len] at c0
      obtain ⟨v0, _, cg, hI2⟩ := HR.out.at_ HL.out
      have hfl : (wo (l.take j) m).length ≤ j := Nat.le_trans (wo_le _ _) (List.length_take_le _ _)
      clear hN hO
      by_cases hlt : j < l.length
      · obtain ⟨ga, c, hv0, _, hlc, _⟩ := owns_some hI2.1 (by simp; omega)
        have hlz : (lz l).length = l.length := by simp
        rw [hlz] at hv0
        subst hv0
        have hI3 := hI2.1
        rw [hlz] at hI3
        have cy0 := owns_cell hI3 (j := j) (by omega)
        have cy : wr.cell? ⟨ga, j, none⟩ = some (.int .i64 (l[j] : Int)) := by rw [cy0]; simp [hlt]
        have HS := filt_succ (m := m) hlt
        have hj1 : (j : Int) < (l.length : Int) := by omega
        clear hI2 hI3 hlz cy0
        generalize l[j] = y at cy HS
        by_cases hy : y = m
        · rw [if_pos hy, List.append_nil] at HS
          have HS := Lib.hid HS
          have hb1 : ((y : Int) != (m : Int)) = false := by simp; omega
          clear hy
          go_wp2_with fail
          go_roundw
          case rel => exact ⟨j + 1, by omega, by go_num, HN.out, by rw [HS.out]; exact HO.out⟩
          case measure => simp [intOf]; omega
        · rw [if_neg hy] at HS
          have HS := Lib.hid HS
          have hb1 : ((y : Int) != (m : Int)) = true := by simp; omega
          clear hy
          go_wp2_with (at_builtin; refine wpList_append_own _ rfl _ _ 39 rfl w.heap.size 3 i0 _ 1 8 Try.underlying39 hi hz0 hz1 hz2 rfl (by decide) _ _ _ rfl (owns_new HO.out (new_alloc _ _)) ⟨wr.heap.size, 0, none⟩ 1 1 [.int .i64 y] rfl rfl (cell_one_new _ _ _) (by simp [Value.oneCell']) (by unfold maxLen; omega) (by omega) (by simp; omega) ?_)
          intro v' w1 hown1 hgrow _
          have HG := Lib.hid ((HN.out.alloc (.cells #[.int .i64 y] 3)).grown hgrow (fun q e => .inr (HO.out.lt q e).1))
          have HO1 := Lib.hid hown1
          clear hown1 hgrow
          go_wp2_with fail
          go_roundw
          case rel => exact ⟨j + 1, by omega, by go_num, HG.out, by rw [HS.out]; have := HO1.out; simpa using this⟩
          case measure => simp [intOf]; omega
      · have HE := Lib.hid (show l.take j = l from List.take_of_length_le (by omega))
        have hO := HO.out
        rw [HE.out] at hO
        have IB : Hid (IntsB Z wr u6 (lz (wo l m))) := ⟨owns_base (by simpa using hO) hZ, by have := wo_le l m; simp only [List.length_map]; omega⟩
        obtain ⟨a, c, hv0, _⟩ := owns_shape hI2.1
        have hlz : (lz l).length = l.length := by simp
        rw [hlz] at hv0
        subst hv0
        obtain ⟨ua, uc, hu6, _⟩ := owns_shape hO
        have hj1 : ¬ (j : Int) < (l.length : Int) := by omega
        have FIN := Lib.hid (RA.set HR.out hrl IB.out)
        have FU := Lib.hid (Upd.setAt (S := fun b => b = g) (New.upd HN.out _) (.inl rfl) r u6)
        have gf := frozen_of HR.out.row r
        subst hu6
        clear hI2 hlz hO
        go_wp2_with fail
        go_ret
        rw [HF.out]
        exact ⟨_, rfl, FIN.out, FU.out⟩
theorem r_take (h : RA Z w q g vs rows N) (hZ : Z ≤ w.heap.size) (hsm : ∀ (r : Nat) (l : List Nat), rows[r]? = some l → l.length ≤ 1000) (r : Int) :
    Calls Try.prog 68 #[.pointer (some ⟨q, 0, none⟩), .int .i64 r] w (DoneRT Z q g N w (firstR rows r) (dropR rows (firstR rows r))) := by
  have FC := Lib.hid (r_first h r)
  have DC := Lib.hid (r_drop h hZ hsm (firstR rows r))
  clear h hsm
  go_enter Try.func68, Try.ntmps68
  go_wp2_with fail
  refine FC.out.mono ?_; rintro e w1 ⟨rfl, rfl⟩
  go_wp2_with fail
  refine DC.out.mono ?_; rintro e w2 ⟨vs', rfl, hg, hu⟩
  have G := Lib.hid hg
  have U := Lib.hid hu
  clear hg hu
  go_wp2_with fail
  go_ret2
  exact ⟨vs', rfl, G.out, U.out⟩
theorem r_new_bad (r n : Int) (w : World) (h : r < 1 ∨ 1000 < r ∨ n < 1 ∨ 1000 < n) : Calls Try.prog 14 #[.int .i64 r, .int .i64 n] w fun e w' => e = .returned (.tuple #[.pointer none, .int .i64 1]) ∧ w = w' := by
  by_cases h1 : r < 1
  · clear h
    go_enter Try.func14, Try.ntmps14
    go_wp2
    go_ret2
    exact ⟨rfl, rfl⟩
  have h1' : 1 ≤ r := by omega
  by_cases h2 : 1000 < r
  · clear h
    go_enter Try.func14, Try.ntmps14
    go_wp2
    go_ret2
    exact ⟨rfl, rfl⟩
  have h2' : r ≤ 1000 := by omega
  by_cases h3 : n < 1
  · clear h
    go_enter Try.func14, Try.ntmps14
    go_wp2
    go_ret2
    exact ⟨rfl, rfl⟩
  have h3' : 1 ≤ n := by omega
  have h4 : 1000 < n := by omega
  clear h
  go_enter Try.func14, Try.ntmps14
  go_wp2
  go_ret2
  exact ⟨rfl, rfl⟩
theorem info39 : (Try.prog.info? 39).map (fun i => (i.zero, i.size, i.bytes)) = some (some (.slice none 0 0), 1, 24) := by kernel_rfl
def vobj (n : Nat) : Obj := .cells (List.replicate n (Value.slice none 0 0)).toArray 39
theorem mk128 (n : Nat) (hn : n ≤ 2000) (W : World) : (Instr.makeSlice 128 (.int .i64 (n : Int)) (.int .i64 (n : Int))).run Try.prog W = .ok (.slice (some ⟨W.heap.size, 0, none⟩) n n) (W.alloc (vobj n)) := by
  obtain ⟨i0, hi, hz0, hz1, hz2⟩ := info_parts info39
  have := run_makeSlice (P := Try.prog) W 128 39 i0 _ Try.underlying128 hi hz0 .i64 .i64 (n : Int) (n : Int) (by omega) (Int.le_refl _) (by rw [hz1]; simp; omega) (by rw [hz2]; omega) (by omega)
  rw [this]
  simp only [Int.toNat_natCast]
  have e : madeCells (Value.slice none 0 0).cells (n * i0.size) = (List.replicate n (Value.slice none 0 0)).toArray := by
    rw [hz1]
    apply Array.ext
    · simp [madeCells]
    · intro i h1 h2; simp [madeCells, Value.cells, Nat.mod_one]
  rw [e]; rfl
theorem r_new_good (R N : Nat) (w : World) (h1 : 1 ≤ R) (h2 : R ≤ 1000) (h3 : 1 ≤ N) (h4 : N ≤ 1000) :
    Calls Try.prog 14 #[.int .i64 R, .int .i64 N] w fun e w' => e = .returned (.tuple #[.pointer (some ⟨w.heap.size + 1, 0, none⟩), .int .i64 0]) ∧ New w w' ∧ w'.heap.size = w.heap.size + 2 ∧
      RA (w.heap.size + 2) w' (w.heap.size + 1) w.heap.size (List.replicate R (.slice none 0 0)) (List.replicate R []) N := by
  have r1 : (1 : Int) ≤ (R : Int) := by omega
  have r2 : (R : Int) ≤ 1000 := by omega
  have n1 : (1 : Int) ≤ (N : Int) := by omega
  have n2 : (N : Int) ≤ 1000 := by omega
  have mk := mk128 R (by omega)
  have RM := Lib.hid (show RA (w.heap.size + 2) ((w.alloc (vobj R)).alloc (.cells #[.slice (some ⟨w.heap.size, 0, none⟩) R R, .int .i64 N] 130)) (w.heap.size + 1) w.heap.size (List.replicate R (.slice none 0 0)) (List.replicate R []) N from by
    refine ⟨by simp only [List.length_replicate]; exact heap_at _ (by simp), heap_alloc (heap_at (vobj R) rfl) _, by simp, ?_, by simpa using h2⟩
    intro r l v e1 e2
    rw [List.getElem?_replicate] at e1 e2
    split at e1
    · rename_i hr
      rw [if_pos hr] at e2
      cases e1; cases e2
      exact ⟨World.ownsRow_nil _ _ _ _, by simp⟩
    · cases e1)
  go_enter Try.func14, Try.ntmps14
  go_wp2_with fail
  go_ret2
  exact ⟨rfl, (new_alloc _ _).alloc _, by simp, RM.out⟩
end Go.Proofs.Ytffehagmchcpkaa

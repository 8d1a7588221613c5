import Derived.Test.YtffehagmchcpkaaA9
namespace Go.Proofs.Ytffehagmchcpkaa
open Go.RowKit Go.Proofs.Cmd

/-- The reference's arena: a row of lists. -/
structure RA (Z : Nat) (w : World) (q g : Nat) (vs : List Value) (rows : List (List Nat)) (N : Nat) : Prop where
  head : w.heap[q]? = some (.cells #[.slice (some ⟨g, 0, none⟩) vs.length vs.length, .int .i64 N] 130 (0, 0))
  row : w.heap[g]? = some (.cells vs.toArray 39 (0, 0))
  len : vs.length = rows.length
  each : ∀ (r : Nat) (l : List Nat) (v : Value), rows[r]? = some l → vs[r]? = some v → IntsB Z w v (lz l)
  big : rows.length ≤ 1000
variable {Z q g N : Nat} {vs : List Value} {rows : List (List Nat)} {w w' : World}
theorem intsB_upd {S : Nat → Prop} {w w' : World} {Z : Nat} {v : Value} {l : List Int} (h : IntsB Z w v l) (u : Upd S w w') (hs : ∀ k, S k → k < Z) : IntsB Z w' v l :=
  ⟨owns_upd h.1 u (fun k hk e => by have := (h.1.lt k hk).1; have := hs k e; omega), h.2⟩
theorem RA.upd {S : Nat → Prop} (h : RA Z w q g vs rows N) (u : Upd S w w') (hq : ¬ S q) (hg : ¬ S g) (hs : ∀ k, S k → k < Z) : RA Z w' q g vs rows N :=
  ⟨u.heap h.head hq, u.heap h.row hg, h.len, fun r l v h1 h2 => intsB_upd (h.each r l v h1 h2) u hs, h.big⟩
theorem RA.new (h : RA Z w q g vs rows N) (u : New w w') : RA Z w' q g vs rows N := h.upd u (fun x => x) (fun x => x) (fun _ x => x.elim)
theorem RA.c0 (h : RA Z w q g vs rows N) : w.cell? ⟨q, 0, none⟩ = some (.slice (some ⟨g, 0, none⟩) vs.length vs.length) := cell_of h.head 0
theorem RA.c1 (h : RA Z w q g vs rows N) : w.cell? ⟨q, 1, none⟩ = some (.int .i64 N) := cell_of h.head 1
/-- Row r in memory. -/
theorem RA.at_ (h : RA Z w q g vs rows N) {r : Nat} {l : List Nat} (hr : rows[r]? = some l) : ∃ v, vs[r]? = some v ∧ w.cell? ⟨g, r, none⟩ = some v ∧ IntsB Z w v (lz l) := by
  have hlt : r < vs.length := by rw [h.len]; exact (List.getElem?_eq_some_iff.1 hr).1
  refine ⟨vs[r], by simp [hlt], ?_, h.each r l _ hr (by simp [hlt])⟩
  rw [cell_of h.row]; simp [hlt]
theorem RA.ne (h : RA Z w q g vs rows N) : g ≠ q := blk_ne h.row h.head (by decide)
theorem RA.set (h : RA Z w q g vs rows N) {r : Nat} (hr : r < rows.length) {l : List Nat} {v : Value} (hv : IntsB Z w v (lz l)) : RA Z (w.setCell ⟨g, r, none⟩ v) q g (vs.set r v) (rows.set r l) N := by
  have keep : ∀ (u : Value) (l : List Int), IntsB Z w u l → IntsB Z (w.setCell ⟨g, r, none⟩ v) u l := fun u l hu =>
    ⟨owns_heap hu.1 (fun k hk => heap_set_other (by
      obtain ⟨c, hc⟩ := owns_type hu.1 hk
      exact blk_ne h.row hc (by decide)) _ _), hu.2⟩
  refine ⟨?_, ?_, by simp [h.len], ?_, by simpa using h.big⟩
  · rw [heap_set_other h.ne, h.head]; simp
  · rw [heap_set_same h.row, List.setIfInBounds_toArray]
  · intro r' l' u h1 h2
    by_cases e : r' = r
    · subst e
      rw [List.getElem?_set_self hr] at h1; cases h1
      rw [List.getElem?_set_self (by rw [h.len]; exact hr)] at h2; cases h2
      exact keep _ _ hv
    · rw [List.getElem?_set_ne (Ne.symm e)] at h1 h2
      exact keep _ _ (h.each r' l' u h1 h2)

theorem inFrom_drop {x : Int} : ∀ (k j : Nat) (rows : List (List Nat)), (∀ (r : Nat) (l : List Nat), r < k → rows[r]? = some l → x ∉ lz l) → k ≤ rows.length → inFrom j rows x = inFrom (j + k) (rows.drop k) x := by
  intro k
  induction k with
  | zero => intro j rows _ _; rfl
  | succ k ih =>
    intro j rows h hk
    cases rows with
    | nil => simp at hk
    | cons l rows =>
      have h0 := h 0 l (by omega) rfl
      simp only [inFrom, if_neg h0, List.drop_succ_cons]
      rw [ih (j + 1) rows (fun r l' hr hl => h (r + 1) l' (by omega) (by simpa using hl)) (by simpa using hk)]
      congr 1; omega
theorem inR_first {x : Int} {k : Nat} {l : List Nat} (hk : rows[k]? = some l) (hx : x ∈ lz l) (h : ∀ (r : Nat) (l : List Nat), r < k → rows[r]? = some l → x ∉ lz l) : inR rows x = (k : Int) := by
  have hlt := (List.getElem?_eq_some_iff.1 hk).1
  unfold inR
  rw [inFrom_drop k 0 rows h (by omega)]
  have e : rows.drop k = l :: rows.drop (k + 1) := by
    rw [List.drop_eq_getElem_cons hlt]; congr 1
    have := (List.getElem?_eq_some_iff.1 hk).2; exact this
  rw [e]; simp only [inFrom, if_pos hx]; simp

theorem r_row (h : RA Z w q g vs rows N) (i : Int) : Calls Try.prog 92 #[.pointer (some ⟨q, 0, none⟩), .int .i64 i] w fun e w' => e = .returned (.bool (isIn rows.length i)) ∧ w = w' := by
  have c0 := h.c0
  rw [h.len] at c0
  clear h
  by_cases h0 : 0 ≤ i
  · have HF := Lib.hid (show isIn rows.length i = decide (i < rows.length) by simp [isIn, h0])
    go_enter Try.func92, Try.ntmps92
    go_wp2
    go_ret
    exact ⟨by rw [HF.out]; rfl, rfl⟩
  · have HF := Lib.hid (show isIn rows.length i = false by simp [isIn, h0])
    go_enter Try.func92, Try.ntmps92
    go_wp2
    go_ret
    exact ⟨by rw [HF.out]; rfl, rfl⟩
set_option maxRecDepth 100000 in
set_option maxHeartbeats 1000000 in
theorem r_in (h : RA Z w q g vs rows N) (x : Int) : Calls Try.prog 73 #[.pointer (some ⟨q, 0, none⟩), .int .i64 x] w fun e w' => e = .returned (.int .i64 (inR rows x)) ∧ w = w' := by
  have c0 := h.c0
  rw [h.len] at c0
  have hbig := h.big
  have H := Lib.hid h
  clear h
  go_enter Try.func73, Try.ntmps73
  go_wp2_with fail
  go_loop [5] (fun i => ∃ k : Nat, k ≤ rows.length ∧ i = .int .i64 k ∧ ∀ (r : Nat) (l : List Nat), r < k → rows[r]? = some l → x ∉ lz l) (fun i => rows.length - (intOf i).toNat)
  case atStart => exact ⟨0, Nat.zero_le _, rfl, fun r l h => by omega⟩
  case round =>
    obtain ⟨k, hk, rfl, hno⟩ := hrel
    have HNO := Lib.hid hno
    clear hno
    by_cases hlt : k < rows.length
    · have hr : rows[k]? = some rows[k] := by simp [hlt]
      obtain ⟨v, _, cg, hI⟩ := H.out.at_ hr
      obtain ⟨a, vc, rfl, hla, hca, hma, hA⟩ := hI.ints.open
      unfold maxLen at hma
      have HA := Lib.hid hA
      have HR := Lib.hid hr
      have hk1 : (k : Int) < (rows.length : Int) := by omega
      clear hI hA hr
      generalize rows[k] = l at cg hla hca HA HR
      have hll : (lz l).length = l.length := by simp
      rw [hll] at cg hla hca
      clear hll
      go_wp2_with fail
      go_loop [6] (fun i => ∃ j : Nat, j ≤ l.length ∧ i = .int .i64 j ∧ x ∉ (lz l).take j) (fun i => l.length - (intOf i).toNat)
      case atStart => exact ⟨0, Nat.zero_le _, rfl, by simp⟩
      case round =>
        obtain ⟨j, hj, rfl, hnot⟩ := hrel
        have HNT := Lib.hid hnot
        clear hnot
        by_cases hlt2 : j < l.length
        · obtain ⟨ga, rfl, hc⟩ := HA.out j (by simpa using hlt2)
          rw [show (lz l)[j]?.getD 0 = (l[j] : Int) by simp [hlt2]] at hc
          have HTK := Lib.hid (show (lz l).take (j + 1) = (lz l).take j ++ [(l[j] : Int)] by
            rw [List.take_succ_eq_append_getElem (by simpa using hlt2)]; simp)
          have HMEM := Lib.hid (show (l[j] : Int) ∈ lz l from mem_lz_nat.2 (List.getElem_mem hlt2))
          generalize l[j] = y at hc HTK HMEM
          by_cases he : (y : Int) = x
          · have hb : ((y : Int) == x) = true := by simpa using he
            have HE := Lib.hid he
            clear he
            go_wp2_with fail
            go_ret
            refine ⟨?_, rfl⟩
            have := inR_first HR.out (by rw [← HE.out]; exact HMEM.out) HNO.out
            rw [this]; rfl
          · have hb : ((y : Int) == x) = false := by simpa using he
            have HE := Lib.hid he
            clear he
            go_wp2_with fail
            go_round
            case rel => exact ⟨j + 1, by omega, by go_num, by rw [HTK.out]; simp only [List.mem_append, List.mem_singleton]; rintro (h | h); exact HNT.out h; exact HE.out h.symm⟩
            case measure => simp [intOf]; omega
        · go_wp2_with fail
          go_round
          case rel =>
            refine ⟨k + 1, by omega, by go_num, fun r l' hr hl => ?_⟩
            by_cases e : r = k
            · subst e
              rw [HR.out] at hl; cases hl
              have := HNT.out
              rwa [List.take_of_length_le (by simp; omega)] at this
            · exact HNO.out r l' (by omega) hl
          case measure => simp [intOf]; omega
    · have HE := Lib.hid (show k = rows.length by omega)
      go_wp2_with fail
      go_ret
      refine ⟨?_, rfl⟩
      have := inR_none (rows := rows) (x := x) (fun r l hl => HNO.out r l (by have := (List.getElem?_eq_some_iff.1 hl).1; have := HE.out; omega) hl)
      rw [this]; rfl
end Go.Proofs.Ytffehagmchcpkaa

import Derived.Test.YtffehagmchcpkaaA1b
namespace Go.Proofs.Ytffehagmchcpkaa
open Go.RowKit Go.Proofs.Cmd

abbrev lz (l : List Nat) : List Int := l.map (fun n : Nat => (n : Int))
theorem mem_lz {l : List Nat} {x : Int} : x ∈ lz l ↔ ∃ n ∈ l, (n : Int) = x := by simp [lz]
theorem mem_lz_nat {l : List Nat} {n : Nat} : (n : Int) ∈ lz l ↔ n ∈ l := by
  rw [mem_lz]; constructor
  · rintro ⟨m, hm, e⟩; have : m = n := by omega
    subst this; exact hm
  · intro h; exact ⟨n, h, rfl⟩
/-- The row in which x stands; below 0: none. -/
def inFrom : Nat → List (List Nat) → Int → Int
  | _, [], _ => -1
  | k, l :: ls, x => if x ∈ lz l then (k : Int) else inFrom (k + 1) ls x
def inR (rows : List (List Nat)) (x : Int) : Int := inFrom 0 rows x
theorem inFrom_spec : ∀ (rows : List (List Nat)) (k : Nat) (x : Int), (inFrom k rows x = -1 ∧ ∀ (r : Nat) (l : List Nat), rows[r]? = some l → x ∉ lz l) ∨ ∃ (r : Nat) (l : List Nat), rows[r]? = some l ∧ x ∈ lz l ∧ inFrom k rows x = ((k + r : Nat) : Int) := by
  intro rows
  induction rows with
  | nil => intro k x; left; exact ⟨rfl, fun r l h => by simp at h⟩
  | cons l ls ih =>
    intro k x
    by_cases hx : x ∈ lz l
    · right; exact ⟨0, l, rfl, hx, by simp [inFrom, hx]⟩
    · rcases ih (k + 1) x with ⟨h1, h2⟩ | ⟨r, l', h1, h2, h3⟩
      · left
        refine ⟨by simp only [inFrom, if_neg hx]; exact h1, fun r l' h => ?_⟩
        cases r with
        | zero => simp at h; subst h; exact hx
        | succ r => exact h2 r l' (by simpa using h)
      · right
        refine ⟨r + 1, l', by simpa using h1, h2, ?_⟩
        simp only [inFrom, if_neg hx]; rw [h3]; congr 1; omega
theorem inR_spec (rows : List (List Nat)) (x : Int) : (inR rows x = -1 ∧ ∀ (r : Nat) (l : List Nat), rows[r]? = some l → x ∉ lz l) ∨ ∃ (r : Nat) (l : List Nat), rows[r]? = some l ∧ x ∈ lz l ∧ inR rows x = (r : Int) := by
  rcases inFrom_spec rows 0 x with h | ⟨r, l, h1, h2, h3⟩
  · exact .inl h
  · exact .inr ⟨r, l, h1, h2, by unfold inR; rw [h3]; simp⟩
def rowAt (rows : List (List Nat)) (r : Int) : List Nat := if isIn rows.length r then rows.getD r.toNat [] else []
theorem rowAt_nat {rows : List (List Nat)} {r : Nat} {l : List Nat} (h : rows[r]? = some l) : rowAt rows (r : Int) = l := by
  unfold rowAt; rw [isIn_of (List.getElem?_eq_some_iff.1 h).1]; simp [h]
def mayR (N : Nat) (rows : List (List Nat)) (r x : Int) : Int := if isIn rows.length r && isIn N x then (if inR rows x = -1 then 0 else 6) else 3
def putR (N : Nat) (rows : List (List Nat)) (r x : Int) (ahead : Bool) : Int × List (List Nat) :=
  if mayR N rows r x = 0 then (0, rows.set r.toNat (if ahead then x.toNat :: rowAt rows r else rowAt rows r ++ [x.toNat])) else (mayR N rows r x, rows)
def dropR (rows : List (List Nat)) (x : Int) : Bool × List (List Nat) :=
  if inR rows x = -1 then (false, rows) else (true, rows.set (inR rows x).toNat ((rowAt rows (inR rows x)).filter (fun n => decide (n ≠ x.toNat))))
def firstR (rows : List (List Nat)) (r : Int) : Int := match rowAt rows r with | [] => -1 | a :: _ => (a : Int)

variable {N : Nat} {rows : List (List Nat)} {s : St} {w w' : World} {b : Bl}
theorem Rep.in_ (h : Rep N rows s) (x : Int) : inS s x = inR rows x := by
  unfold inS
  rw [h.sz.inn]
  cases hI : isIn N x
  · rcases inR_spec rows x with ⟨h1, _⟩ | ⟨r, l, h1, h2, h3⟩
    · rw [h1]; rfl
    · obtain ⟨n, hn, rfl⟩ := mem_lz.1 h2
      have := h.lt r l h1 n hn
      rw [isIn_of this] at hI; cases hI
  · obtain ⟨n, rfl, hn⟩ := isIn_nat hI
    rw [if_pos rfl, Int.toNat_natCast]
    rcases inR_spec rows (n : Int) with ⟨h1, h2⟩ | ⟨r, l, h1, h2, h3⟩
    · rw [h1]
      rcases h.free n hn with e | ⟨r, hr, e⟩
      · exact e
      · exfalso
        have hl : rows[r]? = some rows[r] := by simp [hr]
        exact h2 r _ hl (mem_lz_nat.2 ((h.inn n hn r _ hl).1 e))
    · rw [h3]; exact (h.inn n hn r l h1).2 (mem_lz_nat.1 h2)

/-- An arena in memory. -/
def Rg (N : Nat) (rows : List (List Nat)) (b : Bl) (w : World) : Prop := ∃ s, Ar w b s ∧ Rep N rows s
theorem Rg.upd {S : Nat → Prop} (h : Rg N rows b w) (u : Upd S w w') (hs : ∀ k, b.T k → ¬ S k) : Rg N rows b w' := by
  obtain ⟨s, h1, h2⟩ := h; exact ⟨s, h1.upd u hs, h2⟩
theorem Rg.new (h : Rg N rows b w) (u : New w w') : Rg N rows b w' := h.upd u (fun _ _ x => x)
theorem rg_rows (h : Rg N rows b w) : Calls Try.prog 65 #[.pointer (some ⟨b.p, 0, none⟩)] w fun e w' => e = .returned (.int .i64 rows.length) ∧ w = w' := by
  obtain ⟨s, h1, h2⟩ := h; rw [← h2.sz.lg]; exact rows_c h1
theorem rg_nodes (h : Rg N rows b w) : Calls Try.prog 66 #[.pointer (some ⟨b.p, 0, none⟩)] w fun e w' => e = .returned (.int .i64 N) ∧ w = w' := by
  obtain ⟨s, h1, h2⟩ := h; rw [← h2.sz.inn]; exact nodes_c h1
theorem rg_in (h : Rg N rows b w) (x : Int) : Calls Try.prog 20 #[.pointer (some ⟨b.p, 0, none⟩), .int .i64 x] w fun e w' => e = .returned (.int .i64 (inR rows x)) ∧ w = w' := by
  obtain ⟨s, h1, h2⟩ := h; rw [← h2.in_]; exact in_c h1 x
theorem rg_len (h : Rg N rows b w) (r : Int) : Calls Try.prog 19 #[.pointer (some ⟨b.p, 0, none⟩), .int .i64 r] w fun e w' => e = .returned (.int .i64 (rowAt rows r).length) ∧ w = w' := by
  obtain ⟨s, h1, h2⟩ := h
  have e : ((rowAt rows r).length : Int) = lenS s r := by
    unfold lenS rowAt
    rw [h2.sz.lg]
    cases hI : isIn rows.length r
    · rfl
    · obtain ⟨k, rfl, hk⟩ := isIn_nat hI
      have hl : rows[k]? = some rows[k] := by simp [hk]
      rw [if_pos rfl, if_pos rfl, Int.toNat_natCast, h2.len k _ hl]; simp [hl]
  rw [e]; exact len_c h1 r

theorem may_c (h : Ar w b s) (hR : Rep N rows s) (r x : Int) : Calls Try.prog 89 #[.pointer (some ⟨b.p, 0, none⟩), .int .i64 r, .int .i64 x] w fun e w' => e = .returned (.int .i64 (mayR N rows r x)) ∧ w = w' := by
  have RC := Lib.hid (row_c h r)
  have NC := Lib.hid (node_c h x)
  rw [hR.sz.lg] at RC
  rw [hR.sz.inn] at NC
  cases h1 : isIn rows.length r
  · rw [h1] at RC
    have HF := Lib.hid (show mayR N rows r x = 3 by unfold mayR; rw [h1]; rfl)
    clear h h1 hR
    go_enter Try.func89, Try.ntmps89
    go_wp2_with fail
    refine RC.out.mono ?_; rintro e w' ⟨rfl, rfl⟩
    go_wp2_with fail
    go_ret
    exact ⟨by rw [HF.out]; rfl, rfl⟩
  · rw [h1] at RC
    cases h2 : isIn N x
    · rw [h2] at NC
      have HF := Lib.hid (show mayR N rows r x = 3 by unfold mayR; rw [h1, h2]; rfl)
      clear h h1 h2 hR
      go_enter Try.func89, Try.ntmps89
      go_wp2_with fail
      refine RC.out.mono ?_; rintro e w' ⟨rfl, rfl⟩
      go_wp2_with fail
      refine NC.out.mono ?_; rintro e w' ⟨rfl, rfl⟩
      go_wp2_with fail
      go_ret
      exact ⟨by rw [HF.out]; rfl, rfl⟩
    · rw [h2] at NC
      obtain ⟨m, rfl, hm⟩ := isIn_nat h2
      have p2 := h.p2
      have c0 := cells3_cell h.inn (i := m) (by rw [hR.sz.inn]; exact hm)
      have hin : s.inn.getD m 0 = inR rows (m : Int) := by
        rw [← hR.in_]; unfold inS; rw [hR.sz.inn, h2]; simp
      rw [hin] at c0
      have m0 : (m : Int) < (s.inn.length : Int) := by rw [hR.sz.inn]; omega
      by_cases hf : inR rows (m : Int) = -1
      · have HF := Lib.hid (show mayR N rows r (m : Int) = 0 by unfold mayR; rw [h1, h2, hf]; rfl)
        rw [hf] at c0
        clear h h1 h2 hR hin hf
        go_enter Try.func89, Try.ntmps89
        go_wp2_with fail
        refine RC.out.mono ?_; rintro e w' ⟨rfl, rfl⟩
        go_wp2_with fail
        refine NC.out.mono ?_; rintro e w' ⟨rfl, rfl⟩
        go_wp2_with fail
        go_ret
        exact ⟨by rw [HF.out]; rfl, rfl⟩
      · have HF := Lib.hid (show mayR N rows r (m : Int) = 6 by unfold mayR; rw [h1, h2]; simp [hf])
        have hb : (inR rows (m : Int) != -1) = true := by simpa using hf
        clear h h1 h2 hR hin hf
        generalize inR rows (m : Int) = v at c0 hb
        go_enter Try.func89, Try.ntmps89
        go_wp2_with fail
        refine RC.out.mono ?_; rintro e w' ⟨rfl, rfl⟩
        go_wp2_with fail
        refine NC.out.mono ?_; rintro e w' ⟨rfl, rfl⟩
        go_wp2_with fail
        go_ret
        exact ⟨by rw [HF.out]; rfl, rfl⟩
end Go.Proofs.Ytffehagmchcpkaa

import Derived.Test.YtffehagmchcpkaaA8
namespace Go.Proofs.Ytffehagmchcpkaa
open Go.RowKit Go.Proofs.Cmd
variable {N : Nat} {rows : List (List Nat)} {s : St} {w w' : World} {b : Bl}

/-- Between two rounds of a move: x was taken, or nothing was left. -/
def MovRel (N : Nat) (rows : List (List Nat)) (b : Bl) (w : World) (f t : Nat) (rt rf : List Nat) (u v : Value) (wr : World) : Prop :=
  ∃ (done rest : List Nat) (x : Int) (is : Bool), u = .int .i64 x ∧ v = .bool is ∧ Rg N (midR rows f t rt done rest) b wr ∧ Upd b.S w wr ∧
    (if is then ∃ m : Nat, x = m ∧ rf = done ++ m :: rest else rf = done ∧ rest = [])
set_option maxRecDepth 100000 in
set_option maxHeartbeats 1000000 in
theorem move_c (h : Rg N rows b w) (fr tt : Int) : Calls Try.prog 62 #[.pointer (some ⟨b.p, 0, none⟩), .int .i64 fr, .int .i64 tt] w (Done N b w (moveR rows fr tt)) := by
  have RC : ∀ i, Calls Try.prog 74 #[.pointer (some ⟨b.p, 0, none⟩), .int .i64 i] w fun e w' => e = .returned (.bool (isIn rows.length i)) ∧ w = w' := fun i => by
    obtain ⟨s, h1, h2⟩ := h; rw [← h2.sz.lg]; exact row_c h1 i
  have R1 := Lib.hid (RC fr)
  have R2 := Lib.hid (RC tt)
  clear RC
  have H := Lib.hid h
  clear h
  cases hf : isIn rows.length fr
  · rw [hf] at R1
    have HF := Lib.hid (show moveR rows fr tt = (3, rows) by unfold moveR; rw [hf]; rfl)
    clear hf
    go_enter Try.func62, Try.ntmps62
    go_wp2_with fail
    refine R1.out.mono ?_; rintro e w' ⟨rfl, rfl⟩
    go_wp2_with fail
    go_ret
    rw [HF.out]
    exact ⟨rfl, H.out, Upd.refl _ _⟩
  rw [hf] at R1
  cases ht : isIn rows.length tt
  · rw [ht] at R2
    have HF := Lib.hid (show moveR rows fr tt = (3, rows) by unfold moveR; rw [hf, ht]; rfl)
    clear hf ht
    go_enter Try.func62, Try.ntmps62
    go_wp2_with fail
    refine R1.out.mono ?_; rintro e w' ⟨rfl, rfl⟩
    go_wp2_with fail
    refine R2.out.mono ?_; rintro e w' ⟨rfl, rfl⟩
    go_wp2_with fail
    go_ret
    rw [HF.out]
    exact ⟨rfl, H.out, Upd.refl _ _⟩
  rw [ht] at R2
  by_cases heq : fr = tt
  · have hb : (fr == tt) = true := by simpa using heq
    have HF := Lib.hid (show moveR rows fr tt = (1, rows) by unfold moveR; rw [hf, ht, if_pos heq]; rfl)
    clear hf ht heq
    go_enter Try.func62, Try.ntmps62
    go_wp2_with fail
    refine R1.out.mono ?_; rintro e w' ⟨rfl, rfl⟩
    go_wp2_with fail
    refine R2.out.mono ?_; rintro e w' ⟨rfl, rfl⟩
    go_wp2_with fail
    go_ret
    rw [HF.out]
    exact ⟨rfl, H.out, Upd.refl _ _⟩
  have hb : (fr == tt) = false := by simpa using heq
  have HM := Lib.hid (show moveR rows fr tt = (0, (rows.set tt.toNat (rowAt rows tt ++ rowAt rows fr)).set fr.toNat []) by unfold moveR; rw [hf, ht, if_neg heq]; rfl)
  obtain ⟨f, rfl, hfl⟩ := isIn_nat hf
  obtain ⟨t, rfl, htl⟩ := isIn_nat ht
  have hne : f ≠ t := fun e => heq (by rw [e])
  have hrf : rows[f]? = some rows[f] := by simp [hfl]
  have hrt : rows[t]? = some rows[t] := by simp [htl]
  rw [rowAt_nat hrf, rowAt_nat hrt, Int.toNat_natCast, Int.toNat_natCast] at HM
  have HMS := Lib.hid (mid_start hrf hrt hne)
  -- what a take does
  have TK := Lib.hid (show ∀ (wz : World) (done rest : List Nat), Rg N (midR rows f t rows[t] done rest) b wz → Upd b.S w wz → rows[f] = done ++ rest →
      Calls Try.prog 63 #[.pointer (some ⟨b.p, 0, none⟩), .int .i64 f] wz fun e w' => ∃ (x : Int) (is : Bool), e = .returned (.tuple #[.int .i64 x, .bool is]) ∧ MovRel N rows b w f t rows[t] rows[f] (.int .i64 x) (.bool is) w' ∧ (lenAt b f w' + boolNat (.bool is) = rest.length) from by
    intro wz done rest hg hu hsp
    refine (take_c hg (f : Int)).mono ?_
    rintro e w1 ⟨rfl, hg1, hu1⟩
    cases rest with
    | nil =>
      have e1 := take_nil (mid_f (rt := rows[t]) (done := done) (rest := []) (t := t) hfl)
      rw [e1.1, e1.2] at hg1 ⊢
      exact ⟨-1, false, rfl, ⟨done, [], -1, false, rfl, rfl, hg1, hu.trans hu1, by simpa using hsp⟩, by rw [hg1.lenAt (mid_f hfl)]; rfl⟩
    | cons m rest =>
      have e1 : firstR (midR rows f t rows[t] done (m :: rest)) (f : Int) = (m : Int) ∧ dropR (midR rows f t rows[t] done (m :: rest)) (m : Int) = (true, midR rows f t rows[t] done rest) := by
        obtain ⟨s, h1, h2⟩ := hg
        have := h2.take (mid_f hfl)
        rw [mid_take] at this
        exact this
      rw [e1.1, e1.2] at hg1 ⊢
      exact ⟨m, true, rfl, ⟨done, rest, m, true, rfl, rfl, hg1, hu.trans hu1, m, rfl, hsp⟩, by rw [hg1.lenAt (mid_f hfl)]; simp [boolNat]⟩)
  have MAY := Lib.hid (show ∀ (done rest : List Nat) (m : Nat), rows[f] = done ++ m :: rest → putR N (midR rows f t rows[t] done rest) (t : Int) (m : Int) false = (0, midR rows f t rows[t] (done ++ [m]) rest) from fun done rest m e => by
    obtain ⟨s, h1, h2⟩ := H.out; exact mid_may h2 hrf hrt hne e)
  have H0 := Lib.hid (show Rg N (midR rows f t rows[t] [] rows[f]) b w from by rw [HMS.out]; exact H.out)
  clear hf ht heq hrf hrt
  generalize rows[f] = rf at TK MAY HM H0
  generalize rows[t] = rt at TK MAY HM H0
  go_enter Try.func62, Try.ntmps62
  go_wp2_with fail
  refine R1.out.mono ?_; rintro e w' ⟨rfl, rfl⟩
  go_wp2_with fail
  refine R2.out.mono ?_; rintro e w' ⟨rfl, rfl⟩
  go_wp2_with fail
  refine (TK.out _ [] rf H0.out (Upd.refl _ _) rfl).mono ?_
  rintro e w1 ⟨x, is, rfl, hrel, hlen⟩
  have R0 := Lib.hid hrel
  clear hrel hlen
  go_wp2_with fail
  go_loopw [7, 8] (fun u v wr => MovRel N rows b w f t rt rf u v wr) (fun u v wr => lenAt b f wr + boolNat v)
  case atStart => exact R0.out
  case round =>
    obtain ⟨done, rest, x, is, rfl, rfl, hg, hu, hc⟩ := hrel
    have G := Lib.hid hg
    have U := Lib.hid hu
    cases is
    · simp only [Bool.false_eq_true, if_false] at hc
      have HC := Lib.hid hc
      clear hg hu hc
      go_wp2_with fail
      go_ret
      rw [HM.out]
      refine ⟨rfl, ?_, U.out⟩
      have := G.out
      rw [← HC.out.1, HC.out.2] at this
      exact this
    · simp only [if_true] at hc
      obtain ⟨m, rfl, hsp⟩ := hc
      have PC := put_c hg (t : Int) (m : Int)
      rw [MAY.out done rest m hsp] at PC
      have PC := Lib.hid PC
      have HSP := Lib.hid hsp
      have HL := Lib.hid (hg.lenAt (mid_f hfl))
      clear hg hu hsp
      go_wp2_with fail
      refine PC.out.mono ?_
      rintro e w2 ⟨rfl, hg2, hu2⟩
      have T2 := Lib.hid (TK.out w2 (done ++ [m]) rest hg2 (U.out.trans hu2) (by rw [HSP.out]; simp))
      clear hg2 hu2
      go_wp2_with fail
      refine T2.out.mono ?_
      rintro e w3 ⟨x3, is3, rfl, hrel3, hlen3⟩
      have R3 := Lib.hid hrel3
      have L3 := Lib.hid hlen3
      clear hrel3 hlen3
      go_wp2_with fail
      go_roundw
      case rel => exact R3.out
      case measure => rw [L3.out, HL.out]; simp [boolNat]
end Go.Proofs.Ytffehagmchcpkaa

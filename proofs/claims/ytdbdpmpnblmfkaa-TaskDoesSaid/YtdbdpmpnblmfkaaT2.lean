import Derived.Test.YtdbdpmpnblmfkaaT1
namespace Go.Proofs.Ytdbdpmpnblmfkaa
open Go.RowKit Go.Proofs.Cmd

def zer : List Int := List.replicate 17 0
theorem info53 : (Try.prog.info? 53).map (·.size) = some 17 := by kernel_rfl
theorem flat53 : flat64 Try.prog 5 53 = some 17 := by kernel_rfl
theorem und53 : ∃ fs, Try.prog.underlying 53 = some (.struct fs) := ⟨_, Try.underlying53⟩
theorem val64_struct {P : Program} {t : TypeId} {fs : Array Field} (h : P.underlying t = some (.struct fs)) (xs : List Int) : val64 P t xs = .agg (xs.map (Value.int .i64)).toArray := by
  simp [val64, h]
theorem run_eql_struct64 {P : Program} {t : TypeId} {fs : Array Field} {d n : Nat} (h : P.underlying t = some (.struct fs)) (hf : flat64 P d t = some n) (hd : d ≤ 10000) (xs ys : List Int) (hx : xs.length = n) (hy : ys.length = n) (w : World) :
    (binOp .eql t (.agg (xs.map (Value.int .i64)).toArray) (.agg (ys.map (Value.int .i64)).toArray)).run P w = .ok (.bool (decide (xs = ys))) w := by
  rw [run_eql_struct, ← val64_struct h, ← val64_struct h, run_eq64 d 10000 t n xs ys w hf hd hx hy, Result.andThen_ok]
theorem run_neq_struct64 {P : Program} {t : TypeId} {fs : Array Field} {d n : Nat} (h : P.underlying t = some (.struct fs)) (hf : flat64 P d t = some n) (hd : d ≤ 10000) (xs ys : List Int) (hx : xs.length = n) (hy : ys.length = n) (w : World) :
    (binOp .neq t (.agg (xs.map (Value.int .i64)).toArray) (.agg (ys.map (Value.int .i64)).toArray)).run P w = .ok (.bool (!decide (xs = ys))) w := by
  rw [run_neq_struct, ← val64_struct h, ← val64_struct h, run_eq64 d 10000 t n xs ys w hf hd hx hy, Result.andThen_ok]
theorem eq53 (r : List Int) (hr : r.length = 17) (w : World) : (binOp .eql 53 (.agg (r.map (Value.int .i64)).toArray)
   (.agg #[.int .i64 0, .int .i64 0, .int .i64 0, .int .i64 0, .int .i64 0, .int .i64 0, .int .i64 0, .int .i64 0, .int .i64 0, .int .i64 0, .int .i64 0, .int .i64 0, .int .i64 0, .int .i64 0, .int .i64 0, .int .i64 0, .int .i64 0])).run Try.prog w = .ok (.bool (decide (r = zer))) w :=
  run_eql_struct64 Try.underlying53 flat53 (by omega) r zer hr rfl w


theorem Tab.new {ty e : TypeId} {B : Nat} {w w' : World} {p : Nat} {sv : Value} {n : Nat} {xs : List Int} {most : Int} (h : Tab ty e B w p sv n xs most) (hn : New w w') : Tab ty e B w' p sv n xs most :=
  ⟨hn.heap h.head, h.base, owns_new h.rows hn, h.small, h.two⟩
/-- A row that is written in one place. -/
theorem owns_set {w : World} {B : Nat} {e : TypeId} {size : Nat} {g n cap : Nat} {xs : List Value} (h : w.ownsRow B e size (.slice (some ⟨g, 0, none⟩) n cap) n xs) (j : Nat) (v : Value) :
    (w.setCell ⟨g, j, none⟩ v).ownsRow B e size (.slice (some ⟨g, 0, none⟩) n cap) n (xs.set j v) := by
  refine ⟨by simpa using h.1, ?_⟩
  rcases h.2 with ⟨e1, _⟩ | ⟨g', cap', cur, e1, hb, hg, hc, hm, hs, ht⟩
  · cases e1
  · cases e1
    refine .inr ⟨g, cap, cur.setIfInBounds j v, rfl, hb, heap_set_same hg _ _, hc, hm, by simpa using hs, ?_⟩
    rw [← ht]; simp [List.take_set]
theorem Tab.set {ty e : TypeId} {B : Nat} {w : World} {p g cap n : Nat} {xs : List Int} {most : Int} (h : Tab ty e B w p (.slice (.some ⟨g, 0, none⟩) n cap) n xs most) (j : Nat) (v : Int) :
    Tab ty e B (w.setCell ⟨g, j, none⟩ (.int .i64 v)) p (.slice (.some ⟨g, 0, none⟩) n cap) n (xs.set j v) most :=
  ⟨by rw [heap_set_other (fun e => h.two (by simp [Value.ownBlock, e]))]; exact h.head, h.base, by rw [List.map_set]; exact owns_set h.rows j _, h.small, h.two⟩
theorem Tab.drew {ty e : TypeId} {B : Nat} {w : World} {p : Nat} {sv : Value} {n : Nat} {xs : List Int} {most : Int} (h : Tab ty e B w p sv n xs most) : Tab ty e B w.drew p sv n xs most := ⟨h.head, h.base, h.rows, h.small, h.two⟩

/-- Field j of task k, read. -/
theorem Tab.cell {ty e : TypeId} {B : Nat} {w : World} {p g cap n : Nat} {xs : List Int} {most : Int} (h : Tab ty e B w p (.slice (.some ⟨g, 0, none⟩) n cap) n xs most) {k : Nat} (hk : k < n) (j : Nat) (hj : j < 17) :
    w.cell? ⟨g, 17 * k + j, none⟩ = some (.int .i64 (xs.getD (17 * k + j) 0)) := by
  obtain ⟨g', cap', cur, e1, _, _, hg, _, _, _, ht⟩ := h.block (by omega)
  cases e1
  have hl := h.len
  exact h.range hg ht hk j _ (by simp [tk, List.getElem?_take_of_lt hj, show 17 * k + j < xs.length by omega])
theorem Tab.frozen {ty e : TypeId} {B : Nat} {w : World} {p g cap n : Nat} {xs : List Int} {most : Int} (h : Tab ty e B w p (.slice (.some ⟨g, 0, none⟩) n cap) n xs most) (j : Nat) :
    w.frozen? ⟨g, j, none⟩ = false := by
  rcases h.rows.2 with ⟨e1, _⟩ | ⟨g', cap', cur, e1, _, hg, _⟩
  · cases e1
  · cases e1; exact frozen_of hg j
theorem Tab.lt {ty e : TypeId} {B : Nat} {w : World} {p g cap n : Nat} {xs : List Int} {most : Int} (h : Tab ty e B w p (.slice (.some ⟨g, 0, none⟩) n cap) n xs most) : g < w.heap.size := (h.rows.lt g rfl).2

theorem ready_c (r : List Int) (hr : r.length = 17) (w : World) :
    Calls Try.prog 36 #[.agg (r.map (Value.int .i64)).toArray] w fun e w' => e = .returned (.bool (r.getD 0 0 == 1)) ∧ New w w' := by
  match r, hr with
  | [a0, a1, a2, a3, a4, a5, a6, a7, a8, a9, a10, a11, a12, a13, a14, a15, a16], _ =>
  simp only [List.map_cons, List.map_nil]
  go_enter Try.func36, Try.ntmps36
  go_wp2
  go_ret
  exact ⟨rfl, (Upd.refl _ _).alloc _⟩

theorem parked_c (r : List Int) (hr : r.length = 17) (w : World) :
    Calls Try.prog 42 #[.agg (r.map (Value.int .i64)).toArray] w fun e w' => e = .returned (.bool (r.getD 0 0 == 2)) ∧ New w w' := by
  match r, hr with
  | [a0, a1, a2, a3, a4, a5, a6, a7, a8, a9, a10, a11, a12, a13, a14, a15, a16], _ =>
  simp only [List.map_cons, List.map_nil]
  go_enter Try.func42, Try.ntmps42
  go_wp2
  go_ret
  exact ⟨rfl, (Upd.refl _ _).alloc _⟩

theorem live_c (r : List Int) (hr : r.length = 17) (w : World) :
    Calls Try.prog 38 #[.agg (r.map (Value.int .i64)).toArray] w fun e w' => e = .returned (.bool (r.getD 0 0 != 3)) ∧ New w w' := by
  match r, hr with
  | [a0, a1, a2, a3, a4, a5, a6, a7, a8, a9, a10, a11, a12, a13, a14, a15, a16], _ =>
  simp only [List.map_cons, List.map_nil]
  go_enter Try.func38, Try.ntmps38
  go_wp2
  go_ret
  exact ⟨rfl, (Upd.refl _ _).alloc _⟩

def rdy (x : Int) : Bool := x == 1
def prk (x : Int) : Bool := x == 2
def liv (x : Int) : Bool := x != 3
/-- May it be done? -/
def mayDo (f : Int → Bool) (n : Nat) (xs : List Int) (i : Int) : Bool := decide (0 ≤ i) && decide (i < n) && !decide (tk xs i.toNat = zer) && f (xs.getD (17 * i.toNat) 0)
/-- What a change comes to. -/
def Chg (may : Bool) (R : World → Prop) (w : World) (e : Ending) (w' : World) : Prop :=
  (may = true ∧ e = .returned (.bool true) ∧ R w') ∨ (may = false ∧ e = .returned (.bool false) ∧ New w w')
theorem tk_head (xs : List Int) (k : Nat) : (tk xs k).getD 0 0 = xs.getD (17 * k) 0 := by
  simp [tk]

set_option maxHeartbeats 400000 in
theorem change_37 (B p n : Nat) (sv : Value) (xs : List Int) (most : Int) (w : World) (h : Tab 65 53 B w p sv n xs most) (i : Int) (c0 : Value) (R : World → Prop)
    (hdo : ∀ g cap, sv = .slice (some ⟨g, 0, none⟩) n cap → 0 ≤ i → i < n → mayDo rdy n xs i = true → ∀ w1, New w w1 → Calls Try.prog 37 #[.pointer (some ⟨g, 17 * i.toNat, none⟩), c0] w1 fun e w2 => e = .returned (.tuple #[]) ∧ R w2) :
    Calls Try.prog 35 #[.pointer (some ⟨p, 0, none⟩), .int .i64 i, .func (.func 36) #[] #[], .func (.func 37) #[] #[c0]] w (Chg (mayDo rdy n xs i) R w) := by
  by_cases hin : 0 ≤ i ∧ i < n
  case neg =>
    have OF := Lib.hid (of_out B p n sv xs most w h i (by omega))
    have HM := Lib.hid (show mayDo rdy n xs i = false by simp only [mayDo]; simp; omega)
    clear h hdo hin
    go_enter Try.func35, Try.ntmps35
    go_wp2_with fail
    refine OF.out.mono ?_; rintro e w' ⟨rfl, rfl⟩
    go_wp2_with fail
    go_ret
    exact .inr ⟨HM.out, rfl, Upd.refl _ _⟩
  case pos =>
  obtain ⟨h0, hi⟩ := hin
  obtain ⟨g, cap, cur, rfl, _, _, hg, _, _, _, ht⟩ := h.block (by omega)
  have OF := Lib.hid (of_in B p g cap n xs most w h i h0 hi)
  have R0 := Lib.hid (h.range hg ht (k := i.toNat) (by omega))
  have hr : (tk xs i.toNat).length = 17 := tk_len h.len (by omega)
  have HR := Lib.hid hr
  have E := eq53 (tk xs i.toNat) hr
  have HD := Lib.hid (hdo g cap rfl h0 hi)
  have HM := Lib.hid (ready_c (tk xs i.toNat) hr)
  have H0 := Lib.hid (tk_head xs i.toNat)
  clear hdo hg ht hr h
  by_cases hz : tk xs i.toNat = zer
  · rw [decide_eq_true hz] at E
    have HN := Lib.hid (show mayDo rdy n xs i = false by simp [mayDo, hz])
    clear hz
    go_enter Try.func35, Try.ntmps35
    go_wp2_with fail
    refine OF.out.mono ?_; rintro e w' ⟨rfl, rfl⟩
    go_wp2_with (refine wpList_ld (ty := 53) (x := .tmp 17) g _ _ _ (by rfl) (by rfl) R0.out Try.underlying53 rfl (by rw [info53]; simp [HR.out]) ?_)
    go_ret
    exact .inr ⟨HN.out, rfl, Upd.refl _ _⟩
  · rw [decide_eq_false hz] at E
    by_cases hm : rdy (xs.getD (17 * i.toNat) 0) = true
    · have hN := (show mayDo rdy n xs i = true by simp only [mayDo]; rw [decide_eq_true h0, decide_eq_true hi, decide_eq_false hz, hm]; rfl)
      have HN := Lib.hid hN
      have MAY := Lib.hid (show (rdy ((tk xs i.toNat).getD 0 0)) = true by rw [H0.out]; exact hm)
      clear hz hm
      replace HD := Lib.hid (HD.out hN)
      clear hN
      go_enter Try.func35, Try.ntmps35
      go_wp2_with fail
      refine OF.out.mono ?_; rintro e w' ⟨rfl, rfl⟩
      go_wp2_with (first | (refine wpList_ld (ty := 53) (x := .tmp 17) g _ _ _ (by rfl) (by rfl) R0.out Try.underlying53 rfl (by rw [info53]; simp [HR.out]) ?_) | (refine wpList_ld (ty := 53) (x := .tmp 25) g _ _ _ (by rfl) (by rfl) R0.out Try.underlying53 rfl (by rw [info53]; simp [HR.out]) ?_))
      refine (HM.out _).mono ?_; rintro e w' ⟨rfl, hn⟩
      have M1 := MAY.out; simp only [rdy] at M1; rw [M1]; clear M1
      have N1 := Lib.hid hn; clear hn
      go_wp2_with fail
      refine (HD.out _ N1.out).mono ?_; rintro e w2 ⟨rfl, hR⟩
      have R1 := Lib.hid hR; clear hR
      go_wp2_with fail
      go_ret
      exact .inl ⟨HN.out, rfl, R1.out⟩
    · have HN := Lib.hid (show mayDo rdy n xs i = false by simp only [mayDo]; rw [Bool.eq_false_iff.2 hm]; simp)
      have MAY := Lib.hid (show (rdy ((tk xs i.toNat).getD 0 0)) = false by rw [H0.out]; exact Bool.eq_false_iff.2 hm)
      clear hz hm
      go_enter Try.func35, Try.ntmps35
      go_wp2_with fail
      refine OF.out.mono ?_; rintro e w' ⟨rfl, rfl⟩
      go_wp2_with (first | (refine wpList_ld (ty := 53) (x := .tmp 17) g _ _ _ (by rfl) (by rfl) R0.out Try.underlying53 rfl (by rw [info53]; simp [HR.out]) ?_) | (refine wpList_ld (ty := 53) (x := .tmp 25) g _ _ _ (by rfl) (by rfl) R0.out Try.underlying53 rfl (by rw [info53]; simp [HR.out]) ?_))
      refine (HM.out _).mono ?_; rintro e w' ⟨rfl, hn⟩
      have M1 := MAY.out; simp only [rdy] at M1; rw [M1]; clear M1
      have N1 := Lib.hid hn; clear hn
      go_wp2_with fail
      go_ret
      exact .inr ⟨HN.out, rfl, N1.out⟩

set_option maxHeartbeats 400000 in
theorem change_39 (B p n : Nat) (sv : Value) (xs : List Int) (most : Int) (w : World) (h : Tab 65 53 B w p sv n xs most) (i : Int) (c0 c1 c2 : Value) (R : World → Prop)
    (hdo : ∀ g cap, sv = .slice (some ⟨g, 0, none⟩) n cap → 0 ≤ i → i < n → mayDo liv n xs i = true → ∀ w1, New w w1 → Calls Try.prog 39 #[.pointer (some ⟨g, 17 * i.toNat, none⟩), c0, c1, c2] w1 fun e w2 => e = .returned (.tuple #[]) ∧ R w2) :
    Calls Try.prog 35 #[.pointer (some ⟨p, 0, none⟩), .int .i64 i, .func (.func 38) #[] #[], .func (.func 39) #[] #[c0, c1, c2]] w (Chg (mayDo liv n xs i) R w) := by
  by_cases hin : 0 ≤ i ∧ i < n
  case neg =>
    have OF := Lib.hid (of_out B p n sv xs most w h i (by omega))
    have HM := Lib.hid (show mayDo liv n xs i = false by simp only [mayDo]; simp; omega)
    clear h hdo hin
    go_enter Try.func35, Try.ntmps35
    go_wp2_with fail
    refine OF.out.mono ?_; rintro e w' ⟨rfl, rfl⟩
    go_wp2_with fail
    go_ret
    exact .inr ⟨HM.out, rfl, Upd.refl _ _⟩
  case pos =>
  obtain ⟨h0, hi⟩ := hin
  obtain ⟨g, cap, cur, rfl, _, _, hg, _, _, _, ht⟩ := h.block (by omega)
  have OF := Lib.hid (of_in B p g cap n xs most w h i h0 hi)
  have R0 := Lib.hid (h.range hg ht (k := i.toNat) (by omega))
  have hr : (tk xs i.toNat).length = 17 := tk_len h.len (by omega)
  have HR := Lib.hid hr
  have E := eq53 (tk xs i.toNat) hr
  have HD := Lib.hid (hdo g cap rfl h0 hi)
  have HM := Lib.hid (live_c (tk xs i.toNat) hr)
  have H0 := Lib.hid (tk_head xs i.toNat)
  clear hdo hg ht hr h
  by_cases hz : tk xs i.toNat = zer
  · rw [decide_eq_true hz] at E
    have HN := Lib.hid (show mayDo liv n xs i = false by simp [mayDo, hz])
    clear hz
    go_enter Try.func35, Try.ntmps35
    go_wp2_with fail
    refine OF.out.mono ?_; rintro e w' ⟨rfl, rfl⟩
    go_wp2_with (refine wpList_ld (ty := 53) (x := .tmp 17) g _ _ _ (by rfl) (by rfl) R0.out Try.underlying53 rfl (by rw [info53]; simp [HR.out]) ?_)
    go_ret
    exact .inr ⟨HN.out, rfl, Upd.refl _ _⟩
  · rw [decide_eq_false hz] at E
    by_cases hm : liv (xs.getD (17 * i.toNat) 0) = true
    · have hN := (show mayDo liv n xs i = true by simp only [mayDo]; rw [decide_eq_true h0, decide_eq_true hi, decide_eq_false hz, hm]; rfl)
      have HN := Lib.hid hN
      have MAY := Lib.hid (show (liv ((tk xs i.toNat).getD 0 0)) = true by rw [H0.out]; exact hm)
      clear hz hm
      replace HD := Lib.hid (HD.out hN)
      clear hN
      go_enter Try.func35, Try.ntmps35
      go_wp2_with fail
      refine OF.out.mono ?_; rintro e w' ⟨rfl, rfl⟩
      go_wp2_with (first | (refine wpList_ld (ty := 53) (x := .tmp 17) g _ _ _ (by rfl) (by rfl) R0.out Try.underlying53 rfl (by rw [info53]; simp [HR.out]) ?_) | (refine wpList_ld (ty := 53) (x := .tmp 25) g _ _ _ (by rfl) (by rfl) R0.out Try.underlying53 rfl (by rw [info53]; simp [HR.out]) ?_))
      refine (HM.out _).mono ?_; rintro e w' ⟨rfl, hn⟩
      have M1 := MAY.out; simp only [liv] at M1; rw [M1]; clear M1
      have N1 := Lib.hid hn; clear hn
      go_wp2_with fail
      refine (HD.out _ N1.out).mono ?_; rintro e w2 ⟨rfl, hR⟩
      have R1 := Lib.hid hR; clear hR
      go_wp2_with fail
      go_ret
      exact .inl ⟨HN.out, rfl, R1.out⟩
    · have HN := Lib.hid (show mayDo liv n xs i = false by simp only [mayDo]; rw [Bool.eq_false_iff.2 hm]; simp)
      have MAY := Lib.hid (show (liv ((tk xs i.toNat).getD 0 0)) = false by rw [H0.out]; exact Bool.eq_false_iff.2 hm)
      clear hz hm
      go_enter Try.func35, Try.ntmps35
      go_wp2_with fail
      refine OF.out.mono ?_; rintro e w' ⟨rfl, rfl⟩
      go_wp2_with (first | (refine wpList_ld (ty := 53) (x := .tmp 17) g _ _ _ (by rfl) (by rfl) R0.out Try.underlying53 rfl (by rw [info53]; simp [HR.out]) ?_) | (refine wpList_ld (ty := 53) (x := .tmp 25) g _ _ _ (by rfl) (by rfl) R0.out Try.underlying53 rfl (by rw [info53]; simp [HR.out]) ?_))
      refine (HM.out _).mono ?_; rintro e w' ⟨rfl, hn⟩
      have M1 := MAY.out; simp only [liv] at M1; rw [M1]; clear M1
      have N1 := Lib.hid hn; clear hn
      go_wp2_with fail
      go_ret
      exact .inr ⟨HN.out, rfl, N1.out⟩

set_option maxHeartbeats 400000 in
theorem change_41 (B p n : Nat) (sv : Value) (xs : List Int) (most : Int) (w : World) (h : Tab 65 53 B w p sv n xs most) (i : Int) (c0 : Value) (R : World → Prop)
    (hdo : ∀ g cap, sv = .slice (some ⟨g, 0, none⟩) n cap → 0 ≤ i → i < n → mayDo rdy n xs i = true → ∀ w1, New w w1 → Calls Try.prog 41 #[.pointer (some ⟨g, 17 * i.toNat, none⟩), c0] w1 fun e w2 => e = .returned (.tuple #[]) ∧ R w2) :
    Calls Try.prog 35 #[.pointer (some ⟨p, 0, none⟩), .int .i64 i, .func (.func 36) #[] #[], .func (.func 41) #[] #[c0]] w (Chg (mayDo rdy n xs i) R w) := by
  by_cases hin : 0 ≤ i ∧ i < n
  case neg =>
    have OF := Lib.hid (of_out B p n sv xs most w h i (by omega))
    have HM := Lib.hid (show mayDo rdy n xs i = false by simp only [mayDo]; simp; omega)
    clear h hdo hin
    go_enter Try.func35, Try.ntmps35
    go_wp2_with fail
    refine OF.out.mono ?_; rintro e w' ⟨rfl, rfl⟩
    go_wp2_with fail
    go_ret
    exact .inr ⟨HM.out, rfl, Upd.refl _ _⟩
  case pos =>
  obtain ⟨h0, hi⟩ := hin
  obtain ⟨g, cap, cur, rfl, _, _, hg, _, _, _, ht⟩ := h.block (by omega)
  have OF := Lib.hid (of_in B p g cap n xs most w h i h0 hi)
  have R0 := Lib.hid (h.range hg ht (k := i.toNat) (by omega))
  have hr : (tk xs i.toNat).length = 17 := tk_len h.len (by omega)
  have HR := Lib.hid hr
  have E := eq53 (tk xs i.toNat) hr
  have HD := Lib.hid (hdo g cap rfl h0 hi)
  have HM := Lib.hid (ready_c (tk xs i.toNat) hr)
  have H0 := Lib.hid (tk_head xs i.toNat)
  clear hdo hg ht hr h
  by_cases hz : tk xs i.toNat = zer
  · rw [decide_eq_true hz] at E
    have HN := Lib.hid (show mayDo rdy n xs i = false by simp [mayDo, hz])
    clear hz
    go_enter Try.func35, Try.ntmps35
    go_wp2_with fail
    refine OF.out.mono ?_; rintro e w' ⟨rfl, rfl⟩
    go_wp2_with (refine wpList_ld (ty := 53) (x := .tmp 17) g _ _ _ (by rfl) (by rfl) R0.out Try.underlying53 rfl (by rw [info53]; simp [HR.out]) ?_)
    go_ret
    exact .inr ⟨HN.out, rfl, Upd.refl _ _⟩
  · rw [decide_eq_false hz] at E
    by_cases hm : rdy (xs.getD (17 * i.toNat) 0) = true
    · have hN := (show mayDo rdy n xs i = true by simp only [mayDo]; rw [decide_eq_true h0, decide_eq_true hi, decide_eq_false hz, hm]; rfl)
      have HN := Lib.hid hN
      have MAY := Lib.hid (show (rdy ((tk xs i.toNat).getD 0 0)) = true by rw [H0.out]; exact hm)
      clear hz hm
      replace HD := Lib.hid (HD.out hN)
      clear hN
      go_enter Try.func35, Try.ntmps35
      go_wp2_with fail
      refine OF.out.mono ?_; rintro e w' ⟨rfl, rfl⟩
      go_wp2_with (first | (refine wpList_ld (ty := 53) (x := .tmp 17) g _ _ _ (by rfl) (by rfl) R0.out Try.underlying53 rfl (by rw [info53]; simp [HR.out]) ?_) | (refine wpList_ld (ty := 53) (x := .tmp 25) g _ _ _ (by rfl) (by rfl) R0.out Try.underlying53 rfl (by rw [info53]; simp [HR.out]) ?_))
      refine (HM.out _).mono ?_; rintro e w' ⟨rfl, hn⟩
      have M1 := MAY.out; simp only [rdy] at M1; rw [M1]; clear M1
      have N1 := Lib.hid hn; clear hn
      go_wp2_with fail
      refine (HD.out _ N1.out).mono ?_; rintro e w2 ⟨rfl, hR⟩
      have R1 := Lib.hid hR; clear hR
      go_wp2_with fail
      go_ret
      exact .inl ⟨HN.out, rfl, R1.out⟩
    · have HN := Lib.hid (show mayDo rdy n xs i = false by simp only [mayDo]; rw [Bool.eq_false_iff.2 hm]; simp)
      have MAY := Lib.hid (show (rdy ((tk xs i.toNat).getD 0 0)) = false by rw [H0.out]; exact Bool.eq_false_iff.2 hm)
      clear hz hm
      go_enter Try.func35, Try.ntmps35
      go_wp2_with fail
      refine OF.out.mono ?_; rintro e w' ⟨rfl, rfl⟩
      go_wp2_with (first | (refine wpList_ld (ty := 53) (x := .tmp 17) g _ _ _ (by rfl) (by rfl) R0.out Try.underlying53 rfl (by rw [info53]; simp [HR.out]) ?_) | (refine wpList_ld (ty := 53) (x := .tmp 25) g _ _ _ (by rfl) (by rfl) R0.out Try.underlying53 rfl (by rw [info53]; simp [HR.out]) ?_))
      refine (HM.out _).mono ?_; rintro e w' ⟨rfl, hn⟩
      have M1 := MAY.out; simp only [rdy] at M1; rw [M1]; clear M1
      have N1 := Lib.hid hn; clear hn
      go_wp2_with fail
      go_ret
      exact .inr ⟨HN.out, rfl, N1.out⟩

set_option maxHeartbeats 400000 in
theorem change_43 (B p n : Nat) (sv : Value) (xs : List Int) (most : Int) (w : World) (h : Tab 65 53 B w p sv n xs most) (i : Int) (c0 : Value) (R : World → Prop)
    (hdo : ∀ g cap, sv = .slice (some ⟨g, 0, none⟩) n cap → 0 ≤ i → i < n → mayDo prk n xs i = true → ∀ w1, New w w1 → Calls Try.prog 43 #[.pointer (some ⟨g, 17 * i.toNat, none⟩), c0] w1 fun e w2 => e = .returned (.tuple #[]) ∧ R w2) :
    Calls Try.prog 35 #[.pointer (some ⟨p, 0, none⟩), .int .i64 i, .func (.func 42) #[] #[], .func (.func 43) #[] #[c0]] w (Chg (mayDo prk n xs i) R w) := by
  by_cases hin : 0 ≤ i ∧ i < n
  case neg =>
    have OF := Lib.hid (of_out B p n sv xs most w h i (by omega))
    have HM := Lib.hid (show mayDo prk n xs i = false by simp only [mayDo]; simp; omega)
    clear h hdo hin
    go_enter Try.func35, Try.ntmps35
    go_wp2_with fail
    refine OF.out.mono ?_; rintro e w' ⟨rfl, rfl⟩
    go_wp2_with fail
    go_ret
    exact .inr ⟨HM.out, rfl, Upd.refl _ _⟩
  case pos =>
  obtain ⟨h0, hi⟩ := hin
  obtain ⟨g, cap, cur, rfl, _, _, hg, _, _, _, ht⟩ := h.block (by omega)
  have OF := Lib.hid (of_in B p g cap n xs most w h i h0 hi)
  have R0 := Lib.hid (h.range hg ht (k := i.toNat) (by omega))
  have hr : (tk xs i.toNat).length = 17 := tk_len h.len (by omega)
  have HR := Lib.hid hr
  have E := eq53 (tk xs i.toNat) hr
  have HD := Lib.hid (hdo g cap rfl h0 hi)
  have HM := Lib.hid (parked_c (tk xs i.toNat) hr)
  have H0 := Lib.hid (tk_head xs i.toNat)
  clear hdo hg ht hr h
  by_cases hz : tk xs i.toNat = zer
  · rw [decide_eq_true hz] at E
    have HN := Lib.hid (show mayDo prk n xs i = false by simp [mayDo, hz])
    clear hz
    go_enter Try.func35, Try.ntmps35
    go_wp2_with fail
    refine OF.out.mono ?_; rintro e w' ⟨rfl, rfl⟩
    go_wp2_with (refine wpList_ld (ty := 53) (x := .tmp 17) g _ _ _ (by rfl) (by rfl) R0.out Try.underlying53 rfl (by rw [info53]; simp [HR.out]) ?_)
    go_ret
    exact .inr ⟨HN.out, rfl, Upd.refl _ _⟩
  · rw [decide_eq_false hz] at E
    by_cases hm : prk (xs.getD (17 * i.toNat) 0) = true
    · have hN := (show mayDo prk n xs i = true by simp only [mayDo]; rw [decide_eq_true h0, decide_eq_true hi, decide_eq_false hz, hm]; rfl)
      have HN := Lib.hid hN
      have MAY := Lib.hid (show (prk ((tk xs i.toNat).getD 0 0)) = true by rw [H0.out]; exact hm)
      clear hz hm
      replace HD := Lib.hid (HD.out hN)
      clear hN
      go_enter Try.func35, Try.ntmps35
      go_wp2_with fail
      refine OF.out.mono ?_; rintro e w' ⟨rfl, rfl⟩
      go_wp2_with (first | (refine wpList_ld (ty := 53) (x := .tmp 17) g _ _ _ (by rfl) (by rfl) R0.out Try.underlying53 rfl (by rw [info53]; simp [HR.out]) ?_) | (refine wpList_ld (ty := 53) (x := .tmp 25) g _ _ _ (by rfl) (by rfl) R0.out Try.underlying53 rfl (by rw [info53]; simp [HR.out]) ?_))
      refine (HM.out _).mono ?_; rintro e w' ⟨rfl, hn⟩
      have M1 := MAY.out; simp only [prk] at M1; rw [M1]; clear M1
      have N1 := Lib.hid hn; clear hn
      go_wp2_with fail
      refine (HD.out _ N1.out).mono ?_; rintro e w2 ⟨rfl, hR⟩
      have R1 := Lib.hid hR; clear hR
      go_wp2_with fail
      go_ret
      exact .inl ⟨HN.out, rfl, R1.out⟩
    · have HN := Lib.hid (show mayDo prk n xs i = false by simp only [mayDo]; rw [Bool.eq_false_iff.2 hm]; simp)
      have MAY := Lib.hid (show (prk ((tk xs i.toNat).getD 0 0)) = false by rw [H0.out]; exact Bool.eq_false_iff.2 hm)
      clear hz hm
      go_enter Try.func35, Try.ntmps35
      go_wp2_with fail
      refine OF.out.mono ?_; rintro e w' ⟨rfl, rfl⟩
      go_wp2_with (first | (refine wpList_ld (ty := 53) (x := .tmp 17) g _ _ _ (by rfl) (by rfl) R0.out Try.underlying53 rfl (by rw [info53]; simp [HR.out]) ?_) | (refine wpList_ld (ty := 53) (x := .tmp 25) g _ _ _ (by rfl) (by rfl) R0.out Try.underlying53 rfl (by rw [info53]; simp [HR.out]) ?_))
      refine (HM.out _).mono ?_; rintro e w' ⟨rfl, hn⟩
      have M1 := MAY.out; simp only [prk] at M1; rw [M1]; clear M1
      have N1 := Lib.hid hn; clear hn
      go_wp2_with fail
      go_ret
      exact .inr ⟨HN.out, rfl, N1.out⟩

set_option maxHeartbeats 400000 in
theorem change_44 (B p n : Nat) (sv : Value) (xs : List Int) (most : Int) (w : World) (h : Tab 65 53 B w p sv n xs most) (i : Int) (c0 : Value) (R : World → Prop)
    (hdo : ∀ g cap, sv = .slice (some ⟨g, 0, none⟩) n cap → 0 ≤ i → i < n → mayDo prk n xs i = true → ∀ w1, New w w1 → Calls Try.prog 44 #[.pointer (some ⟨g, 17 * i.toNat, none⟩), c0] w1 fun e w2 => e = .returned (.tuple #[]) ∧ R w2) :
    Calls Try.prog 35 #[.pointer (some ⟨p, 0, none⟩), .int .i64 i, .func (.func 42) #[] #[], .func (.func 44) #[] #[c0]] w (Chg (mayDo prk n xs i) R w) := by
  by_cases hin : 0 ≤ i ∧ i < n
  case neg =>
    have OF := Lib.hid (of_out B p n sv xs most w h i (by omega))
    have HM := Lib.hid (show mayDo prk n xs i = false by simp only [mayDo]; simp; omega)
    clear h hdo hin
    go_enter Try.func35, Try.ntmps35
    go_wp2_with fail
    refine OF.out.mono ?_; rintro e w' ⟨rfl, rfl⟩
    go_wp2_with fail
    go_ret
    exact .inr ⟨HM.out, rfl, Upd.refl _ _⟩
  case pos =>
  obtain ⟨h0, hi⟩ := hin
  obtain ⟨g, cap, cur, rfl, _, _, hg, _, _, _, ht⟩ := h.block (by omega)
  have OF := Lib.hid (of_in B p g cap n xs most w h i h0 hi)
  have R0 := Lib.hid (h.range hg ht (k := i.toNat) (by omega))
  have hr : (tk xs i.toNat).length = 17 := tk_len h.len (by omega)
  have HR := Lib.hid hr
  have E := eq53 (tk xs i.toNat) hr
  have HD := Lib.hid (hdo g cap rfl h0 hi)
  have HM := Lib.hid (parked_c (tk xs i.toNat) hr)
  have H0 := Lib.hid (tk_head xs i.toNat)
  clear hdo hg ht hr h
  by_cases hz : tk xs i.toNat = zer
  · rw [decide_eq_true hz] at E
    have HN := Lib.hid (show mayDo prk n xs i = false by simp [mayDo, hz])
    clear hz
    go_enter Try.func35, Try.ntmps35
    go_wp2_with fail
    refine OF.out.mono ?_; rintro e w' ⟨rfl, rfl⟩
    go_wp2_with (refine wpList_ld (ty := 53) (x := .tmp 17) g _ _ _ (by rfl) (by rfl) R0.out Try.underlying53 rfl (by rw [info53]; simp [HR.out]) ?_)
    go_ret
    exact .inr ⟨HN.out, rfl, Upd.refl _ _⟩
  · rw [decide_eq_false hz] at E
    by_cases hm : prk (xs.getD (17 * i.toNat) 0) = true
    · have hN := (show mayDo prk n xs i = true by simp only [mayDo]; rw [decide_eq_true h0, decide_eq_true hi, decide_eq_false hz, hm]; rfl)
      have HN := Lib.hid hN
      have MAY := Lib.hid (show (prk ((tk xs i.toNat).getD 0 0)) = true by rw [H0.out]; exact hm)
      clear hz hm
      replace HD := Lib.hid (HD.out hN)
      clear hN
      go_enter Try.func35, Try.ntmps35
      go_wp2_with fail
      refine OF.out.mono ?_; rintro e w' ⟨rfl, rfl⟩
      go_wp2_with (first | (refine wpList_ld (ty := 53) (x := .tmp 17) g _ _ _ (by rfl) (by rfl) R0.out Try.underlying53 rfl (by rw [info53]; simp [HR.out]) ?_) | (refine wpList_ld (ty := 53) (x := .tmp 25) g _ _ _ (by rfl) (by rfl) R0.out Try.underlying53 rfl (by rw [info53]; simp [HR.out]) ?_))
      refine (HM.out _).mono ?_; rintro e w' ⟨rfl, hn⟩
      have M1 := MAY.out; simp only [prk] at M1; rw [M1]; clear M1
      have N1 := Lib.hid hn; clear hn
      go_wp2_with fail
      refine (HD.out _ N1.out).mono ?_; rintro e w2 ⟨rfl, hR⟩
      have R1 := Lib.hid hR; clear hR
      go_wp2_with fail
      go_ret
      exact .inl ⟨HN.out, rfl, R1.out⟩
    · have HN := Lib.hid (show mayDo prk n xs i = false by simp only [mayDo]; rw [Bool.eq_false_iff.2 hm]; simp)
      have MAY := Lib.hid (show (prk ((tk xs i.toNat).getD 0 0)) = false by rw [H0.out]; exact Bool.eq_false_iff.2 hm)
      clear hz hm
      go_enter Try.func35, Try.ntmps35
      go_wp2_with fail
      refine OF.out.mono ?_; rintro e w' ⟨rfl, rfl⟩
      go_wp2_with (first | (refine wpList_ld (ty := 53) (x := .tmp 17) g _ _ _ (by rfl) (by rfl) R0.out Try.underlying53 rfl (by rw [info53]; simp [HR.out]) ?_) | (refine wpList_ld (ty := 53) (x := .tmp 25) g _ _ _ (by rfl) (by rfl) R0.out Try.underlying53 rfl (by rw [info53]; simp [HR.out]) ?_))
      refine (HM.out _).mono ?_; rintro e w' ⟨rfl, hn⟩
      have M1 := MAY.out; simp only [prk] at M1; rw [M1]; clear M1
      have N1 := Lib.hid hn; clear hn
      go_wp2_with fail
      go_ret
      exact .inr ⟨HN.out, rfl, N1.out⟩

set_option maxHeartbeats 400000 in
theorem change_45 (B p n : Nat) (sv : Value) (xs : List Int) (most : Int) (w : World) (h : Tab 65 53 B w p sv n xs most) (i : Int) (c0 : Value) (R : World → Prop)
    (hdo : ∀ g cap, sv = .slice (some ⟨g, 0, none⟩) n cap → 0 ≤ i → i < n → mayDo liv n xs i = true → ∀ w1, New w w1 → Calls Try.prog 45 #[.pointer (some ⟨g, 17 * i.toNat, none⟩), c0] w1 fun e w2 => e = .returned (.tuple #[]) ∧ R w2) :
    Calls Try.prog 35 #[.pointer (some ⟨p, 0, none⟩), .int .i64 i, .func (.func 38) #[] #[], .func (.func 45) #[] #[c0]] w (Chg (mayDo liv n xs i) R w) := by
  by_cases hin : 0 ≤ i ∧ i < n
  case neg =>
    have OF := Lib.hid (of_out B p n sv xs most w h i (by omega))
    have HM := Lib.hid (show mayDo liv n xs i = false by simp only [mayDo]; simp; omega)
    clear h hdo hin
    go_enter Try.func35, Try.ntmps35
    go_wp2_with fail
    refine OF.out.mono ?_; rintro e w' ⟨rfl, rfl⟩
    go_wp2_with fail
    go_ret
    exact .inr ⟨HM.out, rfl, Upd.refl _ _⟩
  case pos =>
  obtain ⟨h0, hi⟩ := hin
  obtain ⟨g, cap, cur, rfl, _, _, hg, _, _, _, ht⟩ := h.block (by omega)
  have OF := Lib.hid (of_in B p g cap n xs most w h i h0 hi)
  have R0 := Lib.hid (h.range hg ht (k := i.toNat) (by omega))
  have hr : (tk xs i.toNat).length = 17 := tk_len h.len (by omega)
  have HR := Lib.hid hr
  have E := eq53 (tk xs i.toNat) hr
  have HD := Lib.hid (hdo g cap rfl h0 hi)
  have HM := Lib.hid (live_c (tk xs i.toNat) hr)
  have H0 := Lib.hid (tk_head xs i.toNat)
  clear hdo hg ht hr h
  by_cases hz : tk xs i.toNat = zer
  · rw [decide_eq_true hz] at E
    have HN := Lib.hid (show mayDo liv n xs i = false by simp [mayDo, hz])
    clear hz
    go_enter Try.func35, Try.ntmps35
    go_wp2_with fail
    refine OF.out.mono ?_; rintro e w' ⟨rfl, rfl⟩
    go_wp2_with (refine wpList_ld (ty := 53) (x := .tmp 17) g _ _ _ (by rfl) (by rfl) R0.out Try.underlying53 rfl (by rw [info53]; simp [HR.out]) ?_)
    go_ret
    exact .inr ⟨HN.out, rfl, Upd.refl _ _⟩
  · rw [decide_eq_false hz] at E
    by_cases hm : liv (xs.getD (17 * i.toNat) 0) = true
    · have hN := (show mayDo liv n xs i = true by simp only [mayDo]; rw [decide_eq_true h0, decide_eq_true hi, decide_eq_false hz, hm]; rfl)
      have HN := Lib.hid hN
      have MAY := Lib.hid (show (liv ((tk xs i.toNat).getD 0 0)) = true by rw [H0.out]; exact hm)
      clear hz hm
      replace HD := Lib.hid (HD.out hN)
      clear hN
      go_enter Try.func35, Try.ntmps35
      go_wp2_with fail
      refine OF.out.mono ?_; rintro e w' ⟨rfl, rfl⟩
      go_wp2_with (first | (refine wpList_ld (ty := 53) (x := .tmp 17) g _ _ _ (by rfl) (by rfl) R0.out Try.underlying53 rfl (by rw [info53]; simp [HR.out]) ?_) | (refine wpList_ld (ty := 53) (x := .tmp 25) g _ _ _ (by rfl) (by rfl) R0.out Try.underlying53 rfl (by rw [info53]; simp [HR.out]) ?_))
      refine (HM.out _).mono ?_; rintro e w' ⟨rfl, hn⟩
      have M1 := MAY.out; simp only [liv] at M1; rw [M1]; clear M1
      have N1 := Lib.hid hn; clear hn
      go_wp2_with fail
      refine (HD.out _ N1.out).mono ?_; rintro e w2 ⟨rfl, hR⟩
      have R1 := Lib.hid hR; clear hR
      go_wp2_with fail
      go_ret
      exact .inl ⟨HN.out, rfl, R1.out⟩
    · have HN := Lib.hid (show mayDo liv n xs i = false by simp only [mayDo]; rw [Bool.eq_false_iff.2 hm]; simp)
      have MAY := Lib.hid (show (liv ((tk xs i.toNat).getD 0 0)) = false by rw [H0.out]; exact Bool.eq_false_iff.2 hm)
      clear hz hm
      go_enter Try.func35, Try.ntmps35
      go_wp2_with fail
      refine OF.out.mono ?_; rintro e w' ⟨rfl, rfl⟩
      go_wp2_with (first | (refine wpList_ld (ty := 53) (x := .tmp 17) g _ _ _ (by rfl) (by rfl) R0.out Try.underlying53 rfl (by rw [info53]; simp [HR.out]) ?_) | (refine wpList_ld (ty := 53) (x := .tmp 25) g _ _ _ (by rfl) (by rfl) R0.out Try.underlying53 rfl (by rw [info53]; simp [HR.out]) ?_))
      refine (HM.out _).mono ?_; rintro e w' ⟨rfl, hn⟩
      have M1 := MAY.out; simp only [liv] at M1; rw [M1]; clear M1
      have N1 := Lib.hid hn; clear hn
      go_wp2_with fail
      go_ret
      exact .inr ⟨HN.out, rfl, N1.out⟩

end Go.Proofs.Ytdbdpmpnblmfkaa

import Derived.Test.YtdbdpmpnblmfkaaT13
namespace Go.Proofs.Ytdbdpmpnblmfkaa
open Go.RowKit Go.Proofs.Cmd

/-- What an act comes to: a number, a truth, an error; how many tasks then, and their numbers. -/
structure Res where
  r : Int
  ok : Bool
  er : Int
  n : Nat
  xs : List Int

def act (n : Nat) (xs : List Int) (most d t a b x p0 p1 p2 p3 p4 p5 : Int) : Res :=
  if d = 0 then (if (n : Int) = most then ⟨-1, false, 2, n, xs⟩ else ⟨n, false, 0, n + 1, xs ++ fresh a b⟩)
  else if d = 1 then ⟨0, mayDo rdy n xs t, 0, n, goX n xs t a⟩
  else if d = 2 then ⟨0, mayDo liv n xs t && isReg a, 0, n, setX n xs t a x⟩
  else if d = 3 then ⟨0, decide (1 ≤ p0) && mayDo rdy n xs t, 0, n, parkX n xs t p0 p1 p2 p3 p4 p5⟩
  else if d = 4 then ⟨0, decide (1 ≤ p0) && mayDo prk n xs t, 0, n, againX n xs t p0 p1 p2 p3 p4 p5⟩
  else if d = 5 then ⟨0, mayDo prk n xs t, 0, n, wokeX n xs t x⟩
  else if d = 6 then ⟨0, mayDo liv n xs t, 0, n, endX n xs t x⟩
  else ⟨0, false, 0, n, xs⟩

/-- A table after an act. -/
def Acted (ty e : TypeId) (B p : Nat) (sv : Value) (most : Int) (R : Res) (w w' : World) : Prop :=
  ∃ sv', Tab ty e B w' p sv' R.n R.xs most ∧ Upd (fun k => k = p ∨ sv.ownBlock = some k) w w'
theorem Did.acted {ty e : TypeId} {B p : Nat} {sv : Value} {n : Nat} {most : Int} {ok : Bool} {xs : List Int} {w : World} {en : Ending} {w' : World} (h : Did ty e B p sv n most ok xs w en w') (R : Res) (h1 : R.n = n) (h2 : R.xs = xs) :
    Acted ty e B p sv most R w w' := ⟨sv, by rw [h1, h2]; exact h.2.1, h.2.2.mono (fun _ _ e => .inr e)⟩
theorem Acted.pre {ty e : TypeId} {B p : Nat} {sv : Value} {most : Int} {R : Res} {w w1 w' : World} (hn : New w w1) (h : Acted ty e B p sv most R w1 w') : Acted ty e B p sv most R w w' := by
  obtain ⟨sv', ht, hu⟩ := h
  exact ⟨sv', ht, pre_new hn hu⟩

def DoP (B p : Nat) (sv : Value) (most : Int) (R : Res) (w : World) (e : Ending) (w' : World) : Prop :=
  e = .returned (.tuple #[.int .i64 R.r, .bool R.ok, .int .i64 R.er]) ∧ Acted 65 53 B p sv most R w w'
variable {B p n : Nat} {sv : Value} {xs : List Int} {most : Int} {w : World}
theorem do_c (h : Tab 65 53 B w p sv n xs most) (hn : n < 1000) (d t a b x p0 p1 p2 p3 p4 p5 : Int) :
    Calls Try.prog 7 #[.pointer (some ⟨p, 0, none⟩), .agg #[.int .i64 d, .int .i64 t, .int .i64 a, .int .i64 b, .int .i64 x, .int .i64 p0, .int .i64 p1, .int .i64 p2, .int .i64 p3, .int .i64 p4, .int .i64 p5]] w
      (DoP B p sv most (act n xs most d t a b x p0 p1 p2 p3 p4 p5) w) := by
  have hN := new_alloc w (.cells #[.int .i64 d, .int .i64 t, .int .i64 a, .int .i64 b, .int .i64 x, .int .i64 p0, .int .i64 p1, .int .i64 p2, .int .i64 p3, .int .i64 p4, .int .i64 p5] 34)
  have h' := h.new hN
  have H := Lib.hid h'
  have N := Lib.hid hN
  clear hN
  by_cases d0 : d = 0
  · subst d0
    by_cases hm : (n : Int) = most
    · have C := Lib.hid (begin_full h' hm a b)
      have HA := Lib.hid (show act n xs most 0 t a b x p0 p1 p2 p3 p4 p5 = ⟨-1, false, 2, n, xs⟩ by simp [act, hm])
      clear h h' hm
      go_enter Try.func7, Try.ntmps7
      go_wp2_with fail
      refine C.out.mono ?_; rintro e w1 ⟨rfl, hq⟩
      have HQ := Lib.hid hq; clear hq
      go_wp2_with fail
      go_ret3
      rw [HA.out]
      exact ⟨rfl, _, H.out.new HQ.out, New.upd (N.out.trans HQ.out) _⟩
    · have C := Lib.hid (begin_more h' hm hn a b)
      have HA := Lib.hid (show act n xs most 0 t a b x p0 p1 p2 p3 p4 p5 = ⟨n, false, 0, n + 1, xs ++ fresh a b⟩ by simp [act, hm])
      clear h h' hm
      go_enter Try.func7, Try.ntmps7
      go_wp2_with fail
      refine C.out.mono ?_; rintro e w1 ⟨sv', rfl, hq⟩
      have HQ := Lib.hid hq; clear hq
      go_wp2_with fail
      go_ret3
      rw [HA.out]
      exact ⟨rfl, _, HQ.out.1, pre_new N.out HQ.out.2⟩
  by_cases d1 : d = 1
  · subst d1
    have C := Lib.hid (go_c h' t a)
    have HN := Lib.hid (show (act n xs most 1 t a b x p0 p1 p2 p3 p4 p5).n = n by simp [act])
    have HE := Lib.hid (show (act n xs most 1 t a b x p0 p1 p2 p3 p4 p5).er = 0 by simp [act])
    have HR := Lib.hid (show (act n xs most 1 t a b x p0 p1 p2 p3 p4 p5).r = 0 by simp [act])
    generalize hR : act n xs most 1 t a b x p0 p1 p2 p3 p4 p5 = R at HN HE HR ⊢
    have HX := Lib.hid (fun e w1 => fun (hq : Did 65 53 B p sv n most R.ok R.xs (w.alloc (.cells #[.int .i64 1, .int .i64 t, .int .i64 a, .int .i64 b, .int .i64 x, .int .i64 p0, .int .i64 p1, .int .i64 p2, .int .i64 p3, .int .i64 p4, .int .i64 p5] 34)) e w1) => hq.acted R HN.out rfl)
    have CC := Lib.hid (C.out.mono (R' := Did 65 53 B p sv n most R.ok R.xs _) (fun e w1 hq => by subst hR; simpa [act] using hq))
    clear h h' C hR d0
    go_enter Try.func7, Try.ntmps7
    go_wp2_with fail
    refine CC.out.mono ?_; intro e w1 hq
    have HQ := Lib.hid hq
    obtain ⟨rfl, hq⟩ := hq
    clear hq
    go_wp2_with fail
    go_ret3
    refine ⟨by rw [HE.out, HR.out]; rfl, (HX.out _ _ HQ.out).pre N.out⟩
  by_cases d2 : d = 2
  · subst d2
    have C := Lib.hid (set_c h' t a x)
    have HN := Lib.hid (show (act n xs most 2 t a b x p0 p1 p2 p3 p4 p5).n = n by simp [act])
    have HE := Lib.hid (show (act n xs most 2 t a b x p0 p1 p2 p3 p4 p5).er = 0 by simp [act])
    have HR := Lib.hid (show (act n xs most 2 t a b x p0 p1 p2 p3 p4 p5).r = 0 by simp [act])
    generalize hR : act n xs most 2 t a b x p0 p1 p2 p3 p4 p5 = R at HN HE HR ⊢
    have HX := Lib.hid (fun e w1 => fun (hq : Did 65 53 B p sv n most R.ok R.xs (w.alloc (.cells #[.int .i64 2, .int .i64 t, .int .i64 a, .int .i64 b, .int .i64 x, .int .i64 p0, .int .i64 p1, .int .i64 p2, .int .i64 p3, .int .i64 p4, .int .i64 p5] 34)) e w1) => hq.acted R HN.out rfl)
    have CC := Lib.hid (C.out.mono (R' := Did 65 53 B p sv n most R.ok R.xs _) (fun e w1 hq => by subst hR; simpa [act] using hq))
    clear h h' C hR d0 d1
    go_enter Try.func7, Try.ntmps7
    go_wp2_with fail
    refine CC.out.mono ?_; intro e w1 hq
    have HQ := Lib.hid hq
    obtain ⟨rfl, hq⟩ := hq
    clear hq
    go_wp2_with fail
    go_ret3
    refine ⟨by rw [HE.out, HR.out]; rfl, (HX.out _ _ HQ.out).pre N.out⟩
  by_cases d3 : d = 3
  · subst d3
    have C := Lib.hid (park_c h' t p0 p1 p2 p3 p4 p5)
    have HN := Lib.hid (show (act n xs most 3 t a b x p0 p1 p2 p3 p4 p5).n = n by simp [act])
    have HE := Lib.hid (show (act n xs most 3 t a b x p0 p1 p2 p3 p4 p5).er = 0 by simp [act])
    have HR := Lib.hid (show (act n xs most 3 t a b x p0 p1 p2 p3 p4 p5).r = 0 by simp [act])
    generalize hR : act n xs most 3 t a b x p0 p1 p2 p3 p4 p5 = R at HN HE HR ⊢
    have HX := Lib.hid (fun e w1 => fun (hq : Did 65 53 B p sv n most R.ok R.xs (w.alloc (.cells #[.int .i64 3, .int .i64 t, .int .i64 a, .int .i64 b, .int .i64 x, .int .i64 p0, .int .i64 p1, .int .i64 p2, .int .i64 p3, .int .i64 p4, .int .i64 p5] 34)) e w1) => hq.acted R HN.out rfl)
    have CC := Lib.hid (C.out.mono (R' := Did 65 53 B p sv n most R.ok R.xs _) (fun e w1 hq => by subst hR; simpa [act] using hq))
    clear h h' C hR d0 d1 d2
    go_enter Try.func7, Try.ntmps7
    go_wp2_with fail
    refine CC.out.mono ?_; intro e w1 hq
    have HQ := Lib.hid hq
    obtain ⟨rfl, hq⟩ := hq
    clear hq
    go_wp2_with fail
    go_ret3
    refine ⟨by rw [HE.out, HR.out]; rfl, (HX.out _ _ HQ.out).pre N.out⟩
  by_cases d4 : d = 4
  · subst d4
    have C := Lib.hid (again_c h' t p0 p1 p2 p3 p4 p5)
    have HN := Lib.hid (show (act n xs most 4 t a b x p0 p1 p2 p3 p4 p5).n = n by simp [act])
    have HE := Lib.hid (show (act n xs most 4 t a b x p0 p1 p2 p3 p4 p5).er = 0 by simp [act])
    have HR := Lib.hid (show (act n xs most 4 t a b x p0 p1 p2 p3 p4 p5).r = 0 by simp [act])
    generalize hR : act n xs most 4 t a b x p0 p1 p2 p3 p4 p5 = R at HN HE HR ⊢
    have HX := Lib.hid (fun e w1 => fun (hq : Did 65 53 B p sv n most R.ok R.xs (w.alloc (.cells #[.int .i64 4, .int .i64 t, .int .i64 a, .int .i64 b, .int .i64 x, .int .i64 p0, .int .i64 p1, .int .i64 p2, .int .i64 p3, .int .i64 p4, .int .i64 p5] 34)) e w1) => hq.acted R HN.out rfl)
    have CC := Lib.hid (C.out.mono (R' := Did 65 53 B p sv n most R.ok R.xs _) (fun e w1 hq => by subst hR; simpa [act] using hq))
    clear h h' C hR d0 d1 d2 d3
    go_enter Try.func7, Try.ntmps7
    go_wp2_with fail
    refine CC.out.mono ?_; intro e w1 hq
    have HQ := Lib.hid hq
    obtain ⟨rfl, hq⟩ := hq
    clear hq
    go_wp2_with fail
    go_ret3
    refine ⟨by rw [HE.out, HR.out]; rfl, (HX.out _ _ HQ.out).pre N.out⟩
  by_cases d5 : d = 5
  · subst d5
    have C := Lib.hid (wake_c h' t x)
    have HN := Lib.hid (show (act n xs most 5 t a b x p0 p1 p2 p3 p4 p5).n = n by simp [act])
    have HE := Lib.hid (show (act n xs most 5 t a b x p0 p1 p2 p3 p4 p5).er = 0 by simp [act])
    have HR := Lib.hid (show (act n xs most 5 t a b x p0 p1 p2 p3 p4 p5).r = 0 by simp [act])
    generalize hR : act n xs most 5 t a b x p0 p1 p2 p3 p4 p5 = R at HN HE HR ⊢
    have HX := Lib.hid (fun e w1 => fun (hq : Did 65 53 B p sv n most R.ok R.xs (w.alloc (.cells #[.int .i64 5, .int .i64 t, .int .i64 a, .int .i64 b, .int .i64 x, .int .i64 p0, .int .i64 p1, .int .i64 p2, .int .i64 p3, .int .i64 p4, .int .i64 p5] 34)) e w1) => hq.acted R HN.out rfl)
    have CC := Lib.hid (C.out.mono (R' := Did 65 53 B p sv n most R.ok R.xs _) (fun e w1 hq => by subst hR; simpa [act] using hq))
    clear h h' C hR d0 d1 d2 d3 d4
    go_enter Try.func7, Try.ntmps7
    go_wp2_with fail
    refine CC.out.mono ?_; intro e w1 hq
    have HQ := Lib.hid hq
    obtain ⟨rfl, hq⟩ := hq
    clear hq
    go_wp2_with fail
    go_ret3
    refine ⟨by rw [HE.out, HR.out]; rfl, (HX.out _ _ HQ.out).pre N.out⟩
  by_cases d6 : d = 6
  · subst d6
    have C := Lib.hid (end_c h' t x)
    have HN := Lib.hid (show (act n xs most 6 t a b x p0 p1 p2 p3 p4 p5).n = n by simp [act])
    have HE := Lib.hid (show (act n xs most 6 t a b x p0 p1 p2 p3 p4 p5).er = 0 by simp [act])
    have HR := Lib.hid (show (act n xs most 6 t a b x p0 p1 p2 p3 p4 p5).r = 0 by simp [act])
    generalize hR : act n xs most 6 t a b x p0 p1 p2 p3 p4 p5 = R at HN HE HR ⊢
    have HX := Lib.hid (fun e w1 => fun (hq : Did 65 53 B p sv n most R.ok R.xs (w.alloc (.cells #[.int .i64 6, .int .i64 t, .int .i64 a, .int .i64 b, .int .i64 x, .int .i64 p0, .int .i64 p1, .int .i64 p2, .int .i64 p3, .int .i64 p4, .int .i64 p5] 34)) e w1) => hq.acted R HN.out rfl)
    have CC := Lib.hid (C.out.mono (R' := Did 65 53 B p sv n most R.ok R.xs _) (fun e w1 hq => by subst hR; simpa [act] using hq))
    clear h h' C hR d0 d1 d2 d3 d4 d5
    go_enter Try.func7, Try.ntmps7
    go_wp2_with fail
    refine CC.out.mono ?_; intro e w1 hq
    have HQ := Lib.hid hq
    obtain ⟨rfl, hq⟩ := hq
    clear hq
    go_wp2_with fail
    go_ret3
    refine ⟨by rw [HE.out, HR.out]; rfl, (HX.out _ _ HQ.out).pre N.out⟩
  have e0 : (d == 0) = false := by simpa using d0
  have e1 : (d == 1) = false := by simpa using d1
  have e2 : (d == 2) = false := by simpa using d2
  have e3 : (d == 3) = false := by simpa using d3
  have e4 : (d == 4) = false := by simpa using d4
  have e5 : (d == 5) = false := by simpa using d5
  have e6 : (d == 6) = false := by simpa using d6
  have HA := Lib.hid (show act n xs most d t a b x p0 p1 p2 p3 p4 p5 = ⟨0, false, 0, n, xs⟩ by simp [act, d0, d1, d2, d3, d4, d5, d6])
  clear h h' d0 d1 d2 d3 d4 d5 d6
  go_enter Try.func7, Try.ntmps7
  go_wp2_with fail
  go_ret3
  rw [HA.out]
  exact ⟨rfl, _, H.out, New.upd N.out _⟩

end Go.Proofs.Ytdbdpmpnblmfkaa

import Derived.Test.YtdbdpmpnblmfkaaT4
namespace Go.Proofs.Ytdbdpmpnblmfkaa
open Go.RowKit Go.Proofs.Cmd

/-- What a change of a table comes to: a truth, the numbers behind it, and what it may have written. -/
def Did (ty e : TypeId) (B p : Nat) (sv : Value) (n : Nat) (most : Int) (ok : Bool) (xs : List Int) (w : World) (en : Ending) (w' : World) : Prop :=
  en = .returned (.bool ok) ∧ Tab ty e B w' p sv n xs most ∧ Upd (fun k => sv.ownBlock = some k) w w'

theorem pre_new {S : Nat → Prop} {a b c : World} (h : New a b) (k : Upd S b c) : Upd S a c := (New.upd h S).trans k
theorem heap_at {w : World} {k : Nat} (o : Obj) (hk : k = w.heap.size) : (w.alloc o).heap[k]? = some o := by subst hk; exact heap_alloc_new w o
theorem new_alloc (w : World) (o : Obj) : New w (w.alloc o) := (Upd.refl _ _).alloc o
theorem own_of {g n cap : Nat} {w w' : World} (h : Upd (· = g) w w') : Upd (fun k => (Value.slice (some ⟨g, 0, none⟩) n cap).ownBlock = some k) w w' :=
  h.mono (fun k _ e => by simp [Value.ownBlock, e])
theorem box_cell {w w1 : World} {cs : Array Value} {t : TypeId} (h : New (w.alloc (.cells cs t)) w1) (i : Nat) : w1.cell? ⟨w.heap.size, i, none⟩ = cs[i]? := by
  rw [h.cell (by simp)]; simp
/-- The numbers of a table in which task k was woken by x. -/
def wakeX (xs : List Int) (k : Nat) (x : Int) : List Int :=
  if 0 ≤ xs.getD (17 * k + 13) 0 ∧ xs.getD (17 * k + 13) 0 < 6 then setW ((xs.set (17 * k + 4 + (xs.getD (17 * k + 13) 0).toNat) x).set (17 * k) 1) k 0 0 0 0 0 0
  else setW (xs.set (17 * k) 1) k 0 0 0 0 0 0

/-- Is there such a register? -/
def isReg (r : Int) : Bool := decide (0 ≤ r) && decide (r < 6)
def goX (n : Nat) (xs : List Int) (i a : Int) : List Int := if mayDo rdy n xs i then xs.set (17 * i.toNat + 2) a else xs
def endX (n : Nat) (xs : List Int) (i a : Int) : List Int := if mayDo liv n xs i then (setW (xs.set (17 * i.toNat) 3) i.toNat 0 0 0 0 0 0).set (17 * i.toNat + 16) a else xs
def wokeX (n : Nat) (xs : List Int) (i a : Int) : List Int := if mayDo prk n xs i then wakeX xs i.toNat a else xs
def parkX (n : Nat) (xs : List Int) (i a0 a1 a2 a3 a4 a5 : Int) : List Int := if decide (1 ≤ a0) && mayDo rdy n xs i then setW (xs.set (17 * i.toNat) 2) i.toNat a0 a1 a2 a3 a4 a5 else xs
def againX (n : Nat) (xs : List Int) (i a0 a1 a2 a3 a4 a5 : Int) : List Int := if decide (1 ≤ a0) && mayDo prk n xs i then setW xs i.toNat a0 a1 a2 a3 a4 a5 else xs
def setX (n : Nat) (xs : List Int) (i r a : Int) : List Int := if mayDo liv n xs i && isReg r then xs.set (17 * i.toNat + 4 + r.toNat) a else xs
def setR (xs : List Int) (i r a : Int) : List Int := if isReg r then xs.set (17 * i.toNat + 4 + r.toNat) a else xs
variable {B p n : Nat} {sv : Value} {xs : List Int} {most : Int} {w : World}

theorem go_c (h : Tab 65 53 B w p sv n xs most) (i a : Int) :
    Calls Try.prog 24 #[.pointer (some ⟨p, 0, none⟩), .int .i64 i, .int .i64 a] w
      (Did 65 53 B p sv n most (mayDo rdy n xs i) (goX n xs i a) w) := by
  have C := Lib.hid (change_37 B p n sv xs most _ (h.new (new_alloc w (.cells #[.int .i64 a] 3))) i (.pointer (some ⟨w.heap.size, 0, none⟩))
    (fun w2 => Tab 65 53 B w2 p sv n (xs.set (17 * i.toNat + 2) a) most ∧ Upd (fun k => sv.ownBlock = some k) w w2)
    (fun g cap e h0 hi _ w1 hn => by
      subst e
      refine (clo37 ((h.new (new_alloc w _)).new hn) (by omega) w.heap.size a (by rw [box_cell hn]; rfl)).mono ?_
      rintro e w2 ⟨rfl, ht, hu⟩
      exact ⟨rfl, ht, pre_new ((new_alloc w _).trans hn) (own_of hu)⟩))
  have H := Lib.hid h
  clear h
  go_enter Try.func24, Try.ntmps24
  go_wp2_with fail
  refine C.out.mono ?_
  rintro e w' (⟨h1, rfl, h2⟩ | ⟨h1, rfl, h2⟩)
  · have H1 := Lib.hid h1; have H2 := Lib.hid h2; clear h1 h2
    go_wp2_with fail
    go_ret
    unfold goX; rw [H1.out]
    exact ⟨rfl, H2.out⟩
  · have H1 := Lib.hid h1; have H2 := Lib.hid h2; clear h1 h2
    go_wp2_with fail
    go_ret
    unfold goX; rw [H1.out]
    exact ⟨rfl, (H.out.new (new_alloc w _)).new H2.out, New.upd ((new_alloc w _).trans H2.out) _⟩

theorem end_c (h : Tab 65 53 B w p sv n xs most) (i a : Int) :
    Calls Try.prog 29 #[.pointer (some ⟨p, 0, none⟩), .int .i64 i, .int .i64 a] w
      (Did 65 53 B p sv n most (mayDo liv n xs i) (endX n xs i a) w) := by
  have C := Lib.hid (change_45 B p n sv xs most _ (h.new (new_alloc w (.cells #[.int .i64 a] 2))) i (.pointer (some ⟨w.heap.size, 0, none⟩))
    (fun w2 => Tab 65 53 B w2 p sv n ((setW (xs.set (17 * i.toNat) 3) i.toNat 0 0 0 0 0 0).set (17 * i.toNat + 16) a) most ∧ Upd (fun k => sv.ownBlock = some k) w w2)
    (fun g cap e h0 hi _ w1 hn => by
      subst e
      refine (clo45 ((h.new (new_alloc w _)).new hn) (by omega) w.heap.size a (by have := h.lt; omega) (by rw [box_cell hn]; rfl)).mono ?_
      rintro e w2 ⟨rfl, ht, hu⟩
      exact ⟨rfl, ht, pre_new ((new_alloc w _).trans hn) (own_of hu)⟩))
  have H := Lib.hid h
  clear h
  go_enter Try.func29, Try.ntmps29
  go_wp2_with fail
  refine C.out.mono ?_
  rintro e w' (⟨h1, rfl, h2⟩ | ⟨h1, rfl, h2⟩)
  · have H1 := Lib.hid h1; have H2 := Lib.hid h2; clear h1 h2
    go_wp2_with fail
    go_ret
    unfold endX; rw [H1.out]
    exact ⟨rfl, H2.out⟩
  · have H1 := Lib.hid h1; have H2 := Lib.hid h2; clear h1 h2
    go_wp2_with fail
    go_ret
    unfold endX; rw [H1.out]
    exact ⟨rfl, (H.out.new (new_alloc w _)).new H2.out, New.upd ((new_alloc w _).trans H2.out) _⟩

theorem wake_c (h : Tab 65 53 B w p sv n xs most) (i a : Int) :
    Calls Try.prog 28 #[.pointer (some ⟨p, 0, none⟩), .int .i64 i, .int .i64 a] w
      (Did 65 53 B p sv n most (mayDo prk n xs i) (wokeX n xs i a) w) := by
  have C := Lib.hid (change_44 B p n sv xs most _ (h.new (new_alloc w (.cells #[.int .i64 a] 2))) i (.pointer (some ⟨w.heap.size, 0, none⟩))
    (fun w2 => Tab 65 53 B w2 p sv n (wakeX xs i.toNat a) most ∧ Upd (fun k => sv.ownBlock = some k) w w2)
    (fun g cap e h0 hi _ w1 hn => by
      subst e
      by_cases hr : 0 ≤ xs.getD (17 * i.toNat + 13) 0 ∧ xs.getD (17 * i.toNat + 13) 0 < 6
      · refine (clo44_in ((h.new (new_alloc w _)).new hn) (by omega) w.heap.size a (by rw [box_cell hn]; rfl) hr.1 hr.2).mono ?_
        rintro e w2 ⟨rfl, ht, hu⟩
        unfold wakeX; rw [if_pos hr]
        exact ⟨rfl, ht, pre_new ((new_alloc w _).trans hn) (own_of hu)⟩
      · refine (clo44_out ((h.new (new_alloc w _)).new hn) (by omega) w.heap.size a (by rw [box_cell hn]; rfl) (by omega)).mono ?_
        rintro e w2 ⟨rfl, ht, hu⟩
        unfold wakeX; rw [if_neg hr]
        exact ⟨rfl, ht, pre_new ((new_alloc w _).trans hn) (own_of hu)⟩))
  have H := Lib.hid h
  clear h
  go_enter Try.func28, Try.ntmps28
  go_wp2_with fail
  refine C.out.mono ?_
  rintro e w' (⟨h1, rfl, h2⟩ | ⟨h1, rfl, h2⟩)
  · have H1 := Lib.hid h1; have H2 := Lib.hid h2; clear h1 h2
    go_wp2_with fail
    go_ret
    unfold wokeX; rw [H1.out]
    exact ⟨rfl, H2.out⟩
  · have H1 := Lib.hid h1; have H2 := Lib.hid h2; clear h1 h2
    go_wp2_with fail
    go_ret
    unfold wokeX; rw [H1.out]
    exact ⟨rfl, (H.out.new (new_alloc w _)).new H2.out, New.upd ((new_alloc w _).trans H2.out) _⟩

theorem park_c (h : Tab 65 53 B w p sv n xs most) (i a0 a1 a2 a3 a4 a5 : Int) :
    Calls Try.prog 26 #[.pointer (some ⟨p, 0, none⟩), .int .i64 i, .agg #[.int .i64 a0, .int .i64 a1, .int .i64 a2, .int .i64 a3, .int .i64 a4, .int .i64 a5]] w
      (Did 65 53 B p sv n most (decide (1 ≤ a0) && mayDo rdy n xs i) (parkX n xs i a0 a1 a2 a3 a4 a5) w) := by
  have C := Lib.hid (change_41 B p n sv xs most _ (h.new (new_alloc w (.cells #[.int .i64 a0, .int .i64 a1, .int .i64 a2, .int .i64 a3, .int .i64 a4, .int .i64 a5] 32))) i (.pointer (some ⟨w.heap.size, 0, none⟩))
    (fun w2 => Tab 65 53 B w2 p sv n (setW (xs.set (17 * i.toNat) 2) i.toNat a0 a1 a2 a3 a4 a5) most ∧ Upd (fun k => sv.ownBlock = some k) w w2)
    (fun g cap e h0 hi _ w1 hn => by
      subst e
      refine (clo41 ((h.new (new_alloc w _)).new hn) (by omega) w.heap.size a0 a1 a2 a3 a4 a5 (by have := h.lt; omega) (by rw [box_cell hn]; rfl) (by rw [box_cell hn]; rfl) (by rw [box_cell hn]; rfl) (by rw [box_cell hn]; rfl) (by rw [box_cell hn]; rfl) (by rw [box_cell hn]; rfl)).mono ?_
      rintro e w2 ⟨rfl, ht, hu⟩
      exact ⟨rfl, ht, pre_new ((new_alloc w _).trans hn) (own_of hu)⟩))
  have H := Lib.hid h
  clear h
  by_cases hk : 1 ≤ a0
  · go_enter Try.func26, Try.ntmps26
    go_wp2_with fail
    refine C.out.mono ?_
    have HK := Lib.hid hk
    rintro e w' (⟨h1, rfl, h2⟩ | ⟨h1, rfl, h2⟩)
    · have H1 := Lib.hid h1; have H2 := Lib.hid h2; clear h1 h2 hk
      go_wp2_with fail
      go_ret
      unfold parkX; rw [H1.out, decide_eq_true HK.out]
      exact ⟨rfl, H2.out⟩
    · have H1 := Lib.hid h1; have H2 := Lib.hid h2; clear h1 h2 hk
      go_wp2_with fail
      go_ret
      unfold parkX; rw [H1.out, decide_eq_true HK.out]
      exact ⟨rfl, (H.out.new (new_alloc w _)).new H2.out, New.upd ((new_alloc w _).trans H2.out) _⟩
  · have HK := Lib.hid hk
    go_enter Try.func26, Try.ntmps26
    go_wp2_with fail
    go_ret
    unfold parkX; rw [decide_eq_false (by have := HK.out; omega)]
    exact ⟨rfl, H.out.new (new_alloc w _), New.upd (new_alloc w _) _⟩

theorem again_c (h : Tab 65 53 B w p sv n xs most) (i a0 a1 a2 a3 a4 a5 : Int) :
    Calls Try.prog 27 #[.pointer (some ⟨p, 0, none⟩), .int .i64 i, .agg #[.int .i64 a0, .int .i64 a1, .int .i64 a2, .int .i64 a3, .int .i64 a4, .int .i64 a5]] w
      (Did 65 53 B p sv n most (decide (1 ≤ a0) && mayDo prk n xs i) (againX n xs i a0 a1 a2 a3 a4 a5) w) := by
  have C := Lib.hid (change_43 B p n sv xs most _ (h.new (new_alloc w (.cells #[.int .i64 a0, .int .i64 a1, .int .i64 a2, .int .i64 a3, .int .i64 a4, .int .i64 a5] 32))) i (.pointer (some ⟨w.heap.size, 0, none⟩))
    (fun w2 => Tab 65 53 B w2 p sv n (setW xs i.toNat a0 a1 a2 a3 a4 a5) most ∧ Upd (fun k => sv.ownBlock = some k) w w2)
    (fun g cap e h0 hi _ w1 hn => by
      subst e
      refine (clo43 ((h.new (new_alloc w _)).new hn) (by omega) w.heap.size a0 a1 a2 a3 a4 a5 (by have := h.lt; omega) (by rw [box_cell hn]; rfl) (by rw [box_cell hn]; rfl) (by rw [box_cell hn]; rfl) (by rw [box_cell hn]; rfl) (by rw [box_cell hn]; rfl) (by rw [box_cell hn]; rfl)).mono ?_
      rintro e w2 ⟨rfl, ht, hu⟩
      exact ⟨rfl, ht, pre_new ((new_alloc w _).trans hn) (own_of hu)⟩))
  have H := Lib.hid h
  clear h
  by_cases hk : 1 ≤ a0
  · go_enter Try.func27, Try.ntmps27
    go_wp2_with fail
    refine C.out.mono ?_
    have HK := Lib.hid hk
    rintro e w' (⟨h1, rfl, h2⟩ | ⟨h1, rfl, h2⟩)
    · have H1 := Lib.hid h1; have H2 := Lib.hid h2; clear h1 h2 hk
      go_wp2_with fail
      go_ret
      unfold againX; rw [H1.out, decide_eq_true HK.out]
      exact ⟨rfl, H2.out⟩
    · have H1 := Lib.hid h1; have H2 := Lib.hid h2; clear h1 h2 hk
      go_wp2_with fail
      go_ret
      unfold againX; rw [H1.out, decide_eq_true HK.out]
      exact ⟨rfl, (H.out.new (new_alloc w _)).new H2.out, New.upd ((new_alloc w _).trans H2.out) _⟩
  · have HK := Lib.hid hk
    go_enter Try.func27, Try.ntmps27
    go_wp2_with fail
    go_ret
    unfold againX; rw [decide_eq_false (by have := HK.out; omega)]
    exact ⟨rfl, H.out.new (new_alloc w _), New.upd (new_alloc w _) _⟩

theorem set_c (h : Tab 65 53 B w p sv n xs most) (i r a : Int) :
    Calls Try.prog 25 #[.pointer (some ⟨p, 0, none⟩), .int .i64 i, .int .i64 r, .int .i64 a] w
      (Did 65 53 B p sv n most (mayDo liv n xs i && isReg r) (setX n xs i r a) w) := by
  have N3 : New w (((w.alloc (.cells #[.int .i64 r] 3)).alloc (.cells #[.int .i64 a] 2)).alloc (.cells #[.bool false] 4)) := ((new_alloc w _).trans (new_alloc _ _)).trans (new_alloc _ _)
  have C := Lib.hid (change_39 B p n sv xs most _ (h.new N3) i (.pointer (some ⟨w.heap.size, 0, none⟩)) (.pointer (some ⟨w.heap.size + 1, 0, none⟩)) (.pointer (some ⟨w.heap.size + 1 + 1, 0, none⟩))
    (fun w2 => (Tab 65 53 B w2 p sv n (setR xs i r a) most ∧ w2.heap[w.heap.size + 1 + 1]? = some (.cells #[.bool (isReg r)] 4 (0, 0))) ∧ Upd (fun k => sv.ownBlock = some k) w w2)
    (fun g cap e h0 hi _ w1 hn => by
      subst e
      have hp := lt_of h.head
      have hg := h.lt
      have q0 : w1.cell? ⟨w.heap.size, 0, none⟩ = some (.int .i64 r) := by
        rw [cell_of (New.heap hn (heap_alloc (heap_alloc (heap_at (k := w.heap.size) _ rfl) _) _))]; rfl
      have q1 : w1.cell? ⟨w.heap.size + 1, 0, none⟩ = some (.int .i64 a) := by
        rw [cell_of (New.heap hn (heap_alloc (heap_at (k := w.heap.size + 1) _ (by simp)) _))]; rfl
      have q2 : w1.heap[w.heap.size + 1 + 1]? = some (.cells #[.bool false] 4 (0, 0)) := New.heap hn (heap_at (k := w.heap.size + 1 + 1) _ (by simp))
      have hle : w.heap.size + 1 + 1 + 1 ≤ w1.heap.size := by have := hn.size; simpa using this
      have fin : ∀ {w2}, Upd (fun b => b = g ∨ b = w.heap.size + 1 + 1) w1 w2 → Upd (fun k => (Value.slice (some ⟨g, 0, none⟩) n cap).ownBlock = some k) w w2 := fun hu => by
        refine (New.upd (N3.trans hn) _).then hu ?_
        rintro k hk (rfl | rfl)
        · simp [Value.ownBlock]
        · omega
      by_cases hr : 0 ≤ r ∧ r < 6
      · have er : isReg r = true := by simp [isReg, hr]
        refine (clo39_in ((h.new N3).new hn) (by omega) w.heap.size (w.heap.size + 1) (w.heap.size + 1 + 1) r a false q0 q1 q2 (by omega) (by omega) hr.1 hr.2).mono ?_
        rintro e w2 ⟨rfl, ht, hc, hu⟩
        unfold setR; rw [er]
        exact ⟨rfl, ⟨ht, hc⟩, fin hu⟩
      · have er : isReg r = false := by simp [isReg]; omega
        refine (clo39_out ((h.new N3).new hn) (k := i.toNat) (by omega) w.heap.size (w.heap.size + 1) (w.heap.size + 1 + 1) r a false q0 q1 q2 (by omega) (by omega) (by omega)).mono ?_
        rintro e w2 ⟨rfl, ht, hc, hu⟩
        unfold setR; rw [er]
        exact ⟨rfl, ⟨ht, hc⟩, fin hu⟩))
  have H := Lib.hid h
  have N := Lib.hid N3
  clear h N3
  go_enter Try.func25, Try.ntmps25
  go_wp2_with fail
  refine C.out.mono ?_
  rintro e w' (⟨h1, rfl, ⟨h2, h3⟩, h4⟩ | ⟨h1, rfl, h2⟩)
  · have H1 := Lib.hid h1; have H2 := Lib.hid h2; have H4 := Lib.hid h4
    have c1 := cell_of h3 0
    simp only [List.getElem?_toArray, List.getElem?_cons_zero] at c1
    clear h1 h2 h3 h4
    go_wp2_with fail
    go_ret
    unfold setX; rw [H1.out, Bool.true_and]
    exact ⟨rfl, H2.out, H4.out⟩
  · have H1 := Lib.hid h1; have H2 := Lib.hid h2; clear h1 h2
    go_wp2_with fail
    go_ret
    unfold setX; rw [H1.out]
    exact ⟨rfl, (H.out.new N.out).new H2.out, New.upd (N.out.trans H2.out) _⟩

end Go.Proofs.Ytdbdpmpnblmfkaa

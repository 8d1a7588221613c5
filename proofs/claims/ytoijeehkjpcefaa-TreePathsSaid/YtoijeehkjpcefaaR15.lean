import Derived.Test.YtoijeehkjpcefaaR14
import Derived.Deep.DeepCutAuto
import Derived.Deep.CutBlock
namespace Go.Proofs.Ytoijeehkjpcefaa
open Go.RowKit Go.Proofs.Cmd
variable {B p q : Nat} {sv rv : Value} {rs : List Row} {ns : List Nd} {most : Int} {w : World}

/-- A list of acts that lies in w. -/
def Acts (w : World) (la : Option Addr) (len : Nat) : Prop :=
  ∀ k, k < len → ∃ b off, la = some ⟨b, off, none⟩ ∧ b < w.heap.size ∧ ∃ (r c : Bool) (o : Int), w.rangeAt b (off + k * 3) [.bool r, .bool c, .int .i64 o]
def actF (ns : List Nd) (most : Int) (r c : Bool) (o : Int) : Int × Int × List Nd := if r then putF ns most (-1) false else addF ns most o c
theorem addF_len (ns : List Nd) (most : Int) (c : Bool) (o : Int) (h : (ns.length : Int) ≤ most) : ((addF ns most o c).2.2.length : Int) ≤ most ∧ (addF ns most o c).2.2.length ≤ ns.length + 1 := by
  unfold addF putF
  split <;> (try split) <;> simp <;> omega
theorem actF_len (ns : List Nd) (most : Int) (r c : Bool) (o : Int) (h : (ns.length : Int) ≤ most) : ((actF ns most r c o).2.2.length : Int) ≤ most ∧ (actF ns most r c o).2.2.length ≤ ns.length + 1 := by
  unfold actF putF
  cases r
  · exact addF_len ns most c o h
  · simp only [if_true]; split <;> simp <;> omega
theorem putR_eq (ns : List Nd) (most : Int) (c : Bool) (o : Int) (h : (ns.length : Int) ≤ most) : putR ns most o c = putF ns most o c := by
  unfold putR putF
  by_cases e : (ns.length : Int) = most
  · rw [if_pos e, if_pos (by omega)]
  · rw [if_neg e, if_neg (by omega)]
theorem addR_eq (ns : List Nd) (most : Int) (c : Bool) (o : Int) (h : (ns.length : Int) ≤ most) : addR ns most o c = addF ns most o c := by
  unfold addR addF; rw [putR_eq ns most c o h]

/-- Blocks of the one tree are none of the other's. -/
theorem Tr.not_blk (h : Tr B w p sv rs most) {k : Nat} {cs : Array Value} {t : TypeId} (hk : w.heap[k]? = some (.cells cs t (0, 0))) (h1 : t ≠ 54) (h2 : t ≠ 56) (h3 : t ≠ 3) : ¬ Tr.blk p sv rs k := by
  rintro (rfl | hb | ⟨i, r, hr, hb⟩)
  · rw [h.head] at hk; cases hk; exact h1 rfl
  · obtain ⟨c, hc⟩ := owns_type h.rows hb; rw [hc] at hk; cases hk; exact h2 rfl
  · obtain ⟨c, hc⟩ := owns_type (h.kids i r hr) hb; rw [hc] at hk; cases hk; exact h3 rfl
theorem Rf.keep {B' : Nat} {w' : World} (h : Rf B' w q rv ns most) (h' : Tr B w p sv rs most) (u : Upd (Tr.blk p sv rs) w w') : Rf B' w' q rv ns most := by
  refine h.upd u (h'.not_blk h.head (by decide) (by decide) (by decide)) ?_
  intro k hk
  obtain ⟨c, hc⟩ := owns_type h.rows hk
  exact h'.not_blk hc (by decide) (by decide) (by decide)
theorem Tr.keep {B' : Nat} {w' : World} (h : Tr B w p sv rs most) (h' : Rf B' w q rv ns most) (u : Upd (fun k => k = q) w w') : Tr B w' p sv rs most := by
  refine h.upd u ?_
  rintro k hk rfl
  exact h.not_blk h'.head (by decide) (by decide) (by decide) hk

theorem do_c (h : Tr B w p sv rs most) (hn : rs.length < 1000) (r c : Bool) (o : Int) :
    Calls Try.prog 9 #[.pointer (some ⟨p, 0, none⟩), .agg #[.bool r, .bool c, .int .i64 o]] w (PutPost B p sv rs most w (actF (nds rs) most r c o)) := by
  have hX := new_alloc w (.cells #[.bool r, .bool c, .int .i64 o] 32)
  have RC := Lib.hid (root_c (h.new hX) hn)
  have AC := Lib.hid (add_c (h.new hX) hn o c)
  have HX := Lib.hid hX
  clear h hX
  cases r
  · go_enter Try.func9, Try.ntmps9
    go_wp2_with fail
    refine AC.out.mono ?_; rintro e w' ⟨sv', rs', rfl, hT, hnd, hU⟩
    have HT := Lib.hid hT
    have HND := Lib.hid hnd
    have HU := Lib.hid hU
    clear hT hnd hU
    go_wp2_with fail
    go_ret2
    exact ⟨sv', rs', rfl, HT.out, HND.out, pre_new HX.out HU.out⟩
  · go_enter Try.func9, Try.ntmps9
    go_wp2_with fail
    refine RC.out.mono ?_; rintro e w' ⟨sv', rs', rfl, hT, hnd, hU⟩
    have HT := Lib.hid hT
    have HND := Lib.hid hnd
    have HU := Lib.hid hU
    clear hT hnd hU
    go_wp2_with fail
    go_ret2
    exact ⟨sv', rs', rfl, HT.out, HND.out, pre_new HX.out HU.out⟩
theorem in_c (v : Value) (l : List Int) (x : Int) (w : World) (h : Ints w v l) :
    Calls Try.prog 26 #[v, .int .i64 x] w fun e w' => e = .returned (.int .i64 (l.count x)) ∧ w = w' := by
  obtain ⟨a, ca, rfl, hla, hca, hma, hA⟩ := h.open
  unfold maxLen at hma
  have HA := Lib.hid hA
  clear h hA
  go_enter Try.func26, Try.ntmps26
  go_wp2_with fail
  go_loop [5, 10] (fun s i => ∃ k : Nat, k ≤ l.length ∧ i = .int .i64 k ∧ s = .int .i64 ((l.take k).count x)) (fun _ i => l.length - (intOf i).toNat)
  case atStart => exact ⟨0, Nat.zero_le _, rfl, rfl⟩
  case round =>
    obtain ⟨k, hk, rfl, rfl⟩ := hrel
    have hcl : (l.take k).count x ≤ k := Nat.le_trans List.count_le_length (List.length_take_le _ _)
    by_cases hlt : k < l.length
    · obtain ⟨ga, rfl, hc⟩ := HA.out k hlt
      rw [show l[k]?.getD 0 = l[k] by simp [hlt]] at hc
      have HS := Lib.hid (show (l.take (k + 1)).count x = (l.take k).count x + (if l[k] = x then 1 else 0) by
        rw [List.take_succ_eq_append_getElem hlt, List.count_append, List.count_singleton]
        congr 1
        by_cases e : l[k] = x <;> simp [e])
      generalize l[k] = y at hc HS
      by_cases hy : y = x
      · have hy' : (y == x) = true := by simpa using hy
        rw [if_pos hy] at HS
        clear hy
        go_wp2_with fail
        go_round
        case rel => exact ⟨k + 1, by omega, by go_num, by rw [HS.out]; go_num⟩
        case measure => simp [intOf]; omega
      · have hy' : (y == x) = false := by simpa using hy
        rw [if_neg hy, Nat.add_zero] at HS
        clear hy
        go_wp2_with fail
        go_round
        case rel => exact ⟨k + 1, by omega, by go_num, by rw [HS.out]; rfl⟩
        case measure => simp [intOf]; omega
    · have HE := Lib.hid (show l.take k = l by rw [List.take_of_length_le (by omega)])
      go_wp2_with fail
      go_ret
      exact ⟨by rw [HE.out]; rfl, rfl⟩
theorem Tr.low {B' : Nat} (h : Tr B w p sv rs most) (hb : B' ≤ B) : Tr B' w p sv rs most :=
  ⟨h.head, by have := h.base; omega, owns_base h.rows hb, fun i r hr => owns_base (h.kids i r hr) hb, h.sep, h.small, h.tree⟩
theorem Rf.low {B' : Nat} (h : Rf B w q rv ns most) (hb : B' ≤ B) : Rf B' w q rv ns most :=
  ⟨h.head, by have := h.base; omega, owns_base h.rows hb, h.small, h.tree⟩
end Go.Proofs.Ytoijeehkjpcefaa

import Derived.Test.YtoijeehkjpcefaaR3
namespace Go.Proofs.Ytoijeehkjpcefaa
open Go.RowKit Go.Proofs.Cmd
variable {B p : Nat} {sv : Value} {rs : List Row} {most : Int} {w : World}

/-- What a put comes to: two numbers, and the tree behind it. -/
def putF (ns : List Nd) (most : Int) (o : Int) (c : Bool) : Int × Int × List Nd := if (ns.length : Int) = most then (-1, 2, ns) else (ns.length, 0, ns ++ [(o, c)])
def addF (ns : List Nd) (most : Int) (o : Int) (c : Bool) : Int × Int × List Nd := if isIn ns.length o then putF ns most o c else (-1, 3, ns)
def PutPost (B p : Nat) (sv : Value) (rs : List Row) (most : Int) (w : World) (r : Int × Int × List Nd) (e : Ending) (w' : World) : Prop :=
  ∃ sv' rs', e = .returned (.tuple #[.int .i64 r.1, .int .i64 r.2.1]) ∧ Tr B w' p sv' rs' most ∧ nds rs' = r.2.2 ∧ Upd (Tr.blk p sv rs) w w'
theorem put_c (h : Tr B w p sv rs most) (hn : rs.length < 1000) (o : Int) (c : Bool) (ho : -1 ≤ o) (ho2 : o < rs.length) :
    Calls Try.prog 33 #[.pointer (some ⟨p, 0, none⟩), .agg #[.int .i64 o, .bool c, .slice none 0 0]] w (PutPost B p sv rs most w (putF (nds rs) most o c)) := by
  by_cases hm : (rs.length : Int) = most
  · refine (put_full h hm o c).mono ?_
    rintro e w' ⟨rfl, hN⟩
    have e1 : putF (nds rs) most o c = (-1, 2, nds rs) := by unfold putF; rw [nds_len, if_pos hm]
    rw [e1]
    exact ⟨sv, rs, rfl, h.new hN, rfl, New.upd hN _⟩
  · refine (put_more h hm hn o c ho ho2).mono ?_
    rintro e w' ⟨sv', rs', rfl, hT, hnd, hU⟩
    have e1 : putF (nds rs) most o c = ((rs.length : Int), 0, nds rs ++ [(o, c)]) := by unfold putF; rw [nds_len, if_neg hm]
    rw [e1]
    exact ⟨sv', rs', rfl, hT, hnd, hU⟩
theorem root_c (h : Tr B w p sv rs most) (hn : rs.length < 1000) :
    Calls Try.prog 27 #[.pointer (some ⟨p, 0, none⟩)] w (PutPost B p sv rs most w (putF (nds rs) most (-1) false)) := by
  have PC := Lib.hid (put_c h hn (-1) false (by omega) (by omega))
  clear h
  go_enter Try.func27, Try.ntmps27
  go_wp2_with fail
  refine PC.out.mono ?_; rintro e w' ⟨sv', rs', rfl, hT, hnd, hU⟩
  have HT := Lib.hid hT
  have HND := Lib.hid hnd
  have HU := Lib.hid hU
  clear hT hnd hU
  go_wp2_with fail
  go_ret2
  exact ⟨sv', rs', rfl, HT.out, HND.out, HU.out⟩
theorem add_c (h : Tr B w p sv rs most) (hn : rs.length < 1000) (o : Int) (c : Bool) :
    Calls Try.prog 28 #[.pointer (some ⟨p, 0, none⟩), .int .i64 o, .bool c] w (PutPost B p sv rs most w (addF (nds rs) most o c)) := by
  have TH := Lib.hid (there_c h o)
  cases hb : isIn rs.length o
  · have HA := Lib.hid (show addF (nds rs) most o c = (-1, 3, nds rs) by unfold addF; rw [nds_len, hb]; rfl)
    have HB := Lib.hid hb
    have H := Lib.hid h
    clear h hb
    go_enter Try.func28, Try.ntmps28
    go_wp2_with fail
    refine TH.out.mono ?_; rintro e w' ⟨rfl, rfl⟩
    rw [HB.out]
    go_wp2_with fail
    go_ret2
    rw [HA.out]
    exact ⟨sv, rs, rfl, H.out, rfl, Upd.refl _ _⟩
  · have HA := Lib.hid (show addF (nds rs) most o c = putF (nds rs) most o c by unfold addF; rw [nds_len, hb]; rfl)
    obtain ⟨k, hk, hlt⟩ := isIn_nat hb
    have PC := Lib.hid (put_c h hn o c (by omega) (by omega))
    have HB := Lib.hid hb
    clear h hb hk
    go_enter Try.func28, Try.ntmps28
    go_wp2_with fail
    refine TH.out.mono ?_; rintro e w' ⟨rfl, rfl⟩
    rw [HB.out]
    go_wp2_with fail
    refine PC.out.mono ?_; rintro e w' ⟨sv', rs', rfl, hT, hnd, hU⟩
    have HT := Lib.hid hT
    have HND := Lib.hid hnd
    have HU := Lib.hid hU
    clear hT hnd hU
    go_wp2_with fail
    go_ret2
    rw [HA.out]
    exact ⟨sv', rs', rfl, HT.out, HND.out, HU.out⟩
end Go.Proofs.Ytoijeehkjpcefaa

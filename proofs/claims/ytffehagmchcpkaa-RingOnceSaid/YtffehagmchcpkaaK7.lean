/- Regions that draw their order: readers may be taken first although a last operation, which waits for them all, turns what they read. Over any program. -/
import Derived.WalkKit
import Derived.OrdersHeld
namespace Go.Proofs.Cmd
open Go.RowKit
variable {P : Program} {md : Region.Mode} {ops : Array Oper} {Q : Exit → Act → World → Prop} {S : World → Prop}

/-- j waits for r, by at most n edges. -/
def waitsB (md : Region.Mode) (ops : Array Oper) : Nat → Nat → Nat → Bool
  | 0, _, _ => false
  | n + 1, j, r => ((ops[j]?).map (fun o => o.after.toList.any fun e => Region.binds md e && (e.on == r || waitsB md ops n e.on r))).getD false
/-- Who is listed, all for whom he waits are. -/
def Closed (md : Region.Mode) (ops : Array Oper) (listed : Array Bool) : Prop :=
  ∀ j o, ops[j]? = some o → listed.getD j false = true → ∀ e ∈ o.after, Region.binds md e = true → listed.getD e.on false = true
theorem Closed.set {listed : Array Bool} (h : Closed md ops listed) {i : Nat} (hi : i ∈ Region.ready md ops listed) : Closed md ops (listed.setIfInBounds i true) := by
  intro j o ho hl e he hb
  obtain ⟨_, oi, hoi, hall⟩ := mem_ready.1 hi
  by_cases hji : j = i
  · subst hji
    rw [hoi] at ho; cases ho
    exact getD_set_true (hall e he hb)
  · rw [getD_set_ne false (Ne.symm hji)] at hl
    exact getD_set_true (h j o ho hl e he hb)
theorem waits_listed {listed : Array Bool} (h : Closed md ops listed) (r : Nat) : ∀ (n j : Nat) (o : Oper), ops[j]? = some o → (∀ e ∈ o.after, Region.binds md e = true → listed.getD e.on false = true) → waitsB md ops n j r = true → listed.getD r false = true := by
  intro n
  induction n with
  | zero => intro j o _ _ hw; simp [waitsB] at hw
  | succ n ih =>
    intro j o ho hall hw
    simp only [waitsB, ho, Option.map_some, Option.getD_some, List.any_eq_true, Bool.and_eq_true, Bool.or_eq_true, beq_iff_eq] at hw
    obtain ⟨e, he, hb, hr⟩ := hw
    have he' : e ∈ o.after := by simpa using he
    have hl := hall e he' hb
    rcases hr with rfl | hr
    · exact hl
    · cases hk : ops[e.on]? with
      | none => cases n <;> simp [waitsB, hk] at hr
      | some ok => exact ih e.on ok hk (fun e2 he2 hb2 => h e.on ok hk hl e2 he2 hb2) hr

/-- Whatever order is picked from here on, and S holds behind every operation but the late ones. -/
def wpAnyT (P : Program) (md : Region.Mode) (ops : Array Oper) (Q : Exit → Act → World → Prop) (S : World → Prop) (L : List Nat) : Nat → Array Bool → Act → World → Prop
  | 0, listed, a, w => Region.ready md ops listed = [] ∧ Q .normal a w
  | fuel + 1, listed, a, w =>
    (Region.ready md ops listed = [] → Q .normal a w) ∧
    ∀ i ∈ Region.ready md ops listed, wpOp P ops Q i (fun a' w' => (i ∉ L → S w') ∧ wpAnyT P md ops Q S L fuel (listed.setIfInBounds i true) a' w') a w
theorem wpAny_of_T {L : List Nat} : ∀ (fuel : Nat) (listed : Array Bool) (a : Act) (w : World), wpAnyT P md ops Q S L fuel listed a w → wpAny P md ops Q fuel listed a w
  | 0, _, _, _, h => h
  | fuel + 1, _, _, _, h => ⟨h.1, fun i hi => wpOp_mono (fun a' w' h' => wpAny_of_T fuel _ a' w' h'.2) (h.2 i hi)⟩

theorem wpAnyT_first {L : List Nat} {i : Nat} {oi : Oper} {v : Value} (hi : ops[i]? = some oi) (hsel : ∀ (j : Nat) (o : Oper) cs b, ops[j]? = some o → o.op ≠ .select cs b)
    (hQ : ∀ c a w, Q (.panic c) (a.put oi.dst v) w → Q (.panic c) a w) (hL : ∀ j ∈ L, waitsB md ops ops.size j i = true) :
    ∀ (fuel : Nat) (listed : Array Bool) (a : Act) (w : World), Closed md ops listed →
      (∀ j oj, ops[j]? = some oj → j ≠ i → listed.getD j true = false → (∀ e ∈ oj.after, Region.binds md e = true → e.on ≠ i) → oi.apart ops oj = true) →
      i ∈ Region.ready md ops listed → YieldsIf P ops S oi v a → S w →
      wpAnyT P md ops Q S L fuel (listed.setIfInBounds i true) (a.put oi.dst v) w → wpAnyT P md ops Q S L (fuel + 1) listed a w := by
  intro fuel
  induction fuel with
  | zero =>
    intro listed a w _ _ hr hy hS H
    refine ⟨fun h => (by rw [h] at hr; cases hr), fun j hj => ?_⟩
    by_cases hji : j = i
    · subst hji; exact hy.wpOp hi hS ⟨fun _ => hS, H⟩
    · have := ready_mono hj hji
      rw [H.1] at this
      cases this
  | succ fuel ih =>
    intro listed a w hcl hfree hr hy hS H
    refine ⟨fun h => (by rw [h] at hr; cases hr), fun j hj => ?_⟩
    by_cases hji : j = i
    · subst hji; exact hy.wpOp hi hS ⟨fun _ => hS, H⟩
    · have h1 := H.2 j (ready_mono hj hji)
      obtain ⟨hjun, oj, hoj, hall⟩ := mem_ready.1 hj
      have hiun := (mem_ready.1 hr).1
      have iun' : ¬ listed.getD i false = true := fun h1 => by
        rcases Nat.lt_or_ge i listed.size with h' | h'
        · simp [h'] at hiun h1; rw [hiun] at h1; cases h1
        · simp [Array.getElem?_eq_none h'] at h1
      have hnot : ∀ e ∈ oj.after, Region.binds md e = true → e.on ≠ i := fun e he hb heq => iun' (heq ▸ hall e he hb)
      have hjL : j ∉ L := fun hm => iun' (waits_listed hcl i _ j oj hoj hall (hL j hm))
      have h2 := wpOp_putIf hoj (hfree j oj hoj hji hjun hnot) (fun cs b => hsel i oi cs b hi) (fun cs b => hsel j oj cs b hoj) hQ hy h1
      have hfree' : ∀ k ok, ops[k]? = some ok → k ≠ i → (listed.setIfInBounds j true).getD k true = false →
          (∀ e ∈ ok.after, Region.binds md e = true → e.on ≠ i) → oi.apart ops ok = true := fun k ok hk hki hun hno => by
        refine hfree k ok hk hki ?_ hno
        by_cases hjk : j = k
        · subst hjk; exact hjun
        · rw [getD_set_ne true hjk] at hun; exact hun
      refine wpOp_mono (fun a' w' h3 => ⟨h3.2.1, ih (listed.setIfInBounds j true) a' w' (hcl.set hj) hfree' (ready_mono hr (Ne.symm hji)) h3.1 (h3.2.1 hjL) ?_⟩) h2
      rw [Array.setIfInBounds_comm _ _ hji]
      exact h3.2.2

/-! ### The moves of a walk -/
theorem Closed.start : Closed md ops (Array.replicate ops.size false) := by
  intro j o _ hl
  exfalso
  rcases Nat.lt_or_ge j ops.size with h | h
  · simp [h] at hl
  · simp [Nat.not_lt.2 h] at hl
theorem Closed.take {listed : Array Bool} (h : Closed md ops listed) {i : Nat} (hr : (Region.ready md ops listed).contains i = true) : Closed md ops (listed.setIfInBounds i true) :=
  h.set (by simpa using hr)
/-- Take number i first, although S may fail behind those of L, which all wait for i. -/
theorem wpAnyT_take {L : List Nat} {i : Nat} {oi : Oper} {v : Value} {fuel : Nat} {listed : Array Bool} {a : Act} {w : World} (hc : Closed md ops listed) (hi : ops[i]? = some oi)
    (hs : Region.noSelect ops = true) (hf : Region.free md ops listed i = true) (hr : (Region.ready md ops listed).contains i = true) (hL : (L.all fun j => waitsB md ops ops.size j i) = true)
    (hQ : ∀ c a w, Q (.panic c) (a.put oi.dst v) w → Q (.panic c) a w) (hy : YieldsIf P ops S oi v a) (hS : S w)
    (h : Closed md ops (listed.setIfInBounds i true) → wpAnyT P md ops Q S L fuel (listed.setIfInBounds i true) (a.put oi.dst v) w) : wpAnyT P md ops Q S L (fuel + 1) listed a w :=
  wpAnyT_first hi (Region.noSelect_spec hs) hQ (by simpa using hL) fuel listed a w hc (Region.free_spec hi hf) (by simpa using hr) hy hS (h (hc.take hr))
/-- The one that may come up. -/
theorem wpAnyT_one {L : List Nat} {i : Nat} {fuel : Nat} {listed : Array Bool} {a : Act} {w : World} (hr : Region.ready md ops listed = [i])
    (h : wpOp P ops Q i (fun a' w' => (i ∉ L → S w') ∧ wpAnyT P md ops Q S L fuel (listed.setIfInBounds i true) a' w') a w) : wpAnyT P md ops Q S L (fuel + 1) listed a w :=
  ⟨fun h0 => (by rw [h0] at hr; cases hr), fun j hj => by
    rw [hr] at hj
    obtain rfl : j = i := by simpa using hj
    exact h⟩
/-- The one that may come up, carried out: behind it S is to be shown anew. -/
theorem wpAnyT_oper {L : List Nat} {i : Nat} {oi : Oper} {fuel : Nat} {listed : Array Bool} {a : Act} {w : World} (hc : Closed md ops listed) (hr : Region.ready md ops listed = [i]) (hi : ops[i]? = some oi)
    (hw : Region.wanted oi (yielded ops a.tmps) = true)
    (h : ∀ K : Act → World → Prop, (∀ a' w', (i ∉ L → S w') → (Closed md ops (listed.setIfInBounds i true) → wpAnyT P md ops Q S L fuel (listed.setIfInBounds i true) a' w') → K a' w') → Oper.wp P oi a w K Q) : wpAnyT P md ops Q S L (fuel + 1) listed a w := by
  refine wpAnyT_one hr ?_
  unfold wpOp
  simp only [hi, hw, if_true]
  left
  exact h _ fun a' w' h1 h2 => ⟨h1, h2 (hc.set (by rw [hr]; simp))⟩
/-- Two may come up: whichever does. -/
theorem wpAnyT_two {L : List Nat} {i j : Nat} {oi oj : Oper} {fuel : Nat} {listed : Array Bool} {a : Act} {w : World} (hc : Closed md ops listed) (hr : Region.ready md ops listed = [i, j]) (hi : ops[i]? = some oi) (hj : ops[j]? = some oj)
    (hwi : Region.wanted oi (yielded ops a.tmps) = true) (hwj : Region.wanted oj (yielded ops a.tmps) = true)
    (h : ∀ K : Act → World → Prop, (∀ a' w', (i ∉ L → S w') → (Closed md ops (listed.setIfInBounds i true) → wpAnyT P md ops Q S L fuel (listed.setIfInBounds i true) a' w') → K a' w') → Oper.wp P oi a w K Q)
    (k : ∀ K : Act → World → Prop, (∀ a' w', (j ∉ L → S w') → (Closed md ops (listed.setIfInBounds j true) → wpAnyT P md ops Q S L fuel (listed.setIfInBounds j true) a' w') → K a' w') → Oper.wp P oj a w K Q) : wpAnyT P md ops Q S L (fuel + 1) listed a w := by
  refine ⟨fun h0 => (by rw [h0] at hr; cases hr), fun m hm => ?_⟩
  rw [hr] at hm
  simp only [List.mem_cons, List.not_mem_nil, or_false] at hm
  rcases hm with rfl | rfl
  · unfold wpOp
    simp only [hi, hwi, if_true]
    left
    exact h _ fun a' w' h1 h2 => ⟨h1, h2 (hc.set (by rw [hr]; simp))⟩
  · unfold wpOp
    simp only [hj, hwj, if_true]
    left
    exact k _ fun a' w' h1 h2 => ⟨h1, h2 (hc.set (by rw [hr]; simp))⟩
theorem wpAnyT_done {L : List Nat} {listed : Array Bool} {a : Act} {w : World} (hr : Region.ready md ops listed = []) (h : Q .normal a w) : ∀ fuel, wpAnyT P md ops Q S L fuel listed a w
  | 0 => ⟨hr, h⟩
  | _ + 1 => ⟨fun _ => h, by rw [hr]; simp⟩
theorem wp_region_T {L : List Nat} {id : Nat} {a : Act} {w : World} (hm : P.follows .mixedOrders = true)
    (h : Closed .any ops (Array.replicate ops.size false) → wpAnyT P .any ops Q S L ops.size (Array.replicate ops.size false) a w.drew) : (Code.region id ops true).wp P Q a w :=
  wp_region_any hm (wpAny_of_T _ _ _ _ (h Closed.start))
end Go.Proofs.Cmd

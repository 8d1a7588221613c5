import Derived.Test.YtffehagmchcpkaaA7
namespace Go.Proofs.Ytffehagmchcpkaa
open Go.RowKit Go.Proofs.Cmd
variable {N : Nat} {rows : List (List Nat)} {s : St} {w w' : World} {b : Bl}

theorem Rep.inR_eq (h : Rep N rows s) {r : Nat} {l : List Nat} (hr : rows[r]? = some l) {x : Nat} (hx : x ∈ l) : inR rows (x : Int) = (r : Int) := by
  rcases inR_spec rows (x : Int) with ⟨_, h2⟩ | ⟨r', l', h1, h2, h3⟩
  · exact absurd (mem_lz_nat.2 hx) (h2 r l hr)
  · rw [h3, h.disj hr h1 hx (mem_lz_nat.1 h2)]
theorem inR_none {x : Int} (h : ∀ (r : Nat) (l : List Nat), rows[r]? = some l → x ∉ lz l) : inR rows x = -1 := by
  rcases inR_spec rows x with ⟨h1, _⟩ | ⟨r', l', h1, h2, _⟩
  · exact h1
  · exact absurd h2 (h r' l' h1)
theorem inR_neg (rows : List (List Nat)) : inR rows (-1) = -1 := inR_none fun r l _ hx => by
  obtain ⟨n, _, e⟩ := mem_lz.1 hx; omega
theorem Rep.take (h : Rep N rows s) {r : Nat} {x : Nat} {l : List Nat} (hr : rows[r]? = some (x :: l)) : firstR rows (r : Int) = (x : Int) ∧ dropR rows (x : Int) = (true, rows.set r l) := by
  have e := h.inR_eq hr (x := x) (by simp)
  refine ⟨by unfold firstR; rw [rowAt_nat hr], ?_⟩
  unfold dropR
  rw [e, if_neg (by omega), Int.toNat_natCast, rowAt_nat hr, Int.toNat_natCast]
  have hn := List.nodup_cons.1 (h.nodup r _ hr)
  have : (x :: l).filter (fun n => decide (n ≠ x)) = l := by
    rw [List.filter_cons_of_neg (by simp)]
    exact List.filter_eq_self.2 (fun a ha => by simp; rintro rfl; exact hn.1 ha)
  rw [this]
theorem take_nil {r : Nat} (hr : rows[r]? = some []) : firstR rows (r : Int) = -1 ∧ dropR rows (-1) = (false, rows) := by
  refine ⟨by unfold firstR; rw [rowAt_nat hr], ?_⟩
  unfold dropR; rw [inR_neg, if_pos rfl]

def moveR (rows : List (List Nat)) (f t : Int) : Int × List (List Nat) :=
  if isIn rows.length f && isIn rows.length t then (if f = t then (1, rows) else (0, (rows.set t.toNat (rowAt rows t ++ rowAt rows f)).set f.toNat [])) else (3, rows)
def lenAt (b : Bl) (f : Nat) (w : World) : Nat := ((w.cell? ⟨b.gl, f, none⟩).map (fun u => (intOf u).toNat)).getD 0
def boolNat : Value → Nat
  | .bool true => 1
  | _ => 0
theorem Rg.lenAt (h : Rg N rows b w) {f : Nat} {l : List Nat} (hf : rows[f]? = some l) : lenAt b f w = l.length := by
  obtain ⟨s, h1, h2⟩ := h
  unfold Go.Proofs.Ytffehagmchcpkaa.lenAt
  rw [cells3_cell h1.lg (i := f) (by rw [h2.sz.lg]; exact h2.rlt hf), h2.len f l hf]
  simp [intOf]

/-- Rows from which done has come behind those of t, and rest is left in f. -/
def midR (rows : List (List Nat)) (f t : Nat) (rt done rest : List Nat) : List (List Nat) := (rows.set t (rt ++ done)).set f rest
theorem mid_f {f t : Nat} {rt done rest : List Nat} (hf : f < rows.length) : (midR rows f t rt done rest)[f]? = some rest := by
  unfold midR; rw [List.getElem?_set_self (by simpa using hf)]
theorem mid_t {f t : Nat} {rt done rest : List Nat} (ht : t < rows.length) (hne : f ≠ t) : (midR rows f t rt done rest)[t]? = some (rt ++ done) := by
  unfold midR; rw [List.getElem?_set_ne hne, List.getElem?_set_self ht]
theorem mid_start {f t : Nat} {rt rf : List Nat} (hf : rows[f]? = some rf) (ht : rows[t]? = some rt) (_hne : f ≠ t) : midR rows f t rt [] rf = rows := by
  unfold midR
  rw [List.append_nil]
  apply List.ext_getElem? 
  intro i
  by_cases h1 : f = i
  · subst h1; rw [List.getElem?_set_self (by simp; exact (List.getElem?_eq_some_iff.1 hf).1), hf]
  · rw [List.getElem?_set_ne h1]
    by_cases h2 : t = i
    · subst h2; rw [List.getElem?_set_self (List.getElem?_eq_some_iff.1 ht).1, ht]
    · rw [List.getElem?_set_ne h2]
theorem mid_take {f t : Nat} {rt done rest : List Nat} (x : Nat) : (midR rows f t rt done (x :: rest)).set f rest = midR rows f t rt done rest := by
  unfold midR; rw [List.set_set]
theorem mid_put {f t : Nat} {rt done rest : List Nat} (x : Nat) (hne : f ≠ t) : (midR rows f t rt done rest).set t (rt ++ done ++ [x]) = midR rows f t rt (done ++ [x]) rest := by
  unfold midR; rw [List.set_comm _ _ hne, List.set_set, List.append_assoc]
/-- What was taken may be put. -/
theorem mid_may (h : Rep N rows s) {f t x : Nat} {rf rt done rest : List Nat} (hf : rows[f]? = some rf) (ht : rows[t]? = some rt) (hne : f ≠ t) (hrf : rf = done ++ x :: rest) :
    putR N (midR rows f t rt done rest) (t : Int) (x : Int) false = (0, midR rows f t rt (done ++ [x]) rest) := by
  have hfl := h.rlt hf
  have htl := h.rlt ht
  have hxr : x ∈ rf := by rw [hrf]; simp
  have hxN := h.lt f rf hf x hxr
  have hnd := h.nodup f rf hf
  rw [hrf] at hnd
  have hp : (done ++ x :: rest).Perm (x :: (done ++ rest)) := List.perm_middle
  have hx1 := (List.nodup_cons.1 (hp.nodup_iff.1 hnd)).1
  have hnone : inR (midR rows f t rt done rest) (x : Int) = -1 := inR_none fun r l hl hx => by
    have hx := mem_lz_nat.1 hx
    by_cases h1 : r = f
    · subst h1; rw [mid_f hfl] at hl; cases hl; exact hx1 (by simp [hx])
    · by_cases h2 : r = t
      · subst h2; rw [mid_t htl hne] at hl; cases hl
        rcases List.mem_append.1 hx with e | e
        · exact hne (h.disj hf ht hxr e)
        · exact hx1 (by simp [e])
      · unfold midR at hl
        rw [List.getElem?_set_ne (Ne.symm h1), List.getElem?_set_ne (Ne.symm h2)] at hl
        exact h1 (h.disj hl hf hx hxr)
  have hmay : mayR N (midR rows f t rt done rest) (t : Int) (x : Int) = 0 := by
    unfold mayR
    rw [hnone, show (midR rows f t rt done rest).length = rows.length by simp [midR], isIn_of htl, isIn_of hxN]; rfl
  unfold putR
  rw [if_pos hmay, rowAt_nat (mid_t htl hne), Int.toNat_natCast, Int.toNat_natCast]
  simp only [Bool.false_eq_true, if_false]
  rw [mid_put x hne]
end Go.Proofs.Ytffehagmchcpkaa

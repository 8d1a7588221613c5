import Derived.WalkKit
import Derived.Deep.MidRow
namespace Go
open Go.RowKit
/-- part of an aggregate: a run of cells, or one cell -/
theorem run_part_agg {P : Program} (w : World) (t : TypeId) (cs : Array Value) (off n : Nat) (d : TypeDesc) (hu : P.underlying t = some d)
    (hd : (match d with | .struct _ | .array _ _ => true | _ => false) = true) (hi : (P.info? t).map (·.size) = some n) :
    (part t cs off).run P w = .ok (.agg (cs.extract off (off + n))) w := by
  have hagg : (isAgg t).run P w = .ok true w := by
    unfold isAgg
    rw [Sem.run_bind, run_underlying hu w]
    cases d <;> simp_all
  cases hq : P.info? t with
  | none => simp [hq] at hi
  | some i =>
    have hs : i.size = n := by simpa [hq] using hi
    simp [part, Sem.run_bind, hagg, sizeOf, typeInfo, hq, hs]
theorem run_part_one {P : Program} (w : World) (t : TypeId) (cs : Array Value) (off : Nat) (d : TypeDesc) (v : Value) (hu : P.underlying t = some d)
    (hd : (match d with | .struct _ | .array _ _ => true | _ => false) = false) (hv : cs[off]? = some v) :
    (part t cs off).run P w = .ok v w := by
  have hagg : (isAgg t).run P w = .ok false w := by
    unfold isAgg
    rw [Sem.run_bind, run_underlying hu w]
    cases d <;> simp_all
  simp [part, Sem.run_bind, hagg, hv]

/-- a type all of whose cells are int64: how many -/
def flatField (P : Program) (fl : TypeId → Option Nat) (acc : Option Nat) (f : Field) : Option Nat :=
  match acc, fl f.type with
  | some o, some m => if f.name ≠ "_" ∧ f.offset = o ∧ (P.info? f.type).map (·.size) = some m then some (o + m) else none
  | _, _ => none
def flat64 (P : Program) : Nat → TypeId → Option Nat
  | 0, _ => none
  | d + 1, t =>
    match P.underlying t with
    | some (.int .i64) => some 1
    | some (.struct fs) => if P.stoodInHeld t then none else fs.toList.foldl (flatField P (flat64 P d)) (some 0)
    | some (.array len e) =>
      match flat64 P d e with
      | some m => if (P.info? e).map (·.size) = some m then some (len * m) else none
      | none => none
    | _ => none
def val64 (P : Program) (t : TypeId) (xs : List Int) : Value :=
  match P.underlying t with
  | some (.int _) => .int .i64 (xs.headD 0)
  | _ => .agg (xs.map (Value.int .i64)).toArray

theorem foldl_none (P : Program) (fl : TypeId → Option Nat) (fs : List Field) : fs.foldl (flatField P fl) none = none := by
  induction fs with
  | nil => rfl
  | cons f fs ih => simpa [flatField] using ih

theorem foldl_le (P : Program) (fl : TypeId → Option Nat) (fs : List Field) : ∀ o n, fs.foldl (flatField P fl) (some o) = some n → o ≤ n := by
  induction fs with
  | nil => intro o n h; simp at h; omega
  | cons f fs ih =>
    intro o n h
    simp only [List.foldl_cons] at h
    cases hf : flatField P fl (some o) f with
    | none => rw [hf, foldl_none] at h; cases h
    | some o' =>
      rw [hf] at h
      have := ih _ _ h
      simp only [flatField] at hf
      split at hf
      · rename_i he _; cases he
        split at hf
        · simp at hf; omega
        · cases hf
      · cases hf

theorem run_part64 {P : Program} (w : World) (d : Nat) (t : TypeId) (xs : List Int) (off n : Nat) (hf : flat64 P d t = some n) (hi : (P.info? t).map (·.size) = some n)
    (hl : off + n ≤ xs.length) : (part t (xs.map (Value.int .i64)).toArray off).run P w = .ok (val64 P t ((xs.drop off).take n)) w := by
  cases d with
  | zero => simp [flat64] at hf
  | succ d =>
    simp only [flat64] at hf
    split at hf
    · rename_i hu
      simp at hf; subst hf
      rw [run_part_one w t _ off (.int .i64) (.int .i64 ((xs.drop off).headD 0)) hu rfl]
      · have e : (List.take 1 (List.drop off xs)).head? = xs[off]? := by rw [← List.head?_drop]; cases List.drop off xs <;> simp
        simp [val64, hu, e]
      · simp [List.head?_drop, show off < xs.length by omega]
    · rename_i fs hu
      rw [run_part_agg w t _ off n _ hu rfl hi]
      simp [val64, hu, List.map_drop, List.map_take, List.extract_eq_take_drop]
    · rename_i len e hu
      rw [run_part_agg w t _ off n _ hu rfl hi]
      simp [val64, hu, List.map_drop, List.map_take, List.extract_eq_take_drop]
    · cases hf

theorem decide_split (xs ys : List Int) (n o m : Nat) (_hx : xs.length = n) (_hy : ys.length = n) (_hm : o + m ≤ n) :
    decide (xs.drop o = ys.drop o) = (decide ((xs.drop o).take m = (ys.drop o).take m) && decide (xs.drop (o + m) = ys.drop (o + m))) := by
  rw [← Bool.decide_and]
  congr 1
  apply propext
  constructor
  · intro h; exact ⟨by rw [h], by rw [← List.drop_drop, h, List.drop_drop]⟩
  · rintro ⟨h1, h2⟩
    rw [← List.take_append_drop m (xs.drop o), ← List.take_append_drop m (ys.drop o), h1, List.drop_drop, List.drop_drop, h2]

theorem run_eq64 {P : Program} : ∀ (d : Nat) (D : Nat) (t : TypeId) (n : Nat) (xs ys : List Int) (w : World), flat64 P d t = some n → d ≤ D → xs.length = n → ys.length = n →
    (Op.equalIn D t (val64 P t xs) (val64 P t ys)).run P w = .ok (decide (xs = ys)) w := by
  intro d
  induction d with
  | zero => intro D t n xs ys w h; simp [flat64] at h
  | succ d ih =>
    intro D t n xs ys w hf hD hx hy
    obtain ⟨D, rfl⟩ : ∃ k, D = k + 1 := ⟨D - 1, by omega⟩
    simp only [flat64] at hf
    split at hf
    · rename_i hu
      simp at hf; subst hf
      match xs, ys, hx, hy with
      | [x], [y], _, _ =>
        simp only [val64, hu]
        rw [run_equalIn_int w D t .i64 .i64 _ _ hu]
        simp; rw [Bool.eq_iff_iff]; simp
    · rename_i fs hu
      split at hf
      · cases hf
      · rename_i hst
        have hfo : P.fieldsOf t = fs := by simp [Program.fieldsOf, hu]
        simp only [val64, hu]
        rw [run_equalIn_struct w D t _ _ (by rw [hfo]; exact hu) (by simpa using hst), hfo]
        have key : ∀ (l : List Field) (o : Nat), l.foldl (flatField P (flat64 P d)) (some o) = some n → 
            (Op.eqFields D (xs.map (Value.int .i64)).toArray (ys.map (Value.int .i64)).toArray l).run P w = .ok (decide (xs.drop o = ys.drop o)) w := by
          intro l
          induction l with
          | nil => intro o h; simp at h; subst h; simp [Op.eqFields, List.drop_of_length_le, hx, hy]
          | cons f l ihl =>
            intro o h
            have hle := foldl_le _ _ _ _ _ h
            simp only [List.foldl_cons] at h
            cases hff : flatField P (flat64 P d) (some o) f with
            | none => rw [hff, foldl_none] at h; cases h
            | some o' =>
              rw [hff] at h
              have hle' := foldl_le _ _ _ _ _ h
              simp only [flatField] at hff
              split at hff
              · rename_i o2 m he hm
                cases he
                split at hff
                · rename_i hc
                  obtain ⟨hn, ho, hi⟩ := hc
                  simp at hff; subst hff
                  simp only [Op.eqFields, if_pos hn, Sem.run_bind, ho]
                  rw [run_part64 w d f.type xs _ m hm hi (by omega), Result.andThen_ok, run_part64 w d f.type ys _ m hm hi (by omega), Result.andThen_ok,
                    ih D f.type m _ _ w hm (by omega) (by simp; omega) (by simp; omega), Result.andThen_ok, decide_split xs ys n o m hx hy (by omega)]
                  cases hb : decide ((xs.drop o).take m = (ys.drop o).take m)
                  · simp
                  · simp only [Bool.not_true, Bool.false_eq_true, if_false, Bool.true_and]
                    exact ihl _ h
                · cases hff
              · cases hff
        simpa using key fs.toList 0 hf
    · rename_i len e hu
      split at hf
      · rename_i m hm
        split at hf
        · rename_i hi
          simp at hf; subst hf
          simp only [val64, hu]
          simp only [Op.equalIn, Sem.run_bind, run_underlying hu, Result.andThen_ok]
          have hsz : (sizeOf e).run P w = .ok m w := by
            cases hq : P.info? e with
            | none => simp [hq] at hi
            | some i =>
              have hs : i.size = m := by simpa [hq] using hi
              simp [sizeOf, typeInfo, hq, hs]
          rw [hsz, Result.andThen_ok]
          rw [Std.Legacy.Range.forIn_eq_forIn_range']
          have key : ∀ (k j : Nat), j + k = len → (Sem.run P (forIn (List.range' j k 1) ((none, ()) : Option Bool × Unit) fun i __s => do
              let a ← part e (xs.map (Value.int .i64)).toArray (i * m)
              let b ← part e (ys.map (Value.int .i64)).toArray (i * m)
              let r ← Op.equalIn D e a b
              if (!r) = true then pure (ForInStep.done (some false, ())) else pure (ForInStep.yield (none, ()))) w) =
              .ok (if xs.drop (j * m) = ys.drop (j * m) then (none, ()) else (some false, ())) w := by
            intro k
            induction k with
            | zero =>
              intro j hj
              obtain rfl : j = len := by omega
              simp [List.drop_of_length_le, hx, hy]
            | succ k ihk =>
              intro j hj
              have hle : j * m + m ≤ len * m := by
                rw [← Nat.succ_mul]; exact Nat.mul_le_mul_right m (by omega)
              rw [List.range'_succ, List.forIn_cons]
              simp only [Sem.run_bind]
              rw [run_part64 w d e xs _ m hm hi (by omega), Result.andThen_ok, run_part64 w d e ys _ m hm hi (by omega), Result.andThen_ok,
                ih D e m _ _ w hm (by omega) (by simp; omega) (by simp; omega), Result.andThen_ok]
              have hds := decide_split xs ys (len * m) (j * m) m hx hy hle
              cases hb : decide ((xs.drop (j * m)).take m = (ys.drop (j * m)).take m)
              · rw [hb, Bool.false_and] at hds
                simp only [decide_eq_false_iff_not] at hds
                simp [hds]
              · rw [hb, Bool.true_and] at hds
                simp only [Bool.not_true, Bool.false_eq_true, if_false, Sem.run_pure, Result.andThen_ok]
                rw [ihk (j + 1) (by omega), Nat.succ_mul]
                simp only [decide_eq_decide] at hds
                simp [hds]
          have h0 := key len 0 (by omega)
          simp only [Std.Legacy.Range.size, Nat.sub_zero, Nat.add_sub_cancel, Nat.div_one]
          rw [h0, Result.andThen_ok]
          by_cases hxy : xs = ys <;> simp [hxy]
        · cases hf
      · cases hf
    · cases hf
end Go

/- '==' between two structs or arrays whose cells are all integers and bools: the cells are compared, one after the other. For whatever program and type. -/
import Derived.Test.YteoikaedpgianaaRAid
namespace Go.Proofs.Yteoikaedpgianaa
open Go.RowKit

/-- the kinds of the cells of a type that holds integers and bools alone (none: a bool) -/
def flatFields (P : Program) (F : TypeId → Option (List (Option IntKind))) : Nat → List Field → Option (List (Option IntKind))
  | _, [] => some []
  | off, f :: fs =>
    match F f.type with
    | some ks => if f.offset = off ∧ (f.name == "_") = false ∧ (P.info? f.type).map (·.size) = some ks.length ∧ 0 < ks.length then (flatFields P F (off + ks.length) fs).map (ks ++ ·) else none
    | none => none
def flatOf (P : Program) : Nat → TypeId → Option (List (Option IntKind))
  | 0, _ => none
  | f + 1, t =>
    match P.underlying t with
    | some (.int k) => some [some k]
    | some .bool => some [none]
    | some (.struct fs) => if P.stoodInHeld t = false then flatFields P (flatOf P f) 0 fs.toList else none
    | some (.array n e) =>
      match flatOf P f e with
      | some ks => if (P.info? e).map (·.size) = some ks.length ∧ 0 < ks.length then some (List.replicate n ks).flatten else none
      | none => none
    | _ => none

def kindV : Option IntKind → Value → Bool
  | some k, .int k' _ => k == k'
  | none, .bool _ => true
  | _, _ => false
def fits : List (Option IntKind) → List Value → Bool
  | [], [] => true
  | k :: ks, v :: vs => kindV k v && fits ks vs
  | _, _ => false
def sameV : Value → Value → Bool
  | .int _ a, .int _ b => a == b
  | .bool a, .bool b => a == b
  | _, _ => false
def sameL : List Value → List Value → Bool
  | [], [] => true
  | x :: xs, y :: ys => sameV x y && sameL xs ys
  | _, _ => false

theorem fits_length : ∀ {ks : List (Option IntKind)} {vs : List Value}, fits ks vs = true → vs.length = ks.length
  | [], [], _ => rfl
  | _ :: ks, _ :: vs, h => by
    simp only [fits, Bool.and_eq_true] at h
    simp [fits_length h.2]
  | [], _ :: _, h => by simp [fits] at h
  | _ :: _, [], h => by simp [fits] at h
theorem fits_append : ∀ {ks ls : List (Option IntKind)} {vs : List Value}, fits (ks ++ ls) vs = true → fits ks (vs.take ks.length) = true ∧ fits ls (vs.drop ks.length) = true
  | [], ls, vs, h => by simpa [fits] using h
  | k :: ks, ls, [], h => by simp [fits] at h
  | k :: ks, ls, v :: vs, h => by
    simp only [List.cons_append, fits, Bool.and_eq_true] at h
    have := fits_append h.2
    simp [fits, h.1, this]
theorem sameL_append : ∀ {a b c d : List Value}, a.length = c.length → sameL (a ++ b) (c ++ d) = (sameL a c && sameL b d)
  | [], b, [], d, _ => by simp [sameL]
  | x :: a, b, y :: c, d, h => by
    have := sameL_append (a := a) (b := b) (c := c) (d := d) (by simpa using h)
    simp [sameL, this, Bool.and_assoc]
  | [], _, _ :: _, _, h => by simp at h
  | _ :: _, _, [], _, h => by simp at h

/-- the value of a type whose cells are these -/
def whole (P : Program) (t : TypeId) (l : List Value) : Value :=
  match P.underlying t with
  | some (.struct _) | some (.array _ _) => .agg l.toArray
  | _ => l.headD undef

section
variable {P : Program}

theorem run_sizeOf {t : TypeId} {n : Nat} (hs : (P.info? t).map (·.size) = some n) (w : World) : (sizeOf t).run P w = .ok n w := by
  cases hq : P.info? t with
  | none => simp [hq] at hs
  | some i => simp [hq] at hs; simp [sizeOf, typeInfo, hq, hs]

theorem run_part {t : TypeId} {n : Nat} (hs : (P.info? t).map (·.size) = some n) (hu : (P.underlying t).isSome = true) (hn : (∀ fs, P.underlying t ≠ some (.struct fs)) → (∀ m e, P.underlying t ≠ some (.array m e)) → n = 1)
    (l : List Value) (off : Nat) (ho : off + n ≤ l.length) (w : World) : (part t l.toArray off).run P w = .ok (whole P t ((l.drop off).take n)) w := by
  obtain ⟨d, hd⟩ := Option.isSome_iff_exists.1 hu
  have hplain : (∀ fs, d ≠ .struct fs) → (∀ m e, d ≠ .array m e) → (part t l.toArray off).run P w = .ok (whole P t ((l.drop off).take n)) w := by
    intro h1 h2
    have hn1 : n = 1 := hn (fun fs h => h1 fs (by rw [hd] at h; exact Option.some.inj h)) (fun m e h => h2 m e (by rw [hd] at h; exact Option.some.inj h))
    subst hn1
    have hlt : off < l.length := by omega
    have e1 : (isAgg t).run P w = .ok false w := by
      cases d <;> simp_all [isAgg, run_underlying hd]
    have e2 : whole P t ((l.drop off).take 1) = l[off] := by
      have : (l.drop off).take 1 = [l[off]] := by rw [List.drop_eq_getElem_cons hlt]; rfl
      cases d <;> simp_all [whole]
    simp [part, e1, hlt, e2]
  cases d with
  | struct fs =>
    have e1 : (isAgg t).run P w = .ok true w := by simp [isAgg, run_underlying hd]
    simp [part, e1, run_sizeOf hs, whole, hd]
  | array m e =>
    have e1 : (isAgg t).run P w = .ok true w := by simp [isAgg, run_underlying hd]
    simp [part, e1, run_sizeOf hs, whole, hd]
  | _ => exact hplain (by simp) (by simp)

theorem flatOf_some {f : Nat} {t : TypeId} {ks : List (Option IntKind)} (h : flatOf P f t = some ks) :
    (P.underlying t).isSome = true ∧ ((∀ fs, P.underlying t ≠ some (.struct fs)) → (∀ m e, P.underlying t ≠ some (.array m e)) → ks.length = 1) := by
  cases f with
  | zero => simp [flatOf] at h
  | succ f =>
    simp only [flatOf] at h
    split at h
    · rename_i k hk; simp at h; subst h; exact ⟨by simp [hk], fun _ _ => rfl⟩
    · rename_i hk; simp at h; subst h; exact ⟨by simp [hk], fun _ _ => rfl⟩
    · rename_i fs hk; exact ⟨by simp [hk], fun h1 _ => absurd hk (h1 fs)⟩
    · rename_i n e hk; exact ⟨by simp [hk], fun _ h2 => absurd hk (h2 n e)⟩
    · simp at h

theorem run_eqFields {f d : Nat} {w : World}
    (ih : ∀ (t : TypeId) (ks : List (Option IntKind)), flatOf P f t = some ks → ∀ xs ys : List Value, fits ks xs = true → fits ks ys = true → (Op.equalIn d t (whole P t xs) (whole P t ys)).run P w = .ok (sameL xs ys) w)
    (xs ys : List Value) (hl : xs.length = ys.length) : ∀ (fs : List Field) (off : Nat) (ks : List (Option IntKind)), flatFields P (flatOf P f) off fs = some ks → fits ks (xs.drop off) = true → fits ks (ys.drop off) = true →
      (Op.eqFields d xs.toArray ys.toArray fs).run P w = .ok (sameL (xs.drop off) (ys.drop off)) w
  | [], off, ks, h, h1, h2 => by
    simp [flatFields] at h; subst h
    have e1 := fits_length h1
    have e2 := fits_length h2
    rw [List.length_eq_zero_iff.1 e1, List.length_eq_zero_iff.1 e2]
    simp [Op.eqFields, sameL]
  | fd :: fs, off, ks, h, h1, h2 => by
    simp only [flatFields] at h
    split at h
    · rename_i k1 hk1
      split at h
      · rename_i hc
        obtain ⟨hoff, hname, hsz, hpos⟩ := hc
        rw [Option.map_eq_some_iff] at h
        obtain ⟨k2, hk2, rfl⟩ := h
        obtain ⟨a1, a2⟩ := fits_append h1
        obtain ⟨b1, b2⟩ := fits_append h2
        rw [List.drop_drop] at a2 b2
        obtain ⟨hu, hn⟩ := flatOf_some hk1
        have l1 := fits_length a1
        have l2 := fits_length b1
        simp only [List.length_take, List.length_drop] at l1 l2
        have hne : (fd.name ≠ "_") := by simpa using hname
        simp only [Op.eqFields, hne, ne_eq, not_false_eq_true, if_true, Sem.run_bind, hoff]
        rw [run_part hsz hu hn xs off (by omega)]
        simp only [Result.andThen_ok]
        rw [run_part hsz hu hn ys off (by omega)]
        simp only [Result.andThen_ok]
        rw [ih fd.type k1 hk1 _ _ a1 b1]
        simp only [Result.andThen_ok]
        have key : sameL (xs.drop off) (ys.drop off) = (sameL ((xs.drop off).take k1.length) ((ys.drop off).take k1.length) && sameL (xs.drop (off + k1.length)) (ys.drop (off + k1.length))) := by
          rw [← sameL_append (by simp [hl])]
          rw [← List.drop_drop, ← List.drop_drop, List.take_append_drop, List.take_append_drop]
        rw [key]
        cases hsame : sameL ((xs.drop off).take k1.length) ((ys.drop off).take k1.length)
        · simp
        · simp only [Bool.not_true, Bool.false_eq_true, if_false, Bool.true_and]
          exact run_eqFields ih xs ys hl fs _ k2 hk2 a2 b2
      · simp at h
    · simp at h

theorem run_eqRounds {d : Nat} {w : World} {e : TypeId} {ks : List (Option IntKind)} (hpos : 0 < ks.length) (hsz : (P.info? e).map (·.size) = some ks.length) (hu : (P.underlying e).isSome = true)
    (hn : (∀ fs, P.underlying e ≠ some (.struct fs)) → (∀ m e', P.underlying e ≠ some (.array m e')) → ks.length = 1)
    (ih : ∀ xs ys : List Value, fits ks xs = true → fits ks ys = true → (Op.equalIn d e (whole P e xs) (whole P e ys)).run P w = .ok (sameL xs ys) w)
    (xs ys : List Value) (hl : xs.length = ys.length) : ∀ (n i : Nat), fits (List.replicate n ks).flatten (xs.drop (i * ks.length)) = true → fits (List.replicate n ks).flatten (ys.drop (i * ks.length)) = true →
      (forIn (m := Sem) (List.range' i n) ((none, ()) : Option Bool × Unit) (fun i _ => do
        let a ← part e xs.toArray (i * ks.length)
        let b ← part e ys.toArray (i * ks.length)
        let r ← Op.equalIn d e a b
        if (!r) = true then pure (ForInStep.done (some false, ())) else pure (ForInStep.yield (none, ())))).run P w =
      .ok (if sameL (xs.drop (i * ks.length)) (ys.drop (i * ks.length)) then (none, ()) else (some false, ())) w
  | 0, i, h1, h2 => by
    have e1 := fits_length h1
    have e2 := fits_length h2
    simp only [List.replicate_zero, List.flatten_nil, List.length_nil] at e1 e2
    rw [List.length_eq_zero_iff.1 e1, List.length_eq_zero_iff.1 e2]
    simp [sameL]
  | n + 1, i, h1, h2 => by
    rw [List.replicate_succ, List.flatten_cons] at h1 h2
    obtain ⟨a1, a2⟩ := fits_append h1
    obtain ⟨b1, b2⟩ := fits_append h2
    have hmul : i * ks.length + ks.length = (i + 1) * ks.length := by rw [Nat.succ_mul]
    rw [List.drop_drop, hmul] at a2 b2
    have l1 := fits_length a1
    have l2 := fits_length b1
    simp only [List.length_take, List.length_drop] at l1 l2
    simp only [List.range'_succ, List.forIn_cons, Sem.run_bind]
    · rw [run_part hsz hu hn xs _ (by omega)]
      simp only [Result.andThen_ok]
      rw [run_part hsz hu hn ys _ (by omega)]
      simp only [Result.andThen_ok]
      rw [ih _ _ a1 b1]
      simp only [Result.andThen_ok]
      have key : sameL (xs.drop (i * ks.length)) (ys.drop (i * ks.length)) =
          (sameL ((xs.drop (i * ks.length)).take ks.length) ((ys.drop (i * ks.length)).take ks.length) && sameL (xs.drop ((i + 1) * ks.length)) (ys.drop ((i + 1) * ks.length))) := by
        rw [← sameL_append (by simp [hl]), ← hmul]
        rw [← List.drop_drop, ← List.drop_drop, List.take_append_drop, List.take_append_drop]
      rw [key]
      cases hsame : sameL ((xs.drop (i * ks.length)).take ks.length) ((ys.drop (i * ks.length)).take ks.length)
      · simp
      · simp only [Bool.not_true, Bool.false_eq_true, if_false, Bool.true_and, Sem.run_pure, Result.andThen_ok]
        exact run_eqRounds hpos hsz hu hn ih xs ys hl n (i + 1) a2 b2

/-- '==' on a type of integers and bools compares the cells. -/
theorem run_equal_flat (w : World) : ∀ (f : Nat) (t : TypeId) (ks : List (Option IntKind)), flatOf P f t = some ks → ∀ d, f ≤ d → ∀ xs ys : List Value, fits ks xs = true → fits ks ys = true →
    (Op.equalIn d t (whole P t xs) (whole P t ys)).run P w = .ok (sameL xs ys) w
  | 0, t, ks, h, _, _, _, _, _, _ => by simp [flatOf] at h
  | f + 1, t, ks, h, d, hd, xs, ys, h1, h2 => by
    obtain ⟨d, rfl⟩ : ∃ d', d = d' + 1 := ⟨d - 1, by omega⟩
    have ih := fun t ks h => run_equal_flat w f t ks h d (by omega)
    have l1 := fits_length h1
    have l2 := fits_length h2
    simp only [flatOf] at h
    split at h
    · rename_i k hk
      simp at h; subst h
      match xs, ys, h1, h2 with
      | [x], [y], h1, h2 =>
        cases x <;> simp [fits, kindV] at h1
        cases y <;> simp [fits, kindV] at h2
        subst h1; subst h2
        simp [whole, hk, Op.equalIn, run_underlying hk, sameL, sameV]
    · rename_i hk
      simp at h; subst h
      match xs, ys, h1, h2 with
      | [x], [y], h1, h2 =>
        cases x <;> simp [fits, kindV] at h1
        cases y <;> simp [fits, kindV] at h2
        simp [whole, hk, Op.equalIn, run_underlying hk, sameL, sameV]
    · rename_i fs hk
      split at h
      · rename_i hst
        have hf : P.underlying t = some (.struct (P.fieldsOf t)) := by simp [Program.fieldsOf, hk]
        have e := run_equalIn_struct (P := P) w d t xs.toArray ys.toArray hf hst
        have hff : P.fieldsOf t = fs := by simp [Program.fieldsOf, hk]
        rw [hff] at e
        simp only [whole, hk]
        rw [e, run_eqFields ih xs ys (by omega) fs.toList 0 ks h (by simpa using h1) (by simpa using h2)]
        simp
      · simp at h
    · rename_i n e hk
      split at h
      · rename_i k1 hk1
        split at h
        · rename_i hc
          obtain ⟨hsz, hpos⟩ := hc
          simp at h; subst h
          obtain ⟨hu, hn⟩ := flatOf_some hk1
          have hr := run_eqRounds hpos hsz hu hn (ih e k1 hk1) xs ys (by omega) n 0 (by simpa using h1) (by simpa using h2)
          simp only [whole, hk]
          rw [Op.equalIn]
          simp only [Sem.run_bind, run_underlying hk, Result.andThen_ok, run_sizeOf hsz]
          simp only [Std.Legacy.Range.forIn_eq_forIn_range', Std.Legacy.Range.size]
          simp only [Nat.sub_zero, Nat.add_sub_cancel, Nat.div_one]
          rw [hr]
          simp only [Nat.zero_mul, List.drop_zero, Result.andThen_ok]
          cases sameL xs ys <;> simp
        · simp at h
      · simp at h
    · simp at h

theorem equal_array {t e : TypeId} {n : Nat} {ks : List (Option IntKind)} (hu : P.underlying t = some (.array n e)) (h : flatOf P 10 t = some ks) (xs ys : List Value) (h1 : fits ks xs = true) (h2 : fits ks ys = true) (W : World) :
    (Op.equalIn 10000 t (.agg xs.toArray) (.agg ys.toArray)).run P W = .ok (sameL xs ys) W := by
  have := run_equal_flat W 10 t ks h 10000 (by omega) xs ys h1 h2
  simpa only [whole, hu] using this
theorem equal_struct {t : TypeId} {fs : Array Field} {ks : List (Option IntKind)} (hu : P.underlying t = some (.struct fs)) (h : flatOf P 10 t = some ks) (xs ys : List Value) (h1 : fits ks xs = true) (h2 : fits ks ys = true) (W : World) :
    (Op.equalIn 10000 t (.agg xs.toArray) (.agg ys.toArray)).run P W = .ok (sameL xs ys) W := by
  have := run_equal_flat W 10 t ks h 10000 (by omega) xs ys h1 h2
  simpa only [whole, hu] using this
/-- lists of integers as cells -/
def ints (l : List Int) : List Value := l.map (Value.int .i64)
theorem sameL_ints : ∀ {a b : List Int}, a.length = b.length → sameL (ints a) (ints b) = (a == b)
  | [], [], _ => rfl
  | x :: a, y :: b, h => by
    have h1 := sameL_ints (a := a) (b := b) (by simpa using h)
    simp only [ints] at h1
    simp [ints, sameL, sameV, h1]
  | [], _ :: _, h => by simp at h
  | _ :: _, [], h => by simp at h
end
end Go.Proofs.Yteoikaedpgianaa

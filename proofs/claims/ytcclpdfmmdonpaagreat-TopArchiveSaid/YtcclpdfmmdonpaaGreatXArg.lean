/- Texts of the seat Yteanlcefdoigcaa, turned to this one by wip/port.py: Args LawKit. -/
import Derived.Test.YtcclpdfmmdonpaaGreatRows
import Derived.Test.YtcclpdfmmdonpaaGreatXBas
import Derived.OpenShut
import Derived.Deep.Slices
import GoSem.Claim
import GoSem.ClaimJoined
import Derived.WalkKit
import Derived.ProofKit
import Derived.SizedLaws
import Derived.Carry
namespace Go.Proofs.YtcclpdfmmdonpaaGreat
open Go.RowKit
def flatFields (P : Program) (F : TypeId -> Option (List (Option IntKind))) : Nat -> List Field -> Option (List (Option IntKind))
  | _, [] => some []
  | off, f :: fs =>
    match F f.type with
    | some ks => if f.offset = off /\ (f.name == "_") = false /\ (P.info? f.type).map (·.size) = some ks.length /\ 0 < ks.length then (flatFields P F (off + ks.length) fs).map (ks ++ ·) else none
    | none => none
def flatOf (P : Program) : Nat -> TypeId -> Option (List (Option IntKind))
  | 0, _ => none
  | f + 1, t =>
    match P.underlying t with
    | some (.int k) => some [some k]
    | some .bool => some [none]
    | some (.struct fs) => if P.stoodInHeld t = false then flatFields P (flatOf P f) 0 fs.toList else none
    | some (.array n e) =>
      match flatOf P f e with
      | some ks => if (P.info? e).map (·.size) = some ks.length /\ 0 < ks.length then some (List.replicate n ks).flatten else none
      | none => none
    | _ => none
def kindV : Option IntKind -> Value -> Bool
  | some k, .int k' _ => k == k'
  | none, .bool _ => true
  | _, _ => false
def fits : List (Option IntKind) -> List Value -> Bool
  | [], [] => true
  | k :: ks, v :: vs => kindV k v && fits ks vs
  | _, _ => false
def sameV : Value -> Value -> Bool
  | .int _ a, .int _ b => a == b
  | .bool a, .bool b => a == b
  | _, _ => false
def sameL : List Value -> List Value -> Bool
  | [], [] => true
  | x :: xs, y :: ys => sameV x y && sameL xs ys
  | _, _ => false
theorem fits_length : ∀ {ks : List (Option IntKind)} {vs : List Value}, fits ks vs = true -> vs.length = ks.length
  | [], [], _ => rfl
  | _ :: ks, _ :: vs, h => by
    simp only [fits, Bool.and_eq_true] at h; simp [fits_length h.2]
  | [], _ :: _, h => by simp [fits] at h
  | _ :: _, [], h => by simp [fits] at h
theorem fits_append : ∀ {ks ls : List (Option IntKind)} {vs : List Value}, fits (ks ++ ls) vs = true -> fits ks (vs.take ks.length) = true /\ fits ls (vs.drop ks.length) = true
  | [], ls, vs, h => by simpa [fits] using h
  | k :: ks, ls, [], h => by simp [fits] at h
  | k :: ks, ls, v :: vs, h => by
    simp only [List.cons_append, fits, Bool.and_eq_true] at h; have := fits_append h.2; simp [fits, h.1, this]
theorem sameL_append : ∀ {a b c d : List Value}, a.length = c.length -> sameL (a ++ b) (c ++ d) = (sameL a c && sameL b d)
  | [], b, [], d, _ => by simp [sameL]
  | x :: a, b, y :: c, d, h => by
    have := sameL_append (a := a) (b := b) (c := c) (d := d) (by simpa using h); simp [sameL, this, Bool.and_assoc]
  | [], _, _ :: _, _, h => by simp at h
  | _ :: _, _, [], _, h => by simp at h
def whole (P : Program) (t : TypeId) (l : List Value) : Value :=
  match P.underlying t with
  | some (.struct _) | some (.array _ _) => .agg l.toArray
  | _ => l.headD undef
section
variable {P : Program}
theorem run_sizeOf {t : TypeId} {n : Nat} (hs : (P.info? t).map (·.size) = some n) (w : World) : (sizeOf t).run P w = .ok n w := by
  cases hq : P.info? t with
  | none => simp [hq] at hs
  | some i => simp [hq] at hs; simp [sizeOf, typeInfo, hq, hs]
theorem run_part {t : TypeId} {n : Nat} (hs : (P.info? t).map (·.size) = some n) (hu : (P.underlying t).isSome = true) (hn : (∀ fs, P.underlying t ≠ some (.struct fs)) -> (∀ m e, P.underlying t ≠ some (.array m e)) -> n = 1)
    (l : List Value) (off : Nat) (ho : off + n <= l.length) (w : World) : (part t l.toArray off).run P w = .ok (whole P t ((l.drop off).take n)) w := by
  obtain ⟨d, hd⟩ := Option.isSome_iff_exists.1 hu; have hplain : (∀ fs, d ≠ .struct fs) -> (∀ m e, d ≠ .array m e) -> (part t l.toArray off).run P w = .ok (whole P t ((l.drop off).take n)) w := by
    intro h1 h2; have hn1 : n = 1 := hn (fun fs h => h1 fs (by rw [hd] at h; exact Option.some.inj h)) (fun m e h => h2 m e (by rw [hd] at h; exact Option.some.inj h)); subst hn1; have hlt : off < l.length := by omega
    have e1 : (isAgg t).run P w = .ok false w := by
      cases d <;> simp_all [isAgg, run_underlying hd]
    have e2 : whole P t ((l.drop off).take 1) = l[off] := by
      have : (l.drop off).take 1 = [l[off]] := by rw [List.drop_eq_getElem_cons hlt]; rfl
      cases d <;> simp_all [whole]
    simp [part, e1, hlt, e2]
  cases d with
  | struct fs =>
    have e1 : (isAgg t).run P w = .ok true w := by simp [isAgg, run_underlying hd]
    simp [part, e1, run_sizeOf hs, whole, hd]
  | array m e =>
    have e1 : (isAgg t).run P w = .ok true w := by simp [isAgg, run_underlying hd]
    simp [part, e1, run_sizeOf hs, whole, hd]
  | _ => exact hplain (by simp) (by simp)
theorem flatOf_some {f : Nat} {t : TypeId} {ks : List (Option IntKind)} (h : flatOf P f t = some ks) :
    (P.underlying t).isSome = true /\ ((∀ fs, P.underlying t ≠ some (.struct fs)) -> (∀ m e, P.underlying t ≠ some (.array m e)) -> ks.length = 1) := by
  cases f with
  | zero => simp [flatOf] at h
  | succ f =>
    simp only [flatOf] at h
    split at h
    · rename_i k hk; simp at h; subst h; exact ⟨by simp [hk], fun _ _ => rfl⟩
    · rename_i hk; simp at h; subst h; exact ⟨by simp [hk], fun _ _ => rfl⟩
    · rename_i fs hk; exact ⟨by simp [hk], fun h1 _ => absurd hk (h1 fs)⟩
    · rename_i n e hk; exact ⟨by simp [hk], fun _ h2 => absurd hk (h2 n e)⟩
    · simp at h
theorem run_eqFields {f d : Nat} {w : World}
    (ih : ∀ (t : TypeId) (ks : List (Option IntKind)), flatOf P f t = some ks -> ∀ xs ys : List Value, fits ks xs = true -> fits ks ys = true -> (Op.equalIn d t (whole P t xs) (whole P t ys)).run P w = .ok (sameL xs ys) w)
    (xs ys : List Value) (hl : xs.length = ys.length) : ∀ (fs : List Field) (off : Nat) (ks : List (Option IntKind)), flatFields P (flatOf P f) off fs = some ks -> fits ks (xs.drop off) = true -> fits ks (ys.drop off) = true ->
      (Op.eqFields d xs.toArray ys.toArray fs).run P w = .ok (sameL (xs.drop off) (ys.drop off)) w
  | [], off, ks, h, h1, h2 => by
    simp [flatFields] at h; subst h; have e1 := fits_length h1; have e2 := fits_length h2; rw [List.length_eq_zero_iff.1 e1, List.length_eq_zero_iff.1 e2]; simp [Op.eqFields, sameL]
  | fd :: fs, off, ks, h, h1, h2 => by
    simp only [flatFields] at h
    split at h
    · rename_i k1 hk1
      split at h
      · rename_i hc
        obtain ⟨hoff, hname, hsz, hpos⟩ := hc; rw [Option.map_eq_some_iff] at h; obtain ⟨k2, hk2, rfl⟩ := h; obtain ⟨a1, a2⟩ := fits_append h1; obtain ⟨b1, b2⟩ := fits_append h2; rw [List.drop_drop] at a2 b2; obtain ⟨hu, hn⟩ := flatOf_some hk1; have l1 := fits_length a1; have l2 := fits_length b1; simp only [List.length_take, List.length_drop] at l1 l2; have hne : (fd.name ≠ "_") := by simpa using hname
        simp only [Op.eqFields, hne, ne_eq, not_false_eq_true, if_true, Sem.run_bind, hoff]; rw [run_part hsz hu hn xs off (by omega)]; simp only [Result.andThen_ok]; rw [run_part hsz hu hn ys off (by omega)]; simp only [Result.andThen_ok]; rw [ih fd.type k1 hk1 _ _ a1 b1]; simp only [Result.andThen_ok]; have key : sameL (xs.drop off) (ys.drop off) = (sameL ((xs.drop off).take k1.length) ((ys.drop off).take k1.length) && sameL (xs.drop (off + k1.length)) (ys.drop (off + k1.length))) := by
          rw [<- sameL_append (by simp [hl])]; rw [<- List.drop_drop, <- List.drop_drop, List.take_append_drop, List.take_append_drop]
        rw [key]
        cases hsame : sameL ((xs.drop off).take k1.length) ((ys.drop off).take k1.length)
        · simp
        · simp only [Bool.not_true, Bool.false_eq_true, if_false, Bool.true_and]; exact run_eqFields ih xs ys hl fs _ k2 hk2 a2 b2
      · simp at h
    · simp at h
theorem run_eqRounds {d : Nat} {w : World} {e : TypeId} {ks : List (Option IntKind)} (hpos : 0 < ks.length) (hsz : (P.info? e).map (·.size) = some ks.length) (hu : (P.underlying e).isSome = true)
    (hn : (∀ fs, P.underlying e ≠ some (.struct fs)) -> (∀ m e', P.underlying e ≠ some (.array m e')) -> ks.length = 1)
    (ih : ∀ xs ys : List Value, fits ks xs = true -> fits ks ys = true -> (Op.equalIn d e (whole P e xs) (whole P e ys)).run P w = .ok (sameL xs ys) w)
    (xs ys : List Value) (hl : xs.length = ys.length) : ∀ (n i : Nat), fits (List.replicate n ks).flatten (xs.drop (i * ks.length)) = true -> fits (List.replicate n ks).flatten (ys.drop (i * ks.length)) = true ->
      (forIn (m := Sem) (List.range' i n) ((none, ()) : Option Bool × Unit) (fun i _ => do
        let a <- part e xs.toArray (i * ks.length); let b <- part e ys.toArray (i * ks.length); let r <- Op.equalIn d e a b
        if (!r) = true then pure (ForInStep.done (some false, ())) else pure (ForInStep.yield (none, ())))).run P w =
      .ok (if sameL (xs.drop (i * ks.length)) (ys.drop (i * ks.length)) then (none, ()) else (some false, ())) w
  | 0, i, h1, h2 => by
    have e1 := fits_length h1; have e2 := fits_length h2; simp only [List.replicate_zero, List.flatten_nil, List.length_nil] at e1 e2; rw [List.length_eq_zero_iff.1 e1, List.length_eq_zero_iff.1 e2]; simp [sameL]
  | n + 1, i, h1, h2 => by
    rw [List.replicate_succ, List.flatten_cons] at h1 h2; obtain ⟨a1, a2⟩ := fits_append h1; obtain ⟨b1, b2⟩ := fits_append h2; have hmul : i * ks.length + ks.length = (i + 1) * ks.length := by rw [Nat.succ_mul]
    rw [List.drop_drop, hmul] at a2 b2; have l1 := fits_length a1; have l2 := fits_length b1; simp only [List.length_take, List.length_drop] at l1 l2; simp only [List.range'_succ, List.forIn_cons, Sem.run_bind]
    · rw [run_part hsz hu hn xs _ (by omega)]; simp only [Result.andThen_ok]; rw [run_part hsz hu hn ys _ (by omega)]; simp only [Result.andThen_ok]; rw [ih _ _ a1 b1]; simp only [Result.andThen_ok]; have key : sameL (xs.drop (i * ks.length)) (ys.drop (i * ks.length)) =
          (sameL ((xs.drop (i * ks.length)).take ks.length) ((ys.drop (i * ks.length)).take ks.length) && sameL (xs.drop ((i + 1) * ks.length)) (ys.drop ((i + 1) * ks.length))) := by
        rw [<- sameL_append (by simp [hl]), <- hmul]; rw [<- List.drop_drop, <- List.drop_drop, List.take_append_drop, List.take_append_drop]
      rw [key]
      cases hsame : sameL ((xs.drop (i * ks.length)).take ks.length) ((ys.drop (i * ks.length)).take ks.length)
      · simp
      · simp only [Bool.not_true, Bool.false_eq_true, if_false, Bool.true_and, Sem.run_pure, Result.andThen_ok]; exact run_eqRounds hpos hsz hu hn ih xs ys hl n (i + 1) a2 b2
theorem run_equal_flat (w : World) : ∀ (f : Nat) (t : TypeId) (ks : List (Option IntKind)), flatOf P f t = some ks -> ∀ d, f <= d -> ∀ xs ys : List Value, fits ks xs = true -> fits ks ys = true ->
    (Op.equalIn d t (whole P t xs) (whole P t ys)).run P w = .ok (sameL xs ys) w
  | 0, t, ks, h, _, _, _, _, _, _ => by simp [flatOf] at h
  | f + 1, t, ks, h, d, hd, xs, ys, h1, h2 => by
    obtain ⟨d, rfl⟩ : ∃ d', d = d' + 1 := ⟨d - 1, by omega⟩; have ih := fun t ks h => run_equal_flat w f t ks h d (by omega)
    have l1 := fits_length h1; have l2 := fits_length h2; simp only [flatOf] at h
    split at h
    · rename_i k hk
      simp at h; subst h
      match xs, ys, h1, h2 with
      | [x], [y], h1, h2 =>
        cases x <;> simp [fits, kindV] at h1
        cases y <;> simp [fits, kindV] at h2
        subst h1; subst h2; simp [whole, hk, Op.equalIn, run_underlying hk, sameL, sameV]
    · rename_i hk
      simp at h; subst h
      match xs, ys, h1, h2 with
      | [x], [y], h1, h2 =>
        cases x <;> simp [fits, kindV] at h1
        cases y <;> simp [fits, kindV] at h2
        simp [whole, hk, Op.equalIn, run_underlying hk, sameL, sameV]
    · rename_i fs hk
      split at h
      · rename_i hst
        have hf : P.underlying t = some (.struct (P.fieldsOf t)) := by simp [Program.fieldsOf, hk]
        have e := run_equalIn_struct (P := P) w d t xs.toArray ys.toArray hf hst; have hff : P.fieldsOf t = fs := by simp [Program.fieldsOf, hk]
        rw [hff] at e; simp only [whole, hk]; rw [e, run_eqFields ih xs ys (by omega) fs.toList 0 ks h (by simpa using h1) (by simpa using h2)]; simp
      · simp at h
    · rename_i n e hk
      split at h
      · rename_i k1 hk1
        split at h
        · rename_i hc
          obtain ⟨hsz, hpos⟩ := hc; simp at h; subst h; obtain ⟨hu, hn⟩ := flatOf_some hk1; have hr := run_eqRounds hpos hsz hu hn (ih e k1 hk1) xs ys (by omega) n 0 (by simpa using h1) (by simpa using h2); simp only [whole, hk]; rw [Op.equalIn]; simp only [Sem.run_bind, run_underlying hk, Result.andThen_ok, run_sizeOf hsz]; simp only [Std.Legacy.Range.forIn_eq_forIn_range', Std.Legacy.Range.size]; simp only [Nat.sub_zero, Nat.add_sub_cancel, Nat.div_one]; rw [hr]; simp only [Nat.zero_mul, List.drop_zero, Result.andThen_ok]
          cases sameL xs ys <;> simp
        · simp at h
      · simp at h
    · simp at h
theorem equal_struct {t : TypeId} {fs : Array Field} {ks : List (Option IntKind)} (hu : P.underlying t = some (.struct fs)) (h : flatOf P 10 t = some ks) (xs ys : List Value) (h1 : fits ks xs = true) (h2 : fits ks ys = true) (W : World) :
    (Op.equalIn 10000 t (.agg xs.toArray) (.agg ys.toArray)).run P W = .ok (sameL xs ys) W := by
  have := run_equal_flat W 10 t ks h 10000 (by omega) xs ys h1 h2; simpa only [whole, hu] using this
theorem sameL_refl : ∀ {ks : List (Option IntKind)} {l : List Value}, fits ks l = true -> sameL l l = true
  | [], [], _ => rfl
  | k :: ks, v :: l, h => by
    simp only [fits, Bool.and_eq_true] at h; have h1 := sameL_refl h.2
    cases v <;> cases k <;> simp_all [kindV, sameL, sameV]
  | [], _ :: _, h => by simp [fits] at h
  | _ :: _, [], h => by simp [fits] at h
end
open Go.ChangeShapes Go.WideShapes Go.ChangeAt Go.RowKit
def fitsW : List (Option IntKind) -> List Value -> Prop
  | [], [] => True
  | some k :: ks, v :: vs => (∃ n, v = .int k n /\ (Lit.int k n).wf = true) /\ fitsW ks vs
  | none :: ks, v :: vs => (∃ b, v = .bool b) /\ fitsW ks vs
  | _, _ => False
theorem fitsW.append : ∀ {ks ls : List (Option IntKind)} {vs us : List Value}, fitsW ks vs -> fitsW ls us -> fitsW (ks ++ ls) (vs ++ us)
  | [], ls, [], us, _, h => h
  | some k :: ks, ls, v :: vs, us, h, h' => ⟨h.1, fitsW.append h.2 h'⟩
  | none :: ks, ls, v :: vs, us, h, h' => ⟨h.1, fitsW.append h.2 h'⟩
  | [], _, _ :: _, _, h, _ => by simp [fitsW] at h
  | some _ :: _, _, [], _, h, _ => by simp [fitsW] at h
  | none :: _, _, [], _, h, _ => by simp [fitsW] at h
theorem fits_int {k : IntKind} {ks : List (Option IntKind)} {cs : List Value} (h : fitsW (some k :: ks) cs) : ∃ n vs, cs = .int k n :: vs /\ (Lit.int k n).wf = true /\ fitsW ks vs := by
  cases cs with
  | nil => simp [fitsW] at h
  | cons v vs =>
    obtain ⟨⟨n, rfl, hw⟩, h2⟩ := h; exact ⟨n, vs, rfl, hw, h2⟩
theorem fits_nil {cs : List Value} (h : fitsW [] cs) : cs = [] := by
  cases cs with
  | nil => rfl
  | cons v vs => simp [fitsW] at h
section
variable {H : Type} {enc : TypeId × Value -> H} {P : Program} {w : World} {base : Nat} {spare : Nat -> Bool} {held : Bool}
theorem cellsOf_of {t : TypeId} {n : Nat} (h : (P.info? t).map (·.size) = some n) : P.cellsOf t = n := by simp [Program.cellsOf, h]
theorem trod_fields {f n : Nat} (ih : ∀ (t : TypeId) (ks : List (Option IntKind)) (cs : List Value) (x : DataW H × List MemPlace), flatOf P f t = some ks -> cs.length = ks.length -> DataW.trod enc P w base spare held n t cs = some x -> fitsW ks cs)
    (cs : List Value) : ∀ (fs : List Field) (off : Nat) (ks : List (Option IntKind)), flatFields P (flatOf P f) off fs = some ks -> cs.length = off + ks.length ->
      (∀ fd ∈ fs, ∃ y, DataW.trod enc P w base spare held n fd.type ((cs.drop fd.offset).take (P.cellsOf fd.type)) = some y) -> fitsW ks (cs.drop off)
  | [], off, ks, h, hl, _ => by
    simp [flatFields] at h; subst h; rw [List.drop_eq_nil_of_le (by simp at hl; omega)]; trivial
  | fd :: fs, off, ks, h, hl, hall => by
    simp only [flatFields] at h
    split at h
    · rename_i k1 hk1
      split at h
      · rename_i hc
        obtain ⟨hoff, hname, hsz, hpos⟩ := hc; rw [Option.map_eq_some_iff] at h; obtain ⟨k2, hk2, rfl⟩ := h; simp only [List.length_append] at hl; obtain ⟨y, hy⟩ := hall fd (by simp); rw [hoff, cellsOf_of hsz] at hy; have h1 := ih fd.type k1 _ y hk1 (by simp; omega) hy; have h2 := trod_fields ih cs fs (off + k1.length) k2 hk2 (by omega) (fun g hg => hall g (by simp [hg])); have := h1.append h2; rwa [<- List.drop_drop, List.take_append_drop] at this
      · simp at h
    · simp at h
theorem trod_rounds {f n : Nat} {e : TypeId} {ks : List (Option IntKind)} (hsz : (P.info? e).map (·.size) = some ks.length)
    (ih : ∀ (cs : List Value) (x : DataW H × List MemPlace), cs.length = ks.length -> DataW.trod enc P w base spare held n e cs = some x -> fitsW ks cs)
    (cs : List Value) : ∀ (m i : Nat), cs.length = (i + m) * ks.length -> (∀ j, i <= j -> j < i + m -> ∃ y, DataW.trod enc P w base spare held n e ((cs.drop (j * P.cellsOf e)).take (P.cellsOf e)) = some y) ->
      fitsW (List.replicate m ks).flatten (cs.drop (i * ks.length))
  | 0, i, hl, _ => by
    rw [List.drop_eq_nil_of_le (by simp at hl; omega)]; trivial
  | m + 1, i, hl, hall => by
    obtain ⟨y, hy⟩ := hall i (by omega) (by omega); rw [cellsOf_of hsz] at hy; have hmul : i * ks.length + ks.length = (i + 1) * ks.length := by rw [Nat.succ_mul]
    have hle : (i + 1) * ks.length <= (i + (m + 1)) * ks.length := Nat.mul_le_mul_right _ (by omega); have h1 := ih _ y (by simp; omega) hy; have h2 := trod_rounds (f := f) hsz ih cs m (i + 1) (by rw [hl]; congr 1; omega) (fun j h1 h2 => hall j (by omega) (by omega)); have := h1.append h2; rw [<- hmul, <- List.drop_drop, List.take_append_drop] at this; rw [List.replicate_succ, List.flatten_cons]; exact this
theorem trod_flat : ∀ (f : Nat) (t : TypeId) (ks : List (Option IntKind)) (n : Nat) (cs : List Value) (x : DataW H × List MemPlace), flatOf P f t = some ks -> cs.length = ks.length ->
    DataW.trod enc P w base spare held n t cs = some x -> fitsW ks cs
  | 0, t, ks, n, cs, x, h, _, _ => by simp [flatOf] at h
  | f + 1, t, ks, n, cs, x, h, hl, hx => by
    have ih := fun t ks n cs x => trod_flat f t ks n cs x
    simp only [flatOf] at h
    split at h
    · rename_i k hk
      simp at h; subst h; obtain ⟨z, rfl, _, hw⟩ := DataW.trod_int hk hx; exact ⟨⟨z, rfl, hw⟩, trivial⟩
    · rename_i hk
      simp at h; subst h; obtain ⟨b, rfl, _⟩ := DataW.trod_bool hk hx; exact ⟨⟨b, rfl⟩, trivial⟩
    · rename_i fs hk
      split at h
      · obtain ⟨xs, m, _, _, _, hxl, hf⟩ := DataW.trod_struct hk hx
        have := trod_fields (fun t ks cs x => ih t ks m cs x) cs fs.toList 0 ks h (by omega) (fun fd hfd => by
          obtain ⟨j, hj, rfl⟩ := List.getElem_of_mem hfd; have hj' : j < fs.size := by simpa using hj
          have h1 := hf j fs[j] (by simp [hj']); rw [List.getElem?_eq_getElem (by omega)] at h1
          exact ⟨_, by simpa using h1⟩)
        simpa using this
      · simp at h
    · rename_i m e hk
      split at h
      · rename_i k1 hk1
        split at h
        · rename_i hc
          simp at h; subst h; obtain ⟨xs, n', _, _, _, hxl, hf⟩ := DataW.trod_array hk hx
          have := trod_rounds (f := f) hc.1 (fun cs x => ih e k1 n' cs x hk1) cs m 0 (by simp at hl; simpa using hl) (fun j _ hj => by
            have h1 := hf j (by omega); rw [List.getElem?_eq_getElem (by omega)] at h1
            exact ⟨_, h1⟩)
          simpa using this
        · simp at h
      · simp at h
    · simp at h
end
open Go.ChangeShapes Go.WideShapes Go.ChangeAt Go.RowKit Go.Deep
section
variable {H : Type} {enc : TypeId × Value -> H} {P : Program} {w : World} {base : Nat} {spare : Nat -> Bool} {held : Bool}
theorem cell_lt {w : World} {b o : Nat} {v : Value} (h : w.cell? ⟨b, o, none⟩ = some v) : b < w.heap.size := by
  unfold World.cell? at h
  split at h
  · rename_i hx; exact (Array.getElem?_eq_some_iff.1 hx).1
  · simp at h
def rows (w : World) (b off sz n : Nat) (ks : List (Option IntKind)) : Prop :=
  ∀ i, i < n -> ∃ cs : List Value, fitsW ks cs /\ ∀ j v, cs[j]? = some v -> w.cell? ⟨b, off + i * sz + j, none⟩ = some v
end
open Go.ChangeShapes Go.WideShapes Go.ChangeAt Go.RowKit
section
variable {H : Type} {enc : TypeId × Value -> H}
theorem trodAll_below {P : Program} (hl : laidOutB P = true) {W W' : World} (hb : Below W.heap.size W W') :
    ∀ {ts : List TypeId} {vs : List Value} {ds : List (DataW H)} {ps : List MemPlace}, (∀ t ∈ ts, P.readableRec t = true /\ t < P.types.size) ->
      DataW.TrodAll enc P W 0 (fun _ => true) true ts vs ds ps -> (∀ x ∈ ps, x.block < W.heap.size) ->
      DataW.TrodAll enc P W' 0 (fun b => decide (b < W.heap.size)) true ts vs ds ps
  | [], [], [], _, _, h, _ => h
  | t :: ts, v :: vs, d :: ds, ps, hr, h, hlt => by
    obtain ⟨p, q, h1, h2, rfl⟩ := h; have hrt := hr t (by simp)
    exact ⟨p, q, Below.trod hl hrt.1 hrt.2 h1 hb (fun x hx => hlt x (by simp [hx])),
      trodAll_below hl hb (fun t ht => hr t (by simp [ht])) h2 (fun x hx => hlt x (by simp [hx])), rfl⟩
  | [], [], _ :: _, _, _, h, _ => h.elim
  | [], _ :: _, _, _, _, h, _ => h.elim
  | _ :: _, [], _, _, _, h, _ => h.elim
  | _ :: _, _ :: _, [], _, _, h, _ => h.elim
theorem trodAll_length {P : Program} {w : World} {base : Nat} {sp : Nat -> Bool} {hd : Bool} : ∀ {ts : List TypeId} {vs : List Value} {ds : List (DataW H)} {ps : List MemPlace},
    DataW.TrodAll enc P w base sp hd ts vs ds ps -> vs.length = ts.length /\ ds.length = ts.length
  | [], [], [], _, _ => ⟨rfl, rfl⟩
  | _ :: ts, _ :: vs, _ :: ds, _, h => by
    obtain ⟨p, q, _, h2, _⟩ := h; have := trodAll_length h2; simp [this.1, this.2]
  | [], [], _ :: _, _, h => h.elim
  | [], _ :: _, _, _, h => h.elim
  | _ :: _, [], _, _, h => h.elim
  | _ :: _, _ :: _, [], _, h => h.elim
theorem law_lifted {C : Checked} {os : Os} {f : FuncId} {fn : Func} {s : ChangeSpec} {tb : TypeId} (own : ownKnob C.prog.godebug = none) (started : os.Started)
    (noInit : C.prog.inits.idxOf? f = none) (hfn : C.prog.funcs[f]? = some fn) (hvars : s.vars = [])
    (hs : ∀ (ds : List (DataW H)), ds.length = fn.params.size -> (s.fn H ds).results = [.lit (.bool true)] /\ (s.fn H ds).args = ds /\ (s.fn H ds).vars = [])
    (hres : fn.resultTypes = #[tb]) (htb : C.prog.underlying tb = some .bool) (hl : laidOutB C.prog = true)
    (hread : ∀ t ∈ fn.params.toList, C.prog.readableRec t = true /\ t < C.prog.types.size)
    (witness : ∃ (w : World) (tape : Tape) (i : Input), w.os = os /\ (w.forCall tape i).Shaped C.prog /\ i.vars = [] /\ Input.okWide C.prog (w.forCall tape i) .any w.heap.size f i /\
      s.pre6 enc C.prog fn [] false (w.forCall tape i).memory i.args /\ ({} : Assume).holds C.prog (lone (Frame.enter C.prog f i.args .normal) [] (w.forCall tape i)))
    (walk : ∀ (W : World) (base : Nat) (args : Array Value) (ds : List (DataW H)) (p : List MemPlace),
      (∀ (j : Nat) t v, fn.params[j]? = some t -> args[j]? = some v -> Value.okWide C.prog W .any base t v) ->
      DataW.TrodAll enc C.prog W 0 (fun _ => true) true fn.params.toList args.toList ds p ->
      (∀ x ∈ p, x.block < W.heap.size) ->
      (DataW.weightsEach C.prog fn.params.toList ds).all (· <= reachBytes) = true ->
      Calls C.prog f args W fun e W' => e = .returned (.bool true) /\ Below W.heap.size W W') :
    ReturnsInHanded {} C os f .any (s.pre6 enc C.prog fn [] false) (s.post enc C.prog fn false true false false) := by
  refine returnsInHanded_of_change_sized own started noInit hfn witness ?_; intro W base args ds gs before hval hW _ hsz _; have hW' := hW; obtain ⟨p, q, hA, hV, rfl, hfz, hnd⟩ := hW; rw [hvars] at hV; obtain ⟨rfl, rfl⟩ : gs = [] /\ q = [] := by
    cases gs with
    | nil => exact ⟨rfl, hV⟩
    | cons g gs => exact hV.elim
  have hvt : s.plain.varTypes C.prog = [] := by simp [DataSpec.varTypes, ChangeSpec.plain, hvars]
  rw [hvt] at hsz; simp only [List.append_nil] at hsz hW'; have hlt : ∀ x ∈ p, x.block < W.heap.size := fun x hx => by simpa using hW'.lt x hx
  refine (walk W base args ds p hval hA hlt hsz).mono fun e W' ⟨he, hb⟩ => ?_
  subst he; have hlen : ds.length = fn.params.size := by have := (trodAll_length hA).2; simpa using this
  obtain ⟨h1, h2, h3⟩ := hs ds hlen; refine ⟨_, rfl, ds, [], p, [], p, [], hW', ?_, ?_, ?_, hb.frame _, fun h => by cases h⟩
  · rw [List.append_nil, h1, hres]; exact trodAll_cons_mk (shut_bool htb _) trodAll_mk0
  · rw [List.append_nil, h2]; exact trodAll_below hl hb hread hA hlt
  · rw [List.append_nil, h3, hvars]; rfl
end
open Go.ChangeShapes Go.WideShapes Go.ChangeAt Go.RowKit
theorem lawOwn : ownKnob Tryz.prog.godebug = none := by kernel_rfl
theorem lawLaid : laidOutB Tryz.prog = true := by kernel_rfl
theorem lawCells : ∀ {n : Nat} {cs : List Value}, fitsW (List.replicate n (some .i64)) cs -> ∃ zs : List Int, zs.length = n /\ cs = zs.map (Value.int .i64)
  | 0, cs, h => ⟨[], rfl, fits_nil h⟩
  | n + 1, cs, h => by
    obtain ⟨z, vs, rfl, _, h2⟩ := fits_int (show fitsW (some .i64 :: List.replicate n (some .i64)) cs from h); obtain ⟨zs, hl, rfl⟩ := lawCells h2; exact ⟨z :: zs, by simp [hl], rfl⟩
theorem lawFlat3 : flatOf Tryz.prog 10 3 = some (List.replicate 1 (some .i64)) := by kernel_rfl
theorem lawFlat36 : flatOf Tryz.prog 10 106 = some (List.replicate 9 (some .i64)) := by kernel_rfl
theorem lawSize36 : (Tryz.prog.info? 106).map (·.size) = some 9 := by kernel_rfl
end Go.Proofs.YtcclpdfmmdonpaaGreat

/- Arguments of types that hold integers and bools alone: what their cells are. For whatever program and type. -/
import Derived.Test.YteanlcefdoigcaaFlat
import Derived.OpenShut
namespace Go.Proofs.Yteanlcefdoigcaa
open Go.ChangeShapes Go.WideShapes Go.ChangeAt Go.RowKit

/-- cells of these kinds, the integers within their kinds -/
def fitsW : List (Option IntKind) → List Value → Prop
  | [], [] => True
  | some k :: ks, v :: vs => (∃ n, v = .int k n ∧ (Lit.int k n).wf = true) ∧ fitsW ks vs
  | none :: ks, v :: vs => (∃ b, v = .bool b) ∧ fitsW ks vs
  | _, _ => False

theorem fitsW.fits : ∀ {ks : List (Option IntKind)} {vs : List Value}, fitsW ks vs → fits ks vs = true
  | [], [], _ => rfl
  | some k :: ks, v :: vs, h => by
    obtain ⟨⟨n, rfl, _⟩, h2⟩ := h
    simp [Yteanlcefdoigcaa.fits, kindV, fitsW.fits h2]
  | none :: ks, v :: vs, h => by
    obtain ⟨⟨b, rfl⟩, h2⟩ := h
    simp [Yteanlcefdoigcaa.fits, kindV, fitsW.fits h2]
  | [], _ :: _, h => by simp [fitsW] at h
  | some _ :: _, [], h => by simp [fitsW] at h
  | none :: _, [], h => by simp [fitsW] at h
theorem fitsW.append : ∀ {ks ls : List (Option IntKind)} {vs us : List Value}, fitsW ks vs → fitsW ls us → fitsW (ks ++ ls) (vs ++ us)
  | [], ls, [], us, _, h => h
  | some k :: ks, ls, v :: vs, us, h, h' => ⟨h.1, fitsW.append h.2 h'⟩
  | none :: ks, ls, v :: vs, us, h, h' => ⟨h.1, fitsW.append h.2 h'⟩
  | [], _, _ :: _, _, h, _ => by simp [fitsW] at h
  | some _ :: _, _, [], _, h, _ => by simp [fitsW] at h
  | none :: _, _, [], _, h, _ => by simp [fitsW] at h

theorem fits_int {k : IntKind} {ks : List (Option IntKind)} {cs : List Value} (h : fitsW (some k :: ks) cs) : ∃ n vs, cs = .int k n :: vs ∧ (Lit.int k n).wf = true ∧ fitsW ks vs := by
  cases cs with
  | nil => simp [fitsW] at h
  | cons v vs =>
    obtain ⟨⟨n, rfl, hw⟩, h2⟩ := h
    exact ⟨n, vs, rfl, hw, h2⟩
theorem fits_bool {ks : List (Option IntKind)} {cs : List Value} (h : fitsW (none :: ks) cs) : ∃ b vs, cs = .bool b :: vs ∧ fitsW ks vs := by
  cases cs with
  | nil => simp [fitsW] at h
  | cons v vs =>
    obtain ⟨⟨b, rfl⟩, h2⟩ := h
    exact ⟨b, vs, rfl, h2⟩
theorem fits_nil {cs : List Value} (h : fitsW [] cs) : cs = [] := by
  cases cs with
  | nil => rfl
  | cons v vs => simp [fitsW] at h
theorem fits4 {cs : List Value} (h : fitsW [some .i64, some .i64, some .i64, some .i64] cs) : ∃ a b c d : Int, cs = [.int .i64 a, .int .i64 b, .int .i64 c, .int .i64 d] ∧
    ((Lit.int .i64 a).wf = true ∧ (Lit.int .i64 b).wf = true ∧ (Lit.int .i64 c).wf = true ∧ (Lit.int .i64 d).wf = true) := by
  obtain ⟨a, _, rfl, wa, h⟩ := fits_int h
  obtain ⟨b, _, rfl, wb, h⟩ := fits_int h
  obtain ⟨c, _, rfl, wc, h⟩ := fits_int h
  obtain ⟨d, _, rfl, wd, h⟩ := fits_int h
  obtain rfl := fits_nil h
  exact ⟨a, b, c, d, rfl, wa, wb, wc, wd⟩

section
variable {H : Type} {enc : TypeId × Value → H} {P : Program} {w : World} {base : Nat} {spare : Nat → Bool} {held : Bool}

theorem cellsOf_of {t : TypeId} {n : Nat} (h : (P.info? t).map (·.size) = some n) : P.cellsOf t = n := by simp [Program.cellsOf, h]

theorem trod_fields {f n : Nat} (ih : ∀ (t : TypeId) (ks : List (Option IntKind)) (cs : List Value) (x : DataW H × List MemPlace), flatOf P f t = some ks → cs.length = ks.length → DataW.trod enc P w base spare held n t cs = some x → fitsW ks cs)
    (cs : List Value) : ∀ (fs : List Field) (off : Nat) (ks : List (Option IntKind)), flatFields P (flatOf P f) off fs = some ks → cs.length = off + ks.length →
      (∀ fd ∈ fs, ∃ y, DataW.trod enc P w base spare held n fd.type ((cs.drop fd.offset).take (P.cellsOf fd.type)) = some y) → fitsW ks (cs.drop off)
  | [], off, ks, h, hl, _ => by
    simp [flatFields] at h; subst h
    rw [List.drop_eq_nil_of_le (by simp at hl; omega)]
    trivial
  | fd :: fs, off, ks, h, hl, hall => by
    simp only [flatFields] at h
    split at h
    · rename_i k1 hk1
      split at h
      · rename_i hc
        obtain ⟨hoff, hname, hsz, hpos⟩ := hc
        rw [Option.map_eq_some_iff] at h
        obtain ⟨k2, hk2, rfl⟩ := h
        simp only [List.length_append] at hl
        obtain ⟨y, hy⟩ := hall fd (by simp)
        rw [hoff, cellsOf_of hsz] at hy
        have h1 := ih fd.type k1 _ y hk1 (by simp; omega) hy
        have h2 := trod_fields ih cs fs (off + k1.length) k2 hk2 (by omega) (fun g hg => hall g (by simp [hg]))
        have := h1.append h2
        rwa [← List.drop_drop, List.take_append_drop] at this
      · simp at h
    · simp at h

theorem trod_rounds {f n : Nat} {e : TypeId} {ks : List (Option IntKind)} (hsz : (P.info? e).map (·.size) = some ks.length)
    (ih : ∀ (cs : List Value) (x : DataW H × List MemPlace), cs.length = ks.length → DataW.trod enc P w base spare held n e cs = some x → fitsW ks cs)
    (cs : List Value) : ∀ (m i : Nat), cs.length = (i + m) * ks.length → (∀ j, i ≤ j → j < i + m → ∃ y, DataW.trod enc P w base spare held n e ((cs.drop (j * P.cellsOf e)).take (P.cellsOf e)) = some y) →
      fitsW (List.replicate m ks).flatten (cs.drop (i * ks.length))
  | 0, i, hl, _ => by
    rw [List.drop_eq_nil_of_le (by simp at hl; omega)]
    trivial
  | m + 1, i, hl, hall => by
    obtain ⟨y, hy⟩ := hall i (by omega) (by omega)
    rw [cellsOf_of hsz] at hy
    have hmul : i * ks.length + ks.length = (i + 1) * ks.length := by rw [Nat.succ_mul]
    have hle : (i + 1) * ks.length ≤ (i + (m + 1)) * ks.length := Nat.mul_le_mul_right _ (by omega)
    have h1 := ih _ y (by simp; omega) hy
    have h2 := trod_rounds (f := f) hsz ih cs m (i + 1) (by rw [hl]; congr 1; omega) (fun j h1 h2 => hall j (by omega) (by omega))
    have := h1.append h2
    rw [← hmul, ← List.drop_drop, List.take_append_drop] at this
    rw [List.replicate_succ, List.flatten_cons]
    exact this

theorem trod_flat : ∀ (f : Nat) (t : TypeId) (ks : List (Option IntKind)) (n : Nat) (cs : List Value) (x : DataW H × List MemPlace), flatOf P f t = some ks → cs.length = ks.length →
    DataW.trod enc P w base spare held n t cs = some x → fitsW ks cs
  | 0, t, ks, n, cs, x, h, _, _ => by simp [flatOf] at h
  | f + 1, t, ks, n, cs, x, h, hl, hx => by
    have ih := fun t ks n cs x => trod_flat f t ks n cs x
    simp only [flatOf] at h
    split at h
    · rename_i k hk
      simp at h; subst h
      obtain ⟨z, rfl, _, hw⟩ := DataW.trod_int hk hx
      exact ⟨⟨z, rfl, hw⟩, trivial⟩
    · rename_i hk
      simp at h; subst h
      obtain ⟨b, rfl, _⟩ := DataW.trod_bool hk hx
      exact ⟨⟨b, rfl⟩, trivial⟩
    · rename_i fs hk
      split at h
      · obtain ⟨xs, m, _, _, _, hxl, hf⟩ := DataW.trod_struct hk hx
        have := trod_fields (fun t ks cs x => ih t ks m cs x) cs fs.toList 0 ks h (by omega) (fun fd hfd => by
          obtain ⟨j, hj, rfl⟩ := List.getElem_of_mem hfd
          have hj' : j < fs.size := by simpa using hj
          have h1 := hf j fs[j] (by simp [hj'])
          rw [List.getElem?_eq_getElem (by omega)] at h1
          exact ⟨_, by simpa using h1⟩)
        simpa using this
      · simp at h
    · rename_i m e hk
      split at h
      · rename_i k1 hk1
        split at h
        · rename_i hc
          simp at h; subst h
          obtain ⟨xs, n', _, _, _, hxl, hf⟩ := DataW.trod_array hk hx
          have := trod_rounds (f := f) hc.1 (fun cs x => ih e k1 n' cs x hk1) cs m 0 (by simp at hl; simpa using hl) (fun j _ hj => by
            have h1 := hf j (by omega)
            rw [List.getElem?_eq_getElem (by omega)] at h1
            exact ⟨_, h1⟩)
          simpa using this
        · simp at h
      · simp at h
    · simp at h

/-- A flat struct or array, by value, as an argument: its cells. -/
theorem open_flat {r : Reach} {b0 f : Nat} {t : TypeId} {ks : List (Option IntKind)} {v : Value} {d : DataW H} {p : List MemPlace} (hf : flatOf P f t = some ks) (hs : (P.info? t).map (·.size) = some ks.length)
    (hagg : (match P.underlying t with | some (.struct _) => true | some (.array _ _) => true | _ => false) = true) (hv : Value.okWide P w r b0 t v) (h : DataW.Trod enc P w base spare held t v d p) :
    ∃ cs : List Value, v = .agg cs.toArray ∧ fitsW ks cs := by
  obtain ⟨cs, rfl, hsz⟩ : ∃ cs, v = .agg cs ∧ cs.size = P.cellsOf t := by
    unfold Value.okWide at hv
    split at hv
    · obtain ⟨cs, rfl, h, _⟩ := hv; exact ⟨cs, rfl, h⟩
    · obtain ⟨cs, rfl, h, _⟩ := hv; exact ⟨cs, rfl, h⟩
    · rename_i h1 h2
      split at hagg
      · rename_i fs he; exact absurd he (h1 fs)
      · rename_i n e he; exact absurd he (h2 n e)
      · simp at hagg
  obtain ⟨fuel, hx⟩ := h
  rw [cellsOf_of hs] at hsz
  exact ⟨cs.toList, by simp, trod_flat f t ks fuel _ _ hf (by simpa using hsz) (by simpa [Value.cells] using hx)⟩
end
end Go.Proofs.Yteanlcefdoigcaa

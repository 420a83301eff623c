/- Arguments of types that hold integers and bools alone: what their cells are. For whatever program and type. Arguments that are slices of flat structs or arrays, and integers: what their cells are. For whatever program and type. The step from a law's walk to its row: the law returns true and turns no old memory, whatever the types of its arguments. What every law's step to its row needs: flat arguments of integers, closed facts of the program. -/
import Derived.Test.YteoikaedpgianaaRFlat
import Derived.OpenShut
import Derived.Deep.Slices
import GoSem.Claim
import GoSem.ClaimJoined
import Derived.WalkKit
import Derived.ProofKit
import Derived.SizedLaws
import Derived.Carry
import Derived.Test.YteoikaedpgianaaRCore
namespace Go.Proofs.Yteoikaedpgianaa
open Go.ChangeShapes Go.WideShapes Go.ChangeAt Go.RowKit

/-- cells of these kinds, the integers within their kinds -/
def fitsW : List (Option IntKind) → List Value → Prop
  | [], [] => True
  | some k :: ks, v :: vs => (∃ n, v = .int k n ∧ (Lit.int k n).wf = true) ∧ fitsW ks vs
  | none :: ks, v :: vs => (∃ b, v = .bool b) ∧ fitsW ks vs
  | _, _ => False

theorem fitsW.append : ∀ {ks ls : List (Option IntKind)} {vs us : List Value}, fitsW ks vs → fitsW ls us → fitsW (ks ++ ls) (vs ++ us)
  | [], ls, [], us, _, h => h
  | some k :: ks, ls, v :: vs, us, h, h' => ⟨h.1, fitsW.append h.2 h'⟩
  | none :: ks, ls, v :: vs, us, h, h' => ⟨h.1, fitsW.append h.2 h'⟩
  | [], _, _ :: _, _, h, _ => by simp [fitsW] at h
  | some _ :: _, _, [], _, h, _ => by simp [fitsW] at h
  | none :: _, _, [], _, h, _ => by simp [fitsW] at h

theorem fits_int {k : IntKind} {ks : List (Option IntKind)} {cs : List Value} (h : fitsW (some k :: ks) cs) : ∃ n vs, cs = .int k n :: vs ∧ (Lit.int k n).wf = true ∧ fitsW ks vs := by
  cases cs with
  | nil => simp [fitsW] at h
  | cons v vs =>
    obtain ⟨⟨n, rfl, hw⟩, h2⟩ := h
    exact ⟨n, vs, rfl, hw, h2⟩
theorem fits_nil {cs : List Value} (h : fitsW [] cs) : cs = [] := by
  cases cs with
  | nil => rfl
  | cons v vs => simp [fitsW] at h
section
variable {H : Type} {enc : TypeId × Value → H} {P : Program} {w : World} {base : Nat} {spare : Nat → Bool} {held : Bool}

theorem cellsOf_of {t : TypeId} {n : Nat} (h : (P.info? t).map (·.size) = some n) : P.cellsOf t = n := by simp [Program.cellsOf, h]

theorem trod_fields {f n : Nat} (ih : ∀ (t : TypeId) (ks : List (Option IntKind)) (cs : List Value) (x : DataW H × List MemPlace), flatOf P f t = some ks → cs.length = ks.length → DataW.trod enc P w base spare held n t cs = some x → fitsW ks cs)
    (cs : List Value) : ∀ (fs : List Field) (off : Nat) (ks : List (Option IntKind)), flatFields P (flatOf P f) off fs = some ks → cs.length = off + ks.length →
      (∀ fd ∈ fs, ∃ y, DataW.trod enc P w base spare held n fd.type ((cs.drop fd.offset).take (P.cellsOf fd.type)) = some y) → fitsW ks (cs.drop off)
  | [], off, ks, h, hl, _ => by
    simp [flatFields] at h; subst h
    rw [List.drop_eq_nil_of_le (by simp at hl; omega)]
    trivial
  | fd :: fs, off, ks, h, hl, hall => by
    simp only [flatFields] at h
    split at h
    · rename_i k1 hk1
      split at h
      · rename_i hc
        obtain ⟨hoff, hname, hsz, hpos⟩ := hc
        rw [Option.map_eq_some_iff] at h
        obtain ⟨k2, hk2, rfl⟩ := h
        simp only [List.length_append] at hl
        obtain ⟨y, hy⟩ := hall fd (by simp)
        rw [hoff, cellsOf_of hsz] at hy
        have h1 := ih fd.type k1 _ y hk1 (by simp; omega) hy
        have h2 := trod_fields ih cs fs (off + k1.length) k2 hk2 (by omega) (fun g hg => hall g (by simp [hg]))
        have := h1.append h2
        rwa [← List.drop_drop, List.take_append_drop] at this
      · simp at h
    · simp at h

theorem trod_rounds {f n : Nat} {e : TypeId} {ks : List (Option IntKind)} (hsz : (P.info? e).map (·.size) = some ks.length)
    (ih : ∀ (cs : List Value) (x : DataW H × List MemPlace), cs.length = ks.length → DataW.trod enc P w base spare held n e cs = some x → fitsW ks cs)
    (cs : List Value) : ∀ (m i : Nat), cs.length = (i + m) * ks.length → (∀ j, i ≤ j → j < i + m → ∃ y, DataW.trod enc P w base spare held n e ((cs.drop (j * P.cellsOf e)).take (P.cellsOf e)) = some y) →
      fitsW (List.replicate m ks).flatten (cs.drop (i * ks.length))
  | 0, i, hl, _ => by
    rw [List.drop_eq_nil_of_le (by simp at hl; omega)]
    trivial
  | m + 1, i, hl, hall => by
    obtain ⟨y, hy⟩ := hall i (by omega) (by omega)
    rw [cellsOf_of hsz] at hy
    have hmul : i * ks.length + ks.length = (i + 1) * ks.length := by rw [Nat.succ_mul]
    have hle : (i + 1) * ks.length ≤ (i + (m + 1)) * ks.length := Nat.mul_le_mul_right _ (by omega)
    have h1 := ih _ y (by simp; omega) hy
    have h2 := trod_rounds (f := f) hsz ih cs m (i + 1) (by rw [hl]; congr 1; omega) (fun j h1 h2 => hall j (by omega) (by omega))
    have := h1.append h2
    rw [← hmul, ← List.drop_drop, List.take_append_drop] at this
    rw [List.replicate_succ, List.flatten_cons]
    exact this

theorem trod_flat : ∀ (f : Nat) (t : TypeId) (ks : List (Option IntKind)) (n : Nat) (cs : List Value) (x : DataW H × List MemPlace), flatOf P f t = some ks → cs.length = ks.length →
    DataW.trod enc P w base spare held n t cs = some x → fitsW ks cs
  | 0, t, ks, n, cs, x, h, _, _ => by simp [flatOf] at h
  | f + 1, t, ks, n, cs, x, h, hl, hx => by
    have ih := fun t ks n cs x => trod_flat f t ks n cs x
    simp only [flatOf] at h
    split at h
    · rename_i k hk
      simp at h; subst h
      obtain ⟨z, rfl, _, hw⟩ := DataW.trod_int hk hx
      exact ⟨⟨z, rfl, hw⟩, trivial⟩
    · rename_i hk
      simp at h; subst h
      obtain ⟨b, rfl, _⟩ := DataW.trod_bool hk hx
      exact ⟨⟨b, rfl⟩, trivial⟩
    · rename_i fs hk
      split at h
      · obtain ⟨xs, m, _, _, _, hxl, hf⟩ := DataW.trod_struct hk hx
        have := trod_fields (fun t ks cs x => ih t ks m cs x) cs fs.toList 0 ks h (by omega) (fun fd hfd => by
          obtain ⟨j, hj, rfl⟩ := List.getElem_of_mem hfd
          have hj' : j < fs.size := by simpa using hj
          have h1 := hf j fs[j] (by simp [hj'])
          rw [List.getElem?_eq_getElem (by omega)] at h1
          exact ⟨_, by simpa using h1⟩)
        simpa using this
      · simp at h
    · rename_i m e hk
      split at h
      · rename_i k1 hk1
        split at h
        · rename_i hc
          simp at h; subst h
          obtain ⟨xs, n', _, _, _, hxl, hf⟩ := DataW.trod_array hk hx
          have := trod_rounds (f := f) hc.1 (fun cs x => ih e k1 n' cs x hk1) cs m 0 (by simp at hl; simpa using hl) (fun j _ hj => by
            have h1 := hf j (by omega)
            rw [List.getElem?_eq_getElem (by omega)] at h1
            exact ⟨_, h1⟩)
          simpa using this
        · simp at h
      · simp at h
    · simp at h

/-- A flat struct or array, by value, as an argument: its cells. -/
theorem open_flat {r : Reach} {b0 f : Nat} {t : TypeId} {ks : List (Option IntKind)} {v : Value} {d : DataW H} {p : List MemPlace} (hf : flatOf P f t = some ks) (hs : (P.info? t).map (·.size) = some ks.length)
    (hagg : (match P.underlying t with | some (.struct _) => true | some (.array _ _) => true | _ => false) = true) (hv : Value.okWide P w r b0 t v) (h : DataW.Trod enc P w base spare held t v d p) :
    ∃ cs : List Value, v = .agg cs.toArray ∧ fitsW ks cs := by
  obtain ⟨cs, rfl, hsz⟩ : ∃ cs, v = .agg cs ∧ cs.size = P.cellsOf t := by
    unfold Value.okWide at hv
    split at hv
    · obtain ⟨cs, rfl, h, _⟩ := hv; exact ⟨cs, rfl, h⟩
    · obtain ⟨cs, rfl, h, _⟩ := hv; exact ⟨cs, rfl, h⟩
    · rename_i h1 h2
      split at hagg
      · rename_i fs he; exact absurd he (h1 fs)
      · rename_i n e he; exact absurd he (h2 n e)
      · simp at hagg
  obtain ⟨fuel, hx⟩ := h
  rw [cellsOf_of hs] at hsz
  exact ⟨cs.toList, by simp, trod_flat f t ks fuel _ _ hf (by simpa using hsz) (by simpa [Value.cells] using hx)⟩
end
end Go.Proofs.Yteoikaedpgianaa
namespace Go.Proofs.Yteoikaedpgianaa
open Go.ChangeShapes Go.WideShapes Go.ChangeAt Go.RowKit Go.Deep
section
variable {H : Type} {enc : TypeId × Value → H} {P : Program} {w : World} {base : Nat} {spare : Nat → Bool} {held : Bool}

/-- the cells of n rows, each of so many cells, fit these kinds -/
def rows (w : World) (b off sz n : Nat) (ks : List (Option IntKind)) : Prop :=
  ∀ i, i < n → ∃ cs : List Value, fitsW ks cs ∧ ∀ j v, cs[j]? = some v → w.cell? ⟨b, off + i * sz + j, none⟩ = some v

/-- A slice of flat structs, arrays or integers, as an argument. -/
theorem open_rows {r : Reach} {b0 f : Nat} {t e : TypeId} {ks : List (Option IntKind)} {v : Value} {d : DataW H} {p : List MemPlace} (ht : P.underlying t = some (.slice e)) (hf : flatOf P f e = some ks) (hs : (P.info? e).map (·.size) = some ks.length) (hz : 0 < ks.length)
    (hv : Value.okWide P w r b0 t v) (h : DataW.Trod enc P w base spare held t v d p) :
    (v = .slice none 0 0) ∨ (∃ a c, v = .slice (some a) 0 c) ∨ ∃ (b off len cap : Nat), v = .slice (some ⟨b, off, none⟩) len cap ∧ 0 < len ∧ len ≤ cap ∧ cap ≤ maxLen ∧ rows w b off ks.length len ks := by
  obtain ⟨a0, len, cap, rfl⟩ := Go.WideShapes.okWide_slice ht hv
  obtain ⟨fuel, hx⟩ := h
  rcases open_slice ht hx with ⟨h0, _⟩ | ⟨a, len', cap', m, n, D, Pl, h1, hb, hl, hm, hmm, _, hall⟩
  · left; simpa [Value.cells] using h0
  · right
    simp [Value.cells] at h1
    obtain ⟨rfl, rfl, rfl⟩ := h1
    by_cases h0 : len = 0
    · subst h0; exact Or.inl ⟨_, _, rfl⟩
    right
    have hle : len ≤ m := by rw [hmm]; split <;> omega
    rw [cellsOf_of hs] at hall
    have key : ∀ i, i < len → ∃ cs : List Value, fitsW ks cs ∧ cs.length = ks.length ∧ ∀ j, j < ks.length → w.cell? ((a.add (i * ks.length)).add j) = cs[j]? := by
      intro i hi
      obtain ⟨cs, hc, ht⟩ := hall i (by omega)
      obtain ⟨_, hlen, hcell⟩ := World.cells?_some hc
      exact ⟨cs, trod_flat f e ks n cs _ hf hlen ht, hlen, hcell⟩
    obtain ⟨b, off, spot⟩ := a
    have hspot : spot = none := by
      obtain ⟨cs, _, hlen, hcell⟩ := key 0 (by omega)
      have h0 := hcell 0 (by omega)
      rw [List.getElem?_eq_getElem (by omega)] at h0
      simpa [Addr.add] using World.cell?_spot h0
    subst hspot
    refine ⟨b, off, len, cap, rfl, by omega, hl, hm, fun i hi => ?_⟩
    obtain ⟨cs, hfit, hlen, hcell⟩ := key i hi
    refine ⟨cs, hfit, fun j v hj => ?_⟩
    have hj' : j < ks.length := by rw [← hlen]; exact (List.getElem?_eq_some_iff.1 hj).1
    rw [← hj, ← hcell j hj', ← Go.WideShapes.add_plain, ← Go.WideShapes.add_plain]
end
end Go.Proofs.Yteoikaedpgianaa
namespace Go.Proofs.Yteoikaedpgianaa
open Go.ChangeShapes Go.WideShapes Go.ChangeAt Go.RowKit
section
variable {H : Type} {enc : TypeId × Value → H}

theorem trodAll_below {P : Program} (hl : laidOutB P = true) {W W' : World} (hb : Below W.heap.size W W') :
    ∀ {ts : List TypeId} {vs : List Value} {ds : List (DataW H)} {ps : List MemPlace}, (∀ t ∈ ts, P.readableRec t = true ∧ t < P.types.size) →
      DataW.TrodAll enc P W 0 (fun _ => true) true ts vs ds ps → (∀ x ∈ ps, x.block < W.heap.size) →
      DataW.TrodAll enc P W' 0 (fun b => decide (b < W.heap.size)) true ts vs ds ps
  | [], [], [], _, _, h, _ => h
  | t :: ts, v :: vs, d :: ds, ps, hr, h, hlt => by
    obtain ⟨p, q, h1, h2, rfl⟩ := h
    have hrt := hr t (by simp)
    exact ⟨p, q, Below.trod hl hrt.1 hrt.2 h1 hb (fun x hx => hlt x (by simp [hx])),
      trodAll_below hl hb (fun t ht => hr t (by simp [ht])) h2 (fun x hx => hlt x (by simp [hx])), rfl⟩
  | [], [], _ :: _, _, _, h, _ => h.elim
  | [], _ :: _, _, _, _, h, _ => h.elim
  | _ :: _, [], _, _, _, h, _ => h.elim
  | _ :: _, _ :: _, [], _, _, h, _ => h.elim

theorem trodAll_length {P : Program} {w : World} {base : Nat} {sp : Nat → Bool} {hd : Bool} : ∀ {ts : List TypeId} {vs : List Value} {ds : List (DataW H)} {ps : List MemPlace},
    DataW.TrodAll enc P w base sp hd ts vs ds ps → vs.length = ts.length ∧ ds.length = ts.length
  | [], [], [], _, _ => ⟨rfl, rfl⟩
  | _ :: ts, _ :: vs, _ :: ds, _, h => by
    obtain ⟨p, q, _, h2, _⟩ := h
    have := trodAll_length h2
    simp [this.1, this.2]
  | [], [], _ :: _, _, h => h.elim
  | [], _ :: _, _, _, h => h.elim
  | _ :: _, [], _, _, h => h.elim
  | _ :: _, _ :: _, [], _, h => h.elim

/-- A law that returns true and turns no old memory: its row's step, whatever the types of its arguments. -/
theorem law_lifted {C : Checked} {os : Os} {f : FuncId} {fn : Func} {s : ChangeSpec} {tb : TypeId} (own : ownKnob C.prog.godebug = none) (started : os.Started)
    (noInit : C.prog.inits.idxOf? f = none) (hfn : C.prog.funcs[f]? = some fn) (hvars : s.vars = [])
    (hs : ∀ (ds : List (DataW H)), ds.length = fn.params.size → (s.fn H ds).results = [.lit (.bool true)] ∧ (s.fn H ds).args = ds ∧ (s.fn H ds).vars = [])
    (hres : fn.resultTypes = #[tb]) (htb : C.prog.underlying tb = some .bool) (hl : laidOutB C.prog = true)
    (hread : ∀ t ∈ fn.params.toList, C.prog.readableRec t = true ∧ t < C.prog.types.size)
    (witness : ∃ (w : World) (tape : Tape) (i : Input), w.os = os ∧ (w.forCall tape i).Shaped C.prog ∧ i.vars = [] ∧ Input.okWide C.prog (w.forCall tape i) .any w.heap.size f i ∧
      s.pre6 enc C.prog fn [] false (w.forCall tape i).memory i.args ∧ ({} : Assume).holds C.prog (lone (Frame.enter C.prog f i.args .normal) [] (w.forCall tape i)))
    (walk : ∀ (W : World) (base : Nat) (args : Array Value) (ds : List (DataW H)) (p : List MemPlace),
      (∀ (j : Nat) t v, fn.params[j]? = some t → args[j]? = some v → Value.okWide C.prog W .any base t v) →
      DataW.TrodAll enc C.prog W 0 (fun _ => true) true fn.params.toList args.toList ds p →
      (∀ x ∈ p, x.block < W.heap.size) →
      (DataW.weightsEach C.prog fn.params.toList ds).all (· ≤ reachBytes) = true →
      Calls C.prog f args W fun e W' => e = .returned (.bool true) ∧ Below W.heap.size W W') :
    ReturnsInHanded {} C os f .any (s.pre6 enc C.prog fn [] false) (s.post enc C.prog fn false true false false) := by
  refine returnsInHanded_of_change_sized own started noInit hfn witness ?_
  intro W base args ds gs before hval hW _ hsz _
  have hW' := hW
  obtain ⟨p, q, hA, hV, rfl, hfz, hnd⟩ := hW
  rw [hvars] at hV
  obtain ⟨rfl, rfl⟩ : gs = [] ∧ q = [] := by
    cases gs with
    | nil => exact ⟨rfl, hV⟩
    | cons g gs => exact hV.elim
  have hvt : s.plain.varTypes C.prog = [] := by simp [DataSpec.varTypes, ChangeSpec.plain, hvars]
  rw [hvt] at hsz
  simp only [List.append_nil] at hsz hW'
  have hlt : ∀ x ∈ p, x.block < W.heap.size := fun x hx => by simpa using hW'.lt x hx
  refine (walk W base args ds p hval hA hlt hsz).mono fun e W' ⟨he, hb⟩ => ?_
  subst he
  have hlen : ds.length = fn.params.size := by have := (trodAll_length hA).2; simpa using this
  obtain ⟨h1, h2, h3⟩ := hs ds hlen
  refine ⟨_, rfl, ds, [], p, [], p, [], hW', ?_, ?_, ?_, hb.frame _, fun h => by cases h⟩
  · rw [List.append_nil, h1, hres]
    exact trodAll_cons_mk (shut_bool htb _) trodAll_mk0
  · rw [List.append_nil, h2]
    exact trodAll_below hl hb hread hA hlt
  · rw [List.append_nil, h3, hvars]
    rfl
end
end Go.Proofs.Yteoikaedpgianaa
namespace Go.Proofs.Yteoikaedpgianaa
open Go.ChangeShapes Go.WideShapes Go.ChangeAt Go.RowKit

theorem lawOwn : ownKnob Try.prog.godebug = none := by kernel_rfl
theorem lawLaid : laidOutB Try.prog = true := by kernel_rfl
theorem lawCells : ∀ {n : Nat} {cs : List Value}, fitsW (List.replicate n (some .i64)) cs → ∃ zs : List Int, zs.length = n ∧ cs = zs.map (Value.int .i64)
  | 0, cs, h => ⟨[], rfl, fits_nil h⟩
  | n + 1, cs, h => by
    obtain ⟨z, vs, rfl, _, h2⟩ := fits_int (show fitsW (some .i64 :: List.replicate n (some .i64)) cs from h)
    obtain ⟨zs, hl, rfl⟩ := lawCells h2
    exact ⟨z :: zs, by simp [hl], rfl⟩
theorem lawFlat55 : flatOf Try.prog 10 55 = some (List.replicate 10 (some .i64)) := by kernel_rfl
theorem lawFlat61 : flatOf Try.prog 10 61 = some (List.replicate 4 (some .i64)) := by kernel_rfl
theorem lawSize55 : (Try.prog.info? 55).map (·.size) = some 10 := by kernel_rfl
theorem lawSize61 : (Try.prog.info? 61).map (·.size) = some 4 := by kernel_rfl
end Go.Proofs.Yteoikaedpgianaa

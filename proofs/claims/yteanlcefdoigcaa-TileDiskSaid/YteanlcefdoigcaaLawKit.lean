/- The step from a law's walk to its row: the law returns true and turns no old memory, whatever the types of its arguments. What every law's step to its row needs: flat arguments of integers, closed facts of the program. -/
import GoSem.Claim
import GoSem.ClaimJoined
import Derived.WalkKit
import Derived.ProofKit
import Derived.SizedLaws
import Derived.Carry
import Derived.OpenShut
import Derived.Test.YteanlcefdoigcaaArgs
import Derived.Test.YteanlcefdoigcaaRows
import Derived.Test.YteanlcefdoigcaaBase
namespace Go.Proofs.Yteanlcefdoigcaa
open Go.ChangeShapes Go.WideShapes Go.ChangeAt Go.RowKit
section
variable {H : Type} {enc : TypeId × Value → H}

theorem trodAll_below {P : Program} (hl : laidOutB P = true) {W W' : World} (hb : Below W.heap.size W W') :
    ∀ {ts : List TypeId} {vs : List Value} {ds : List (DataW H)} {ps : List MemPlace}, (∀ t ∈ ts, P.readableRec t = true ∧ t < P.types.size) →
      DataW.TrodAll enc P W 0 (fun _ => true) true ts vs ds ps → (∀ x ∈ ps, x.block < W.heap.size) →
      DataW.TrodAll enc P W' 0 (fun b => decide (b < W.heap.size)) true ts vs ds ps
  | [], [], [], _, _, h, _ => h
  | t :: ts, v :: vs, d :: ds, ps, hr, h, hlt => by
    obtain ⟨p, q, h1, h2, rfl⟩ := h
    have hrt := hr t (by simp)
    exact ⟨p, q, Below.trod hl hrt.1 hrt.2 h1 hb (fun x hx => hlt x (by simp [hx])),
      trodAll_below hl hb (fun t ht => hr t (by simp [ht])) h2 (fun x hx => hlt x (by simp [hx])), rfl⟩
  | [], [], _ :: _, _, _, h, _ => h.elim
  | [], _ :: _, _, _, _, h, _ => h.elim
  | _ :: _, [], _, _, _, h, _ => h.elim
  | _ :: _, _ :: _, [], _, _, h, _ => h.elim

theorem trodAll_length {P : Program} {w : World} {base : Nat} {sp : Nat → Bool} {hd : Bool} : ∀ {ts : List TypeId} {vs : List Value} {ds : List (DataW H)} {ps : List MemPlace},
    DataW.TrodAll enc P w base sp hd ts vs ds ps → vs.length = ts.length ∧ ds.length = ts.length
  | [], [], [], _, _ => ⟨rfl, rfl⟩
  | _ :: ts, _ :: vs, _ :: ds, _, h => by
    obtain ⟨p, q, _, h2, _⟩ := h
    have := trodAll_length h2
    simp [this.1, this.2]
  | [], [], _ :: _, _, h => h.elim
  | [], _ :: _, _, _, h => h.elim
  | _ :: _, [], _, _, h => h.elim
  | _ :: _, _ :: _, [], _, h => h.elim

/-- A law that returns true and turns no old memory: its row's step, whatever the types of its arguments. -/
theorem law_lifted {C : Checked} {os : Os} {f : FuncId} {fn : Func} {s : ChangeSpec} {tb : TypeId} (own : ownKnob C.prog.godebug = none) (started : os.Started)
    (noInit : C.prog.inits.idxOf? f = none) (hfn : C.prog.funcs[f]? = some fn) (hvars : s.vars = [])
    (hs : ∀ (ds : List (DataW H)), ds.length = fn.params.size → (s.fn H ds).results = [.lit (.bool true)] ∧ (s.fn H ds).args = ds ∧ (s.fn H ds).vars = [])
    (hres : fn.resultTypes = #[tb]) (htb : C.prog.underlying tb = some .bool) (hl : laidOutB C.prog = true)
    (hread : ∀ t ∈ fn.params.toList, C.prog.readableRec t = true ∧ t < C.prog.types.size)
    (witness : ∃ (w : World) (tape : Tape) (i : Input), w.os = os ∧ (w.forCall tape i).Shaped C.prog ∧ i.vars = [] ∧ Input.okWide C.prog (w.forCall tape i) .any w.heap.size f i ∧
      s.pre6 enc C.prog fn [] false (w.forCall tape i).memory i.args ∧ ({} : Assume).holds C.prog (lone (Frame.enter C.prog f i.args .normal) [] (w.forCall tape i)))
    (walk : ∀ (W : World) (base : Nat) (args : Array Value) (ds : List (DataW H)) (p : List MemPlace),
      (∀ (j : Nat) t v, fn.params[j]? = some t → args[j]? = some v → Value.okWide C.prog W .any base t v) →
      DataW.TrodAll enc C.prog W 0 (fun _ => true) true fn.params.toList args.toList ds p →
      (∀ x ∈ p, x.block < W.heap.size) →
      (DataW.weightsEach C.prog fn.params.toList ds).all (· ≤ reachBytes) = true →
      Calls C.prog f args W fun e W' => e = .returned (.bool true) ∧ Below W.heap.size W W') :
    ReturnsInHanded {} C os f .any (s.pre6 enc C.prog fn [] false) (s.post enc C.prog fn false true false false) := by
  refine returnsInHanded_of_change_sized own started noInit hfn witness ?_
  intro W base args ds gs before hval hW _ hsz _
  have hW' := hW
  obtain ⟨p, q, hA, hV, rfl, hfz, hnd⟩ := hW
  rw [hvars] at hV
  obtain ⟨rfl, rfl⟩ : gs = [] ∧ q = [] := by
    cases gs with
    | nil => exact ⟨rfl, hV⟩
    | cons g gs => exact hV.elim
  have hvt : s.plain.varTypes C.prog = [] := by simp [DataSpec.varTypes, ChangeSpec.plain, hvars]
  rw [hvt] at hsz
  simp only [List.append_nil] at hsz hW'
  have hlt : ∀ x ∈ p, x.block < W.heap.size := fun x hx => by simpa using hW'.lt x hx
  refine (walk W base args ds p hval hA hlt hsz).mono fun e W' ⟨he, hb⟩ => ?_
  subst he
  have hlen : ds.length = fn.params.size := by have := (trodAll_length hA).2; simpa using this
  obtain ⟨h1, h2, h3⟩ := hs ds hlen
  refine ⟨_, rfl, ds, [], p, [], p, [], hW', ?_, ?_, ?_, hb.frame _, fun h => by cases h⟩
  · rw [List.append_nil, h1, hres]
    exact trodAll_cons_mk (shut_bool htb _) trodAll_mk0
  · rw [List.append_nil, h2]
    exact trodAll_below hl hb hread hA hlt
  · rw [List.append_nil, h3, hvars]
    rfl
end
end Go.Proofs.Yteanlcefdoigcaa
namespace Go.Proofs.Yteanlcefdoigcaa
open Go.ChangeShapes Go.WideShapes Go.ChangeAt Go.RowKit

theorem lawOwn : ownKnob Try.prog.godebug = none := by kernel_rfl
theorem lawLaid : laidOutB Try.prog = true := by kernel_rfl
theorem lawCells : ∀ {n : Nat} {cs : List Value}, fitsW (List.replicate n (some .i64)) cs → ∃ zs : List Int, zs.length = n ∧ cs = zs.map (Value.int .i64)
  | 0, cs, h => ⟨[], rfl, fits_nil h⟩
  | n + 1, cs, h => by
    obtain ⟨z, vs, rfl, _, h2⟩ := fits_int (show fitsW (some .i64 :: List.replicate n (some .i64)) cs from h)
    obtain ⟨zs, hl, rfl⟩ := lawCells h2
    exact ⟨z :: zs, by simp [hl], rfl⟩
theorem lawFlat3 : flatOf Try.prog 10 3 = some (List.replicate 1 (some .i64)) := by kernel_rfl
theorem lawFlat36 : flatOf Try.prog 10 36 = some (List.replicate 9 (some .i64)) := by kernel_rfl
theorem lawFlat39 : flatOf Try.prog 10 39 = some (List.replicate 4 (some .i64)) := by kernel_rfl
theorem lawSize36 : (Try.prog.info? 36).map (·.size) = some 9 := by kernel_rfl
theorem lawSize39 : (Try.prog.info? 39).map (·.size) = some 4 := by kernel_rfl
end Go.Proofs.Yteanlcefdoigcaa

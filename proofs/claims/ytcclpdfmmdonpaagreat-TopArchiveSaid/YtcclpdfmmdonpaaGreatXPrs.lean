/- The functions that read the bodies of records: the table of them (77), and each of them (98, 101, 102). -/
import Derived.Test.YtcclpdfmmdonpaaGreatXNxt
import Derived.Test.YtcclpdfmmdonpaaGreatXArcV
namespace Go.Proofs.YtcclpdfmmdonpaaGreat
open Go.RowKit Go.WideShapes Go.ChangeAt Go.Maps Go.Sort
theorem law5 : Keyed Tryz.prog 5 := int_keyed Tryz.underlying5
theorem wpList_insertZ {P : Program} {W : World} {k : TypeId} {b n s : Nat} {get : Lit -> Option Value} {e : TypeId} {ops : Array Oper} {rest : List Oper} {o : Oper} {a : Act} {Q : Exit -> Act -> World -> Prop} (hg : o.guard = none) (m x v : Operand) (t : TypeId) (hop : o.op = Op.insert t m x v)
    (K : Keyed P k) (ht : P.underlying t = some (.map k e)) (hm : a.eval m = .map (some b)) (h : MapZ P W k b n s get) (hn : n < maxLen) (key val : Value) (kl : Lit) (hx : a.eval x = key) (hv : a.eval v = val) (hkey : keyOf P k key = some kl) (hnew : get kl = none)
    (hK : ∀ w', MapZ P w' k b (n + 1) (s + 1) (putG get kl val) -> W.grownBy w' (some b) -> wpList P ops Q rest (a.put o.dst undef) w') : wpList P ops Q (o :: rest) a W := by
  refine wpList_plain hg fun K' hK' => ?_
  obtain ⟨w', hrun, r1, r2⟩ := h.put K ht hn (val := val) hkey hnew; unfold Oper.wp; simp [execOp, hop, hm, hx, hv, hrun, Result.andThen]; exact hK' _ _ (hK w' r1 r2)
theorem made138 (W : World) : (Instr.makeMap 138 none).run Tryz.prog W = .ok (.map (some W.heap.size)) (W.alloc (.map #[] 0)) := by
  simp [Instr.makeMap, newObj]; rfl
def fnV (n : Nat) : Value := .func (.func n) #[] #[]
def parsG : Lit -> Option Value := putG (putG (putG (fun _ => none) (.int .u8 1) (fnV 98)) (.int .u8 2) (fnV 101)) (.int .u8 3) (fnV 102)
theorem key8_1 : keyOf Tryz.prog 5 (.int .u8 1) = some (.int .u8 1) := by kernel_rfl
theorem key8_2 : keyOf Tryz.prog 5 (.int .u8 2) = some (.int .u8 2) := by kernel_rfl
theorem key8_3 : keyOf Tryz.prog 5 (.int .u8 3) = some (.int .u8 3) := by kernel_rfl
theorem parsG_at : parsG (.int .u8 1) = some (fnV 98) /\ parsG (.int .u8 2) = some (fnV 101) /\ parsG (.int .u8 3) = some (fnV 102) := ⟨by kernel_rfl, by kernel_rfl, by kernel_rfl⟩
set_option maxRecDepth 100000 in
theorem parsers_any (w : World) :
    Calls Tryz.prog 77 #[] w fun r w' => (∃ b, r = .returned (.map (some b)) /\ w.heap.size <= b /\ MapZ Tryz.prog w' 5 b 3 3 parsG) /\ Below w.heap.size w w' := by
  have HM := hid made138; have HM0 := hid (MapZ.made (P := Tryz.prog) (k := 5) w); have HB0 := hid ((Below.refl w.heap.size w).alloc (Nat.le_refl _) (.map #[] 0)); go_enter Tryz.func77, Tryz.ntmps77; have hm := HM.out
  go_wp2_with (first
    | (refine wpList_insertZ rfl (.tmp 1) (.const (.int .u8 1)) (.func 98) 138 rfl law5 Tryz.underlying138 rfl HM0.out (by unfold maxLen; omega) (.int .u8 1) (fnV 98) _ rfl rfl key8_1 rfl ?_
       intro w1 hz1 hg1; have HM1 := hid hz1; have HB1 := hid (HB0.out.grown hg1 (by simp) (fun k e => by have e' : w.heap.size = k := Option.some.inj e; omega))
       clear hz1 hg1)
    | (refine wpList_insertZ rfl (.tmp 1) (.const (.int .u8 2)) (.func 101) 138 rfl law5 Tryz.underlying138 rfl HM1.out (by unfold maxLen; omega) (.int .u8 2) (fnV 101) _ rfl rfl key8_2 rfl ?_
       intro w2 hz2 hg2; have HM2 := hid hz2; have HB2 := hid (HB1.out.grown hg2 HB1.out.size (fun k e => by have e' : w.heap.size = k := Option.some.inj e; omega))
       clear hz2 hg2)
    | (refine wpList_insertZ rfl (.tmp 1) (.const (.int .u8 3)) (.func 102) 138 rfl law5 Tryz.underlying138 rfl HM2.out (by unfold maxLen; omega) (.int .u8 3) (fnV 102) _ rfl rfl key8_3 rfl ?_
       intro w3 hz3 hg3; have HM3 := hid hz3; have HB3 := hid (HB2.out.grown hg3 HB2.out.size (fun k e => by have e' : w.heap.size = k := Option.some.inj e; omega))
       clear hz3 hg3))
  go_ret; exact ⟨⟨_, rfl, Nat.le_refl _, HM3.out⟩, HB3.out⟩
def logRow (l : Lg) (bv sv : Value) (tn : Bool) : Array Value := #[.int .i64 l.age, .int .i64 l.cap, .int .i64 l.first, bv, sv, .bool l.sealed, .bool tn]
theorem Fr.only {rb : Nat} {w w' : World} (h : Only rb w.heap.size w w') : Fr (fun k => k = rb) w w' := ⟨h.os, h.tape, h.output, h.size, fun k hk hn => h.block k hk hn⟩
theorem encs_cons {α : Type} (f : α -> List Nat) (z : α) (zs : List α) : encs f (z :: zs) = f z ++ encs f zs := by simp [encs]
theorem encs_nil {α : Type} (f : α -> List Nat) : encs f [] = [] := rfl
theorem points_back {P : List Pt} (h : PtsOk P) (rest : List Nat) : pointsX (stL (encs encU [(P.length : Int)] ++ encPs 0 P ++ rest)) = (P, stL rest) := by
  have hl := h.len; have h1 : nextS false (stL (encU (P.length : Int) ++ (encPs 0 P ++ rest))) = ((P.length : Int), stL (encPs 0 P ++ rest)) := next_back _ _ (by omega); rw [encs_cons, encs_nil, List.append_nil, List.append_assoc]; unfold pointsX; rw [h1]; simp only; rw [if_neg (by omega), Int.toNat_natCast]; exact ptsX_back 0 P (numF_of 0 P h.nums) rest
theorem base_back {a c f : Int} {P : List Pt} (h : (Rcd.base a c f P).Ok) : ∃ s1 s2 s3, nextS false (stL (Rcd.base a c f P).data) = (a, s1) /\ nextS false s1 = (c, s2) /\ nextS false s2 = (f, s3) /\ pointsX s3 = (P, stL []) := by
  refine ⟨stL (encU c ++ (encU f ++ (encs encU [(P.length : Int)] ++ encPs 0 P))), stL (encU f ++ (encs encU [(P.length : Int)] ++ encPs 0 P)), stL (encs encU [(P.length : Int)] ++ encPs 0 P), ?_, next_back c _ h.2.1, next_back f _ h.2.2.1, ?_⟩
  · have : (Rcd.base a c f P).data = encU a ++ (encU c ++ (encU f ++ (encs encU [(P.length : Int)] ++ encPs 0 P))) := by
      simp [Rcd.data, encs_cons, encs_nil]
    rw [this]; exact next_back a _ h.1
  · have := points_back h.2.2.2 []; rwa [List.append_nil] at this
set_option maxRecDepth 100000 in
theorem take3_any (lb : Nat) (l : Lg) (bv sv rv : Value) (tn : Bool) (w : World) (h : w.heap[lb]? = some (.cells (logRow l bv sv tn) 71)) :
    Calls Tryz.prog 102 #[.pointer (some ⟨lb, 0, none⟩), rv] w fun r w' => r = .returned (.tuple #[]) /\ w'.heap[lb]? = some (.cells (logRow (l.next .stamp) bv sv tn) 71) /\ Fr (fun k => k = lb) w w' := by
  have H := hid h; have z0 : w.frozen? ⟨lb, 5, none⟩ = false := by simp [World.frozen?, h]
  have c0 : w.cell? ⟨lb, 5, none⟩ = some (.bool l.sealed) := cell_row h; clear h; go_enter Tryz.func102, Tryz.ntmps102; go_wp2_with fail; go_end0; exact ⟨rfl, heap_setCell H.out _, Fr.set rfl⟩
set_option maxRecDepth 100000 in
theorem take1_any (lb rb b : Nat) (l : Lg) (bv sv : Value) (tn : Bool) (a c f : Int) (P : List Pt) (w : World) (h : w.heap[lb]? = some (.cells (logRow l bv sv tn) 71)) (hok : (Rcd.base a c f P).Ok) (hr : RdAt w rb 146 b (stL (Rcd.base a c f P).data)) (hne : lb ≠ rb) (hnb : b ≠ lb) :
    Calls Tryz.prog 98 #[.pointer (some ⟨lb, 0, none⟩), .pointer (some ⟨rb, 0, none⟩)] w fun r w' => r = .returned (.tuple #[]) /\ ∃ bv', w'.heap[lb]? = some (.cells (logRow (l.next (.base a c f P)) bv' sv tn) 71) /\ OwnP w' w.heap.size bv' P /\ RdAt w' rb 146 b (stL []) /\ Fr (fun k => k = lb ∨ k = rb) w w' := by
  obtain ⟨s1, s2, s3, h1, h2, h3, h4⟩ := base_back hok; have KL := hid h; have RD := hid hr; have HNE := hid hne; have HNB := hid hnb; have H1 := hid h1; have H2 := hid h2; have H3 := hid h3; have H4 := hid h4; have FR := hid (Fr.refl (fun k => k = lb ∨ k = rb) w); clear h hr hne hnb hok h1 h2 h3 h4; unfold logRow at KL; go_enter Tryz.func98, Tryz.ntmps98; go_wp2_with fail; refine (number_at _ H1.out RD.out).mono ?_; rintro r w1 ⟨rfl, hrd, ho⟩; have KLw1 := hid (ho.heap HNE.out KL.out); have z0 : w1.frozen? ⟨lb, 0, none⟩ = false := by have hh := KLw1.out; simp [World.frozen?, hh]
  have c0 := cell_row (j := 0) KLw1.out; have KLw2 := hid (heap_setCell KLw1.out (j := 0) (.int .i64 a)); have RDw2 := hid (hrd.set (j := 0) HNE.out.symm HNB.out (.int .i64 a)); have FRw2 := hid ((FR.out.trans (Fr.only ho) (fun k _ hk => .inr hk)).trans (G := fun k => k = lb) (Fr.set (j := 0) (v := .int .i64 a) rfl) (fun k _ hk => .inl hk)); clear hrd ho KLw1; go_wp2_with fail; refine (number_at _ H2.out RDw2.out).mono ?_; rintro r w3 ⟨rfl, hrd, ho⟩; have KLw3 := hid (ho.heap HNE.out KLw2.out); have z0 : w3.frozen? ⟨lb, 1, none⟩ = false := by have hh := KLw3.out; simp [World.frozen?, hh]
  have c0 := cell_row (j := 1) KLw3.out; have KLw4 := hid (heap_setCell KLw3.out (j := 1) (.int .i64 c)); have RDw4 := hid (hrd.set (j := 1) HNE.out.symm HNB.out (.int .i64 c)); have FRw4 := hid ((FRw2.out.trans (Fr.only ho) (fun k _ hk => .inr hk)).trans (G := fun k => k = lb) (Fr.set (j := 1) (v := .int .i64 c) rfl) (fun k _ hk => .inl hk)); clear hrd ho KLw3; go_wp2_with fail; refine (number_at _ H3.out RDw4.out).mono ?_; rintro r w5 ⟨rfl, hrd, ho⟩; have KLw5 := hid (ho.heap HNE.out KLw4.out); have z0 : w5.frozen? ⟨lb, 2, none⟩ = false := by have hh := KLw5.out; simp [World.frozen?, hh]
  have c0 := cell_row (j := 2) KLw5.out; have KLw6 := hid (heap_setCell KLw5.out (j := 2) (.int .i64 f)); have RDw6 := hid (hrd.set (j := 2) HNE.out.symm HNB.out (.int .i64 f)); have FRw6 := hid ((FRw4.out.trans (Fr.only ho) (fun k _ hk => .inr hk)).trans (G := fun k => k = lb) (Fr.set (j := 2) (v := .int .i64 f) rfl) (fun k _ hk => .inl hk)); clear hrd ho KLw5; go_wp2_with fail; refine (points_any rb b s3 _ RDw6.out).mono ?_; rintro r w7 ⟨⟨pv, rfl, hpv, _⟩, hrd, ho⟩; have KL7 := hid (ho.heap HNE.out KLw6.out); have z0 : w7.frozen? ⟨lb, 3, none⟩ = false := by have hh := KL7.out; simp [World.frozen?, hh]
  have c0 := cell_row (j := 3) KL7.out; rw [H4.out] at hpv hrd; obtain ⟨pa, pc, rfl⟩ := OwnP.slice hpv; generalize P.length = pn at *; have HPV := hid (OwnR.mono hpv FRw6.out.size : OwnP w7 w.heap.size (.slice pa pn pc) P); have HRD := hid (hrd.set (j := 3) HNE.out.symm HNB.out (.slice pa pn pc)); have KL8 := hid (heap_setCell KL7.out (j := 3) (.slice pa pn pc)); have FR8 := hid ((FRw6.out.trans (Fr.only ho) (fun k _ hk => .inr hk)).trans (G := fun k => k = lb) (Fr.set (j := 3) (v := .slice pa pn pc) rfl) (fun k _ hk => .inl hk)); have HLT := hid (show lb < w.heap.size from (Array.getElem?_eq_some_iff.1 KL.out).1); clear hpv hrd ho KL7 KLw6 KLw4 KLw2 RDw6 RDw4 RDw2; go_wp2_with fail; go_end0; refine ⟨rfl, _, KL8.out, ?_, HRD.out, FR8.out⟩; exact OwnR.heap HPV.out (fun g x hx hg => heap_set_other hx (by have := HLT.out; omega) _)
end Go.Proofs.YtcclpdfmmdonpaaGreat

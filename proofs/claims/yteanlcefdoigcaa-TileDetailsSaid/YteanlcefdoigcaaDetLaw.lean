/- TileDetails: the details of a level and the keys of the tiles that differ are the document's, with the same errors, for any two lists of at most 30 tiles of at most 40 points each; for others the law answers by itself. Every input, no condition. -/
import Derived.Test.YteanlcefdoigcaaDetX
import Derived.Test.YteanlcefdoigcaaChgX
import Derived.Test.YteanlcefdoigcaaRChg
import Derived.Test.YteanlcefdoigcaaLawKit
namespace Go.Proofs.Yteanlcefdoigcaa
open Go.ChangeShapes Go.WideShapes Go.ChangeAt Go.RowKit Go.Maps Go.Sort

theorem OwnR.len {W : World} {base t sz : Nat} {v : Value} {l : List (List Value)} (h : OwnR W base t sz v l) : l.length ≤ maxLen := by
  by_cases h0 : 0 < l.length
  · obtain ⟨g, cap, cur, _, _, _, _, h4, h5, _⟩ := OwnR.rows h h0
    omega
  · unfold maxLen; omega
section
variable {H : Type} {enc : TypeId × Value → H} {w : World} {base : Nat} {spare : Nat → Bool} {held : Bool}
theorem open_cap {P : Program} {r : Reach} {b0 : Nat} {t e : TypeId} {v : Value} {d : DataW H} {p : List MemPlace} (ht : P.underlying t = some (.slice e)) (hv : Value.okWide P w r b0 t v) (h : DataW.Trod enc P w base spare held t v d p) : CapV v := by
  obtain ⟨a0, len, cap, rfl⟩ := Go.WideShapes.okWide_slice ht hv
  obtain ⟨fuel, hx⟩ := h
  rcases Go.Deep.open_slice ht hx with ⟨h0, _⟩ | ⟨a, len', cap', m, n, D, Pl, h1, hb, hl, hm, hmm, _, hall⟩
  · simp [Value.cells] at h0
    obtain ⟨rfl, rfl, rfl⟩ := h0
    exact CapV.slice (Nat.le_refl _)
  · simp [Value.cells] at h1
    obtain ⟨rfl, rfl, rfl⟩ := h1
    exact CapV.slice (by omega)
end
def chgErr (A B : List Tl) : Int := if TlsOk A ∧ TlsOk B then 0 else 81
structure ChgRes (A B : List Tl) (e : Int) (K : List Ky) : Prop where
  err : e = chgErr A B
  none : e ≠ 0 → K = []
  some : e = 0 → IsChg A B K
theorem ChgRes.same {A B : List Tl} {e e' : Int} {K K' : List Ky} (h : ChgRes A B e K) (h' : ChgRes A B e' K') : e = e' ∧ K = K' := by
  obtain rfl : e = e' := h.err.trans h'.err.symm
  refine ⟨rfl, ?_⟩
  by_cases h0 : e = 0
  · exact (h.some h0).unique (h'.some h0)
  · rw [h.none h0, h'.none h0]
theorem ChgRes.bad {A B : List Tl} (h : ¬ (TlsOk A ∧ TlsOk B)) : ChgRes A B 81 [] := ⟨by unfold chgErr; rw [if_neg h], fun _ => rfl, fun h0 => absurd h0 (by decide)⟩
theorem ChgRes.good {A B : List Tl} {K : List Ky} (h : TlsOk A) (h2 : TlsOk B) (hk : IsChg A B K) : ChgRes A B 0 K := ⟨by unfold chgErr; rw [if_pos ⟨h, h2⟩], fun h0 => absurd rfl h0, fun _ => hk⟩
set_option maxRecDepth 100000 in
theorem xChanged_any (va vb : Value) (A B : List Te) (w : World) (ha : TilesV w va A) (hb : TilesV w vb B) (hca : CapV va) (hcb : CapV vb) (hla : A.length ≤ 1000000) (hlb : B.length ≤ 1000000) (hpa : ∀ e ∈ A, e.pts.length ≤ maxLen) (hpb : ∀ e ∈ B, e.pts.length ≤ maxLen) :
    Calls Try.prog 42 #[va, vb] w fun r w' => (∃ v e K, r = .returned (.tuple #[v, .int .i64 e]) ∧ OwnK w' w.heap.size v K ∧ ChgRes (A.map Te.tl) (B.map Te.tl) e K) ∧ Below w.heap.size w w' := by
  obtain ⟨ga, hga⟩ : ∃ ga, ga = decide (TlsOk (A.map Te.tl)) := ⟨_, rfl⟩
  obtain ⟨gb, hgb⟩ : ∃ gb, gb = decide (TlsOk (B.map Te.tl)) := ⟨_, rfl⟩
  have HCA := hid (fun W (h : TilesV W va A) => show Calls Try.prog 59 #[va] W fun r w' => r = .returned (.bool ga) ∧ Below W.heap.size W w' from hga ▸ xtls_any va A W h hla hpa)
  have HCB := hid (fun W (h : TilesV W vb B) => show Calls Try.prog 59 #[vb] W fun r w' => r = .returned (.bool gb) ∧ Below W.heap.size W w' from hgb ▸ xtls_any vb B W h hlb hpb)
  have HAT := hid (fun h : ga = true => of_decide_eq_true (show decide (TlsOk (A.map Te.tl)) = true from hga ▸ h))
  have HAF := hid (fun h : ga = false => of_decide_eq_false (show decide (TlsOk (A.map Te.tl)) = false from hga ▸ h))
  have HBT := hid (fun h : gb = true => of_decide_eq_true (show decide (TlsOk (B.map Te.tl)) = true from hgb ▸ h))
  have HBF := hid (fun h : gb = false => of_decide_eq_false (show decide (TlsOk (B.map Te.tl)) = false from hgb ▸ h))
  clear hga hgb
  have HA := hid ha
  have HB := hid hb
  clear ha hb
  go_enter Try.func42, Try.ntmps42
  go_wp2_with fail
  refine (HCA.out w HA.out).mono ?_
  rintro r w1 ⟨rfl, hb1⟩
  have HB1 := hid hb1
  have HA1 := hid (HA.out.still hb1)
  have HBV1 := hid (HB.out.still hb1)
  clear hb1 HCA
  cases ga
  · have HR := hid (ChgRes.bad (B := B.map Te.tl) (fun h => HAF.out rfl h.1))
    clear HCB HAT HAF HBT HBF
    go_wp2_with fail
    go_ret2
    exact ⟨⟨_, _, [], rfl, OwnK.nil _ _, HR.out⟩, HB1.out⟩
  have HAK := hid (HAT.out rfl)
  clear HAT HAF
  go_wp2_with fail
  refine (HCB.out w1 HBV1.out).mono ?_
  rintro r w2 ⟨rfl, hb2⟩
  have HB2 := hid (HB1.out.trans (hb2.mono HB1.out.size))
  have HA2 := hid (HA1.out.still hb2)
  have HBV2 := hid (HBV1.out.still hb2)
  clear hb2 HCB
  cases gb
  · have HR := hid (ChgRes.bad (A := A.map Te.tl) (fun h => HBF.out rfl h.2))
    clear HBT HBF
    go_wp2_with fail
    go_ret2
    exact ⟨⟨_, _, [], rfl, OwnK.nil _ _, HR.out⟩, HB2.out⟩
  have HBK := hid (HBT.out rfl)
  clear HBT HBF
  go_wp2_with fail
  refine (changed_any va vb A B w2 HA2.out HBV2.out hca hcb HAK.out.order HBK.out.order (fun u hu => (HAK.out.all u hu).small) (fun u hu => (HBK.out.all u hu).small) hla hlb hpa).mono ?_
  rintro r w3 ⟨⟨v, K, rfl, hk, hc⟩, hb3⟩
  have HB3 := hid (HB2.out.trans (hb3.mono HB2.out.size))
  have HK := hid (show OwnK w3 w.heap.size v K from OwnR.mono hk HB2.out.size)
  have HR := hid (ChgRes.good HAK.out HBK.out hc)
  clear hk hc hb3
  go_wp2_with fail
  go_ret2
  exact ⟨⟨_, _, K, rfl, HK.out, HR.out⟩, HB3.out⟩
set_option maxRecDepth 100000 in
theorem rChanged_any (va vb : Value) (A B : List Te) (w : World) (ha : TilesV w va A) (hb : TilesV w vb B) (_hca : CapV va) (_hcb : CapV vb) (hla : A.length ≤ 1000000) (hlb : B.length ≤ 1000000) (hpa : ∀ e ∈ A, e.pts.length ≤ maxLen) (hpb : ∀ e ∈ B, e.pts.length ≤ maxLen) :
    Calls Try.prog 43 #[va, vb] w fun r w' => (∃ v e K, r = .returned (.tuple #[v, .int .i64 e]) ∧ OwnK w' w.heap.size v K ∧ ChgRes (A.map Te.tl) (B.map Te.tl) e K) ∧ Below w.heap.size w w' := by
  obtain ⟨ga, hga⟩ : ∃ ga, ga = decide (TlsOk (A.map Te.tl)) := ⟨_, rfl⟩
  obtain ⟨gb, hgb⟩ : ∃ gb, gb = decide (TlsOk (B.map Te.tl)) := ⟨_, rfl⟩
  have HCA := hid (fun W (h : TilesV W va A) => show Calls Try.prog 25 #[va] W fun r w' => r = .returned (.bool ga) ∧ Below W.heap.size W w' from hga ▸ rtls_any va A W h hla hpa)
  have HCB := hid (fun W (h : TilesV W vb B) => show Calls Try.prog 25 #[vb] W fun r w' => r = .returned (.bool gb) ∧ Below W.heap.size W w' from hgb ▸ rtls_any vb B W h hlb hpb)
  have HAT := hid (fun h : ga = true => of_decide_eq_true (show decide (TlsOk (A.map Te.tl)) = true from hga ▸ h))
  have HAF := hid (fun h : ga = false => of_decide_eq_false (show decide (TlsOk (A.map Te.tl)) = false from hga ▸ h))
  have HBT := hid (fun h : gb = true => of_decide_eq_true (show decide (TlsOk (B.map Te.tl)) = true from hgb ▸ h))
  have HBF := hid (fun h : gb = false => of_decide_eq_false (show decide (TlsOk (B.map Te.tl)) = false from hgb ▸ h))
  clear hga hgb
  have HA := hid ha
  have HB := hid hb
  clear ha hb
  go_enter Try.func43, Try.ntmps43
  go_wp2_with fail
  refine (HCA.out w HA.out).mono ?_
  rintro r w1 ⟨rfl, hb1⟩
  have HB1 := hid hb1
  have HA1 := hid (HA.out.still hb1)
  have HBV1 := hid (HB.out.still hb1)
  clear hb1 HCA
  cases ga
  · have HR := hid (ChgRes.bad (B := B.map Te.tl) (fun h => HAF.out rfl h.1))
    clear HCB HAT HAF HBT HBF
    go_wp2_with fail
    go_ret2
    exact ⟨⟨_, _, [], rfl, OwnK.nil _ _, HR.out⟩, HB1.out⟩
  have HAK := hid (HAT.out rfl)
  clear HAT HAF
  go_wp2_with fail
  refine (HCB.out w1 HBV1.out).mono ?_
  rintro r w2 ⟨rfl, hb2⟩
  have HB2 := hid (HB1.out.trans (hb2.mono HB1.out.size))
  have HA2 := hid (HA1.out.still hb2)
  have HBV2 := hid (HBV1.out.still hb2)
  clear hb2 HCB
  cases gb
  · have HR := hid (ChgRes.bad (A := A.map Te.tl) (fun h => HBF.out rfl h.2))
    clear HBT HBF
    go_wp2_with fail
    go_ret2
    exact ⟨⟨_, _, [], rfl, OwnK.nil _ _, HR.out⟩, HB2.out⟩
  have HBK := hid (HBT.out rfl)
  clear HBT HBF
  go_wp2_with fail
  refine (rchanged_any va vb A B w2 HA2.out HBV2.out HAK.out.order hla hlb hpa hpb).mono ?_
  rintro r w3 ⟨⟨v, K, rfl, hk, hc⟩, hb3⟩
  have HB3 := hid (HB2.out.trans (hb3.mono HB2.out.size))
  have HK := hid (show OwnK w3 w.heap.size v K from OwnR.mono hk HB2.out.size)
  have HR := hid (ChgRes.good HAK.out HBK.out hc)
  clear hk hc hb3
  go_wp2_with fail
  go_ret2
  exact ⟨⟨_, _, K, rfl, HK.out, HR.out⟩, HB3.out⟩
/-- too wide for the statement -/
def WideL (E : List Te) : Prop := 30 < E.length ∨ ∃ e ∈ E, 40 < e.pts.length
instance (E : List Te) : Decidable (WideL E) := by unfold WideL; exact inferInstance
set_option maxRecDepth 100000 in
set_option maxHeartbeats 1600000 in
theorem wide_any (va : Value) (E : List Te) (w : World) (ha : TilesV w va E) :
    Calls Try.prog 40 #[va] w fun r w' => r = .returned (.bool (decide (WideL E))) ∧ Below w.heap.size w w' := by
  obtain ⟨z, hz⟩ : ∃ z, z = decide (WideL E) := ⟨_, rfl⟩
  rw [← hz]
  have HYES := hid (fun h : WideL E => show z = true by rw [hz]; exact decide_eq_true h)
  have HNO := hid (fun h : ¬ WideL E => show z = false by rw [hz]; exact decide_eq_false h)
  clear hz
  obtain ⟨⟨a, cap, rfl, hrow⟩, hpv⟩ := ha
  obtain ⟨n, hn⟩ : ∃ n, n = E.length := ⟨_, rfl⟩
  rw [← hn]
  have HN := hid hn
  have HROW := hid hrow
  have HPV := hid hpv
  clear hn hrow hpv
  by_cases h30 : 30 < n
  · have d1 : decide ((30 : Int) < (n : Int)) = true := decide_eq_true (by omega)
    have HF := hid (HYES.out (Or.inl (by rw [← HN.out]; exact h30)))
    go_enter Try.func40, Try.ntmps40
    go_wp2_with fail
    go_ret
    exact ⟨by rw [HF.out]; rfl, by (repeat' (first | (with_reducible exact Below.refl _ _) | (with_reducible assumption) | (with_reducible refine Below.alloc ?_ ?_ _) | (with_reducible refine Below.drew ?_) | (with_reducible refine below_drewN ?_ _) | (with_reducible refine Below.setCell ?_ ?_ _) | (with_reducible refine below_setRow ?_ ?_ _) | go_size))⟩
  have d1 : decide ((30 : Int) < (n : Int)) = false := decide_eq_false (by omega)
  go_enter Try.func40, Try.ntmps40
  go_wp2_with fail
  go_loopw [10] (fun iv W => ∃ i : Nat, i ≤ n ∧ iv = .int .i64 (i : Int) ∧ (∀ e ∈ E.take i, ¬ 40 < e.pts.length) ∧ Below w.heap.size w W) (fun iv _ => n - (intOf iv).toNat)
  case atStart => exact ⟨0, by omega, rfl, fun e he => by simp at he, Below.refl _ _⟩
  case round =>
    obtain ⟨i, hi, rfl, hall, hB⟩ := hrel
    have HALL := hid hall
    have HB4 := hid hB
    have hz4 := hB.size
    clear hall hB
    by_cases hlt : i < n
    · have d2 : decide ((i : Int) < (n : Int)) = true := decide_eq_true (by omega)
      obtain ⟨e, he⟩ : ∃ e, E[i]? = some e := ⟨_, List.getElem?_eq_getElem (by rw [← HN.out]; exact hlt)⟩
      have HEI := hid he
      obtain ⟨b, off, rfl, hbw, hrows⟩ := HROW.out.resolve_left (fun h => by rw [h] at he; simp at he)
      have hpe := HPV.out e (List.mem_of_getElem? he)
      have hcs : ∀ y, y < 5 → wr.cell? ⟨b, off + i * 5 + y, none⟩ = e.row[y]? := fun y hy => by
        rw [HB4.out.cell hbw, hrows i e.row (by rw [List.getElem?_map, he]; rfl) y hy]
      clear he hrows hbw
      obtain ⟨⟨k0, k1, k2, k3⟩, ev, P⟩ := e
      obtain ⟨ea, ec, hev, _⟩ := hpe
      obtain rfl : ev = .slice ea P.length ec := hev
      obtain ⟨m, hm⟩ : ∃ m, m = P.length := ⟨_, rfl⟩
      simp only [Te.row, Ky.row, ← hm] at hcs
      have HMP := hid hm
      clear hm
      have a0 : wr.cell? ⟨b, off + i * 5, none⟩ = some (.int .i64 k0) := hcs 0 (by decide)
      have a1 : wr.cell? ⟨b, off + i * 5 + 1, none⟩ = some (.int .i64 k1) := hcs 1 (by decide)
      have a2 : wr.cell? ⟨b, off + i * 5 + 2, none⟩ = some (.int .i64 k2) := hcs 2 (by decide)
      have a3 : wr.cell? ⟨b, off + i * 5 + 3, none⟩ = some (.int .i64 k3) := hcs 3 (by decide)
      have a4 : wr.cell? ⟨b, off + i * 5 + 4, none⟩ = some (.slice ea m ec) := hcs 4 (by decide)
      clear hcs
      go_upto_region 6 with fail
      refine gen_world (fun W5 hW5 => ?_)
      have HT5 := hid (show W5.heap[wr.heap.size]? = some (.cells #[.int .i64 k0, .int .i64 k1, .int .i64 k2, .int .i64 k3, .slice ea m ec] 49) by rw [hW5]; exact heap_alloc_at _ _ _ rfl)
      have HBX := hid (show Below w.heap.size w W5 by rw [hW5]; exact HB4.out.alloc hz4 _)
      clear hW5 a0 a1 a2 a3 a4
      obtain ⟨g, hg⟩ : ∃ g, g = wr.heap.size := ⟨_, rfl⟩
      rw [← hg] at HT5 ⊢
      clear hg
      have t4 : W5.cell? ⟨g, 4, none⟩ = some (.slice ea m ec) := (cell_row (j := 4) HT5.out).trans rfl
      by_cases h40 : 40 < m
      · have d3 : decide ((40 : Int) < (m : Int)) = true := decide_eq_true (by omega)
        have HF := hid (HYES.out (Or.inr ⟨_, List.mem_of_getElem? HEI.out, by show 40 < P.length; rw [← HMP.out]; exact h40⟩))
        go_wp2_with fail
        go_ret
        exact ⟨by rw [HF.out]; rfl, HBX.out⟩
      · have d3 : decide ((40 : Int) < (m : Int)) = false := decide_eq_false (by omega)
        have HNX := hid (show ∀ e ∈ E.take (i + 1), ¬ 40 < e.pts.length by
          rw [take_next HEI.out]
          intro u hu
          rcases List.mem_append.1 hu with g1 | g1
          · exact HALL.out u g1
          · obtain rfl := List.mem_singleton.1 g1
            show ¬ 40 < P.length
            rw [← HMP.out]
            exact h40)
        go_wp2_with fail
        exact ⟨⟨i + 1, by omega, by go_num, HNX.out, HBX.out⟩, by simp [intOf]; omega⟩
    · obtain rfl : i = n := by omega
      have d2 : decide ((i : Int) < (i : Int)) = false := by simp
      have HF := hid (HNO.out (fun h => by
        rcases h with h | ⟨e, he, h⟩
        · rw [← HN.out] at h; exact h30 h
        · exact HALL.out e (by rw [HN.out, List.take_length]; exact he) h))
      go_wp2_with fail
      go_ret
      exact ⟨by rw [HF.out]; rfl, HB4.out⟩
set_option maxRecDepth 100000 in
set_option maxHeartbeats 1600000 in
theorem details_law (va vb : Value) (A B : List Te) (lv : Int) (w : World) (ha : TilesV w va A) (hb : TilesV w vb B) (hca : CapV va) (hcb : CapV vb) (hpa : ∀ e ∈ A, e.pts.length ≤ maxLen) (hpb : ∀ e ∈ B, e.pts.length ≤ maxLen) :
    Calls Try.prog 11 #[va, vb, .int .i64 lv] w fun r w' => r = .returned (.bool true) ∧ Below w.heap.size w w' := by
  obtain ⟨ga, hga⟩ : ∃ ga, ga = decide (WideL A) := ⟨_, rfl⟩
  obtain ⟨gb, hgb⟩ : ∃ gb, gb = decide (WideL B) := ⟨_, rfl⟩
  have HCA := hid (fun W (h : TilesV W va A) => show Calls Try.prog 40 #[va] W fun r w' => r = .returned (.bool ga) ∧ Below W.heap.size W w' from hga ▸ wide_any va A W h)
  have HCB := hid (fun W (h : TilesV W vb B) => show Calls Try.prog 40 #[vb] W fun r w' => r = .returned (.bool gb) ∧ Below W.heap.size W w' from hgb ▸ wide_any vb B W h)
  have HAF := hid (fun h : ga = false => of_decide_eq_false (show decide (WideL A) = false from hga ▸ h))
  have HBF := hid (fun h : gb = false => of_decide_eq_false (show decide (WideL B) = false from hgb ▸ h))
  clear hga hgb
  have HA := hid ha
  have HB := hid hb
  have HPA := hid hpa
  have HPB := hid hpb
  clear ha hb hpa hpb
  go_enter Try.func11, Try.ntmps11
  go_wp2_with fail
  refine (HCA.out w HA.out).mono ?_
  rintro r w1 ⟨rfl, hb1⟩
  have HB1 := hid hb1
  have HA1 := hid (HA.out.still hb1)
  have HBV1 := hid (HB.out.still hb1)
  clear hb1 HCA
  obtain rfl | rfl : ga = true ∨ ga = false := by cases ga <;> simp
  · clear HCB HAF HBF
    go_wp2_with fail
    refine (awake_any _).mono ?_
    rintro r w9 ⟨rfl, hb⟩
    have HB9 := hid (show Below w.heap.size w w9 from HB1.out.trans (hb.mono HB1.out.size))
    clear hb
    go_wp2_with fail
    go_ret
    exact ⟨rfl, HB9.out⟩
  have HLA := hid (show A.length ≤ 30 from Nat.not_lt.1 (fun h => HAF.out rfl (Or.inl h)))
  clear HAF
  go_wp2_with fail
  refine (HCB.out w1 HBV1.out).mono ?_
  rintro r w2 ⟨rfl, hb2⟩
  have HB2 := hid (HB1.out.trans (hb2.mono HB1.out.size))
  have HA2 := hid (HA1.out.still hb2)
  have HBV2 := hid (HBV1.out.still hb2)
  clear hb2 HCB
  obtain rfl | rfl : gb = true ∨ gb = false := by cases gb <;> simp
  · clear HBF
    go_wp2_with fail
    refine (awake_any _).mono ?_
    rintro r w9 ⟨rfl, hb⟩
    have HB9 := hid (show Below w.heap.size w w9 from HB2.out.trans (hb.mono HB2.out.size))
    clear hb
    go_wp2_with fail
    go_ret
    exact ⟨rfl, HB9.out⟩
  have HLB := hid (show B.length ≤ 30 from Nat.not_lt.1 (fun h => HBF.out rfl (Or.inl h)))
  clear HBF
  go_wp2_with fail
  refine (xdetail_any va A lv w2 HA2.out (by have := HLA.out; omega) HPA.out).mono ?_
  rintro r w3 ⟨⟨d, e, D, rfl, hd, hr⟩, hb3⟩
  have HB3 := hid (HB2.out.trans (hb3.mono HB2.out.size))
  have HA3 := hid (HA2.out.still hb3)
  have HBV3 := hid (HBV2.out.still hb3)
  have HD3 := hid (OwnP.ptsV hd)
  have HDL := hid (show D.length ≤ maxLen by have := OwnR.len hd; rwa [List.length_map] at this)
  have HR := hid hr
  clear hb3 hd hr
  go_wp2_with fail
  refine (rdetail_any va A lv w3 HA3.out (by have := HLA.out; omega) HPA.out).mono ?_
  rintro r w4 ⟨⟨d', e', D', rfl, hd, hr⟩, hb4⟩
  have HB4 := hid (HB3.out.trans (hb4.mono HB3.out.size))
  have HA4 := hid (HA3.out.still hb4)
  have HBV4 := hid (HBV3.out.still hb4)
  have HD4 := hid (HD3.out.still hb4)
  have HS := hid (HR.out.same hr)
  have HDP4 := hid (OwnP.ptsV hd)
  obtain rfl : e = e' := HS.out.1
  obtain rfl : D = D' := HS.out.2
  clear hb4 hd hr HS HD3
  go_wp2_with fail
  refine (xChanged_any va vb A B w4 HA4.out HBV4.out hca hcb (by have := HLA.out; omega) (by have := HLB.out; omega) HPA.out HPB.out).mono ?_
  rintro r w5 ⟨⟨k, f, K, rfl, hk, hr⟩, hb5⟩
  have HB5 := hid (HB4.out.trans (hb5.mono HB4.out.size))
  have HA5 := hid (HA4.out.still hb5)
  have HBV5 := hid (HBV4.out.still hb5)
  have HD5 := hid (HD4.out.still hb5)
  have HDP5 := hid (HDP4.out.still hb5)
  have HK5 := hid (OwnK.keysV hk)
  have HKL := hid (show K.length ≤ maxLen by have := OwnR.len hk; rwa [List.length_map] at this)
  have HRK := hid hr
  clear hb5 hk hr HD4 HDP4
  go_wp2_with fail
  refine (rChanged_any va vb A B w5 HA5.out HBV5.out hca hcb (by have := HLA.out; omega) (by have := HLB.out; omega) HPA.out HPB.out).mono ?_
  rintro r w6 ⟨⟨k', f', K', rfl, hk, hr⟩, hb6⟩
  have HB6 := hid (HB5.out.trans (hb6.mono HB5.out.size))
  have HD6 := hid (HD5.out.still hb6)
  have HDP6 := hid (HDP5.out.still hb6)
  have HK6 := hid (HK5.out.still hb6)
  have HKP6 := hid (OwnK.keysV hk)
  have HS := hid (HRK.out.same hr)
  obtain rfl : f = f' := HS.out.1
  obtain rfl : K = K' := HS.out.2
  clear hb6 hk hr HS HD5 HDP5 HK5
  go_wp2_with fail
  refine (same28 d d' D D w6 HD6.out HDP6.out HDL.out).mono ?_
  rintro r w7 ⟨rfl, hb7⟩
  rw [decide_eq_true (rfl : D = D)]
  have HB7 := hid (HB6.out.trans (hb7.mono HB6.out.size))
  have HK7 := hid (HK6.out.still hb7)
  have HKP7 := hid (HKP6.out.still hb7)
  clear hb7 HK6 HKP6
  go_wp2_with fail
  refine (samekeys_any k k' K K w7 HK7.out HKP7.out HKL.out).mono ?_
  rintro r w8 ⟨rfl, hb8⟩
  rw [decide_eq_true (rfl : K = K)]
  have HB8 := hid (HB7.out.trans (hb8.mono HB7.out.size))
  clear hb8
  go_wp2_with fail
  refine (awake_any _).mono ?_
  rintro r w9 ⟨rfl, hb⟩
  have HB9 := hid (show Below w.heap.size w w9 from HB8.out.trans (hb.mono HB8.out.size))
  clear hb
  go_wp2_with fail
  go_ret
  exact ⟨rfl, HB9.out⟩
set_option maxRecDepth 100000 in
theorem tileDetails_lifted (os : Os) (started : os.Started) (H : Type) (enc : TypeId × Value → H) :
    ReturnsInHanded {} Try.checked os 11 .any (Rows.tileDetailsSpec.pre6 enc Try.prog Try.f11 Rows.tileDetailsRow.domain false) (Rows.tileDetailsSpec.post enc Try.prog Try.f11 false true false false) := by
  refine law_lifted (C := Try.checked) (tb := 4) lawOwn started (by kernel_rfl) Try.func11 rfl ?_ (show Try.f11.resultTypes = #[4] by kernel_rfl) Try.underlying4 lawLaid ?_
    (ChangeSpec.witness6 (enc := enc) (C := Try.checked) false ⟨#[], #[.slice none 0 0, .slice none 0 0, .int .i64 0], []⟩ 8 (by kernel_rfl) (by kernel_rfl) (by kernel_rfl) (by kernel_rfl)) ?_
  · intro ds hds
    match ds, hds with
    | [d1, d2, d3], _ => exact ⟨rfl, rfl, rfl⟩
  · rw [Try.params11]
    intro t ht
    simp at ht
    rcases ht with rfl | rfl
    all_goals exact ⟨by kernel_rfl, of_decide_eq_true (by kernel_rfl)⟩
  · intro W base args ds p hval hA hlt _
    change DataW.TrodAll enc Try.prog W 0 (fun _ => true) true Try.f11.params.toList args.toList ds p at hA
    change ∀ (j : Nat) t v, Try.f11.params[j]? = some t → args[j]? = some v → Value.okWide Try.prog W .any base t v at hval
    rw [Try.params11] at hA hval
    obtain ⟨v0, vs0, d0, ds0, p0, q0, hargs, rfl, rfl, h0, r0⟩ := trodAll_cons hA
    obtain ⟨v1, vs1, d1, ds1, p1, q1, rfl, rfl, rfl, h1, r1⟩ := trodAll_cons r0
    obtain ⟨v2, vs2, d2, ds2, p2, q2, rfl, rfl, rfl, h2, r2⟩ := trodAll_cons r1
    obtain ⟨rfl, rfl, rfl⟩ := trodAll_nil r2
    obtain rfl : args = #[v0, v1, v2] := by cases args; simp_all
    obtain ⟨A, hA0, _, _, hAi⟩ := open_tiles (hval 0 24 v0 rfl rfl) h0
    obtain ⟨B, hB0, _, _, hBi⟩ := open_tiles (hval 1 24 v1 rfl rfl) h1
    obtain ⟨n, rfl, _, _⟩ := open_int Try.underlying3 (hval 2 3 v2 rfl rfl) h2
    exact details_law v0 v1 A B n W hA0 hB0 (open_cap Try.underlying24 (hval 0 24 v0 rfl rfl) h0) (open_cap Try.underlying24 (hval 1 24 v1 rfl rfl) h1) (fun e he => (hAi e he).len) (fun e he => (hBi e he).len)
/-- TileDetails, whatever the input. -/
theorem tileDetails_holds : Rows.TileDetailsSaid :=
  OpenClaim.holds_of_wide 11 Try.f11 rfl rfl rfl rfl rfl rfl rfl ⟨rfl, rfl, rfl, rfl, rfl⟩ rfl rfl rfl rfl rfl (by kernel_rfl) Try.func11 (by kernel_rfl)
    (of_decide_eq_true (by kernel_rfl)) (by unfold Func.isWrapper; rw [if_neg (of_decide_eq_false (by kernel_rfl))]; exact ⟨rfl, rfl⟩)
    (fun os started H enc _ => tileDetails_lifted os started H enc)
#print axioms tileDetails_holds
end Go.Proofs.Yteanlcefdoigcaa

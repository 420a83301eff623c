/- The keys of differing tiles (reference): those that lack, put in order. -/
import Derived.Test.YteanlcefdoigcaaKeyV
import Derived.Test.YteanlcefdoigcaaAmongX
import Derived.Test.YteanlcefdoigcaaRefM
namespace Go.Proofs.Yteanlcefdoigcaa
open Go.ChangeShapes Go.WideShapes Go.RowKit Go.Maps Go.Sort

theorem sortedTo_pw {r : Ky → Ky → Prop} {L : List Ky} (h : SortedTo r L L.length) : L.Pairwise (fun x y => ¬ r y x) := by
  rw [List.pairwise_iff_getElem]
  intro i j hi hj hij
  exact h i j _ _ hij hj (List.getElem?_eq_getElem hi) (List.getElem?_eq_getElem hj)
theorem mem_take_next {α : Type} [DecidableEq α] {K : List α} {k : Nat} {x y : α} (h : K[k]? = some y) : decide (x ∈ K.take (k + 1)) = (decide (x ∈ K.take k) || decide (y = x)) := by
  rw [take_next h, Bool.eq_iff_iff, Bool.or_eq_true, decide_eq_true_eq, decide_eq_true_eq, decide_eq_true_eq, List.mem_append, List.mem_singleton]
  constructor
  · rintro (g | g)
    · exact Or.inl g
    · exact Or.inr g.symm
  · rintro (g | g)
    · exact Or.inl g
    · exact Or.inr g.symm
instance : Inhabited Ky := ⟨⟨0, 0, 0, 0⟩⟩
/-- over the tiles -/
def RcRel (w : World) (A B : List Te) (i j : Nat) (ov : Value) (W : World) : Prop :=
  ∃ (K : List Ky) (o : Value), o = ov ∧ RefAt (A.map Te.tl) (B.map Te.tl) i j K ∧ K.length ≤ i + j ∧ OwnK W w.heap.size ov K ∧ Below w.heap.size w W
/-- the insertion -/
def KSRel (w : World) (S : List Ky) (i : Nat) (v kv : Value) (W : World) : Prop :=
  ∃ (k : Nat) (L : List Ky), k ≤ i ∧ kv = .int .i64 (k : Int) ∧ L.Perm S ∧ InsAt Ky.lt L i k ∧ OwnK W w.heap.size v L ∧ Below w.heap.size w W
def KSOut (w : World) (S : List Ky) (n : Nat) (v iv : Value) (W : World) : Prop :=
  ∃ (i : Nat) (L : List Ky), i ≤ n ∧ iv = .int .i64 (i : Int) ∧ L.Perm S ∧ SortedTo Ky.lt L i ∧ OwnK W w.heap.size v L ∧ Below w.heap.size w W
set_option maxRecDepth 100000 in
set_option maxHeartbeats 6400000 in
theorem rchanged_any (va vb : Value) (A B : List Te) (w : World) (ha : TilesV w va A) (hb : TilesV w vb B) (hA : (A.map Te.tl).Pairwise (fun a b => a.key.lt b.key))
    (hla : A.length ≤ 1000000) (hlb : B.length ≤ 1000000) (hpa : ∀ e ∈ A, e.pts.length ≤ maxLen) (hpb : ∀ e ∈ B, e.pts.length ≤ maxLen) :
    Calls Try.prog 65 #[va, vb] w fun r w' => (∃ v K, r = .returned v ∧ OwnK w' w.heap.size v K ∧ IsChg (A.map Te.tl) (B.map Te.tl) K) ∧ Below w.heap.size w w' := by
  have HA := hid ha
  have HB := hid hb
  have HOA0 := hid hA
  have HPLA := hid hpa
  have HPLB := hid hpb
  obtain ⟨⟨aa, ca, rfl, hra⟩, hpva⟩ := ha
  obtain ⟨⟨ab, cb, rfl, hrb⟩, hpvb⟩ := hb
  obtain ⟨n, hn⟩ : ∃ n, n = A.length := ⟨_, rfl⟩
  obtain ⟨m0, hm0⟩ : ∃ m0, m0 = B.length := ⟨_, rfl⟩
  rw [← hn] at hla HA ⊢
  rw [← hm0] at hlb HB ⊢
  have HN := hid hn
  have HM0 := hid hm0
  have HRA := hid hra
  have HRB := hid hrb
  have HPVA := hid hpva
  have HPVB := hid hpvb
  clear hn hm0 hra hrb hpva hpvb hA hpa hpb
  obtain ⟨i0, hi, hz0, hz1, hz2⟩ := info_parts info39
  have HI := hid hi
  have HZ0 := hid hz0
  have HZ1 := hid hz1
  have HZ2 := hid hz2
  clear hi hz0 hz1 hz2
  go_enter Try.func65, Try.ntmps65
  go_wp2_with fail
  go_loopw [5, 17] (fun ov iv W => ∃ i : Nat, i ≤ n ∧ iv = .int .i64 (i : Int) ∧ RcRel w A B i 0 ov W) (fun _ iv _ => n - (intOf iv).toNat)
  case atStart => exact ⟨0, by omega, rfl, [], _, rfl, RefAt.start _ _, by simp, OwnK.nil _ _, Below.refl _ _⟩
  case round =>
    obtain ⟨i, hi, rfl, K, ov, rfl, href, hkl, hov, hB⟩ := hrel
    have HREF := hid href
    have HKLE := hid hkl
    have HKL := hid (show K.length ≤ 2000000 by omega)
    have HOV := hid hov
    have HB4 := hid hB
    have hz4 := hB.size
    clear href hkl hov hB
    by_cases hlt : i < n
    · have d1 : decide ((i : Int) < (n : Int)) = true := decide_eq_true (by omega)
      obtain ⟨e, he⟩ : ∃ e, A[i]? = some e := ⟨_, List.getElem?_eq_getElem (by rw [← HN.out]; exact hlt)⟩
      have HTI := hid (show (A.map Te.tl)[i]? = some e.tl by rw [List.getElem?_map, he]; rfl)
      obtain ⟨b, off, hva, hbw, hrows⟩ := HRA.out.resolve_left (fun h => by rw [h] at he; simp at he)
      have hpe := HPVA.out e (List.mem_of_getElem? he)
      have hcs : ∀ y, y < 5 → wr.cell? ⟨b, off + i * 5 + y, none⟩ = e.row[y]? := fun y hy => by
        rw [HB4.out.cell hbw, hrows i e.row (by rw [List.getElem?_map, he]; rfl) y hy]
      clear he hrows hbw
      obtain ⟨⟨k0, k1, k2, k3⟩, ev, P⟩ := e
      have HPE := hid hpe
      obtain ⟨ea, ec, hev, _⟩ := hpe
      obtain rfl : ev = .slice ea P.length ec := hev
      obtain ⟨m, hm⟩ : ∃ m, m = P.length := ⟨_, rfl⟩
      simp only [Te.row, Ky.row, ← hm] at hcs HPE
      clear hm
      subst hva
      have a0 : wr.cell? ⟨b, off + i * 5, none⟩ = some (.int .i64 k0) := hcs 0 (by decide)
      have a1 : wr.cell? ⟨b, off + i * 5 + 1, none⟩ = some (.int .i64 k1) := hcs 1 (by decide)
      have a2 : wr.cell? ⟨b, off + i * 5 + 2, none⟩ = some (.int .i64 k2) := hcs 2 (by decide)
      have a3 : wr.cell? ⟨b, off + i * 5 + 3, none⟩ = some (.int .i64 k3) := hcs 3 (by decide)
      have a4 : wr.cell? ⟨b, off + i * 5 + 4, none⟩ = some (.slice ea m ec) := hcs 4 (by decide)
      clear hcs
      go_upto_region 5 with fail
      refine gen_world (fun W5 hW5 => ?_)
      have HT5 := hid (show W5.heap[wr.heap.size]? = some (.cells #[.int .i64 k0, .int .i64 k1, .int .i64 k2, .int .i64 k3, .slice ea m ec] 49) by rw [hW5]; exact heap_alloc_at _ _ _ rfl)
      have hb5 : Below wr.heap.size wr W5 := by rw [hW5]; exact (Below.refl _ _).alloc (Nat.le_refl _) _
      have HBX := hid (HB4.out.trans (hb5.mono hz4))
      have HOX := hid (show OwnK W5 w.heap.size ov K from OwnR.grow' HOV.out hb5)
      have HPX := hid (HPE.out.still HBX.out)
      clear hW5 hb5 a0 a1 a2 a3 a4 HOV
      obtain ⟨g, hg⟩ : ∃ g, g = wr.heap.size := ⟨_, rfl⟩
      rw [← hg] at HT5 ⊢
      clear hg
      have t0 : W5.cell? ⟨g, 0, none⟩ = some (.int .i64 k0) := (cell_row (j := 0) HT5.out).trans rfl
      have t1 : W5.cell? ⟨g, 1, none⟩ = some (.int .i64 k1) := (cell_row (j := 1) HT5.out).trans rfl
      have t2 : W5.cell? ⟨g, 2, none⟩ = some (.int .i64 k2) := (cell_row (j := 2) HT5.out).trans rfl
      have t3 : W5.cell? ⟨g, 3, none⟩ = some (.int .i64 k3) := (cell_row (j := 3) HT5.out).trans rfl
      have t4 : W5.cell? ⟨g, 4, none⟩ = some (.slice ea m ec) := (cell_row (j := 4) HT5.out).trans rfl
      obtain ⟨bl, hbl⟩ : ∃ bl, bl = decide ((⟨⟨k0, k1, k2, k3⟩, P⟩ : Tl) ∉ B.map Te.tl) := ⟨_, rfl⟩
      have HLC := hid (show Calls Try.prog 105 #[.slice ab m0 cb, .agg #[.int .i64 k0, .int .i64 k1, .int .i64 k2, .int .i64 k3, .slice ea m ec]] W5 fun r w' => r = .returned (.bool bl) ∧ Below W5.heap.size W5 w' from hbl ▸ lacks_any _ _ B ⟨k0, k1, k2, k3⟩ P W5 (HB.out.still HBX.out) HPX.out (by rw [← HM0.out]; exact hlb) HPLB.out)
      have HBLT := hid (fun h : bl = true => of_decide_eq_true (show decide ((⟨⟨k0, k1, k2, k3⟩, P⟩ : Tl) ∉ B.map Te.tl) = true from hbl ▸ h))
      have HBLF := hid (fun h : bl = false => Decidable.not_not.1 (of_decide_eq_false (show decide ((⟨⟨k0, k1, k2, k3⟩, P⟩ : Tl) ∉ B.map Te.tl) = false from hbl ▸ h)))
      clear hbl
      go_wp2_with fail
      refine HLC.out.mono ?_
      rintro r w7 ⟨rfl, hb7⟩
      have HT7 := hid (heap_still hb7 HT5.out)
      have HB7 := hid (HBX.out.trans (hb7.mono HBX.out.size))
      have HO7 := hid (show OwnK w7 w.heap.size ov K from OwnR.grow' HOX.out hb7)
      clear hb7 t0 t1 t2 t3 t4 HLC
      cases bl
      · have HNX := hid (HREF.out.left_no HTI.out (HBLF.out rfl))
        clear HBLT HBLF
        go_wp2_with fail
        exact ⟨⟨i + 1, by omega, by go_num, K, _, rfl, HNX.out, by have := HKLE.out; omega, HO7.out, HB7.out⟩, by simp [intOf]; omega⟩
      · have HNX := hid (HREF.out.left_yes HOA0.out HTI.out (HBLT.out rfl))
        clear HBLT HBLF
        have t0 : w7.cell? ⟨g, 0, none⟩ = some (.int .i64 k0) := (cell_row (j := 0) HT7.out).trans rfl
        have t1 : w7.cell? ⟨g, 1, none⟩ = some (.int .i64 k1) := (cell_row (j := 1) HT7.out).trans rfl
        have t2 : w7.cell? ⟨g, 2, none⟩ = some (.int .i64 k2) := (cell_row (j := 2) HT7.out).trans rfl
        have t3 : w7.cell? ⟨g, 3, none⟩ = some (.int .i64 k3) := (cell_row (j := 3) HT7.out).trans rfl
        have HRK := hid (RowsAt.one (heap_alloc_at w7 _ _ rfl) : RowsAt (w7.alloc (.cells #[.int .i64 k0, .int .i64 k1, .int .i64 k2, .int .i64 k3] 39)) w7.heap.size 0 4 [[.int .i64 k0, .int .i64 k1, .int .i64 k2, .int .i64 k3]])
        have HOA := hid (OwnR.grow' HO7.out ((Below.refl _ _).alloc (Nat.le_refl _) _) : OwnR (w7.alloc (.cells #[.int .i64 k0, .int .i64 k1, .int .i64 k2, .int .i64 k3] 39)) w.heap.size 39 4 ov (K.map Ky.row))
        have HBA2 := hid (HB7.out.alloc HB7.out.size _ : Below w.heap.size w (w7.alloc (.cells #[.int .i64 k0, .int .i64 k1, .int .i64 k2, .int .i64 k3] 39)))
        have HL1 := hid (show (K.map Ky.row).length + 1 ≤ maxLen by rw [List.length_map]; have := HKL.out; unfold maxLen; omega)
        have HL2 := hid (show ((K.map Ky.row).length + 1) * 32 ≤ 140737488355328 by rw [List.length_map]; have := HKL.out; omega)
        go_wp2_with (first
          | (at_builtin
             refine wpList_append_rows rfl (.tmp 24) (.tmp 27) 56 rfl w.heap.size 39 i0 _ 4 32 Try.underlying56 HI.out HZ0.out HZ1.out HZ2.out rfl (by decide) _ (K.map Ky.row) [[.int .i64 k0, .int .i64 k1, .int .i64 k2, .int .i64 k3]] rfl HOA.out w7.heap.size 0 1 1 rfl rfl HRK.out (wide4 _ _ _ _) HL1.out HL2.out HBA2.out.size ?_
             intro v6 W6 hown6 hg6 z6
             clear z6
             have HO6 := hid (show OwnK W6 w.heap.size v6 (K ++ [⟨k0, k1, k2, k3⟩]) by unfold OwnK; rw [List.map_append]; exact hown6)
             have HB6 := hid (show Below w.heap.size w W6 from HBA2.out.grown hg6 HBA2.out.size (fun k hk => OwnR.ownBlock HOA.out k hk))
             clear hown6 hg6))
        exact ⟨⟨i + 1, by omega, by go_num, _, _, rfl, HNX.out, by rw [List.length_append]; have := HKLE.out; show K.length + 1 ≤ _; omega, HO6.out, HB6.out⟩, by simp [intOf]; omega⟩
    · obtain rfl : i = n := by omega
      have d1 : decide ((i : Int) < (i : Int)) = false := by simp
      go_wp2_with fail
      go_loopw [5, 32] (fun ov jv W => ∃ j : Nat, j ≤ m0 ∧ jv = .int .i64 (j : Int) ∧ RcRel w A B i j ov W) (fun _ jv _ => m0 - (intOf jv).toNat)
      case atStart => exact ⟨0, by omega, rfl, K, _, rfl, HREF.out, HKLE.out, HOV.out, HB4.out⟩
      clear HREF HKLE HKL HOV HB4 hz4
      case round =>
        obtain ⟨j, hj, rfl, K, ov, rfl, href, hkl, hov, hB⟩ := hrel
        have HREF := hid href
        have HKLE := hid hkl
        have HKL := hid (show K.length ≤ 2000000 by omega)
        have HOV := hid hov
        have HB4 := hid hB
        have hz4 := hB.size
        clear href hkl hov hB
        by_cases hlt : j < m0
        · have d1 : decide ((j : Int) < (m0 : Int)) = true := decide_eq_true (by omega)
          obtain ⟨e, he⟩ : ∃ e, B[j]? = some e := ⟨_, List.getElem?_eq_getElem (by rw [← HM0.out]; exact hlt)⟩
          have HTI := hid (show (B.map Te.tl)[j]? = some e.tl by rw [List.getElem?_map, he]; rfl)
          obtain ⟨b, off, hva, hbw, hrows⟩ := HRB.out.resolve_left (fun h => by rw [h] at he; simp at he)
          have hpe := HPVB.out e (List.mem_of_getElem? he)
          have hcs : ∀ y, y < 5 → wr.cell? ⟨b, off + j * 5 + y, none⟩ = e.row[y]? := fun y hy => by
            rw [HB4.out.cell hbw, hrows j e.row (by rw [List.getElem?_map, he]; rfl) y hy]
          clear he hrows hbw
          obtain ⟨⟨k0, k1, k2, k3⟩, ev, P⟩ := e
          have HPE := hid hpe
          obtain ⟨ea, ec, hev, _⟩ := hpe
          obtain rfl : ev = .slice ea P.length ec := hev
          obtain ⟨m, hm⟩ : ∃ m, m = P.length := ⟨_, rfl⟩
          simp only [Te.row, Ky.row, ← hm] at hcs HPE
          clear hm
          subst hva
          have a0 : wr.cell? ⟨b, off + j * 5, none⟩ = some (.int .i64 k0) := hcs 0 (by decide)
          have a1 : wr.cell? ⟨b, off + j * 5 + 1, none⟩ = some (.int .i64 k1) := hcs 1 (by decide)
          have a2 : wr.cell? ⟨b, off + j * 5 + 2, none⟩ = some (.int .i64 k2) := hcs 2 (by decide)
          have a3 : wr.cell? ⟨b, off + j * 5 + 3, none⟩ = some (.int .i64 k3) := hcs 3 (by decide)
          have a4 : wr.cell? ⟨b, off + j * 5 + 4, none⟩ = some (.slice ea m ec) := hcs 4 (by decide)
          clear hcs
          go_upto_region 11 with fail
          refine gen_world (fun W5 hW5 => ?_)
          have HT5 := hid (show W5.heap[wr.heap.size]? = some (.cells #[.int .i64 k0, .int .i64 k1, .int .i64 k2, .int .i64 k3, .slice ea m ec] 49) by rw [hW5]; exact heap_alloc_at _ _ _ rfl)
          have hb5 : Below wr.heap.size wr W5 := by rw [hW5]; exact (Below.refl _ _).alloc (Nat.le_refl _) _
          have HBX := hid (HB4.out.trans (hb5.mono hz4))
          have HOX := hid (show OwnK W5 w.heap.size ov K from OwnR.grow' HOV.out hb5)
          have HPX := hid (HPE.out.still HBX.out)
          clear hW5 hb5 a0 a1 a2 a3 a4 HOV
          obtain ⟨g, hg⟩ : ∃ g, g = wr.heap.size := ⟨_, rfl⟩
          rw [← hg] at HT5 ⊢
          clear hg
          obtain ⟨oa, oc, hoe⟩ := OwnK.slice HOX.out
          subst hoe
          obtain ⟨kn, hkn⟩ : ∃ kn, kn = K.length := ⟨_, rfl⟩
          rw [← hkn] at HOX ⊢
          have HKN := hid hkn
          have hkn2 : kn ≤ 2000000 := by rw [hkn]; exact HKL.out
          clear hkn
          go_wp2_with fail
          go_loopw [10, 38] (fun hv kv W => ∃ k : Nat, k ≤ kn ∧ kv = .int .i64 (k : Int) ∧ hv = .bool (decide ((⟨k0, k1, k2, k3⟩ : Ky) ∈ K.take k)) ∧ Below W5.heap.size W5 W) (fun _ kv _ => kn - (intOf kv).toNat)
          case atStart => exact ⟨0, by omega, rfl, by simp, Below.refl _ _⟩
          case round =>
            obtain ⟨k, hk, rfl, rfl, hB⟩ := hrel
            obtain ⟨hd, hhd⟩ : ∃ hd, hd = decide ((⟨k0, k1, k2, k3⟩ : Ky) ∈ K.take k) := ⟨_, rfl⟩
            rw [← hhd]
            have HHD := hid hhd
            have HBK := hid hB
            have hzk := hB.size
            clear hhd hB
            by_cases hlk : k < kn
            · have d2 : decide ((k : Int) < (kn : Int)) = true := decide_eq_true (by omega)
              obtain ⟨c, hc⟩ : ∃ c, K[k]? = some c := ⟨_, List.getElem?_eq_getElem (by rw [← HKN.out]; exact hlk)⟩
              obtain ⟨og, ogc, hsl, hgb, hgs, hcells⟩ := OwnK.cells HOX.out (by rw [← HKN.out]; omega)
              injection hsl with hsl hnn hcap
              clear hnn hcap
              subst hsl
              have hcs : ∀ y, y < 4 → wr.cell? ⟨og, k * 4 + y, none⟩ = c.row[y]? := fun y hy => by
                rw [HBK.out.cell hgs]
                exact hcells k c hc y hy
              have HMT := hid (mem_take_next (x := (⟨k0, k1, k2, k3⟩ : Ky)) hc)
              have heq := fun W => eqKy c ⟨k0, k1, k2, k3⟩ W
              clear hcells hgb hgs hc
              obtain ⟨be, hbe⟩ : ∃ be, be = decide (c = (⟨k0, k1, k2, k3⟩ : Ky)) := ⟨_, rfl⟩
              rw [← hbe, ← HHD.out] at HMT
              simp only [← hbe] at heq
              clear hbe
              obtain ⟨c0, c1, c2, c3⟩ := c
              simp only [Ky.row] at heq hcs
              have b0 : wr.cell? ⟨og, k * 4, none⟩ = some (.int .i64 c0) := hcs 0 (by decide)
              have b1 : wr.cell? ⟨og, k * 4 + 1, none⟩ = some (.int .i64 c1) := hcs 1 (by decide)
              have b2 : wr.cell? ⟨og, k * 4 + 2, none⟩ = some (.int .i64 c2) := hcs 2 (by decide)
              have b3 : wr.cell? ⟨og, k * 4 + 3, none⟩ = some (.int .i64 c3) := hcs 3 (by decide)
              clear hcs
              go_upto_region 15 with fail
              refine gen_world (fun W7 hW7 => ?_)
              have HC7 := hid (show W7.heap[wr.heap.size]? = some (.cells #[.int .i64 c0, .int .i64 c1, .int .i64 c2, .int .i64 c3] 39) by rw [hW7]; exact heap_alloc_at _ _ _ rfl)
              have HB7 := hid (show Below W5.heap.size W5 W7 by rw [hW7]; exact HBK.out.alloc hzk _)
              have HT7 := hid (heap_still HB7.out HT5.out)
              clear hW7 b0 b1 b2 b3
              obtain ⟨g7, hg7⟩ : ∃ g7, g7 = wr.heap.size := ⟨_, rfl⟩
              rw [← hg7] at HC7 ⊢
              clear hg7
              cases hd
              · have HFE := hid (show decide ((⟨k0, k1, k2, k3⟩ : Ky) ∈ K.take (k + 1)) = be from HMT.out)
                have t0 : W7.cell? ⟨g, 0, none⟩ = some (.int .i64 k0) := (cell_row (j := 0) HT7.out).trans rfl
                have t1 : W7.cell? ⟨g, 1, none⟩ = some (.int .i64 k1) := (cell_row (j := 1) HT7.out).trans rfl
                have t2 : W7.cell? ⟨g, 2, none⟩ = some (.int .i64 k2) := (cell_row (j := 2) HT7.out).trans rfl
                have t3 : W7.cell? ⟨g, 3, none⟩ = some (.int .i64 k3) := (cell_row (j := 3) HT7.out).trans rfl
                have b0 : W7.cell? ⟨g7, 0, none⟩ = some (.int .i64 c0) := (cell_row (j := 0) HC7.out).trans rfl
                have b1 : W7.cell? ⟨g7, 1, none⟩ = some (.int .i64 c1) := (cell_row (j := 1) HC7.out).trans rfl
                have b2 : W7.cell? ⟨g7, 2, none⟩ = some (.int .i64 c2) := (cell_row (j := 2) HC7.out).trans rfl
                have b3 : W7.cell? ⟨g7, 3, none⟩ = some (.int .i64 c3) := (cell_row (j := 3) HC7.out).trans rfl
                go_wp2_with fail
                exact ⟨⟨k + 1, by omega, by go_num, by rw [HFE.out], HB7.out⟩, by simp [intOf]; omega⟩
              · have HFE := hid (show decide ((⟨k0, k1, k2, k3⟩ : Ky) ∈ K.take (k + 1)) = true from HMT.out)
                go_wp2_with fail
                exact ⟨⟨k + 1, by omega, by go_num, by rw [HFE.out], HB7.out⟩, by simp [intOf]; omega⟩
            · obtain rfl : k = kn := by omega
              have d2 : decide ((k : Int) < (k : Int)) = false := by simp
              have HALL := hid (show K.take k = K by rw [HKN.out, List.take_length])
              rw [HALL.out] at HHD
              have HT7 := hid (heap_still HBK.out HT5.out)
              have HB7 := hid (HBX.out.trans (HBK.out.mono HBX.out.size))
              have HO7 := hid (show OwnK wr w.heap.size (.slice oa k oc) K from OwnR.grow' HOX.out HBK.out)
              have HPW := hid (HPX.out.still HBK.out)
              clear HOX HPX HBX
              cases hd
              · have HNK := hid (of_decide_eq_false HHD.out.symm)
                obtain ⟨bl, hbl⟩ : ∃ bl, bl = decide ((⟨⟨k0, k1, k2, k3⟩, P⟩ : Tl) ∉ A.map Te.tl) := ⟨_, rfl⟩
                have HLC := hid (show Calls Try.prog 105 #[.slice aa i ca, .agg #[.int .i64 k0, .int .i64 k1, .int .i64 k2, .int .i64 k3, .slice ea m ec]] wr fun r w' => r = .returned (.bool bl) ∧ Below wr.heap.size wr w' from hbl ▸ lacks_any _ _ A ⟨k0, k1, k2, k3⟩ P wr (HA.out.still HB7.out) HPW.out (by rw [← HN.out]; exact hla) HPLA.out)
                have HBLT := hid (fun h : bl = true => of_decide_eq_true (show decide ((⟨⟨k0, k1, k2, k3⟩, P⟩ : Tl) ∉ A.map Te.tl) = true from hbl ▸ h))
                have HBLF := hid (fun h : bl = false => Decidable.not_not.1 (of_decide_eq_false (show decide ((⟨⟨k0, k1, k2, k3⟩, P⟩ : Tl) ∉ A.map Te.tl) = false from hbl ▸ h)))
                clear hbl
                have t0 : wr.cell? ⟨g, 0, none⟩ = some (.int .i64 k0) := (cell_row (j := 0) HT7.out).trans rfl
                have t1 : wr.cell? ⟨g, 1, none⟩ = some (.int .i64 k1) := (cell_row (j := 1) HT7.out).trans rfl
                have t2 : wr.cell? ⟨g, 2, none⟩ = some (.int .i64 k2) := (cell_row (j := 2) HT7.out).trans rfl
                have t3 : wr.cell? ⟨g, 3, none⟩ = some (.int .i64 k3) := (cell_row (j := 3) HT7.out).trans rfl
                have t4 : wr.cell? ⟨g, 4, none⟩ = some (.slice ea m ec) := (cell_row (j := 4) HT7.out).trans rfl
                go_wp2_with fail
                refine HLC.out.mono ?_
                rintro r w8 ⟨rfl, hb8⟩
                have HT8 := hid (heap_still hb8 HT7.out)
                have HB8 := hid (HB7.out.trans (hb8.mono HB7.out.size))
                have HO8 := hid (show OwnK w8 w.heap.size (.slice oa k oc) K from OwnR.grow' HO7.out hb8)
                clear hb8 t0 t1 t2 t3 t4 HLC
                cases bl
                · have HNX := hid (HREF.out.right_no HTI.out (Or.inr (HBLF.out rfl)))
                  clear HBLT HBLF
                  go_wp2_with fail
                  exact ⟨⟨j + 1, by omega, by go_num, K, _, rfl, HNX.out, by have := HKLE.out; omega, HO8.out, HB8.out⟩, by simp [intOf]; omega⟩
                · have HNX := hid (HREF.out.right_yes HTI.out HNK.out (HBLT.out rfl))
                  clear HBLT HBLF
                  have t0 : w8.cell? ⟨g, 0, none⟩ = some (.int .i64 k0) := (cell_row (j := 0) HT8.out).trans rfl
                  have t1 : w8.cell? ⟨g, 1, none⟩ = some (.int .i64 k1) := (cell_row (j := 1) HT8.out).trans rfl
                  have t2 : w8.cell? ⟨g, 2, none⟩ = some (.int .i64 k2) := (cell_row (j := 2) HT8.out).trans rfl
                  have t3 : w8.cell? ⟨g, 3, none⟩ = some (.int .i64 k3) := (cell_row (j := 3) HT8.out).trans rfl
                  have HRK := hid (RowsAt.one (heap_alloc_at w8 _ _ rfl) : RowsAt (w8.alloc (.cells #[.int .i64 k0, .int .i64 k1, .int .i64 k2, .int .i64 k3] 39)) w8.heap.size 0 4 [[.int .i64 k0, .int .i64 k1, .int .i64 k2, .int .i64 k3]])
                  have HOA := hid (OwnR.grow' HO8.out ((Below.refl _ _).alloc (Nat.le_refl _) _) : OwnR (w8.alloc (.cells #[.int .i64 k0, .int .i64 k1, .int .i64 k2, .int .i64 k3] 39)) w.heap.size 39 4 (.slice oa k oc) (K.map Ky.row))
                  have HBA2 := hid (HB8.out.alloc HB8.out.size _ : Below w.heap.size w (w8.alloc (.cells #[.int .i64 k0, .int .i64 k1, .int .i64 k2, .int .i64 k3] 39)))
                  have HL1 := hid (show (K.map Ky.row).length + 1 ≤ maxLen by rw [List.length_map]; have := HKL.out; unfold maxLen; omega)
                  have HL2 := hid (show ((K.map Ky.row).length + 1) * 32 ≤ 140737488355328 by rw [List.length_map]; have := HKL.out; omega)
                  go_wp2_with (first
                    | (at_builtin
                       refine wpList_append_rows rfl (.tmp 57) (.tmp 60) 56 rfl w.heap.size 39 i0 _ 4 32 Try.underlying56 HI.out HZ0.out HZ1.out HZ2.out rfl (by decide) _ (K.map Ky.row) [[.int .i64 k0, .int .i64 k1, .int .i64 k2, .int .i64 k3]] rfl HOA.out w8.heap.size 0 1 1 rfl rfl HRK.out (wide4 _ _ _ _) HL1.out HL2.out HBA2.out.size ?_
                       intro v6 W6 hown6 hg6 z6
                       clear z6
                       have HO6 := hid (show OwnK W6 w.heap.size v6 (K ++ [⟨k0, k1, k2, k3⟩]) by unfold OwnK; rw [List.map_append]; exact hown6)
                       have HB6 := hid (show Below w.heap.size w W6 from HBA2.out.grown hg6 HBA2.out.size (fun k hk => OwnR.ownBlock HOA.out k hk))
                       clear hown6 hg6))
                  exact ⟨⟨j + 1, by omega, by go_num, _, _, rfl, HNX.out, by rw [List.length_append]; have := HKLE.out; show K.length + 1 ≤ _; omega, HO6.out, HB6.out⟩, by simp [intOf]; omega⟩
              · have HYK := hid (of_decide_eq_true HHD.out.symm)
                have HNX := hid (HREF.out.right_no HTI.out (Or.inl HYK.out))
                go_wp2_with fail
                exact ⟨⟨j + 1, by omega, by go_num, K, _, rfl, HNX.out, by have := HKLE.out; omega, HO7.out, HB7.out⟩, by simp [intOf]; omega⟩
        · obtain rfl : j = m0 := by omega
          have d1 : decide ((j : Int) < (j : Int)) = false := by simp
          obtain ⟨ma, mcap, hmv⟩ := OwnK.slice HOV.out
          subst hmv
          obtain ⟨kn, hkn⟩ : ∃ kn, kn = K.length := ⟨_, rfl⟩
          rw [← hkn] at HOV ⊢
          have HKN := hid hkn
          have hkn2 : kn ≤ 2000000 := by rw [hkn]; exact HKL.out
          clear hkn
          go_wp2_with fail
          go_loopw [65] (fun iv W => KSOut w K kn (.slice ma kn mcap) iv W) (fun iv _ => kn - (intOf iv).toNat)
          case atStart => exact ⟨0, K, by omega, rfl, List.Perm.refl _, fun a b x y _ h => by omega, HOV.out, HB4.out⟩
          case round =>
            obtain ⟨u, Ls, hu, rfl, hpm, hst, hoL, hB⟩ := hrel
            have HPM := hid hpm
            have HST := hid hst
            have HOL := hid hoL
            have HBW := hid hB
            clear hpm hst hoL hB
            by_cases hlu : u < kn
            · have d2 : decide ((u : Int) < (kn : Int)) = true := decide_eq_true (by omega)
              go_wp2_with fail
              go_loopw [14] (fun kv W => KSRel w K u (.slice ma kn mcap) kv W) (fun kv _ => (intOf kv).toNat)
              case atStart => exact ⟨u, Ls, by omega, rfl, HPM.out, ins_start HST.out, HOL.out, HBW.out⟩
              case round =>
                obtain ⟨k, Lk, hk, rfl, hpm, hin, hoL, hB⟩ := hrel
                have HPK := hid hpm
                have HIN := hid hin
                have HOK := hid hoL
                have HBK := hid hB
                have hzw := hB.size
                clear hpm hin hoL hB
                have hLn : Lk.length = kn := by rw [HPK.out.length_eq]; exact HKN.out.symm
                by_cases hk0 : k = 0
                · subst hk0
                  go_wp2_with fail
                  refine wp_region_quiet_below (by kernel_rfl) (by kernel_rfl) ?_
                  repeat (first | go_big_quiet_step (fail) | quiet_step (fail))
                  refine wpQuiet_nil ?_
                  intro _ hw'
                  obtain ⟨⟨dqV, osV⟩, hw2⟩ := hw'
                  subst hw2
                  have HQV := hid (below_regrown wr dqV osV)
                  generalize Sort.grow (redrawn wr dqV) osV = V at HQV ⊢
                  have hsV := HQV.out.size
                  go_wp2_with fail
                  exact ⟨⟨u + 1, Lk, by omega, by go_num, HPK.out, ins_end (r := Ky.lt) (k := 0) (fun x y z h1 h2 => Ky.not_lt_trans h2 h1) HIN.out (Nat.zero_le _) (fun x y h => by omega), OwnR.grow' HOK.out HQV.out, HBK.out.trans (HQV.out.mono hzw)⟩, by simp [intOf]; omega⟩
                · obtain ⟨p, hp⟩ : ∃ p, Lk[k]? = some p := ⟨_, List.getElem?_eq_getElem (by omega)⟩
                  obtain ⟨q, hq⟩ : ∃ q, Lk[k - 1]? = some q := ⟨_, List.getElem?_eq_getElem (by omega)⟩
                  obtain ⟨g, gcap, hsl, hgb, hgs, hcells⟩ := OwnK.cells HOK.out (by omega)
                  injection hsl with hsl hnn hcap
                  clear hnn
                  subst hsl hcap
                  have hp4 := hcells k p hp
                  have hq4 := hcells (k - 1) q hq
                  have HPX := hid hp
                  have HQY := hid hq
                  clear hcells hp hq hLn
                  obtain ⟨p0, p1, p2, p3⟩ := p
                  obtain ⟨q0, q1, q2, q3⟩ := q
                  simp only [Ky.row] at hp4 hq4
                  have a0 := fun d os => cell_regrown (show wr.cell? ⟨g, k * 4, none⟩ = some (.int .i64 p0) from hp4 0 (by decide)) d os
                  have a1 := fun d os => cell_regrown (show wr.cell? ⟨g, k * 4 + 1, none⟩ = some (.int .i64 p1) from hp4 1 (by decide)) d os
                  have a2 := fun d os => cell_regrown (show wr.cell? ⟨g, k * 4 + 2, none⟩ = some (.int .i64 p2) from hp4 2 (by decide)) d os
                  have a3 := fun d os => cell_regrown (show wr.cell? ⟨g, k * 4 + 3, none⟩ = some (.int .i64 p3) from hp4 3 (by decide)) d os
                  have b0 := fun d os => cell_regrown (show wr.cell? ⟨g, (k - 1) * 4, none⟩ = some (.int .i64 q0) from hq4 0 (by decide)) d os
                  have b1 := fun d os => cell_regrown (show wr.cell? ⟨g, (k - 1) * 4 + 1, none⟩ = some (.int .i64 q1) from hq4 1 (by decide)) d os
                  have b2 := fun d os => cell_regrown (show wr.cell? ⟨g, (k - 1) * 4 + 2, none⟩ = some (.int .i64 q2) from hq4 2 (by decide)) d os
                  have b3 := fun d os => cell_regrown (show wr.cell? ⟨g, (k - 1) * 4 + 3, none⟩ = some (.int .i64 q3) from hq4 3 (by decide)) d os
                  clear hp4 hq4
                  have hg0 : decide ((0 : Int) < (k : Int)) = true := decide_eq_true (by omega)
                  have hg1 : 0 < k := by omega
                  obtain ⟨bv, hbv⟩ : ∃ bv, bv = decide ((⟨p0, p1, p2, p3⟩ : Ky).lt ⟨q0, q1, q2, q3⟩) := ⟨_, rfl⟩
                  have HBC := hid (show ∀ W, Calls Try.prog 57 #[.agg #[.int .i64 p0, .int .i64 p1, .int .i64 p2, .int .i64 p3], .agg #[.int .i64 q0, .int .i64 q1, .int .i64 q2, .int .i64 q3]] W fun r w' => r = .returned (.bool bv) ∧ Below W.heap.size W w' from fun W => hbv ▸ before_any ⟨p0, p1, p2, p3⟩ ⟨q0, q1, q2, q3⟩ W)
                  have HBT := hid (fun h : bv = true => of_decide_eq_true (show decide ((⟨p0, p1, p2, p3⟩ : Ky).lt ⟨q0, q1, q2, q3⟩) = true from hbv ▸ h))
                  have HBF := hid (fun h : bv = false => of_decide_eq_false (show decide ((⟨p0, p1, p2, p3⟩ : Ky).lt ⟨q0, q1, q2, q3⟩) = false from hbv ▸ h))
                  clear hbv
                  cases bv
                  · have HLT := hid (HBF.out rfl)
                    clear HBT HBF
                    go_wp2_with fail
                    refine wp_region_quiet_below (by kernel_rfl) (by kernel_rfl) ?_
                    repeat (first | go_big_quiet_step ((go_at_call 57; with_reducible exact Calls.regrown_of (HBC.out _))) | quiet_step ((go_at_call 57; with_reducible exact Calls.regrown_of (HBC.out _))))
                    refine wpQuiet_nil ?_
                    intro _ hw'
                    obtain ⟨⟨dqV, osV⟩, hw2⟩ := hw'
                    subst hw2
                    have HQV := hid (below_regrown wr dqV osV)
                    generalize Sort.grow (redrawn wr dqV) osV = V at HQV ⊢
                    have hsV := HQV.out.size
                    have HOV := hid (OwnR.grow' HOK.out HQV.out)
                    have HBV := hid (HBK.out.trans (HQV.out.mono hzw))
                    clear a0 a1 a2 a3 b0 b1 b2 b3
                    go_wp2_with fail
                    exact ⟨⟨u + 1, Lk, by omega, by go_num, HPK.out, ins_end (r := Ky.lt) (k := k) (fun x y z h1 h2 => Ky.not_lt_trans h2 h1) HIN.out hk (fun x y _ h1 h2 => by
                      rw [HPX.out] at h1
                      rw [HQY.out] at h2
                      injection h1 with h1
                      injection h2 with h2
                      subst h1 h2
                      exact HLT.out), HOV.out, HBV.out⟩, by simp [intOf]; omega⟩
                  · have HLT := hid (HBT.out rfl)
                    clear HBT HBF
                    go_wp2_with fail
                    refine wp_region_quiet_below (by kernel_rfl) (by kernel_rfl) ?_
                    repeat (first | go_big_quiet_step ((go_at_call 57; with_reducible exact Calls.regrown_of (HBC.out _))) | quiet_step ((go_at_call 57; with_reducible exact Calls.regrown_of (HBC.out _))))
                    refine wpQuiet_nil ?_
                    intro _ hw'
                    obtain ⟨⟨dqV, osV⟩, hw2⟩ := hw'
                    subst hw2
                    have HQV := hid (below_regrown wr dqV osV)
                    generalize Sort.grow (redrawn wr dqV) osV = V at HQV ⊢
                    have hsV := HQV.out.size
                    have HOV := hid (show OwnK V w.heap.size (.slice (some ⟨g, 0, none⟩) kn mcap) Lk from OwnR.grow' HOK.out HQV.out)
                    have HBV := hid (HBK.out.trans (HQV.out.mono hzw))
                    clear a0 a1 a2 a3 b0 b1 b2 b3 HBC
                    go_wp2_with fail
                    obtain ⟨z1, C, z2, hC, hle, z3, hCs, z4⟩ := own_parts HOV.out
                    rw [List.length_map, HPK.out.length_eq, ← HKN.out] at hle
                    have hCn : kn * 4 ≤ C.size := by rw [hCs]; exact Nat.mul_le_mul_right 4 hle
                    have YC := hid hC
                    obtain ⟨g', gcap', hsl', hgb', hgs', hcells⟩ := OwnK.cells HOV.out (by rw [HPK.out.length_eq, ← HKN.out]; omega)
                    obtain rfl : g = g' := by injection hsl' with e; injection e with e; injection e
                    clear hsl'
                    have YP := hid (show ∀ j, j < 4 → V.cell? ⟨g, k * 4 + j, none⟩ = (⟨p0, p1, p2, p3⟩ : Ky).row[j]? from fun j hj => hcells k _ HPX.out j hj)
                    have YQ := hid (show ∀ j, j < 4 → V.cell? ⟨g, (k - 1) * 4 + j, none⟩ = (⟨q0, q1, q2, q3⟩ : Ky).row[j]? from fun j hj => hcells (k - 1) _ HQY.out j hj)
                    clear z1 z2 z3 z4 hcells hC hCs hle hgb'
                    refine gen_act (fun A0 hA => ?_)
                    refine wp_region_by (by kernel_rfl) (by kernel_rfl) [some 85, some 86, some 87, some 88, some 89, some 90, some 91, some 92, some 93, some 94, some 95, some 96, some 97, some 98, some 99, none, some 100, none] rfl (by decide) (TwoT V.drew (V.drew.setRow g (ptL C (k * 4) [.int .i64 q0, .int .i64 q1, .int .i64 q2, .int .i64 q3])) ((V.drew.setRow g (ptL C (k * 4) [.int .i64 q0, .int .i64 q1, .int .i64 q2, .int .i64 q3])).setRow g (ptL (ptL C (k * 4) [.int .i64 q0, .int .i64 q1, .int .i64 q2, .int .i64 q3]) ((k - 1) * 4) [.int .i64 p0, .int .i64 p1, .int .i64 p2, .int .i64 p3])) 15 17 [0, 1, 5, 6, 7, 8, 9, 13, 14] [.slice (some ⟨g, 0, none⟩) kn mcap, .int .i64 (k : Int), .slice (some ⟨g, 0, none⟩) kn mcap, .int .i64 (k : Int), .int .i64 ((k : Int) - 1), .slice (some ⟨g, 0, none⟩) kn mcap, .int .i64 (k : Int), .int .i64 ((k : Int) - 1), .pointer (some ⟨g, (k - 1) * 4, none⟩), .agg #[.int .i64 q0, .int .i64 q1, .int .i64 q2, .int .i64 q3], .slice (some ⟨g, 0, none⟩) kn mcap, .int .i64 (k : Int), .pointer (some ⟨g, k * 4, none⟩), .agg #[.int .i64 p0, .int .i64 p1, .int .i64 p2, .int .i64 p3], .pointer (some ⟨g, k * 4, none⟩), undef, .pointer (some ⟨g, (k - 1) * 4, none⟩), undef]) (selfF A0 _) (putF_self A0 _) TwoT.start ?hs1_26_W1 ?hend_26_W1
                    case hs1_26_W1 =>
                      refine ⟨?_, ?_, ?_, ?_, ?_, ?_, ?_, ?_, ?_, ?_, ?_, ?_, ?_, ?_, ?_, ?_, ?_, ?_, trivial⟩
                      · intro K L us W hK0 hL hd hR
                        have hK := hid (fun v A' h1 h2 => hK0 v A' W h1 (hR.pure 0 (by decide) (by decide) h2)); clear hK0
                        (try simp [Region.binds] at hd)
                        clear hd hR
                        simp only [putF]
                        rw [hA]
                        go_frame
                        go_wp2_with fail
                        exact hK.out _ _ (by rw [hA]; simp only [putF]; kernel_rfl) rfl
                      · intro K L us W hK0 hL hd hR
                        have hK := hid (fun v A' h1 h2 => hK0 v A' W h1 (hR.pure 1 (by decide) (by decide) h2)); clear hK0
                        (try simp [Region.binds] at hd)
                        clear hd hR
                        simp only [putF]
                        rw [hA]
                        go_frame
                        go_wp2_with fail
                        exact hK.out _ _ (by rw [hA]; simp only [putF]; kernel_rfl) rfl
                      · intro K L us W hK0 hL hd hR
                        have hK := hid (fun v A' h1 h2 => hK0 v A' W h1 (hR.pure 2 (by decide) (by decide) h2)); clear hK0
                        (try simp [Region.binds] at hd)
                        clear hd hR
                        simp only [putF]
                        rw [hA]
                        go_frame
                        go_wp2_with fail
                        exact hK.out _ _ (by rw [hA]; simp only [putF]; kernel_rfl) rfl
                      · intro K L us W hK0 hL hd hR
                        have hK := hid (fun v A' h1 h2 => hK0 v A' W h1 (hR.pure 3 (by decide) (by decide) h2)); clear hK0
                        (try simp [Region.binds] at hd)
                        clear hd hR
                        simp only [putF]
                        rw [hA]
                        go_frame
                        go_wp2_with fail
                        exact hK.out _ _ (by rw [hA]; simp only [putF]; kernel_rfl) rfl
                      · intro K L us W hK0 hL hd hR
                        have hK := hid (fun v A' h1 h2 => hK0 v A' W h1 (hR.pure 4 (by decide) (by decide) h2)); clear hK0
                        (try simp [Region.binds] at hd)
                        have e3 : us 3 = .int .i64 (k : Int) := hR.vals 3 (by simp [hd]) (by decide) (by decide)
                        clear hd hR
                        simp only [putF]
                        rw [hA, e3]
                        go_frame
                        go_wp2_with fail
                        exact hK.out _ _ (by rw [hA]; simp only [putF]; rw [e3]; kernel_rfl) rfl
                      · intro K L us W hK0 hL hd hR
                        have hK := hid (fun v A' h1 h2 => hK0 v A' W h1 (hR.pure 5 (by decide) (by decide) h2)); clear hK0
                        (try simp [Region.binds] at hd)
                        clear hd hR
                        simp only [putF]
                        rw [hA]
                        go_frame
                        go_wp2_with fail
                        exact hK.out _ _ (by rw [hA]; simp only [putF]; kernel_rfl) rfl
                      · intro K L us W hK0 hL hd hR
                        have hK := hid (fun v A' h1 h2 => hK0 v A' W h1 (hR.pure 6 (by decide) (by decide) h2)); clear hK0
                        (try simp [Region.binds] at hd)
                        clear hd hR
                        simp only [putF]
                        rw [hA]
                        go_frame
                        go_wp2_with fail
                        exact hK.out _ _ (by rw [hA]; simp only [putF]; kernel_rfl) rfl
                      · intro K L us W hK0 hL hd hR
                        have hK := hid (fun v A' h1 h2 => hK0 v A' W h1 (hR.pure 7 (by decide) (by decide) h2)); clear hK0
                        (try simp [Region.binds] at hd)
                        have e6 : us 6 = .int .i64 (k : Int) := hR.vals 6 (by simp [hd]) (by decide) (by decide)
                        clear hd hR
                        simp only [putF]
                        rw [hA, e6]
                        go_frame
                        go_wp2_with fail
                        exact hK.out _ _ (by rw [hA]; simp only [putF]; rw [e6]; kernel_rfl) rfl
                      · intro K L us W hK0 hL hd hR
                        have hK := hid (fun v A' h1 h2 => hK0 v A' W h1 (hR.pure 8 (by decide) (by decide) h2)); clear hK0
                        (try simp [Region.binds] at hd)
                        have e5 : us 5 = .slice (some ⟨g, 0, none⟩) kn mcap := hR.vals 5 (by simp [hd]) (by decide) (by decide)
                        have e7 : us 7 = .int .i64 ((k : Int) - 1) := hR.vals 7 (by simp [hd]) (by decide) (by decide)
                        clear hd hR
                        simp only [putF]
                        rw [hA, e5, e7]
                        go_frame
                        go_wp2_with fail
                        exact hK.out _ _ (by rw [hA]; simp only [putF]; rw [e5, e7]; kernel_rfl) rfl
                      · intro K L us W hK0 hL hd hR
                        have hK := hid (fun v A' h1 h2 => hK0 v A' W h1 (hR.pure 9 (by decide) (by decide) h2)); clear hK0
                        (try simp [Region.binds] at hd)
                        have e8 : us 8 = .pointer (some ⟨g, (k - 1) * 4, none⟩) := hR.vals 8 (by simp [hd]) (by decide) (by decide)
                        have hW := hR.at0 (k := 9) (by decide) hL
                        clear hd hR
                        subst hW
                        have c0 : V.drew.cell? ⟨g, (k - 1) * 4, none⟩ = some (.int .i64 q0) := YQ.out 0 (by decide)
                        have c1 : V.drew.cell? ⟨g, (k - 1) * 4 + 1, none⟩ = some (.int .i64 q1) := YQ.out 1 (by decide)
                        have c2 : V.drew.cell? ⟨g, (k - 1) * 4 + 2, none⟩ = some (.int .i64 q2) := YQ.out 2 (by decide)
                        have c3 : V.drew.cell? ⟨g, (k - 1) * 4 + 3, none⟩ = some (.int .i64 q3) := YQ.out 3 (by decide)
                        simp only [putF]
                        rw [hA, e8]
                        go_frame
                        go_wp2_with fail
                        exact hK.out _ _ (by rw [hA]; simp only [putF]; rw [e8]; kernel_rfl) rfl
                      · intro K L us W hK0 hL hd hR
                        have hK := hid (fun v A' h1 h2 => hK0 v A' W h1 (hR.pure 10 (by decide) (by decide) h2)); clear hK0
                        (try simp [Region.binds] at hd)
                        clear hd hR
                        simp only [putF]
                        rw [hA]
                        go_frame
                        go_wp2_with fail
                        exact hK.out _ _ (by rw [hA]; simp only [putF]; kernel_rfl) rfl
                      · intro K L us W hK0 hL hd hR
                        have hK := hid (fun v A' h1 h2 => hK0 v A' W h1 (hR.pure 11 (by decide) (by decide) h2)); clear hK0
                        (try simp [Region.binds] at hd)
                        clear hd hR
                        simp only [putF]
                        rw [hA]
                        go_frame
                        go_wp2_with fail
                        exact hK.out _ _ (by rw [hA]; simp only [putF]; kernel_rfl) rfl
                      · intro K L us W hK0 hL hd hR
                        have hK := hid (fun v A' h1 h2 => hK0 v A' W h1 (hR.pure 12 (by decide) (by decide) h2)); clear hK0
                        (try simp [Region.binds] at hd)
                        have e10 : us 10 = .slice (some ⟨g, 0, none⟩) kn mcap := hR.vals 10 (by simp [hd]) (by decide) (by decide)
                        have e11 : us 11 = .int .i64 (k : Int) := hR.vals 11 (by simp [hd]) (by decide) (by decide)
                        clear hd hR
                        simp only [putF]
                        rw [hA, e10, e11]
                        go_frame
                        go_wp2_with fail
                        exact hK.out _ _ (by rw [hA]; simp only [putF]; rw [e10, e11]; kernel_rfl) rfl
                      · intro K L us W hK0 hL hd hR
                        have hK := hid (fun v A' h1 h2 => hK0 v A' W h1 (hR.pure 13 (by decide) (by decide) h2)); clear hK0
                        (try simp [Region.binds] at hd)
                        have e12 : us 12 = .pointer (some ⟨g, k * 4, none⟩) := hR.vals 12 (by simp [hd]) (by decide) (by decide)
                        have hW := hR.at0 (k := 13) (by decide) hL
                        clear hd hR
                        subst hW
                        have c0 : V.drew.cell? ⟨g, k * 4, none⟩ = some (.int .i64 p0) := YP.out 0 (by decide)
                        have c1 : V.drew.cell? ⟨g, k * 4 + 1, none⟩ = some (.int .i64 p1) := YP.out 1 (by decide)
                        have c2 : V.drew.cell? ⟨g, k * 4 + 2, none⟩ = some (.int .i64 p2) := YP.out 2 (by decide)
                        have c3 : V.drew.cell? ⟨g, k * 4 + 3, none⟩ = some (.int .i64 p3) := YP.out 3 (by decide)
                        simp only [putF]
                        rw [hA, e12]
                        go_frame
                        go_wp2_with fail
                        exact hK.out _ _ (by rw [hA]; simp only [putF]; rw [e12]; kernel_rfl) rfl
                      · intro K L us W hK0 hL hd hR
                        have hK := hid (fun v A' h1 h2 => hK0 v A' W h1 (hR.pure 14 (by decide) (by decide) h2)); clear hK0
                        (try simp [Region.binds] at hd)
                        have e0 : us 0 = .slice (some ⟨g, 0, none⟩) kn mcap := hR.vals 0 (by simp [hd]) (by decide) (by decide)
                        have e1 : us 1 = .int .i64 (k : Int) := hR.vals 1 (by simp [hd]) (by decide) (by decide)
                        clear hd hR
                        simp only [putF]
                        rw [hA, e0, e1]
                        go_frame
                        go_wp2_with fail
                        exact hK.out _ _ (by rw [hA]; simp only [putF]; rw [e0, e1]; kernel_rfl) rfl
                      · intro K L us W hK0 hL hd hR
                        simp [Region.binds] at hd
                        have e14 : us 14 = .pointer (some ⟨g, k * 4, none⟩) := hR.vals 14 (by simp [hd]) (by decide) (by decide)
                        have e9 : us 9 = .agg #[.int .i64 q0, .int .i64 q1, .int .i64 q2, .int .i64 q3] := hR.vals 9 (by simp [hd]) (by decide) (by decide)
                        have hp : ∀ j ∈ [0, 1, 5, 6, 7, 8, 9, 13, 14], L j = true := by
                          intro j hj
                          simp only [List.mem_cons, List.not_mem_nil, or_false] at hj
                          rcases hj with rfl | rfl | rfl | rfl | rfl | rfl | rfl | rfl | rfl
                          all_goals (simp [hd])
                        have hW := (hR.fst (v := undef) hL hp (by decide)).1
                        have hK := hid (fun A' h1 => hK0 undef A' _ h1 (hR.fst hL hp (by decide)).2); clear hK0 hp
                        clear hd hR
                        subst hW
                        simp only [putF]
                        rw [hA, e14, e9]
                        go_frame
                        go_wp2_with (refine pt_store rfl 39 (.tmp 99) (.tmp 94) rfl g (k * 4) _ rfl rfl (show V.drew.heap[g]? = _ from YC.out) size39 rfl (by show k * 4 + 4 ≤ C.size; omega) rfl ?_)
                        exact hK.out _ (by rw [hA]; simp only [putF]; rw [e14, e9]; kernel_rfl)
                      · intro K L us W hK0 hL hd hR
                        have hK := hid (fun v A' h1 h2 => hK0 v A' W h1 (hR.pure 16 (by decide) (by decide) h2)); clear hK0
                        (try simp [Region.binds] at hd)
                        have e2 : us 2 = .slice (some ⟨g, 0, none⟩) kn mcap := hR.vals 2 (by simp [hd]) (by decide) (by decide)
                        have e4 : us 4 = .int .i64 ((k : Int) - 1) := hR.vals 4 (by simp [hd]) (by decide) (by decide)
                        clear hd hR
                        simp only [putF]
                        rw [hA, e2, e4]
                        go_frame
                        go_wp2_with fail
                        exact hK.out _ _ (by rw [hA]; simp only [putF]; rw [e2, e4]; kernel_rfl) rfl
                      · intro K L us W hK0 hL hd hR
                        simp [Region.binds] at hd
                        have e16 : us 16 = .pointer (some ⟨g, (k - 1) * 4, none⟩) := hR.vals 16 (by simp [hd]) (by decide) (by decide)
                        have e13 : us 13 = .agg #[.int .i64 p0, .int .i64 p1, .int .i64 p2, .int .i64 p3] := hR.vals 13 (by simp [hd]) (by decide) (by decide)
                        have h5 : L 15 = true := by simp [hd]
                        have hW := (hR.snd (v := undef) h5 hL).1
                        have hK := hid (fun A' h1 => hK0 undef A' _ h1 (hR.snd h5 hL).2); clear hK0
                        clear hd hR
                        subst hW
                        simp only [putF]
                        rw [hA, e16, e13]
                        go_frame
                        go_wp2_with (refine pt_store rfl 39 (.tmp 100) (.tmp 98) rfl g ((k - 1) * 4) _ rfl rfl (setRow_heap _ _ _ _ _ _ (show V.drew.heap[g]? = _ from YC.out)) size39 rfl (by show (k - 1) * 4 + 4 ≤ (ptL C (k * 4) _).size; rw [ptL_size]; omega) rfl ?_)
                        exact hK.out _ (by rw [hA]; simp only [putF]; rw [e16, e13]; kernel_rfl)
                    intro L us W1 hL hR
                    have hW : W1 = (V.drew.setRow g (ptL C (k * 4) [.int .i64 q0, .int .i64 q1, .int .i64 q2, .int .i64 q3])).setRow g (ptL (ptL C (k * 4) [.int .i64 q0, .int .i64 q1, .int .i64 q2, .int .i64 q3]) ((k - 1) * 4) [.int .i64 p0, .int .i64 p1, .int .i64 p2, .int .i64 p3]) := by have := hR.wld; rw [hL 17 (by decide)] at this; exact this
                    clear hR hL
                    simp only [putF]
                    rw [hA]
                    clear hA
                    go_frame
                    subst hW
                    have HO5 := hid (own_swapE (enc := Ky.row) (show OwnR V.drew w.heap.size 39 4 (.slice (some ⟨g, 0, none⟩) kn mcap) (Lk.map Ky.row) from OwnR.drew HOV.out) YC.out rfl rfl (Ky.row_one _) (Ky.row_one _) HPX.out HQY.out)
                    have HB5 := hid (fun X Y => below_row (X := Y) (below_row (X := X) (below_drew HBV.out) hgb) hgb)
                    simp only [Ky.row] at HO5
                    have HP5 := hid ((sw_perm HPX.out HQY.out).trans HPK.out)
                    have HI5 := hid (show InsAt Ky.lt ((Lk.set k ⟨q0, q1, q2, q3⟩).set (k - 1) ⟨p0, p1, p2, p3⟩) u (k - 1) by
                      have e : k = (k - 1) + 1 := by omega
                      have h := ins_step (r := Ky.lt) (k := k - 1) (fun x y h h2 => Ky.lt_irrefl _ (Ky.lt_trans h h2)) (by rw [← e]; exact HIN.out) (by omega) (by rw [← e]; exact HPX.out) HQY.out HLT.out
                      rw [← e] at h
                      exact h)
                    go_wp2_with fail
                    exact ⟨⟨k - 1, _, by omega, by congr 1; omega, HP5.out, HI5.out, HO5.out, HB5.out _ _⟩, by simp [intOf]; omega⟩
            · obtain rfl : u = kn := by omega
              have d2 : decide ((u : Int) < (u : Int)) = false := by simp
              have HDN := hid (show IsChg (A.map Te.tl) (B.map Te.tl) Ls from RefAt.done (K := K) (by rw [List.length_map, List.length_map, ← HN.out, ← HM0.out]; exact HREF.out) HPM.out (sortedTo_pw (by have := HST.out; rwa [HKN.out, ← HPM.out.length_eq] at this)))
              go_wp2_with fail
              go_ret
              exact ⟨⟨_, Ls, rfl, HOL.out, HDN.out⟩, HBW.out⟩
end Go.Proofs.Yteanlcefdoigcaa

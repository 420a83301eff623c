/- Within 104 of the reference. (Printed by wip/gen_rwithin.py.) -/
import Derived.Test.YtpablkmdpoombaaRRing
namespace Go.Proofs.Ytpablkmdpoombaa
open Go.RowKit

theorem rwithin_any (a b c : Int) (w : World) :
    Calls Try.prog 90 #[.int .i64 a, .int .i64 b, .int .i64 c] w fun e w' => e = .returned (.bool (inB b c a)) ∧ w = w' := by
  by_cases h1 : b ≤ a <;> by_cases h2 : a ≤ c
  all_goals
    go_enter Try.func90, Try.ntmps90
    go_wp2
    go_ret
    simp [inB, *]
theorem size137 : (Try.prog.info? 137).map (·.size) = some 2 := size174
theorem rem_next {i n : Nat} : ((i : Int) + 1) % (n : Int) = (((i + 1) % n : Nat) : Int) := by
  rw [Int.natCast_emod]; rfl
set_option maxRecDepth 100000 in
set_option maxHeartbeats 6400000 in
theorem rWithin_any (v : Value) (R : List Xy) (cx cy : Int) (w : World) (hR : XysV w v R) (hm : R.length ≤ maxLen) :
    Calls Try.prog 104 #[v, .agg #[.int .i64 cx, .int .i64 cy]] w fun r w' => r = .returned (.tuple #[.bool (withinB R ⟨cx, cy⟩), .int .i64 (withinE R ⟨cx, cy⟩)]) ∧ Below w.heap.size w w' := by
  obtain ⟨a, cap, rfl, hrow⟩ := hR
  have HVR := hid (fun W (hb : Below w.heap.size w W) => XysV.still (R := R) ⟨a, cap, rfl, hrow⟩ hb)
  have HROW := hid hrow
  have HM := hid hm
  clear hrow hm
  cases hr : ringB R
  · have HR := hid hr
    have HE := hid (show withinE R ⟨cx, cy⟩ = 72 by unfold withinE; rw [hr]; rfl)
    have HB := hid (show withinB R ⟨cx, cy⟩ = false by unfold withinB; rw [hr]; rfl)
    clear hr
    obtain ⟨n, hn⟩ : ∃ n, n = R.length := ⟨_, rfl⟩
    rw [← hn] at HVR ⊢
    have HN := hid hn
    clear hn
    go_enter Try.func104, Try.ntmps104
    go_wp2_with fail
    refine (rRing_any _ R _ (HVR.out _ ((Below.refl _ _).alloc (Nat.le_refl _) _)) HM.out).mono ?_
    rintro r w1 ⟨rfl, hb⟩
    rw [HR.out]
    go_wp2_with fail
    go_ret2
    exact ⟨by rw [HE.out, HB.out]; rfl, ((Below.refl _ _).alloc (Nat.le_refl _) _).trans (hb.mono (by simp))⟩
  · have HR := hid hr
    have hlen := ringB_len hr
    obtain ⟨b, off, rfl, hbw, hrows⟩ := HROW.out.resolve_left (fun h => by rw [h] at hlen; simp at hlen)
    have HRW := hid hrows
    have HBW := hid hbw
    clear HROW hrows
    cases hp : placeB cx cy
    · have HP := hid hp
      have HE := hid (show withinE R ⟨cx, cy⟩ = 11 by unfold withinE; rw [hr, show plX ⟨cx, cy⟩ = false from hp]; rfl)
      have HB := hid (show withinB R ⟨cx, cy⟩ = false by unfold withinB; rw [hr, show plX ⟨cx, cy⟩ = false from hp]; rfl)
      clear hp hr hlen
      obtain ⟨n, hn⟩ : ∃ n, n = R.length := ⟨_, rfl⟩
      rw [← hn] at HVR ⊢
      have HN := hid hn
      clear hn
      go_enter Try.func104, Try.ntmps104
      go_wp2_with fail
      refine (rRing_any _ R _ (HVR.out _ ((Below.refl _ _).alloc (Nat.le_refl _) _)) HM.out).mono ?_
      rintro r w1 ⟨rfl, hb⟩
      rw [HR.out]
      have K3 := hid (show w1.heap[w.heap.size]? = some (.cells #[.int .i64 cx, .int .i64 cy] 137) from heap_still hb (heap_alloc_at _ _ _ rfl))
      have HB1 := hid (((Below.refl w.heap.size w).alloc (Nat.le_refl _) (.cells #[.int .i64 cx, .int .i64 cy] 137)).trans (hb.mono (by simp)))
      clear hb
      go_wp2_with (refine wpList_load_at rfl 137 (.tmp 3) rfl rfl K3.out Try.underlying137 rfl size174 rfl ?_)
      refine (rplace_any _ _ _).mono ?_
      rintro r w2 ⟨rfl, hb⟩
      rw [HP.out]
      go_wp2_with fail
      go_ret2
      exact ⟨by rw [HE.out, HB.out]; rfl, HB1.out.trans (hb.mono HB1.out.size)⟩
    · have HP := hid hp
      have HE := hid (show withinE R ⟨cx, cy⟩ = 0 by unfold withinE; rw [hr, show plX ⟨cx, cy⟩ = true from hp]; rfl)
      have HB := hid (show withinB R ⟨cx, cy⟩ = withinS ⟨cx, cy⟩ (rSides R) by unfold withinB; rw [hr, show plX ⟨cx, cy⟩ = true from hp, inRingB_ref]; rfl)
      clear hp hr
      obtain ⟨n, hn⟩ : ∃ n, n = R.length := ⟨_, rfl⟩
      rw [← hn] at HVR hlen ⊢
      have HN := hid hn
      have h3n : 0 < n := by omega
      have hnm' : n ≤ 9223372036854775807 := by omega
      clear hn hlen
      go_enter Try.func104, Try.ntmps104
      go_wp2_with fail
      refine (rRing_any _ R _ (HVR.out _ ((Below.refl _ _).alloc (Nat.le_refl _) _)) HM.out).mono ?_
      rintro r w1 ⟨rfl, hb⟩
      rw [HR.out]
      have K3 := hid (show w1.heap[w.heap.size]? = some (.cells #[.int .i64 cx, .int .i64 cy] 137) from heap_still hb (heap_alloc_at _ _ _ rfl))
      have HB1 := hid (((Below.refl w.heap.size w).alloc (Nat.le_refl _) (.cells #[.int .i64 cx, .int .i64 cy] 137)).trans (hb.mono (by simp)))
      clear hb
      go_wp2_with (refine wpList_load_at rfl 137 (.tmp 3) rfl rfl K3.out Try.underlying137 rfl size174 rfl ?_)
      refine (rplace_any _ _ _).mono ?_
      rintro r w2 ⟨rfl, hb⟩
      rw [HP.out]
      have L3 := hid (heap_still hb K3.out)
      have HB2 := hid (HB1.out.trans (hb.mono HB1.out.size))
      clear hb K3 HB1
      go_wp2_with fail
      go_loopw [6, 7] (fun ov iv W => ∃ (i : Nat) (o : Bool), i ≤ n ∧ iv = .int .i64 (i : Int) ∧ ov = .bool o ∧ o = oddB ⟨cx, cy⟩ ((rSides R).take i) ∧ ((rSides R).take i).any (sOn ⟨cx, cy⟩) = false ∧ W.heap[w.heap.size]? = some (.cells #[.int .i64 cx, .int .i64 cy] 137) ∧ Below w.heap.size w W) (fun _ iv _ => n - (intOf iv).toNat)
      case atStart => exact ⟨0, false, by omega, rfl, rfl, rfl, rfl, L3.out, HB2.out⟩
      case round =>
        obtain ⟨i, o, hi, rfl, rfl, ho, hno, g3, hB⟩ := hrel
        have HO := hid ho
        have HNO := hid hno
        have HBwr := hid hB
        have H3 := hid g3
        have hzwr := hB.size
        have hg3 : w.heap.size < wr.heap.size := (Array.getElem?_eq_some_iff.1 g3).1
        clear ho hno hB g3 L3 HB2
        by_cases hlt : i < n
        · have d2 : decide ((i : Int) < (n : Int)) = true := decide_eq_true (by omega)
          obtain ⟨p, hp⟩ : ∃ p, R[i]? = some p := ⟨_, List.getElem?_eq_getElem (by rw [← HN.out]; exact hlt)⟩
          obtain ⟨kn, hj⟩ : ∃ kn, kn = (i + 1) % n := ⟨_, rfl⟩
          have hjn : kn < n := by rw [hj]; exact Nat.mod_lt _ h3n
          obtain ⟨q, hq⟩ : ∃ q, R[kn]? = some q := ⟨_, List.getElem?_eq_getElem (by rw [← HN.out]; exact hjn)⟩
          have HREM := hid (show ((i : Int) + 1) % (n : Int) = ((kn : Nat) : Int) by rw [hj]; exact rem_next)
          have HE1 := hid (rSides_at hp (by rw [← HN.out, ← hj]; exact hq))
          have HPL := hid (show plX p = true from ringB_all HR.out (List.mem_of_getElem? hp))
          have HQL := hid (show plX q = true from ringB_all HR.out (List.mem_of_getElem? hq))
          obtain ⟨p0, p1⟩ := xys_cells HRW.out hp HBwr.out HBW.out
          obtain ⟨q0, q1⟩ := xys_cells HRW.out hq HBwr.out HBW.out
          clear hp hq hj
          obtain ⟨px, py⟩ := p
          obtain ⟨qx, qy⟩ := q
          have P0 := hid (show wr.cell? ⟨b, off + i * 2, none⟩ = some (.int .i64 px) from p0)
          have P1 := hid (show wr.cell? ⟨b, off + i * 2 + 1, none⟩ = some (.int .i64 py) from p1)
          have Q0 := hid (show wr.cell? ⟨b, off + kn * 2, none⟩ = some (.int .i64 qx) from q0)
          have Q1 := hid (show wr.cell? ⟨b, off + kn * 2 + 1, none⟩ = some (.int .i64 qy) from q1)
          have HBR := hid (Nat.lt_of_lt_of_le HBW.out hzwr)
          clear p0 p1 q0 q1
          go_upto_region 9 with fail
          refine gen_act (fun A0 hA => ?_)
          refine wp_region_by (by kernel_rfl) (by kernel_rfl) [some 25, some 26, some 27, some 28, some 29, some 30, some 31, some 32, some 33, some 34, some 35, some 36, some 8, some 9, none, none] rfl (by decide) (BoxR wr 12 2 (fun j => [.slice (some ⟨b, off, none⟩) n cap, .int .i64 (i : Int), .pointer (some ⟨b, off + i * 2, none⟩), .agg #[.int .i64 px, .int .i64 py], .slice (some ⟨b, off, none⟩) n cap, .int .i64 (i : Int), .int .i64 ((i : Int) + 1), .slice (some ⟨b, off, none⟩) n cap, .int .i64 (n : Int), .int .i64 (kn : Int), .pointer (some ⟨b, off + kn * 2, none⟩), .agg #[.int .i64 qx, .int .i64 qy]].getD j undef) (fun i => [#[.int .i64 0, .int .i64 0], #[.int .i64 0, .int .i64 0]].getD i #[]) (fun i => [#[.int .i64 px, .int .i64 py], #[.int .i64 qx, .int .i64 qy]].getD i #[]) (fun i => ([137, 137] : List Nat).getD i 0)) (selfF A0 _) (putF_self A0 _) BoxR.start ?hs1_9_W1 ?hend_9_W1
          case hs1_9_W1 =>
            refine ⟨?_, ?_, ?_, ?_, ?_, ?_, ?_, ?_, ?_, ?_, ?_, ?_, ?_, ?_, ?_, ?_, trivial⟩
            · intro K L us W hK0 hL hd hR
              have hK := hid (fun v A' W' h1 h2 h3 => hK0 v A' W' h1 (hR.pure (k := 0) (by decide) h2 h3)); clear hK0
              (try simp [Region.binds] at hd)
              have hB := hR.grow
              have GB := hid hB
              clear hd hR hB
              simp only [putF]
              rw [hA]
              go_frame
              go_wp2_with fail
              exact hK.out _ _ _ (by rw [hA]; simp only [putF]; kernel_rfl) (Below.refl _ _) rfl
            · intro K L us W hK0 hL hd hR
              have hK := hid (fun v A' W' h1 h2 h3 => hK0 v A' W' h1 (hR.pure (k := 1) (by decide) h2 h3)); clear hK0
              (try simp [Region.binds] at hd)
              have hB := hR.grow
              have GB := hid hB
              clear hd hR hB
              simp only [putF]
              rw [hA]
              go_frame
              go_wp2_with fail
              exact hK.out _ _ _ (by rw [hA]; simp only [putF]; kernel_rfl) (Below.refl _ _) rfl
            · intro K L us W hK0 hL hd hR
              have hK := hid (fun v A' W' h1 h2 h3 => hK0 v A' W' h1 (hR.pure (k := 2) (by decide) h2 h3)); clear hK0
              (try simp [Region.binds] at hd)
              have hB := hR.grow
              have GB := hid hB
              have e0 : us 0 = .slice (some ⟨b, off, none⟩) n cap := hR.vals 0 (by decide) (by first | exact hd | exact hd.1 | exact hd.2.1 | simp_all)
              have e1 : us 1 = .int .i64 (i : Int) := hR.vals 1 (by decide) (by first | exact hd | exact hd.1 | exact hd.2.1 | simp_all)
              clear hd hR hB
              simp only [putF]
              rw [hA, e0, e1]
              go_frame
              go_wp2_with fail
              exact hK.out _ _ _ (by rw [hA]; simp only [putF]; rw [e0, e1]; kernel_rfl) (Below.refl _ _) rfl
            · intro K L us W hK0 hL hd hR
              have hK := hid (fun v A' W' h1 h2 h3 => hK0 v A' W' h1 (hR.pure (k := 3) (by decide) h2 h3)); clear hK0
              (try simp [Region.binds] at hd)
              have hB := hR.grow
              have GB := hid hB
              have e2 : us 2 = .pointer (some ⟨b, off + i * 2, none⟩) := hR.vals 2 (by decide) (by first | exact hd | exact hd.1 | exact hd.2.1 | simp_all)
              have c0 : W.cell? ⟨b, off + i * 2, none⟩ = some (.int .i64 px) := by rw [hB.cell HBR.out]; exact P0.out
              have c1 : W.cell? ⟨b, off + i * 2 + 1, none⟩ = some (.int .i64 py) := by rw [hB.cell HBR.out]; exact P1.out
              clear hd hR hB
              simp only [putF]
              rw [hA, e2]
              go_frame
              go_wp2_with fail
              exact hK.out _ _ _ (by rw [hA]; simp only [putF]; rw [e2]; kernel_rfl) (Below.refl _ _) rfl
            · intro K L us W hK0 hL hd hR
              have hK := hid (fun v A' W' h1 h2 h3 => hK0 v A' W' h1 (hR.pure (k := 4) (by decide) h2 h3)); clear hK0
              (try simp [Region.binds] at hd)
              have hB := hR.grow
              have GB := hid hB
              clear hd hR hB
              simp only [putF]
              rw [hA]
              go_frame
              go_wp2_with fail
              exact hK.out _ _ _ (by rw [hA]; simp only [putF]; kernel_rfl) (Below.refl _ _) rfl
            · intro K L us W hK0 hL hd hR
              have hK := hid (fun v A' W' h1 h2 h3 => hK0 v A' W' h1 (hR.pure (k := 5) (by decide) h2 h3)); clear hK0
              (try simp [Region.binds] at hd)
              have hB := hR.grow
              have GB := hid hB
              clear hd hR hB
              simp only [putF]
              rw [hA]
              go_frame
              go_wp2_with fail
              exact hK.out _ _ _ (by rw [hA]; simp only [putF]; kernel_rfl) (Below.refl _ _) rfl
            · intro K L us W hK0 hL hd hR
              have hK := hid (fun v A' W' h1 h2 h3 => hK0 v A' W' h1 (hR.pure (k := 6) (by decide) h2 h3)); clear hK0
              (try simp [Region.binds] at hd)
              have hB := hR.grow
              have GB := hid hB
              have e5 : us 5 = .int .i64 (i : Int) := hR.vals 5 (by decide) (by first | exact hd | exact hd.1 | exact hd.2.1 | simp_all)
              clear hd hR hB
              simp only [putF]
              rw [hA, e5]
              go_frame
              go_wp2_with fail
              exact hK.out _ _ _ (by rw [hA]; simp only [putF]; rw [e5]; kernel_rfl) (Below.refl _ _) rfl
            · intro K L us W hK0 hL hd hR
              have hK := hid (fun v A' W' h1 h2 h3 => hK0 v A' W' h1 (hR.pure (k := 7) (by decide) h2 h3)); clear hK0
              (try simp [Region.binds] at hd)
              have hB := hR.grow
              have GB := hid hB
              clear hd hR hB
              simp only [putF]
              rw [hA]
              go_frame
              go_wp2_with fail
              exact hK.out _ _ _ (by rw [hA]; simp only [putF]; kernel_rfl) (Below.refl _ _) rfl
            · intro K L us W hK0 hL hd hR
              have hK := hid (fun v A' W' h1 h2 h3 => hK0 v A' W' h1 (hR.pure (k := 8) (by decide) h2 h3)); clear hK0
              (try simp [Region.binds] at hd)
              have hB := hR.grow
              have GB := hid hB
              have e7 : us 7 = .slice (some ⟨b, off, none⟩) n cap := hR.vals 7 (by decide) (by first | exact hd | exact hd.1 | exact hd.2.1 | simp_all)
              clear hd hR hB
              simp only [putF]
              rw [hA, e7]
              go_frame
              go_wp2_with fail
              exact hK.out _ _ _ (by rw [hA]; simp only [putF]; rw [e7]; kernel_rfl) (Below.refl _ _) rfl
            · intro K L us W hK0 hL hd hR
              have hK := hid (fun v A' W' h1 h2 h3 => hK0 v A' W' h1 (hR.pure (k := 9) (by decide) h2 h3)); clear hK0
              (try simp [Region.binds] at hd)
              have hB := hR.grow
              have GB := hid hB
              have e6 : us 6 = .int .i64 ((i : Int) + 1) := hR.vals 6 (by decide) (by first | exact hd | exact hd.1 | exact hd.2.1 | simp_all)
              have e8 : us 8 = .int .i64 (n : Int) := hR.vals 8 (by decide) (by first | exact hd | exact hd.1 | exact hd.2.1 | simp_all)
              clear hd hR hB
              simp only [putF]
              rw [hA, e6, e8]
              go_frame
              go_wp2_with fail
              rw [HREM.out]
              exact hK.out _ _ _ (by rw [hA]; simp only [putF]; rw [e6, e8]; kernel_rfl) (Below.refl _ _) rfl
            · intro K L us W hK0 hL hd hR
              have hK := hid (fun v A' W' h1 h2 h3 => hK0 v A' W' h1 (hR.pure (k := 10) (by decide) h2 h3)); clear hK0
              (try simp [Region.binds] at hd)
              have hB := hR.grow
              have GB := hid hB
              have e4 : us 4 = .slice (some ⟨b, off, none⟩) n cap := hR.vals 4 (by decide) (by first | exact hd | exact hd.1 | exact hd.2.1 | simp_all)
              have e9 : us 9 = .int .i64 (kn : Int) := hR.vals 9 (by decide) (by first | exact hd | exact hd.1 | exact hd.2.1 | simp_all)
              clear hd hR hB
              simp only [putF]
              rw [hA, e4, e9]
              go_frame
              go_wp2_with fail
              exact hK.out _ _ _ (by rw [hA]; simp only [putF]; rw [e4, e9]; kernel_rfl) (Below.refl _ _) rfl
            · intro K L us W hK0 hL hd hR
              have hK := hid (fun v A' W' h1 h2 h3 => hK0 v A' W' h1 (hR.pure (k := 11) (by decide) h2 h3)); clear hK0
              (try simp [Region.binds] at hd)
              have hB := hR.grow
              have GB := hid hB
              have e10 : us 10 = .pointer (some ⟨b, off + kn * 2, none⟩) := hR.vals 10 (by decide) (by first | exact hd | exact hd.1 | exact hd.2.1 | simp_all)
              have c0 : W.cell? ⟨b, off + kn * 2, none⟩ = some (.int .i64 qx) := by rw [hB.cell HBR.out]; exact Q0.out
              have c1 : W.cell? ⟨b, off + kn * 2 + 1, none⟩ = some (.int .i64 qy) := by rw [hB.cell HBR.out]; exact Q1.out
              clear hd hR hB
              simp only [putF]
              rw [hA, e10]
              go_frame
              go_wp2_with fail
              exact hK.out _ _ _ (by rw [hA]; simp only [putF]; rw [e10]; kernel_rfl) (Below.refl _ _) rfl
            · intro K L us W hK0 hL hd hR
              have hK := hid hK0; clear hK0
              have hR2 := hid (hR.alloc (i := 0) (by decide) hL)
              clear hd hR
              simp only [putF]
              rw [hA]
              go_frame
              go_wp2_with fail
              exact hK.out (.pointer (some ⟨W.heap.size, 0, none⟩)) _ _ (by rw [hA]; kernel_rfl) hR2.out
            · intro K L us W hK0 hL hd hR
              have hK := hid hK0; clear hK0
              have hR2 := hid (hR.alloc (i := 1) (by decide) hL)
              clear hd hR
              simp only [putF]
              rw [hA]
              go_frame
              go_wp2_with fail
              exact hK.out (.pointer (some ⟨W.heap.size, 0, none⟩)) _ _ (by rw [hA]; kernel_rfl) hR2.out
            · intro K L us W hK0 hL hd hR
              have hK := hid hK0; clear hK0
              (try simp [Region.binds] at hd)
              have hla : L 12 = true := by first | exact hd.1 | exact hd | exact hd.2.1 | simp_all
              have hls : L 3 = true := by first | exact hd.2.1 | exact hd.2 | exact hd.1 | simp_all
              obtain ⟨gbx, e0, hg, hh⟩ := hR.box 0 (by decide) hla
              have hL2 : L (12 + 2 + 0) = false := hL
              rw [hL2, if_neg (by decide)] at hh
              have e1 : us 3 = .agg #[.int .i64 px, .int .i64 py] := hR.vals 3 (by decide) hls
              have hR2 := hid (hR.store (i := 0) (v := undef) (by decide) hla e0 hg hh)
              have hh2 : W.heap[gbx]? = some (.cells #[.int .i64 0, .int .i64 0] 137) := hh
              have e2 : us 12 = .pointer (some ⟨gbx, 0, none⟩) := e0
              have HH := hid hh2
              clear hd hR hh e0 hL2
              simp only [putF]
              rw [hA, e2, e1]
              go_frame
              go_wp2_with (refine wpList_store_at rfl 137 (.tmp 8) (.tmp 28) rfl rfl rfl HH.out size137 rfl rfl rfl ?_)
              exact hK.out undef _ _ (by rw [hA]; simp only [putF]; rw [e2, e1]; kernel_rfl) hR2.out
            · intro K L us W hK0 hL hd hR
              have hK := hid hK0; clear hK0
              (try simp [Region.binds] at hd)
              have hla : L 13 = true := by first | exact hd.1 | exact hd | exact hd.2.1 | simp_all
              have hls : L 11 = true := by first | exact hd.2.1 | exact hd.2 | exact hd.1 | simp_all
              obtain ⟨gbx, e0, hg, hh⟩ := hR.box 1 (by decide) hla
              have hL2 : L (12 + 2 + 1) = false := hL
              rw [hL2, if_neg (by decide)] at hh
              have e1 : us 11 = .agg #[.int .i64 qx, .int .i64 qy] := hR.vals 11 (by decide) hls
              have hR2 := hid (hR.store (i := 1) (v := undef) (by decide) hla e0 hg hh)
              have hh2 : W.heap[gbx]? = some (.cells #[.int .i64 0, .int .i64 0] 137) := hh
              have e2 : us 13 = .pointer (some ⟨gbx, 0, none⟩) := e0
              have HH := hid hh2
              clear hd hR hh e0 hL2
              simp only [putF]
              rw [hA, e2, e1]
              go_frame
              go_wp2_with (refine wpList_store_at rfl 137 (.tmp 9) (.tmp 36) rfl rfl rfl HH.out size137 rfl rfl rfl ?_)
              exact hK.out undef _ _ (by rw [hA]; simp only [putF]; rw [e2, e1]; kernel_rfl) hR2.out
          intro L us W1 hL hR
          obtain ⟨g8, e8, hg8, hh8⟩ := hR.box 0 (by decide) (hL _ (by decide))
          rw [if_pos (hL _ (by decide))] at hh8
          have HH8 := hid (show W1.heap[g8]? = some (.cells #[.int .i64 px, .int .i64 py] 137) from hh8)
          have e8 : us 12 = .pointer (some ⟨g8, 0, none⟩) := e8
          obtain ⟨g9, e9, hg9, hh9⟩ := hR.box 1 (by decide) (hL _ (by decide))
          rw [if_pos (hL _ (by decide))] at hh9
          have HH9 := hid (show W1.heap[g9]? = some (.cells #[.int .i64 qx, .int .i64 qy] 137) from hh9)
          have e9 : us 13 = .pointer (some ⟨g9, 0, none⟩) := e9
          have hne8_9 : g8 ≠ g9 := fun h => hR.ne 0 1 (by decide) (by decide) (by decide) (hL _ (by decide)) (hL _ (by decide)) (by rw [show us (12 + 0) = _ from e8, show us (12 + 1) = _ from e9, h])
          have HB1 := hid (HBwr.out.trans (hR.grow.mono HBwr.out.size))
          have HSW1 := hid (fun n x => @heap_still _ _ n x hR.grow)
          have hzW1 := hR.grow.size
          simp only [putF]
          rw [hA, e8, e9]
          clear hA hR hL hh8 e8 hh9 e9
          go_frame
          have M3 := hid (HSW1.out _ _ H3.out)
          have hz1 := HB1.out.size
          clear e8 e9 P0 P1 Q0 Q1 HREM H3 HSW1 hg8 hg9 hne8_9
          obtain ⟨N, hN⟩ : ∃ N, N = tnV px py qx qy cx cy := ⟨_, rfl⟩
          have HN1 := hid hN
          have HON := hid (show onV px py qx qy cx cy = (N == 0 && inB (min px qx) (max px qx) cx && inB (min py qy) (max py qy) cy) by rw [hN]; rfl)
          have HCR := hid (show crV px py qx qy cx cy = ((decide (py ≤ cy) && decide (cy < qy)) && decide (0 < N) || (decide (cy < py) && decide (qy ≤ cy)) && decide (N < 0)) by rw [← crR_eq (a := ⟨px, py⟩) (b := ⟨qx, qy⟩) (c := ⟨cx, cy⟩) HPL.out HQL.out HP.out, hN]; rfl)
          clear hN
          go_wp2_with (first | (refine wpList_load_at rfl 137 (.tmp 8) rfl rfl HH8.out Try.underlying137 rfl size174 rfl ?_) | (refine wpList_load_at rfl 137 (.tmp 9) rfl rfl HH9.out Try.underlying137 rfl size174 rfl ?_) | (refine wpList_load_at rfl 137 (.tmp 3) rfl rfl M3.out Try.underlying137 rfl size174 rfl ?_))
          refine (rturn_any _ _ _ _ _ _ _).mono ?_
          rintro r w5 ⟨rfl, hb⟩
          rw [← HN1.out]
          have K3 := hid (heap_still hb M3.out)
          have K8 := hid (heap_still hb HH8.out)
          have K9 := hid (heap_still hb HH9.out)
          have HB5 := hid (HB1.out.trans (hb.mono hz1))
          clear hb M3 HH8 HH9 HB1
          have a0 : w5.cell? ⟨w.heap.size, 0, none⟩ = some (.int .i64 cx) := (cell_row (j := 0) K3.out).trans rfl
          have a1 : w5.cell? ⟨w.heap.size, 1, none⟩ = some (.int .i64 cy) := (cell_row (j := 1) K3.out).trans rfl
          have b0 : w5.cell? ⟨g8, 0, none⟩ = some (.int .i64 px) := (cell_row (j := 0) K8.out).trans rfl
          have b1 : w5.cell? ⟨g8, 1, none⟩ = some (.int .i64 py) := (cell_row (j := 1) K8.out).trans rfl
          have f0 : w5.cell? ⟨g9, 0, none⟩ = some (.int .i64 qx) := (cell_row (j := 0) K9.out).trans rfl
          have f1 : w5.cell? ⟨g9, 1, none⟩ = some (.int .i64 qy) := (cell_row (j := 1) K9.out).trans rfl
          by_cases hN0 : N = 0
          · have d3 : decide (N = (0 : Int)) = true := decide_eq_true hN0
            have d4 : (N == (0 : Int)) = true := by simpa using hN0
            rw [d4] at HON
            have dS : decide ((0 : Int) < N) = false := decide_eq_false (by omega)
            have dT : decide (N < (0 : Int)) = false := decide_eq_false (by omega)
            clear hN0
            rw [dS, dT] at HCR
            cases h1 : inB (min px qx) (max px qx) cx
            · have H1 := hid h1
              rw [h1] at HON
              clear h1
              go_wp2_with fail
              refine (rwithin_any _ _ _ _).mono ?_
              rintro r w6 ⟨rfl, rfl⟩
              rw [H1.out]
              have HNX := hid (any_snoc HE1.out HNO.out (show onV px py qx qy cx cy = false by rw [HON.out]; simp))
              clear HON
              by_cases hp : py ≤ cy <;> by_cases hq : cy < qy
              · have dA : decide (py ≤ cy) = true := decide_eq_true (by omega)
                have dB : decide (cy < qy) = true := decide_eq_true (by omega)
                have dC : decide (cy < py) = false := decide_eq_false (by omega)
                have dD : decide (qy ≤ cy) = false := decide_eq_false (by omega)
                rw [dA, dB, dC, dD] at HCR
                have HON1 := hid (show o = oddB ⟨cx, cy⟩ ((rSides R).take (i + 1)) by
                  rw [oddB_next HE1.out, show sCr ⟨cx, cy⟩ (⟨px, py⟩, ⟨qx, qy⟩) = false from HCR.out, HO.out]; rfl)
                clear hp hq HCR
                go_wp2_with fail
                exact ⟨⟨i + 1, _, by omega, by go_num, rfl, HON1.out, HNX.out, K3.out, HB5.out⟩, by simp [intOf]; omega⟩
              · have dA : decide (py ≤ cy) = true := decide_eq_true (by omega)
                have dB : decide (cy < qy) = false := decide_eq_false (by omega)
                have dC : decide (cy < py) = false := decide_eq_false (by omega)
                have dD : decide (qy ≤ cy) = true := decide_eq_true (by omega)
                rw [dA, dB, dC, dD] at HCR
                have HON1 := hid (show o = oddB ⟨cx, cy⟩ ((rSides R).take (i + 1)) by
                  rw [oddB_next HE1.out, show sCr ⟨cx, cy⟩ (⟨px, py⟩, ⟨qx, qy⟩) = false from HCR.out, HO.out]; rfl)
                clear hp hq HCR
                go_wp2_with fail
                exact ⟨⟨i + 1, _, by omega, by go_num, rfl, HON1.out, HNX.out, K3.out, HB5.out⟩, by simp [intOf]; omega⟩
              · have dA : decide (py ≤ cy) = false := decide_eq_false (by omega)
                have dB : decide (cy < qy) = true := decide_eq_true (by omega)
                have dC : decide (cy < py) = true := decide_eq_true (by omega)
                have dD : decide (qy ≤ cy) = false := decide_eq_false (by omega)
                rw [dA, dB, dC, dD] at HCR
                have HON1 := hid (show o = oddB ⟨cx, cy⟩ ((rSides R).take (i + 1)) by
                  rw [oddB_next HE1.out, show sCr ⟨cx, cy⟩ (⟨px, py⟩, ⟨qx, qy⟩) = false from HCR.out, HO.out]; rfl)
                clear hp hq HCR
                go_wp2_with fail
                exact ⟨⟨i + 1, _, by omega, by go_num, rfl, HON1.out, HNX.out, K3.out, HB5.out⟩, by simp [intOf]; omega⟩
              · have dA : decide (py ≤ cy) = false := decide_eq_false (by omega)
                have dB : decide (cy < qy) = false := decide_eq_false (by omega)
                have dC : decide (cy < py) = true := decide_eq_true (by omega)
                have dD : decide (qy ≤ cy) = true := decide_eq_true (by omega)
                rw [dA, dB, dC, dD] at HCR
                have HON1 := hid (show o = oddB ⟨cx, cy⟩ ((rSides R).take (i + 1)) by
                  rw [oddB_next HE1.out, show sCr ⟨cx, cy⟩ (⟨px, py⟩, ⟨qx, qy⟩) = false from HCR.out, HO.out]; rfl)
                clear hp hq HCR
                go_wp2_with fail
                exact ⟨⟨i + 1, _, by omega, by go_num, rfl, HON1.out, HNX.out, K3.out, HB5.out⟩, by simp [intOf]; omega⟩
            · have H1 := hid h1
              rw [h1] at HON
              clear h1
              go_wp2_with fail
              refine (rwithin_any _ _ _ _).mono ?_
              rintro r w6 ⟨rfl, rfl⟩
              rw [H1.out]
              go_wp2_with fail
              refine (rwithin_any _ _ _ _).mono ?_
              rintro r w6 ⟨rfl, rfl⟩
              cases h2 : inB (min py qy) (max py qy) cy
              · have H2 := hid h2
                rw [h2] at HON
                clear h2
                have HNX := hid (any_snoc HE1.out HNO.out (show onV px py qx qy cx cy = false by rw [HON.out]; simp))
                clear HON
                by_cases hp : py ≤ cy <;> by_cases hq : cy < qy
                · have dA : decide (py ≤ cy) = true := decide_eq_true (by omega)
                  have dB : decide (cy < qy) = true := decide_eq_true (by omega)
                  have dC : decide (cy < py) = false := decide_eq_false (by omega)
                  have dD : decide (qy ≤ cy) = false := decide_eq_false (by omega)
                  rw [dA, dB, dC, dD] at HCR
                  have HON1 := hid (show o = oddB ⟨cx, cy⟩ ((rSides R).take (i + 1)) by
                    rw [oddB_next HE1.out, show sCr ⟨cx, cy⟩ (⟨px, py⟩, ⟨qx, qy⟩) = false from HCR.out, HO.out]; rfl)
                  clear hp hq HCR
                  go_wp2_with fail
                  exact ⟨⟨i + 1, _, by omega, by go_num, rfl, HON1.out, HNX.out, K3.out, HB5.out⟩, by simp [intOf]; omega⟩
                · have dA : decide (py ≤ cy) = true := decide_eq_true (by omega)
                  have dB : decide (cy < qy) = false := decide_eq_false (by omega)
                  have dC : decide (cy < py) = false := decide_eq_false (by omega)
                  have dD : decide (qy ≤ cy) = true := decide_eq_true (by omega)
                  rw [dA, dB, dC, dD] at HCR
                  have HON1 := hid (show o = oddB ⟨cx, cy⟩ ((rSides R).take (i + 1)) by
                    rw [oddB_next HE1.out, show sCr ⟨cx, cy⟩ (⟨px, py⟩, ⟨qx, qy⟩) = false from HCR.out, HO.out]; rfl)
                  clear hp hq HCR
                  go_wp2_with fail
                  exact ⟨⟨i + 1, _, by omega, by go_num, rfl, HON1.out, HNX.out, K3.out, HB5.out⟩, by simp [intOf]; omega⟩
                · have dA : decide (py ≤ cy) = false := decide_eq_false (by omega)
                  have dB : decide (cy < qy) = true := decide_eq_true (by omega)
                  have dC : decide (cy < py) = true := decide_eq_true (by omega)
                  have dD : decide (qy ≤ cy) = false := decide_eq_false (by omega)
                  rw [dA, dB, dC, dD] at HCR
                  have HON1 := hid (show o = oddB ⟨cx, cy⟩ ((rSides R).take (i + 1)) by
                    rw [oddB_next HE1.out, show sCr ⟨cx, cy⟩ (⟨px, py⟩, ⟨qx, qy⟩) = false from HCR.out, HO.out]; rfl)
                  clear hp hq HCR
                  go_wp2_with fail
                  exact ⟨⟨i + 1, _, by omega, by go_num, rfl, HON1.out, HNX.out, K3.out, HB5.out⟩, by simp [intOf]; omega⟩
                · have dA : decide (py ≤ cy) = false := decide_eq_false (by omega)
                  have dB : decide (cy < qy) = false := decide_eq_false (by omega)
                  have dC : decide (cy < py) = true := decide_eq_true (by omega)
                  have dD : decide (qy ≤ cy) = true := decide_eq_true (by omega)
                  rw [dA, dB, dC, dD] at HCR
                  have HON1 := hid (show o = oddB ⟨cx, cy⟩ ((rSides R).take (i + 1)) by
                    rw [oddB_next HE1.out, show sCr ⟨cx, cy⟩ (⟨px, py⟩, ⟨qx, qy⟩) = false from HCR.out, HO.out]; rfl)
                  clear hp hq HCR
                  go_wp2_with fail
                  exact ⟨⟨i + 1, _, by omega, by go_num, rfl, HON1.out, HNX.out, K3.out, HB5.out⟩, by simp [intOf]; omega⟩
              · have HV := hid (show withinS ⟨cx, cy⟩ (rSides R) = true from withinS_on HE1.out (show onV px py qx qy cx cy = true by rw [HON.out, h2]; rfl))
                clear h2
                go_wp2_with fail
                go_ret2
                exact ⟨by rw [HE.out, HB.out, HV.out]; rfl, HB5.out⟩
          · have d3 : decide (N = (0 : Int)) = false := decide_eq_false hN0
            have d4 : (N == (0 : Int)) = false := by simpa using hN0
            rw [d4] at HON
            by_cases hs : 0 < N
            · have dS : decide ((0 : Int) < N) = true := decide_eq_true hs
              have dT : decide (N < (0 : Int)) = false := decide_eq_false (by omega)
              clear hN0 hs
              rw [dS, dT] at HCR
              have HNX := hid (any_snoc HE1.out HNO.out (show onV px py qx qy cx cy = false by rw [HON.out]; simp))
              clear HON
              by_cases hp : py ≤ cy <;> by_cases hq : cy < qy
              · have dA : decide (py ≤ cy) = true := decide_eq_true (by omega)
                have dB : decide (cy < qy) = true := decide_eq_true (by omega)
                have dC : decide (cy < py) = false := decide_eq_false (by omega)
                have dD : decide (qy ≤ cy) = false := decide_eq_false (by omega)
                rw [dA, dB, dC, dD] at HCR
                have HON1 := hid (show (!o) = oddB ⟨cx, cy⟩ ((rSides R).take (i + 1)) by
                  rw [oddB_next HE1.out, show sCr ⟨cx, cy⟩ (⟨px, py⟩, ⟨qx, qy⟩) = true from HCR.out, HO.out]; rfl)
                clear hp hq HCR
                go_wp2_with fail
                exact ⟨⟨i + 1, _, by omega, by go_num, rfl, HON1.out, HNX.out, K3.out, HB5.out⟩, by simp [intOf]; omega⟩
              · have dA : decide (py ≤ cy) = true := decide_eq_true (by omega)
                have dB : decide (cy < qy) = false := decide_eq_false (by omega)
                have dC : decide (cy < py) = false := decide_eq_false (by omega)
                have dD : decide (qy ≤ cy) = true := decide_eq_true (by omega)
                rw [dA, dB, dC, dD] at HCR
                have HON1 := hid (show o = oddB ⟨cx, cy⟩ ((rSides R).take (i + 1)) by
                  rw [oddB_next HE1.out, show sCr ⟨cx, cy⟩ (⟨px, py⟩, ⟨qx, qy⟩) = false from HCR.out, HO.out]; rfl)
                clear hp hq HCR
                go_wp2_with fail
                exact ⟨⟨i + 1, _, by omega, by go_num, rfl, HON1.out, HNX.out, K3.out, HB5.out⟩, by simp [intOf]; omega⟩
              · have dA : decide (py ≤ cy) = false := decide_eq_false (by omega)
                have dB : decide (cy < qy) = true := decide_eq_true (by omega)
                have dC : decide (cy < py) = true := decide_eq_true (by omega)
                have dD : decide (qy ≤ cy) = false := decide_eq_false (by omega)
                rw [dA, dB, dC, dD] at HCR
                have HON1 := hid (show o = oddB ⟨cx, cy⟩ ((rSides R).take (i + 1)) by
                  rw [oddB_next HE1.out, show sCr ⟨cx, cy⟩ (⟨px, py⟩, ⟨qx, qy⟩) = false from HCR.out, HO.out]; rfl)
                clear hp hq HCR
                go_wp2_with fail
                exact ⟨⟨i + 1, _, by omega, by go_num, rfl, HON1.out, HNX.out, K3.out, HB5.out⟩, by simp [intOf]; omega⟩
              · have dA : decide (py ≤ cy) = false := decide_eq_false (by omega)
                have dB : decide (cy < qy) = false := decide_eq_false (by omega)
                have dC : decide (cy < py) = true := decide_eq_true (by omega)
                have dD : decide (qy ≤ cy) = true := decide_eq_true (by omega)
                rw [dA, dB, dC, dD] at HCR
                have HON1 := hid (show o = oddB ⟨cx, cy⟩ ((rSides R).take (i + 1)) by
                  rw [oddB_next HE1.out, show sCr ⟨cx, cy⟩ (⟨px, py⟩, ⟨qx, qy⟩) = false from HCR.out, HO.out]; rfl)
                clear hp hq HCR
                go_wp2_with fail
                exact ⟨⟨i + 1, _, by omega, by go_num, rfl, HON1.out, HNX.out, K3.out, HB5.out⟩, by simp [intOf]; omega⟩
            · have dS : decide ((0 : Int) < N) = false := decide_eq_false hs
              have dT : decide (N < (0 : Int)) = true := decide_eq_true (by omega)
              clear hN0 hs
              rw [dS, dT] at HCR
              have HNX := hid (any_snoc HE1.out HNO.out (show onV px py qx qy cx cy = false by rw [HON.out]; simp))
              clear HON
              by_cases hp : py ≤ cy <;> by_cases hq : cy < qy
              · have dA : decide (py ≤ cy) = true := decide_eq_true (by omega)
                have dB : decide (cy < qy) = true := decide_eq_true (by omega)
                have dC : decide (cy < py) = false := decide_eq_false (by omega)
                have dD : decide (qy ≤ cy) = false := decide_eq_false (by omega)
                rw [dA, dB, dC, dD] at HCR
                have HON1 := hid (show o = oddB ⟨cx, cy⟩ ((rSides R).take (i + 1)) by
                  rw [oddB_next HE1.out, show sCr ⟨cx, cy⟩ (⟨px, py⟩, ⟨qx, qy⟩) = false from HCR.out, HO.out]; rfl)
                clear hp hq HCR
                go_wp2_with fail
                exact ⟨⟨i + 1, _, by omega, by go_num, rfl, HON1.out, HNX.out, K3.out, HB5.out⟩, by simp [intOf]; omega⟩
              · have dA : decide (py ≤ cy) = true := decide_eq_true (by omega)
                have dB : decide (cy < qy) = false := decide_eq_false (by omega)
                have dC : decide (cy < py) = false := decide_eq_false (by omega)
                have dD : decide (qy ≤ cy) = true := decide_eq_true (by omega)
                rw [dA, dB, dC, dD] at HCR
                have HON1 := hid (show o = oddB ⟨cx, cy⟩ ((rSides R).take (i + 1)) by
                  rw [oddB_next HE1.out, show sCr ⟨cx, cy⟩ (⟨px, py⟩, ⟨qx, qy⟩) = false from HCR.out, HO.out]; rfl)
                clear hp hq HCR
                go_wp2_with fail
                exact ⟨⟨i + 1, _, by omega, by go_num, rfl, HON1.out, HNX.out, K3.out, HB5.out⟩, by simp [intOf]; omega⟩
              · have dA : decide (py ≤ cy) = false := decide_eq_false (by omega)
                have dB : decide (cy < qy) = true := decide_eq_true (by omega)
                have dC : decide (cy < py) = true := decide_eq_true (by omega)
                have dD : decide (qy ≤ cy) = false := decide_eq_false (by omega)
                rw [dA, dB, dC, dD] at HCR
                have HON1 := hid (show o = oddB ⟨cx, cy⟩ ((rSides R).take (i + 1)) by
                  rw [oddB_next HE1.out, show sCr ⟨cx, cy⟩ (⟨px, py⟩, ⟨qx, qy⟩) = false from HCR.out, HO.out]; rfl)
                clear hp hq HCR
                go_wp2_with fail
                exact ⟨⟨i + 1, _, by omega, by go_num, rfl, HON1.out, HNX.out, K3.out, HB5.out⟩, by simp [intOf]; omega⟩
              · have dA : decide (py ≤ cy) = false := decide_eq_false (by omega)
                have dB : decide (cy < qy) = false := decide_eq_false (by omega)
                have dC : decide (cy < py) = true := decide_eq_true (by omega)
                have dD : decide (qy ≤ cy) = true := decide_eq_true (by omega)
                rw [dA, dB, dC, dD] at HCR
                have HON1 := hid (show (!o) = oddB ⟨cx, cy⟩ ((rSides R).take (i + 1)) by
                  rw [oddB_next HE1.out, show sCr ⟨cx, cy⟩ (⟨px, py⟩, ⟨qx, qy⟩) = true from HCR.out, HO.out]; rfl)
                clear hp hq HCR
                go_wp2_with fail
                exact ⟨⟨i + 1, _, by omega, by go_num, rfl, HON1.out, HNX.out, K3.out, HB5.out⟩, by simp [intOf]; omega⟩
        · obtain rfl : i = n := by omega
          have d2 : decide ((i : Int) < (i : Int)) = false := by simp
          have HV := hid (show withinS ⟨cx, cy⟩ (rSides R) = o by
            have h1 := HNO.out
            have h2 := HO.out
            rw [HN.out, ← rSides_len, List.take_length] at h1 h2
            rw [h2]
            exact withinS_end h1)
          go_wp2_with fail
          go_ret2
          exact ⟨by rw [HE.out, HB.out, HV.out]; rfl, HBwr.out⟩
end Go.Proofs.Ytpablkmdpoombaa

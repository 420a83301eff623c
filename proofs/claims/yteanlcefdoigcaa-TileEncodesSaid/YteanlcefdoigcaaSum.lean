/- The checksum at the end of bytes. -/
import Derived.Test.YteanlcefdoigcaaDecX
namespace Go.Proofs.Yteanlcefdoigcaa
open Go.RowKit

/-- a number of four bytes, the first one the highest, bit by bit -/
def be (g : Nat → Nat) : Nat → BitVec 32
  | 0 => 0#32
  | k + 1 => (be g k <<< 8) ||| BitVec.ofNat 32 (g k)
theorem or_byte (x : BitVec 32) {y : Nat} (hy : y < 256) : bits .or .u32 ((x.toNat : Int) * (256 : Int) % (4294967296 : Int)) (y : Int) = (((x <<< 8) ||| BitVec.ofNat 32 y).toNat : Int) := by
  have h1 : (x <<< 8).toNat = x.toNat * 256 % 4294967296 := by rw [BitVec.toNat_shiftLeft, Nat.shiftLeft_eq]
  have h2 := u32_or_nat (x <<< 8).toNat y (x <<< 8).isLt (by omega)
  rw [show (x.toNat : Int) * (256 : Int) % (4294967296 : Int) = ((x <<< 8).toNat : Int) by rw [h1]; omega, h2, BitVec.toNat_or, BitVec.toNat_ofNat, Nat.mod_eq_of_lt (by omega)]
theorem nat_beq (a c : Nat) : ((a : Int) == (c : Int)) = decide (a = c) := by
  rw [Bool.eq_iff_iff, beq_iff_eq, decide_eq_true_eq]
  omega
set_option maxRecDepth 100000 in
set_option maxHeartbeats 1600000 in
theorem checked_any (b off n cap : Nat) (g : Nat → Nat) (w : World) (hn : n + 4 ≤ cap) (hc : cap ≤ 9223372036854775807) (hg : ∀ i, g i < 256) (hb : bytesAt w b off (n + 4) g) :
    Calls Try.prog 83 #[.slice (some ⟨b, off, none⟩) (n + 4 : Nat) cap] w fun r w' => r = .returned (.tuple #[.slice (some ⟨b, off, none⟩) n cap, .bool (decide ((be (fun i => g (n + i)) 4).toNat = crcV g n))]) ∧ Below w.heap.size w w' := by
  have HG := hid hg
  have HB := hid hb
  have HS := hid (fun W (h : Below w.heap.size w W) => xSum_any b off n cap g W (by omega) hg (fun i hi => by
    rw [h.cell (by
      have := hb i (by omega)
      unfold World.cell? at this
      split at this
      · rename_i hx; exact (Array.getElem?_eq_some_iff.1 hx).1
      · simp at this)]
    exact hb i (by omega)))
  clear hg hb
  have d9 : decide ((n : Int) < 0) = false := decide_eq_false (by omega)
  go_enter Try.func83, Try.ntmps83
  go_wp2_with fail
  go_loopw [5, 17] (fun cv iv W => ∃ k : Nat, k ≤ 4 ∧ iv = .int .i64 (k : Int) ∧ cv = .int .u32 ((be (fun i => g (n + i)) k).toNat : Int) ∧ w = W) (fun _ iv _ => 4 - (intOf iv).toNat)
  case atStart => exact ⟨0, by omega, rfl, rfl, rfl⟩
  case round =>
    obtain ⟨k, hk, rfl, rfl, rfl⟩ := hrel
    by_cases hlt : k < 4
    · have c0 : w.cell? ⟨b, off + n + k, none⟩ = some (.int .u8 (g (n + k) : Nat)) := by have := HB.out (n + k) (by omega); rwa [← Nat.add_assoc] at this
      have hgb := HG.out (n + k)
      have d1 : decide ((k : Int) < 4) = true := decide_eq_true (by omega)
      have HN := hid (show be (fun i => g (n + i)) (k + 1) = (be (fun i => g (n + i)) k <<< 8) ||| BitVec.ofNat 32 (g (n + k)) from rfl)
      generalize be (fun i => g (n + i)) k = x at *
      have hxb := x.isLt
      generalize g (n + k) = y at *
      go_wp2_with fail
      exact ⟨⟨k + 1, by omega, by go_num, by rw [HN.out, or_byte x hgb], trivial⟩, by simp [intOf]; omega⟩
    · have HX0 := hid (show k = 4 by omega)
      have d1 : decide ((k : Int) < 4) = false := decide_eq_false (by omega)
      generalize hx : be (fun i => g (n + i)) k = x at *
      have HX := hid (show be (fun i => g (n + i)) 4 = x by rw [← HX0.out]; exact hx)
      clear hx
      have hxb := x.isLt
      go_wp2_with fail
      refine gen_world (fun V hV => ?_)
      have HBV := hid (show Below w.heap.size w V by rw [hV]; exact Below.refl _ _)
      clear hV
      refine gen_act (fun A0 hA => ?_)
      refine wp_region_pl (by kernel_rfl) (by kernel_rfl) [some 27, some 28, some 29, some 30, some 31, some 32, some 33, some 34, some 35, some 2, some 3] rfl (by decide)
        [IsV (.slice (some ⟨b, off, none⟩) (n + 4) cap), IsV (.int .i64 (n : Int)), IsV (.slice (some ⟨b, off, none⟩) n cap), IsV (.int .u32 (x.toNat : Int)), IsV (.slice (some ⟨b, off, none⟩) (n + 4) cap), IsV (.int .i64 (n : Int)), IsV (.slice (some ⟨b, off, none⟩) n cap), IsV (.int .u32 (crcV g n : Int)), IsV (.bool ((x.toNat : Int) == (crcV g n : Int))), IsV (.slice (some ⟨b, off, none⟩) n cap), IsV (.bool ((x.toNat : Int) == (crcV g n : Int)))]
        ⟨IsV.stb _, IsV.stb _, IsV.stb _, IsV.stb _, IsV.stb _, IsV.stb _, IsV.stb _, IsV.stb _, IsV.stb _, IsV.stb _, IsV.stb _, trivial⟩ ?hs1_10_V1 ?hend_10_V1
      case hs1_10_V1 =>
        refine ⟨?_, ?_, ?_, ?_, ?_, ?_, ?_, ?_, ?_, ?_, ?_, trivial⟩
        · intro K us W hK0 hB hd
          have hK := hid hK0; clear hK0
          have HBW := hid hB
          have hsW := hB.size
          have GB := hid (HBV.out.trans (hB.mono HBV.out.size))
          clear hd
          simp only [putF]
          rw [hA]
          go_frame
          go_wp2_with fail
          exact hK.out _ _ _ (by rw [hA]; simp only [putF]; kernel_rfl) (Below.refl _ _) rfl
        · intro K us W hK0 hB hd
          have hK := hid hK0; clear hK0
          have HBW := hid hB
          have hsW := hB.size
          have GB := hid (HBV.out.trans (hB.mono HBV.out.size))
          clear hd
          simp only [putF]
          rw [hA]
          go_frame
          go_wp2_with fail
          exact hK.out _ _ _ (by rw [hA]; simp only [putF]; kernel_rfl) (Below.refl _ _) rfl
        · intro K us W hK0 hB hd
          have hK := hid hK0; clear hK0
          have HBW := hid hB
          have hsW := hB.size
          have GB := hid (HBV.out.trans (hB.mono HBV.out.size))
          have e0 : us 0 = .slice (some ⟨b, off, none⟩) (n + 4) cap := hd ⟨0, Ground.data⟩ (by simp) rfl
          have e1 : us 1 = .int .i64 (n : Int) := hd ⟨1, Ground.data⟩ (by simp) rfl
          clear hd
          simp only [putF]
          rw [hA, e0, e1]
          go_frame
          go_wp2_with fail
          exact hK.out _ _ _ (by rw [hA]; simp only [putF]; rw [e0, e1]; kernel_rfl) (Below.refl _ _) rfl
        · intro K us W hK0 hB hd
          have hK := hid hK0; clear hK0
          have HBW := hid hB
          have hsW := hB.size
          have GB := hid (HBV.out.trans (hB.mono HBV.out.size))
          clear hd
          simp only [putF]
          rw [hA]
          go_frame
          go_wp2_with fail
          exact hK.out _ _ _ (by rw [hA]; simp only [putF]; kernel_rfl) (Below.refl _ _) rfl
        · intro K us W hK0 hB hd
          have hK := hid hK0; clear hK0
          have HBW := hid hB
          have hsW := hB.size
          have GB := hid (HBV.out.trans (hB.mono HBV.out.size))
          clear hd
          simp only [putF]
          rw [hA]
          go_frame
          go_wp2_with fail
          exact hK.out _ _ _ (by rw [hA]; simp only [putF]; kernel_rfl) (Below.refl _ _) rfl
        · intro K us W hK0 hB hd
          have hK := hid hK0; clear hK0
          have HBW := hid hB
          have hsW := hB.size
          have GB := hid (HBV.out.trans (hB.mono HBV.out.size))
          clear hd
          simp only [putF]
          rw [hA]
          go_frame
          go_wp2_with fail
          exact hK.out _ _ _ (by rw [hA]; simp only [putF]; kernel_rfl) (Below.refl _ _) rfl
        · intro K us W hK0 hB hd
          have hK := hid hK0; clear hK0
          have HBW := hid hB
          have hsW := hB.size
          have GB := hid (HBV.out.trans (hB.mono HBV.out.size))
          have e4 : us 4 = .slice (some ⟨b, off, none⟩) (n + 4) cap := hd ⟨4, Ground.data⟩ (by simp) rfl
          have e5 : us 5 = .int .i64 (n : Int) := hd ⟨5, Ground.data⟩ (by simp) rfl
          clear hd
          simp only [putF]
          rw [hA, e4, e5]
          go_frame
          go_wp2_with fail
          exact hK.out _ _ _ (by rw [hA]; simp only [putF]; rw [e4, e5]; kernel_rfl) (Below.refl _ _) rfl
        · intro K us W hK0 hB hd
          have hK := hid hK0; clear hK0
          have HBW := hid hB
          have hsW := hB.size
          have GB := hid (HBV.out.trans (hB.mono HBV.out.size))
          have e6 : us 6 = .slice (some ⟨b, off, none⟩) n cap := hd ⟨6, Ground.data⟩ (by simp) rfl
          clear hd
          simp only [putF]
          rw [hA, e6]
          go_frame
          go_wp2_with fail
          refine (HS.out W GB.out).mono ?_
          rintro r W' ⟨rfl, rfl⟩
          go_wp2_with fail
          exact hK.out _ _ _ (by rw [hA]; simp only [putF]; rw [e6]; kernel_rfl) (Below.refl _ _) rfl
        · intro K us W hK0 hB hd
          have hK := hid hK0; clear hK0
          have HBW := hid hB
          have hsW := hB.size
          have GB := hid (HBV.out.trans (hB.mono HBV.out.size))
          have e3 : us 3 = .int .u32 (x.toNat : Int) := hd ⟨3, Ground.data⟩ (by simp) rfl
          have e7 : us 7 = .int .u32 (crcV g n : Int) := hd ⟨7, Ground.data⟩ (by simp) rfl
          clear hd
          simp only [putF]
          rw [hA, e3, e7]
          go_frame
          go_wp2_with fail
          exact hK.out _ _ _ (by rw [hA]; simp only [putF]; rw [e3, e7]; kernel_rfl) (Below.refl _ _) rfl
        · intro K us W hK0 hB hd
          have hK := hid hK0; clear hK0
          have HBW := hid hB
          have hsW := hB.size
          have GB := hid (HBV.out.trans (hB.mono HBV.out.size))
          have e2 : us 2 = .slice (some ⟨b, off, none⟩) n cap := hd ⟨2, Ground.data⟩ (by simp) rfl
          clear hd
          simp only [putF]
          rw [hA, e2]
          go_frame
          go_wp2_with fail
          exact hK.out _ _ _ (by rw [hA]; simp only [putF]; rw [e2]; kernel_rfl) (Below.refl _ _) rfl
        · intro K us W hK0 hB hd
          have hK := hid hK0; clear hK0
          have HBW := hid hB
          have hsW := hB.size
          have GB := hid (HBV.out.trans (hB.mono HBV.out.size))
          have e8 : us 8 = .bool ((x.toNat : Int) == (crcV g n : Int)) := hd ⟨8, Ground.data⟩ (by simp) rfl
          clear hd
          simp only [putF]
          rw [hA, e8]
          go_frame
          go_wp2_with fail
          exact hK.out _ _ _ (by rw [hA]; simp only [putF]; rw [e8]; kernel_rfl) (Below.refl _ _) rfl
      intro us V1 hB hp
      have e9 : us 9 = .slice (some ⟨b, off, none⟩) n cap := hp 9 (by decide)
      have e10 : us 10 = .bool ((x.toNat : Int) == (crcV g n : Int)) := hp 10 (by decide)
      have HB1 := hid (HBV.out.trans (hB.mono HBV.out.size))
      have HSV1 := hid (fun n x => @heap_still _ _ n x hB)
      have hzV1 := hB.size
      have hbV1 := hid hB
      clear hp
      clear hB
      simp only [putF]
      rw [hA, e9, e10]
      clear hA e9 e10
      go_frame
      go_wp2_with fail
      go_ret2
      refine ⟨?_, HB1.out⟩
      rw [HX.out, nat_beq]
      rfl
end Go.Proofs.Yteanlcefdoigcaa

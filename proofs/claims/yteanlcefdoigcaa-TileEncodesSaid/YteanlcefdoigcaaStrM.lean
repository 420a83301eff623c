/- Strings of bytes: what the conversion of a slice of bytes gives, and when two are the same. -/
import Derived.Test.YteanlcefdoigcaaRtM
import Derived.Laws.BytesArg
import Derived.Laws.Strings
namespace Go.Proofs.Yteanlcefdoigcaa
open Go.RowKit

def strL (l : List Nat) : ByteArray := strOfNums (l.map fun (x : Nat) => (x : Int))
theorem u5 : Try.prog.underlying 5 = some (.int .u8) := by kernel_rfl
theorem u9 : Try.prog.underlying 9 = some .string := by kernel_rfl
theorem str_at {W : World} {b off cap : Nat} {l : List Nat} (h : bytesAt W b off l.length (fun i => l.getD i 0)) :
    (convert 70 9 (.slice (some ⟨b, off, none⟩) l.length cap)).run Try.prog W = .ok (.string (strL l)) W :=
  run_convert_bytes_arg W 70 5 Try.underlying70 u5 b off l.length cap (l.map fun (x : Nat) => (x : Int)) (by simp) (fun i hi => by
    rw [h i hi]
    show some (Value.int .u8 ((l.getD i 0 : Nat) : Int)) = some (.int .u8 ((l.map fun (x : Nat) => (x : Int)).getD i 0))
    rw [List.getD_eq_getElem?_getD, List.getD_eq_getElem?_getD, List.getElem?_map, List.getElem?_eq_getElem hi]
    rfl) 9 u9
theorem str_none {W : World} {n c : Nat} : (convert 70 9 (.slice none n c)).run Try.prog W = .ok (.string (strL [])) W :=
  run_convert_bytes_nil W 70 5 Try.underlying70 u5 n c 9 u9
theorem strL_inj {l m : List Nat} (hl : ∀ x ∈ l, x < 256) (hm : ∀ x ∈ m, x < 256) (h : strL l = strL m) : l = m := by
  have h1 : (strL l).data.toList = (strL m).data.toList := by rw [h]
  unfold strL at h1
  rw [strOfNums_data, strOfNums_data, List.map_map, List.map_map] at h1
  have h2 : ∀ k : List Nat, (∀ x ∈ k, x < 256) → (k.map ((fun n : Int => UInt8.ofNat n.toNat) ∘ fun (x : Nat) => (x : Int))).map UInt8.toNat = k := fun k hk => by
    rw [List.map_map]
    conv => rhs; rw [← List.map_id k]
    refine List.map_congr_left fun x hx => ?_
    have := hk x hx
    show (UInt8.ofNat (x : Int).toNat).toNat = x
    rw [Int.toNat_natCast, UInt8.toNat_ofNat']
    exact Nat.mod_eq_of_lt (by omega)
  rw [← h2 l hl, h1, h2 m hm]
theorem strL_eq {l m : List Nat} (hl : ∀ x ∈ l, x < 256) (hm : ∀ x ∈ m, x < 256) : strL l = strL m ↔ l = m := ⟨strL_inj hl hm, fun h => h ▸ rfl⟩
theorem str_ne {x y : ByteArray} (h : x ≠ y) : (x.toList == y.toList) = false := by
  refine Bool.eq_false_iff.2 fun he => h ?_
  rw [beq_iff_eq, ByteArray.toList_eq, ByteArray.toList_eq] at he
  exact ByteArray.ext (Array.toList_inj.mp he)
/-- an owned row of bytes as it lies -/
theorem ownB_at {W : World} {B : Nat} {v : Value} {xs : List Nat} (h : OwnB W B v xs) (hp : 0 < xs.length) : ∃ g cap, v = .slice (some ⟨g, 0, none⟩) xs.length cap ∧ xs.length ≤ cap ∧ cap ≤ 9223372036854775807 ∧ bytesAt W g 0 xs.length (fun i => xs.getD i 0) ∧ B ≤ g ∧ g < W.heap.size := by
  have hc := h.1
  obtain ⟨h1, h2⟩ := h.1
  rcases h2 with ⟨_, h0⟩ | ⟨g0, cap, cur, hv, hB, hr, hn, hm, _⟩
  · omega
  · subst hv
    exact ⟨g0, cap, rfl, hn, by unfold maxLen at hm; omega, u8s_cells hc, hB, (Array.getElem?_eq_some_iff.1 hr).1⟩
end Go.Proofs.Yteanlcefdoigcaa

/- Texts of the seat Yteanlcefdoigcaa, turned to this one by wip/port.py: Num NumS Write Writes Reader Link Next. -/
import Derived.Test.YtcclpdfmmdonpaaGreatRows
import Derived.Test.YtcclpdfmmdonpaaGreatXBas
import Derived.Test.YtcclpdfmmdonpaaGreatXMap
import Derived.Test.YtcclpdfmmdonpaaGreatXVal
import Derived.Test.YtcclpdfmmdonpaaGreatXSrt
import Derived.Test.YtcclpdfmmdonpaaGreatXLay
import Derived.Test.YtcclpdfmmdonpaaGreatXRst
import Derived.Test.YtcclpdfmmdonpaaGreatXRla
import Derived.Test.YtcclpdfmmdonpaaGreatXTil
import Derived.Test.YtcclpdfmmdonpaaGreatXApp
import Derived.Test.YtcclpdfmmdonpaaGreatXArg
import Derived.Test.YtcclpdfmmdonpaaGreatXRtl
import Derived.Test.YtcclpdfmmdonpaaGreatXRmr
import Derived.Laws.Bits64b
import Derived.WalkKit
import Derived.LoopN
import Derived.Laws.AppendOwnNone
import Derived.Deep.OwnRows
import Derived.Laws.CopyOwn
import Derived.Laws.BitsLemmas
namespace Go.Proofs.YtcclpdfmmdonpaaGreat
open Go.RowKit
def val7 (g : Nat -> Nat) : Nat -> Nat
  | 0 => 0
  | k + 1 => val7 g k + g k % 128 * 128 ^ k
theorem val7_lt (g : Nat -> Nat) : ∀ k, val7 g k < 128 ^ k
  | 0 => by simp [val7]
  | k + 1 => by
    have h := val7_lt g k; have h2 : g k % 128 < 128 := Nat.mod_lt _ (by decide); unfold val7; have h3 : g k % 128 * 128 ^ k <= 127 * 128 ^ k := Nat.mul_le_mul_right _ (by omega); rw [Nat.pow_succ]; omega
def rd (g : Nat -> Nat) (n : Nat) : Nat -> Nat -> Int × Int × Int
  | 0, _ => (0, 0, 4)
  | f + 1, i => if i = n then (0, 0, 21) else if 128 <= g i then rd g n f (i + 1) else
    if (g i = 0 /\ 0 < i) ∨ 4611686018427387903 < val7 g (i + 1) then (0, 0, 4) else (val7 g (i + 1), (i : Int) + 1, 0)
def readV (g : Nat -> Nat) (n : Nat) : Int × Int × Int := rd g n 9 0
def int3 (x : Int × Int × Int) : Value := .tuple #[.int .i64 x.1, .int .i64 x.2.1, .int .i64 x.2.2]
def bytesAt (w : World) (b off n : Nat) (g : Nat -> Nat) : Prop := ∀ i, i < n -> w.cell? ⟨b, off + i, none⟩ = some (.int .u8 (g i : Nat))
theorem pow7 (k : Nat) : 128 ^ k = 2 ^ (7 * k) := by rw [Nat.pow_mul]
theorem pow9 {k : Nat} (hk : k <= 9) : 128 ^ k <= 9223372036854775808 := Nat.le_trans (Nat.pow_le_pow_right (by decide) hk) (by decide)
theorem or7 {v x k : Nat} (hv : v < 128 ^ k) (hk : k < 9) : bits .or .u64 (v : Int) (IntKind.u64.wrap ((x : Int) % 128 * 2 ^ (7 * k))) = ((v + x % 128 * 128 ^ k : Nat) : Int) := by
  have hx : x % 128 < 128 := Nat.mod_lt _ (by decide); have h1 : x % 128 * 128 ^ k <= 127 * 128 ^ k := Nat.mul_le_mul_right _ (by omega); have h2 : 128 ^ (k + 1) <= 9223372036854775808 := pow9 (by omega); rw [Nat.pow_succ] at h2; have hc : (x : Int) % 128 * 2 ^ (7 * k) = ((x % 128 * 128 ^ k : Nat) : Int) := by rw [pow7]; simp
  rw [hc, IntWalk.u64_in _ (by omega), bits_or_u64_nat _ _ (by omega) (by omega)]; congr 1; rw [pow7, Nat.or_comm, Nat.mul_comm, <- Nat.two_pow_add_eq_or_of_lt (by rw [<- pow7]; exact hv), Nat.add_comm]
set_option maxRecDepth 100000 in
set_option maxHeartbeats 1600000 in
theorem xRead_any (b off n c : Nat) (g : Nat -> Nat) (w : World) (hn : n <= 9223372036854775807) (hg : ∀ i, g i < 256) (hc : bytesAt w b off n g) :
    Calls Tryz.prog 133 #[.slice (some ⟨b, off, none⟩) n c] w fun e w' => e = .returned (int3 (readV g n)) /\ w = w' := by
  have HC := hid hc; have HG := hid hg; clear hc hg; go_enter Tryz.func133, Tryz.ntmps133; go_wp2_with fail
  go_loop [5, 7] (fun a i => ∃ (k : Nat), k <= 9 /\ k <= n /\ i = .int .i64 k /\ a = .int .u64 (val7 g k : Nat) /\ rd g n (9 - k) k = readV g n) (fun _ i => 9 - (intOf i).toNat)
  case atStart => exact ⟨0, by omega, by omega, rfl, rfl, rfl⟩
  case round =>
    obtain ⟨k, hk, hkn, rfl, rfl, hr⟩ := hrel; by_cases hlt : k < 9
    · by_cases he : k = n
      · have HX := hid (show readV g n = (0, 0, 21) by rw [<- hr, show 9 - k = (8 - k) + 1 by omega]; unfold rd; rw [if_pos he]); clear hr; go_wp2_with fail
        go_ret3
        exact ⟨by rw [HX.out]; rfl, rfl⟩
      · have hc := HC.out k (by omega); have hgk := HG.out k; have HR := hid (show readV g n = (if 128 <= g k then rd g n (8 - k) (k + 1) else if (g k = 0 /\ 0 < k) ∨ 4611686018427387903 < val7 g (k + 1) then (0, 0, 4) else (val7 g (k + 1), (k : Int) + 1, 0)) by rw [<- hr, show 9 - k = (8 - k) + 1 by omega]; exact if_neg he); have HV := hid (show val7 g (k + 1) = val7 g k + g k % 128 * 128 ^ k from rfl); have HVL := hid (val7_lt g k); have HVL2 := hid (val7_lt g (k + 1)); have HVE := hid (fun (q : Nat) (hq : q = k + 1) => (by subst hq; rfl : val7 g q = val7 g k + g k % 128 * 128 ^ k)); clear hr; generalize val7 g (k + 1) = v' at *; generalize val7 g k = v at *; generalize g k = gk at *; have HO := hid (or7 (x := gk) HVL.out hlt); have hvl2 : v' < 9223372036854775808 := by
          have h3 := pow9 (k := k + 1) (by omega); have h4 := HVL2.out; omega
        by_cases h1 : 128 <= gk
        · have HX := hid (HR.out.trans (if_pos h1)); go_wp2_with fail; go_round
          case rel => exact ⟨k + 1, by omega, by omega, by go_num, by rw [HO.out, HVE.out _ rfl], by rw [show 9 - (k + 1) = 8 - k by omega]; exact HX.out.symm⟩
          case measure => simp [intOf]; omega
        · have HX := hid (HR.out.trans (if_neg h1)); have ho : bits .or .u64 (v : Int) (IntKind.u64.wrap ((gk : Int) % 128 * 2 ^ (7 * k))) = (v' : Int) := by rw [HO.out, <- HV.out]
          by_cases h2 : (gk = 0 /\ 0 < k) ∨ 4611686018427387903 < v'
          · have HX2 := hid (HX.out.trans (if_pos h2)); clear HX HR; by_cases h3 : gk = 0 /\ 0 < k
            · obtain ⟨h3, h4⟩ := h3; subst h3; clear h2 h1; go_wp2_with fail
              go_ret3
              exact ⟨by rw [HX2.out]; rfl, rfl⟩
            · have h4 : 4611686018427387903 < v' := by omega
              clear h2; by_cases h5 : gk = 0
              · have h6 : k = 0 := by omega
                have h7 : ((gk : Int) == 0) = true := by simp; omega
                have H6 := hid h6; clear h6; clear h5; go_wp2_with fail
                all_goals first | (go_ret3; exact ⟨by rw [HX2.out]; rfl, rfl⟩) | (have hk0 : k = 0 := H6.out; subst hk0; go_ret3; exact ⟨by rw [HX2.out]; rfl, rfl⟩)
              · have h7 : ((gk : Int) == 0) = false := by simp; omega
                clear h5 h3; go_wp2_with fail
                go_ret3
                exact ⟨by rw [HX2.out]; rfl, rfl⟩
          · have HX2 := hid (HX.out.trans (if_neg h2)); clear HX HR; have h4 : ¬ 4611686018427387903 < v' := by omega
            by_cases h5 : gk = 0
            · have h6 : k = 0 := by omega
              have h7 : ((gk : Int) == 0) = true := by simp; omega
              have H6 := hid h6; clear h6; clear h5; go_wp2_with fail
              all_goals first | (go_ret3; exact ⟨by rw [HX2.out]; rfl, rfl⟩) | (have hk0 : k = 0 := H6.out; subst hk0; go_ret3; exact ⟨by rw [HX2.out]; rfl, rfl⟩)
            · have h7 : ((gk : Int) == 0) = false := by simp; omega
              clear h5 h2; go_wp2_with fail
              go_ret3
              exact ⟨by rw [HX2.out]; rfl, rfl⟩
    · obtain rfl : k = 9 := by omega
      have HX := hid (show readV g n = (0, 0, 4) from hr.symm); clear hr; go_wp2_with fail
      go_ret3
      exact ⟨by rw [HX.out]; rfl, rfl⟩
open Go.RowKit
def signV (x : Int × Int × Int) : Int × Int × Int := if x.2.2 = 0 then (if x.1 % 2 = 1 then (-(x.1 / 2) - 1, x.2.1, 0) else (x.1 / 2, x.2.1, 0)) else (0, 0, x.2.2)
theorem int3_eq (x : Int × Int × Int) : int3 x = .tuple #[.int .i64 x.1, .int .i64 x.2.1, .int .i64 x.2.2] := rfl
theorem rd_bd (g : Nat -> Nat) (n : Nat) : ∀ f i, (0 <= (rd g n f i).1 /\ (rd g n f i).1 <= 4611686018427387903) /\ ((rd g n f i).2.2 = 0 -> i <= n -> (i : Int) + 1 <= (rd g n f i).2.1 /\ (rd g n f i).2.1 <= n)
  | 0, i => by simp [rd]
  | f + 1, i => by
    unfold rd
    split
    · simp
    · split
      · have h := rd_bd g n f (i + 1); refine ⟨h.1, fun h1 h2 => ?_⟩; have h3 := h.2 h1 (by omega); omega
      · split
        · simp
        · simp; omega
theorem readV_bd (g : Nat -> Nat) (n : Nat) : 0 <= (readV g n).1 /\ (readV g n).1 <= 4611686018427387903 := (rd_bd g n 9 0).1
theorem readV_size (g : Nat -> Nat) (n : Nat) (h : (readV g n).2.2 = 0) : 1 <= (readV g n).2.1 /\ (readV g n).2.1 <= n := (rd_bd g n 9 0).2 h (by omega)
theorem signV_size (x : Int × Int × Int) : (signV x).2.2 = x.2.2 /\ (x.2.2 = 0 -> (signV x).2.1 = x.2.1) := by
  obtain ⟨v, s, e⟩ := x; unfold signV
  split
  · rename_i h; simp only at h; subst h; split <;> simp
  · rename_i h; exact ⟨rfl, fun h2 => absurd h2 h⟩
theorem xSigned_any (b off n c : Nat) (g : Nat -> Nat) (w : World) (hn : n <= 9223372036854775807) (hg : ∀ i, g i < 256) (hc : bytesAt w b off n g) :
    Calls Tryz.prog 148 #[.slice (some ⟨b, off, none⟩) n c] w fun e w' => e = .returned (int3 (signV (readV g n))) /\ w = w' := by
  have H := hid (xRead_any b off n c g w hn hg hc); have hb := readV_bd g n; have hs := int3_eq (readV g n); generalize readV g n = x at *; obtain ⟨v, s, e⟩ := x; rw [hs] at H; clear hs hc hg; simp only at hb H; by_cases he : e = 0
  · subst he; by_cases ho : v % 2 = 1
    · have HX := hid (show signV (v, s, 0) = (-(v / 2) - 1, s, 0) by simp [signV, ho]); go_enter Tryz.func148, Tryz.ntmps148; go_wp2_with fail; refine H.out.mono ?_; rintro r w1 ⟨rfl, rfl⟩; go_wp2_with fail
      go_ret3
      exact ⟨by rw [HX.out]; rfl, rfl⟩
    · have HX := hid (show signV (v, s, 0) = (v / 2, s, 0) by simp [signV, ho]); have hev : v % 2 = 0 := by omega
      go_enter Tryz.func148, Tryz.ntmps148; go_wp2_with fail; refine H.out.mono ?_; rintro r w1 ⟨rfl, rfl⟩; go_wp2_with fail
      go_ret3
      exact ⟨by rw [HX.out]; rfl, rfl⟩
  · have HX := hid (show signV (v, s, e) = (0, 0, e) from if_neg he); go_enter Tryz.func148, Tryz.ntmps148; go_wp2_with fail; refine H.out.mono ?_; rintro r w1 ⟨rfl, rfl⟩; go_wp2_with fail
    go_ret3
    exact ⟨by rw [HX.out]; rfl, rfl⟩
open Go.RowKit
def u8s (xs : List Nat) : List Value := xs.map fun (x : Nat) => Value.int .u8 (x : Int)
theorem u8s_one (xs : List Nat) : ∀ u ∈ u8s xs, u.oneCell' = true := by
  intro u hu; simp [u8s] at hu; obtain ⟨x, _, rfl⟩ := hu; rfl
theorem info5 : (Tryz.prog.info? 5).map (fun i => (i.zero, i.size, i.bytes)) = some (some (.int .u8 0), 1, 1) := by kernel_rfl
theorem own_base {w : World} {B B' : Nat} {e : TypeId} {s n : Nat} {v : Value} {xs : List Value} (h : w.ownsRow B e s v n xs) (hB : B' <= B) : w.ownsRow B' e s v n xs := by
  obtain ⟨h1, h2⟩ := h; refine ⟨h1, ?_⟩
  rcases h2 with h2 | ⟨g, cap, cur, hv, hg, h3⟩
  · exact Or.inl h2
  · exact Or.inr ⟨g, cap, cur, hv, by omega, h3⟩
theorem u8s_append (xs ys : List Nat) : u8s (xs ++ ys) = u8s xs ++ u8s ys := by simp [u8s]
theorem byte_at {w : World} {x : Nat} {z : Int} (hz : z = x) : ∀ (j : Nat) (u : Value), (u8s [x])[j]? = some u -> (w.alloc (.cells #[.int .u8 z] 5)).cell? ((⟨w.heap.size, 0, none⟩ : Addr).add j) = some u := by
  subst hz; intro j u hj
  match j, hj with
  | 0, hj =>
    simp [u8s] at hj; subst hj; simp [Addr.add]
theorem grown_below {B : Nat} {w wr w' : World} {v : Value} {o : Obj} {e : TypeId} {s n : Nat} {xs : List Value} (hB : Below B w wr) (ho : wr.ownsRow B e s v n xs) (hg : (wr.alloc o).grownBy w' v.ownBlock) (hs : B <= wr.heap.size) : Below B w w' :=
  (hB.alloc hs o).grown hg (by simp; omega) (fun k hk => (ho.lt k hk).1)
def encN (n : Nat) : List Nat := if h : 128 <= n then (n % 128 + 128) :: encN (n / 128) else [n]
decreasing_by omega
theorem encN_more {n : Nat} (h : 128 <= n) : encN n = (n % 128 + 128) :: encN (n / 128) := by rw [encN]; exact dif_pos h
theorem encN_last {n : Nat} (h : ¬ 128 <= n) : encN n = [n] := by rw [encN]; exact dif_neg h
theorem encN_len : ∀ (k n : Nat), n < 128 ^ (k + 1) -> (encN n).length <= k + 1
  | 0, n, h => by rw [encN_last (by omega)]; simp
  | k + 1, n, h => by
    by_cases h1 : 128 <= n
    · rw [encN_more h1]; have := encN_len k (n / 128) (by rw [Nat.pow_succ] at h; omega); simp; omega
    · rw [encN_last h1]; simp
theorem encN_pos (n : Nat) : 0 < (encN n).length := by
  rw [encN]; split <;> simp
def OwnB (w : World) (B : Nat) (v : Value) (xs : List Nat) : Prop := w.ownsRow B 5 1 v xs.length (u8s xs) /\ (xs = [] -> v = .slice none 0 0)
theorem OwnB.of {w : World} {B : Nat} {v : Value} {xs : List Nat} (h : w.ownsRow B 5 1 v xs.length (u8s xs)) (hp : 0 < xs.length) : OwnB w B v xs := ⟨h, fun e => by subst e; cases hp⟩
theorem OwnB.base {w : World} {B B' : Nat} {v : Value} {xs : List Nat} (h : OwnB w B v xs) (hB : B' <= B) : OwnB w B' v xs := ⟨own_base h.1 hB, h.2⟩
theorem OwnB.cases {w : World} {B : Nat} {v : Value} {xs : List Nat} (h : OwnB w B v xs) : (v = .slice none 0 0 /\ xs = []) ∨ (∃ g cap, v = .slice (some ⟨g, 0, none⟩) xs.length cap /\ B <= g /\ 0 < xs.length) := by
  obtain ⟨⟨_, h2⟩, h3⟩ := h; by_cases he : xs = []
  · exact Or.inl ⟨h3 he, he⟩
  · have hp : 0 < xs.length := List.length_pos_iff.2 he
    rcases h2 with ⟨_, h0⟩ | ⟨g, cap, cur, hv, hg, _⟩
    · omega
    · exact Or.inr ⟨g, cap, hv, hg, hp⟩
open Go.RowKit
def zig (z : Int) : Nat := if z < 0 then (-2 * z - 1).toNat else (2 * z).toNat
def encs {α : Type} (f : α -> List Nat) (zs : List α) : List Nat := (zs.map f).flatten
theorem encs_step {α : Type} {f : α -> List Nat} {zs : List α} {k : Nat} (hk : k < zs.length) : encs f (zs.take (k + 1)) = encs f (zs.take k) ++ f zs[k] := by
  unfold encs; rw [List.take_succ_eq_append_getElem hk, List.map_append, List.flatten_append]; simp
theorem encs_len {α : Type} {f : α -> List Nat} {m : Nat} : ∀ (zs : List α), (∀ z ∈ zs, (f z).length <= m) -> (encs f zs).length <= zs.length * m
  | [], _ => by simp [encs]
  | z :: zs, h => by
    have h1 := encs_len zs (fun y hy => h y (by simp [hy])); have h2 := h z (by simp); have h3 : encs f (z :: zs) = f z ++ encs f zs := rfl; rw [h3, List.length_append, List.length_cons, Nat.succ_mul]; omega
theorem zig_len {z : Int} (h : -2305843009213693952 <= z /\ z <= 2305843009213693951) : (encN (zig z)).length <= 9 := by
  refine encN_len 8 _ ?_; unfold zig
  split <;> omega
theorem nat_len {z : Int} (h : 0 <= z /\ z <= 4611686018427387903) : (encN z.toNat).length <= 9 := encN_len 8 _ (by omega)
def encU (z : Int) : List Nat := encN z.toNat
def encS (z : Int) : List Nat := encN (zig z)
open Go.RowKit
structure Only (rb B : Nat) (w w' : World) : Prop where
  os : w'.os = w.os
  tape : w'.tape = w.tape
  output : w'.output = w.output
  size : w.heap.size <= w'.heap.size
  block : ∀ k, k < B -> k ≠ rb -> w'.heap[k]? = w.heap[k]?
theorem Only.heap {rb : Nat} {w w' : World} {n : Nat} {x : Obj} (h : Only rb w.heap.size w w') (hne : n ≠ rb) (hx : w.heap[n]? = some x) : w'.heap[n]? = some x := by
  rw [h.block n (Array.getElem?_eq_some_iff.1 hx).1 hne]; exact hx
theorem heap_setCell {w : World} {b t j : Nat} {fr : Nat × Nat} {C : Array Value} (h : w.heap[b]? = some (.cells C t fr)) (v : Value) : (w.setCell ⟨b, j, none⟩ v).heap[b]? = some (.cells (C.setIfInBounds j v) t fr) := by
  simp only [World.setCell, Array.getElem?_modify]; rw [if_pos trivial, h]; simp
theorem only_setCell {w w0 : World} {rb B j : Nat} (h : Only rb B w0 w) (v : Value) : Only rb B w0 (w.setCell ⟨rb, j, none⟩ v) := by
  refine ⟨h.os, h.tape, h.output, by simpa using h.size, fun k hk hne => ?_⟩; rw [Below.heap_setCell w ⟨rb, j, none⟩ v k hne]; exact h.block k hk hne
theorem Only.refl (rb B : Nat) (w : World) : Only rb B w w := ⟨rfl, rfl, rfl, Nat.le_refl _, fun _ _ _ => rfl⟩
set_option maxRecDepth 100000 in
theorem step_bad (rb b off n c : Nat) (bd : Bool) (v s e : Int) (w : World) (he : e ≠ 0 ∨ bd = true) (hr : w.heap[rb]? = some (.cells #[.slice (some ⟨b, off, none⟩) n c, .bool bd] 146)) :
    Calls Tryz.prog 134 #[.pointer (some ⟨rb, 0, none⟩), .int .i64 v, .int .i64 s, .int .i64 e] w fun r w' => r = .returned (.int .i64 0) /\ w'.heap[rb]? = some (.cells #[.slice (some ⟨b, off, none⟩) n c, .bool true] 146) /\ Only rb w.heap.size w w' := by
  have HR := hid hr; have hc0 : w.cell? ⟨rb, 0, none⟩ = some (.slice (some ⟨b, off, none⟩) n c) := by simp [World.cell?, hr]
  have hf1 : w.frozen? ⟨rb, 1, none⟩ = false := by simp [World.frozen?, hr]
  by_cases he0 : e = 0
  · obtain rfl : bd = true := he.resolve_left (fun h => h he0); have hc1 : w.cell? ⟨rb, 1, none⟩ = some (.bool true) := by simp [World.cell?, hr]
    clear hr he; subst he0; go_enter Tryz.func134, Tryz.ntmps134; go_wp2_with fail; go_ret; exact ⟨rfl, heap_setCell HR.out _, only_setCell (Only.refl _ _ _) _⟩
  · have hc1 : w.cell? ⟨rb, 1, none⟩ = some (.bool bd) := by simp [World.cell?, hr]
    have hee : (e == 0) = false := by simp [he0]
    clear hr he; go_enter Tryz.func134, Tryz.ntmps134; go_wp2_with fail; go_ret; exact ⟨rfl, heap_setCell HR.out _, only_setCell (Only.refl _ _ _) _⟩
set_option maxRecDepth 100000 in
theorem step_good (rb b off n c k : Nat) (v : Int) (w : World) (hk : k <= n) (hn : n <= c) (hc : c <= 9223372036854775807) (hr : w.heap[rb]? = some (.cells #[.slice (some ⟨b, off, none⟩) n c, .bool false] 146)) :
    Calls Tryz.prog 134 #[.pointer (some ⟨rb, 0, none⟩), .int .i64 v, .int .i64 k, .int .i64 0] w fun r w' => r = .returned (.int .i64 v) /\ (∃ o, (o = off + k ∨ n - k = 0) /\ w'.heap[rb]? = some (.cells #[.slice (some ⟨b, o, none⟩) (n - k) (c - k), .bool false] 146)) /\ Only rb w.heap.size w w' := by
  have HR := hid hr; have hc0 : w.cell? ⟨rb, 0, none⟩ = some (.slice (some ⟨b, off, none⟩) n c) := by simp [World.cell?, hr]
  have hc1 : w.cell? ⟨rb, 1, none⟩ = some (.bool false) := by simp [World.cell?, hr]
  have hf1 : w.frozen? ⟨rb, 0, none⟩ = false := by simp [World.frozen?, hr]
  clear hr; by_cases hck : k < c
  · go_enter Tryz.func134, Tryz.ntmps134; go_wp2_with fail
    all_goals first | (exfalso; omega) | (go_ret; exact ⟨rfl, ⟨off + k, Or.inl rfl, heap_setCell HR.out _⟩, only_setCell (Only.refl _ _ _) _⟩)
  · obtain rfl : k = c := by omega
    obtain rfl : n = k := by omega
    clear hck; go_enter Tryz.func134, Tryz.ntmps134; go_wp2_with fail
    all_goals first | (go_ret; exact ⟨rfl, ⟨off, Or.inr (Nat.sub_self _), by rw [Nat.sub_self]; exact heap_setCell HR.out _⟩, only_setCell (Only.refl _ _ _) _⟩) | (go_ret; exact ⟨rfl, ⟨off + n, Or.inl rfl, heap_setCell HR.out _⟩, only_setCell (Only.refl _ _ _) _⟩)
structure St where
  g : Nat -> Nat
  m : Nat
  bad : Bool
def nextS (sg : Bool) (s : St) : Int × St :=
  let x := if sg then signV (readV s.g s.m) else readV s.g s.m
  if x.2.2 = 0 /\ s.bad = false then (x.1, ⟨fun i => s.g (i + x.2.1.toNat), s.m - x.2.1.toNat, s.bad⟩) else (0, ⟨s.g, s.m, true⟩)
def RdAt (w : World) (rb ty b : Nat) (s : St) : Prop :=
  ∃ o c, w.heap[rb]? = some (.cells #[.slice (some ⟨b, o, none⟩) s.m c, .bool s.bad] ty) /\ s.m <= c /\ c <= 9223372036854775807 /\ bytesAt w b o s.m s.g /\ rb ≠ b /\ (∀ i, s.g i < 256) /\ b < w.heap.size
theorem bytes_only {w w' : World} {rb b o m : Nat} {g : Nat -> Nat} (h : bytesAt w b o m g) (ho : Only rb w.heap.size w w') (hne : b ≠ rb) (hb : b < w.heap.size) : bytesAt w' b o m g := by
  intro i hi; rw [World.cell?_of_block (w := w) (w' := w') (a := ⟨b, o + i, none⟩) (ho.block b hb hne)]; exact h i hi
theorem nextS_bad {sg : Bool} {s : St} (h : ¬ ((readV s.g s.m).2.2 = 0 /\ s.bad = false)) : nextS sg s = (0, ⟨s.g, s.m, true⟩) := by
  unfold nextS
  cases sg
  · exact if_neg h
  · exact if_neg (by show ¬ ((signV _).2.2 = 0 /\ _); rw [(signV_size _).1]; exact h)
theorem nextS_good {sg : Bool} {s : St} {k : Nat} (h : (readV s.g s.m).2.2 = 0) (hb : s.bad = false) (hk : (readV s.g s.m).2.1 = k) : nextS sg s = ((if sg then signV (readV s.g s.m) else readV s.g s.m).1, ⟨fun i => s.g (i + k), s.m - k, s.bad⟩) := by
  unfold nextS
  cases sg
  · refine (if_pos ⟨h, hb⟩).trans ?_; simp only [Bool.false_eq_true, if_false, hk, Int.toNat_natCast]
  · refine (if_pos (show (signV _).2.2 = 0 /\ _ by rw [(signV_size _).1]; exact ⟨h, hb⟩)).trans ?_; simp only [if_true, (signV_size _).2 h, hk, Int.toNat_natCast]
theorem rd_after {w w' : World} {rb ty b o o' c k : Nat} {s : St} (ho : Only rb w.heap.size w w') (hm : s.m <= c) (hc : c <= 9223372036854775807) (hb : bytesAt w b o s.m s.g) (hne : rb ≠ b) (hg : ∀ i, s.g i < 256) (hbw : b < w.heap.size)
    (hk : k <= s.m) (h : o' = o + k ∨ s.m - k = 0) (hr : w'.heap[rb]? = some (.cells #[.slice (some ⟨b, o', none⟩) (s.m - k) (c - k), .bool s.bad] ty)) : RdAt w' rb ty b ⟨fun i => s.g (i + k), s.m - k, s.bad⟩ := by
  refine ⟨o', c - k, hr, by show s.m - k <= c - k; omega, by omega, ?_, hne, fun i => hg _, Nat.lt_of_lt_of_le hbw ho.size⟩; intro i hi; have hi' : i < s.m - k := hi
  rcases h with rfl | h
  · have h1 := bytes_only hb ho (fun h => hne h.symm) hbw (i + k) (by omega); rw [show o + k + i = o + (i + k) by omega]; exact h1
  · omega
set_option maxRecDepth 100000 in
theorem number_any (rb b : Nat) (s : St) (w : World) (h : RdAt w rb 146 b s) :
    Calls Tryz.prog 99 #[.pointer (some ⟨rb, 0, none⟩)] w fun r w' => r = .returned (.int .i64 (nextS false s).1) /\ RdAt w' rb 146 b (nextS false s).2 /\ Only rb w.heap.size w w' := by
  obtain ⟨o, c, hr, hm, hc, hb, hne, hg, hbw⟩ := h; have HCALL := hid (xRead_any b o s.m c s.g w (by omega) hg hb); have HRD := hid hr; have hc0 : w.cell? ⟨rb, 0, none⟩ = some (.slice (some ⟨b, o, none⟩) s.m c) := by simp [World.cell?, hr]
  by_cases hgd : (readV s.g s.m).2.2 = 0 /\ s.bad = false
  · obtain ⟨he, hbd⟩ := hgd; have HBD := hid hbd; have hsz := readV_size s.g s.m he; obtain ⟨k, hk⟩ : ∃ k : Nat, (readV s.g s.m).2.1 = k := ⟨(readV s.g s.m).2.1.toNat, by omega⟩; have hkm : k <= s.m := by omega
    have HN := hid (nextS_good (sg := false) he hbd hk); have HI := hid (show int3 (readV s.g s.m) = .tuple #[.int .i64 ((readV s.g s.m)).1, .int .i64 k, .int .i64 0] by first | (rw [int3_eq, (signV_size _).1, (signV_size _).2 he, he, hk]) | (rw [int3_eq, he, hk])); have HB := hid hb; have HG := hid hg; clear hb hg he hk hsz hbd; go_enter Tryz.func99, Tryz.ntmps99; go_wp2_with fail; refine HCALL.out.mono ?_; rintro r w1 ⟨rfl, rfl⟩; rw [HI.out]; go_wp2_with fail; refine (step_good rb b o s.m c k _ _ hkm hm hc (by rw [<- HBD.out]; exact HRD.out)).mono ?_; rintro r w2 ⟨rfl, ⟨o', ho', hr'⟩, hol⟩; go_wp2_with fail; go_ret; rw [HN.out]; exact ⟨rfl, rd_after hol hm hc HB.out hne HG.out hbw hkm ho' (by rw [HBD.out]; exact hr'), hol⟩
  · have HN := hid (nextS_bad (sg := false) hgd); have HI := hid (show int3 (readV s.g s.m) = .tuple #[.int .i64 ((readV s.g s.m)).1, .int .i64 ((readV s.g s.m)).2.1, .int .i64 ((readV s.g s.m)).2.2] from rfl); have hse : ((readV s.g s.m)).2.2 ≠ 0 ∨ s.bad = true := by
      by_cases hb2 : s.bad = true
      · exact Or.inr hb2
      · refine Or.inl (fun h => hgd ⟨?_, by simpa using hb2⟩)
        first | exact h | (rw [(signV_size _).1] at h; exact h)
    have HB := hid hb; have HG := hid hg; clear hb hg hgd; go_enter Tryz.func99, Tryz.ntmps99; go_wp2_with fail; refine HCALL.out.mono ?_; rintro r w1 ⟨rfl, rfl⟩; rw [HI.out]; go_wp2_with fail; refine (step_bad rb b o s.m c s.bad _ _ _ _ hse HRD.out).mono ?_; rintro r w2 ⟨rfl, hr', hol⟩; go_wp2_with fail; go_ret; rw [HN.out]; exact ⟨rfl, ⟨o, c, hr', hm, hc, bytes_only HB.out hol (fun h => hne h.symm) hbw, hne, HG.out, Nat.lt_of_lt_of_le hbw hol.size⟩, hol⟩
set_option maxRecDepth 100000 in
theorem signed_any (rb b : Nat) (s : St) (w : World) (h : RdAt w rb 146 b s) :
    Calls Tryz.prog 135 #[.pointer (some ⟨rb, 0, none⟩)] w fun r w' => r = .returned (.int .i64 (nextS true s).1) /\ RdAt w' rb 146 b (nextS true s).2 /\ Only rb w.heap.size w w' := by
  obtain ⟨o, c, hr, hm, hc, hb, hne, hg, hbw⟩ := h; have HCALL := hid (xSigned_any b o s.m c s.g w (by omega) hg hb); have HRD := hid hr; have hc0 : w.cell? ⟨rb, 0, none⟩ = some (.slice (some ⟨b, o, none⟩) s.m c) := by simp [World.cell?, hr]
  by_cases hgd : (readV s.g s.m).2.2 = 0 /\ s.bad = false
  · obtain ⟨he, hbd⟩ := hgd; have HBD := hid hbd; have hsz := readV_size s.g s.m he; obtain ⟨k, hk⟩ : ∃ k : Nat, (readV s.g s.m).2.1 = k := ⟨(readV s.g s.m).2.1.toNat, by omega⟩; have hkm : k <= s.m := by omega
    have HN := hid (nextS_good (sg := true) he hbd hk); have HI := hid (show int3 (signV (readV s.g s.m)) = .tuple #[.int .i64 ((signV (readV s.g s.m))).1, .int .i64 k, .int .i64 0] by first | (rw [int3_eq, (signV_size _).1, (signV_size _).2 he, he, hk]) | (rw [int3_eq, he, hk])); have HB := hid hb; have HG := hid hg; clear hb hg he hk hsz hbd; go_enter Tryz.func135, Tryz.ntmps135; go_wp2_with fail; refine HCALL.out.mono ?_; rintro r w1 ⟨rfl, rfl⟩; rw [HI.out]; go_wp2_with fail; refine (step_good rb b o s.m c k _ _ hkm hm hc (by rw [<- HBD.out]; exact HRD.out)).mono ?_; rintro r w2 ⟨rfl, ⟨o', ho', hr'⟩, hol⟩; go_wp2_with fail; go_ret; rw [HN.out]; exact ⟨rfl, rd_after hol hm hc HB.out hne HG.out hbw hkm ho' (by rw [HBD.out]; exact hr'), hol⟩
  · have HN := hid (nextS_bad (sg := true) hgd); have HI := hid (show int3 (signV (readV s.g s.m)) = .tuple #[.int .i64 ((signV (readV s.g s.m))).1, .int .i64 ((signV (readV s.g s.m))).2.1, .int .i64 ((signV (readV s.g s.m))).2.2] from rfl); have hse : ((signV (readV s.g s.m))).2.2 ≠ 0 ∨ s.bad = true := by
      by_cases hb2 : s.bad = true
      · exact Or.inr hb2
      · refine Or.inl (fun h => hgd ⟨?_, by simpa using hb2⟩)
        first | exact h | (rw [(signV_size _).1] at h; exact h)
    have HB := hid hb; have HG := hid hg; clear hb hg hgd; go_enter Tryz.func135, Tryz.ntmps135; go_wp2_with fail; refine HCALL.out.mono ?_; rintro r w1 ⟨rfl, rfl⟩; rw [HI.out]; go_wp2_with fail; refine (step_bad rb b o s.m c s.bad _ _ _ _ hse HRD.out).mono ?_; rintro r w2 ⟨rfl, hr', hol⟩; go_wp2_with fail; go_ret; rw [HN.out]; exact ⟨rfl, ⟨o, c, hr', hm, hc, bytes_only HB.out hol (fun h => hne h.symm) hbw, hne, HG.out, Nat.lt_of_lt_of_le hbw hol.size⟩, hol⟩
open Go.RowKit
theorem run_make_lc {P : Program} (t e : TypeId) (i : TypeInfo) (z : Value) (ht : P.underlying t = some (.slice e)) (hi : P.info? e = some i) (hz : i.zero = some z) (hsize : i.size = 1) (hz1 : z.cells = #[z])
    (kl kc : IntKind) (l n : Nat) (hl : l <= n) (hbytes : i.bytes * n <= 281474976710656) (h63 : n <= 9223372036854775807) (w : World) :
    (Instr.makeSlice t (.int kl (l : Int)) (.int kc (n : Int))).run P w = .ok (.slice (some ⟨w.heap.size, 0, none⟩) l n) (w.alloc (.cells (madeCells #[z] n) e)) := by
  have hb' : (i.bytes : Int) * (n : Int) <= 281474976710656 := by
    have h : ((i.bytes * n : Nat) : Int) <= 281474976710656 := by omega
    rwa [Int.natCast_mul] at h
  have hr := run_make (P := P) w t e i z ht hi hz kl kc l n (by omega) (by omega) hb' (by omega); simp only [Int.toNat_natCast, hsize, Nat.mul_one, hz1] at hr; exact hr
theorem wpList_make_lc {P : Program} (w : World) {ops : Array Oper} {rest : List Oper} {o : Oper} {a : Act} {Q : Exit -> Act -> World -> Prop}
    (hg : o.guard = none) (l c : Operand) (t : TypeId) (hop : o.op = Op.makeSlice t l c)
    (e : TypeId) (i : TypeInfo) (z : Value) (ht : P.underlying t = some (.slice e)) (hi : P.info? e = some i) (hz : i.zero = some z) (hsize : i.size = 1) (hz1 : z.cells = #[z])
    (kl kc : IntKind) (L C : Int) (m n : Nat) (hl : a.eval l = .int kl L) (hc : a.eval c = .int kc C) (hL : L = m) (hC : C = n) (hmn : m <= n) (hbytes : i.bytes * n <= 281474976710656) (h63 : n <= 9223372036854775807)
    (hK : wpList P ops Q rest (a.put o.dst (.slice (some ⟨w.heap.size, 0, none⟩) m n)) (w.alloc (.cells (madeCells #[z] n) e))) :
    wpList P ops Q (o :: rest) a w := by
  refine wpList_plain hg fun K hK' => ?_
  have hrun := run_make_lc (P := P) t e i z ht hi hz hsize hz1 kl kc m n hmn hbytes h63 w; subst hL hC; unfold Oper.wp; simp [execOp, hop, hl, hc, hrun, Result.andThen]; exact hK' _ _ hK
theorem or128 {r : Int} (h : 0 <= r /\ r < 128) : bits .or .u8 r 128 = r + 128 := by
  rw [show bits .or .u8 r 128 = bits .or .u8 128 r by simp [bits, BitVec.or_comm]]; rw [bits_join .u8 8 (by decide) (fun n h1 h2 => by rw [IntKind.wrap_u8]; omega) 7 128 r (by omega) (by decide) (by decide) h.1 (by omega) (by omega)]; omega
theorem size5 : (Tryz.prog.info? 5).map (·.size) = some 1 := by kernel_rfl
theorem cell_past {w : World} {a : Addr} {v : Value} {o : Obj} (h : w.cell? a = some v) : (w.alloc o).cell? a = some v := by
  have hlt : a.block < w.heap.size := by
    unfold World.cell? at h
    split at h
    · rename_i hx; exact (Array.getElem?_eq_some_iff.1 hx).1
    · simp at h
  rw [World.cell?_of_block (w := w) (w' := w.alloc o) (a := a) (Below.heap_alloc w o _ hlt)]; exact h
theorem own_copied (w : World) (n : Nat) (xs : List Nat) (hlen : xs.length = n) (hn : n <= 1000000) :
    (w.alloc (.cells ((madeCells #[.int .u8 0] (n + 9)).toList.take 0 ++ (u8s xs ++ (madeCells #[.int .u8 0] (n + 9)).toList.drop (0 + (u8s xs).length))).toArray 5)).ownsRow w.heap.size 5 1 (.slice (some ⟨w.heap.size, 0, none⟩) n (n + 9)) n (u8s xs) := by
  have h1 : (u8s xs).length = n := by simp [u8s, hlen]
  refine ⟨by omega, Or.inr ⟨w.heap.size, n + 9, _, rfl, Nat.le_refl _, heap_alloc_at _ _ _ rfl, by omega, by unfold maxLen; omega, ?_, ?_⟩⟩
  · simp [h1, size_madeCells]
  · simp [h1]
set_option maxRecDepth 100000 in
theorem xNumber_any (g n cap z : Nat) (xs : List Nat) (w : World) (hown : w.ownsRow 0 5 1 (.slice (some ⟨g, 0, none⟩) n cap) n (u8s xs)) (hn : n <= 1000000) (hn0 : 0 < n) (hz : z <= 4611686018427387903) :
    Calls Tryz.prog 144 #[.slice (some ⟨g, 0, none⟩) n cap, .int .i64 z] w fun e w' => (∃ v, e = .returned (.tuple #[v, .int .i64 0]) /\ w'.ownsRow w.heap.size 5 1 v (xs ++ encN z).length (u8s (xs ++ encN z))) /\ Below w.heap.size w w' := by
  obtain ⟨i0, hi, hz0, hz1, hz2⟩ := info_parts info5; have HO := hid hown; have HI := hid hi; have HZ0 := hid hz0; have HZ1 := hid hz1; have HZ2 := hid hz2; have hlen : xs.length = n := by have := hown.1; simpa [u8s] using this
  have hel := encN_len 8 z (by omega); clear hown hi hz0 hz1 hz2; go_enter Tryz.func144, Tryz.ntmps144
  go_wp2_with (first | (refine wpList_make_lc _ rfl (.tmp 14) (.tmp 17) 63 rfl 5 i0 (.int .u8 0) Tryz.underlying63 HI.out HZ0.out HZ1.out rfl .i64 .i64 _ _ n (n + 9) rfl rfl (by omega) (by omega) (by omega) (by rw [HZ2.out]; omega) (by omega) ?_) | (refine wpList_copy_own rfl (.tmp 19) (.tmp 20) 63 63 rfl 5 Tryz.underlying63 size5 w.heap.size 0 n (n + 9) ⟨g, 0, none⟩ n cap rfl rfl (madeCells #[.int .u8 0] (n + 9)) 5 (heap_alloc_at _ _ _ rfl) (u8s xs) (by rw [show (u8s xs).length = n by simp [u8s, hlen]]; exact (Nat.min_self n).symm) (fun j v hj => cell_past (HO.out.cells (g := g) rfl j v hj)) (by simp [u8s, hlen, size_madeCells]) (u8s_one xs) ?_; rw [setRow_new _ _ _ _ _ _ rfl]))
  have HO1 := hid (own_copied w n xs hlen hn); have HB := hid ((Below.refl w.heap.size w).alloc (Nat.le_refl _) (.cells ((madeCells #[.int .u8 0] (n + 9)).toList.take 0 ++ (u8s xs ++ (madeCells #[.int .u8 0] (n + 9)).toList.drop (0 + (u8s xs).length))).toArray 5)); refine gen_world (fun W hW => ?_); rw [<- hW] at HO1 HB; clear hW; go_frame
  go_loopw [1, 6] (fun q v wr => ∃ (k : Nat) (ys : List Nat), k <= z /\ q = .int .i64 k /\ xs ++ encN z = ys ++ encN k /\ wr.ownsRow w.heap.size 5 1 v ys.length (u8s ys) /\ Below w.heap.size w wr) (fun q _ _ => (intOf q).toNat)
  case atStart => exact ⟨z, xs, Nat.le_refl _, rfl, rfl, by rw [hlen]; exact HO1.out, HB.out⟩
  case round =>
    obtain ⟨k, ys, hk, rfl, he, hown2, hB⟩ := hrel; have hz2 := hB.size; have HB2 := hid hB; have HO2 := hid hown2; have hle : ys.length <= 1000100 := by
      have h1 := congrArg List.length he; simp at h1; omega
    by_cases h1 : 128 <= k
    · have HE := hid (show xs ++ encN z = (ys ++ [k % 128 + 128]) ++ encN (k / 128) by rw [he, encN_more h1]; simp); have ho := or128 (r := (k : Int) % 128) (by omega); clear he hB hown2; go_wp2_with (at_builtin; refine wpList_append_own _ rfl (.tmp 24) (.tmp 29) 63 rfl w.heap.size 5 i0 (.int .u8 0) 1 1 Tryz.underlying63 HI.out HZ0.out HZ1.out HZ2.out rfl (by decide) _ ys.length (u8s ys) rfl (HO2.out.alloc _) ⟨wr.heap.size, 0, none⟩ 1 1 (u8s [k % 128 + 128]) rfl rfl (byte_at (by omega)) (u8s_one _) (by unfold maxLen; omega) (by omega) (by simp; omega) ?_; intro v' w2 hown3 hgrow3 hnil3); have hb3 := grown_below HB2.out HO2.out hgrow3 hz2; rw [<- u8s_append, show ys.length + 1 = (ys ++ [k % 128 + 128]).length by simp] at hown3; have HB3 := hid hb3; have HO3 := hid hown3; clear hb3 hown3 hgrow3 hnil3; go_wp2_with fail; go_roundw
      case rel => ((repeat apply Exists.intro); exact ⟨⟨k / 128, ys ++ [k % 128 + 128], by omega, by go_num, HE.out, HO3.out, HB3.out⟩, rfl⟩)
      case measure => simp [intOf]; omega
    · have HE := hid (show xs ++ encN z = ys ++ [k] by rw [he, encN_last h1]); clear he hB hown2; go_wp2_with (at_builtin; refine wpList_append_own _ rfl (.tmp 33) (.tmp 36) 63 rfl w.heap.size 5 i0 (.int .u8 0) 1 1 Tryz.underlying63 HI.out HZ0.out HZ1.out HZ2.out rfl (by decide) _ ys.length (u8s ys) rfl (HO2.out.alloc _) ⟨wr.heap.size, 0, none⟩ 1 1 (u8s [k]) rfl rfl (byte_at (by first | rfl | omega)) (u8s_one _) (by unfold maxLen; omega) (by omega) (by simp; omega) ?_; intro v' w2 hown3 hgrow3 hnil3); have hb3 := grown_below HB2.out HO2.out hgrow3 hz2; rw [<- u8s_append, show ys.length + 1 = (ys ++ [k]).length by simp] at hown3; have HB3 := hid hb3; have HO3 := hid hown3; clear hb3 hown3 hgrow3 hnil3; go_wp2_with fail; go_ret2; rw [HE.out]; exact ⟨⟨_, rfl, HO3.out⟩, HB3.out⟩
theorem own_made (w : World) : (w.alloc (.cells (madeCells #[.int .u8 0] 9) 5)).ownsRow w.heap.size 5 1 (.slice (some ⟨w.heap.size, 0, none⟩) 0 9) 0 (u8s []) :=
  ⟨rfl, Or.inr ⟨w.heap.size, 9, _, rfl, Nat.le_refl _, heap_alloc_at _ _ _ rfl, by omega, by unfold maxLen; omega, by simp [size_madeCells], by simp [u8s]⟩⟩
set_option maxRecDepth 100000 in
theorem xNumber_nil (z : Nat) (w : World) (hz : z <= 4611686018427387903) :
    Calls Tryz.prog 144 #[.slice none 0 0, .int .i64 z] w fun e w' => (∃ v, e = .returned (.tuple #[v, .int .i64 0]) /\ w'.ownsRow w.heap.size 5 1 v (encN z).length (u8s (encN z))) /\ Below w.heap.size w w' := by
  obtain ⟨i0, hi, hz0, hz1, hz2⟩ := info_parts info5; have HI := hid hi; have HZ0 := hid hz0; have HZ1 := hid hz1; have HZ2 := hid hz2; have hel := encN_len 8 z (by omega); clear hi hz0 hz1 hz2; go_enter Tryz.func144, Tryz.ntmps144
  go_wp2_with (first | (refine wpList_make_lc _ rfl (.tmp 14) (.tmp 17) 63 rfl 5 i0 (.int .u8 0) Tryz.underlying63 HI.out HZ0.out HZ1.out rfl .i64 .i64 _ _ 0 9 rfl rfl (by omega) (by omega) (by omega) (by rw [HZ2.out]; omega) (by omega) ?_) | (refine wpList_copy_nothing rfl (.tmp 19) (.tmp 20) 63 63 rfl 5 Tryz.underlying63 size5 _ _ 0 9 0 0 rfl rfl rfl ?_))
  have HO1 := hid (own_made w); have HB := hid ((Below.refl w.heap.size w).alloc (Nat.le_refl _) (.cells (madeCells #[.int .u8 0] 9) 5)); refine gen_world (fun W hW => ?_); rw [<- hW] at HO1 HB; clear hW; go_frame
  go_loopw [1, 6] (fun q v wr => ∃ (k : Nat) (ys : List Nat), k <= z /\ q = .int .i64 k /\ [] ++ encN z = ys ++ encN k /\ wr.ownsRow w.heap.size 5 1 v ys.length (u8s ys) /\ Below w.heap.size w wr) (fun q _ _ => (intOf q).toNat)
  case atStart => exact ⟨z, [], Nat.le_refl _, rfl, rfl, HO1.out, HB.out⟩
  case round =>
    obtain ⟨k, ys, hk, rfl, he, hown2, hB⟩ := hrel; have hz2 := hB.size; have HB2 := hid hB; have HO2 := hid hown2; have hle : ys.length <= 1000100 := by
      have h1 := congrArg List.length he; simp at h1; omega
    by_cases h1 : 128 <= k
    · have HE := hid (show [] ++ encN z = (ys ++ [k % 128 + 128]) ++ encN (k / 128) by rw [he, encN_more h1]; simp); have ho := or128 (r := (k : Int) % 128) (by omega); clear he hB hown2; go_wp2_with (at_builtin; refine wpList_append_own _ rfl (.tmp 24) (.tmp 29) 63 rfl w.heap.size 5 i0 (.int .u8 0) 1 1 Tryz.underlying63 HI.out HZ0.out HZ1.out HZ2.out rfl (by decide) _ ys.length (u8s ys) rfl (HO2.out.alloc _) ⟨wr.heap.size, 0, none⟩ 1 1 (u8s [k % 128 + 128]) rfl rfl (byte_at (by omega)) (u8s_one _) (by unfold maxLen; omega) (by omega) (by simp; omega) ?_; intro v' w2 hown3 hgrow3 hnil3); have hb3 := grown_below HB2.out HO2.out hgrow3 hz2; rw [<- u8s_append, show ys.length + 1 = (ys ++ [k % 128 + 128]).length by simp] at hown3; have HB3 := hid hb3; have HO3 := hid hown3; clear hb3 hown3 hgrow3 hnil3; go_wp2_with fail; go_roundw
      case rel => ((repeat apply Exists.intro); exact ⟨⟨k / 128, ys ++ [k % 128 + 128], by omega, by go_num, HE.out, HO3.out, HB3.out⟩, rfl⟩)
      case measure => simp [intOf]; omega
    · have HE := hid (show [] ++ encN z = ys ++ [k] by rw [he, encN_last h1]); clear he hB hown2; go_wp2_with (at_builtin; refine wpList_append_own _ rfl (.tmp 33) (.tmp 36) 63 rfl w.heap.size 5 i0 (.int .u8 0) 1 1 Tryz.underlying63 HI.out HZ0.out HZ1.out HZ2.out rfl (by decide) _ ys.length (u8s ys) rfl (HO2.out.alloc _) ⟨wr.heap.size, 0, none⟩ 1 1 (u8s [k]) rfl rfl (byte_at (by first | rfl | omega)) (u8s_one _) (by unfold maxLen; omega) (by omega) (by simp; omega) ?_; intro v' w2 hown3 hgrow3 hnil3); have hb3 := grown_below HB2.out HO2.out hgrow3 hz2; rw [<- u8s_append, show ys.length + 1 = (ys ++ [k]).length by simp] at hown3; have HB3 := hid hb3; have HO3 := hid hown3; clear hb3 hown3 hgrow3 hnil3; go_wp2_with fail; go_ret2; rw [show encN z = [] ++ encN z from rfl, HE.out]; exact ⟨⟨_, rfl, HO3.out⟩, HB3.out⟩
theorem xNumber_own {v : Value} {z : Nat} {xs : List Nat} {w : World} (hown : OwnB w 0 v xs) (hn : xs.length <= 1000000) (hz : z <= 4611686018427387903) :
    Calls Tryz.prog 144 #[v, .int .i64 z] w fun e w' => (∃ v', e = .returned (.tuple #[v', .int .i64 0]) /\ OwnB w' w.heap.size v' (xs ++ encN z)) /\ Below w.heap.size w w' := by
  have hp : 0 < (xs ++ encN z).length := by have := encN_pos z; simp; omega
  rcases hown.cases with ⟨rfl, rfl⟩ | ⟨g, cap, rfl, _, h0⟩
  · refine (xNumber_nil z w hz).mono ?_; rintro r w1 ⟨⟨v, rfl, h⟩, hb⟩; exact ⟨⟨v, rfl, OwnB.of h hp⟩, hb⟩
  · refine (xNumber_any g _ cap z xs w hown.1 hn h0 hz).mono ?_; rintro r w1 ⟨⟨v, rfl, h⟩, hb⟩; exact ⟨⟨v, rfl, OwnB.of h hp⟩, hb⟩
theorem xSigned_own {v : Value} {z : Int} {xs : List Nat} {w : World} (hown : OwnB w 0 v xs) (hn : xs.length <= 1000000) (hz : -2305843009213693952 <= z /\ z <= 2305843009213693951) :
    Calls Tryz.prog 150 #[v, .int .i64 z] w fun e w' => (∃ v', e = .returned (.tuple #[v', .int .i64 0]) /\ OwnB w' w.heap.size v' (xs ++ encN (zig z))) /\ Below w.heap.size w w' := by
  by_cases h0 : z < 0
  · have H := hid (xNumber_own (z := zig z) hown hn (by unfold zig; rw [if_pos h0]; omega)); have HE := hid (show ((zig z : Nat) : Int) = -2 * (z + 1) + 1 by unfold zig; rw [if_pos h0]; omega); generalize zig z = q at *; rw [HE.out] at H; clear hown; go_enter Tryz.func150, Tryz.ntmps150; go_wp2_with fail; refine H.out.mono ?_; rintro r w1 ⟨⟨v, rfl, hown1⟩, hb⟩; have HB := hid hb; have HO := hid hown1; clear hb hown1; go_wp2_with fail; go_ret2; exact ⟨⟨_, rfl, HO.out⟩, HB.out⟩
  · have H := hid (xNumber_own (z := zig z) hown hn (by unfold zig; rw [if_neg h0]; omega)); have HE := hid (show ((zig z : Nat) : Int) = 2 * z by unfold zig; rw [if_neg h0]; omega); generalize zig z = q at *; rw [HE.out] at H; clear hown; go_enter Tryz.func150, Tryz.ntmps150; go_wp2_with fail; refine H.out.mono ?_; rintro r w1 ⟨⟨v, rfl, hown1⟩, hb⟩; have HB := hid hb; have HO := hid hown1; clear hb hown1; go_wp2_with fail; go_ret2; exact ⟨⟨_, rfl, HO.out⟩, HB.out⟩
end Go.Proofs.YtcclpdfmmdonpaaGreat

/- Texts of the seat Ytpablkmdpoombaa, turned to this one by wip/port.py: Num Crc Enc Rp. -/
import Derived.Test.YtpfighhhemnhaaaGreatA
import Derived.Test.YtpfighhhemnhaaaGreatB
import Derived.Test.YtpfighhhemnhaaaGreatC
import Derived.Laws.Bits64b
import Derived.WalkKit
import Derived.LoopN
import Derived.Laws.AppendOwnNone
import Derived.Deep.OwnRows
import Derived.Laws.CopyOwn
import Derived.Laws.BitsLemmas
import Derived.Laws.BytesArg
import Derived.Laws.Strings
/- Num -/
namespace Go.Proofs.YtpfighhhemnhaaaGreat
open Go.RowKit

/-- the number of the first k groups of seven bits -/
def val7 (g : Nat → Nat) : Nat → Nat
  | 0 => 0
  | k + 1 => val7 g k + g k % 128 * 128 ^ k
theorem val7_lt (g : Nat → Nat) : ∀ k, val7 g k < 128 ^ k
  | 0 => by simp [val7]
  | k + 1 => by
    have h := val7_lt g k
    have h2 : g k % 128 < 128 := Nat.mod_lt _ (by decide)
    unfold val7
    have h3 : g k % 128 * 128 ^ k ≤ 127 * 128 ^ k := Nat.mul_le_mul_right _ (by omega)
    rw [Nat.pow_succ]; omega
/-- what a reader of a number returns, from byte i on, for so many more bytes -/
def rd (g : Nat → Nat) (n : Nat) : Nat → Nat → Int × Int × Int
  | 0, _ => (0, 0, 4)
  | f + 1, i => if i = n then (0, 0, 21) else if 128 ≤ g i then rd g n f (i + 1) else
    if (g i = 0 ∧ 0 < i) ∨ 4611686018427387903 < val7 g (i + 1) then (0, 0, 4) else (val7 g (i + 1), (i : Int) + 1, 0)
def readV (g : Nat → Nat) (n : Nat) : Int × Int × Int := rd g n 9 0
def int3 (x : Int × Int × Int) : Value := .tuple #[.int .i64 x.1, .int .i64 x.2.1, .int .i64 x.2.2]
def bytesAt (w : World) (b off n : Nat) (g : Nat → Nat) : Prop := ∀ i, i < n → w.cell? ⟨b, off + i, none⟩ = some (.int .u8 (g i : Nat))

theorem pow7 (k : Nat) : 128 ^ k = 2 ^ (7 * k) := by rw [Nat.pow_mul]
theorem pow9 {k : Nat} (hk : k ≤ 9) : 128 ^ k ≤ 9223372036854775808 := Nat.le_trans (Nat.pow_le_pow_right (by decide) hk) (by decide)
theorem or7 {v x k : Nat} (hv : v < 128 ^ k) (hk : k < 9) : bits .or .u64 (v : Int) (IntKind.u64.wrap ((x : Int) % 128 * 2 ^ (7 * k))) = ((v + x % 128 * 128 ^ k : Nat) : Int) := by
  have hx : x % 128 < 128 := Nat.mod_lt _ (by decide)
  have h1 : x % 128 * 128 ^ k ≤ 127 * 128 ^ k := Nat.mul_le_mul_right _ (by omega)
  have h2 : 128 ^ (k + 1) ≤ 9223372036854775808 := pow9 (by omega)
  rw [Nat.pow_succ] at h2
  have hc : (x : Int) % 128 * 2 ^ (7 * k) = ((x % 128 * 128 ^ k : Nat) : Int) := by rw [pow7]; simp
  rw [hc, IntWalk.u64_in _ (by omega), bits_or_u64_nat _ _ (by omega) (by omega)]
  congr 1
  rw [pow7, Nat.or_comm, Nat.mul_comm, ← Nat.two_pow_add_eq_or_of_lt (by rw [← pow7]; exact hv), Nat.add_comm]


set_option maxRecDepth 100000 in
set_option maxHeartbeats 1600000 in
theorem xRead_any (b off n c : Nat) (g : Nat → Nat) (w : World) (hn : n ≤ 9223372036854775807) (hg : ∀ i, g i < 256) (hc : bytesAt w b off n g) :
    Calls Tryz.prog 138 #[.slice (some ⟨b, off, none⟩) n c] w fun e w' => e = .returned (int3 (readV g n)) ∧ w = w' := by
  have HC := hid hc
  have HG := hid hg
  clear hc hg
  go_enter Tryz.func138, Tryz.ntmps138
  go_wp2_with fail
  go_loop [5, 7] (fun a i => ∃ (k : Nat), k ≤ 9 ∧ k ≤ n ∧ i = .int .i64 k ∧ a = .int .u64 (val7 g k : Nat) ∧ rd g n (9 - k) k = readV g n) (fun _ i => 9 - (intOf i).toNat)
  case atStart => exact ⟨0, by omega, by omega, rfl, rfl, rfl⟩
  case round =>
    obtain ⟨k, hk, hkn, rfl, rfl, hr⟩ := hrel
    by_cases hlt : k < 9
    · by_cases he : k = n
      · have HX := hid (show readV g n = (0, 0, 21) by rw [← hr, show 9 - k = (8 - k) + 1 by omega]; unfold rd; rw [if_pos he])
        clear hr
        go_wp2_with fail
        go_ret3
        exact ⟨by rw [HX.out]; rfl, rfl⟩
      · have hc := HC.out k (by omega)
        have hgk := HG.out k
        have HR := hid (show readV g n = (if 128 ≤ g k then rd g n (8 - k) (k + 1) else if (g k = 0 ∧ 0 < k) ∨ 4611686018427387903 < val7 g (k + 1) then (0, 0, 4) else (val7 g (k + 1), (k : Int) + 1, 0)) by rw [← hr, show 9 - k = (8 - k) + 1 by omega]; exact if_neg he)
        have HV := hid (show val7 g (k + 1) = val7 g k + g k % 128 * 128 ^ k from rfl)
        have HVL := hid (val7_lt g k)
        have HVL2 := hid (val7_lt g (k + 1))
        have HVE := hid (fun (q : Nat) (hq : q = k + 1) => (by subst hq; rfl : val7 g q = val7 g k + g k % 128 * 128 ^ k))
        clear hr
        generalize val7 g (k + 1) = v' at *
        generalize val7 g k = v at *
        generalize g k = gk at *
        have HO := hid (or7 (x := gk) HVL.out hlt)
        have hvl2 : v' < 9223372036854775808 := by
          have h3 := pow9 (k := k + 1) (by omega)
          have h4 := HVL2.out
          omega
        by_cases h1 : 128 ≤ gk
        · have HX := hid (HR.out.trans (if_pos h1))
          go_wp2_with fail
          go_round
          case rel => exact ⟨k + 1, by omega, by omega, by go_num, by rw [HO.out, HVE.out _ rfl], by rw [show 9 - (k + 1) = 8 - k by omega]; exact HX.out.symm⟩
          case measure => simp [intOf]; omega
        · have HX := hid (HR.out.trans (if_neg h1))
          have ho : bits .or .u64 (v : Int) (IntKind.u64.wrap ((gk : Int) % 128 * 2 ^ (7 * k))) = (v' : Int) := by rw [HO.out, ← HV.out]
          by_cases h2 : (gk = 0 ∧ 0 < k) ∨ 4611686018427387903 < v'
          · have HX2 := hid (HX.out.trans (if_pos h2))
            clear HX HR
            by_cases h3 : gk = 0 ∧ 0 < k
            · obtain ⟨h3, h4⟩ := h3
              subst h3
              clear h2 h1
              go_wp2_with fail
              go_ret3
              exact ⟨by rw [HX2.out]; rfl, rfl⟩
            · have h4 : 4611686018427387903 < v' := by omega
              clear h2
              by_cases h5 : gk = 0
              · have h6 : k = 0 := by omega
                have h7 : ((gk : Int) == 0) = true := by simp; omega
                have H6 := hid h6
                clear h6
                clear h5
                go_wp2_with fail
                all_goals first | (go_ret3; exact ⟨by rw [HX2.out]; rfl, rfl⟩) | (have hk0 : k = 0 := H6.out; subst hk0; go_ret3; exact ⟨by rw [HX2.out]; rfl, rfl⟩)
              · have h7 : ((gk : Int) == 0) = false := by simp; omega
                clear h5 h3
                go_wp2_with fail
                go_ret3
                exact ⟨by rw [HX2.out]; rfl, rfl⟩
          · have HX2 := hid (HX.out.trans (if_neg h2))
            clear HX HR
            have h4 : ¬ 4611686018427387903 < v' := by omega
            by_cases h5 : gk = 0
            · have h6 : k = 0 := by omega
              have h7 : ((gk : Int) == 0) = true := by simp; omega
              have H6 := hid h6
              clear h6
              clear h5
              go_wp2_with fail
              all_goals first | (go_ret3; exact ⟨by rw [HX2.out]; rfl, rfl⟩) | (have hk0 : k = 0 := H6.out; subst hk0; go_ret3; exact ⟨by rw [HX2.out]; rfl, rfl⟩)
            · have h7 : ((gk : Int) == 0) = false := by simp; omega
              clear h5 h2
              go_wp2_with fail
              go_ret3
              exact ⟨by rw [HX2.out]; rfl, rfl⟩
    · obtain rfl : k = 9 := by omega
      have HX := hid (show readV g n = (0, 0, 4) from hr.symm)
      clear hr
      go_wp2_with fail
      go_ret3
      exact ⟨by rw [HX.out]; rfl, rfl⟩
end Go.Proofs.YtpfighhhemnhaaaGreat

namespace Go.Proofs.YtpfighhhemnhaaaGreat
open Go.RowKit

/-- what a reader of a signed number returns -/
def signV (x : Int × Int × Int) : Int × Int × Int := if x.2.2 = 0 then (if x.1 % 2 = 1 then (-(x.1 / 2) - 1, x.2.1, 0) else (x.1 / 2, x.2.1, 0)) else (0, 0, x.2.2)
theorem int3_eq (x : Int × Int × Int) : int3 x = .tuple #[.int .i64 x.1, .int .i64 x.2.1, .int .i64 x.2.2] := rfl
theorem rd_bd (g : Nat → Nat) (n : Nat) : ∀ f i, (0 ≤ (rd g n f i).1 ∧ (rd g n f i).1 ≤ 4611686018427387903) ∧ ((rd g n f i).2.2 = 0 → i ≤ n → (i : Int) + 1 ≤ (rd g n f i).2.1 ∧ (rd g n f i).2.1 ≤ n)
  | 0, i => by simp [rd]
  | f + 1, i => by
    unfold rd
    split
    · simp
    · split
      · have h := rd_bd g n f (i + 1)
        refine ⟨h.1, fun h1 h2 => ?_⟩
        have h3 := h.2 h1 (by omega)
        omega
      · split
        · simp
        · simp; omega
theorem readV_bd (g : Nat → Nat) (n : Nat) : 0 ≤ (readV g n).1 ∧ (readV g n).1 ≤ 4611686018427387903 := (rd_bd g n 9 0).1
theorem readV_size (g : Nat → Nat) (n : Nat) (h : (readV g n).2.2 = 0) : 1 ≤ (readV g n).2.1 ∧ (readV g n).2.1 ≤ n := (rd_bd g n 9 0).2 h (by omega)
theorem signV_size (x : Int × Int × Int) : (signV x).2.2 = x.2.2 ∧ (x.2.2 = 0 → (signV x).2.1 = x.2.1) := by
  obtain ⟨v, s, e⟩ := x
  unfold signV
  split
  · rename_i h; simp only at h; subst h; split <;> simp
  · rename_i h; exact ⟨rfl, fun h2 => absurd h2 h⟩

theorem xSigned_any (b off n c : Nat) (g : Nat → Nat) (w : World) (hn : n ≤ 9223372036854775807) (hg : ∀ i, g i < 256) (hc : bytesAt w b off n g) :
    Calls Tryz.prog 224 #[.slice (some ⟨b, off, none⟩) n c] w fun e w' => e = .returned (int3 (signV (readV g n))) ∧ w = w' := by
  have H := hid (xRead_any b off n c g w hn hg hc)
  have hb := readV_bd g n
  have hs := int3_eq (readV g n)
  generalize readV g n = x at *
  obtain ⟨v, s, e⟩ := x
  rw [hs] at H
  clear hs hc hg
  simp only at hb H
  by_cases he : e = 0
  · subst he
    by_cases ho : v % 2 = 1
    · have HX := hid (show signV (v, s, 0) = (-(v / 2) - 1, s, 0) by simp [signV, ho])
      go_enter Tryz.func224, Tryz.ntmps224
      go_wp2_with fail
      refine H.out.mono ?_
      rintro r w1 ⟨rfl, rfl⟩
      go_wp2_with fail
      go_ret3
      exact ⟨by rw [HX.out]; rfl, rfl⟩
    · have HX := hid (show signV (v, s, 0) = (v / 2, s, 0) by simp [signV, ho])
      have hev : v % 2 = 0 := by omega
      go_enter Tryz.func224, Tryz.ntmps224
      go_wp2_with fail
      refine H.out.mono ?_
      rintro r w1 ⟨rfl, rfl⟩
      go_wp2_with fail
      go_ret3
      exact ⟨by rw [HX.out]; rfl, rfl⟩
  · have HX := hid (show signV (v, s, e) = (0, 0, e) from if_neg he)
    go_enter Tryz.func224, Tryz.ntmps224
    go_wp2_with fail
    refine H.out.mono ?_
    rintro r w1 ⟨rfl, rfl⟩
    go_wp2_with fail
    go_ret3
    exact ⟨by rw [HX.out]; rfl, rfl⟩

end Go.Proofs.YtpfighhhemnhaaaGreat

namespace Go.Proofs.YtpfighhhemnhaaaGreat
open Go.RowKit

def u8s (xs : List Nat) : List Value := xs.map fun (x : Nat) => Value.int .u8 (x : Int)
theorem u8s_one (xs : List Nat) : ∀ u ∈ u8s xs, u.oneCell' = true := by
  intro u hu
  simp [u8s] at hu
  obtain ⟨x, _, rfl⟩ := hu
  rfl
theorem info5 : (Tryz.prog.info? 5).map (fun i => (i.zero, i.size, i.bytes)) = some (some (.int .u8 0), 1, 1) := by kernel_rfl

theorem own_base {w : World} {B B' : Nat} {e : TypeId} {s n : Nat} {v : Value} {xs : List Value} (h : w.ownsRow B e s v n xs) (hB : B' ≤ B) : w.ownsRow B' e s v n xs := by
  obtain ⟨h1, h2⟩ := h
  refine ⟨h1, ?_⟩
  rcases h2 with h2 | ⟨g, cap, cur, hv, hg, h3⟩
  · exact Or.inl h2
  · exact Or.inr ⟨g, cap, cur, hv, by omega, h3⟩
theorem u8s_append (xs ys : List Nat) : u8s (xs ++ ys) = u8s xs ++ u8s ys := by simp [u8s]

theorem byte_at {w : World} {x : Nat} {z : Int} (hz : z = x) : ∀ (j : Nat) (u : Value), (u8s [x])[j]? = some u → (w.alloc (.cells #[.int .u8 z] 5)).cell? ((⟨w.heap.size, 0, none⟩ : Addr).add j) = some u := by
  subst hz
  intro j u hj
  match j, hj with
  | 0, hj =>
    simp [u8s] at hj
    subst hj
    simp [Addr.add]
theorem grown_below {B : Nat} {w wr w' : World} {v : Value} {o : Obj} {e : TypeId} {s n : Nat} {xs : List Value} (hB : Below B w wr) (ho : wr.ownsRow B e s v n xs) (hg : (wr.alloc o).grownBy w' v.ownBlock) (hs : B ≤ wr.heap.size) : Below B w w' :=
  (hB.alloc hs o).grown hg (by simp; omega) (fun k hk => (ho.lt k hk).1)

/-- the bytes of a number: seven bits each, the least first -/
def encN (n : Nat) : List Nat := if h : 128 ≤ n then (n % 128 + 128) :: encN (n / 128) else [n]
decreasing_by omega
theorem encN_more {n : Nat} (h : 128 ≤ n) : encN n = (n % 128 + 128) :: encN (n / 128) := by rw [encN]; exact dif_pos h
theorem encN_last {n : Nat} (h : ¬ 128 ≤ n) : encN n = [n] := by rw [encN]; exact dif_neg h
theorem encN_len : ∀ (k n : Nat), n < 128 ^ (k + 1) → (encN n).length ≤ k + 1
  | 0, n, h => by rw [encN_last (by omega)]; simp
  | k + 1, n, h => by
    by_cases h1 : 128 ≤ n
    · rw [encN_more h1]
      have := encN_len k (n / 128) (by rw [Nat.pow_succ] at h; omega)
      simp; omega
    · rw [encN_last h1]; simp
theorem encN_pos (n : Nat) : 0 < (encN n).length := by
  rw [encN]; split <;> simp

/-- bytes that a slice of one's own holds; none of them: the nil slice -/
def OwnB (w : World) (B : Nat) (v : Value) (xs : List Nat) : Prop := w.ownsRow B 5 1 v xs.length (u8s xs) ∧ (xs = [] → v = .slice none 0 0)
theorem OwnB.nil (w : World) (B : Nat) : OwnB w B (.slice none 0 0) [] := ⟨World.ownsRow_nil _ _ _ _, fun _ => rfl⟩
theorem OwnB.of {w : World} {B : Nat} {v : Value} {xs : List Nat} (h : w.ownsRow B 5 1 v xs.length (u8s xs)) (hp : 0 < xs.length) : OwnB w B v xs := ⟨h, fun e => by subst e; cases hp⟩
theorem OwnB.base {w : World} {B B' : Nat} {v : Value} {xs : List Nat} (h : OwnB w B v xs) (hB : B' ≤ B) : OwnB w B' v xs := ⟨own_base h.1 hB, h.2⟩
theorem OwnB.cases {w : World} {B : Nat} {v : Value} {xs : List Nat} (h : OwnB w B v xs) : (v = .slice none 0 0 ∧ xs = []) ∨ (∃ g cap, v = .slice (some ⟨g, 0, none⟩) xs.length cap ∧ B ≤ g ∧ 0 < xs.length) := by
  obtain ⟨⟨_, h2⟩, h3⟩ := h
  by_cases he : xs = []
  · exact Or.inl ⟨h3 he, he⟩
  · have hp : 0 < xs.length := List.length_pos_iff.2 he
    rcases h2 with ⟨_, h0⟩ | ⟨g, cap, cur, hv, hg, _⟩
    · omega
    · exact Or.inr ⟨g, cap, hv, hg, hp⟩
end Go.Proofs.YtpfighhhemnhaaaGreat

namespace Go.Proofs.YtpfighhhemnhaaaGreat
open Go.RowKit

/-- a signed number as one that is not negative -/
def zig (z : Int) : Nat := if z < 0 then (-2 * z - 1).toNat else (2 * z).toNat

/-- the bytes of several numbers -/
def encs {α : Type} (f : α → List Nat) (zs : List α) : List Nat := (zs.map f).flatten
theorem encs_len {α : Type} {f : α → List Nat} {m : Nat} : ∀ (zs : List α), (∀ z ∈ zs, (f z).length ≤ m) → (encs f zs).length ≤ zs.length * m
  | [], _ => by simp [encs]
  | z :: zs, h => by
    have h1 := encs_len zs (fun y hy => h y (by simp [hy]))
    have h2 := h z (by simp)
    have h3 : encs f (z :: zs) = f z ++ encs f zs := rfl
    rw [h3, List.length_append, List.length_cons, Nat.succ_mul]; omega

theorem zig_len {z : Int} (h : -2305843009213693952 ≤ z ∧ z ≤ 2305843009213693951) : (encN (zig z)).length ≤ 9 := by
  refine encN_len 8 _ ?_
  unfold zig
  split <;> omega
theorem nat_len {z : Int} (h : 0 ≤ z ∧ z ≤ 4611686018427387903) : (encN z.toNat).length ≤ 9 := encN_len 8 _ (by omega)
def encU (z : Int) : List Nat := encN z.toNat
def encS (z : Int) : List Nat := encN (zig z)
end Go.Proofs.YtpfighhhemnhaaaGreat

namespace Go.Proofs.YtpfighhhemnhaaaGreat
open Go.RowKit

theorem run_make_lc {P : Program} (t e : TypeId) (i : TypeInfo) (z : Value) (ht : P.underlying t = some (.slice e)) (hi : P.info? e = some i) (hz : i.zero = some z) (hsize : i.size = 1) (hz1 : z.cells = #[z])
    (kl kc : IntKind) (l n : Nat) (hl : l ≤ n) (hbytes : i.bytes * n ≤ 281474976710656) (h63 : n ≤ 9223372036854775807) (w : World) :
    (Instr.makeSlice t (.int kl (l : Int)) (.int kc (n : Int))).run P w = .ok (.slice (some ⟨w.heap.size, 0, none⟩) l n) (w.alloc (.cells (madeCells #[z] n) e)) := by
  have hb' : (i.bytes : Int) * (n : Int) ≤ 281474976710656 := by
    have h : ((i.bytes * n : Nat) : Int) ≤ 281474976710656 := by omega
    rwa [Int.natCast_mul] at h
  have hr := run_make (P := P) w t e i z ht hi hz kl kc l n (by omega) (by omega) hb' (by omega)
  simp only [Int.toNat_natCast, hsize, Nat.mul_one, hz1] at hr
  exact hr
theorem wpList_make_lc {P : Program} (w : World) {ops : Array Oper} {rest : List Oper} {o : Oper} {a : Act} {Q : Exit → Act → World → Prop}
    (hg : o.guard = none) (l c : Operand) (t : TypeId) (hop : o.op = Op.makeSlice t l c)
    (e : TypeId) (i : TypeInfo) (z : Value) (ht : P.underlying t = some (.slice e)) (hi : P.info? e = some i) (hz : i.zero = some z) (hsize : i.size = 1) (hz1 : z.cells = #[z])
    (kl kc : IntKind) (L C : Int) (m n : Nat) (hl : a.eval l = .int kl L) (hc : a.eval c = .int kc C) (hL : L = m) (hC : C = n) (hmn : m ≤ n) (hbytes : i.bytes * n ≤ 281474976710656) (h63 : n ≤ 9223372036854775807)
    (hK : wpList P ops Q rest (a.put o.dst (.slice (some ⟨w.heap.size, 0, none⟩) m n)) (w.alloc (.cells (madeCells #[z] n) e))) :
    wpList P ops Q (o :: rest) a w := by
  refine wpList_plain hg fun K hK' => ?_
  have hrun := run_make_lc (P := P) t e i z ht hi hz hsize hz1 kl kc m n hmn hbytes h63 w
  subst hL hC
  unfold Oper.wp
  simp [execOp, hop, hl, hc, hrun, Result.andThen]
  exact hK' _ _ hK
theorem or128 {r : Int} (h : 0 ≤ r ∧ r < 128) : bits .or .u8 r 128 = r + 128 := by
  rw [show bits .or .u8 r 128 = bits .or .u8 128 r by simp [bits, BitVec.or_comm]]
  rw [bits_join .u8 8 (by decide) (fun n h1 h2 => by rw [IntKind.wrap_u8]; omega) 7 128 r (by omega) (by decide) (by decide) h.1 (by omega) (by omega)]
  omega

theorem size5 : (Tryz.prog.info? 5).map (·.size) = some 1 := by kernel_rfl
theorem cell_past {w : World} {a : Addr} {v : Value} {o : Obj} (h : w.cell? a = some v) : (w.alloc o).cell? a = some v := by
  have hlt : a.block < w.heap.size := by
    unfold World.cell? at h
    split at h
    · rename_i hx; exact (Array.getElem?_eq_some_iff.1 hx).1
    · simp at h
  rw [World.cell?_of_block (w := w) (w' := w.alloc o) (a := a) (Below.heap_alloc w o _ hlt)]; exact h
theorem own_copied (w : World) (n : Nat) (xs : List Nat) (hlen : xs.length = n) (hn : n ≤ 1000000) :
    (w.alloc (.cells ((madeCells #[.int .u8 0] (n + 9)).toList.take 0 ++ (u8s xs ++ (madeCells #[.int .u8 0] (n + 9)).toList.drop (0 + (u8s xs).length))).toArray 5)).ownsRow w.heap.size 5 1 (.slice (some ⟨w.heap.size, 0, none⟩) n (n + 9)) n (u8s xs) := by
  have h1 : (u8s xs).length = n := by simp [u8s, hlen]
  refine ⟨by omega, Or.inr ⟨w.heap.size, n + 9, _, rfl, Nat.le_refl _, heap_alloc_at _ _ _ rfl, by omega, by unfold maxLen; omega, ?_, ?_⟩⟩
  · simp [h1, size_madeCells]
  · simp [h1]

set_option maxRecDepth 100000 in
theorem xNumber_any (g n cap z : Nat) (xs : List Nat) (w : World) (hown : w.ownsRow 0 5 1 (.slice (some ⟨g, 0, none⟩) n cap) n (u8s xs)) (hn : n ≤ 1000000) (hn0 : 0 < n) (hz : z ≤ 4611686018427387903) :
    Calls Tryz.prog 73 #[.slice (some ⟨g, 0, none⟩) n cap, .int .i64 z] w fun e w' => (∃ v, e = .returned (.tuple #[v, .int .i64 0]) ∧ w'.ownsRow w.heap.size 5 1 v (xs ++ encN z).length (u8s (xs ++ encN z))) ∧ Below w.heap.size w w' := by
  obtain ⟨i0, hi, hz0, hz1, hz2⟩ := info_parts info5
  have HO := hid hown
  have HI := hid hi
  have HZ0 := hid hz0
  have HZ1 := hid hz1
  have HZ2 := hid hz2
  have hlen : xs.length = n := by have := hown.1; simpa [u8s] using this
  have hel := encN_len 8 z (by omega)
  clear hown hi hz0 hz1 hz2
  go_enter Tryz.func73, Tryz.ntmps73
  go_wp2_with (first | (refine wpList_make_lc _ rfl (.tmp 14) (.tmp 17) 38 rfl 5 i0 (.int .u8 0) Tryz.underlying38 HI.out HZ0.out HZ1.out rfl .i64 .i64 _ _ n (n + 9) rfl rfl (by omega) (by omega) (by omega) (by rw [HZ2.out]; omega) (by omega) ?_) | (refine wpList_copy_own rfl (.tmp 19) (.tmp 20) 38 38 rfl 5 Tryz.underlying38 size5 w.heap.size 0 n (n + 9) ⟨g, 0, none⟩ n cap rfl rfl (madeCells #[.int .u8 0] (n + 9)) 5 (heap_alloc_at _ _ _ rfl) (u8s xs) (by rw [show (u8s xs).length = n by simp [u8s, hlen]]; exact (Nat.min_self n).symm) (fun j v hj => cell_past (HO.out.cells (g := g) rfl j v hj)) (by simp [u8s, hlen, size_madeCells]) (u8s_one xs) ?_; rw [setRow_new _ _ _ _ _ _ rfl]))
  have HO1 := hid (own_copied w n xs hlen hn)
  have HB := hid ((Below.refl w.heap.size w).alloc (Nat.le_refl _) (.cells ((madeCells #[.int .u8 0] (n + 9)).toList.take 0 ++ (u8s xs ++ (madeCells #[.int .u8 0] (n + 9)).toList.drop (0 + (u8s xs).length))).toArray 5))
  refine gen_world (fun W hW => ?_)
  rw [← hW] at HO1 HB
  clear hW
  go_frame
  go_loopw [1, 6] (fun q v wr => ∃ (k : Nat) (ys : List Nat), k ≤ z ∧ q = .int .i64 k ∧ xs ++ encN z = ys ++ encN k ∧ wr.ownsRow w.heap.size 5 1 v ys.length (u8s ys) ∧ Below w.heap.size w wr) (fun q _ _ => (intOf q).toNat)
  case atStart => exact ⟨z, xs, Nat.le_refl _, rfl, rfl, by rw [hlen]; exact HO1.out, HB.out⟩
  case round =>
    obtain ⟨k, ys, hk, rfl, he, hown2, hB⟩ := hrel
    have hz2 := hB.size
    have HB2 := hid hB
    have HO2 := hid hown2
    have hle : ys.length ≤ 1000100 := by
      have h1 := congrArg List.length he
      simp at h1
      omega
    by_cases h1 : 128 ≤ k
    · have HE := hid (show xs ++ encN z = (ys ++ [k % 128 + 128]) ++ encN (k / 128) by rw [he, encN_more h1]; simp)
      have ho := or128 (r := (k : Int) % 128) (by omega)
      clear he hB hown2
      go_wp2_with (at_builtin; refine wpList_append_own _ rfl (.tmp 24) (.tmp 29) 38 rfl w.heap.size 5 i0 (.int .u8 0) 1 1 Tryz.underlying38 HI.out HZ0.out HZ1.out HZ2.out rfl (by decide) _ ys.length (u8s ys) rfl (HO2.out.alloc _) ⟨wr.heap.size, 0, none⟩ 1 1 (u8s [k % 128 + 128]) rfl rfl (byte_at (by omega)) (u8s_one _) (by unfold maxLen; omega) (by omega) (by simp; omega) ?_; intro v' w2 hown3 hgrow3 hnil3)
      have hb3 := grown_below HB2.out HO2.out hgrow3 hz2
      rw [← u8s_append, show ys.length + 1 = (ys ++ [k % 128 + 128]).length by simp] at hown3
      have HB3 := hid hb3
      have HO3 := hid hown3
      clear hb3 hown3 hgrow3 hnil3
      go_wp2_with fail
      go_roundw
      case rel => ((repeat apply Exists.intro); exact ⟨⟨k / 128, ys ++ [k % 128 + 128], by omega, by go_num, HE.out, HO3.out, HB3.out⟩, rfl⟩)
      case measure => simp [intOf]; omega
    · have HE := hid (show xs ++ encN z = ys ++ [k] by rw [he, encN_last h1])
      clear he hB hown2
      go_wp2_with (at_builtin; refine wpList_append_own _ rfl (.tmp 33) (.tmp 36) 38 rfl w.heap.size 5 i0 (.int .u8 0) 1 1 Tryz.underlying38 HI.out HZ0.out HZ1.out HZ2.out rfl (by decide) _ ys.length (u8s ys) rfl (HO2.out.alloc _) ⟨wr.heap.size, 0, none⟩ 1 1 (u8s [k]) rfl rfl (byte_at (by first | rfl | omega)) (u8s_one _) (by unfold maxLen; omega) (by omega) (by simp; omega) ?_; intro v' w2 hown3 hgrow3 hnil3)
      have hb3 := grown_below HB2.out HO2.out hgrow3 hz2
      rw [← u8s_append, show ys.length + 1 = (ys ++ [k]).length by simp] at hown3
      have HB3 := hid hb3
      have HO3 := hid hown3
      clear hb3 hown3 hgrow3 hnil3
      go_wp2_with fail
      go_ret2
      rw [HE.out]
      exact ⟨⟨_, rfl, HO3.out⟩, HB3.out⟩
theorem own_made (w : World) : (w.alloc (.cells (madeCells #[.int .u8 0] 9) 5)).ownsRow w.heap.size 5 1 (.slice (some ⟨w.heap.size, 0, none⟩) 0 9) 0 (u8s []) :=
  ⟨rfl, Or.inr ⟨w.heap.size, 9, _, rfl, Nat.le_refl _, heap_alloc_at _ _ _ rfl, by omega, by unfold maxLen; omega, by simp [size_madeCells], by simp [u8s]⟩⟩
set_option maxRecDepth 100000 in
theorem xNumber_nil (z : Nat) (w : World) (hz : z ≤ 4611686018427387903) :
    Calls Tryz.prog 73 #[.slice none 0 0, .int .i64 z] w fun e w' => (∃ v, e = .returned (.tuple #[v, .int .i64 0]) ∧ w'.ownsRow w.heap.size 5 1 v (encN z).length (u8s (encN z))) ∧ Below w.heap.size w w' := by
  obtain ⟨i0, hi, hz0, hz1, hz2⟩ := info_parts info5
  have HI := hid hi
  have HZ0 := hid hz0
  have HZ1 := hid hz1
  have HZ2 := hid hz2
  have hel := encN_len 8 z (by omega)
  clear hi hz0 hz1 hz2
  go_enter Tryz.func73, Tryz.ntmps73
  go_wp2_with (first | (refine wpList_make_lc _ rfl (.tmp 14) (.tmp 17) 38 rfl 5 i0 (.int .u8 0) Tryz.underlying38 HI.out HZ0.out HZ1.out rfl .i64 .i64 _ _ 0 9 rfl rfl (by omega) (by omega) (by omega) (by rw [HZ2.out]; omega) (by omega) ?_) | (refine wpList_copy_nothing rfl (.tmp 19) (.tmp 20) 38 38 rfl 5 Tryz.underlying38 size5 _ _ 0 9 0 0 rfl rfl rfl ?_))
  have HO1 := hid (own_made w)
  have HB := hid ((Below.refl w.heap.size w).alloc (Nat.le_refl _) (.cells (madeCells #[.int .u8 0] 9) 5))
  refine gen_world (fun W hW => ?_)
  rw [← hW] at HO1 HB
  clear hW
  go_frame
  go_loopw [1, 6] (fun q v wr => ∃ (k : Nat) (ys : List Nat), k ≤ z ∧ q = .int .i64 k ∧ [] ++ encN z = ys ++ encN k ∧ wr.ownsRow w.heap.size 5 1 v ys.length (u8s ys) ∧ Below w.heap.size w wr) (fun q _ _ => (intOf q).toNat)
  case atStart => exact ⟨z, [], Nat.le_refl _, rfl, rfl, HO1.out, HB.out⟩
  case round =>
    obtain ⟨k, ys, hk, rfl, he, hown2, hB⟩ := hrel
    have hz2 := hB.size
    have HB2 := hid hB
    have HO2 := hid hown2
    have hle : ys.length ≤ 1000100 := by
      have h1 := congrArg List.length he
      simp at h1
      omega
    by_cases h1 : 128 ≤ k
    · have HE := hid (show [] ++ encN z = (ys ++ [k % 128 + 128]) ++ encN (k / 128) by rw [he, encN_more h1]; simp)
      have ho := or128 (r := (k : Int) % 128) (by omega)
      clear he hB hown2
      go_wp2_with (at_builtin; refine wpList_append_own _ rfl (.tmp 24) (.tmp 29) 38 rfl w.heap.size 5 i0 (.int .u8 0) 1 1 Tryz.underlying38 HI.out HZ0.out HZ1.out HZ2.out rfl (by decide) _ ys.length (u8s ys) rfl (HO2.out.alloc _) ⟨wr.heap.size, 0, none⟩ 1 1 (u8s [k % 128 + 128]) rfl rfl (byte_at (by omega)) (u8s_one _) (by unfold maxLen; omega) (by omega) (by simp; omega) ?_; intro v' w2 hown3 hgrow3 hnil3)
      have hb3 := grown_below HB2.out HO2.out hgrow3 hz2
      rw [← u8s_append, show ys.length + 1 = (ys ++ [k % 128 + 128]).length by simp] at hown3
      have HB3 := hid hb3
      have HO3 := hid hown3
      clear hb3 hown3 hgrow3 hnil3
      go_wp2_with fail
      go_roundw
      case rel => ((repeat apply Exists.intro); exact ⟨⟨k / 128, ys ++ [k % 128 + 128], by omega, by go_num, HE.out, HO3.out, HB3.out⟩, rfl⟩)
      case measure => simp [intOf]; omega
    · have HE := hid (show [] ++ encN z = ys ++ [k] by rw [he, encN_last h1])
      clear he hB hown2
      go_wp2_with (at_builtin; refine wpList_append_own _ rfl (.tmp 33) (.tmp 36) 38 rfl w.heap.size 5 i0 (.int .u8 0) 1 1 Tryz.underlying38 HI.out HZ0.out HZ1.out HZ2.out rfl (by decide) _ ys.length (u8s ys) rfl (HO2.out.alloc _) ⟨wr.heap.size, 0, none⟩ 1 1 (u8s [k]) rfl rfl (byte_at (by first | rfl | omega)) (u8s_one _) (by unfold maxLen; omega) (by omega) (by simp; omega) ?_; intro v' w2 hown3 hgrow3 hnil3)
      have hb3 := grown_below HB2.out HO2.out hgrow3 hz2
      rw [← u8s_append, show ys.length + 1 = (ys ++ [k]).length by simp] at hown3
      have HB3 := hid hb3
      have HO3 := hid hown3
      clear hb3 hown3 hgrow3 hnil3
      go_wp2_with fail
      go_ret2
      rw [show encN z = [] ++ encN z from rfl, HE.out]
      exact ⟨⟨_, rfl, HO3.out⟩, HB3.out⟩
theorem xNumber_own {v : Value} {z : Nat} {xs : List Nat} {w : World} (hown : OwnB w 0 v xs) (hn : xs.length ≤ 1000000) (hz : z ≤ 4611686018427387903) :
    Calls Tryz.prog 73 #[v, .int .i64 z] w fun e w' => (∃ v', e = .returned (.tuple #[v', .int .i64 0]) ∧ OwnB w' w.heap.size v' (xs ++ encN z)) ∧ Below w.heap.size w w' := by
  have hp : 0 < (xs ++ encN z).length := by have := encN_pos z; simp; omega
  rcases hown.cases with ⟨rfl, rfl⟩ | ⟨g, cap, rfl, _, h0⟩
  · refine (xNumber_nil z w hz).mono ?_
    rintro r w1 ⟨⟨v, rfl, h⟩, hb⟩
    exact ⟨⟨v, rfl, OwnB.of h hp⟩, hb⟩
  · refine (xNumber_any g _ cap z xs w hown.1 hn h0 hz).mono ?_
    rintro r w1 ⟨⟨v, rfl, h⟩, hb⟩
    exact ⟨⟨v, rfl, OwnB.of h hp⟩, hb⟩
theorem xSigned_own {v : Value} {z : Int} {xs : List Nat} {w : World} (hown : OwnB w 0 v xs) (hn : xs.length ≤ 1000000) (hz : -2305843009213693952 ≤ z ∧ z ≤ 2305843009213693951) :
    Calls Tryz.prog 75 #[v, .int .i64 z] w fun e w' => (∃ v', e = .returned (.tuple #[v', .int .i64 0]) ∧ OwnB w' w.heap.size v' (xs ++ encN (zig z))) ∧ Below w.heap.size w w' := by
  by_cases h0 : z < 0
  · have H := hid (xNumber_own (z := zig z) hown hn (by unfold zig; rw [if_pos h0]; omega))
    have HE := hid (show ((zig z : Nat) : Int) = -2 * (z + 1) + 1 by unfold zig; rw [if_pos h0]; omega)
    generalize zig z = q at *
    rw [HE.out] at H
    clear hown
    go_enter Tryz.func75, Tryz.ntmps75
    go_wp2_with fail
    refine H.out.mono ?_
    rintro r w1 ⟨⟨v, rfl, hown1⟩, hb⟩
    have HB := hid hb
    have HO := hid hown1
    clear hb hown1
    go_wp2_with fail
    go_ret2
    exact ⟨⟨_, rfl, HO.out⟩, HB.out⟩
  · have H := hid (xNumber_own (z := zig z) hown hn (by unfold zig; rw [if_neg h0]; omega))
    have HE := hid (show ((zig z : Nat) : Int) = 2 * z by unfold zig; rw [if_neg h0]; omega)
    generalize zig z = q at *
    rw [HE.out] at H
    clear hown
    go_enter Tryz.func75, Tryz.ntmps75
    go_wp2_with fail
    refine H.out.mono ?_
    rintro r w1 ⟨⟨v, rfl, hown1⟩, hb⟩
    have HB := hid hb
    have HO := hid hown1
    clear hb hown1
    go_wp2_with fail
    go_ret2
    exact ⟨⟨_, rfl, HO.out⟩, HB.out⟩

end Go.Proofs.YtpfighhhemnhaaaGreat


/- Crc -/
namespace Go.Proofs.YtpfighhhemnhaaaGreat

def polyP : BitVec 32 := 0xedb88320#32
def bitP (c : BitVec 32) : BitVec 32 := if c.getLsbD 0 = true then (c >>> 1) ^^^ polyP else c >>> 1
def bitsP : Nat → BitVec 32 → BitVec 32
  | 0, c => c
  | k + 1, c => bitP (bitsP k c)
def byteP (c : BitVec 32) (x : Nat) : BitVec 32 := bitsP 8 (c ^^^ BitVec.ofNat 32 x)
/-- behind n bytes -/
def bytesP (g : Nat → Nat) : Nat → BitVec 32
  | 0 => 0xffffffff#32
  | n + 1 => byteP (bytesP g n) (g n)
theorem bytesP_congr {g h : Nat → Nat} : ∀ n, (∀ i, i < n → g i = h i) → bytesP g n = bytesP h n
  | 0, _ => rfl
  | n + 1, e => by
    show byteP (bytesP g n) (g n) = byteP (bytesP h n) (h n)
    rw [bytesP_congr n (fun i hi => e i (by omega)), e n (by omega)]
end Go.Proofs.YtpfighhhemnhaaaGreat

namespace Go.Proofs.YtpfighhhemnhaaaGreat
open Go.RowKit

/-- the checksum of n bytes -/
def crcV (g : Nat → Nat) (n : Nat) : Nat := (~~~(bytesP g n)).toNat
theorem not_bits (c : BitVec 32) : bits .xor .u32 IntKind.u32.max (c.toNat : Int) = ((~~~c).toNat : Int) := by
  have h := u32_xor_nat 4294967295 c.toNat (by omega) c.isLt
  rw [show bits .xor .u32 IntKind.u32.max (c.toNat : Int) = ((4294967295 ^^^ c.toNat : Nat) : Int) from h, BitVec.not_def, BitVec.toNat_xor, BitVec.toNat_allOnes]
theorem low_and (c : BitVec 32) : (bits .and .u32 (c.toNat : Int) 1 == 1) = c.getLsbD 0 := by
  have h := u32_and_nat c.toNat 1 c.isLt (by omega)
  rw [show bits .and .u32 (c.toNat : Int) 1 = ((c.toNat &&& 1 : Nat) : Int) from h, Nat.and_one_is_mod, BitVec.getLsbD, Nat.testBit_zero, Bool.eq_iff_iff, beq_iff_eq, decide_eq_true_eq]
  omega
theorem poly_xor (c : BitVec 32) : bits .xor .u32 ((c.toNat : Int) / (2 : Int)) 3988292384 = (((c >>> 1) ^^^ polyP).toNat : Int) := by
  have hc := c.isLt
  have h := u32_xor_nat (c.toNat / 2) 3988292384 (by omega) (by omega)
  rw [show bits .xor .u32 ((c.toNat : Int) / (2 : Int)) 3988292384 = ((c.toNat / 2 ^^^ 3988292384 : Nat) : Int) from h, BitVec.toNat_xor, BitVec.toNat_ushiftRight, Nat.shiftRight_eq_div_pow]
  rfl
theorem half_bits (c : BitVec 32) : (c.toNat : Int) / (2 : Int) = ((c >>> 1).toNat : Int) := by
  have h : (c >>> 1).toNat = c.toNat / 2 := by rw [BitVec.toNat_ushiftRight, Nat.shiftRight_eq_div_pow]
  rw [h]
  omega
theorem byte_xor (c : BitVec 32) (x : Nat) (hx : x < 256) : bits .xor .u32 (c.toNat : Int) ((x : Int) % 4294967296) = ((c ^^^ BitVec.ofNat 32 x).toNat : Int) := by
  have h := u32_xor_nat c.toNat x c.isLt (by omega)
  rw [show (x : Int) % 4294967296 = (x : Int) by omega, show bits .xor .u32 (c.toNat : Int) (x : Int) = ((c.toNat ^^^ x : Nat) : Int) from h, BitVec.toNat_xor, BitVec.toNat_ofNat, Nat.mod_eq_of_lt (by omega)]
set_option maxRecDepth 100000 in
set_option maxHeartbeats 800000 in
theorem xSum_any (b off n cap : Nat) (g : Nat → Nat) (w : World) (hn : n ≤ 9223372036854775807) (hg : ∀ i, g i < 256) (hc : bytesAt w b off n g) :
    Calls Tryz.prog 136 #[.slice (some ⟨b, off, none⟩) n cap] w fun r w' => r = .returned (.int .u32 (crcV g n : Int)) ∧ w = w' := by
  have HG := hid hg
  have HC := hid hc
  clear hg hc
  go_enter Tryz.func136, Tryz.ntmps136
  go_wp2_with fail
  go_loopw [3, 8] (fun cv iv W => ∃ i : Nat, i ≤ n ∧ iv = .int .i64 (i : Int) ∧ cv = .int .u32 ((bytesP g i).toNat : Int) ∧ w = W) (fun _ iv _ => n - (intOf iv).toNat)
  case atStart => exact ⟨0, by omega, rfl, rfl, rfl⟩
  case round =>
    obtain ⟨i, hi, rfl, rfl, rfl⟩ := hrel
    by_cases hlt : i < n
    · have d1 : decide ((i : Int) < (n : Int)) = true := decide_eq_true (by omega)
      have c0 : w.cell? ⟨b, off + i, none⟩ = some (.int .u8 (g i : Nat)) := HC.out i hlt
      go_wp2_with fail
      go_loopw [3, 16] (fun cv kv W => ∃ k : Nat, k ≤ 8 ∧ kv = .int .i64 (k : Int) ∧ cv = .int .u32 ((bitsP k (bytesP g i ^^^ BitVec.ofNat 32 (g i))).toNat : Int) ∧ w = W) (fun _ kv _ => 8 - (intOf kv).toNat)
      case atStart =>
        refine ⟨0, by omega, rfl, ?_, rfl⟩
        rw [byte_xor _ _ (HG.out i)]
        rfl
      case round =>
        obtain ⟨k, hk, rfl, rfl, rfl⟩ := hrel
        by_cases hk8 : k < 8
        · have d2 : decide ((k : Int) < 8) = true := decide_eq_true (by omega)
          obtain ⟨c, hce⟩ : ∃ c, c = bitsP k (bytesP g i ^^^ BitVec.ofNat 32 (g i)) := ⟨_, rfl⟩
          rw [← hce]
          have HCE := hid hce
          have hcb := c.isLt
          have hla := low_and c
          clear hce
          cases hb : c.getLsbD 0
          · rw [hb] at hla
            have HN := hid (show bitsP (k + 1) (bytesP g i ^^^ BitVec.ofNat 32 (g i)) = c >>> 1 by
              show bitP (bitsP k _) = _
              rw [← HCE.out]
              unfold bitP
              rw [hb]
              rfl)
            clear hb
            go_wp2_with fail
            exact ⟨⟨k + 1, by omega, by go_num, by rw [HN.out, half_bits], trivial⟩, by simp [intOf]; omega⟩
          · rw [hb] at hla
            have HN := hid (show bitsP (k + 1) (bytesP g i ^^^ BitVec.ofNat 32 (g i)) = (c >>> 1) ^^^ polyP by
              show bitP (bitsP k _) = _
              rw [← HCE.out]
              unfold bitP
              rw [hb]
              rfl)
            clear hb
            go_wp2_with fail
            exact ⟨⟨k + 1, by omega, by go_num, by rw [HN.out, poly_xor], trivial⟩, by simp [intOf]; omega⟩
        · obtain rfl : k = 8 := by omega
          go_wp2_with fail
          exact ⟨⟨i + 1, by omega, by go_num, rfl, trivial⟩, by simp [intOf]; omega⟩
    · obtain rfl : i = n := by omega
      have d1 : decide ((i : Int) < (i : Int)) = false := by simp
      have hcb := (bytesP g i).isLt
      go_wp2_with fail
      go_ret
      exact ⟨congrArg (fun z => Ending.returned (.int .u32 z)) (not_bits (bytesP g i)), rfl⟩
end Go.Proofs.YtpfighhhemnhaaaGreat


/- Enc -/
namespace Go.Proofs.YtpfighhhemnhaaaGreat
open Go.RowKit

/-- all but the block rb, below B, is as it was -/
structure Only (rb B : Nat) (w w' : World) : Prop where
  os : w'.os = w.os
  tape : w'.tape = w.tape
  output : w'.output = w.output
  size : w.heap.size ≤ w'.heap.size
  block : ∀ k, k < B → k ≠ rb → w'.heap[k]? = w.heap[k]?
theorem Only.heap {rb : Nat} {w w' : World} {n : Nat} {x : Obj} (h : Only rb w.heap.size w w') (hne : n ≠ rb) (hx : w.heap[n]? = some x) : w'.heap[n]? = some x := by
  rw [h.block n (Array.getElem?_eq_some_iff.1 hx).1 hne]; exact hx


theorem heap_setCell {w : World} {b t j : Nat} {fr : Nat × Nat} {C : Array Value} (h : w.heap[b]? = some (.cells C t fr)) (v : Value) : (w.setCell ⟨b, j, none⟩ v).heap[b]? = some (.cells (C.setIfInBounds j v) t fr) := by
  simp only [World.setCell, Array.getElem?_modify]
  rw [if_pos trivial, h]
  simp
theorem only_setCell {w w0 : World} {rb B j : Nat} (h : Only rb B w0 w) (v : Value) : Only rb B w0 (w.setCell ⟨rb, j, none⟩ v) := by
  refine ⟨h.os, h.tape, h.output, by simpa using h.size, fun k hk hne => ?_⟩
  rw [Below.heap_setCell w ⟨rb, j, none⟩ v k hne]
  exact h.block k hk hne
theorem Only.refl (rb B : Nat) (w : World) : Only rb B w w := ⟨rfl, rfl, rfl, Nat.le_refl _, fun _ _ _ => rfl⟩

/-- what a reader has still to read: the bytes, how many, and whether one was none -/
structure St where
  g : Nat → Nat
  m : Nat
  bad : Bool
/-- one number read -/
def nextS (sg : Bool) (s : St) : Int × St :=
  let x := if sg then signV (readV s.g s.m) else readV s.g s.m
  if x.2.2 = 0 ∧ s.bad = false then (x.1, ⟨fun i => s.g (i + x.2.1.toNat), s.m - x.2.1.toNat, s.bad⟩) else (0, ⟨s.g, s.m, true⟩)
/-- a reader in memory, at its bytes -/
def RdAt (w : World) (rb ty b : Nat) (s : St) : Prop :=
  ∃ o c, w.heap[rb]? = some (.cells #[.slice (some ⟨b, o, none⟩) s.m c, .bool s.bad] ty) ∧ s.m ≤ c ∧ c ≤ 9223372036854775807 ∧ bytesAt w b o s.m s.g ∧ rb ≠ b ∧ (∀ i, s.g i < 256) ∧ b < w.heap.size
theorem bytes_only {w w' : World} {rb b o m : Nat} {g : Nat → Nat} (h : bytesAt w b o m g) (ho : Only rb w.heap.size w w') (hne : b ≠ rb) (hb : b < w.heap.size) : bytesAt w' b o m g := by
  intro i hi
  rw [World.cell?_of_block (w := w) (w' := w') (a := ⟨b, o + i, none⟩) (ho.block b hb hne)]
  exact h i hi
theorem nextS_bad {sg : Bool} {s : St} (h : ¬ ((readV s.g s.m).2.2 = 0 ∧ s.bad = false)) : nextS sg s = (0, ⟨s.g, s.m, true⟩) := by
  unfold nextS
  cases sg
  · exact if_neg h
  · exact if_neg (by show ¬ ((signV _).2.2 = 0 ∧ _); rw [(signV_size _).1]; exact h)
theorem nextS_good {sg : Bool} {s : St} {k : Nat} (h : (readV s.g s.m).2.2 = 0) (hb : s.bad = false) (hk : (readV s.g s.m).2.1 = k) : nextS sg s = ((if sg then signV (readV s.g s.m) else readV s.g s.m).1, ⟨fun i => s.g (i + k), s.m - k, s.bad⟩) := by
  unfold nextS
  cases sg
  · refine (if_pos ⟨h, hb⟩).trans ?_
    simp only [Bool.false_eq_true, if_false, hk, Int.toNat_natCast]
  · refine (if_pos (show (signV _).2.2 = 0 ∧ _ by rw [(signV_size _).1]; exact ⟨h, hb⟩)).trans ?_
    simp only [if_true, (signV_size _).2 h, hk, Int.toNat_natCast]

theorem rd_after {w w' : World} {rb ty b o o' c k : Nat} {s : St} (ho : Only rb w.heap.size w w') (hm : s.m ≤ c) (hc : c ≤ 9223372036854775807) (hb : bytesAt w b o s.m s.g) (hne : rb ≠ b) (hg : ∀ i, s.g i < 256) (hbw : b < w.heap.size)
    (hk : k ≤ s.m) (h : o' = o + k ∨ s.m - k = 0) (hr : w'.heap[rb]? = some (.cells #[.slice (some ⟨b, o', none⟩) (s.m - k) (c - k), .bool s.bad] ty)) : RdAt w' rb ty b ⟨fun i => s.g (i + k), s.m - k, s.bad⟩ := by
  refine ⟨o', c - k, hr, by show s.m - k ≤ c - k; omega, by omega, ?_, hne, fun i => hg _, Nat.lt_of_lt_of_le hbw ho.size⟩
  intro i hi
  have hi' : i < s.m - k := hi
  rcases h with rfl | h
  · have h1 := bytes_only hb ho (fun h => hne h.symm) hbw (i + k) (by omega)
    rw [show o + k + i = o + (i + k) by omega]
    exact h1
  · omega

end Go.Proofs.YtpfighhhemnhaaaGreat

namespace Go.Proofs.YtpfighhhemnhaaaGreat
open Go.RowKit

end Go.Proofs.YtpfighhhemnhaaaGreat

namespace Go.Proofs.YtpfighhhemnhaaaGreat
open Go.RowKit

theorem OwnB.same {w w' : World} {B : Nat} {v : Value} {xs : List Nat} (h : OwnB w B v xs) (hs : ∀ g, v.ownBlock = some g → w'.heap[g]? = w.heap[g]?) : OwnB w' B v xs := by
  obtain ⟨⟨h1, h2⟩, h3⟩ := h
  refine ⟨⟨h1, ?_⟩, h3⟩
  rcases h2 with h2 | ⟨g', cap', cur, rfl, hg, hr, h4⟩
  · exact Or.inl h2
  · exact Or.inr ⟨_, _, cur, rfl, hg, (hs _ rfl).trans hr, h4⟩
theorem OwnB.shape {w : World} {B : Nat} {v : Value} {xs : List Nat} (h : OwnB w B v xs) : ∃ p n cap, v = .slice p n cap := by
  rcases h.cases with ⟨rfl, _⟩ | ⟨g, cap, rfl, _⟩
  · exact ⟨_, _, _, rfl⟩
  · exact ⟨_, _, _, rfl⟩
theorem OwnB.block {w : World} {B g : Nat} {v : Value} {xs : List Nat} (h : OwnB w B v xs) (hg : v.ownBlock = some g) : B ≤ g ∧ g < w.heap.size := h.1.lt g hg
theorem OwnB.grow {w w' : World} {B : Nat} {v : Value} {xs : List Nat} (h : OwnB w B v xs) (hb : Below w.heap.size w w') : OwnB w' B v xs := h.same fun g hg => hb.block g (h.block hg).2
theorem Only.of_below {rb B : Nat} {w w' : World} (h : Below B w w') : Only rb B w w' := ⟨h.os, h.tape, h.output, h.size, fun k hk _ => h.block k hk⟩
theorem Only.trans {rb B B' : Nat} {w w1 w2 : World} (h : Only rb B w w1) (h2 : Only rb B' w1 w2) (hs : B ≤ B') : Only rb B w w2 :=
  ⟨h2.os.trans h.os, h2.tape.trans h.tape, h2.output.trans h.output, Nat.le_trans h.size h2.size, fun k hk hne => (h2.block k (by omega) hne).trans (h.block k hk hne)⟩
end Go.Proofs.YtpfighhhemnhaaaGreat

namespace Go.Proofs.YtpfighhhemnhaaaGreat
open Go.RowKit

/-- the bytes of a point behind one with the Id l -/
def encP (l : Int) (p : Pt) : List Nat := encs encU [p.id - l] ++ encs encS [p.x, p.y, p.zl] ++ encs encU [p.zh - p.zl, p.wd, p.nm, p.of, p.cl]
def encPs : Int → List Pt → List Nat
  | _, [] => []
  | l, p :: P => encP l p ++ encPs p.id P
def endL : Int → List Pt → Int
  | l, [] => l
  | _, p :: P => endL p.id P
theorem endL_snoc (l : Int) (p : Pt) : ∀ A, endL l (A ++ [p]) = p.id
  | [] => rfl
  | a :: A => endL_snoc a.id p A
theorem encPs_snoc (p : Pt) : ∀ (l : Int) A, encPs l (A ++ [p]) = encPs l A ++ encP (endL l A) p
  | l, [] => by simp [encPs, endL]
  | l, a :: A => by show encP l a ++ encPs a.id (A ++ [p]) = _; rw [encPs_snoc p a.id A]; simp [encPs, endL]
/-- the numbers of a point can be written -/
structure NumP (l : Int) (p : Pt) : Prop where
  id : 0 ≤ p.id - l ∧ p.id - l ≤ 4611686018427387903
  i : 0 ≤ p.id ∧ p.id ≤ 1152921504606846976
  l : 0 ≤ l ∧ l ≤ 1152921504606846976
  x : -268435456 ≤ p.x ∧ p.x ≤ 268435456
  y : -268435456 ≤ p.y ∧ p.y ≤ 268435456
  z : -268435456 ≤ p.zl ∧ p.zl ≤ 268435456
  h : p.zl ≤ p.zh ∧ p.zh ≤ 268435456
  wd : 0 ≤ p.wd ∧ p.wd ≤ 268435456
  nm : 0 ≤ p.nm ∧ p.nm ≤ 15
  of : 0 ≤ p.of ∧ p.of ≤ 15
  cl : 0 ≤ p.cl ∧ p.cl ≤ 255
def NumsOk (P : List Pt) : Prop := ∀ k p, P[k]? = some p → NumP (endL 0 (P.take k)) p
theorem okP_nums {p : Pt} (h : okP p = true) : (0 ≤ p.id ∧ p.id ≤ 1152921504606846976) ∧ (-268435456 ≤ p.x ∧ p.x ≤ 268435456) ∧ (-268435456 ≤ p.y ∧ p.y ≤ 268435456) ∧ (-268435456 ≤ p.zl ∧ p.zl ≤ 268435456) ∧ (p.zl ≤ p.zh ∧ p.zh ≤ 268435456) ∧ (0 ≤ p.wd ∧ p.wd ≤ 268435456) ∧ (0 ≤ p.nm ∧ p.nm ≤ 15) ∧ (0 ≤ p.of ∧ p.of ≤ 15) ∧ (0 ≤ p.cl ∧ p.cl ≤ 255) := by
  simp [okP, pointB, placeB, inB] at h
  omega
theorem pw_ltE {α : Type} {r : α → α → Prop} {E : List α} {i j : Nat} {a b : α} (hij : i < j) (hi : E[i]? = some a) (hj : E[j]? = some b) (h : E.Pairwise r) : r a b := by
  obtain ⟨h1, rfl⟩ := List.getElem?_eq_some_iff.1 hi
  obtain ⟨h2, rfl⟩ := List.getElem?_eq_some_iff.1 hj
  exact List.pairwise_iff_getElem.1 h i j h1 h2 hij
theorem nums_ok {P : List Pt} (hg : goodL P = true) (ha : P.Pairwise (fun p q => p.id < q.id)) : NumsOk P := fun k p hp => by
  have hall := (goodL_iff P).1 hg |>.2.1
  obtain ⟨h1, h2, h3, h4, h5, h6, h7, h8, h9⟩ := okP_nums (hall p (List.mem_of_getElem? hp))
  have hl : (0 ≤ endL 0 (P.take k) ∧ endL 0 (P.take k) ≤ 1152921504606846976) ∧ endL 0 (P.take k) ≤ p.id := by
    cases k with
    | zero => exact ⟨⟨Int.le_refl _, show (0 : Int) ≤ _ by decide⟩, h1.1⟩
    | succ j =>
      have hlen := (List.getElem?_eq_some_iff.1 hp).1
      have hj : P[j]? = some P[j] := List.getElem?_eq_getElem (by omega)
      rw [take_next hj, endL_snoc]
      have hq := okP_nums (hall P[j] (List.mem_of_getElem? hj))
      have := pw_ltE (show j < j + 1 by omega) hj hp ha
      exact ⟨hq.1, by omega⟩
  exact ⟨by omega, h1, hl.1, h2, h3, h4, h5, h6, h7, h8, h9⟩
def bytes4 (n : Nat) : List Nat := [n / 16777216 % 256, n / 65536 % 256, n / 256 % 256, n % 256]
def crcL (xs : List Nat) : Nat := crcV (fun i => xs.getD i 0) xs.length
theorem encP_len {l : Int} {p : Pt} (h : NumP l p) : (encP l p).length ≤ 81 := by
  have h1 := encs_len (f := encU) (m := 9) [p.id - l] (fun z hz => nat_len (by simp at hz; subst hz; exact h.id))
  have h2 := encs_len (f := encS) (m := 9) [p.x, p.y, p.zl] (fun z hz => zig_len (by
    have := h.x; have := h.y; have := h.z
    simp at hz; omega))
  have h3 := encs_len (f := encU) (m := 9) [p.zh - p.zl, p.wd, p.nm, p.of, p.cl] (fun z hz => nat_len (by
    have := h.z; have := h.h; have := h.wd; have := h.nm; have := h.of; have := h.cl
    simp at hz; omega))
  simp at h1 h2 h3
  unfold encP
  simp
  omega
theorem encPs_len {P : List Pt} (h : NumsOk P) : ∀ k, k ≤ P.length → (encPs 0 (P.take k)).length ≤ 81 * k
  | 0, _ => by simp [encPs]
  | k + 1, hk => by
    have hp : P[k]? = some P[k] := List.getElem?_eq_getElem (by omega)
    have h1 := encPs_len h k (by omega)
    have h2 := encP_len (h k _ hp)
    rw [take_next hp, encPs_snoc, List.length_append]
    omega
end Go.Proofs.YtpfighhhemnhaaaGreat

namespace Go.Proofs.YtpfighhhemnhaaaGreat
open Go.RowKit

theorem Only.cell {rb B : Nat} {w w' : World} (h : Only rb B w w') {b o : Nat} (hb : b < B) (hne : b ≠ rb) : w'.cell? ⟨b, o, none⟩ = w.cell? ⟨b, o, none⟩ := World.cell?_of_block (w := w) (w' := w') (a := ⟨b, o, none⟩) (h.block b hb hne)
theorem u8s_cells {w : World} {B g n cap : Nat} {xs : List Nat} (h : w.ownsRow B 5 1 (.slice (some ⟨g, 0, none⟩) n cap) xs.length (u8s xs)) : bytesAt w g 0 xs.length (fun i => xs.getD i 0) := fun i hi => by
  have := h.cells (g := g) rfl i (.int .u8 (xs[i] : Nat)) (by simp [u8s, hi])
  have ha : ((⟨g, 0, none⟩ : Addr).add i) = ⟨g, 0 + i, none⟩ := by simp [Addr.add]; exact fun h => h.symm
  rw [ha] at this
  rw [this]
  show some (Value.int .u8 (xs[i] : Nat)) = some (Value.int .u8 ((xs.getD i 0 : Nat) : Int))
  rw [show xs.getD i 0 = xs[i] by simp [List.getD_eq_getElem?_getD, hi]]
theorem getD_byte {xs : List Nat} (hg : ∀ x ∈ xs, x < 256) (i : Nat) : xs.getD i 0 < 256 := by
  rw [List.getD_eq_getElem?_getD]
  cases h : xs[i]? with
  | none => simp
  | some x => exact hg x (List.mem_of_getElem? h)
theorem crcL_lt (xs : List Nat) : crcL xs < 4294967296 := (~~~bytesP _ xs.length).isLt
theorem own4 {w : World} {B n c : Nat} {v : Value} {xs : List Nat} (h : w.ownsRow B 5 1 v (n + 4) (u8s xs ++ u8s (bytes4 c))) (hn : xs.length = n) : OwnB w B v (xs ++ bytes4 c) := by
  refine OwnB.of ?_ (by simp [bytes4])
  rw [u8s_append, List.length_append, hn]
  exact h
theorem encN_byte : ∀ (n q : Nat), q ≤ n → ∀ x ∈ encN q, x < 256
  | n, q, hq, x, hx => by
    by_cases h : 128 ≤ q
    · rw [encN_more h] at hx
      rcases List.mem_cons.1 hx with rfl | hx
      · omega
      · match n, hq with
        | 0, hq => omega
        | n + 1, hq => exact encN_byte n (q / 128) (by omega) x hx
    · rw [encN_last h] at hx
      simp at hx
      omega
theorem encs_byte {f : Int → List Nat} (hf : ∀ z, ∀ x ∈ f z, x < 256) (zs : List Int) : ∀ x ∈ encs f zs, x < 256 := fun x hx => by
  unfold encs at hx
  obtain ⟨l, hl, hx⟩ := List.mem_flatten.1 hx
  obtain ⟨z, _, rfl⟩ := List.mem_map.1 hl
  exact hf z x hx
theorem encU_byte (z : Int) : ∀ x ∈ encU z, x < 256 := encN_byte _ _ (Nat.le_refl _)
theorem encS_byte (z : Int) : ∀ x ∈ encS z, x < 256 := encN_byte _ _ (Nat.le_refl _)
theorem app_byte {a b : List Nat} (ha : ∀ x ∈ a, x < 256) (hb : ∀ x ∈ b, x < 256) : ∀ x ∈ a ++ b, x < 256 := fun x hx => (List.mem_append.1 hx).elim (ha x) (hb x)
theorem encPs_byte : ∀ (l : Int) (P : List Pt), ∀ x ∈ encPs l P, x < 256
  | _, [] => fun x hx => by simp [encPs] at hx
  | l, p :: P => app_byte (app_byte (app_byte (encs_byte encU_byte _) (encs_byte encS_byte _)) (encs_byte encU_byte _)) (encPs_byte p.id P)
end Go.Proofs.YtpfighhhemnhaaaGreat

namespace Go.Proofs.YtpfighhhemnhaaaGreat
open Go.RowKit

end Go.Proofs.YtpfighhhemnhaaaGreat

namespace Go.Proofs.YtpfighhhemnhaaaGreat
open Go.RowKit

theorem nextU_range (s : St) : 0 ≤ (nextS false s).1 ∧ (nextS false s).1 ≤ 4611686018427387903 := by
  have h := readV_bd s.g s.m
  unfold nextS
  simp only [Bool.false_eq_true, if_false]
  split
  · exact h
  · exact ⟨Int.le_refl _, show (0 : Int) ≤ _ by decide⟩
theorem nextI_range (s : St) : -2305843009213693952 ≤ (nextS true s).1 ∧ (nextS true s).1 ≤ 2305843009213693951 := by
  have h := readV_bd s.g s.m
  unfold nextS
  simp only [if_true]
  split
  · unfold signV
    split
    · split <;> simp only <;> omega
    · simp only; omega
  · show -2305843009213693952 ≤ (0 : Int) ∧ (0 : Int) ≤ 2305843009213693951
    omega
def St.mark (s : St) : St := ⟨s.g, s.m, true⟩
theorem nextS_keeps (sg : Bool) (s : St) (h : s.bad = true) : (nextS sg s).2.bad = true := by
  rw [nextS_bad (by simp [h])]

theorem Only.alloc {rb B : Nat} {w W : World} (h : Only rb B w W) (hB : B ≤ W.heap.size) (o : Obj) : Only rb B w (W.alloc o) := by
  refine ⟨h.os, h.tape, h.output, by have := h.size; simp; omega, fun k hk hne => ?_⟩
  rw [Below.heap_alloc W o k (by omega)]
  exact h.block k hk hne
theorem Only.set {rb B g j : Nat} {w W : World} (h : Only rb B w W) (hB : B ≤ g) (v : Value) : Only rb B w (W.setCell ⟨g, j, none⟩ v) := by
  refine ⟨h.os, h.tape, h.output, by simpa using h.size, fun k hk hne => ?_⟩
  rw [Below.heap_setCell W ⟨g, j, none⟩ v k (by show k ≠ g; omega)]
  exact h.block k hk hne
theorem RdAt.same {w w' : World} {rb ty b : Nat} {s : St} (h : RdAt w rb ty b s) (h1 : w'.heap[rb]? = w.heap[rb]?) (h2 : w'.heap[b]? = w.heap[b]?) (h3 : w.heap.size ≤ w'.heap.size) : RdAt w' rb ty b s := by
  obtain ⟨o, c, hr, hm, hc, hb, hne, hg, hbw⟩ := h
  refine ⟨o, c, h1.trans hr, hm, hc, fun i hi => ?_, hne, hg, by omega⟩
  rw [World.cell?_of_block (w := w) (w' := w') (a := ⟨b, o + i, none⟩) h2]
  exact hb i hi
theorem RdAt.rb_lt {w : World} {rb ty b : Nat} {s : St} (h : RdAt w rb ty b s) : rb < w.heap.size := by
  obtain ⟨o, c, hr, _⟩ := h
  exact (Array.getElem?_eq_some_iff.1 hr).1
theorem RdAt.b_lt {w : World} {rb ty b : Nat} {s : St} (h : RdAt w rb ty b s) : b < w.heap.size := by
  obtain ⟨o, c, hr, hm, hc, hb, hne, hg, hbw⟩ := h
  exact hbw
theorem RdAt.apart {w : World} {rb ty b : Nat} {s : St} (h : RdAt w rb ty b s) : rb ≠ b := by
  obtain ⟨o, c, hr, hm, hc, hb, hne, hg, hbw⟩ := h
  exact hne
theorem RdAt.alloc {w : World} {rb ty b : Nat} {s : St} (h : RdAt w rb ty b s) (o : Obj) : RdAt (w.alloc o) rb ty b s :=
  h.same (Below.heap_alloc w o rb h.rb_lt) (Below.heap_alloc w o b h.b_lt) (by simp)
theorem RdAt.grow {w w' : World} {rb ty b : Nat} {s : St} (h : RdAt w rb ty b s) (hb : Below w.heap.size w w') : RdAt w' rb ty b s :=
  h.same (hb.block rb h.rb_lt) (hb.block b h.b_lt) hb.size
theorem RdAt.set {w : World} {rb ty b g j : Nat} {s : St} (h : RdAt w rb ty b s) (h1 : rb ≠ g) (h2 : b ≠ g) (v : Value) : RdAt (w.setCell ⟨g, j, none⟩ v) rb ty b s :=
  h.same (Below.heap_setCell w ⟨g, j, none⟩ v rb h1) (Below.heap_setCell w ⟨g, j, none⟩ v b h2) (by simp)
theorem heap_set_other {w : World} {g j n : Nat} {x : Obj} (h : w.heap[n]? = some x) (hne : n ≠ g) (v : Value) : (w.setCell ⟨g, j, none⟩ v).heap[n]? = some x := by
  rw [Below.heap_setCell w ⟨g, j, none⟩ v n hne]; exact h
theorem RdAt.flag {w : World} {rb ty b : Nat} {s : St} (h : RdAt w rb ty b s) : w.cell? ⟨rb, 1, none⟩ = some (.bool s.bad) ∧ w.frozen? ⟨rb, 1, none⟩ = false := by
  obtain ⟨o, c, hr, _⟩ := h
  exact ⟨(cell_row (j := 1) hr).trans rfl, by simp [World.frozen?, hr]⟩
theorem RdAt.mark {w : World} {rb ty b : Nat} {s : St} (h : RdAt w rb ty b s) : RdAt (w.setCell ⟨rb, 1, none⟩ (.bool true)) rb ty b s.mark := by
  obtain ⟨o, c, hr, hm, hc, hb, hne, hg, hbw⟩ := h
  refine ⟨o, c, heap_setCell hr _, hm, hc, fun i hi => ?_, hne, hg, by simpa using hbw⟩
  rw [World.cell?_of_block (w := w) (w' := w.setCell ⟨rb, 1, none⟩ (.bool true)) (a := ⟨b, o + i, none⟩) (Below.heap_setCell w ⟨rb, 1, none⟩ _ b (fun e => hne e.symm))]
  exact hb i hi
theorem OwnP.only {w w' : World} {rb B base : Nat} {v : Value} {l : List Pt} (h : OwnP w base v l) (ho : Only rb B w w') (hB : w.heap.size ≤ B) (hb : rb < base) : OwnP w' base v l := by
  refine OwnR.heap h fun g x hx hg => ?_
  rw [ho.block g (by have := (Array.getElem?_eq_some_iff.1 hx).1; omega) (by omega)]
  exact hx

end Go.Proofs.YtpfighhhemnhaaaGreat

namespace Go.Proofs.YtpfighhhemnhaaaGreat
open Go.RowKit

theorem wide9d (p0 p1 p2 p3 p4 p5 p6 p7 p8 : Int) : Wide 9 [[Value.int .i64 p0, .int .i64 p1, .int .i64 p2, .int .i64 p3, .int .i64 p4, .int .i64 p5, .int .i64 p6, .int .i64 p7, .int .i64 p8]] := Wide.one rfl (Pt.row_one ⟨p0, p1, p2, p3, p4, p5, p6, p7, p8⟩)
theorem RdAt.kept {w w' : World} {rb ty b : Nat} {s : St} {row : Option Nat} (h : RdAt w rb ty b s) (hg : w.grownBy w' row) (h1 : some rb ≠ row) (h2 : some b ≠ row) : RdAt w' rb ty b s :=
  h.same (hg.block rb h.rb_lt h1) (hg.block b h.b_lt h2) hg.size
theorem Only.kept {rb B : Nat} {w W W' : World} {row : Option Nat} (h : Only rb B w W) (hg : W.grownBy W' row) (hB : B ≤ W.heap.size) (hr : ∀ k, row = some k → B ≤ k) : Only rb B w W' :=
  h.trans (Only.of_below (B := B) ((Below.refl B W).grown hg hB hr)) (Nat.le_refl _)
end Go.Proofs.YtpfighhhemnhaaaGreat

namespace Go.Proofs.YtpfighhhemnhaaaGreat
open Go.RowKit

/-- a number of four bytes, the first one the highest, bit by bit -/
def be (g : Nat → Nat) : Nat → BitVec 32
  | 0 => 0#32
  | k + 1 => (be g k <<< 8) ||| BitVec.ofNat 32 (g k)
end Go.Proofs.YtpfighhhemnhaaaGreat

namespace Go.Proofs.YtpfighhhemnhaaaGreat
open Go.RowKit

/-- the state of a reader before these bytes -/
def stL (l : List Nat) : St := ⟨fun i => l.getD i 0, l.length, false⟩
/-- the last four bytes are the checksum of the others -/
def SumOk (l : List Nat) (n : Nat) : Prop := (be (fun i => l.getD (n + i) 0) 4).toNat = crcV (fun i => l.getD i 0) n
instance (l : List Nat) (n : Nat) : Decidable (SumOk l n) := inferInstanceAs (Decidable (_ = _))
theorem rd_start {w : World} {b rb off n cap : Nat} {ty : TypeId} {l : List Nat} (hb : bytesAt w b off l.length (fun i => l.getD i 0)) (hl : ∀ x ∈ l, x < 256) (hn : n ≤ l.length) (hnc : n ≤ cap) (hc : cap ≤ 9223372036854775807) (hbw : b < w.heap.size) (hr : w.heap[rb]? = some (.cells #[.slice (some ⟨b, off, none⟩) n cap, .bool false] ty)) (hne : rb ≠ b) :
    RdAt w rb ty b (stL (l.take n)) := by
  have h1 : (l.take n).length = n := by rw [List.length_take]; omega
  refine ⟨off, cap, by unfold stL; simp only [h1]; exact hr, by unfold stL; simp only [h1]; exact hnc, hc, ?_, hne, fun i => getD_byte (fun x hx => hl x (List.mem_of_mem_take hx)) i, hbw⟩
  intro i hi
  have hi' : i < n := by unfold stL at hi; simp only [h1] at hi; exact hi
  have h2 := hb i (by omega)
  rw [h2]
  show some (Value.int .u8 ((l.getD i 0 : Nat) : Int)) = some (Value.int .u8 (((l.take n).getD i 0 : Nat) : Int))
  rw [List.getD_eq_getElem?_getD, List.getD_eq_getElem?_getD, List.getElem?_take_of_lt hi']
end Go.Proofs.YtpfighhhemnhaaaGreat


/- Rp -/
namespace Go.Proofs.YtpfighhhemnhaaaGreat
open Go.RowKit

theorem rd_back (g : Nat → Nat) (n z : Nat) (hz : z ≤ 4611686018427387903) : ∀ (f q i : Nat), (∀ j, j < (encN q).length → g (i + j) = (encN q).getD j 0) → i + (encN q).length ≤ n → (encN q).length ≤ f →
    val7 g i + 128 ^ i * q = z → (i = 0 ∨ q ≠ 0) → rd g n f i = (((z : Nat) : Int), ((i + (encN q).length : Nat) : Int), 0)
  | 0, q, i, _, _, hf, _, _ => by have := encN_pos q; omega
  | f + 1, q, i, hg, hn, hf, hv, hq => by
    have hp := encN_pos q
    have h0 := hg 0 hp
    rw [Nat.add_zero] at h0
    unfold rd
    rw [if_neg (by omega)]
    by_cases h : 128 ≤ q
    · have he := encN_more h
      rw [he] at h0 hn hf hg ⊢
      rw [show ((q % 128 + 128) :: encN (q / 128)).getD 0 0 = q % 128 + 128 from rfl] at h0
      rw [if_pos (by omega)]
      have hv1 : val7 g (i + 1) = val7 g i + q % 128 * 128 ^ i := by
        show val7 g i + g i % 128 * 128 ^ i = _
        rw [h0, show (q % 128 + 128) % 128 = q % 128 by omega]
      have hr := rd_back g n z hz f (q / 128) (i + 1) (fun j hj => by
          have := hg (j + 1) (by simpa using hj)
          rw [show i + 1 + j = i + (j + 1) by omega]
          simpa using this) (by simp at hn; omega) (by simp at hf; omega) (by
          rw [hv1, Nat.pow_succ, ← hv]
          have : q = 128 * (q / 128) + q % 128 := by omega
          generalize 128 ^ i = P at *
          generalize q / 128 = a at *
          generalize q % 128 = b at *
          subst this
          rw [Nat.mul_add, Nat.mul_comm b P, Nat.mul_assoc P 128 a]
          omega) (Or.inr (by omega))
      rw [hr]
      simp
      omega
    · have he := encN_last h
      rw [he] at h0 hn hf hg ⊢
      rw [show [q].getD 0 0 = q from rfl] at h0
      have hv1 : val7 g (i + 1) = z := by
        show val7 g i + g i % 128 * 128 ^ i = _
        rw [h0, show q % 128 = q by omega, ← hv, Nat.mul_comm]
      rw [if_neg (by omega), if_neg (by rw [h0, hv1]; omega), hv1]
      simp
theorem readV_back (z : Nat) (r : List Nat) (hz : z ≤ 4611686018427387903) : readV (fun i => (encN z ++ r).getD i 0) (encN z ++ r).length = (((z : Nat) : Int), ((encN z).length : Int), 0) := by
  have h := rd_back (fun i => (encN z ++ r).getD i 0) (encN z ++ r).length z hz 9 z 0 (fun j hj => by
    simp only [Nat.zero_add]
    rw [List.getD_eq_getElem?_getD, List.getD_eq_getElem?_getD, List.getElem?_append_left hj]) (by simp) (encN_len 8 z (by omega)) (by simp [val7]) (Or.inl rfl)
  unfold readV
  rw [h]
  simp
theorem shift_back (x r : List Nat) : (fun i => (x ++ r).getD (i + x.length) 0) = fun i => r.getD i 0 := by
  funext i
  rw [List.getD_eq_getElem?_getD, List.getD_eq_getElem?_getD, List.getElem?_append_right (by omega)]
  congr 2
  omega
theorem stL_bad (l : List Nat) : (stL l).bad = false := rfl
theorem next_back (z : Int) (r : List Nat) (hz : 0 ≤ z ∧ z ≤ 4611686018427387903) : nextS false (stL (encU z ++ r)) = (z, stL r) := by
  have h := readV_back z.toNat r (by omega)
  have h1 : (readV (stL (encU z ++ r)).g (stL (encU z ++ r)).m) = (((z.toNat : Nat) : Int), ((encN z.toNat).length : Int), 0) := h
  rw [nextS_good (k := (encN z.toNat).length) (by rw [h1]) rfl (by rw [h1]), h1]
  refine Prod.ext (by simp; omega) ?_
  show (⟨fun i => (encU z ++ r).getD (i + (encN z.toNat).length) 0, (encU z ++ r).length - (encN z.toNat).length, false⟩ : St) = ⟨_, _, _⟩
  rw [show (fun i => (encU z ++ r).getD (i + (encN z.toNat).length) 0) = fun i => r.getD i 0 from shift_back _ _]
  congr 1
  simp [encU]
theorem sign_back (z : Int) (k : Int) (hz : -2305843009213693952 ≤ z ∧ z ≤ 2305843009213693951) : signV (((zig z : Nat) : Int), k, 0) = (z, k, 0) := by
  by_cases h : z < 0
  · have hx : ((zig z : Nat) : Int) = -2 * z - 1 := by unfold zig; rw [if_pos h]; omega
    rw [hx]
    show (if (0 : Int) = 0 then (if (-2 * z - 1) % 2 = 1 then (-((-2 * z - 1) / 2) - 1, k, 0) else ((-2 * z - 1) / 2, k, 0)) else (0, 0, 0)) = (z, k, 0)
    rw [if_pos rfl, if_pos (by omega), show -((-2 * z - 1) / 2) - 1 = z by omega]
  · have hx : ((zig z : Nat) : Int) = 2 * z := by unfold zig; rw [if_neg h]; omega
    rw [hx]
    show (if (0 : Int) = 0 then (if (2 * z) % 2 = 1 then (-((2 * z) / 2) - 1, k, 0) else ((2 * z) / 2, k, 0)) else (0, 0, 0)) = (z, k, 0)
    rw [if_pos rfl, if_neg (by omega), show (2 * z) / 2 = z by omega]
theorem nextS_back (z : Int) (r : List Nat) (hz : -2305843009213693952 ≤ z ∧ z ≤ 2305843009213693951) : nextS true (stL (encS z ++ r)) = (z, stL r) := by
  have h := readV_back (zig z) r (by unfold zig; split <;> omega)
  have h1 : (readV (stL (encS z ++ r)).g (stL (encS z ++ r)).m) = (((zig z : Nat) : Int), ((encN (zig z)).length : Int), 0) := h
  rw [nextS_good (k := (encN (zig z)).length) (by rw [h1]) rfl (by rw [h1]), h1]
  refine Prod.ext (by simp [sign_back z _ hz]) ?_
  show (⟨fun i => (encS z ++ r).getD (i + (encN (zig z)).length) 0, (encS z ++ r).length - (encN (zig z)).length, false⟩ : St) = ⟨_, _, _⟩
  rw [show (fun i => (encS z ++ r).getD (i + (encN (zig z)).length) 0) = fun i => r.getD i 0 from shift_back _ _]
  congr 1
  simp [encS]

theorem rd_inv (g : Nat → Nat) (n : Nat) (hg : ∀ i, g i < 256) : ∀ (f i : Nat), (rd g n f i).2.2 = 0 → i ≤ n →
    ∃ q : Nat, (rd g n f i).1 = ((val7 g i + 128 ^ i * q : Nat) : Int) ∧ (rd g n f i).2.1 = ((i + (encN q).length : Nat) : Int) ∧ i + (encN q).length ≤ n ∧ (∀ j, j < (encN q).length → g (i + j) = (encN q).getD j 0) ∧ (i = 0 ∨ q ≠ 0)
  | 0, i, h, _ => by simp [rd] at h
  | f + 1, i, h, hi => by
    unfold rd at h ⊢
    by_cases hin : i = n
    · rw [if_pos hin] at h; exact absurd h (by decide)
    · rw [if_neg hin] at h ⊢
      have hgi := hg i
      by_cases hmore : 128 ≤ g i
      · rw [if_pos hmore] at h ⊢
        obtain ⟨q, h1, h2, h3, h4, h5⟩ := rd_inv g n hg f (i + 1) h (by omega)
        have hq : q ≠ 0 := by rcases h5 with h5 | h5 <;> omega
        have hlow : g i % 128 < 128 := Nat.mod_lt _ (by decide)
        have he : encN (g i % 128 + 128 * q) = g i :: encN q := by
          rw [encN_more (by omega), show (g i % 128 + 128 * q) % 128 + 128 = g i by omega, show (g i % 128 + 128 * q) / 128 = q by omega]
        refine ⟨g i % 128 + 128 * q, ?_, ?_, ?_, ?_, Or.inr (by omega)⟩
        · rw [h1]
          congr 1
          show val7 g i + g i % 128 * 128 ^ i + 128 ^ (i + 1) * q = _
          rw [Nat.pow_succ, Nat.mul_add, Nat.mul_comm (g i % 128), Nat.mul_assoc (128 ^ i) 128 q]
          omega
        · rw [h2, he, List.length_cons]
          congr 1
          omega
        · rw [he, List.length_cons]; omega
        · rw [he]
          intro j hj
          cases j with
          | zero => rfl
          | succ j =>
            rw [List.length_cons] at hj
            rw [show i + (j + 1) = i + 1 + j by omega, h4 j (by omega)]
            rfl
      · rw [if_neg hmore] at h ⊢
        by_cases hz : (g i = 0 ∧ 0 < i) ∨ 4611686018427387903 < val7 g (i + 1)
        · rw [if_pos hz] at h; exact absurd h (by decide)
        · rw [if_neg hz]
          have he : encN (g i) = [g i] := encN_last hmore
          refine ⟨g i, ?_, ?_, ?_, ?_, ?_⟩
          · show ((val7 g i + g i % 128 * 128 ^ i : Nat) : Int) = _
            rw [show g i % 128 = g i by omega, Nat.mul_comm]
          · rw [he]; simp
          · rw [he]; simp; omega
          · rw [he]
            intro j hj
            obtain rfl : j = 0 := by simpa using hj
            rfl
          · by_cases h0 : i = 0
            · exact Or.inl h0
            · exact Or.inr (fun e => hz (Or.inl ⟨e, by omega⟩))
theorem next_keep {sg : Bool} {s s' : St} {v : Int} (h : nextS sg s = (v, s')) (hb : s'.bad = false) : s.bad = false := by
  cases hs : s.bad with
  | false => rfl
  | true =>
    have := nextS_keeps sg s hs
    rw [h] at this
    rw [hb] at this
    exact absurd this (by decide)
theorem next_good {sg : Bool} {s s' : St} {v : Int} (h : nextS sg s = (v, s')) (hb : s'.bad = false) : (readV s.g s.m).2.2 = 0 := by
  refine Classical.byContradiction fun hn => ?_
  rw [nextS_bad (fun x => hn x.1)] at h
  injection h with _ h
  subst h
  exact Bool.noConfusion hb
/-- the bytes read -/
theorem next_inv {sg : Bool} {l : List Nat} {v : Int} {s' : St} (hl : ∀ x ∈ l, x < 256) (h : nextS sg (stL l) = (v, s')) (hb : s'.bad = false) :
    ∃ r, l = (if sg = true then encS v else encU v) ++ r ∧ s' = stL r := by
  have hok := next_good h hb
  obtain ⟨q, h1, h2, h3, h4, _⟩ := rd_inv (stL l).g (stL l).m (fun i => getD_byte hl i) 9 0 hok (Nat.zero_le _)
  have hv : readV (stL l).g (stL l).m = ((q : Int), ((encN q).length : Int), 0) := by
    refine Prod.ext ?_ (Prod.ext ?_ hok)
    · show (rd _ _ _ _).1 = _
      rw [h1]; simp [val7]
    · show (rd _ _ _ _).2.1 = _
      rw [h2]; simp
  have hlen : (encN q).length ≤ l.length := by
    have : 0 + (encN q).length ≤ l.length := h3
    omega
  have htake : l.take (encN q).length = encN q := by
    refine List.ext_getElem? fun j => ?_
    by_cases hj : j < (encN q).length
    · have := h4 j hj
      rw [Nat.zero_add] at this
      have h5 : l.getD j 0 = (encN q).getD j 0 := this
      rw [List.getElem?_take_of_lt hj]
      rw [List.getD_eq_getElem?_getD, List.getD_eq_getElem?_getD, List.getElem?_eq_getElem hj, List.getElem?_eq_getElem (show j < l.length by omega)] at h5
      rw [List.getElem?_eq_getElem hj, List.getElem?_eq_getElem (show j < l.length by omega)]
      simpa using h5
    · rw [List.getElem?_eq_none (by rw [List.length_take]; omega), List.getElem?_eq_none (by omega)]
  have hsp : l = encN q ++ l.drop (encN q).length := by
    have := List.take_append_drop (encN q).length l
    rw [htake] at this
    exact this.symm
  refine ⟨l.drop (encN q).length, ?_, ?_⟩
  · have hk := nextS_good (sg := sg) (k := (encN q).length) hok (stL_bad l) (by rw [hv])
    rw [h] at hk
    injection hk with hk _
    rw [hv] at hk
    cases sg with
    | false =>
      have : v = q := hk
      subst this
      rw [if_neg (by decide)]
      exact hsp
    | true =>
      have h6 : v = (signV ((q : Int), ((encN q).length : Int), 0)).1 := hk
      have h7 : zig v = q := by
        unfold signV at h6
        rw [if_pos rfl] at h6
        by_cases ho : (q : Int) % 2 = 1
        · rw [if_pos ho] at h6
          have h8 : v = -((q : Int) / 2) - 1 := h6
          unfold zig
          rw [if_pos (by omega)]
          omega
        · rw [if_neg ho] at h6
          have h8 : v = (q : Int) / 2 := h6
          unfold zig
          rw [if_neg (by omega)]
          omega
      rw [if_pos rfl]
      unfold encS
      rw [h7]
      exact hsp
  · have hk := nextS_good (sg := sg) (k := (encN q).length) hok (stL_bad l) (by rw [hv])
    rw [h] at hk
    injection hk with _ hk
    rw [hk]
    show (⟨fun i => l.getD (i + (encN q).length) 0, l.length - (encN q).length, false⟩ : St) = ⟨fun i => (l.drop (encN q).length).getD i 0, (l.drop (encN q).length).length, false⟩
    congr 1
    · funext i
      rw [List.getD_eq_getElem?_getD, List.getD_eq_getElem?_getD, List.getElem?_drop, Nat.add_comm]
    · rw [List.length_drop]
theorem nextU_inv {l : List Nat} {v : Int} {s' : St} (hl : ∀ x ∈ l, x < 256) (h : nextS false (stL l) = (v, s')) (hb : s'.bad = false) :
    ∃ r, l = encU v ++ r ∧ s' = stL r ∧ (∀ x ∈ r, x < 256) := by
  obtain ⟨r, h1, h2⟩ := next_inv hl h hb
  rw [if_neg (by decide)] at h1
  exact ⟨r, h1, h2, fun x hx => hl x (by rw [h1]; exact List.mem_append_right _ hx)⟩
theorem nextI_inv {l : List Nat} {v : Int} {s' : St} (hl : ∀ x ∈ l, x < 256) (h : nextS true (stL l) = (v, s')) (hb : s'.bad = false) :
    ∃ r, l = encS v ++ r ∧ s' = stL r ∧ (∀ x ∈ r, x < 256) := by
  obtain ⟨r, h1, h2⟩ := next_inv hl h hb
  rw [if_pos rfl] at h1
  exact ⟨r, h1, h2, fun x hx => hl x (by rw [h1]; exact List.mem_append_right _ hx)⟩
theorem encP_list (l : Int) (p : Pt) (r : List Nat) : encP l p ++ r = encU (p.id - l) ++ (encS p.x ++ (encS p.y ++ (encS p.zl ++ (encU (p.zh - p.zl) ++ (encU p.wd ++ (encU p.nm ++ (encU p.of ++ (encU p.cl ++ r)))))))) := by
  simp [encP, encs]
def NumF : Int → List Pt → Prop
  | _, [] => True
  | l, p :: P => NumP l p ∧ NumF p.id P
theorem numF_of : ∀ (l : Int) (P : List Pt), (∀ k p, P[k]? = some p → NumP (endL l (P.take k)) p) → NumF l P
  | _, [], _ => trivial
  | _, p :: P, h => ⟨h 0 p rfl, numF_of p.id P (fun k q hq => h (k + 1) q hq)⟩
theorem be4 {g : Nat → Nat} {c : Nat} (hc : c < 4294967296) (h0 : g 0 = c / 16777216 % 256) (h1 : g 1 = c / 65536 % 256) (h2 : g 2 = c / 256 % 256) (h3 : g 3 = c % 256) : (be g 4).toNat = c := by
  have step : ∀ (x : BitVec 32) (y : Nat), y < 256 → ((x <<< 8) ||| BitVec.ofNat 32 y).toNat = x.toNat * 256 % 4294967296 + y := fun x y hy => by
    have e1 : (x <<< 8).toNat = x.toNat * 256 % 4294967296 := by rw [BitVec.toNat_shiftLeft, Nat.shiftLeft_eq]
    rw [BitVec.toNat_or, e1, BitVec.toNat_ofNat, Nat.mod_eq_of_lt (show y < 2 ^ 32 by omega)]
    have e2 : x.toNat * 256 % 4294967296 = 2 ^ 8 * (x.toNat % 16777216) := by omega
    rw [e2, ← Nat.two_pow_add_eq_or_of_lt (by omega)]
  show ((((((((0#32 <<< 8) ||| BitVec.ofNat 32 (g 0)) <<< 8) ||| BitVec.ofNat 32 (g 1)) <<< 8) ||| BitVec.ofNat 32 (g 2)) <<< 8) ||| BitVec.ofNat 32 (g 3)).toNat = c
  rw [step _ _ (by omega), step _ _ (by omega), step _ _ (by omega), step _ _ (by omega)]
  rw [h0, h1, h2, h3]
  simp
  omega
theorem be4_inv {g : Nat → Nat} {c : Nat} (hg : ∀ i, g i < 256) (h : (be g 4).toNat = c) : g 0 = c / 16777216 % 256 ∧ g 1 = c / 65536 % 256 ∧ g 2 = c / 256 % 256 ∧ g 3 = c % 256 := by
  have step : ∀ (x : BitVec 32) (y : Nat), y < 256 → ((x <<< 8) ||| BitVec.ofNat 32 y).toNat = x.toNat * 256 % 4294967296 + y := fun x y hy => by
    have e1 : (x <<< 8).toNat = x.toNat * 256 % 4294967296 := by rw [BitVec.toNat_shiftLeft, Nat.shiftLeft_eq]
    rw [BitVec.toNat_or, e1, BitVec.toNat_ofNat, Nat.mod_eq_of_lt (show y < 2 ^ 32 by omega)]
    have e2 : x.toNat * 256 % 4294967296 = 2 ^ 8 * (x.toNat % 16777216) := by omega
    rw [e2, ← Nat.two_pow_add_eq_or_of_lt (by omega)]
  have h' : ((((((((0#32 <<< 8) ||| BitVec.ofNat 32 (g 0)) <<< 8) ||| BitVec.ofNat 32 (g 1)) <<< 8) ||| BitVec.ofNat 32 (g 2)) <<< 8) ||| BitVec.ofNat 32 (g 3)).toNat = c := h
  have g0 := hg 0
  have g1 := hg 1
  have g2 := hg 2
  have g3 := hg 3
  rw [step _ _ g3, step _ _ g2, step _ _ g1, step _ _ g0] at h'
  simp at h'
  omega
theorem crcL_take (l : List Nat) {n : Nat} (hn : n ≤ l.length) : crcV (fun i => l.getD i 0) n = crcL (l.take n) := by
  unfold crcL crcV
  rw [List.length_take, Nat.min_eq_left hn]
  rw [bytesP_congr n (fun i hi => show l.getD i 0 = (l.take n).getD i 0 by rw [List.getD_eq_getElem?_getD, List.getD_eq_getElem?_getD, List.getElem?_take_of_lt hi])]
theorem sumOk_iff {l : List Nat} (hl : ∀ x ∈ l, x < 256) {n : Nat} (hn : l.length = n + 4) : SumOk l n ↔ l = l.take n ++ bytes4 (crcL (l.take n)) := by
  unfold SumOk
  rw [crcL_take l (by omega)]
  have hlt := crcL_lt (l.take n)
  generalize crcL (l.take n) = c at *
  have hat : ∀ j, j < 4 → (l.drop n)[j]? = some (l.getD (n + j) 0) := fun j hj => by
    rw [List.getElem?_drop, List.getD_eq_getElem?_getD, List.getElem?_eq_getElem (show n + j < l.length by omega)]
    rfl
  have hd : l.drop n = [l.getD (n + 0) 0, l.getD (n + 1) 0, l.getD (n + 2) 0, l.getD (n + 3) 0] := by
    refine List.ext_getElem? fun j => ?_
    match j with
    | 0 => exact hat 0 (by omega)
    | 1 => exact hat 1 (by omega)
    | 2 => exact hat 2 (by omega)
    | 3 => exact hat 3 (by omega)
    | j + 4 =>
      rw [List.getElem?_eq_none (by rw [List.length_drop]; omega)]
      rfl
  have hsplit := List.take_append_drop n l
  constructor
  · intro h
    obtain ⟨h0, h1, h2, h3⟩ := be4_inv (g := fun i => l.getD (n + i) 0) (fun i => getD_byte hl (n + i)) h
    rw [hd] at hsplit
    rw [h0, h1, h2, h3] at hsplit
    exact hsplit.symm
  · intro h
    have h2 : l.drop n = bytes4 c := by
      exact List.append_cancel_left (hsplit.trans h)
    rw [hd] at h2
    unfold bytes4 at h2
    injection h2 with e0 h2
    injection h2 with e1 h2
    injection h2 with e2 h2
    injection h2 with e3 h2
    exact be4 hlt e0 e1 e2 e3
end Go.Proofs.YtpfighhhemnhaaaGreat

namespace Go.Proofs.YtpfighhhemnhaaaGreat
open Go.RowKit

end Go.Proofs.YtpfighhhemnhaaaGreat

namespace Go.Proofs.YtpfighhhemnhaaaGreat
open Go.RowKit

theorem u5 : Tryz.prog.underlying 5 = some (.int .u8) := by kernel_rfl
/-- an owned row of bytes as it lies -/
theorem ownB_at {W : World} {B : Nat} {v : Value} {xs : List Nat} (h : OwnB W B v xs) (hp : 0 < xs.length) : ∃ g cap, v = .slice (some ⟨g, 0, none⟩) xs.length cap ∧ xs.length ≤ cap ∧ cap ≤ 9223372036854775807 ∧ bytesAt W g 0 xs.length (fun i => xs.getD i 0) ∧ B ≤ g ∧ g < W.heap.size := by
  have hc := h.1
  obtain ⟨h1, h2⟩ := h.1
  rcases h2 with ⟨_, h0⟩ | ⟨g0, cap, cur, hv, hB, hr, hn, hm, _⟩
  · omega
  · subst hv
    exact ⟨g0, cap, rfl, hn, by unfold maxLen at hm; omega, u8s_cells hc, hB, (Array.getElem?_eq_some_iff.1 hr).1⟩
end Go.Proofs.YtpfighhhemnhaaaGreat

namespace Go.Proofs.YtpfighhhemnhaaaGreat
open Go.RowKit

end Go.Proofs.YtpfighhhemnhaaaGreat

namespace Go.Proofs.YtpfighhhemnhaaaGreat
open Go.ChangeShapes Go.WideShapes Go.ChangeAt Go.RowKit Go.Maps Go.Sort

theorem bytes_still {w W : World} {b off n : Nat} {g : Nat → Nat} (h : bytesAt w b off n g) (hb : b < w.heap.size) (hB : Below w.heap.size w W) : bytesAt W b off n g := by
  intro i hi
  rw [World.cell?_of_block (w := w) (w' := W) (a := ⟨b, off + i, none⟩) (hB.block b hb)]
  exact h i hi
end Go.Proofs.YtpfighhhemnhaaaGreat



/- The reference's levels (99): the level of the tile of each point. The reference's levels (99): the walk. One cell of a row of the call's own; a tile's slice turned within its row; the steps at a drawn region's tail. The reference's Before (57): the order of keys. The reference's layout as lists: a point joins its tile, or begins one. The reference's layout (51): what it returns are the tiles that the plain law tells of. What Layout returns, of whatever points and capacity: the program's (15) and the reference's (16). -/
import Derived.Test.YteanlcefdoigcaaRSort
import Derived.Test.YteanlcefdoigcaaKeys
import Derived.Test.YteanlcefdoigcaaBase
import Derived.Test.YteanlcefdoigcaaLayX
namespace Go.Proofs.Yteanlcefdoigcaa
open Go.RowKit Go.Sort

/-- the level of a point's tile, as far as levels below l tell -/
def lvOf (S : List Pt) (c : Nat) : Nat → Pt → Int
  | 0, _ => -1
  | l + 1, p => if (here S c l p && takes S c l p) = true then (l : Int) else lvOf S c l p
theorem lvOf_neg (S : List Pt) (c : Nat) (p : Pt) : ∀ l, lvOf S c l p < 0 ↔ here S c l p = true
  | 0 => by simp [lvOf, here]
  | l + 1 => by
    have ih := lvOf_neg S c p l
    unfold lvOf
    rw [here_succ]
    cases h1 : here S c l p <;> cases h2 : takes S c l p
    · simp only [h1] at ih; simpa using ih
    · simp only [h1] at ih; simpa using ih
    · simp only [h1] at ih; simpa using ih
    · simp
theorem lvOf_at (S : List Pt) (c : Nat) (p : Pt) : ∀ l, l ≤ 13 → here S c l p = false → ∃ m : Nat, lvOf S c l p = (m : Int) ∧ m ≤ 12 ∧ isAt S c p (cellK m p)
  | 0, _, h => by simp [here] at h
  | l + 1, hl, h => by
    unfold lvOf
    cases h1 : here S c l p
    · obtain ⟨m, h2, h3⟩ := lvOf_at S c p l (by omega) h1
      exact ⟨m, by simpa using h2, h3⟩
    · rw [here_succ, h1] at h
      have h2 : takes S c l p = true := by simpa using h
      exact ⟨l, by simp [h2], by omega, l, by omega, h1, h2, rfl⟩
theorem lvOf_13 (S : List Pt) (c : Nat) (p : Pt) : ∃ m : Nat, lvOf S c 13 p = (m : Int) ∧ m ≤ 12 ∧ isAt S c p (cellK m p) := lvOf_at S c p 13 (Nat.le_refl _) (here_13 S c p)
/-- one integer an element -/
def iRow (z : Int) : List Value := [.int .i64 z]
def OwnI (W : World) (base : Nat) (v : Value) (zs : List Int) : Prop := OwnR W base 3 1 v (zs.map iRow)
theorem iRow_one (z : Int) : ∀ u ∈ iRow z, u.oneCell' = true := fun u hu => by
  simp [iRow] at hu
  subst hu
  rfl
theorem OwnI.cells {W : World} {base g n cap : Nat} {zs : List Int} (h : OwnI W base (.slice (some ⟨g, 0, none⟩) n cap) zs) : base ≤ g ∧ g < W.heap.size ∧ n = zs.length ∧ ∀ (i : Nat) (z : Int), zs[i]? = some z → W.cell? ⟨g, i, none⟩ = some (.int .i64 z) := by
  obtain ⟨hn, cur, hB, hc, hle, hm, hcs, htk⟩ := own_parts h
  rw [List.length_map] at hn hle htk
  refine ⟨hB, (Array.getElem?_eq_some_iff.1 hc).1, hn, fun i z hi => ?_⟩
  have hil : i < zs.length := (List.getElem?_eq_some_iff.1 hi).1
  have h1 := h.1.at (i := i) (r := iRow z) (by rw [List.getElem?_map, hi]; rfl) 0 (by decide)
  rw [cell_row hc, ← Array.getElem?_toList]
  rw [← htk, List.getElem?_take_of_lt (by omega)] at h1
  simpa [iRow] using h1
theorem OwnI.set {W : World} {base g n cap i : Nat} {zs : List Int} {cur : Array Value} {z : Int} (h : OwnI W base (.slice (some ⟨g, 0, none⟩) n cap) zs) (hc : W.heap[g]? = some (.cells cur 3)) (hi : i < zs.length) :
    OwnI (W.setRow g (ptL cur i [.int .i64 z])) base (.slice (some ⟨g, 0, none⟩) n cap) (zs.set i z) := by
  have h1 := own_set h hc (i := i) (r := iRow z) (by simpa using hi) rfl (iRow_one z)
  rw [Nat.mul_one] at h1
  unfold OwnI
  rw [List.map_set]
  exact h1
theorem turned_row (W : World) (g : Nat) (X : Array Value) : Turned W (W.setRow g X) (fun k => k = g) := by
  have h := below_setRow (B := g) (Below.refl g W) (Nat.le_refl _) X
  refine ⟨h.os, h.tape, h.output, h.size, fun k _ hk => ?_⟩
  unfold World.setRow
  rw [Array.getElem?_modify]
  simp [Ne.symm hk]
theorem ints_wide (zs : List Int) : Wide 1 (zs.map iRow) := wide_map (enc := iRow) (k := 1) (fun _ => rfl) iRow_one zs
theorem info3 : (Try.prog.info? 3).map (fun i => (i.zero, i.size, i.bytes)) = some (some (.int .i64 0), 1, 8) := by kernel_rfl
theorem size3 : (Try.prog.info? 3).map (·.size) = some 1 := by kernel_rfl
/-- who belongs to a level -/
def sel (S : List Pt) (c l : Nat) (p : Pt) : Bool := here S c l p && takes S c l p
/-- the indices of those of the first i who belong to the level -/
def nowL (S : List Pt) (c l i : Nat) : List Nat := (List.range i).filter (fun j => sel S c l (S[j]!))
theorem nowL_yes {S : List Pt} {c l i : Nat} {p : Pt} (hp : S[i]? = some p) (h : sel S c l p = true) : nowL S c l (i + 1) = nowL S c l i ++ [i] := by
  simp [nowL, List.range_succ, List.filter_append, hp, h]
theorem nowL_no {S : List Pt} {c l i : Nat} {p : Pt} (hp : S[i]? = some p) (h : sel S c l p = false) : nowL S c l (i + 1) = nowL S c l i := by
  simp [nowL, List.range_succ, List.filter_append, hp, h]
theorem nowL_len (S : List Pt) (c l i : Nat) : (nowL S c l i).length ≤ i := by
  refine Nat.le_trans (List.length_filter_le _ _) ?_
  simp
theorem nowL_mem {S : List Pt} {c l n j : Nat} {p : Pt} (hn : n = S.length) (hp : S[j]? = some p) : j ∈ nowL S c l n ↔ sel S c l p = true := by
  have hj : j < S.length := (List.getElem?_eq_some_iff.1 hp).1
  simp [nowL, List.mem_filter, hp]
  omega
/-- the levels, of which t of the level l have been written -/
def LvAt (S : List Pt) (c l t : Nat) (zs : List Int) : Prop := zs.length = S.length ∧ ∀ j p, S[j]? = some p → zs[j]? = some (if j ∈ (nowL S c l S.length).take t then (l : Int) else lvOf S c l p)
theorem LvAt.start {S : List Pt} {c l : Nat} {zs : List Int} (h : zs = S.map (lvOf S c l)) : LvAt S c l 0 zs := by
  subst h
  exact ⟨by simp, fun j p hp => by simp [List.getElem?_map, hp]⟩
theorem LvAt.step {S : List Pt} {c l t j : Nat} {zs : List Int} (h : LvAt S c l t zs) (hj : (nowL S c l S.length)[t]? = some j) : LvAt S c l (t + 1) (zs.set j l) := by
  refine ⟨by rw [List.length_set]; exact h.1, fun i p hp => ?_⟩
  have e : (nowL S c l S.length).take (t + 1) = (nowL S c l S.length).take t ++ [j] := by rw [List.take_add_one, hj]; rfl
  have hil : i < zs.length := by rw [h.1]; exact (List.getElem?_eq_some_iff.1 hp).1
  rw [e]
  by_cases hij : i = j
  · subst hij
    rw [List.getElem?_set_self hil]
    simp
  · rw [List.getElem?_set_ne (Ne.symm hij), h.2 i p hp]
    simp [hij]
theorem LvAt.done {S : List Pt} {c l t : Nat} {zs : List Int} (h : LvAt S c l t zs) (ht : (nowL S c l S.length).length ≤ t) : zs = S.map (lvOf S c (l + 1)) := by
  refine List.ext_getElem? fun j => ?_
  by_cases hj : j < S.length
  · rw [List.getElem?_map, List.getElem?_eq_getElem hj, h.2 j _ (List.getElem?_eq_getElem hj), List.take_of_length_le ht]
    have := nowL_mem (c := c) (l := l) (n := S.length) rfl (List.getElem?_eq_getElem hj)
    simp only [Option.map_some, lvOf]
    by_cases hs : sel S c l S[j] = true
    · rw [if_pos (this.2 hs), if_pos (show (here S c l S[j] && takes S c l S[j]) = true from hs)]
    · rw [if_neg (fun e => hs (this.1 e)), if_neg (show ¬ (here S c l S[j] && takes S c l S[j]) = true from hs)]
  · rw [List.getElem?_eq_none (by rw [h.1]; omega), List.getElem?_eq_none (by rw [List.length_map]; omega)]
end Go.Proofs.Yteanlcefdoigcaa
namespace Go.Proofs.Yteanlcefdoigcaa
open Go.RowKit Go.Sort

theorem flat39l : flatOf Try.prog 10 39 = some [some .i64, some .i64, some .i64, some .i64] := by kernel_rfl
theorem sameL_four (a b c d e f g h : Int) : sameL [.int .i64 a, .int .i64 b, .int .i64 c, .int .i64 d] [.int .i64 e, .int .i64 f, .int .i64 g, .int .i64 h] = (decide (a = e) && (decide (b = f) && (decide (c = g) && decide (d = h)))) := by
  simp only [sameL, sameV, Bool.and_true]
  congr 1
set_option maxRecDepth 100000 in
theorem eqCell (l : Nat) (p q : Pt) (b : Bool) (hb : b = decide (cellK l p = cellK l q)) (W : World) : (Op.equalIn 10000 39 (.agg (cellC l p.x p.y p.zl)) (.agg (cellC l q.x q.y q.zl))).run Try.prog W = .ok b W := by
  have h := equal_struct Try.underlying39 flat39l [.int .i64 (l : Int), .int .i64 (idxV p.x l), .int .i64 (idxV p.y l), .int .i64 (idxV p.zl l)] [.int .i64 (l : Int), .int .i64 (idxV q.x l), .int .i64 (idxV q.y l), .int .i64 (idxV q.zl l)] rfl rfl W
  refine h.trans ?_
  rw [sameL_four, hb]
  congr 1
  rw [Bool.eq_iff_iff]
  simp only [Bool.and_eq_true, decide_eq_true_eq]
  constructor
  · rintro ⟨_, h1, h2, h3⟩
    exact Ky.ext' rfl h1 h2 h3
  · intro h
    exact ⟨trivial, congrArg Ky.x h, congrArg Ky.y h, congrArg Ky.z h⟩
theorem rRank_belowL (id : Int) (w : World) : Calls Try.prog 24 #[.int .i64 id] w fun e w' => e = .returned (.int .u64 (rankV id)) ∧ Below w.heap.size w w' :=
  (rRank_any id w).mono (by rintro r w' ⟨h, rfl⟩; exact ⟨h, Below.refl _ _⟩)
theorem zeros_flat (n : Nat) : (madeCells (Value.int .i64 0).cells (n * 1)).toList = ((List.replicate n (0 : Int)).map iRow).flatten := by
  rw [Nat.mul_one, show (Value.int .i64 0).cells = #[.int .i64 0] from rfl, toList_madeCells_one]
  induction n with
  | zero => rfl
  | succ n ih => rw [List.replicate_succ, List.replicate_succ, List.map_cons, List.flatten_cons, ← ih]; rfl
/-- while the levels are made -1 -/
def FillRel (w : World) (n : Nat) (v iv : Value) (W : World) : Prop := ∃ (k : Nat) (zs : List Int), k ≤ n ∧ iv = .int .i64 (k : Int) ∧ zs.length = n ∧ (∀ j, j < k → zs[j]? = some (-1)) ∧ OwnI W w.heap.size v zs ∧ Below w.heap.size w W
/-- between two levels -/
def LevRel (w : World) (S : List Pt) (c : Nat) (v lv : Value) (W : World) : Prop := ∃ l : Nat, l ≤ 13 ∧ lv = .int .i64 (l : Int) ∧ OwnI W w.heap.size v (S.map (lvOf S c l)) ∧ Below w.heap.size w W
/-- between two points of a level -/
def PtRel (w : World) (S : List Pt) (c l n g : Nat) (v now iv : Value) (W : World) : Prop :=
  ∃ i : Nat, i ≤ n ∧ iv = .int .i64 (i : Int) ∧ OwnI W w.heap.size v (S.map (lvOf S c l)) ∧ OwnI W w.heap.size now ((nowL S c l i).map Int.ofNat) ∧ (∀ b, now.ownBlock = some b → b ≠ g) ∧ Below w.heap.size w W
/-- between two points that are compared with one -/
def CntRel (W0 : World) (S : List Pt) (c l n : Nat) (p : Pt) (cv kv : Value) (W : World) : Prop :=
  ∃ k : Nat, k ≤ n ∧ kv = .int .i64 (k : Int) ∧ cv = .int .i64 (((S.take k).countP (fun q => here S c l q && lessB l p q) : Nat) : Int) ∧ Below W0.heap.size W0 W
/-- while the level's points are marked -/
def MarkRel (w : World) (S : List Pt) (c l m : Nat) (v now tv : Value) (W : World) : Prop :=
  ∃ (t : Nat) (zs : List Int), t ≤ m ∧ tv = .int .i64 (t : Int) ∧ LvAt S c l t zs ∧ OwnI W w.heap.size v zs ∧ OwnI W w.heap.size now ((nowL S c l S.length).map Int.ofNat) ∧ Below w.heap.size w W
theorem count_next {S : List Pt} {k : Nat} {q : Pt} (f : Pt → Bool) (hq : S[k]? = some q) : (S.take (k + 1)).countP f = (S.take k).countP f + if f q = true then 1 else 0 := by
  rw [take_succ' hq, List.countP_append, List.countP_singleton]
set_option maxRecDepth 100000 in
set_option maxHeartbeats 6400000 in
theorem levels_any (pv : Value) (S : List Pt) (c : Nat) (w : World) (hp : PtsV w pv S) (hf : ∀ p ∈ S, p.fine) (hn : S.length ≤ 4096) :
    Calls Try.prog 99 #[pv, .int .i64 c] w fun r w' => (∃ v, r = .returned v ∧ OwnI w' w.heap.size v (S.map (lvOf S c 13))) ∧ Below w.heap.size w w' := by
  obtain ⟨pa, pc, rfl, hpd⟩ := hp
  obtain ⟨n, hnl⟩ : ∃ n, n = S.length := ⟨_, rfl⟩
  rw [← hnl] at hn ⊢
  have HN := hid hnl
  have HPD := hid hpd
  have HF := hid hf
  clear hnl hpd hf
  obtain ⟨i0, hi, hz0, hz1, hz2⟩ := info_parts info3
  have HI := hid hi
  have HZ0 := hid hz0
  have HZ1 := hid hz1
  have HZ2 := hid hz2
  clear hi hz0 hz1 hz2
  go_enter Try.func99, Try.ntmps99
  go_wp2_with (first
    | (refine wpList_make_full _ rfl (.tmp 15) (.tmp 15) 30 rfl w.heap.size 3 i0 (.int .i64 0) 1 Try.underlying30 HI.out HZ0.out HZ1.out .i64 .i64 (n : Int) (n : Int) n rfl rfl rfl rfl (by rw [HZ2.out]; omega) (by unfold maxLen; omega) (Nat.le_refl _) ?_
       intro W1 hown hg
       have HO1 := hid (show OwnI W1 w.heap.size (.slice (some ⟨w.heap.size, 0, none⟩) n n) (List.replicate n 0) from ⟨ints_wide _, by rw [List.length_map, List.length_replicate, ← zeros_flat]; exact hown⟩)
       have HB1 := hid (show Below w.heap.size w W1 from (Below.refl _ _).grown hg (Nat.le_refl _) (fun k hk => by cases hk))
       clear hown hg))
  go_loopw [19] (fun iv W => FillRel w n (.slice (some ⟨w.heap.size, 0, none⟩) n n) iv W) (fun iv _ => n - (intOf iv).toNat)
  case atStart => exact ⟨0, _, by omega, rfl, by simp, fun j h => by omega, HO1.out, HB1.out⟩
  case round =>
    obtain ⟨k, zs, hk, rfl, hzl, hzz, hown, hB⟩ := hrel
    have HOW := hid hown
    have HBW := hid hB
    have HZZ := hid hzz
    have HZL := hid hzl
    clear hown hB hzz hzl
    by_cases hlt : k < n
    · have d1 : decide ((k : Int) < (n : Int)) = true := decide_eq_true (by omega)
      obtain ⟨z1, C, z2, hC, hle, z3, hCs, z4⟩ := own_parts HOW.out
      have HC := hid hC
      have hCn : C.size = n := by rw [hCs, Nat.mul_one]
      clear z1 z2 z3 z4 hC hle hCs
      go_wp2_with (first
        | (refine pt_store1 rfl 3 (.tmp 24) _ rfl w.heap.size k _ rfl rfl rfl rfl HC.out size3 (by omega) ?_))
      exact ⟨⟨k + 1, _, by omega, by go_num, by rw [List.length_set]; exact HZL.out, fun j hj => by
        by_cases hjk : j = k
        · subst hjk
          exact List.getElem?_set_self (by rw [HZL.out]; exact hlt)
        · rw [List.getElem?_set_ne (Ne.symm hjk)]
          exact HZZ.out j (by omega), OwnI.set HOW.out HC.out (by rw [HZL.out]; exact hlt), below_row HBW.out (Nat.le_refl _)⟩, by simp [intOf]; omega⟩
    · obtain rfl : k = n := by omega
      have d1 : decide ((k : Int) < (k : Int)) = false := by simp
      have HO2 := hid (show OwnI wr w.heap.size (.slice (some ⟨w.heap.size, 0, none⟩) k k) (S.map (lvOf S c 0)) by
        have e : zs = S.map (lvOf S c 0) := by
          refine List.ext_getElem? fun j => ?_
          have hkS := HN.out
          by_cases hj : j < k
          · rw [HZZ.out j hj, List.getElem?_map, List.getElem?_eq_getElem (by omega)]
            rfl
          · rw [List.getElem?_eq_none (by rw [HZL.out]; omega), List.getElem?_eq_none (by rw [List.length_map]; omega)]
        rw [← e]
        exact HOW.out)
      go_wp2_with fail
      go_loopw [7] (fun lv W => LevRel w S c (.slice (some ⟨w.heap.size, 0, none⟩) k k) lv W) (fun lv _ => 13 - (intOf lv).toNat)
      case atStart => exact ⟨0, by omega, rfl, HO2.out, HBW.out⟩
      case round =>
        obtain ⟨l, hl, rfl, hown, hB⟩ := hrel
        have HLW := hid hown
        have HBL := hid hB
        clear hown hB
        by_cases hl12 : l ≤ 12
        · have d2 : decide ((l : Int) ≤ 12) = true := decide_eq_true (by omega)
          go_wp2_with fail
          go_loopw [8, 32] (fun now iv W => PtRel w S c l k w.heap.size (.slice (some ⟨w.heap.size, 0, none⟩) k k) now iv W) (fun _ iv _ => k - (intOf iv).toNat)
          case atStart => exact ⟨0, by omega, rfl, HLW.out, OwnR.nil _ _ _ _, fun b h => (by cases h), HBL.out⟩
          case round =>
            obtain ⟨i, hi, rfl, hown, hnow, hap, hB⟩ := hrel
            have HOI := hid hown
            have HAP := hid hap
            have HBI := hid hB
            have hzi := hB.size
            obtain ⟨na, ncap, hns⟩ := OwnR.slice hnow
            have hnl : (nowL S c l i).length ≤ 4096 := Nat.le_trans (nowL_len S c l i) (by omega)
            rw [List.length_map, List.length_map] at hns
            obtain ⟨nn, hnn⟩ : ∃ nn, nn = (nowL S c l i).length := ⟨_, rfl⟩
            rw [← hnn] at hns hnl
            have HNN := hid hnn
            subst hns
            have HNOW := hid hnow
            clear hown hap hB hnow hnn
            by_cases hlt2 : i < k
            · have d3 : decide ((i : Int) < (k : Int)) = true := decide_eq_true (by omega)
              have hiS : i < S.length := by rw [← HN.out]; exact hlt2
              obtain ⟨p, hp⟩ : ∃ p, S[i]? = some p := ⟨_, List.getElem?_eq_getElem hiS⟩
              have HP := hid hp
              have hSne : S ≠ [] := fun e => by rw [e] at hp; simp at hp
              obtain ⟨pb, po, rfl, hpb, hpr⟩ := HPD.out.resolve_left hSne
              have HPR := hid hpr
              have HPB := hid hpb
              have c5 : wr.cell? ⟨w.heap.size, i, none⟩ = some (.int .i64 (lvOf S c l p)) := (OwnI.cells HOI.out).2.2.2 i _ (by rw [List.getElem?_map, hp]; rfl)
              have hneg := lvOf_neg S c p l
              clear hp hSne hpr hpb hiS
              cases hh : here S c l p
              · have HSEL := hid (show sel S c l p = false by unfold sel; rw [hh]; rfl)
                rw [hh] at hneg
                generalize lvOf S c l p = z at c5 hneg
                have d4 : decide (0 ≤ z) = true := decide_eq_true (by simp at hneg; omega)
                clear hneg hh
                go_wp2_with fail
                exact ⟨⟨i + 1, by omega, by go_num, HOI.out, by rw [nowL_no HP.out HSEL.out]; exact HNOW.out, HAP.out, HBI.out⟩, by simp [intOf]; omega⟩
              · have HH := hid hh
                rw [hh] at hneg
                generalize lvOf S c l p = z at c5 hneg
                have d4 : decide (0 ≤ z) = false := decide_eq_false (by simp at hneg; omega)
                clear hneg hh
                go_wp2_with fail
                refine gen_world (fun W4 hW4 => ?_)
                subst hW4
                go_loopw [10, 42] (fun cv kv W => CntRel W4 S c l k p cv kv W) (fun _ kv _ => k - (intOf kv).toNat)
                case atStart => exact ⟨0, by omega, rfl, by simp, Below.refl _ _⟩
                case round =>
                  obtain ⟨j, hj, rfl, hcv, hB⟩ := hrel
                  obtain ⟨m, hm⟩ : ∃ m, m = (S.take j).countP (fun q => here S c l q && lessB l p q) := ⟨_, rfl⟩
                  rw [← hm] at hcv
                  subst hcv
                  have HM := hid hm
                  have HB4 := hid hB
                  have hmk : m ≤ 4096 := by
                    rw [hm]
                    refine Nat.le_trans List.countP_le_length ?_
                    rw [List.length_take]
                    omega
                  have hz4 := hB.size
                  clear hm hB
                  by_cases hjk : j < k
                  · have d5 : decide ((j : Int) < (k : Int)) = true := decide_eq_true (by omega)
                    have hjS : j < S.length := by rw [← HN.out]; exact hjk
                    obtain ⟨q, hq⟩ : ∃ q, S[j]? = some q := ⟨_, List.getElem?_eq_getElem hjS⟩
                    have HQ := hid hq
                    have HCN := hid (count_next (fun q => here S c l q && lessB l p q) hq)
                    have c6 := fun d os => cell_regrown (show wr.cell? ⟨w.heap.size, j, none⟩ = some (.int .i64 (lvOf S c l q)) from (OwnI.cells (OwnR.grow' HOI.out HB4.out)).2.2.2 j _ (by rw [List.getElem?_map, hq]; rfl)) d os
                    have hneg := lvOf_neg S c q l
                    have HBW2 := hid (HBI.out.trans (HB4.out.mono hzi))
                    clear hq hjS
                    cases hh : here S c l q
                    · rw [hh] at hneg
                      generalize lvOf S c l q = y at c6 hneg
                      have d6 : decide (y < 0) = false := decide_eq_false (by simp at hneg; omega)
                      have HH2 := hid hh
                      clear hneg hh
                      go_wp2_with fail
                      refine wp_region_quiet_below (by kernel_rfl) (by kernel_rfl) ?_
                      repeat (first | go_big_quiet_step (fail) | quiet_step (fail))
                      refine wpQuiet_nil ?_
                      intro _ hw'
                      obtain ⟨⟨dqV, osV⟩, hw2⟩ := hw'
                      subst hw2
                      have HQV := hid (below_regrown wr dqV osV)
                      generalize Sort.grow (redrawn wr dqV) osV = V at HQV ⊢
                      have hsV := HQV.out.size
                      have HB5 := hid (HB4.out.trans (HQV.out.mono hz4))
                      clear c6
                      go_wp2_with fail
                      exact ⟨⟨j + 1, by omega, by go_num, by rw [HCN.out, ← HM.out]; simp [HH2.out], HB5.out⟩, by simp [intOf]; omega⟩
                    · rw [hh] at hneg
                      generalize lvOf S c l q = y at c6 hneg
                      have d6 : decide (y < 0) = true := decide_eq_true (by simp at hneg; omega)
                      have HH2 := hid hh
                      clear hneg hh
                      have HCQ := hid (fun W => rCell_any q.id q.x q.y q.zl q.zh q.wd q.nm q.of q.cl l hl12 (HF.out q (List.mem_of_getElem? HQ.out)).2.1 (HF.out q (List.mem_of_getElem? HQ.out)).2.2.1 (HF.out q (List.mem_of_getElem? HQ.out)).2.2.2 W)
                      have HCP := hid (fun W => rCell_any p.id p.x p.y p.zl p.zh p.wd p.nm p.of p.cl l hl12 (HF.out p (List.mem_of_getElem? HP.out)).2.1 (HF.out p (List.mem_of_getElem? HP.out)).2.2.1 (HF.out p (List.mem_of_getElem? HP.out)).2.2.2 W)
                      have heq := fun b hb W => eqCell l q p b hb W
                      have hcq : ∀ e, e < 9 → wr.cell? ⟨pb, po + j * 9 + e, none⟩ = some (.int .i64 (q.f e)) := fun e he => by
                        rw [HBW2.out.cell HPB.out, HPR.out j q.row (by rw [List.getElem?_map, HQ.out]; rfl) e he, Pt.row_at q e he]
                      have hcp : ∀ e, e < 9 → wr.cell? ⟨pb, po + i * 9 + e, none⟩ = some (.int .i64 (p.f e)) := fun e he => by
                        rw [HBW2.out.cell HPB.out, HPR.out i p.row (by rw [List.getElem?_map, HP.out]; rfl) e he, Pt.row_at p e he]
                      have HLB := hid (show lessB l p q = (decide (cellK l q = cellK l p) && decide (rankV q.id < rankV p.id)) from rfl)
                      generalize hsb : decide (cellK l q = cellK l p) = sb at HLB
                      have heq2 := heq sb hsb.symm
                      clear heq hsb
                      obtain ⟨q0, q1, q2, q3, q4, q5, q6, q7, q8⟩ := q
                      obtain ⟨p0, p1, p2, p3, p4, p5, p6, p7, p8⟩ := p
                      have ea := HCQ
                      simp only at heq2 HCQ HCP HLB
                      have a0 := fun d os => cell_regrown (show wr.cell? ⟨pb, po + j * 9, none⟩ = some (.int .i64 q0) from hcq 0 (by decide)) d os
                      have a1 := fun d os => cell_regrown (show wr.cell? ⟨pb, po + j * 9 + 1, none⟩ = some (.int .i64 q1) from hcq 1 (by decide)) d os
                      have a2 := fun d os => cell_regrown (show wr.cell? ⟨pb, po + j * 9 + 2, none⟩ = some (.int .i64 q2) from hcq 2 (by decide)) d os
                      have a3 := fun d os => cell_regrown (show wr.cell? ⟨pb, po + j * 9 + 3, none⟩ = some (.int .i64 q3) from hcq 3 (by decide)) d os
                      have a4 := fun d os => cell_regrown (show wr.cell? ⟨pb, po + j * 9 + 4, none⟩ = some (.int .i64 q4) from hcq 4 (by decide)) d os
                      have a5 := fun d os => cell_regrown (show wr.cell? ⟨pb, po + j * 9 + 5, none⟩ = some (.int .i64 q5) from hcq 5 (by decide)) d os
                      have a6 := fun d os => cell_regrown (show wr.cell? ⟨pb, po + j * 9 + 6, none⟩ = some (.int .i64 q6) from hcq 6 (by decide)) d os
                      have a7 := fun d os => cell_regrown (show wr.cell? ⟨pb, po + j * 9 + 7, none⟩ = some (.int .i64 q7) from hcq 7 (by decide)) d os
                      have a8 := fun d os => cell_regrown (show wr.cell? ⟨pb, po + j * 9 + 8, none⟩ = some (.int .i64 q8) from hcq 8 (by decide)) d os
                      have b0 := fun d os => cell_regrown (show wr.cell? ⟨pb, po + i * 9, none⟩ = some (.int .i64 p0) from hcp 0 (by decide)) d os
                      have b1 := fun d os => cell_regrown (show wr.cell? ⟨pb, po + i * 9 + 1, none⟩ = some (.int .i64 p1) from hcp 1 (by decide)) d os
                      have b2 := fun d os => cell_regrown (show wr.cell? ⟨pb, po + i * 9 + 2, none⟩ = some (.int .i64 p2) from hcp 2 (by decide)) d os
                      have b3 := fun d os => cell_regrown (show wr.cell? ⟨pb, po + i * 9 + 3, none⟩ = some (.int .i64 p3) from hcp 3 (by decide)) d os
                      have b4 := fun d os => cell_regrown (show wr.cell? ⟨pb, po + i * 9 + 4, none⟩ = some (.int .i64 p4) from hcp 4 (by decide)) d os
                      have b5 := fun d os => cell_regrown (show wr.cell? ⟨pb, po + i * 9 + 5, none⟩ = some (.int .i64 p5) from hcp 5 (by decide)) d os
                      have b6 := fun d os => cell_regrown (show wr.cell? ⟨pb, po + i * 9 + 6, none⟩ = some (.int .i64 p6) from hcp 6 (by decide)) d os
                      have b7 := fun d os => cell_regrown (show wr.cell? ⟨pb, po + i * 9 + 7, none⟩ = some (.int .i64 p7) from hcp 7 (by decide)) d os
                      have b8 := fun d os => cell_regrown (show wr.cell? ⟨pb, po + i * 9 + 8, none⟩ = some (.int .i64 p8) from hcp 8 (by decide)) d os
                      clear hcq hcp ea
                      cases sb
                      · go_wp2_with fail
                        refine wp_region_quiet_below (by kernel_rfl) (by kernel_rfl) ?_
                        repeat (first | go_big_quiet_step ((first | (go_at_call 53; with_reducible exact Calls.regrown_of (HCQ.out _)) | (go_at_call 53; with_reducible exact Calls.regrown_of (HCP.out _)) | (go_at_call 24; exact Calls.regrown_of (rRank_belowL _ _)))) | quiet_step ((first | (go_at_call 53; with_reducible exact Calls.regrown_of (HCQ.out _)) | (go_at_call 53; with_reducible exact Calls.regrown_of (HCP.out _)) | (go_at_call 24; exact Calls.regrown_of (rRank_belowL _ _)))))
                        refine wpQuiet_nil ?_
                        intro _ hw'
                        obtain ⟨⟨dqV, osV⟩, hw2⟩ := hw'
                        subst hw2
                        have HQV := hid (below_regrown wr dqV osV)
                        generalize Sort.grow (redrawn wr dqV) osV = V at HQV ⊢
                        have hsV := HQV.out.size
                        have HB5 := hid (HB4.out.trans (HQV.out.mono hz4))
                        clear c6 a0 b0 a1 b1 a2 b2 a3 b3 a4 b4 a5 b5 a6 b6 a7 b7 a8 b8 heq2
                        go_wp2_with fail
                        exact ⟨⟨j + 1, by omega, by go_num, by rw [HCN.out, ← HM.out]; simp [HLB.out], HB5.out⟩, by simp [intOf]; omega⟩
                      · by_cases hrk : rankV q0 < rankV p0
                        · have d7 : decide (rankV q0 < rankV p0) = true := decide_eq_true hrk
                          go_wp2_with fail
                          refine wp_region_quiet_below (by kernel_rfl) (by kernel_rfl) ?_
                          repeat (first | go_big_quiet_step ((first | (go_at_call 53; with_reducible exact Calls.regrown_of (HCQ.out _)) | (go_at_call 53; with_reducible exact Calls.regrown_of (HCP.out _)) | (go_at_call 24; exact Calls.regrown_of (rRank_belowL _ _)))) | quiet_step ((first | (go_at_call 53; with_reducible exact Calls.regrown_of (HCQ.out _)) | (go_at_call 53; with_reducible exact Calls.regrown_of (HCP.out _)) | (go_at_call 24; exact Calls.regrown_of (rRank_belowL _ _)))))
                          refine wpQuiet_nil ?_
                          intro _ hw'
                          obtain ⟨⟨dqV, osV⟩, hw2⟩ := hw'
                          subst hw2
                          have HQV := hid (below_regrown wr dqV osV)
                          generalize Sort.grow (redrawn wr dqV) osV = V at HQV ⊢
                          have hsV := HQV.out.size
                          have HB5 := hid (HB4.out.trans (HQV.out.mono hz4))
                          clear c6 a0 b0 a1 b1 a2 b2 a3 b3 a4 b4 a5 b5 a6 b6 a7 b7 a8 b8 heq2
                          go_wp2_with fail
                          exact ⟨⟨j + 1, by omega, by go_num, by rw [HCN.out, ← HM.out]; simp [HLB.out, HH2.out, hrk], HB5.out⟩, by simp [intOf]; omega⟩
                        · have d7 : decide (rankV q0 < rankV p0) = false := decide_eq_false hrk
                          go_wp2_with fail
                          refine wp_region_quiet_below (by kernel_rfl) (by kernel_rfl) ?_
                          repeat (first | go_big_quiet_step ((first | (go_at_call 53; with_reducible exact Calls.regrown_of (HCQ.out _)) | (go_at_call 53; with_reducible exact Calls.regrown_of (HCP.out _)) | (go_at_call 24; exact Calls.regrown_of (rRank_belowL _ _)))) | quiet_step ((first | (go_at_call 53; with_reducible exact Calls.regrown_of (HCQ.out _)) | (go_at_call 53; with_reducible exact Calls.regrown_of (HCP.out _)) | (go_at_call 24; exact Calls.regrown_of (rRank_belowL _ _)))))
                          refine wpQuiet_nil ?_
                          intro _ hw'
                          obtain ⟨⟨dqV, osV⟩, hw2⟩ := hw'
                          subst hw2
                          have HQV := hid (below_regrown wr dqV osV)
                          generalize Sort.grow (redrawn wr dqV) osV = V at HQV ⊢
                          have hsV := HQV.out.size
                          have HB5 := hid (HB4.out.trans (HQV.out.mono hz4))
                          clear c6 a0 b0 a1 b1 a2 b2 a3 b3 a4 b4 a5 b5 a6 b6 a7 b7 a8 b8 heq2
                          go_wp2_with fail
                          exact ⟨⟨j + 1, by omega, by go_num, by rw [HCN.out, ← HM.out, if_neg (fun e => by simp [HLB.out] at e; omega)]; simp, HB5.out⟩, by simp [intOf]; omega⟩
                  · obtain rfl : j = k := by omega
                    have d5 : decide ((j : Int) < (j : Int)) = false := by simp
                    have hkS := HN.out
                    have HTK := hid (show takes S c l p = (decide (l = 12) || decide (m < c)) by
                      rw [HM.out, hkS, List.take_length]
                      rfl)
                    clear hkS
                    by_cases hmc : m < c
                    · have d6 : decide ((m : Int) < (c : Int)) = true := decide_eq_true (by omega)
                      have HSEL := hid (show sel S c l p = true by unfold sel; rw [HTK.out, HH.out]; simp [hmc])
                      go_upto_region 23 with fail
                      have HW5 := hid (show Below W4.heap.size W4 (wr.alloc (.cells #[.int .i64 (i : Int)] 3)) from HB4.out.alloc HB4.out.size _)
                      have HNW5 := hid (OwnR.grow' HNOW.out HW5.out)
                      have HOW5 := hid (OwnR.grow' HOI.out HW5.out)
                      have HRW5 := hid (show RowsAt (wr.alloc (.cells #[.int .i64 (i : Int)] 3)) wr.heap.size 0 1 [iRow (i : Int)] from RowsAt.one (heap_alloc_at _ _ _ rfl))
                      have HL5 := hid (show (((nowL S c l i).map Int.ofNat).map iRow).length + 1 ≤ maxLen by rw [List.length_map, List.length_map, ← HNN.out]; unfold maxLen; omega)
                      have HL6 := hid (show ((((nowL S c l i).map Int.ofNat).map iRow).length + 1) * 8 ≤ 140737488355328 by rw [List.length_map, List.length_map, ← HNN.out]; omega)
                      have HS5 := hid (show w.heap.size ≤ (wr.alloc (.cells #[.int .i64 (i : Int)] 3)).heap.size by simp; omega)
                      go_wp2_with (first
                        | (at_builtin
                           refine wpList_append_rows rfl (.tmp 90) (.tmp 92) 30 rfl w.heap.size 3 i0 _ 1 8 Try.underlying30 HI.out HZ0.out HZ1.out HZ2.out rfl (by decide) (.slice na nn ncap) _ [iRow (i : Int)] rfl HNW5.out wr.heap.size 0 1 1 rfl rfl HRW5.out (Wide.one rfl (iRow_one _)) HL5.out HL6.out HS5.out ?_
                           intro v6 W6 hown6 hg6 halt6
                           have HO6 := hid hown6
                           have HG6 := hid hg6
                           have HA6 := hid halt6
                           clear hown6 hg6 halt6))
                      exact ⟨⟨i + 1, by omega, by go_num, OwnR.turned HOW5.out (turned_grown HG6.out) (fun b hb e => HAP.out b e.symm (by injection hb with hb; exact hb.symm)), (by
                        rw [nowL_yes HP.out HSEL.out, List.map_append]
                        unfold OwnI
                        rw [List.map_append]
                        exact HO6.out), (fun b hb e => by
                        rcases HA6.out with h | h
                        · rw [h] at hb
                          exact HAP.out b hb e
                        · rw [h] at hb
                          injection hb with hb
                          simp at hb
                          have := (OwnI.cells HOI.out).2.1
                          omega), (HBI.out.trans (HW5.out.mono hzi)).grown HG6.out HS5.out (fun q hq => OwnR.ownBlock HNW5.out q hq)⟩, by simp [intOf]; omega⟩
                    · have d6 : decide ((m : Int) < (c : Int)) = false := decide_eq_false (by omega)
                      by_cases hl2 : l = 12
                      · have d7 : ((l : Int) == 12) = true := by simp; omega
                        have HSEL := hid (show sel S c l p = true by unfold sel; rw [HTK.out, HH.out]; simp [hl2])
                        clear hl2
                        go_upto_region 23 with fail
                        have HW5 := hid (show Below W4.heap.size W4 (wr.alloc (.cells #[.int .i64 (i : Int)] 3)) from HB4.out.alloc HB4.out.size _)
                        have HNW5 := hid (OwnR.grow' HNOW.out HW5.out)
                        have HOW5 := hid (OwnR.grow' HOI.out HW5.out)
                        have HRW5 := hid (show RowsAt (wr.alloc (.cells #[.int .i64 (i : Int)] 3)) wr.heap.size 0 1 [iRow (i : Int)] from RowsAt.one (heap_alloc_at _ _ _ rfl))
                        have HL5 := hid (show (((nowL S c l i).map Int.ofNat).map iRow).length + 1 ≤ maxLen by rw [List.length_map, List.length_map, ← HNN.out]; unfold maxLen; omega)
                        have HL6 := hid (show ((((nowL S c l i).map Int.ofNat).map iRow).length + 1) * 8 ≤ 140737488355328 by rw [List.length_map, List.length_map, ← HNN.out]; omega)
                        have HS5 := hid (show w.heap.size ≤ (wr.alloc (.cells #[.int .i64 (i : Int)] 3)).heap.size by simp; omega)
                        go_wp2_with (first
                          | (at_builtin
                             refine wpList_append_rows rfl (.tmp 90) (.tmp 92) 30 rfl w.heap.size 3 i0 _ 1 8 Try.underlying30 HI.out HZ0.out HZ1.out HZ2.out rfl (by decide) (.slice na nn ncap) _ [iRow (i : Int)] rfl HNW5.out wr.heap.size 0 1 1 rfl rfl HRW5.out (Wide.one rfl (iRow_one _)) HL5.out HL6.out HS5.out ?_
                             intro v6 W6 hown6 hg6 halt6
                             have HO6 := hid hown6
                             have HG6 := hid hg6
                             have HA6 := hid halt6
                             clear hown6 hg6 halt6))
                        exact ⟨⟨i + 1, by omega, by go_num, OwnR.turned HOW5.out (turned_grown HG6.out) (fun b hb e => HAP.out b e.symm (by injection hb with hb; exact hb.symm)), (by
                          rw [nowL_yes HP.out HSEL.out, List.map_append]
                          unfold OwnI
                          rw [List.map_append]
                          exact HO6.out), (fun b hb e => by
                          rcases HA6.out with h | h
                          · rw [h] at hb
                            exact HAP.out b hb e
                          · rw [h] at hb
                            injection hb with hb
                            simp at hb
                            have := (OwnI.cells HOI.out).2.1
                            omega), (HBI.out.trans (HW5.out.mono hzi)).grown HG6.out HS5.out (fun q hq => OwnR.ownBlock HNW5.out q hq)⟩, by simp [intOf]; omega⟩
                      · have d7 : ((l : Int) == 12) = false := by simp; omega
                        have HSEL := hid (show sel S c l p = false by unfold sel; rw [HTK.out, HH.out]; simp [hmc, hl2])
                        go_wp2_with fail
                        exact ⟨⟨i + 1, by omega, by go_num, OwnR.grow' HOI.out HB4.out, by rw [nowL_no HP.out HSEL.out]; exact OwnR.grow' HNOW.out HB4.out, HAP.out, HBI.out.trans (HB4.out.mono hzi)⟩, by simp [intOf]; omega⟩
            · obtain rfl : i = k := by omega
              have d3 : decide ((i : Int) < (i : Int)) = false := by simp
              go_wp2_with fail
              have HNS := hid (show nowL S c l i = nowL S c l S.length by rw [← HN.out])
              go_loopw [97] (fun tv W => MarkRel w S c l nn (.slice (some ⟨w.heap.size, 0, none⟩) i i) (.slice na nn ncap) tv W) (fun tv _ => nn - (intOf tv).toNat)
              case atStart => exact ⟨0, _, by omega, rfl, LvAt.start rfl, HOI.out, HNS.out ▸ HNOW.out, HBI.out⟩
              case round =>
                obtain ⟨s, zs, hs, rfl, hlv, hown, hnow, hB⟩ := hrel
                have HLV := hid hlv
                have HOM := hid hown
                have HNM := hid hnow
                have HBM := hid hB
                clear hlv hown hnow hB
                by_cases hlt3 : s < nn
                · have d4 : decide ((s : Int) < (nn : Int)) = true := decide_eq_true (by omega)
                  obtain ⟨j, hj⟩ : ∃ j, (nowL S c l S.length)[s]? = some j := ⟨_, List.getElem?_eq_getElem (by rw [← HNS.out, ← HNN.out]; exact hlt3)⟩
                  have HJ := hid hj
                  have hjn : j < i := by
                    have := List.mem_of_getElem? hj
                    simp [nowL] at this
                    have hq := HN.out
                    omega
                  obtain ⟨nb, ncap', ncur, hns, hnB, hnc, hnr, _⟩ := OwnR.rows HNM.out (by rw [List.length_map, List.length_map, ← HNS.out, ← HNN.out]; omega)
                  obtain ⟨rfl, rfl⟩ : na = some ⟨nb, 0, none⟩ ∧ ncap = ncap' := by injection hns with e1 e2 e3; exact ⟨e1, e3⟩
                  have c7 : wr.cell? ⟨nb, s, none⟩ = some (.int .i64 (j : Int)) := by
                    have := hnr s (iRow (j : Int)) (by rw [List.getElem?_map, List.getElem?_map, hj]; rfl) 0 (by decide)
                    rw [Nat.mul_one, Nat.zero_add, Nat.add_zero] at this
                    exact this
                  obtain ⟨z1, C, z2, hC, hle, z3, hCs, z4⟩ := own_parts HOM.out
                  have HC := hid hC
                  have hCn : C.size = i := by rw [hCs, Nat.mul_one]
                  clear z1 z2 z3 z4 hC hle hCs hns hnB hnc hnr hj
                  go_wp2_with (first
                    | (refine pt_store1 rfl 3 (.tmp 104) (.tmp 103) rfl w.heap.size j _ rfl rfl rfl rfl HC.out size3 (by omega) ?_))
                  exact ⟨⟨s + 1, _, by omega, by go_num, HLV.out.step HJ.out, OwnI.set HOM.out HC.out (by rw [HLV.out.1, ← HN.out]; exact hjn), OwnR.turned HNM.out (turned_row _ _ _) (fun b hb e => HAP.out b hb e), below_row HBM.out (Nat.le_refl _)⟩, by simp [intOf]; omega⟩
                · obtain rfl : s = nn := by omega
                  have d4 : decide ((s : Int) < (s : Int)) = false := by simp
                  go_wp2_with fail
                  exact ⟨⟨l + 1, by omega, by go_num, HLV.out.done (by rw [← HNS.out, ← HNN.out]; exact Nat.le_refl _) ▸ HOM.out, HBM.out⟩, by simp [intOf]; omega⟩
        · obtain rfl : l = 13 := by omega
          go_wp2_with fail
          go_ret
          exact ⟨⟨_, rfl, HLW.out⟩, HBL.out⟩
end Go.Proofs.Yteanlcefdoigcaa
namespace Go.Proofs.Yteanlcefdoigcaa
open Go.RowKit Go.Sort

theorem ptL_cell {C : Array Value} {o j : Nat} {r : List Value} {u : Value} (hC : ∀ i, i < r.length → C[o + i]? = r[i]?) (hj : j < r.length) : ptL C (o + j) [u] = ptL C o (r.set j u) := by
  have hsz : o + r.length ≤ C.size := by
    have h := hC (r.length - 1) (by omega)
    rw [List.getElem?_eq_getElem (by omega)] at h
    have := (Array.getElem?_eq_some_iff.1 h).1
    omega
  refine Array.ext_getElem? fun x => ?_
  by_cases hx : o ≤ x ∧ x < o + r.length
  · obtain ⟨i, rfl⟩ : ∃ i, x = o + i := ⟨x - o, by omega⟩
    rw [ptL_in (r.set j u) C o i (by rw [List.length_set]; exact hsz) (by rw [List.length_set]; omega)]
    by_cases hij : i = j
    · subst hij
      have h := ptL_in [u] C (o + i) 0 (by simp; omega) (by simp)
      rw [Nat.add_zero] at h
      rw [h, List.getElem?_set_self hj]
      rfl
    · rw [ptL_out [u] C (o + j) (o + i) (by simp; omega), List.getElem?_set_ne (Ne.symm hij)]
      exact hC i (by omega)
  · rw [ptL_out [u] C (o + j) x (by simp; omega), ptL_out (r.set j u) C o x (by rw [List.length_set]; omega)]
theorem own_row {W : World} {base t sz g n cap i : Nat} {l : List (List Value)} {cur : Array Value} {r : List Value} (h : OwnR W base t sz (.slice (some ⟨g, 0, none⟩) n cap) l) (hc : W.heap[g]? = some (.cells cur t)) (hi : l[i]? = some r) :
    ∀ j, j < sz → cur[i * sz + j]? = r[j]? := fun j hj => by
  obtain ⟨hn, cur', hB, hc', hle, hm, hcs, htk⟩ := own_parts h
  rw [hc] at hc'
  injection hc' with hc'
  injection hc' with hc' _
  subst hc'
  have hil : i < l.length := (List.getElem?_eq_some_iff.1 hi).1
  have hk : i * sz + j < l.length * sz := by
    have : (i + 1) * sz ≤ l.length * sz := Nat.mul_le_mul_right sz hil
    rw [Nat.add_mul] at this
    omega
  rw [← h.1.at hi j hj, ← htk, List.getElem?_take_of_lt hk, Array.getElem?_toList]
theorem own_cell {W : World} {base t sz g n cap i j : Nat} {l : List (List Value)} {cur : Array Value} {r : List Value} {u : Value} (h : OwnR W base t sz (.slice (some ⟨g, 0, none⟩) n cap) l) (hc : W.heap[g]? = some (.cells cur t)) (hi : l[i]? = some r) (hj : j < sz) (hu : u.oneCell' = true) :
    OwnR (W.setRow g (ptL cur (i * sz + j) [u])) base t sz (.slice (some ⟨g, 0, none⟩) n cap) (l.set i (r.set j u)) := by
  have hil : i < l.length := (List.getElem?_eq_some_iff.1 hi).1
  obtain ⟨hrl, hr1⟩ := h.1 r (List.mem_of_getElem? hi)
  rw [ptL_cell (r := r) (fun k hk => own_row h hc hi k (by omega)) (by omega)]
  refine own_set h hc hil (by rw [List.length_set]; exact hrl) (fun v hv => ?_)
  rcases List.mem_or_eq_of_mem_set hv with g | g
  · exact hr1 v g
  · subst g; exact hu
/-- a tile's slice turned -/
theorem tiles_set {W W' : World} {base g n cap i : Nat} {E : List Te} {e : Te} {cur : Array Value} {v : Value} {pts : List Pt} (h : TilesIn W base (.slice (some ⟨g, 0, none⟩) n cap) E) (hb : Below W.heap.size W W') (hi : E[i]? = some e) (hc : W'.heap[g]? = some (.cells cur 49)) (hv : OwnP W' base v pts) :
    TilesIn (W'.setRow g (ptL cur (i * 5 + 4) [v])) base (.slice (some ⟨g, 0, none⟩) n cap) (E.set i ⟨e.key, v, pts⟩) := by
  have hv1 : v.oneCell' = true := by
    obtain ⟨a, c, rfl⟩ := hv.slice
    rfl
  have h1 := OwnR.grow' h.1 hb
  have h2 := own_cell h1 hc (i := i) (j := 4) (r := e.row) (u := v) (by rw [List.getElem?_map, hi]; rfl) (by decide) hv1
  have er : e.row.set 4 v = Te.row ⟨e.key, v, pts⟩ := rfl
  rw [er, ← List.map_set] at h2
  have ht := turned_row W' g (ptL cur (i * 5 + 4) [v])
  have hne : ∀ (u : Value) (l : List Pt), OwnP W' base u l → ∀ b, u.ownBlock = some b → ¬ b = g := fun u l hu b hb2 e => by
    subst e
    obtain ⟨c1, q1⟩ := OwnR.typed hu hb2
    rw [hc] at q1
    injection q1 with q1
    injection q1 with _ q1
    exact absurd q1 (by decide)
  refine ⟨h2, fun f hf => ?_⟩
  rcases List.mem_or_eq_of_mem_set hf with q | q
  · exact OwnR.turned (OwnR.grow' (h.2 f q) hb) ht (hne _ _ (OwnR.grow' (h.2 f q) hb))
  · subst q
    exact OwnR.turned hv ht (hne _ _ hv)
theorem TilesIn.grow {W W' : World} {base : Nat} {v : Value} {E : List Te} (h : TilesIn W base v E) (hb : Below W.heap.size W W') : TilesIn W' base v E := ⟨OwnR.grow' h.1 hb, fun e he => OwnR.grow' (h.2 e he) hb⟩
theorem TilesIn.slice {W : World} {base : Nat} {v : Value} {E : List Te} (h : TilesIn W base v E) : ∃ a cap, v = .slice a E.length cap := by
  have := OwnR.slice h.1
  rwa [List.length_map] at this
/-- at a drawn region's tail -/
theorem seq_step {P : Program} {ops : Array Oper} {Q : Exit → Act → World → Prop} {l rest : List Oper} {o : Oper} {a : Act} {w : World} (hl : l = o :: rest)
    (h : ∀ K : Act → World → Prop, (∀ v A' W', A' = a.put o.dst v → SeqS P ops Q rest A' W' → K A' W') → wpList P ops (Exit.then K Q) [o] a w) : SeqS P ops Q l a w := by
  subst hl
  exact h
theorem seq_end {P : Program} {ops : Array Oper} {Q : Exit → Act → World → Prop} {l : List Oper} {a : Act} {w : World} (hl : l = []) (h : Q .normal a w) : SeqS P ops Q l a w := by
  subst hl
  exact h
/-- a pointer to a new key -/
def FreshK (B : Nat) (W : World) (v : Value) : Prop := ∃ g, v = .pointer (some ⟨g, 0, none⟩) ∧ B ≤ g ∧ W.heap[g]? = some (.cells #[.int .i64 0, .int .i64 0, .int .i64 0, .int .i64 0] 39)
theorem FreshK.stb (B : Nat) : Stb (FreshK B) := fun _ _ _ hB ⟨g, h1, h2, h3⟩ => ⟨g, h1, h2, heap_still hB h3⟩
theorem flat39t : flatOf Try.prog 10 39 = some [some .i64, some .i64, some .i64, some .i64] := by kernel_rfl
theorem sameT_four (a b c d e f g h : Int) : sameL [.int .i64 a, .int .i64 b, .int .i64 c, .int .i64 d] [.int .i64 e, .int .i64 f, .int .i64 g, .int .i64 h] = (decide (a = e) && (decide (b = f) && (decide (c = g) && decide (d = h)))) := by
  simp only [sameL, sameV, Bool.and_true]
  congr 1
set_option maxRecDepth 100000 in
theorem eqKeys (a b : Ky) (r : Bool) (hr : r = decide (a = b)) (W : World) : (Op.equalIn 10000 39 (.agg #[.int .i64 a.L, .int .i64 a.x, .int .i64 a.y, .int .i64 a.z]) (.agg #[.int .i64 b.L, .int .i64 b.x, .int .i64 b.y, .int .i64 b.z])).run Try.prog W = .ok r W := by
  have h := equal_struct Try.underlying39 (flat39t) [.int .i64 a.L, .int .i64 a.x, .int .i64 a.y, .int .i64 a.z] [.int .i64 b.L, .int .i64 b.x, .int .i64 b.y, .int .i64 b.z] rfl rfl W
  refine h.trans ?_
  rw [sameT_four, hr]
  congr 1
  rw [Bool.eq_iff_iff]
  simp only [Bool.and_eq_true, decide_eq_true_eq]
  constructor
  · rintro ⟨h0, h1, h2, h3⟩
    exact Ky.ext' h0 h1 h2 h3
  · intro h
    subst h
    exact ⟨rfl, rfl, rfl, rfl⟩
end Go.Proofs.Yteanlcefdoigcaa
namespace Go.Proofs.Yteanlcefdoigcaa
open Go.RowKit Go.Sort

instance (a b : Ky) : Decidable (a.lt b) := by unfold Ky.lt; infer_instance
theorem size136 : (Try.prog.info? 136).map (·.size) = some 4 := by kernel_rfl
set_option maxRecDepth 100000 in
set_option maxHeartbeats 1600000 in
theorem before_any (a b : Ky) (w : World) : Calls Try.prog 57 #[.agg a.row.toArray, .agg b.row.toArray] w fun r w' => r = .returned (.bool (decide (a.lt b))) ∧ Below w.heap.size w w' := by
  obtain ⟨aL, ax, ay, az⟩ := a
  obtain ⟨bL, bx, b_y, bz⟩ := b
  have HV := hid (show Ky.lt ⟨aL, ax, ay, az⟩ ⟨bL, bx, b_y, bz⟩ ↔ (aL < bL ∨ (aL = bL ∧ (ax < bx ∨ (ax = bx ∧ (ay < b_y ∨ (ay = b_y ∧ az < bz)))))) from Iff.rfl)
  simp only [Ky.row]
  generalize hr : decide (Ky.lt ⟨aL, ax, ay, az⟩ ⟨bL, bx, b_y, bz⟩) = r
  have HR := hid hr
  clear hr
  go_enter Try.func57, Try.ntmps57
  go_upto_region 1 with fail
  refine gen_world (fun W0 hW => ?_)
  have HB0 := hid (show Below w.heap.size w W0 by rw [hW]; (repeat' (first | (with_reducible exact Below.refl _ _) | (with_reducible assumption) | (with_reducible refine Below.alloc ?_ ?_ _) | (with_reducible refine Below.drew ?_) | (with_reducible refine below_drewN ?_ _) | (with_reducible refine Below.setCell ?_ ?_ _) | (with_reducible refine below_setRow ?_ ?_ _) | go_size)))
  have AK := hid (show W0.heap[w.heap.size]? = some (.cells #[.int .i64 aL, .int .i64 ax, .int .i64 ay, .int .i64 az] 39) by rw [hW]; exact (by repeat' (first | (refine heap_alloc_at _ _ _ ?_; (first | rfl | (simp; done) | (simp; omega))) | (refine heap_alloc_past _ _ _ _ ?_))))
  have BK := hid (show W0.heap[w.heap.size + 1]? = some (.cells #[.int .i64 bL, .int .i64 bx, .int .i64 b_y, .int .i64 bz] 39) by rw [hW]; exact (by repeat' (first | (refine heap_alloc_at _ _ _ ?_; (first | rfl | (simp; done) | (simp; omega))) | (refine heap_alloc_past _ _ _ _ ?_))))
  clear hW
  refine gen_act (fun A0 hA => ?_)
  refine wp_region_by (by kernel_rfl) (by kernel_rfl) [some 8, some 9, some 10, some 11, some 12, some 13, some 14, some 15, some 16, some 17, some 18, some 19, some 20, some 21, some 22, some 23, some 24, some 25, some 5, some 6, none, none] rfl (by decide) (BoxR W0 18 2 (fun j => [.pointer (some ⟨w.heap.size, 0, none⟩), .int .i64 aL, .pointer (some ⟨w.heap.size, 1, none⟩), .int .i64 ax, .pointer (some ⟨w.heap.size, 2, none⟩), .int .i64 ay, .pointer (some ⟨w.heap.size, 3, none⟩), .int .i64 az, .agg #[.int .i64 aL, .int .i64 ax, .int .i64 ay, .int .i64 az], .pointer (some ⟨w.heap.size + 1, 0, none⟩), .int .i64 bL, .pointer (some ⟨w.heap.size + 1, 1, none⟩), .int .i64 bx, .pointer (some ⟨w.heap.size + 1, 2, none⟩), .int .i64 b_y, .pointer (some ⟨w.heap.size + 1, 3, none⟩), .int .i64 bz, .agg #[.int .i64 bL, .int .i64 bx, .int .i64 b_y, .int .i64 bz]].getD j undef) (fun i => [#[.int .i64 0, .int .i64 0, .int .i64 0, .int .i64 0], #[.int .i64 0, .int .i64 0, .int .i64 0, .int .i64 0]].getD i #[]) (fun i => [#[.int .i64 aL, .int .i64 ax, .int .i64 ay, .int .i64 az], #[.int .i64 bL, .int .i64 bx, .int .i64 b_y, .int .i64 bz]].getD i #[]) (fun i => ([136, 136] : List Nat).getD i 0)) (selfF A0 _) (putF_self A0 _) BoxR.start ?hs1_1_W1 ?hend_1_W1
  case hs1_1_W1 =>
    refine ⟨?_, ?_, ?_, ?_, ?_, ?_, ?_, ?_, ?_, ?_, ?_, ?_, ?_, ?_, ?_, ?_, ?_, ?_, ?_, ?_, ?_, ?_, trivial⟩
    · intro K L us W hK0 hL hd hR
      have hK := hid (fun v A' W' h1 h2 h3 => hK0 v A' W' h1 (hR.pure (k := 0) (by decide) h2 h3)); clear hK0
      (try simp [Region.binds] at hd)
      have hB := hR.grow
      have GB := hid hB
      clear hd hR hB
      simp only [putF]
      rw [hA]
      go_frame
      go_wp2_with fail
      exact hK.out _ _ _ (by rw [hA]; simp only [putF]; kernel_rfl) (Below.refl _ _) rfl
    · intro K L us W hK0 hL hd hR
      have hK := hid (fun v A' W' h1 h2 h3 => hK0 v A' W' h1 (hR.pure (k := 1) (by decide) h2 h3)); clear hK0
      (try simp [Region.binds] at hd)
      have hB := hR.grow
      have GB := hid hB
      have e0 : us 0 = .pointer (some ⟨w.heap.size, 0, none⟩) := hR.vals 0 (by decide) (by first | exact hd | exact hd.1 | exact hd.2.1 | simp_all)
      have G0 := hid (heap_still hB AK.out)
      have c0 : W.cell? ⟨w.heap.size, 0, none⟩ = some (.int .i64 aL) := (cell_row (j := 0) G0.out).trans rfl
      clear hd hR hB
      simp only [putF]
      rw [hA, e0]
      go_frame
      go_wp2_with fail
      exact hK.out _ _ _ (by rw [hA]; simp only [putF]; rw [e0]; kernel_rfl) (Below.refl _ _) rfl
    · intro K L us W hK0 hL hd hR
      have hK := hid (fun v A' W' h1 h2 h3 => hK0 v A' W' h1 (hR.pure (k := 2) (by decide) h2 h3)); clear hK0
      (try simp [Region.binds] at hd)
      have hB := hR.grow
      have GB := hid hB
      clear hd hR hB
      simp only [putF]
      rw [hA]
      go_frame
      go_wp2_with fail
      exact hK.out _ _ _ (by rw [hA]; simp only [putF]; kernel_rfl) (Below.refl _ _) rfl
    · intro K L us W hK0 hL hd hR
      have hK := hid (fun v A' W' h1 h2 h3 => hK0 v A' W' h1 (hR.pure (k := 3) (by decide) h2 h3)); clear hK0
      (try simp [Region.binds] at hd)
      have hB := hR.grow
      have GB := hid hB
      have e2 : us 2 = .pointer (some ⟨w.heap.size, 1, none⟩) := hR.vals 2 (by decide) (by first | exact hd | exact hd.1 | exact hd.2.1 | simp_all)
      have G0 := hid (heap_still hB AK.out)
      have c0 : W.cell? ⟨w.heap.size, 1, none⟩ = some (.int .i64 ax) := (cell_row (j := 1) G0.out).trans rfl
      clear hd hR hB
      simp only [putF]
      rw [hA, e2]
      go_frame
      go_wp2_with fail
      exact hK.out _ _ _ (by rw [hA]; simp only [putF]; rw [e2]; kernel_rfl) (Below.refl _ _) rfl
    · intro K L us W hK0 hL hd hR
      have hK := hid (fun v A' W' h1 h2 h3 => hK0 v A' W' h1 (hR.pure (k := 4) (by decide) h2 h3)); clear hK0
      (try simp [Region.binds] at hd)
      have hB := hR.grow
      have GB := hid hB
      clear hd hR hB
      simp only [putF]
      rw [hA]
      go_frame
      go_wp2_with fail
      exact hK.out _ _ _ (by rw [hA]; simp only [putF]; kernel_rfl) (Below.refl _ _) rfl
    · intro K L us W hK0 hL hd hR
      have hK := hid (fun v A' W' h1 h2 h3 => hK0 v A' W' h1 (hR.pure (k := 5) (by decide) h2 h3)); clear hK0
      (try simp [Region.binds] at hd)
      have hB := hR.grow
      have GB := hid hB
      have e4 : us 4 = .pointer (some ⟨w.heap.size, 2, none⟩) := hR.vals 4 (by decide) (by first | exact hd | exact hd.1 | exact hd.2.1 | simp_all)
      have G0 := hid (heap_still hB AK.out)
      have c0 : W.cell? ⟨w.heap.size, 2, none⟩ = some (.int .i64 ay) := (cell_row (j := 2) G0.out).trans rfl
      clear hd hR hB
      simp only [putF]
      rw [hA, e4]
      go_frame
      go_wp2_with fail
      exact hK.out _ _ _ (by rw [hA]; simp only [putF]; rw [e4]; kernel_rfl) (Below.refl _ _) rfl
    · intro K L us W hK0 hL hd hR
      have hK := hid (fun v A' W' h1 h2 h3 => hK0 v A' W' h1 (hR.pure (k := 6) (by decide) h2 h3)); clear hK0
      (try simp [Region.binds] at hd)
      have hB := hR.grow
      have GB := hid hB
      clear hd hR hB
      simp only [putF]
      rw [hA]
      go_frame
      go_wp2_with fail
      exact hK.out _ _ _ (by rw [hA]; simp only [putF]; kernel_rfl) (Below.refl _ _) rfl
    · intro K L us W hK0 hL hd hR
      have hK := hid (fun v A' W' h1 h2 h3 => hK0 v A' W' h1 (hR.pure (k := 7) (by decide) h2 h3)); clear hK0
      (try simp [Region.binds] at hd)
      have hB := hR.grow
      have GB := hid hB
      have e6 : us 6 = .pointer (some ⟨w.heap.size, 3, none⟩) := hR.vals 6 (by decide) (by first | exact hd | exact hd.1 | exact hd.2.1 | simp_all)
      have G0 := hid (heap_still hB AK.out)
      have c0 : W.cell? ⟨w.heap.size, 3, none⟩ = some (.int .i64 az) := (cell_row (j := 3) G0.out).trans rfl
      clear hd hR hB
      simp only [putF]
      rw [hA, e6]
      go_frame
      go_wp2_with fail
      exact hK.out _ _ _ (by rw [hA]; simp only [putF]; rw [e6]; kernel_rfl) (Below.refl _ _) rfl
    · intro K L us W hK0 hL hd hR
      have hK := hid (fun v A' W' h1 h2 h3 => hK0 v A' W' h1 (hR.pure (k := 8) (by decide) h2 h3)); clear hK0
      (try simp [Region.binds] at hd)
      have hB := hR.grow
      have GB := hid hB
      have e1 : us 1 = .int .i64 aL := hR.vals 1 (by decide) (by first | exact hd | exact hd.1 | exact hd.2.1 | simp_all)
      have e3 : us 3 = .int .i64 ax := hR.vals 3 (by decide) (by first | exact hd | exact hd.1 | exact hd.2.1 | simp_all)
      have e5 : us 5 = .int .i64 ay := hR.vals 5 (by decide) (by first | exact hd | exact hd.1 | exact hd.2.1 | simp_all)
      have e7 : us 7 = .int .i64 az := hR.vals 7 (by decide) (by first | exact hd | exact hd.1 | exact hd.2.1 | simp_all)
      clear hd hR hB
      simp only [putF]
      rw [hA, e1, e3, e5, e7]
      go_frame
      go_wp2_with fail
      exact hK.out _ _ _ (by rw [hA]; simp only [putF]; rw [e1, e3, e5, e7]; kernel_rfl) (Below.refl _ _) rfl
    · intro K L us W hK0 hL hd hR
      have hK := hid (fun v A' W' h1 h2 h3 => hK0 v A' W' h1 (hR.pure (k := 9) (by decide) h2 h3)); clear hK0
      (try simp [Region.binds] at hd)
      have hB := hR.grow
      have GB := hid hB
      clear hd hR hB
      simp only [putF]
      rw [hA]
      go_frame
      go_wp2_with fail
      exact hK.out _ _ _ (by rw [hA]; simp only [putF]; kernel_rfl) (Below.refl _ _) rfl
    · intro K L us W hK0 hL hd hR
      have hK := hid (fun v A' W' h1 h2 h3 => hK0 v A' W' h1 (hR.pure (k := 10) (by decide) h2 h3)); clear hK0
      (try simp [Region.binds] at hd)
      have hB := hR.grow
      have GB := hid hB
      have e9 : us 9 = .pointer (some ⟨w.heap.size + 1, 0, none⟩) := hR.vals 9 (by decide) (by first | exact hd | exact hd.1 | exact hd.2.1 | simp_all)
      have G0 := hid (heap_still hB BK.out)
      have c0 : W.cell? ⟨w.heap.size + 1, 0, none⟩ = some (.int .i64 bL) := (cell_row (j := 0) G0.out).trans rfl
      clear hd hR hB
      simp only [putF]
      rw [hA, e9]
      go_frame
      go_wp2_with fail
      exact hK.out _ _ _ (by rw [hA]; simp only [putF]; rw [e9]; kernel_rfl) (Below.refl _ _) rfl
    · intro K L us W hK0 hL hd hR
      have hK := hid (fun v A' W' h1 h2 h3 => hK0 v A' W' h1 (hR.pure (k := 11) (by decide) h2 h3)); clear hK0
      (try simp [Region.binds] at hd)
      have hB := hR.grow
      have GB := hid hB
      clear hd hR hB
      simp only [putF]
      rw [hA]
      go_frame
      go_wp2_with fail
      exact hK.out _ _ _ (by rw [hA]; simp only [putF]; kernel_rfl) (Below.refl _ _) rfl
    · intro K L us W hK0 hL hd hR
      have hK := hid (fun v A' W' h1 h2 h3 => hK0 v A' W' h1 (hR.pure (k := 12) (by decide) h2 h3)); clear hK0
      (try simp [Region.binds] at hd)
      have hB := hR.grow
      have GB := hid hB
      have e11 : us 11 = .pointer (some ⟨w.heap.size + 1, 1, none⟩) := hR.vals 11 (by decide) (by first | exact hd | exact hd.1 | exact hd.2.1 | simp_all)
      have G0 := hid (heap_still hB BK.out)
      have c0 : W.cell? ⟨w.heap.size + 1, 1, none⟩ = some (.int .i64 bx) := (cell_row (j := 1) G0.out).trans rfl
      clear hd hR hB
      simp only [putF]
      rw [hA, e11]
      go_frame
      go_wp2_with fail
      exact hK.out _ _ _ (by rw [hA]; simp only [putF]; rw [e11]; kernel_rfl) (Below.refl _ _) rfl
    · intro K L us W hK0 hL hd hR
      have hK := hid (fun v A' W' h1 h2 h3 => hK0 v A' W' h1 (hR.pure (k := 13) (by decide) h2 h3)); clear hK0
      (try simp [Region.binds] at hd)
      have hB := hR.grow
      have GB := hid hB
      clear hd hR hB
      simp only [putF]
      rw [hA]
      go_frame
      go_wp2_with fail
      exact hK.out _ _ _ (by rw [hA]; simp only [putF]; kernel_rfl) (Below.refl _ _) rfl
    · intro K L us W hK0 hL hd hR
      have hK := hid (fun v A' W' h1 h2 h3 => hK0 v A' W' h1 (hR.pure (k := 14) (by decide) h2 h3)); clear hK0
      (try simp [Region.binds] at hd)
      have hB := hR.grow
      have GB := hid hB
      have e13 : us 13 = .pointer (some ⟨w.heap.size + 1, 2, none⟩) := hR.vals 13 (by decide) (by first | exact hd | exact hd.1 | exact hd.2.1 | simp_all)
      have G0 := hid (heap_still hB BK.out)
      have c0 : W.cell? ⟨w.heap.size + 1, 2, none⟩ = some (.int .i64 b_y) := (cell_row (j := 2) G0.out).trans rfl
      clear hd hR hB
      simp only [putF]
      rw [hA, e13]
      go_frame
      go_wp2_with fail
      exact hK.out _ _ _ (by rw [hA]; simp only [putF]; rw [e13]; kernel_rfl) (Below.refl _ _) rfl
    · intro K L us W hK0 hL hd hR
      have hK := hid (fun v A' W' h1 h2 h3 => hK0 v A' W' h1 (hR.pure (k := 15) (by decide) h2 h3)); clear hK0
      (try simp [Region.binds] at hd)
      have hB := hR.grow
      have GB := hid hB
      clear hd hR hB
      simp only [putF]
      rw [hA]
      go_frame
      go_wp2_with fail
      exact hK.out _ _ _ (by rw [hA]; simp only [putF]; kernel_rfl) (Below.refl _ _) rfl
    · intro K L us W hK0 hL hd hR
      have hK := hid (fun v A' W' h1 h2 h3 => hK0 v A' W' h1 (hR.pure (k := 16) (by decide) h2 h3)); clear hK0
      (try simp [Region.binds] at hd)
      have hB := hR.grow
      have GB := hid hB
      have e15 : us 15 = .pointer (some ⟨w.heap.size + 1, 3, none⟩) := hR.vals 15 (by decide) (by first | exact hd | exact hd.1 | exact hd.2.1 | simp_all)
      have G0 := hid (heap_still hB BK.out)
      have c0 : W.cell? ⟨w.heap.size + 1, 3, none⟩ = some (.int .i64 bz) := (cell_row (j := 3) G0.out).trans rfl
      clear hd hR hB
      simp only [putF]
      rw [hA, e15]
      go_frame
      go_wp2_with fail
      exact hK.out _ _ _ (by rw [hA]; simp only [putF]; rw [e15]; kernel_rfl) (Below.refl _ _) rfl
    · intro K L us W hK0 hL hd hR
      have hK := hid (fun v A' W' h1 h2 h3 => hK0 v A' W' h1 (hR.pure (k := 17) (by decide) h2 h3)); clear hK0
      (try simp [Region.binds] at hd)
      have hB := hR.grow
      have GB := hid hB
      have e10 : us 10 = .int .i64 bL := hR.vals 10 (by decide) (by first | exact hd | exact hd.1 | exact hd.2.1 | simp_all)
      have e12 : us 12 = .int .i64 bx := hR.vals 12 (by decide) (by first | exact hd | exact hd.1 | exact hd.2.1 | simp_all)
      have e14 : us 14 = .int .i64 b_y := hR.vals 14 (by decide) (by first | exact hd | exact hd.1 | exact hd.2.1 | simp_all)
      have e16 : us 16 = .int .i64 bz := hR.vals 16 (by decide) (by first | exact hd | exact hd.1 | exact hd.2.1 | simp_all)
      clear hd hR hB
      simp only [putF]
      rw [hA, e10, e12, e14, e16]
      go_frame
      go_wp2_with fail
      exact hK.out _ _ _ (by rw [hA]; simp only [putF]; rw [e10, e12, e14, e16]; kernel_rfl) (Below.refl _ _) rfl
    · intro K L us W hK0 hL hd hR
      have hK := hid hK0; clear hK0
      have hR2 := hid (hR.alloc (i := 0) (by decide) hL)
      clear hd hR
      simp only [putF]
      rw [hA]
      go_frame
      go_wp2_with fail
      exact hK.out (.pointer (some ⟨W.heap.size, 0, none⟩)) _ _ (by rw [hA]; kernel_rfl) hR2.out
    · intro K L us W hK0 hL hd hR
      have hK := hid hK0; clear hK0
      have hR2 := hid (hR.alloc (i := 1) (by decide) hL)
      clear hd hR
      simp only [putF]
      rw [hA]
      go_frame
      go_wp2_with fail
      exact hK.out (.pointer (some ⟨W.heap.size, 0, none⟩)) _ _ (by rw [hA]; kernel_rfl) hR2.out
    · intro K L us W hK0 hL hd hR
      have hK := hid hK0; clear hK0
      (try simp [Region.binds] at hd)
      have hla : L 18 = true := by first | exact hd.1 | exact hd | exact hd.2.1 | simp_all
      have hls : L 8 = true := by first | exact hd.2.1 | exact hd.2 | exact hd.1 | simp_all
      obtain ⟨gbx, e0, hg, hh⟩ := hR.box 0 (by decide) hla
      have hL2 : L (18 + 2 + 0) = false := hL
      rw [hL2, if_neg (by decide)] at hh
      have e1 : us 8 = .agg #[.int .i64 aL, .int .i64 ax, .int .i64 ay, .int .i64 az] := hR.vals 8 (by decide) hls
      have hR2 := hid (hR.store (i := 0) (v := undef) (by decide) hla e0 hg hh)
      have hh2 : W.heap[gbx]? = some (.cells #[.int .i64 0, .int .i64 0, .int .i64 0, .int .i64 0] 136) := hh
      have e2 : us 18 = .pointer (some ⟨gbx, 0, none⟩) := e0
      have HH := hid hh2
      clear hd hR hh e0 hL2
      simp only [putF]
      rw [hA, e2, e1]
      go_frame
      go_wp2_with (refine wpList_store_at rfl 136 (.tmp 5) (.tmp 16) rfl rfl rfl HH.out size136 rfl rfl rfl ?_)
      exact hK.out undef _ _ (by rw [hA]; simp only [putF]; rw [e2, e1]; kernel_rfl) hR2.out
    · intro K L us W hK0 hL hd hR
      have hK := hid hK0; clear hK0
      (try simp [Region.binds] at hd)
      have hla : L 19 = true := by first | exact hd.1 | exact hd | exact hd.2.1 | simp_all
      have hls : L 17 = true := by first | exact hd.2.1 | exact hd.2 | exact hd.1 | simp_all
      obtain ⟨gbx, e0, hg, hh⟩ := hR.box 1 (by decide) hla
      have hL2 : L (18 + 2 + 1) = false := hL
      rw [hL2, if_neg (by decide)] at hh
      have e1 : us 17 = .agg #[.int .i64 bL, .int .i64 bx, .int .i64 b_y, .int .i64 bz] := hR.vals 17 (by decide) hls
      have hR2 := hid (hR.store (i := 1) (v := undef) (by decide) hla e0 hg hh)
      have hh2 : W.heap[gbx]? = some (.cells #[.int .i64 0, .int .i64 0, .int .i64 0, .int .i64 0] 136) := hh
      have e2 : us 19 = .pointer (some ⟨gbx, 0, none⟩) := e0
      have HH := hid hh2
      clear hd hR hh e0 hL2
      simp only [putF]
      rw [hA, e2, e1]
      go_frame
      go_wp2_with (refine wpList_store_at rfl 136 (.tmp 6) (.tmp 25) rfl rfl rfl HH.out size136 rfl rfl rfl ?_)
      exact hK.out undef _ _ (by rw [hA]; simp only [putF]; rw [e2, e1]; kernel_rfl) hR2.out
  intro L us W1 hL hR
  obtain ⟨g5, e5, hg5, hh5⟩ := hR.box 0 (by decide) (hL _ (by decide))
  rw [if_pos (hL _ (by decide))] at hh5
  have HH5 := hid (show W1.heap[g5]? = some (.cells #[.int .i64 aL, .int .i64 ax, .int .i64 ay, .int .i64 az] 136) from hh5)
  have e5 : us 18 = .pointer (some ⟨g5, 0, none⟩) := e5
  obtain ⟨g6, e6, hg6, hh6⟩ := hR.box 1 (by decide) (hL _ (by decide))
  rw [if_pos (hL _ (by decide))] at hh6
  have HH6 := hid (show W1.heap[g6]? = some (.cells #[.int .i64 bL, .int .i64 bx, .int .i64 b_y, .int .i64 bz] 136) from hh6)
  have e6 : us 19 = .pointer (some ⟨g6, 0, none⟩) := e6
  have hne5_6 : g5 ≠ g6 := fun h => hR.ne 0 1 (by decide) (by decide) (by decide) (hL _ (by decide)) (hL _ (by decide)) (by rw [show us (18 + 0) = _ from e5, show us (18 + 1) = _ from e6, h])
  have HB1 := hid (HB0.out.trans (hR.grow.mono HB0.out.size))
  have HSW1 := hid (fun n x => @heap_still _ _ n x hR.grow)
  have hzW1 := hR.grow.size
  simp only [putF]
  rw [hA, e5, e6]
  clear hA hR hL hh5 e5 hh6 e6
  go_frame
  go_wp2_with fail
  refine wp_loop_rounds 5 ?_
  rw [rounds_succ]
  by_cases hne : aL ≠ bL
  · have d1 : (aL == bL) = false := by simpa using hne
    have a0 := fun d os => cell_regrown (show W1.cell? ⟨g5, 0, none⟩ = some (.int .i64 aL) from (cell_row (j := 0) HH5.out).trans rfl) d os
    have b0 := fun d os => cell_regrown (show W1.cell? ⟨g6, 0, none⟩ = some (.int .i64 bL) from (cell_row (j := 0) HH6.out).trans rfl) d os
    go_wp2_with fail
    refine wp_region_quiet_below (by kernel_rfl) (by kernel_rfl) ?_
    repeat (first | go_big_quiet_step (fail) | quiet_step (fail))
    refine wpQuiet_nil ?_
    intro _ hw'
    obtain ⟨⟨dqV, osV⟩, hw2⟩ := hw'
    subst hw2
    have HQV := hid (below_regrown W1 dqV osV)
    generalize Sort.grow (redrawn W1 dqV) osV = V at HQV ⊢
    have hsV := HQV.out.size
    clear a0 b0
    have AV := hid (heap_still HQV.out HH5.out)
    have BV := hid (heap_still HQV.out HH6.out)
    have HBV := hid (HB1.out.trans (HQV.out.mono HB1.out.size))
    have a0 := fun d os => cell_regrown (show V.cell? ⟨g5, 0, none⟩ = some (.int .i64 aL) from (cell_row (j := 0) AV.out).trans rfl) d os
    have b0 := fun d os => cell_regrown (show V.cell? ⟨g6, 0, none⟩ = some (.int .i64 bL) from (cell_row (j := 0) BV.out).trans rfl) d os
    go_wp2_with fail
    refine wp_region_quiet_below (by kernel_rfl) (by kernel_rfl) ?_
    repeat (first | go_big_quiet_step (fail) | quiet_step (fail))
    refine wpQuiet_nil ?_
    intro _ hw'
    obtain ⟨⟨dqU, osU⟩, hw2⟩ := hw'
    subst hw2
    have HQU := hid (below_regrown V dqU osU)
    generalize Sort.grow (redrawn V dqU) osU = U at HQU ⊢
    have hsU := HQU.out.size
    have HBU := hid (HBV.out.trans (HQU.out.mono HBV.out.size))
    clear a0 b0
    go_wp2_with fail
    go_ret
    exact ⟨by rw [show r = decide (aL < bL) from HR.out.symm.trans (decide_eq_decide.2 (HV.out.trans (by omega)))]; rfl, HBU.out⟩
  have heq0 : aL = bL := Decidable.not_not.1 hne
  clear hne
  have d1 : (aL == bL) = true := by simp [heq0]
  have a0 := fun d os => cell_regrown (show W1.cell? ⟨g5, 0, none⟩ = some (.int .i64 aL) from (cell_row (j := 0) HH5.out).trans rfl) d os
  have b0 := fun d os => cell_regrown (show W1.cell? ⟨g6, 0, none⟩ = some (.int .i64 bL) from (cell_row (j := 0) HH6.out).trans rfl) d os
  go_wp2_with fail
  refine wp_region_quiet_below (by kernel_rfl) (by kernel_rfl) ?_
  repeat (first | go_big_quiet_step (fail) | quiet_step (fail))
  refine wpQuiet_nil ?_
  intro _ hw'
  obtain ⟨⟨dqV0, osV0⟩, hw2⟩ := hw'
  subst hw2
  have HQV0 := hid (below_regrown W1 dqV0 osV0)
  generalize Sort.grow (redrawn W1 dqV0) osV0 = V0 at HQV0 ⊢
  have hsV0 := HQV0.out.size
  clear a0 b0 d1
  have AV0 := hid (heap_still HQV0.out HH5.out)
  have BV0 := hid (heap_still HQV0.out HH6.out)
  have HBV0 := hid (HB1.out.trans (HQV0.out.mono HB1.out.size))
  go_wp2_with fail
  rw [rounds_succ]
  by_cases hne : ax ≠ bx
  · have d1 : (ax == bx) = false := by simpa using hne
    have a1 := fun d os => cell_regrown (show V0.cell? ⟨g5, 1, none⟩ = some (.int .i64 ax) from (cell_row (j := 1) AV0.out).trans rfl) d os
    have b1 := fun d os => cell_regrown (show V0.cell? ⟨g6, 1, none⟩ = some (.int .i64 bx) from (cell_row (j := 1) BV0.out).trans rfl) d os
    go_wp2_with fail
    refine wp_region_quiet_below (by kernel_rfl) (by kernel_rfl) ?_
    repeat (first | go_big_quiet_step (fail) | quiet_step (fail))
    refine wpQuiet_nil ?_
    intro _ hw'
    obtain ⟨⟨dqV, osV⟩, hw2⟩ := hw'
    subst hw2
    have HQV := hid (below_regrown V0 dqV osV)
    generalize Sort.grow (redrawn V0 dqV) osV = V at HQV ⊢
    have hsV := HQV.out.size
    clear a1 b1
    have AV := hid (heap_still HQV.out AV0.out)
    have BV := hid (heap_still HQV.out BV0.out)
    have HBV := hid (HBV0.out.trans (HQV.out.mono HBV0.out.size))
    have a1 := fun d os => cell_regrown (show V.cell? ⟨g5, 1, none⟩ = some (.int .i64 ax) from (cell_row (j := 1) AV.out).trans rfl) d os
    have b1 := fun d os => cell_regrown (show V.cell? ⟨g6, 1, none⟩ = some (.int .i64 bx) from (cell_row (j := 1) BV.out).trans rfl) d os
    go_wp2_with fail
    refine wp_region_quiet_below (by kernel_rfl) (by kernel_rfl) ?_
    repeat (first | go_big_quiet_step (fail) | quiet_step (fail))
    refine wpQuiet_nil ?_
    intro _ hw'
    obtain ⟨⟨dqU, osU⟩, hw2⟩ := hw'
    subst hw2
    have HQU := hid (below_regrown V dqU osU)
    generalize Sort.grow (redrawn V dqU) osU = U at HQU ⊢
    have hsU := HQU.out.size
    have HBU := hid (HBV.out.trans (HQU.out.mono HBV.out.size))
    clear a1 b1
    go_wp2_with fail
    go_ret
    exact ⟨by rw [show r = decide (ax < bx) from HR.out.symm.trans (decide_eq_decide.2 (HV.out.trans (by omega)))]; rfl, HBU.out⟩
  have heq1 : ax = bx := Decidable.not_not.1 hne
  clear hne
  have d1 : (ax == bx) = true := by simp [heq1]
  have a1 := fun d os => cell_regrown (show V0.cell? ⟨g5, 1, none⟩ = some (.int .i64 ax) from (cell_row (j := 1) AV0.out).trans rfl) d os
  have b1 := fun d os => cell_regrown (show V0.cell? ⟨g6, 1, none⟩ = some (.int .i64 bx) from (cell_row (j := 1) BV0.out).trans rfl) d os
  go_wp2_with fail
  refine wp_region_quiet_below (by kernel_rfl) (by kernel_rfl) ?_
  repeat (first | go_big_quiet_step (fail) | quiet_step (fail))
  refine wpQuiet_nil ?_
  intro _ hw'
  obtain ⟨⟨dqV1, osV1⟩, hw2⟩ := hw'
  subst hw2
  have HQV1 := hid (below_regrown V0 dqV1 osV1)
  generalize Sort.grow (redrawn V0 dqV1) osV1 = V1 at HQV1 ⊢
  have hsV1 := HQV1.out.size
  clear a1 b1 d1
  have AV1 := hid (heap_still HQV1.out AV0.out)
  have BV1 := hid (heap_still HQV1.out BV0.out)
  have HBV1 := hid (HBV0.out.trans (HQV1.out.mono HBV0.out.size))
  go_wp2_with fail
  rw [rounds_succ]
  by_cases hne : ay ≠ b_y
  · have d1 : (ay == b_y) = false := by simpa using hne
    have a2 := fun d os => cell_regrown (show V1.cell? ⟨g5, 2, none⟩ = some (.int .i64 ay) from (cell_row (j := 2) AV1.out).trans rfl) d os
    have b2 := fun d os => cell_regrown (show V1.cell? ⟨g6, 2, none⟩ = some (.int .i64 b_y) from (cell_row (j := 2) BV1.out).trans rfl) d os
    go_wp2_with fail
    refine wp_region_quiet_below (by kernel_rfl) (by kernel_rfl) ?_
    repeat (first | go_big_quiet_step (fail) | quiet_step (fail))
    refine wpQuiet_nil ?_
    intro _ hw'
    obtain ⟨⟨dqV, osV⟩, hw2⟩ := hw'
    subst hw2
    have HQV := hid (below_regrown V1 dqV osV)
    generalize Sort.grow (redrawn V1 dqV) osV = V at HQV ⊢
    have hsV := HQV.out.size
    clear a2 b2
    have AV := hid (heap_still HQV.out AV1.out)
    have BV := hid (heap_still HQV.out BV1.out)
    have HBV := hid (HBV1.out.trans (HQV.out.mono HBV1.out.size))
    have a2 := fun d os => cell_regrown (show V.cell? ⟨g5, 2, none⟩ = some (.int .i64 ay) from (cell_row (j := 2) AV.out).trans rfl) d os
    have b2 := fun d os => cell_regrown (show V.cell? ⟨g6, 2, none⟩ = some (.int .i64 b_y) from (cell_row (j := 2) BV.out).trans rfl) d os
    go_wp2_with fail
    refine wp_region_quiet_below (by kernel_rfl) (by kernel_rfl) ?_
    repeat (first | go_big_quiet_step (fail) | quiet_step (fail))
    refine wpQuiet_nil ?_
    intro _ hw'
    obtain ⟨⟨dqU, osU⟩, hw2⟩ := hw'
    subst hw2
    have HQU := hid (below_regrown V dqU osU)
    generalize Sort.grow (redrawn V dqU) osU = U at HQU ⊢
    have hsU := HQU.out.size
    have HBU := hid (HBV.out.trans (HQU.out.mono HBV.out.size))
    clear a2 b2
    go_wp2_with fail
    go_ret
    exact ⟨by rw [show r = decide (ay < b_y) from HR.out.symm.trans (decide_eq_decide.2 (HV.out.trans (by omega)))]; rfl, HBU.out⟩
  have heq2 : ay = b_y := Decidable.not_not.1 hne
  clear hne
  have d1 : (ay == b_y) = true := by simp [heq2]
  have a2 := fun d os => cell_regrown (show V1.cell? ⟨g5, 2, none⟩ = some (.int .i64 ay) from (cell_row (j := 2) AV1.out).trans rfl) d os
  have b2 := fun d os => cell_regrown (show V1.cell? ⟨g6, 2, none⟩ = some (.int .i64 b_y) from (cell_row (j := 2) BV1.out).trans rfl) d os
  go_wp2_with fail
  refine wp_region_quiet_below (by kernel_rfl) (by kernel_rfl) ?_
  repeat (first | go_big_quiet_step (fail) | quiet_step (fail))
  refine wpQuiet_nil ?_
  intro _ hw'
  obtain ⟨⟨dqV2, osV2⟩, hw2⟩ := hw'
  subst hw2
  have HQV2 := hid (below_regrown V1 dqV2 osV2)
  generalize Sort.grow (redrawn V1 dqV2) osV2 = V2 at HQV2 ⊢
  have hsV2 := HQV2.out.size
  clear a2 b2 d1
  have AV2 := hid (heap_still HQV2.out AV1.out)
  have BV2 := hid (heap_still HQV2.out BV1.out)
  have HBV2 := hid (HBV1.out.trans (HQV2.out.mono HBV1.out.size))
  go_wp2_with fail
  rw [rounds_succ]
  by_cases hne : az ≠ bz
  · have d1 : (az == bz) = false := by simpa using hne
    have a3 := fun d os => cell_regrown (show V2.cell? ⟨g5, 3, none⟩ = some (.int .i64 az) from (cell_row (j := 3) AV2.out).trans rfl) d os
    have b3 := fun d os => cell_regrown (show V2.cell? ⟨g6, 3, none⟩ = some (.int .i64 bz) from (cell_row (j := 3) BV2.out).trans rfl) d os
    go_wp2_with fail
    refine wp_region_quiet_below (by kernel_rfl) (by kernel_rfl) ?_
    repeat (first | go_big_quiet_step (fail) | quiet_step (fail))
    refine wpQuiet_nil ?_
    intro _ hw'
    obtain ⟨⟨dqV, osV⟩, hw2⟩ := hw'
    subst hw2
    have HQV := hid (below_regrown V2 dqV osV)
    generalize Sort.grow (redrawn V2 dqV) osV = V at HQV ⊢
    have hsV := HQV.out.size
    clear a3 b3
    have AV := hid (heap_still HQV.out AV2.out)
    have BV := hid (heap_still HQV.out BV2.out)
    have HBV := hid (HBV2.out.trans (HQV.out.mono HBV2.out.size))
    have a3 := fun d os => cell_regrown (show V.cell? ⟨g5, 3, none⟩ = some (.int .i64 az) from (cell_row (j := 3) AV.out).trans rfl) d os
    have b3 := fun d os => cell_regrown (show V.cell? ⟨g6, 3, none⟩ = some (.int .i64 bz) from (cell_row (j := 3) BV.out).trans rfl) d os
    go_wp2_with fail
    refine wp_region_quiet_below (by kernel_rfl) (by kernel_rfl) ?_
    repeat (first | go_big_quiet_step (fail) | quiet_step (fail))
    refine wpQuiet_nil ?_
    intro _ hw'
    obtain ⟨⟨dqU, osU⟩, hw2⟩ := hw'
    subst hw2
    have HQU := hid (below_regrown V dqU osU)
    generalize Sort.grow (redrawn V dqU) osU = U at HQU ⊢
    have hsU := HQU.out.size
    have HBU := hid (HBV.out.trans (HQU.out.mono HBV.out.size))
    clear a3 b3
    go_wp2_with fail
    go_ret
    exact ⟨by rw [show r = decide (az < bz) from HR.out.symm.trans (decide_eq_decide.2 (HV.out.trans (by omega)))]; rfl, HBU.out⟩
  have heq3 : az = bz := Decidable.not_not.1 hne
  clear hne
  have d1 : (az == bz) = true := by simp [heq3]
  have a3 := fun d os => cell_regrown (show V2.cell? ⟨g5, 3, none⟩ = some (.int .i64 az) from (cell_row (j := 3) AV2.out).trans rfl) d os
  have b3 := fun d os => cell_regrown (show V2.cell? ⟨g6, 3, none⟩ = some (.int .i64 bz) from (cell_row (j := 3) BV2.out).trans rfl) d os
  go_wp2_with fail
  refine wp_region_quiet_below (by kernel_rfl) (by kernel_rfl) ?_
  repeat (first | go_big_quiet_step (fail) | quiet_step (fail))
  refine wpQuiet_nil ?_
  intro _ hw'
  obtain ⟨⟨dqV3, osV3⟩, hw2⟩ := hw'
  subst hw2
  have HQV3 := hid (below_regrown V2 dqV3 osV3)
  generalize Sort.grow (redrawn V2 dqV3) osV3 = V3 at HQV3 ⊢
  have hsV3 := HQV3.out.size
  clear a3 b3 d1
  have AV3 := hid (heap_still HQV3.out AV2.out)
  have BV3 := hid (heap_still HQV3.out BV2.out)
  have HBV3 := hid (HBV2.out.trans (HQV3.out.mono HBV2.out.size))
  go_wp2_with fail
  rw [rounds_succ]
  go_wp2_with fail
  go_ret
  exact ⟨by rw [show r = false from HR.out.symm.trans (decide_eq_false (fun h => by have := HV.out.1 h; omega))]; rfl, HBV3.out⟩
end Go.Proofs.Yteanlcefdoigcaa
namespace Go.Proofs.Yteanlcefdoigcaa
open Go.RowKit Go.Sort

/-- the tiles of the first i points -/
def QL (L : List Pt) (c i : Nat) : Pt → Ky → Prop := fun p k => p ∈ L.take i ∧ isAt L c p k
theorem QL_next {L : List Pt} {c i : Nat} {p : Pt} {k : Ky} (hi : L[i]? = some p) (hat : isAt L c p k) (q : Pt) (x : Ky) : (QL L c i q x ∨ (x = k ∧ q = p)) ↔ QL L c (i + 1) q x := by
  unfold QL
  rw [take_succ' hi, List.mem_append, List.mem_singleton]
  constructor
  · rintro (⟨h1, h2⟩ | ⟨rfl, rfl⟩)
    · exact ⟨Or.inl h1, h2⟩
    · exact ⟨Or.inr rfl, hat⟩
  · rintro ⟨h1 | rfl, h2⟩
    · exact Or.inl ⟨h1, h2⟩
    · exact Or.inr ⟨isAt_un h2 hat, rfl⟩
theorem lay_more {L : List Pt} {c i a : Nat} {p : Pt} {k : Ky} {E : List Te} {e : Te} {v : Value} (hT : Tiles (QL L c i) (E.map Te.tl)) (hi : L[i]? = some p) (hat : isAt L c p k) (hasc : L.Pairwise (fun p q => p.id < q.id)) (ha : E[a]? = some e) (hk : e.key = k) :
    Tiles (QL L c (i + 1)) ((E.set a ⟨e.key, v, e.pts ++ [p]⟩).map Te.tl) := by
  have h1 : (E.map Te.tl)[a]? = some e.tl := by rw [List.getElem?_map, ha]; rfl
  have h2 := hT.more (p := p) h1 (fun q hq => by
    have h3 := ((hT.mem e.tl (List.mem_of_getElem? h1) q).1 hq).1
    obtain ⟨j, hj, rfl⟩ := List.mem_take_iff_getElem.1 h3
    have hil : i < L.length := (List.getElem?_eq_some_iff.1 hi).1
    have h4 := List.pairwise_iff_getElem.1 hasc j i (by omega) hil (by omega)
    rw [List.getElem?_eq_getElem hil] at hi
    injection hi with hi
    rw [hi] at h4
    exact h4)
  rw [List.map_set]
  exact h2.congr (fun q x => by
    have : e.tl.key = k := hk
    rw [this]
    exact QL_next hi hat q x)
theorem lay_new {L : List Pt} {c i : Nat} {p : Pt} {k : Ky} {E : List Te} {v : Value} (hT : Tiles (QL L c i) (E.map Te.tl)) (hi : L[i]? = some p) (hat : isAt L c p k) (hno : ∀ e ∈ E, e.key ≠ k) : Tiles (QL L c (i + 1)) ((E ++ [(⟨k, v, [p]⟩ : Te)]).map Te.tl) := by
  rw [List.map_append]
  have h2 := hT.add (k := k) (pts := [p]) (fun q hq => by
    obtain ⟨t, ht, he⟩ := hT.all q k hq
    obtain ⟨e, he2, rfl⟩ := List.mem_map.1 ht
    exact hno e he2 he) (by simp) (List.pairwise_singleton _ _)
  exact h2.congr (fun q x => by
    rw [List.mem_singleton]
    exact QL_next hi hat q x)
/-- behind q tiles: the point has joined its tile, or the tile has not been met -/
def FoundAt (k : Ky) (p : Pt) (E E' : List Te) (q : Nat) (f : Bool) : Prop :=
  (f = false ∧ E' = E ∧ ∀ a e, a < q → E[a]? = some e → e.key ≠ k) ∨ (f = true ∧ ∃ (a : Nat) (e : Te) (v : Value), a < q ∧ E[a]? = some e ∧ e.key = k ∧ E' = E.set a ⟨e.key, v, e.pts ++ [p]⟩)
theorem found_start (k : Ky) (p : Pt) (E : List Te) : FoundAt k p E E 0 false := by
  refine Or.inl ⟨rfl, rfl, ?_⟩
  intro a e h
  omega
theorem found_at {k : Ky} {p : Pt} {E E' : List Te} {q : Nat} {f : Bool} (h : FoundAt k p E E' q f) : E'[q]? = E[q]? ∧ E'.length = E.length := by
  rcases h with ⟨_, rfl, _⟩ | ⟨_, a, e, v, ha, _, _, rfl⟩
  · exact ⟨rfl, rfl⟩
  · exact ⟨List.getElem?_set_ne (by omega), by simp⟩
theorem found_pass {k : Ky} {p : Pt} {E E' : List Te} {q : Nat} {f : Bool} {e : Te} (h : FoundAt k p E E' q f) (he : E[q]? = some e) (hk : e.key ≠ k) : FoundAt k p E E' (q + 1) f := by
  rcases h with ⟨h1, h2, h3⟩ | ⟨h1, a, e', v, ha, h2⟩
  · refine Or.inl ⟨h1, h2, fun a e' ha he' => ?_⟩
    by_cases haq : a = q
    · subst haq
      rw [he] at he'
      injection he' with he'
      subst he'
      exact hk
    · exact h3 a e' (by omega) he'
  · exact Or.inr ⟨h1, a, e', v, by omega, h2⟩
theorem found_hit {k : Ky} {p : Pt} {E E' : List Te} {q : Nat} {f : Bool} {e : Te} (h : FoundAt k p E E' q f) (hd : (E.map Te.tl).Pairwise (fun t u => t.key ≠ u.key)) (he : E[q]? = some e) (hk : e.key = k) :
    f = false ∧ E' = E ∧ ∀ v, FoundAt k p E (E.set q ⟨e.key, v, e.pts ++ [p]⟩) (q + 1) true := by
  rcases h with ⟨h1, h2, h3⟩ | ⟨h1, a, e', v, ha, he', hk', _⟩
  · exact ⟨h1, h2, fun v => Or.inr ⟨rfl, q, e, v, by omega, he, hk, rfl⟩⟩
  · exfalso
    rw [List.pairwise_map] at hd
    have hq : q < E.length := (List.getElem?_eq_some_iff.1 he).1
    have h4 := List.pairwise_iff_getElem.1 hd a q (by omega) hq ha
    rw [List.getElem?_eq_getElem hq] at he
    rw [List.getElem?_eq_getElem (by omega)] at he'
    injection he with he
    injection he' with he'
    rw [he, he'] at h4
    exact h4 (hk'.trans hk.symm)
end Go.Proofs.Yteanlcefdoigcaa
namespace Go.Proofs.Yteanlcefdoigcaa
open Go.RowKit Go.Sort

theorem size22 : (Try.prog.info? 22).map (·.size) = some 1 := by kernel_rfl
theorem own_rowsV {W : World} {base t sz n c : Nat} {a : Option Addr} {l : List (List Value)} (h : OwnR W base t sz (.slice a n c) l) : (l = [] ∧ (a = none → c = 0)) ∨ ∃ b off, a = some ⟨b, off, none⟩ ∧ RowsAt W b off sz l := by
  by_cases hl : l = []
  · refine Or.inl ⟨hl, fun e => ?_⟩
    rcases h.2.2 with ⟨h1, _⟩ | ⟨g, cap, cur, h1, _⟩
    · injection h1
    · injection h1 with h1
      rw [e] at h1
      cases h1
  · obtain ⟨g, cap, cur, h1, _, _, h2, _⟩ := OwnR.rows h (List.length_pos_iff.2 hl)
    injection h1 with h1
    exact Or.inr ⟨g, 0, h1, h2⟩
def Fresh36 (B : Nat) (C : Array Value) (W : World) (v : Value) : Prop := ∃ g, v = .slice (some ⟨g, 0, none⟩) 1 1 ∧ B ≤ g ∧ W.heap[g]? = some (.cells C 36)
theorem Fresh36.stb (B : Nat) (C : Array Value) : Stb (Fresh36 B C) := fun _ _ _ hB ⟨g, h1, h2, h3⟩ => ⟨g, h1, h2, heap_still hB h3⟩
def FreshT (B : Nat) (C : Array Value) (k : Ky) (W : World) (v : Value) : Prop := ∃ g, v = .agg #[.int .i64 k.L, .int .i64 k.x, .int .i64 k.y, .int .i64 k.z, .slice (some ⟨g, 0, none⟩) 1 1] ∧ B ≤ g ∧ W.heap[g]? = some (.cells C 36)
theorem FreshT.stb (B : Nat) (C : Array Value) (k : Ky) : Stb (FreshT B C k) := fun _ _ _ hB ⟨g, h1, h2, h3⟩ => ⟨g, h1, h2, heap_still hB h3⟩
def FreshE (B : Nat) (C : Array Value) (k : Ky) (W : World) (v : Value) : Prop := ∃ g, v = .slice (some ⟨g, 0, none⟩) 1 1 ∧ B ≤ g ∧ ∃ g', B ≤ g' ∧ W.heap[g]? = some (.cells #[.int .i64 k.L, .int .i64 k.x, .int .i64 k.y, .int .i64 k.z, .slice (some ⟨g', 0, none⟩) 1 1] 49) ∧ W.heap[g']? = some (.cells C 36)
theorem FreshE.stb (B : Nat) (C : Array Value) (k : Ky) : Stb (FreshE B C k) := fun _ _ _ hB ⟨g, h1, h2, g', h3, h4, h5⟩ => ⟨g, h1, h2, g', h3, heap_still hB h4, heap_still hB h5⟩
theorem one_own {W : World} {base g : Nat} {p : Pt} (h : W.heap[g]? = some (.cells p.row.toArray 36)) (hB : base ≤ g) : OwnP W base (.slice (some ⟨g, 0, none⟩) 1 1) [p] :=
  ⟨Wide.one rfl (Pt.row_one p), rfl, Or.inr ⟨g, 1, p.row.toArray, rfl, hB, h, Nat.le_refl _, by unfold maxLen; omega, rfl, by simp [Pt.row]⟩⟩
/-- a tile is laid behind the others -/
theorem tiles_new {W W' : World} {base gp : Nat} {v v' : Value} {E : List Te} {k : Ky} {p : Pt} (h : TilesIn W base v E) (hp : W.heap[gp]? = some (.cells p.row.toArray 36)) (hB : base ≤ gp) (hown : OwnR W' base 49 5 v' (E.map Te.row ++ [Te.row ⟨k, .slice (some ⟨gp, 0, none⟩) 1 1, [p]⟩])) (hg : W.grownBy W' v.ownBlock) :
    TilesIn W' base v' (E ++ [(⟨k, .slice (some ⟨gp, 0, none⟩) 1 1, [p]⟩ : Te)]) := by
  refine ⟨by rw [List.map_append]; exact hown, fun e he => ?_⟩
  rcases List.mem_append.1 he with q | q
  · exact OwnR.turned (h.2 e q) (turned_grown hg) (fun b hb e2 => own_apart (h.2 e q) h.1 (by decide) hb e2.symm)
  · obtain rfl := List.mem_singleton.1 q
    refine one_own ((hg.block gp (Array.getElem?_eq_some_iff.1 hp).1 (fun e2 => ?_)).trans hp) hB
    obtain ⟨cur, hc⟩ := OwnR.typed h.1 e2.symm
    rw [hp] at hc
    injection hc with hc
    injection hc with _ hc
    exact absurd hc (by decide)
/-- between two points -/
def RLRel (W2 : World) (L : List Pt) (c n : Nat) (ov iv : Value) (W : World) : Prop :=
  ∃ (i : Nat) (E : List Te), i ≤ n ∧ iv = .int .i64 (i : Int) ∧ TilesIn W W2.heap.size ov E ∧ Tiles (QL L c i) (E.map Te.tl) ∧ (∀ e ∈ E, e.ok ∧ e.pts.length ≤ i) ∧ E.length ≤ i ∧ Below W2.heap.size W2 W
/-- between two tiles that a point is compared with -/
def RIn (W2 : World) (gk : Nat) (k : Ky) (p : Pt) (E : List Te) (m : Nat) (ov fv qv : Value) (W : World) : Prop :=
  ∃ (q : Nat) (f : Bool) (E' : List Te), q ≤ m ∧ qv = .int .i64 (q : Int) ∧ fv = .bool f ∧ TilesIn W W2.heap.size ov E' ∧ W.heap[gk]? = some (.cells #[.int .i64 k.L, .int .i64 k.x, .int .i64 k.y, .int .i64 k.z] 39) ∧ FoundAt k p E E' q f ∧ Below W2.heap.size W2 W
theorem size49r : (Try.prog.info? 49).map (·.size) = some 5 := by kernel_rfl
def kLt (a b : Te) : Prop := a.key.lt b.key
/-- between two rounds of the tiles' sort -/
def TOut (W2 : World) (E : List Te) (m : Nat) (ov iv : Value) (W : World) : Prop :=
  ∃ (i : Nat) (F : List Te), i ≤ m ∧ iv = .int .i64 (i : Int) ∧ F.Perm E ∧ SortedTo kLt F i ∧ TilesIn W W2.heap.size ov F ∧ Below W2.heap.size W2 W
def TInn (W2 : World) (E : List Te) (i : Nat) (ov kv : Value) (W : World) : Prop :=
  ∃ (k : Nat) (F : List Te), k ≤ i ∧ kv = .int .i64 (k : Int) ∧ F.Perm E ∧ InsAt kLt F i k ∧ TilesIn W W2.heap.size ov F ∧ Below W2.heap.size W2 W
theorem tiles_swap {W : World} {base g n cap x y : Nat} {C : Array Value} {F : List Te} {p q : Te} (h : TilesIn W base (.slice (some ⟨g, 0, none⟩) n cap) F) (hC : W.heap[g]? = some (.cells C 49)) (hp : p.ok) (hq : q.ok) (hx : F[x]? = some p) (hy : F[y]? = some q) :
    TilesIn ((W.setRow g (ptL C (x * 5) q.row)).setRow g (ptL (ptL C (x * 5) q.row) (y * 5) p.row)) base (.slice (some ⟨g, 0, none⟩) n cap) ((F.set x q).set y p) := by
  refine ⟨own_swapE (enc := Te.row) h.1 hC rfl rfl (Te.row_one p hp) (Te.row_one q hq) hx hy, fun e he => ?_⟩
  have hm : e ∈ F := by
    rcases List.mem_or_eq_of_mem_set he with q1 | q1
    · rcases List.mem_or_eq_of_mem_set q1 with q2 | q2
      · exact q2
      · rw [q2]; exact List.mem_of_getElem? hy
    · rw [q1]; exact List.mem_of_getElem? hx
  have hne : ∀ b, e.v.ownBlock = some b → ¬ b = g := fun b hb e2 => by
    subst e2
    obtain ⟨c1, q1⟩ := OwnR.typed (h.2 e hm) hb
    rw [hC] at q1
    injection q1 with q1
    injection q1 with _ q1
    exact absurd q1 (by decide)
  exact OwnR.turned (OwnR.turned (h.2 e hm) (turned_row _ _ _) hne) (turned_row _ _ _) hne
set_option maxRecDepth 100000 in
set_option maxHeartbeats 6400000 in
theorem rlay_any (pv : Value) (S : List Pt) (c : Nat) (w : World) (hp : PtsV w pv S) (hp0 : NilV pv) (hS : GoodS S) (hf : ∀ p ∈ S, p.fine) (hn : S.length ≤ 4096) :
    Calls Try.prog 51 #[pv, .int .i64 c] w fun r w' => (∃ v E, r = .returned v ∧ TilesV w' v E ∧ IsLayout S c (E.map Te.tl)) ∧ Below w.heap.size w w' := by
  have HP := hid hp
  have HP0 := hid hp0
  have HS := hid hS
  have HF := hid hf
  obtain ⟨pa, pc, rfl, hpd⟩ := hp
  obtain ⟨n, hnl⟩ : ∃ n, n = S.length := ⟨_, rfl⟩
  rw [← hnl] at hn HP HP0 ⊢
  have HN := hid hnl
  clear hnl hpd hf hp0 hS
  obtain ⟨i0, hi, hz0, hz1, hz2⟩ := info_parts info36
  have HI := hid hi
  have HZ0 := hid hz0
  have HZ1 := hid hz1
  have HZ2 := hid hz2
  clear hi hz0 hz1 hz2
  obtain ⟨i1, hi, hz0, hz1, hz2⟩ := info_parts info49
  have JI := hid hi
  have JZ0 := hid hz0
  have JZ1 := hid hz1
  have JZ2 := hid hz2
  clear hi hz0 hz1 hz2
  go_enter Try.func51, Try.ntmps51
  go_wp2_with fail
  refine (rsorted_any _ S w HP.out HP0.out (by rw [← HN.out]; omega)).mono ?_
  rintro r w1 ⟨⟨v1, rfl, L, hol, hperm, hasc⟩, hb1⟩
  have HB1 := hid hb1
  have HOL := hid hol
  have HPM := hid hperm
  have HLN := hid (show L.length = n from hperm.length_eq.trans HN.out.symm)
  have HAS := hid (show L.Pairwise (fun p q => p.id < q.id) from asc_ids hperm HS.out.1 hasc)
  have HFL := hid (show ∀ p ∈ L, p.fine from fun p hp => HF.out p (hperm.mem_iff.1 hp))
  obtain ⟨la, lc, hlv⟩ := hol.slice
  rw [HLN.out] at hlv
  subst hlv
  clear hb1 hol hperm hasc
  go_wp2_with fail
  refine (levels_any _ L c w1 HOL.out.ptsV HFL.out (by rw [HLN.out]; exact hn)).mono ?_
  rintro r w2 ⟨⟨v2, rfl, hlv⟩, hb2⟩
  have HB2 := hid (HB1.out.trans (hb2.mono HB1.out.size))
  have HOL2 := hid (OwnR.grow' HOL.out hb2)
  have HLV := hid hlv
  obtain ⟨xa, xc, hxv⟩ := OwnR.slice hlv
  rw [List.length_map, List.length_map, HLN.out] at hxv
  subst hxv
  clear hb2 hlv
  go_wp2_with fail
  refine gen_world (fun W2 hW2 => ?_)
  subst hW2
  go_loopw [7, 22] (fun ov iv W => RLRel W2 L c n ov iv W) (fun _ iv _ => n - (intOf iv).toNat)
  case atStart => exact ⟨0, [], by omega, rfl, ⟨OwnR.nil _ _ _ _, fun e he => by simp at he⟩, Tiles.nil (fun p k h => by simp [QL] at h), fun e he => by simp at he, by simp, Below.refl _ _⟩
  case round =>
    obtain ⟨i, E, hi, rfl, hte, htl, hks, hel, hB⟩ := hrel
    obtain ⟨oa, oc, hov⟩ := hte.slice
    obtain ⟨m, hm⟩ : ∃ m, m = E.length := ⟨_, rfl⟩
    rw [← hm] at hov hel
    subst hov
    have HTE := hid hte
    have HTL := hid htl
    have HKS := hid hks
    have HBX := hid hB
    have HM := hid hm
    have hzw := hB.size
    clear hte htl hks hB hm
    by_cases hlt : i < n
    · have d1 : decide ((i : Int) < (n : Int)) = true := decide_eq_true (by omega)
      obtain ⟨p, hp⟩ : ∃ p, L[i]? = some p := ⟨_, List.getElem?_eq_getElem (by rw [HLN.out]; exact hlt)⟩
      have HPI := hid hp
      obtain ⟨g, gc, hsl, hgb, hgs, hcells⟩ := OwnP.cells HOL2.out (by rw [HLN.out]; omega)
      obtain ⟨rfl, rfl⟩ : la = some ⟨g, 0, none⟩ ∧ lc = gc := by
        injection hsl with e1 e2 e3
        exact ⟨e1, e3⟩
      have YP := hid (fun j hj => hcells i p hp j hj)
      obtain ⟨lev, hlev, hl12, hat⟩ := lvOf_13 L c p
      obtain ⟨gl, xc', lcur, hxs, hxB, hxc, hxr, _⟩ := OwnR.rows HLV.out (by rw [List.length_map, List.length_map, HLN.out]; omega)
      obtain ⟨rfl, rfl⟩ : xa = some ⟨gl, 0, none⟩ ∧ xc = xc' := by
        injection hxs with e1 e2 e3
        exact ⟨e1, e3⟩
      have hgl : gl < W2.heap.size := (Array.getElem?_eq_some_iff.1 hxc).1
      have YL := hid (show W2.cell? ⟨gl, i, none⟩ = some (.int .i64 (lev : Int)) by
        have := hxr i (iRow (lvOf L c 13 p)) (by rw [List.getElem?_map, List.getElem?_map, hp]; rfl) 0 (by decide)
        rw [Nat.mul_one, Nat.zero_add, Nat.add_zero, hlev] at this
        exact this)
      have HAT := hid hat
      have hpf := HFL.out p (List.mem_of_getElem? hp)
      obtain ⟨k, hk⟩ : ∃ k, k = cellK lev p := ⟨_, rfl⟩
      have HSM := hid (show k.small by rw [hk]; exact cellK_small hpf hl12)
      rw [← hk] at HAT
      have HCC := hid (show cellC lev p.x p.y p.zl = #[.int .i64 k.L, .int .i64 k.x, .int .i64 k.y, .int .i64 k.z] by rw [hk]; rfl)
      have HXC := hid (fun W => rCell_any p.id p.x p.y p.zl p.zh p.wd p.nm p.of p.cl lev hl12 hpf.2.1 hpf.2.2.1 hpf.2.2.2 W)
      clear hcells hp hsl hlev hat hxs hxB hxc hxr hpf hk
      obtain ⟨p0, p1, p2, p3, p4, p5, p6, p7, p8⟩ := p
      have YPW := hid (fun j hj => (HBX.out.cell hgs).trans (YP.out j hj))
      have YLW := hid ((HBX.out.cell hgl).trans YL.out)
      have HGW := hid (Nat.lt_of_lt_of_le hgs hzw)
      have HLW := hid (Nat.lt_of_lt_of_le hgl hzw)
      go_wp2_with fail
      refine gen_act (fun A0 hA => ?_)
      refine wp_region_last (by kernel_rfl) (by kernel_rfl) [some 25, some 26, some 27, some 28, some 29, some 30, some 31, some 32, some 33, some 9, none] rfl (by decide) 10 rfl (by kernel_rfl) (by kernel_rfl)
        [IsV (.slice (some ⟨g, 0, none⟩) n lc), IsV (.int .i64 (i : Int)), IsV (.pointer (some ⟨g, i * 9, none⟩)), IsV (.agg #[.int .i64 p0, .int .i64 p1, .int .i64 p2, .int .i64 p3, .int .i64 p4, .int .i64 p5, .int .i64 p6, .int .i64 p7, .int .i64 p8]), IsV (.slice (some ⟨gl, 0, none⟩) n xc), IsV (.int .i64 (i : Int)), IsV (.pointer (some ⟨gl, i, none⟩)), IsV (.int .i64 (lev : Int)), IsV (.agg (cellC lev p1 p2 p3)), FreshK wr.heap.size]
        ⟨IsV.stb _, IsV.stb _, IsV.stb _, IsV.stb _, IsV.stb _, IsV.stb _, IsV.stb _, IsV.stb _, IsV.stb _, FreshK.stb _, trivial⟩ ?hs1_7_W5 ?hlast_7_W5
      case hs1_7_W5 =>
        refine ⟨?_, ?_, ?_, ?_, ?_, ?_, ?_, ?_, ?_, ?_, trivial⟩
        · intro K us W hK0 hB hd
          have hK := hid hK0; clear hK0
          have HBW := hid hB
          have hsW := hB.size
          have GB := hid (HBX.out.trans (hB.mono HBX.out.size))
          clear hd
          simp only [putF]
          rw [hA]
          go_frame
          go_wp2_with fail
          exact hK.out _ _ _ (by rw [hA]; simp only [putF]; kernel_rfl) (Below.refl _ _) rfl
        · intro K us W hK0 hB hd
          have hK := hid hK0; clear hK0
          have HBW := hid hB
          have hsW := hB.size
          have GB := hid (HBX.out.trans (hB.mono HBX.out.size))
          clear hd
          simp only [putF]
          rw [hA]
          go_frame
          go_wp2_with fail
          exact hK.out _ _ _ (by rw [hA]; simp only [putF]; kernel_rfl) (Below.refl _ _) rfl
        · intro K us W hK0 hB hd
          have hK := hid hK0; clear hK0
          have HBW := hid hB
          have hsW := hB.size
          have GB := hid (HBX.out.trans (hB.mono HBX.out.size))
          have e0 : us 0 = .slice (some ⟨g, 0, none⟩) n lc := hd ⟨0, Ground.data⟩ (by simp) rfl
          have e1 : us 1 = .int .i64 (i : Int) := hd ⟨1, Ground.data⟩ (by simp) rfl
          clear hd
          simp only [putF]
          rw [hA, e0, e1]
          go_frame
          go_wp2_with fail
          exact hK.out _ _ _ (by rw [hA]; simp only [putF]; rw [e0, e1]; kernel_rfl) (Below.refl _ _) rfl
        · intro K us W hK0 hB hd
          have hK := hid hK0; clear hK0
          have HBW := hid hB
          have hsW := hB.size
          have GB := hid (HBX.out.trans (hB.mono HBX.out.size))
          have e2 : us 2 = .pointer (some ⟨g, i * 9, none⟩) := hd ⟨2, Ground.data⟩ (by simp) rfl
          clear hd
          have c0 : W.cell? ⟨g, i * 9, none⟩ = some (.int .i64 p0) := by rw [hB.cell HGW.out]; exact YPW.out 0 (by decide)
          have c1 : W.cell? ⟨g, i * 9 + 1, none⟩ = some (.int .i64 p1) := by rw [hB.cell HGW.out]; exact YPW.out 1 (by decide)
          have c2 : W.cell? ⟨g, i * 9 + 2, none⟩ = some (.int .i64 p2) := by rw [hB.cell HGW.out]; exact YPW.out 2 (by decide)
          have c3 : W.cell? ⟨g, i * 9 + 3, none⟩ = some (.int .i64 p3) := by rw [hB.cell HGW.out]; exact YPW.out 3 (by decide)
          have c4 : W.cell? ⟨g, i * 9 + 4, none⟩ = some (.int .i64 p4) := by rw [hB.cell HGW.out]; exact YPW.out 4 (by decide)
          have c5 : W.cell? ⟨g, i * 9 + 5, none⟩ = some (.int .i64 p5) := by rw [hB.cell HGW.out]; exact YPW.out 5 (by decide)
          have c6 : W.cell? ⟨g, i * 9 + 6, none⟩ = some (.int .i64 p6) := by rw [hB.cell HGW.out]; exact YPW.out 6 (by decide)
          have c7 : W.cell? ⟨g, i * 9 + 7, none⟩ = some (.int .i64 p7) := by rw [hB.cell HGW.out]; exact YPW.out 7 (by decide)
          have c8 : W.cell? ⟨g, i * 9 + 8, none⟩ = some (.int .i64 p8) := by rw [hB.cell HGW.out]; exact YPW.out 8 (by decide)
          simp only [putF]
          rw [hA, e2]
          go_frame
          go_wp2_with fail
          exact hK.out _ _ _ (by rw [hA]; simp only [putF]; rw [e2]; kernel_rfl) (Below.refl _ _) rfl
        · intro K us W hK0 hB hd
          have hK := hid hK0; clear hK0
          have HBW := hid hB
          have hsW := hB.size
          have GB := hid (HBX.out.trans (hB.mono HBX.out.size))
          clear hd
          simp only [putF]
          rw [hA]
          go_frame
          go_wp2_with fail
          exact hK.out _ _ _ (by rw [hA]; simp only [putF]; kernel_rfl) (Below.refl _ _) rfl
        · intro K us W hK0 hB hd
          have hK := hid hK0; clear hK0
          have HBW := hid hB
          have hsW := hB.size
          have GB := hid (HBX.out.trans (hB.mono HBX.out.size))
          clear hd
          simp only [putF]
          rw [hA]
          go_frame
          go_wp2_with fail
          exact hK.out _ _ _ (by rw [hA]; simp only [putF]; kernel_rfl) (Below.refl _ _) rfl
        · intro K us W hK0 hB hd
          have hK := hid hK0; clear hK0
          have HBW := hid hB
          have hsW := hB.size
          have GB := hid (HBX.out.trans (hB.mono HBX.out.size))
          have e4 : us 4 = .slice (some ⟨gl, 0, none⟩) n xc := hd ⟨4, Ground.data⟩ (by simp) rfl
          have e5 : us 5 = .int .i64 (i : Int) := hd ⟨5, Ground.data⟩ (by simp) rfl
          clear hd
          simp only [putF]
          rw [hA, e4, e5]
          go_frame
          go_wp2_with fail
          exact hK.out _ _ _ (by rw [hA]; simp only [putF]; rw [e4, e5]; kernel_rfl) (Below.refl _ _) rfl
        · intro K us W hK0 hB hd
          have hK := hid hK0; clear hK0
          have HBW := hid hB
          have hsW := hB.size
          have GB := hid (HBX.out.trans (hB.mono HBX.out.size))
          have e6 : us 6 = .pointer (some ⟨gl, i, none⟩) := hd ⟨6, Ground.data⟩ (by simp) rfl
          clear hd
          have c0 : W.cell? ⟨gl, i, none⟩ = some (.int .i64 (lev : Int)) := by rw [hB.cell HLW.out]; exact YLW.out
          simp only [putF]
          rw [hA, e6]
          go_frame
          go_wp2_with fail
          exact hK.out _ _ _ (by rw [hA]; simp only [putF]; rw [e6]; kernel_rfl) (Below.refl _ _) rfl
        · intro K us W hK0 hB hd
          have hK := hid hK0; clear hK0
          have HBW := hid hB
          have hsW := hB.size
          have GB := hid (HBX.out.trans (hB.mono HBX.out.size))
          have e3 : us 3 = .agg #[.int .i64 p0, .int .i64 p1, .int .i64 p2, .int .i64 p3, .int .i64 p4, .int .i64 p5, .int .i64 p6, .int .i64 p7, .int .i64 p8] := hd ⟨3, Ground.data⟩ (by simp) rfl
          have e7 : us 7 = .int .i64 (lev : Int) := hd ⟨7, Ground.data⟩ (by simp) rfl
          clear hd
          simp only [putF]
          rw [hA, e3, e7]
          go_frame
          go_wp2_with fail
          refine (HXC.out W).mono ?_
          rintro r W' ⟨rfl, hb⟩
          go_wp2_with fail
          exact hK.out _ _ _ (by rw [hA]; simp only [putF]; rw [e3, e7]; kernel_rfl) hb rfl
        · intro K us W hK0 hB hd
          have hK := hid hK0; clear hK0
          have HBW := hid hB
          have hsW := hB.size
          have GB := hid (HBX.out.trans (hB.mono HBX.out.size))
          clear hd
          simp only [putF]
          rw [hA]
          go_frame
          go_wp2_with fail
          exact hK.out _ _ _ (by rw [hA]; simp only [putF]; kernel_rfl) ((Below.refl _ _).alloc (Nat.le_refl _) _) (⟨_, rfl, hsW, heap_alloc_at _ _ _ rfl⟩)
      intro K us W5 hK0 hB hp
      have hK := hid hK0
      clear hK0
      have hd9 : (FreshK wr.heap.size) W5 (us 9) := hp 9 (by decide)
      obtain ⟨g9, e9, hg9, hh9⟩ := hd9
      have e8 : us 8 = .agg (cellC lev p1 p2 p3) := hp 8 (by decide)
      have HB5 := hid (HBX.out.trans (hB.mono HBX.out.size))
      have HSW5 := hid (fun n x => @heap_still _ _ n x hB)
      have hzW5 := hB.size
      have hbW5 := hid hB
      clear hp
      simp only [putF]
      rw [hA, e9, e8]
      skip
      go_frame
      go_wp2_with (refine wpList_store_at rfl 39 (.tmp 9) (.tmp 33) rfl rfl rfl hh9 size39 rfl rfl rfl ?_)
      refine hK.out undef _ _ (by rw [hA]; simp only [putF]; rw [e9, e8]; kernel_rfl) ?_
      clear hK hB hA e9 e8
      have HK6 := hid (show (W5.setRow g9 (cellC lev p1 p2 p3)).heap[g9]? = some (.cells #[.int .i64 k.L, .int .i64 k.x, .int .i64 k.y, .int .i64 k.z] 39) from (setRow_heap _ _ _ _ _ _ hh9).trans (by rw [show cellC lev p1 p2 p3 = #[.int .i64 k.L, .int .i64 k.x, .int .i64 k.y, .int .i64 k.z] from HCC.out]))
      have HB6 := hid (below_setRow hbW5.out hg9 (cellC lev p1 p2 p3))
      go_wp2_with fail
      generalize W5.setRow g9 (cellC lev p1 p2 p3) = W6 at HK6 HB6 ⊢
      clear hh9 HSW5 hzW5 hbW5 HB5 HCC HXC
      have hz6 := HB6.out.size
      go_loopw [10, 36] (fun fv qv W => RIn W2 g9 k ⟨p0, p1, p2, p3, p4, p5, p6, p7, p8⟩ E m (.slice oa m oc) fv qv W) (fun _ qv _ => m - (intOf qv).toNat)
      case atStart => exact ⟨0, false, E, by omega, rfl, rfl, HTE.out.grow HB6.out, HK6.out, found_start _ _ _, HBX.out.trans (HB6.out.mono hzw)⟩
      case round =>
        obtain ⟨q, f, E', hq, rfl, rfl, hte, hkb, hfo, hB⟩ := hrel
        have HTQ := hid hte
        have HKQ := hid hkb
        have HFO := hid hfo
        have HBQ := hid hB
        have hzq := hB.size
        clear hte hkb hfo hB
        by_cases hlt2 : q < m
        · have d2 : decide ((q : Int) < (m : Int)) = true := decide_eq_true (by omega)
          obtain ⟨e, he⟩ : ∃ e, E[q]? = some e := ⟨_, List.getElem?_eq_getElem (by rw [← HM.out]; exact hlt2)⟩
          have HE := hid he
          have HE2 := hid (show E'[q]? = some e from (found_at HFO.out).1.trans he)
          obtain ⟨go, oc', ocur, hos, hoB, hoc, hor, hocap, _, hocs⟩ := OwnR.rows HTQ.out.1 (by rw [List.length_map, (found_at HFO.out).2, ← HM.out]; omega)
          obtain ⟨rfl, rfl⟩ : oa = some ⟨go, 0, none⟩ ∧ oc = oc' := by
            injection hos with e1 e2 e3
            exact ⟨e1, e3⟩
          rw [List.length_map, (found_at HFO.out).2, ← HM.out] at hocap
          have hcell : ∀ j, j < 5 → wr.cell? ⟨go, q * 5 + j, none⟩ = e.row[j]? := fun j hj => by
            have := hor q e.row (by rw [List.getElem?_map, HE2.out]; rfl) j hj
            rw [Nat.zero_add] at this
            exact this
          have hpe := HTQ.out.2 e (List.mem_of_getElem? HE2.out)
          obtain ⟨ea, ec, hev⟩ := hpe.slice
          have HPE := hid hpe
          have HEN := hid (show e.pts.length ≤ i from (HKS.out e (List.mem_of_getElem? he)).2)
          have HOC := hid hoc
          have HOS := hid (show ocur.size = oc * 5 from hocs)
          have hkq : g9 < wr.heap.size := (Array.getElem?_eq_some_iff.1 HKQ.out).1
          have hgo : go < wr.heap.size := (Array.getElem?_eq_some_iff.1 hoc).1
          have hgk : g9 ≠ go := fun e => by
            have h1 := HKQ.out
            rw [e, hoc] at h1
            injection h1 with h1
            injection h1 with _ h1
            exact absurd h1 (by decide)
          have heq := eqKeys e.key k
          have HEV := hid hev
          have HKE : Hid (∀ b, b = decide (e.key = k) → ∀ W, _) := hid heq
          clear hos hoc hor hocs hpe he heq
          obtain ⟨⟨k0, k1, k2, k3⟩, ev, ep⟩ := e
          obtain rfl : ev = .slice ea ep.length ec := HEV.out
          obtain ⟨en, hen⟩ : ∃ en, en = ep.length := ⟨_, rfl⟩
          simp only [Te.row, Ky.row] at hcell
          simp only [← hen] at hcell HPE HEN
          have HLE := hid hen
          have a0 := fun d os => cell_regrown (show wr.cell? ⟨go, q * 5, none⟩ = some (.int .i64 k0) from hcell 0 (by decide)) d os
          have a1 := fun d os => cell_regrown (show wr.cell? ⟨go, q * 5 + 1, none⟩ = some (.int .i64 k1) from hcell 1 (by decide)) d os
          have a2 := fun d os => cell_regrown (show wr.cell? ⟨go, q * 5 + 2, none⟩ = some (.int .i64 k2) from hcell 2 (by decide)) d os
          have a3 := fun d os => cell_regrown (show wr.cell? ⟨go, q * 5 + 3, none⟩ = some (.int .i64 k3) from hcell 3 (by decide)) d os
          have b0 := fun d os => cell_regrown (show wr.cell? ⟨g9, 0, none⟩ = some (.int .i64 k.L) from (cell_row (j := 0) HKQ.out).trans rfl) d os
          have b1 := fun d os => cell_regrown (show wr.cell? ⟨g9, 1, none⟩ = some (.int .i64 k.x) from (cell_row (j := 1) HKQ.out).trans rfl) d os
          have b2 := fun d os => cell_regrown (show wr.cell? ⟨g9, 2, none⟩ = some (.int .i64 k.y) from (cell_row (j := 2) HKQ.out).trans rfl) d os
          have b3 := fun d os => cell_regrown (show wr.cell? ⟨g9, 3, none⟩ = some (.int .i64 k.z) from (cell_row (j := 3) HKQ.out).trans rfl) d os
          have HC4 := hid (show wr.cell? ⟨go, q * 5 + 4, none⟩ = some (.slice ea en ec) from hcell 4 (by decide))
          clear hcell hen
          by_cases hke : (⟨k0, k1, k2, k3⟩ : Ky) = k
          · have heq := HKE.out true (decide_eq_true hke).symm
            have HKE2 := hid hke
            clear hke
            go_wp2_with fail
            refine wp_region_quiet_below (by kernel_rfl) (by kernel_rfl) ?_
            repeat (first | go_big_quiet_step (fail) | quiet_step (fail))
            refine wpQuiet_nil ?_
            intro _ hw'
            obtain ⟨⟨dqV, osV⟩, hw2⟩ := hw'
            subst hw2
            have HQV := hid (below_regrown wr dqV osV)
            generalize Sort.grow (redrawn wr dqV) osV = V at HQV ⊢
            have hsV := HQV.out.size
            clear a0 a1 a2 a3 b0 b1 b2 b3 heq
            obtain ⟨rfl, rfl, hfin⟩ := found_hit HFO.out HTL.out.keys HE.out HKE2.out
            have HFIN := hid hfin
            clear hfin
            go_upto_region 14 with fail
            have hA7 : Below wr.heap.size wr (V.alloc (.cells #[] 36)) := HQV.out.alloc HQV.out.size _
            have c9 : (V.alloc (.cells #[] 36)).cell? ⟨go, q * 5 + 4, none⟩ = some (.slice ea en ec) := (hA7.cell hgo).trans HC4.out
            have HGQ := hid (Nat.lt_of_lt_of_le hgs hzq)
            have HO0 := hid (show OwnR (V.alloc (.cells #[] 36)) wr.heap.size 36 9 (.slice (some ⟨V.heap.size, 0, none⟩) 0 0) [] from ⟨Wide.nil 9, rfl, Or.inr ⟨_, 0, #[], rfl, hsV, (by repeat' (first | (refine heap_alloc_at _ _ _ ?_; (first | rfl | (simp; done) | (simp; omega))) | (refine heap_alloc_past _ _ _ _ ?_))), Nat.le_refl _, by unfold maxLen; omega, rfl, rfl⟩⟩)
            have HX7 := hid (own_rowsV (OwnR.grow' HPE.out hA7))
            have HL7 := hid (show en = (ep.map Pt.row).length by rw [List.length_map]; exact HLE.out)
            have HL8 := hid (show ([] : List (List Value)).length + (ep.map Pt.row).length ≤ maxLen by rw [← HL7.out]; have := HEN.out; show 0 + en ≤ maxLen; unfold maxLen; omega)
            have HL9 := hid (show (([] : List (List Value)).length + (ep.map Pt.row).length) * 72 ≤ 140737488355328 by rw [← HL7.out]; have := HEN.out; show (0 + en) * 72 ≤ _; omega)
            have HWD := hid (wide_map (enc := Pt.row) (k := 9) (fun _ => rfl) Pt.row_one ep)
            have HS7 := hid (show wr.heap.size ≤ (V.alloc (.cells #[] 36)).heap.size from hA7.size)
            have HA7 := hid hA7
            clear hA7
            go_wp2_with (first
              | (at_builtin
                 refine wpList_append_rowsV rfl (.tmp 46) (.tmp 51) 22 rfl wr.heap.size 36 i0 _ 9 72 Try.underlying22 HI.out HZ0.out HZ1.out HZ2.out rfl (by decide) _ [] (ep.map Pt.row) rfl HO0.out ea en ec HL7.out rfl HX7.out HWD.out HL8.out HL9.out HS7.out ?_
                 intro v7 W7 hown7 hg7 z5
                 clear z5
                 have HO7 := hid (show OwnP W7 wr.heap.size v7 ep from hown7)
                 have HB7 := hid (show Below wr.heap.size wr W7 from HA7.out.grown hg7 HS7.out (fun j hj => OwnR.ownBlock HO0.out j hj))
                 clear hown7 hg7
                 obtain ⟨va, vc, hvs⟩ := OwnP.slice HO7.out
                 rw [← HLE.out] at hvs
                 subst hvs
                 have c0 : W7.cell? ⟨g, i * 9, none⟩ = some (.int .i64 p0) := (HB7.out.cell HGQ.out).trans ((HBQ.out.cell hgs).trans (YP.out 0 (by decide)))
                 have c1 : W7.cell? ⟨g, i * 9 + 1, none⟩ = some (.int .i64 p1) := (HB7.out.cell HGQ.out).trans ((HBQ.out.cell hgs).trans (YP.out 1 (by decide)))
                 have c2 : W7.cell? ⟨g, i * 9 + 2, none⟩ = some (.int .i64 p2) := (HB7.out.cell HGQ.out).trans ((HBQ.out.cell hgs).trans (YP.out 2 (by decide)))
                 have c3 : W7.cell? ⟨g, i * 9 + 3, none⟩ = some (.int .i64 p3) := (HB7.out.cell HGQ.out).trans ((HBQ.out.cell hgs).trans (YP.out 3 (by decide)))
                 have c4 : W7.cell? ⟨g, i * 9 + 4, none⟩ = some (.int .i64 p4) := (HB7.out.cell HGQ.out).trans ((HBQ.out.cell hgs).trans (YP.out 4 (by decide)))
                 have c5 : W7.cell? ⟨g, i * 9 + 5, none⟩ = some (.int .i64 p5) := (HB7.out.cell HGQ.out).trans ((HBQ.out.cell hgs).trans (YP.out 5 (by decide)))
                 have c6 : W7.cell? ⟨g, i * 9 + 6, none⟩ = some (.int .i64 p6) := (HB7.out.cell HGQ.out).trans ((HBQ.out.cell hgs).trans (YP.out 6 (by decide)))
                 have c7 : W7.cell? ⟨g, i * 9 + 7, none⟩ = some (.int .i64 p7) := (HB7.out.cell HGQ.out).trans ((HBQ.out.cell hgs).trans (YP.out 7 (by decide)))
                 have c8 : W7.cell? ⟨g, i * 9 + 8, none⟩ = some (.int .i64 p8) := (HB7.out.cell HGQ.out).trans ((HBQ.out.cell hgs).trans (YP.out 8 (by decide)))
                 have HA8 := hid (show Below W7.heap.size W7 (W7.alloc (.cells #[.int .i64 p0, .int .i64 p1, .int .i64 p2, .int .i64 p3, .int .i64 p4, .int .i64 p5, .int .i64 p6, .int .i64 p7, .int .i64 p8] 36)) from (Below.refl _ _).alloc (Nat.le_refl _) _)
                 have HO8 := hid (OwnR.grow' HO7.out HA8.out)
                 have HRW := hid (show RowsAt (W7.alloc (.cells #[.int .i64 p0, .int .i64 p1, .int .i64 p2, .int .i64 p3, .int .i64 p4, .int .i64 p5, .int .i64 p6, .int .i64 p7, .int .i64 p8] 36)) W7.heap.size 0 9 [[.int .i64 p0, .int .i64 p1, .int .i64 p2, .int .i64 p3, .int .i64 p4, .int .i64 p5, .int .i64 p6, .int .i64 p7, .int .i64 p8]] from RowsAt.one (heap_alloc_at _ _ _ rfl))
                 have HM8 := hid (show (ep.map Pt.row).length + 1 ≤ maxLen by rw [← HL7.out]; have := HEN.out; unfold maxLen; omega)
                 have HM9 := hid (show ((ep.map Pt.row).length + 1) * 72 ≤ 140737488355328 by rw [← HL7.out]; have := HEN.out; omega)
                 have HS8 := hid (show wr.heap.size ≤ (W7.alloc (.cells #[.int .i64 p0, .int .i64 p1, .int .i64 p2, .int .i64 p3, .int .i64 p4, .int .i64 p5, .int .i64 p6, .int .i64 p7, .int .i64 p8] 36)).heap.size from Nat.le_trans HB7.out.size HA8.out.size))
              | (at_builtin
                 refine wpList_append_rows rfl (.tmp 55) (.tmp 60) 22 rfl wr.heap.size 36 i0 _ 9 72 Try.underlying22 HI.out HZ0.out HZ1.out HZ2.out rfl (by decide) (.slice va en vc) _ [[.int .i64 p0, .int .i64 p1, .int .i64 p2, .int .i64 p3, .int .i64 p4, .int .i64 p5, .int .i64 p6, .int .i64 p7, .int .i64 p8]] rfl HO8.out W7.heap.size 0 1 1 rfl rfl HRW.out (wide9 _ _ _ _ _ _ _ _ _) HM8.out HM9.out HS8.out ?_
                 intro v8 W8 hown8 hg8 z5
                 clear z5 c0 c1 c2 c3 c4 c5 c6 c7 c8
                 have HO9 := hid (show OwnP W8 W2.heap.size v8 (ep ++ [⟨p0, p1, p2, p3, p4, p5, p6, p7, p8⟩]) from by
                   unfold OwnP
                   rw [List.map_append]
                   exact OwnR.mono hown8 hzq)
                 have HB8 := hid (show Below wr.heap.size wr W8 from (HB7.out.trans (HA8.out.mono HB7.out.size)).grown hg8 HS8.out (fun j hj => OwnR.ownBlock HO8.out j hj))
                 clear hown8 hg8
                 have HOC8 := hid (heap_still HB8.out HOC.out)
                 obtain ⟨ua, uc, hus⟩ := OwnP.slice HO9.out
                 obtain ⟨un, hun⟩ : ∃ un, un = (ep ++ [(⟨p0, p1, p2, p3, p4, p5, p6, p7, p8⟩ : Pt)]).length := ⟨_, rfl⟩
                 rw [← hun] at hus
                 clear hun
                 subst hus)
              | (refine pt_store1 rfl 22 (.tmp 63) (.tmp 61) rfl go (q * 5 + 4) _ rfl rfl rfl rfl HOC8.out size22 (by have := HOS.out; omega) ?_))
            have HT9 := hid (tiles_set HTQ.out HB8.out HE.out HOC8.out HO9.out)
            have HK9 := hid (((turned_row W8 go (ptL ocur (q * 5 + 4) [.slice ua un uc])).block g9 (Array.getElem?_eq_some_iff.1 (heap_still HB8.out HKQ.out)).1 hgk).trans (heap_still HB8.out HKQ.out))
            have HB9 := hid (below_row (X := ptL ocur (q * 5 + 4) [.slice ua un uc]) (HBQ.out.trans (HB8.out.mono hzq)) hoB)
            exact ⟨⟨q + 1, true, _, by omega, by go_num, rfl, HT9.out, HK9.out, HFIN.out _, HB9.out⟩, by simp [intOf]; omega⟩
          · have heq := HKE.out false (decide_eq_false hke).symm
            go_wp2_with fail
            refine wp_region_quiet_below (by kernel_rfl) (by kernel_rfl) ?_
            repeat (first | go_big_quiet_step (fail) | quiet_step (fail))
            refine wpQuiet_nil ?_
            intro _ hw'
            obtain ⟨⟨dqV, osV⟩, hw2⟩ := hw'
            subst hw2
            have HQV := hid (below_regrown wr dqV osV)
            generalize Sort.grow (redrawn wr dqV) osV = V at HQV ⊢
            have hsV := HQV.out.size
            clear a0 a1 a2 a3 b0 b1 b2 b3 heq
            go_wp2_with fail
            exact ⟨⟨q + 1, f, E', by omega, by go_num, rfl, HTQ.out.grow HQV.out, heap_still HQV.out HKQ.out, found_pass HFO.out HE.out hke, HBQ.out.trans (HQV.out.mono hzq)⟩, by simp [intOf]; omega⟩
        · obtain rfl : q = m := by omega
          have d2 : decide ((q : Int) < (q : Int)) = false := by simp
          have hwn : ∀ e ∈ E, e.ok ∧ e.pts.length ≤ i := HKS.out
          cases f
          · have HNO := hid (show E' = E ∧ ∀ e ∈ E, e.key ≠ k from by
              rcases HFO.out with ⟨_, h1, h2⟩ | ⟨h1, _⟩
              · refine ⟨h1, fun e he => ?_⟩
                obtain ⟨a, ha, rfl⟩ := List.mem_iff_getElem.1 he
                exact h2 a _ (by rw [HM.out]; exact ha) (List.getElem?_eq_getElem ha)
              · cases h1)
            obtain ⟨rfl, hno⟩ := HNO.out
            clear HNO
            have HNO := hid hno
            clear hno hwn
            have YPQ := hid (fun j hj => (HBQ.out.cell hgs).trans (YP.out j hj))
            have HGQ := hid (Nat.lt_of_lt_of_le hgs hzq)
            have HA0 := hid (Below.refl wr.heap.size wr)
            go_wp2_with fail
            refine gen_act (fun A0 hA => ?_)
            refine wp_region_tailU (by kernel_rfl) (by kernel_rfl) [some 67, some 68, some 69, some 70, some 71, some 72, some 73, some 74, some 75, some 76, some 7] rfl (by decide) 9 (by decide) (by kernel_rfl) (by kernel_rfl)
              [IsV (.slice oa q oc), IsV (.agg #[.int .i64 k.L, .int .i64 k.x, .int .i64 k.y, .int .i64 k.z]), IsV (.slice (some ⟨g, 0, none⟩) n lc), IsV (.int .i64 (i : Int)), IsV (.pointer (some ⟨g, i * 9, none⟩)), IsV (.agg #[.int .i64 p0, .int .i64 p1, .int .i64 p2, .int .i64 p3, .int .i64 p4, .int .i64 p5, .int .i64 p6, .int .i64 p7, .int .i64 p8]), Fresh36 wr.heap.size #[.int .i64 p0, .int .i64 p1, .int .i64 p2, .int .i64 p3, .int .i64 p4, .int .i64 p5, .int .i64 p6, .int .i64 p7, .int .i64 p8], FreshT wr.heap.size #[.int .i64 p0, .int .i64 p1, .int .i64 p2, .int .i64 p3, .int .i64 p4, .int .i64 p5, .int .i64 p6, .int .i64 p7, .int .i64 p8] k, FreshE wr.heap.size #[.int .i64 p0, .int .i64 p1, .int .i64 p2, .int .i64 p3, .int .i64 p4, .int .i64 p5, .int .i64 p6, .int .i64 p7, .int .i64 p8] k]
              ⟨IsV.stb _, IsV.stb _, IsV.stb _, IsV.stb _, IsV.stb _, IsV.stb _, Fresh36.stb _ _, FreshT.stb _ _ _, FreshE.stb _ _ _, trivial⟩ ?hs1_18_W7 ?hend_18_W7
            case hs1_18_W7 =>
              refine ⟨?_, ?_, ?_, ?_, ?_, ?_, ?_, ?_, ?_, trivial⟩
              · intro K us W hK0 hB hd
                have hK := hid hK0; clear hK0
                intro hu
                have HBW := hid hB
                have hsW := hB.size
                have GB := hid (HA0.out.trans (hB.mono HA0.out.size))
                have e10 : us 10 = .slice oa q oc := (hu 10 (by decide)).trans (by rw [hA]; kernel_rfl)
                clear hd hu
                simp only [putF]
                rw [hA, e10]
                go_frame
                go_wp2_with fail
                exact hK.out _ _ _ (by rw [hA]; simp only [putF]; rw [e10]; kernel_rfl) (Below.refl _ _) rfl
              · intro K us W hK0 hB hd
                have hK := hid hK0; clear hK0
                intro hu
                have HBW := hid hB
                have hsW := hB.size
                have GB := hid (HA0.out.trans (hB.mono HA0.out.size))
                clear hd hu
                have G0 := hid (heap_still hB HKQ.out)
                have c0 : W.cell? ⟨g9, 0, none⟩ = some (.int .i64 k.L) := (cell_row (j := 0) G0.out).trans rfl
                have c1 : W.cell? ⟨g9, 1, none⟩ = some (.int .i64 k.x) := (cell_row (j := 1) G0.out).trans rfl
                have c2 : W.cell? ⟨g9, 2, none⟩ = some (.int .i64 k.y) := (cell_row (j := 2) G0.out).trans rfl
                have c3 : W.cell? ⟨g9, 3, none⟩ = some (.int .i64 k.z) := (cell_row (j := 3) G0.out).trans rfl
                simp only [putF]
                rw [hA]
                go_frame
                go_wp2_with fail
                exact hK.out _ _ _ (by rw [hA]; simp only [putF]; kernel_rfl) (Below.refl _ _) rfl
              · intro K us W hK0 hB hd
                have hK := hid hK0; clear hK0
                intro hu
                have HBW := hid hB
                have hsW := hB.size
                have GB := hid (HA0.out.trans (hB.mono HA0.out.size))
                clear hd hu
                simp only [putF]
                rw [hA]
                go_frame
                go_wp2_with fail
                exact hK.out _ _ _ (by rw [hA]; simp only [putF]; kernel_rfl) (Below.refl _ _) rfl
              · intro K us W hK0 hB hd
                have hK := hid hK0; clear hK0
                intro hu
                have HBW := hid hB
                have hsW := hB.size
                have GB := hid (HA0.out.trans (hB.mono HA0.out.size))
                clear hd hu
                simp only [putF]
                rw [hA]
                go_frame
                go_wp2_with fail
                exact hK.out _ _ _ (by rw [hA]; simp only [putF]; kernel_rfl) (Below.refl _ _) rfl
              · intro K us W hK0 hB hd
                have hK := hid hK0; clear hK0
                intro hu
                have HBW := hid hB
                have hsW := hB.size
                have GB := hid (HA0.out.trans (hB.mono HA0.out.size))
                have e2 : us 2 = .slice (some ⟨g, 0, none⟩) n lc := hd ⟨2, Ground.data⟩ (by simp) rfl
                have e3 : us 3 = .int .i64 (i : Int) := hd ⟨3, Ground.data⟩ (by simp) rfl
                clear hd hu
                simp only [putF]
                rw [hA, e2, e3]
                go_frame
                go_wp2_with fail
                exact hK.out _ _ _ (by rw [hA]; simp only [putF]; rw [e2, e3]; kernel_rfl) (Below.refl _ _) rfl
              · intro K us W hK0 hB hd
                have hK := hid hK0; clear hK0
                intro hu
                have HBW := hid hB
                have hsW := hB.size
                have GB := hid (HA0.out.trans (hB.mono HA0.out.size))
                have e4 : us 4 = .pointer (some ⟨g, i * 9, none⟩) := hd ⟨4, Ground.data⟩ (by simp) rfl
                clear hd hu
                have c0 : W.cell? ⟨g, i * 9, none⟩ = some (.int .i64 p0) := by rw [hB.cell HGQ.out]; exact YPQ.out 0 (by decide)
                have c1 : W.cell? ⟨g, i * 9 + 1, none⟩ = some (.int .i64 p1) := by rw [hB.cell HGQ.out]; exact YPQ.out 1 (by decide)
                have c2 : W.cell? ⟨g, i * 9 + 2, none⟩ = some (.int .i64 p2) := by rw [hB.cell HGQ.out]; exact YPQ.out 2 (by decide)
                have c3 : W.cell? ⟨g, i * 9 + 3, none⟩ = some (.int .i64 p3) := by rw [hB.cell HGQ.out]; exact YPQ.out 3 (by decide)
                have c4 : W.cell? ⟨g, i * 9 + 4, none⟩ = some (.int .i64 p4) := by rw [hB.cell HGQ.out]; exact YPQ.out 4 (by decide)
                have c5 : W.cell? ⟨g, i * 9 + 5, none⟩ = some (.int .i64 p5) := by rw [hB.cell HGQ.out]; exact YPQ.out 5 (by decide)
                have c6 : W.cell? ⟨g, i * 9 + 6, none⟩ = some (.int .i64 p6) := by rw [hB.cell HGQ.out]; exact YPQ.out 6 (by decide)
                have c7 : W.cell? ⟨g, i * 9 + 7, none⟩ = some (.int .i64 p7) := by rw [hB.cell HGQ.out]; exact YPQ.out 7 (by decide)
                have c8 : W.cell? ⟨g, i * 9 + 8, none⟩ = some (.int .i64 p8) := by rw [hB.cell HGQ.out]; exact YPQ.out 8 (by decide)
                simp only [putF]
                rw [hA, e4]
                go_frame
                go_wp2_with fail
                exact hK.out _ _ _ (by rw [hA]; simp only [putF]; rw [e4]; kernel_rfl) (Below.refl _ _) rfl
              · intro K us W hK0 hB hd
                have hK := hid hK0; clear hK0
                intro hu
                have HBW := hid hB
                have hsW := hB.size
                have GB := hid (HA0.out.trans (hB.mono HA0.out.size))
                have e5 : us 5 = .agg #[.int .i64 p0, .int .i64 p1, .int .i64 p2, .int .i64 p3, .int .i64 p4, .int .i64 p5, .int .i64 p6, .int .i64 p7, .int .i64 p8] := hd ⟨5, Ground.data⟩ (by simp) rfl
                clear hd hu
                simp only [putF]
                rw [hA, e5]
                go_frame
                go_wp2_with fail
                exact hK.out _ _ _ (by rw [hA]; simp only [putF]; rw [e5]; kernel_rfl) ((Below.refl _ _).alloc (Nat.le_refl _) _) (⟨_, rfl, hsW, heap_alloc_at _ _ _ rfl⟩)
              · intro K us W hK0 hB hd
                have hK := hid hK0; clear hK0
                intro hu
                have HBW := hid hB
                have hsW := hB.size
                have GB := hid (HA0.out.trans (hB.mono HA0.out.size))
                have e1 : us 1 = .agg #[.int .i64 k.L, .int .i64 k.x, .int .i64 k.y, .int .i64 k.z] := hd ⟨1, Ground.data⟩ (by simp) rfl
                have hd6 : (Fresh36 wr.heap.size #[.int .i64 p0, .int .i64 p1, .int .i64 p2, .int .i64 p3, .int .i64 p4, .int .i64 p5, .int .i64 p6, .int .i64 p7, .int .i64 p8]) W (us 6) := hd ⟨6, Ground.data⟩ (by simp) rfl
                obtain ⟨g6, e6, hg6, hh6⟩ := hd6
                clear hd hu
                simp only [putF]
                rw [hA, e1, e6]
                go_frame
                go_wp2_with fail
                exact hK.out _ _ _ (by rw [hA]; simp only [putF]; rw [e1, e6]; kernel_rfl) (Below.refl _ _) (⟨_, rfl, hg6, hh6⟩)
              · intro K us W hK0 hB hd
                have hK := hid hK0; clear hK0
                intro hu
                have HBW := hid hB
                have hsW := hB.size
                have GB := hid (HA0.out.trans (hB.mono HA0.out.size))
                have hd7 : (FreshT wr.heap.size #[.int .i64 p0, .int .i64 p1, .int .i64 p2, .int .i64 p3, .int .i64 p4, .int .i64 p5, .int .i64 p6, .int .i64 p7, .int .i64 p8] k) W (us 7) := hd ⟨7, Ground.data⟩ (by simp) rfl
                obtain ⟨g7, e7, hg7, hh7⟩ := hd7
                clear hd hu
                simp only [putF]
                rw [hA, e7]
                go_frame
                go_wp2_with fail
                exact hK.out _ _ _ (by rw [hA]; simp only [putF]; rw [e7]; kernel_rfl) ((Below.refl _ _).alloc (Nat.le_refl _) _) (⟨_, rfl, hsW, g7, hg7, heap_alloc_at _ _ _ rfl, heap_alloc_past _ _ _ _ hh7⟩)
            intro us W7 hB hp
            have e0 : us 0 = .slice oa q oc := hp 0 (by decide)
            have hd8 : (FreshE wr.heap.size #[.int .i64 p0, .int .i64 p1, .int .i64 p2, .int .i64 p3, .int .i64 p4, .int .i64 p5, .int .i64 p6, .int .i64 p7, .int .i64 p8] k) W7 (us 8) := hp 8 (by decide)
            obtain ⟨g8, e8, hg8, hh8⟩ := hd8
            have HB7 := hid (HA0.out.trans (hB.mono HA0.out.size))
            have HSW7 := hid (fun n x => @heap_still _ _ n x hB)
            have hzW7 := hB.size
            have hbW7 := hid hB
            clear hp
            clear hB
            simp only [putF]
            rw [hA, e0, e8]
            clear hA e0 e8
            go_frame
            obtain ⟨gp, hgp, ht8, hp8⟩ := hh8
            have HTW := hid (HTQ.out.grow hbW7.out)
            have HP8 := hid hp8
            have HGP := hid (Nat.le_trans hzq hgp)
            have HL4 := hid (show (E'.map Te.row).length + 1 ≤ maxLen by rw [List.length_map, ← HM.out]; unfold maxLen; omega)
            have HL5 := hid (show ((E'.map Te.row).length + 1) * 56 ≤ 140737488355328 by rw [List.length_map, ← HM.out]; omega)
            have HS7 := hid (Nat.le_trans hzq hbW7.out.size)
            have HRW := hid (show RowsAt W7 g8 0 5 [Te.row ⟨k, .slice (some ⟨gp, 0, none⟩) 1 1, [⟨p0, p1, p2, p3, p4, p5, p6, p7, p8⟩]⟩] from RowsAt.one ht8)
            refine seq_step rfl ?_
            intro K hK0
            have hK := hid hK0
            clear hK0
            refine wpList_append_rows rfl (.tmp 67) (.tmp 75) 24 rfl W2.heap.size 49 i1 _ 5 56 Try.underlying24 JI.out JZ0.out JZ1.out JZ2.out rfl (by decide) (.slice oa q oc) _ [Te.row ⟨k, .slice (some ⟨gp, 0, none⟩) 1 1, [⟨p0, p1, p2, p3, p4, p5, p6, p7, p8⟩]⟩] rfl HTW.out.1 g8 0 1 1 rfl rfl HRW.out (wide5 _ _ _ _ _ _ _) HL4.out HL5.out HS7.out ?_
            intro v9 W9 hown9 hgr9 halt9
            have HT9 := hid (tiles_new HTW.out HP8.out HGP.out hown9 hgr9)
            have HB9 := hid (show Below W2.heap.size W2 W9 from (HBQ.out.trans (hbW7.out.mono hzq)).grown hgr9 HS7.out (fun j hj => OwnR.ownBlock HTW.out.1 j hj))
            clear hown9 hgr9 halt9 ht8 hp8
            go_wp2_with fail
            refine hK.out v9 _ _ (by kernel_rfl) ?_
            clear hK
            refine seq_step rfl ?_
            intro K hK0
            have hK := hid hK0
            clear hK0
            try go_frame
            go_wp2_with fail
            refine hK.out v9 _ _ (by kernel_rfl) ?_
            clear hK
            refine seq_end rfl ?_
            go_wp2_with fail
            refine ⟨⟨i + 1, _, by omega, by go_num, HT9.out, lay_new HTL.out HPI.out HAT.out HNO.out, fun e he => ?_, by rw [List.length_append, ← HM.out]; show q + 1 ≤ _; omega, HB9.out⟩, by simp [intOf]; omega⟩
            rcases List.mem_append.1 he with q1 | q1
            · exact ⟨(HKS.out e q1).1, Nat.le_succ_of_le (HKS.out e q1).2⟩
            · obtain rfl := List.mem_singleton.1 q1
              exact ⟨⟨HSM.out, rfl⟩, by show 1 ≤ i + 1; omega⟩
          · have HNX := hid (show ∃ (a : Nat) (e : Te) (v : Value), E[a]? = some e ∧ e.key = k ∧ E' = E.set a ⟨e.key, v, e.pts ++ [⟨p0, p1, p2, p3, p4, p5, p6, p7, p8⟩]⟩ from by
              rcases HFO.out with ⟨h1, _⟩ | ⟨_, a, e, v, _, h2, h3, h4⟩
              · cases h1
              · exact ⟨a, e, v, h2, h3, h4⟩)
            clear hwn
            go_wp2_with fail
            obtain ⟨a, e, v, h2, h3, h4⟩ := HNX.out
            refine ⟨⟨i + 1, E', by omega, by go_num, HTQ.out, h4 ▸ lay_more HTL.out HPI.out HAT.out HAS.out h2 h3, fun f hf => ?_, by rw [h4, List.length_set, ← HM.out]; omega, HBQ.out⟩, by simp [intOf]; omega⟩
            have hown := HTQ.out.2 f hf
            rw [h4] at hf
            rcases List.mem_or_eq_of_mem_set hf with q1 | q1
            · exact ⟨(HKS.out f q1).1, Nat.le_succ_of_le (HKS.out f q1).2⟩
            · have h5 := HKS.out e (List.mem_of_getElem? h2)
              obtain ⟨za, zc, hz⟩ := hown.slice
              refine ⟨⟨by rw [q1]; exact h5.1.1, by rw [hz]; rfl⟩, ?_⟩
              rw [q1, List.length_append]
              show e.pts.length + 1 ≤ i + 1
              have := h5.2
              omega
    · obtain rfl : i = n := by omega
      have d1 : decide ((i : Int) < (i : Int)) = false := by simp
      have HALL := hid (show Tiles (fun p k => p ∈ S ∧ isAt S c p k) (E.map Te.tl) from HTL.out.congr (fun p k => by
        unfold QL
        rw [← HLN.out, List.take_length, HPM.out.mem_iff, isAt_perm HPM.out]))
      go_wp2_with fail
      go_loopw [80] (fun iv W => TOut W2 E m (.slice oa m oc) iv W) (fun iv _ => m - (intOf iv).toNat)
      case atStart => exact ⟨0, E, by omega, rfl, List.Perm.refl _, fun a b x y _ h => by omega, HTE.out, HBX.out⟩
      case round =>
        obtain ⟨j, Fo, hj, rfl, hpm, hst, hto, hB⟩ := hrel
        have HPF := hid hpm
        have HST := hid hst
        have HTO := hid hto
        have HBO := hid hB
        clear hpm hst hto hB
        by_cases hlt2 : j < m
        · have d2 : decide ((j : Int) < (m : Int)) = true := decide_eq_true (by omega)
          go_wp2_with fail
          go_loopw [14] (fun kv W => TInn W2 E j (.slice oa m oc) kv W) (fun kv _ => (intOf kv).toNat)
          case atStart => exact ⟨j, Fo, by omega, rfl, HPF.out, ins_start HST.out, HTO.out, HBO.out⟩
          case round =>
            obtain ⟨k, Fk, hk, rfl, hpm, hin, hto, hB⟩ := hrel
            have HPK := hid hpm
            have HIN := hid hin
            have HTK := hid hto
            have HBK := hid hB
            have hzk := hB.size
            clear hpm hin hto hB
            have hLn : Fk.length = m := by rw [HPK.out.length_eq]; exact HM.out.symm
            by_cases hk0 : k = 0
            · subst hk0
              go_wp2_with fail
              refine wp_region_quiet_below (by kernel_rfl) (by kernel_rfl) ?_
              repeat (first | go_big_quiet_step (fail) | quiet_step (fail))
              refine wpQuiet_nil ?_
              intro _ hw'
              obtain ⟨⟨dqV, osV⟩, hw2⟩ := hw'
              subst hw2
              have HQV := hid (below_regrown wr dqV osV)
              generalize Sort.grow (redrawn wr dqV) osV = V at HQV ⊢
              have hsV := HQV.out.size
              go_wp2_with fail
              exact ⟨⟨j + 1, Fk, by omega, by go_num, HPK.out, ins_end (r := kLt) (k := 0) (fun x y z h1 h2 => Ky.not_lt_trans h2 h1) HIN.out (Nat.zero_le _) (fun x y h => by omega), HTK.out.grow HQV.out, HBK.out.trans (HQV.out.mono hzk)⟩, by simp [intOf]; omega⟩
            · obtain ⟨p, hp⟩ : ∃ p, Fk[k]? = some p := ⟨_, List.getElem?_eq_getElem (by omega)⟩
              obtain ⟨q, hq⟩ : ∃ q, Fk[k - 1]? = some q := ⟨_, List.getElem?_eq_getElem (by omega)⟩
              obtain ⟨g, oc', ocur, hos, hgb, hoc, hor, hocap, _, hocs⟩ := OwnR.rows HTK.out.1 (by rw [List.length_map]; omega)
              obtain ⟨rfl, rfl⟩ : oa = some ⟨g, 0, none⟩ ∧ oc = oc' := by
                injection hos with e1 e2 e3
                exact ⟨e1, e3⟩
              have hcp : ∀ e, e < 5 → wr.cell? ⟨g, k * 5 + e, none⟩ = p.row[e]? := fun e he => by
                have := hor k p.row (by rw [List.getElem?_map, hp]; rfl) e he
                rw [Nat.zero_add] at this
                exact this
              have hcq : ∀ e, e < 5 → wr.cell? ⟨g, (k - 1) * 5 + e, none⟩ = q.row[e]? := fun e he => by
                have := hor (k - 1) q.row (by rw [List.getElem?_map, hq]; rfl) e he
                rw [Nat.zero_add] at this
                exact this
              have HPX := hid hp
              have HQY := hid hq
              have HOKP := hid (show p.ok from (HKS.out p (HPK.out.mem_iff.1 (List.mem_of_getElem? hp))).1)
              have HOKQ := hid (show q.ok from (HKS.out q (HPK.out.mem_iff.1 (List.mem_of_getElem? hq))).1)
              obtain ⟨pa, pc, hpv⟩ := (HTK.out.2 p (List.mem_of_getElem? hp)).slice
              obtain ⟨qa, qc, hqv⟩ := (HTK.out.2 q (List.mem_of_getElem? hq)).slice
              have HPV := hid hpv
              have HQW := hid hqv
              have hCn : m * 5 ≤ ocur.size := by
                rw [hocs]
                rw [List.length_map, hLn] at hocap
                exact Nat.mul_le_mul_right 5 hocap
              have HOC := hid hoc
              clear hos hor hocap hocs hp hq hpv hqv hoc hLn
              obtain ⟨⟨p0, p1, p2, p3⟩, pv, pl⟩ := p
              obtain ⟨⟨q0, q1, q2, q3⟩, qv, ql⟩ := q
              obtain rfl : pv = .slice pa pl.length pc := HPV.out
              obtain rfl : qv = .slice qa ql.length qc := HQW.out
              obtain ⟨pn, hpn⟩ : ∃ pn, pn = pl.length := ⟨_, rfl⟩
              obtain ⟨qn, hqn⟩ : ∃ qn, qn = ql.length := ⟨_, rfl⟩
              simp only [Te.row, Ky.row, ← hpn, ← hqn] at hcp hcq
              simp only [← hpn, ← hqn] at HPX HQY HOKP HOKQ
              have a0 := fun d os => cell_regrown (show wr.cell? ⟨g, k * 5, none⟩ = some (.int .i64 p0) from hcp 0 (by decide)) d os
              have a1 := fun d os => cell_regrown (show wr.cell? ⟨g, k * 5 + 1, none⟩ = some (.int .i64 p1) from hcp 1 (by decide)) d os
              have a2 := fun d os => cell_regrown (show wr.cell? ⟨g, k * 5 + 2, none⟩ = some (.int .i64 p2) from hcp 2 (by decide)) d os
              have a3 := fun d os => cell_regrown (show wr.cell? ⟨g, k * 5 + 3, none⟩ = some (.int .i64 p3) from hcp 3 (by decide)) d os
              have b0 := fun d os => cell_regrown (show wr.cell? ⟨g, (k - 1) * 5, none⟩ = some (.int .i64 q0) from hcq 0 (by decide)) d os
              have b1 := fun d os => cell_regrown (show wr.cell? ⟨g, (k - 1) * 5 + 1, none⟩ = some (.int .i64 q1) from hcq 1 (by decide)) d os
              have b2 := fun d os => cell_regrown (show wr.cell? ⟨g, (k - 1) * 5 + 2, none⟩ = some (.int .i64 q2) from hcq 2 (by decide)) d os
              have b3 := fun d os => cell_regrown (show wr.cell? ⟨g, (k - 1) * 5 + 3, none⟩ = some (.int .i64 q3) from hcq 3 (by decide)) d os
              have YP := hid hcp
              have YQ := hid hcq
              have hg0 : decide ((0 : Int) < (k : Int)) = true := decide_eq_true (by omega)
              have hg1 : 0 < k := by omega
              clear hcp hcq hpn hqn
              by_cases hlt3 : (⟨p0, p1, p2, p3⟩ : Ky).lt ⟨q0, q1, q2, q3⟩
              · have HBF := hid (show ∀ W, Calls Try.prog 57 #[.agg #[.int .i64 p0, .int .i64 p1, .int .i64 p2, .int .i64 p3], .agg #[.int .i64 q0, .int .i64 q1, .int .i64 q2, .int .i64 q3]] W fun r w' => r = .returned (.bool true) ∧ Below W.heap.size W w' from fun W => decide_eq_true hlt3 ▸ before_any ⟨p0, p1, p2, p3⟩ ⟨q0, q1, q2, q3⟩ W)
                have HLT := hid hlt3
                clear hlt3
                go_wp2_with fail
                refine wp_region_quiet_below (by kernel_rfl) (by kernel_rfl) ?_
                repeat (first | go_big_quiet_step ((go_at_call 57; with_reducible exact Calls.regrown_of (HBF.out _))) | quiet_step ((go_at_call 57; with_reducible exact Calls.regrown_of (HBF.out _))))
                refine wpQuiet_nil ?_
                intro _ hw'
                obtain ⟨⟨dqV, osV⟩, hw2⟩ := hw'
                subst hw2
                have HQV := hid (below_regrown wr dqV osV)
                generalize Sort.grow (redrawn wr dqV) osV = V at HQV ⊢
                have hsV := HQV.out.size
                have HTV := hid (HTK.out.grow HQV.out)
                have HBV := hid (HBK.out.trans (HQV.out.mono hzk))
                have YC := hid (heap_still HQV.out HOC.out)
                have hgw : g < wr.heap.size := (Array.getElem?_eq_some_iff.1 HOC.out).1
                have YPV := hid (fun e he => (HQV.out.cell hgw).trans (YP.out e he))
                have YQV := hid (fun e he => (HQV.out.cell hgw).trans (YQ.out e he))
                clear a0 a1 a2 a3 b0 b1 b2 b3
                go_wp2_with fail
                refine gen_act (fun A0 hA => ?_)
                refine wp_region_by (by kernel_rfl) (by kernel_rfl) [some 102, some 103, some 104, some 105, some 106, some 107, some 108, some 109, some 110, some 111, some 112, some 113, some 114, some 115, some 116, none, some 117, none] rfl (by decide) (TwoT V.drew (V.drew.setRow g (ptL ocur (k * 5) [.int .i64 q0, .int .i64 q1, .int .i64 q2, .int .i64 q3, .slice qa qn qc])) ((V.drew.setRow g (ptL ocur (k * 5) [.int .i64 q0, .int .i64 q1, .int .i64 q2, .int .i64 q3, .slice qa qn qc])).setRow g (ptL (ptL ocur (k * 5) [.int .i64 q0, .int .i64 q1, .int .i64 q2, .int .i64 q3, .slice qa qn qc]) ((k - 1) * 5) [.int .i64 p0, .int .i64 p1, .int .i64 p2, .int .i64 p3, .slice pa pn pc])) 15 17 [0, 1, 5, 6, 7, 8, 9, 13, 14] [.slice (some ⟨g, 0, none⟩) m oc, .int .i64 (k : Int), .slice (some ⟨g, 0, none⟩) m oc, .int .i64 (k : Int), .int .i64 ((k : Int) - 1), .slice (some ⟨g, 0, none⟩) m oc, .int .i64 (k : Int), .int .i64 ((k : Int) - 1), .pointer (some ⟨g, (k - 1) * 5, none⟩), .agg #[.int .i64 q0, .int .i64 q1, .int .i64 q2, .int .i64 q3, .slice qa qn qc], .slice (some ⟨g, 0, none⟩) m oc, .int .i64 (k : Int), .pointer (some ⟨g, k * 5, none⟩), .agg #[.int .i64 p0, .int .i64 p1, .int .i64 p2, .int .i64 p3, .slice pa pn pc], .pointer (some ⟨g, k * 5, none⟩), undef, .pointer (some ⟨g, (k - 1) * 5, none⟩), undef]) (selfF A0 _) (putF_self A0 _) TwoT.start ?hs1_26_W1 ?hend_26_W1
                case hs1_26_W1 =>
                  refine ⟨?_, ?_, ?_, ?_, ?_, ?_, ?_, ?_, ?_, ?_, ?_, ?_, ?_, ?_, ?_, ?_, ?_, ?_, trivial⟩
                  · intro K L us W hK0 hL hd hR
                    have hK := hid (fun v A' h1 h2 => hK0 v A' W h1 (hR.pure 0 (by decide) (by decide) h2)); clear hK0
                    (try simp [Region.binds] at hd)
                    clear hd hR
                    simp only [putF]
                    rw [hA]
                    go_frame
                    go_wp2_with fail
                    exact hK.out _ _ (by rw [hA]; simp only [putF]; kernel_rfl) rfl
                  · intro K L us W hK0 hL hd hR
                    have hK := hid (fun v A' h1 h2 => hK0 v A' W h1 (hR.pure 1 (by decide) (by decide) h2)); clear hK0
                    (try simp [Region.binds] at hd)
                    clear hd hR
                    simp only [putF]
                    rw [hA]
                    go_frame
                    go_wp2_with fail
                    exact hK.out _ _ (by rw [hA]; simp only [putF]; kernel_rfl) rfl
                  · intro K L us W hK0 hL hd hR
                    have hK := hid (fun v A' h1 h2 => hK0 v A' W h1 (hR.pure 2 (by decide) (by decide) h2)); clear hK0
                    (try simp [Region.binds] at hd)
                    clear hd hR
                    simp only [putF]
                    rw [hA]
                    go_frame
                    go_wp2_with fail
                    exact hK.out _ _ (by rw [hA]; simp only [putF]; kernel_rfl) rfl
                  · intro K L us W hK0 hL hd hR
                    have hK := hid (fun v A' h1 h2 => hK0 v A' W h1 (hR.pure 3 (by decide) (by decide) h2)); clear hK0
                    (try simp [Region.binds] at hd)
                    clear hd hR
                    simp only [putF]
                    rw [hA]
                    go_frame
                    go_wp2_with fail
                    exact hK.out _ _ (by rw [hA]; simp only [putF]; kernel_rfl) rfl
                  · intro K L us W hK0 hL hd hR
                    have hK := hid (fun v A' h1 h2 => hK0 v A' W h1 (hR.pure 4 (by decide) (by decide) h2)); clear hK0
                    (try simp [Region.binds] at hd)
                    have e3 : us 3 = .int .i64 (k : Int) := hR.vals 3 (by simp [hd]) (by decide) (by decide)
                    clear hd hR
                    simp only [putF]
                    rw [hA, e3]
                    go_frame
                    go_wp2_with fail
                    exact hK.out _ _ (by rw [hA]; simp only [putF]; rw [e3]; kernel_rfl) rfl
                  · intro K L us W hK0 hL hd hR
                    have hK := hid (fun v A' h1 h2 => hK0 v A' W h1 (hR.pure 5 (by decide) (by decide) h2)); clear hK0
                    (try simp [Region.binds] at hd)
                    clear hd hR
                    simp only [putF]
                    rw [hA]
                    go_frame
                    go_wp2_with fail
                    exact hK.out _ _ (by rw [hA]; simp only [putF]; kernel_rfl) rfl
                  · intro K L us W hK0 hL hd hR
                    have hK := hid (fun v A' h1 h2 => hK0 v A' W h1 (hR.pure 6 (by decide) (by decide) h2)); clear hK0
                    (try simp [Region.binds] at hd)
                    clear hd hR
                    simp only [putF]
                    rw [hA]
                    go_frame
                    go_wp2_with fail
                    exact hK.out _ _ (by rw [hA]; simp only [putF]; kernel_rfl) rfl
                  · intro K L us W hK0 hL hd hR
                    have hK := hid (fun v A' h1 h2 => hK0 v A' W h1 (hR.pure 7 (by decide) (by decide) h2)); clear hK0
                    (try simp [Region.binds] at hd)
                    have e6 : us 6 = .int .i64 (k : Int) := hR.vals 6 (by simp [hd]) (by decide) (by decide)
                    clear hd hR
                    simp only [putF]
                    rw [hA, e6]
                    go_frame
                    go_wp2_with fail
                    exact hK.out _ _ (by rw [hA]; simp only [putF]; rw [e6]; kernel_rfl) rfl
                  · intro K L us W hK0 hL hd hR
                    have hK := hid (fun v A' h1 h2 => hK0 v A' W h1 (hR.pure 8 (by decide) (by decide) h2)); clear hK0
                    (try simp [Region.binds] at hd)
                    have e5 : us 5 = .slice (some ⟨g, 0, none⟩) m oc := hR.vals 5 (by simp [hd]) (by decide) (by decide)
                    have e7 : us 7 = .int .i64 ((k : Int) - 1) := hR.vals 7 (by simp [hd]) (by decide) (by decide)
                    clear hd hR
                    simp only [putF]
                    rw [hA, e5, e7]
                    go_frame
                    go_wp2_with fail
                    exact hK.out _ _ (by rw [hA]; simp only [putF]; rw [e5, e7]; kernel_rfl) rfl
                  · intro K L us W hK0 hL hd hR
                    have hK := hid (fun v A' h1 h2 => hK0 v A' W h1 (hR.pure 9 (by decide) (by decide) h2)); clear hK0
                    (try simp [Region.binds] at hd)
                    have e8 : us 8 = .pointer (some ⟨g, (k - 1) * 5, none⟩) := hR.vals 8 (by simp [hd]) (by decide) (by decide)
                    have hW := hR.at0 (k := 9) (by decide) hL
                    clear hd hR
                    subst hW
                    have c0 : V.drew.cell? ⟨g, (k - 1) * 5, none⟩ = some (.int .i64 q0) := YQV.out 0 (by decide)
                    have c1 : V.drew.cell? ⟨g, (k - 1) * 5 + 1, none⟩ = some (.int .i64 q1) := YQV.out 1 (by decide)
                    have c2 : V.drew.cell? ⟨g, (k - 1) * 5 + 2, none⟩ = some (.int .i64 q2) := YQV.out 2 (by decide)
                    have c3 : V.drew.cell? ⟨g, (k - 1) * 5 + 3, none⟩ = some (.int .i64 q3) := YQV.out 3 (by decide)
                    have c4 : V.drew.cell? ⟨g, (k - 1) * 5 + 4, none⟩ = some (.slice qa qn qc) := YQV.out 4 (by decide)
                    simp only [putF]
                    rw [hA, e8]
                    go_frame
                    go_wp2_with fail
                    exact hK.out _ _ (by rw [hA]; simp only [putF]; rw [e8]; kernel_rfl) rfl
                  · intro K L us W hK0 hL hd hR
                    have hK := hid (fun v A' h1 h2 => hK0 v A' W h1 (hR.pure 10 (by decide) (by decide) h2)); clear hK0
                    (try simp [Region.binds] at hd)
                    clear hd hR
                    simp only [putF]
                    rw [hA]
                    go_frame
                    go_wp2_with fail
                    exact hK.out _ _ (by rw [hA]; simp only [putF]; kernel_rfl) rfl
                  · intro K L us W hK0 hL hd hR
                    have hK := hid (fun v A' h1 h2 => hK0 v A' W h1 (hR.pure 11 (by decide) (by decide) h2)); clear hK0
                    (try simp [Region.binds] at hd)
                    clear hd hR
                    simp only [putF]
                    rw [hA]
                    go_frame
                    go_wp2_with fail
                    exact hK.out _ _ (by rw [hA]; simp only [putF]; kernel_rfl) rfl
                  · intro K L us W hK0 hL hd hR
                    have hK := hid (fun v A' h1 h2 => hK0 v A' W h1 (hR.pure 12 (by decide) (by decide) h2)); clear hK0
                    (try simp [Region.binds] at hd)
                    have e10 : us 10 = .slice (some ⟨g, 0, none⟩) m oc := hR.vals 10 (by simp [hd]) (by decide) (by decide)
                    have e11 : us 11 = .int .i64 (k : Int) := hR.vals 11 (by simp [hd]) (by decide) (by decide)
                    clear hd hR
                    simp only [putF]
                    rw [hA, e10, e11]
                    go_frame
                    go_wp2_with fail
                    exact hK.out _ _ (by rw [hA]; simp only [putF]; rw [e10, e11]; kernel_rfl) rfl
                  · intro K L us W hK0 hL hd hR
                    have hK := hid (fun v A' h1 h2 => hK0 v A' W h1 (hR.pure 13 (by decide) (by decide) h2)); clear hK0
                    (try simp [Region.binds] at hd)
                    have e12 : us 12 = .pointer (some ⟨g, k * 5, none⟩) := hR.vals 12 (by simp [hd]) (by decide) (by decide)
                    have hW := hR.at0 (k := 13) (by decide) hL
                    clear hd hR
                    subst hW
                    have c0 : V.drew.cell? ⟨g, k * 5, none⟩ = some (.int .i64 p0) := YPV.out 0 (by decide)
                    have c1 : V.drew.cell? ⟨g, k * 5 + 1, none⟩ = some (.int .i64 p1) := YPV.out 1 (by decide)
                    have c2 : V.drew.cell? ⟨g, k * 5 + 2, none⟩ = some (.int .i64 p2) := YPV.out 2 (by decide)
                    have c3 : V.drew.cell? ⟨g, k * 5 + 3, none⟩ = some (.int .i64 p3) := YPV.out 3 (by decide)
                    have c4 : V.drew.cell? ⟨g, k * 5 + 4, none⟩ = some (.slice pa pn pc) := YPV.out 4 (by decide)
                    simp only [putF]
                    rw [hA, e12]
                    go_frame
                    go_wp2_with fail
                    exact hK.out _ _ (by rw [hA]; simp only [putF]; rw [e12]; kernel_rfl) rfl
                  · intro K L us W hK0 hL hd hR
                    have hK := hid (fun v A' h1 h2 => hK0 v A' W h1 (hR.pure 14 (by decide) (by decide) h2)); clear hK0
                    (try simp [Region.binds] at hd)
                    have e0 : us 0 = .slice (some ⟨g, 0, none⟩) m oc := hR.vals 0 (by simp [hd]) (by decide) (by decide)
                    have e1 : us 1 = .int .i64 (k : Int) := hR.vals 1 (by simp [hd]) (by decide) (by decide)
                    clear hd hR
                    simp only [putF]
                    rw [hA, e0, e1]
                    go_frame
                    go_wp2_with fail
                    exact hK.out _ _ (by rw [hA]; simp only [putF]; rw [e0, e1]; kernel_rfl) rfl
                  · intro K L us W hK0 hL hd hR
                    simp [Region.binds] at hd
                    have e14 : us 14 = .pointer (some ⟨g, k * 5, none⟩) := hR.vals 14 (by simp [hd]) (by decide) (by decide)
                    have e9 : us 9 = .agg #[.int .i64 q0, .int .i64 q1, .int .i64 q2, .int .i64 q3, .slice qa qn qc] := hR.vals 9 (by simp [hd]) (by decide) (by decide)
                    have hp : ∀ j ∈ [0, 1, 5, 6, 7, 8, 9, 13, 14], L j = true := by
                      intro j hj
                      simp only [List.mem_cons, List.not_mem_nil, or_false] at hj
                      rcases hj with rfl | rfl | rfl | rfl | rfl | rfl | rfl | rfl | rfl
                      all_goals (simp [hd])
                    have hW := (hR.fst (v := undef) hL hp (by decide)).1
                    have hK := hid (fun A' h1 => hK0 undef A' _ h1 (hR.fst hL hp (by decide)).2); clear hK0 hp
                    clear hd hR
                    subst hW
                    simp only [putF]
                    rw [hA, e14, e9]
                    go_frame
                    go_wp2_with (refine pt_store rfl 49 (.tmp 116) (.tmp 111) rfl g (k * 5) _ rfl rfl (show V.drew.heap[g]? = _ from YC.out) size49r rfl (by show k * 5 + 5 ≤ ocur.size; omega) rfl ?_)
                    exact hK.out _ (by rw [hA]; simp only [putF]; rw [e14, e9]; kernel_rfl)
                  · intro K L us W hK0 hL hd hR
                    have hK := hid (fun v A' h1 h2 => hK0 v A' W h1 (hR.pure 16 (by decide) (by decide) h2)); clear hK0
                    (try simp [Region.binds] at hd)
                    have e2 : us 2 = .slice (some ⟨g, 0, none⟩) m oc := hR.vals 2 (by simp [hd]) (by decide) (by decide)
                    have e4 : us 4 = .int .i64 ((k : Int) - 1) := hR.vals 4 (by simp [hd]) (by decide) (by decide)
                    clear hd hR
                    simp only [putF]
                    rw [hA, e2, e4]
                    go_frame
                    go_wp2_with fail
                    exact hK.out _ _ (by rw [hA]; simp only [putF]; rw [e2, e4]; kernel_rfl) rfl
                  · intro K L us W hK0 hL hd hR
                    simp [Region.binds] at hd
                    have e16 : us 16 = .pointer (some ⟨g, (k - 1) * 5, none⟩) := hR.vals 16 (by simp [hd]) (by decide) (by decide)
                    have e13 : us 13 = .agg #[.int .i64 p0, .int .i64 p1, .int .i64 p2, .int .i64 p3, .slice pa pn pc] := hR.vals 13 (by simp [hd]) (by decide) (by decide)
                    have h5 : L 15 = true := by simp [hd]
                    have hW := (hR.snd (v := undef) h5 hL).1
                    have hK := hid (fun A' h1 => hK0 undef A' _ h1 (hR.snd h5 hL).2); clear hK0
                    clear hd hR
                    subst hW
                    simp only [putF]
                    rw [hA, e16, e13]
                    go_frame
                    go_wp2_with (refine pt_store rfl 49 (.tmp 117) (.tmp 115) rfl g ((k - 1) * 5) _ rfl rfl (setRow_heap _ _ _ _ _ _ (show V.drew.heap[g]? = _ from YC.out)) size49r rfl (by show (k - 1) * 5 + 5 ≤ (ptL ocur (k * 5) _).size; rw [ptL_size]; omega) rfl ?_)
                    exact hK.out _ (by rw [hA]; simp only [putF]; rw [e16, e13]; kernel_rfl)
                intro L us W1 hL hR
                have hW : W1 = (V.drew.setRow g (ptL ocur (k * 5) [.int .i64 q0, .int .i64 q1, .int .i64 q2, .int .i64 q3, .slice qa qn qc])).setRow g (ptL (ptL ocur (k * 5) [.int .i64 q0, .int .i64 q1, .int .i64 q2, .int .i64 q3, .slice qa qn qc]) ((k - 1) * 5) [.int .i64 p0, .int .i64 p1, .int .i64 p2, .int .i64 p3, .slice pa pn pc]) := by have := hR.wld; rw [hL 17 (by decide)] at this; exact this
                clear hR hL
                simp only [putF]
                rw [hA]
                clear hA
                go_frame
                subst hW
                have HO5 := hid (tiles_swap (show TilesIn V.drew W2.heap.size (.slice (some ⟨g, 0, none⟩) m oc) Fk from ⟨OwnR.drew HTV.out.1, fun e he => OwnR.drew (HTV.out.2 e he)⟩) YC.out HOKP.out HOKQ.out HPX.out HQY.out)
                have HB5 := hid (fun X Y => below_row (X := Y) (below_row (X := X) (below_drew HBV.out) hgb) hgb)
                simp only [Te.row, Ky.row] at HO5
                have HP5 := hid ((sw_perm HPX.out HQY.out).trans HPK.out)
                have HI5 := hid (show InsAt kLt ((Fk.set k ⟨⟨q0, q1, q2, q3⟩, .slice qa qn qc, ql⟩).set (k - 1) ⟨⟨p0, p1, p2, p3⟩, .slice pa pn pc, pl⟩) j (k - 1) by
                  have e : k = (k - 1) + 1 := by omega
                  have h := ins_step (r := kLt) (k := k - 1) (x := ⟨⟨p0, p1, p2, p3⟩, .slice pa pn pc, pl⟩) (fun x y h h2 => Ky.lt_irrefl _ (Ky.lt_trans h h2)) (by rw [← e]; exact HIN.out) (by omega) (by rw [← e]; exact HPX.out) HQY.out HLT.out
                  rw [← e] at h
                  exact h)
                go_wp2_with fail
                exact ⟨⟨k - 1, _, by omega, by congr 1; omega, HP5.out, HI5.out, HO5.out, HB5.out _ _⟩, by simp [intOf]; omega⟩
              · have HBF := hid (show ∀ W, Calls Try.prog 57 #[.agg #[.int .i64 p0, .int .i64 p1, .int .i64 p2, .int .i64 p3], .agg #[.int .i64 q0, .int .i64 q1, .int .i64 q2, .int .i64 q3]] W fun r w' => r = .returned (.bool false) ∧ Below W.heap.size W w' from fun W => decide_eq_false hlt3 ▸ before_any ⟨p0, p1, p2, p3⟩ ⟨q0, q1, q2, q3⟩ W)
                go_wp2_with fail
                refine wp_region_quiet_below (by kernel_rfl) (by kernel_rfl) ?_
                repeat (first | go_big_quiet_step ((go_at_call 57; with_reducible exact Calls.regrown_of (HBF.out _))) | quiet_step ((go_at_call 57; with_reducible exact Calls.regrown_of (HBF.out _))))
                refine wpQuiet_nil ?_
                intro _ hw'
                obtain ⟨⟨dqV, osV⟩, hw2⟩ := hw'
                subst hw2
                have HQV := hid (below_regrown wr dqV osV)
                generalize Sort.grow (redrawn wr dqV) osV = V at HQV ⊢
                have hsV := HQV.out.size
                clear a0 a1 a2 a3 b0 b1 b2 b3
                go_wp2_with fail
                exact ⟨⟨j + 1, Fk, by omega, by go_num, HPK.out, ins_end (r := kLt) (k := k) (fun x y z h1 h2 => Ky.not_lt_trans h2 h1) HIN.out hk (fun x y _ h1 h2 => by
                  rw [HPX.out] at h1
                  rw [HQY.out] at h2
                  injection h1 with h1
                  injection h2 with h2
                  subst h1 h2
                  exact hlt3), HTK.out.grow HQV.out, HBK.out.trans (HQV.out.mono hzk)⟩, by simp [intOf]; omega⟩
        · obtain rfl : j = m := by omega
          have d2 : decide ((j : Int) < (j : Int)) = false := by simp
          go_wp2_with fail
          go_ret
          have h := HST.out
          rw [HM.out, ← HPF.out.length_eq] at h
          have h2 := HALL.out.perm (HPF.out.symm.map Te.tl)
          exact ⟨⟨_, Fo, rfl, HTO.out.tilesV, order_strict h2 (by rw [List.pairwise_map]; exact sortedTo_pairwise h), h2⟩, HB2.out.trans (HBO.out.mono HB2.out.size)⟩
end Go.Proofs.Yteanlcefdoigcaa
namespace Go.Proofs.Yteanlcefdoigcaa
open Go.RowKit

def layErr (S : List Pt) (c : Int) : Int := if goodL S = true then (if inB 1 64 c = true then 0 else 2) else 70
/-- tiles, and the error: a layout, or none -/
structure LayRes (S : List Pt) (c : Int) (e : Int) (E : List Te) : Prop where
  err : e = layErr S c
  lay : layErr S c = 0 → IsLayout S c.toNat (E.map Te.tl)
  bad : layErr S c ≠ 0 → E = []
  pts : ∀ t ∈ E, t.pts.length ≤ 1024
  len : E.length ≤ 1024
theorem LayRes.same {S : List Pt} {c e f : Int} {E F : List Te} (h : LayRes S c e E) (h' : LayRes S c f F) : E.map Te.tl = F.map Te.tl := by
  by_cases h0 : layErr S c = 0
  · exact (h.lay h0).unique (h'.lay h0)
  · rw [h.bad h0, h'.bad h0]
theorem tilesV_nil (W : World) (a : Option Addr) (c : Nat) : TilesV W (.slice a 0 c) [] := ⟨⟨a, c, rfl, Or.inl rfl⟩, fun e he => by simp at he⟩
theorem layRes_bad {S : List Pt} {c e : Int} (h : e = layErr S c) (h0 : e ≠ 0) : LayRes S c e [] := ⟨h, fun h1 => absurd (h.trans h1) h0, fun _ => rfl, fun t ht => by simp at ht, by simp⟩
theorem layRes_good {S : List Pt} {c : Nat} {E : List Te} (hg : goodL S = true) (hc : 1 ≤ c ∧ c ≤ 64) (h : IsLayout S c (E.map Te.tl)) : LayRes S (c : Int) 0 E := by
  have h0 : layErr S c = 0 := by
    unfold layErr inB
    rw [if_pos hg, if_pos (by simp; omega)]
  have hl := h.lens (goodL_facts hg).2.2
  exact ⟨h0.symm, fun _ => by rw [Int.toNat_natCast]; exact h, fun h1 => absurd h0 h1, hl.1, hl.2⟩
set_option maxRecDepth 100000 in
theorem xlayout_any (pv : Value) (S : List Pt) (c : Int) (w : World) (hp : PtsV w pv S) (hn : S.length ≤ maxLen) :
    Calls Try.prog 15 #[pv, .int .i64 c] w fun r w' => (∃ v e E, r = .returned (.tuple #[v, .int .i64 e]) ∧ TilesV w' v E ∧ LayRes S c e E) ∧ Below w.heap.size w w' := by
  have HP := hid hp
  have HN := hid hn
  clear hn
  cases hg : goodL S
  · have HG := hid hg
    have HR := hid (show 70 = layErr S c by unfold layErr; rw [hg]; rfl)
    clear hp hg
    go_enter Try.func15, Try.ntmps15
    go_wp2_with fail
    refine (good_list pv S w HP.out HN.out).mono ?_
    rintro r w1 ⟨rfl, hb1⟩
    rw [HG.out]
    go_wp2_with fail
    go_ret2
    exact ⟨⟨_, _, [], rfl, tilesV_nil _ _ _, layRes_bad HR.out (by decide)⟩, hb1⟩
  · by_cases hc : 1 ≤ c ∧ c ≤ 64
    · obtain ⟨c', rfl⟩ : ∃ c' : Nat, c = (c' : Int) := ⟨c.toNat, by omega⟩
      refine (layout_good pv S c' w hp hg (by omega)).mono ?_
      rintro r w' ⟨⟨v, E, rfl, h1, h2, h3, h4⟩, hb⟩
      exact ⟨⟨v, 0, E, rfl, h1, layRes_good hg (by omega) h2⟩, hb⟩
    · have HG := hid hg
      have HR := hid (show 2 = layErr S c by
        unfold layErr inB
        rw [if_pos hg, if_neg (by simp; omega)])
      clear hp hg
      by_cases h1 : c < 1
      · have d1 : decide (c < 1) = true := decide_eq_true h1
        go_enter Try.func15, Try.ntmps15
        go_wp2_with fail
        refine (good_list pv S w HP.out HN.out).mono ?_
        rintro r w1 ⟨rfl, hb1⟩
        rw [HG.out]
        go_wp2_with fail
        go_ret2
        exact ⟨⟨_, _, [], rfl, tilesV_nil _ _ _, layRes_bad HR.out (by decide)⟩, hb1⟩
      · have d1 : decide (c < 1) = false := decide_eq_false h1
        have d2 : decide (64 < c) = true := decide_eq_true (by omega)
        go_enter Try.func15, Try.ntmps15
        go_wp2_with fail
        refine (good_list pv S w HP.out HN.out).mono ?_
        rintro r w1 ⟨rfl, hb1⟩
        rw [HG.out]
        go_wp2_with fail
        go_ret2
        exact ⟨⟨_, _, [], rfl, tilesV_nil _ _ _, layRes_bad HR.out (by decide)⟩, hb1⟩
set_option maxRecDepth 100000 in
theorem rlayout_any (pv : Value) (S : List Pt) (c : Int) (w : World) (hp : PtsV w pv S) (hp0 : NilV pv) :
    Calls Try.prog 16 #[pv, .int .i64 c] w fun r w' => (∃ v e E, r = .returned (.tuple #[v, .int .i64 e]) ∧ TilesV w' v E ∧ LayRes S c e E) ∧ Below w.heap.size w w' := by
  have HP := hid hp
  have HP0 := hid hp0
  cases hg : goodL S
  · have HG := hid hg
    have HR := hid (show 70 = layErr S c by unfold layErr; rw [hg]; rfl)
    clear hp hp0 hg
    go_enter Try.func16, Try.ntmps16
    go_wp2_with fail
    refine (rvalid_list pv S w HP.out).mono ?_
    rintro r w1 ⟨rfl, hb1⟩
    rw [HG.out]
    go_wp2_with fail
    go_ret2
    exact ⟨⟨_, _, [], rfl, tilesV_nil _ _ _, layRes_bad HR.out (by decide)⟩, hb1⟩
  · have HG := hid hg
    obtain ⟨hS, hf, hl⟩ := goodL_facts hg
    have HS := hid hS
    have HF := hid hf
    have HL := hid hl
    cases hc : inB 1 64 c
    · have HC := hid hc
      have HR := hid (show 2 = layErr S c by unfold layErr; rw [hg, hc]; rfl)
      clear hp hp0 hg hc hS hf hl
      go_enter Try.func16, Try.ntmps16
      go_wp2_with fail
      refine (rvalid_list pv S w HP.out).mono ?_
      rintro r w1 ⟨rfl, hb1⟩
      rw [HG.out]
      have HB1 := hid hb1
      clear hb1
      go_wp2_with fail
      refine (from_any _ _ _ _).mono ?_
      rintro r w2 ⟨rfl, rfl⟩
      rw [HC.out]
      go_wp2_with fail
      go_ret2
      exact ⟨⟨_, _, [], rfl, tilesV_nil _ _ _, layRes_bad HR.out (by decide)⟩, HB1.out⟩
    · have HC := hid hc
      have hc2 : 1 ≤ c ∧ c ≤ 64 := by unfold inB at hc; simpa using hc
      obtain ⟨c', rfl⟩ : ∃ c' : Nat, c = (c' : Int) := ⟨c.toNat, by omega⟩
      have HC2 := hid (show 1 ≤ c' ∧ c' ≤ 64 by omega)
      clear hp hp0 hg hc hS hf hl hc2
      go_enter Try.func16, Try.ntmps16
      go_wp2_with fail
      refine (rvalid_list pv S w HP.out).mono ?_
      rintro r w1 ⟨rfl, hb1⟩
      rw [HG.out]
      have HB1 := hid hb1
      clear hb1
      go_wp2_with fail
      refine (from_any _ _ _ _).mono ?_
      rintro r w2 ⟨rfl, rfl⟩
      rw [HC.out]
      go_wp2_with fail
      refine (rlay_any pv S c' _ (HP.out.still HB1.out) HP0.out HS.out HF.out (by have := HL.out; omega)).mono ?_
      rintro r w3 ⟨⟨v, E, rfl, ht, hlay⟩, hb3⟩
      have HT := hid ht
      have HLAY := hid hlay
      have HB3 := hid (HB1.out.trans (hb3.mono HB1.out.size))
      clear ht hlay hb3
      go_wp2_with fail
      go_ret2
      exact ⟨⟨_, _, E, rfl, HT.out, layRes_good HG.out HC2.out HLAY.out⟩, HB3.out⟩
end Go.Proofs.Yteanlcefdoigcaa

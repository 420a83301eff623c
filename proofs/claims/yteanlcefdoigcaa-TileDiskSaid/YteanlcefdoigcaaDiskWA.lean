/- Two disks that show the same: alike 39. -/
import Derived.Test.YteanlcefdoigcaaDiskWC
import Derived.Laws.BytesArg
import Derived.Laws.Strings
import Derived.Lib.QuietBelow
namespace Go.Proofs.Yteanlcefdoigcaa
open Go.RowKit Go.Sort

def strL (l : List Nat) : ByteArray := strOfNums (l.map fun (x : Nat) => (x : Int))
theorem u5 : Try.prog.underlying 5 = some (.int .u8) := by kernel_rfl
theorem u9 : Try.prog.underlying 9 = some .string := by kernel_rfl
theorem str_none {W : World} {n c : Nat} : (convert 70 9 (.slice none n c)).run Try.prog W = .ok (.string (strL [])) W :=
  run_convert_bytes_nil W 70 5 Try.underlying70 u5 n c 9 u9
theorem rdb_str {W : World} {v : Value} {l : List Nat} (h : RdB W v l) : (convert 70 9 v).run Try.prog W = .ok (.string (strL l)) W := by
  rcases h with ⟨rfl, rfl⟩ | ⟨ad, c, rfl, hc⟩
  · exact str_none
  · have hl : (loadCells ad l.length).run Try.prog W = .ok ((l.map fun (x : Nat) => (x : Int)).map (Value.int .u8)).toArray W := by
      have := run_loadCells_list (P := Try.prog) W ad (u8s l) (fun j v hj => hc j v hj)
      simpa [u8s, Function.comp_def] using this
    rw [run_convert_bytes_string W 70 9 5 _ l.length c Try.underlying70 u5 u9, run_bytesToString W _ l.length c _ hl, foldl_push_bytes]
    simp [strL, strOfNums, ByteArray.empty, ByteArray.emptyWithCapacity]
    rfl
set_option maxRecDepth 100000 in
set_option maxHeartbeats 1600000 in
theorem alike_any (B ga gb n : Nat) (w : World) (h : PairN w B n ga gb) (hn : n ≤ 100000) :
    Calls Try.prog 39 #[.pointer (some ⟨ga, 0, none⟩), .pointer (some ⟨gb, 0, none⟩)] w fun r w' => r = .returned (.bool true) ∧ Below w.heap.size w w' := by
  obtain ⟨dn, lf, am, x0, x1, y0, y1, hp, hn0, hn1⟩ := h
  have HP := hid hp
  have HM0 := hid (show y0.b.length ≤ 1000000 by rw [hp.b0]; omega)
  have HM1 := hid (show y1.b.length ≤ 1000000 by rw [hp.b1]; omega)
  have HN0 := hid (show x0.b.length ≤ 1000000 by omega)
  have HN1 := hid (show x1.b.length ≤ 1000000 by omega)
  have HEQ := hid (show y0.b = x0.b ∧ y1.b = x1.b from ⟨hp.b0, hp.b1⟩)
  clear hp hn0 hn1 hn
  go_enter Try.func39, Try.ntmps39
  go_wp2_with fail
  go_loopw [5] (fun iv W => ∃ i : Int, -1 ≤ i ∧ i ≤ 3 ∧ iv = .int .i64 i ∧ Below w.heap.size w W) (fun iv _ => (3 - intOf iv).toNat)
  case atStart => exact ⟨-1, by omega, by omega, rfl, Below.refl _ _⟩
  case round =>
    obtain ⟨i, hi, hi2, rfl, hB⟩ := hrel
    have HB := hid hB
    clear hB
    by_cases hlt : i ≤ 2
    · have e3 : decide (i ≤ 2) = true := decide_eq_true hlt
      go_wp2_with fail
      refine (xread_any ga B dn lf i x0 x1 _ (HP.out.still HB.out).x HN0.out HN1.out).mono ?_
      rintro r w1 ⟨⟨v1, rfl, hr1⟩, hb⟩
      have HB1 := hid (HB.out.trans (hb.mono HB.out.size))
      have HR1 := hid hr1
      clear hb hr1
      go_wp2_with fail
      refine (rread_any gb B dn am i y0 y1 _ (HP.out.still HB1.out).y HM0.out HM1.out).mono ?_
      rintro r w2 ⟨⟨v2, rfl, hr2⟩, hb⟩
      rw [HEQ.out.1, HEQ.out.2] at hr2
      have HB2 := hid (HB1.out.trans (hb.mono HB1.out.size))
      have hs1 := rdb_str (HR1.out.still hb)
      have hs2 := rdb_str hr2
      clear hb hr2
      generalize strL (if refV i dn = 0 then if i = 0 then x0.b else x1.b else []) = T at *
      generalize refV i dn = E at *
      clear HR1 HEQ
      go_wp2_with fail
      exact ⟨⟨i + 1, by omega, by omega, rfl, HB2.out⟩, by simp [intOf]; omega⟩
    · have e3 : decide (i ≤ 2) = false := decide_eq_false hlt
      have HC := hid (fun d os => xdown_any ga B dn lf x0 x1 (grow (redrawn wr d) os) ((HP.out.still HB.out).x.still (below_regrown wr d os)))
      have c4 : wr.cell? ⟨gb, 4, none⟩ = some (.bool dn) := (HP.out.still HB.out).y.c4
      have q4 := fun d os => cell_regrown c4 d os
      go_wp2_with fail
      refine wp_region_quiet_below (by kernel_rfl) (by kernel_rfl) ?_
      repeat (first | go_big_quiet_step ((go_at_call 82; with_reducible exact Calls.regrown_of (HC.out _ _))) | quiet_step ((go_at_call 82; with_reducible exact Calls.regrown_of (HC.out _ _))))
      refine wpQuiet_nil ?_
      intro _ hw'
      obtain ⟨⟨dqV, osV⟩, hw2⟩ := hw'
      subst hw2
      have HQV := hid (below_regrown wr dqV osV)
      generalize Sort.grow (redrawn wr dqV) osV = V at HQV ⊢
      have hsV := HQV.out.size
      go_wp2_with fail
      go_ret
      exact ⟨by simp, HB.out.trans (HQV.out.mono HB.out.size)⟩
end Go.Proofs.Yteanlcefdoigcaa

/-
  The walk of assayerref01.Num: a number in so many bytes, as a text.
-/
import Derived.Test.YtifcdmfkojhdnaaDoorLText
import Derived.Test.YtifcdmfkojhdnaaDoorNum
namespace Go.Proofs.YtifcdmfkojhdnaaDoor
open Go.RowKit Go.Shelf Sha
attribute [local go_sem] Oper.semAt_some
attribute [local go_sem ↓] Go.wp_at_zero Go.wp_at_succ

theorem beL_succ (x i : Nat) : beL x (i + 1) = (x / 2 ^ (8 * i) % 256) :: beL x i := by
  unfold beL
  rw [List.range_succ_eq_map, List.map_cons, List.map_map]
  congr 1
  apply List.map_congr_left
  intro j hj
  have := List.mem_range.1 hj
  simp only [Function.comp, Nat.succ_eq_add_one]
  rw [show i + 1 - 1 - (j + 1) = i - 1 - j by omega]
theorem bytes_byte (w : World) (x : Nat) (hx : x < 256) : Bytes (w.alloc (.cells #[.int .u8 (x : Int)] 5)) (.slice (some ⟨w.heap.size, 0, none⟩) 1 1) [x] := bytes_new w x hx
set_option maxHeartbeats 1000000 in
set_option maxRecDepth 100000 in
theorem rnum_any (x sz : Nat) (w : World) (hx : x < 18446744073709551616) (h1 : 1 ≤ sz) (h8 : sz ≤ 8) :
    Calls Tryd.prog 37 #[.int .u64 (x : Int), .int .i64 (sz : Int)] w fun e w' => e = .returned (.string (bstr (beL x sz))) ∧ Below w.heap.size w w' := by
  refine calls_of_wp Tryd.func37 rfl ?_
  simp only [Tryd.ntmps37, List.size_toArray, List.length_cons, List.length_nil, Nat.reduceAdd, Nat.reduceSub, Array.replicate_succ, Array.replicate_zero, List.push_toArray, List.append_toArray, List.nil_append, List.cons_append]
  have c1 : (1 : Int) ≤ (sz : Int) := by omega
  have c2 : (sz : Int) ≤ 8 := by omega
  have c3 : decide ((sz : Int) < 1) = false := by rw [decide_eq_false_iff_not]; omega
  have HX := Lib.hid hx
  have H8 := Lib.hid h8
  have e0 : (ByteArray.mk #[]) = bstr [] := rfl
  clear hx h1 h8
  go_wp2
  rw [e0]
  go_loopw [0, 5, 6] (fun xv sv iv wr => ∃ i : Nat, i ≤ sz ∧ iv = .int .i64 (i : Int) ∧ xv = .int .u64 ((x / 2 ^ (8 * i) : Nat) : Int) ∧ sv = .string (bstr (beL x i)) ∧ Below w.heap.size w wr) (fun _ _ iv _ => sz - (intOf iv).toNat)
  case atStart => exact ⟨0, Nat.zero_le _, rfl, by simp, rfl, Below.refl _ _⟩
  case round =>
    obtain ⟨i, hi, rfl, rfl, rfl, hB⟩ := hrel
    by_cases his : i < sz
    · obtain ⟨y, hy⟩ : ∃ y, y = x / 2 ^ (8 * i) := ⟨_, rfl⟩
      obtain ⟨z, hz⟩ : ∃ z, z = y % 256 := ⟨_, rfl⟩
      obtain ⟨y2, hy2⟩ : ∃ y2, y2 = y / 256 := ⟨_, rfl⟩
      rw [← hy]
      have i0 : (0 : Int) ≤ (i : Int) := by omega
      have i1 : (i : Int) < (sz : Int) := by omega
      have hz1 : z < 256 := by rw [hz]; exact Nat.mod_lt _ (by decide)
      have F1 : IntKind.u8.wrap (y : Int) = (z : Int) := by rw [IntKind.wrap_u8']; omega
      have F2 : (y : Int) / 256 = (y2 : Int) := by omega
      have hyx : y ≤ x := by rw [hy]; exact Nat.div_le_self _ _
      have F4 : IntKind.u64.wrap (y2 : Int) = (y2 : Int) := IntWalk.u64_in _ (by have := HX.out; omega)
      have HY2 : Hid (y2 = x / 2 ^ (8 * (i + 1))) := by
        show _ = _
        rw [hy2, hy, Nat.div_div_eq_div_mul, show 8 * (i + 1) = 8 * i + 8 by omega, Nat.pow_add]
      have HZB : Hid (bstr [z] ++ bstr (beL x i) = bstr (beL x (i + 1))) := by
        show _ = _
        rw [beL_succ, hz, hy, bstr_append]
        rfl
      have z1 : (bstr [z]).size = 1 := rfl
      have z2 : (bstr (beL x i)).size = i := by rw [size_bstr, beL_length]
      have z3 : i ≤ 8 := by have := H8.out; omega
      have HBY := Lib.hid (bytes_byte wr z hz1)
      have HB := Lib.hid (hB.alloc hB.size (.cells #[.int .u8 (z : Int)] 5))
      have HIS := Lib.hid his
      have y0 : (0 : Int) ≤ (y : Int) := by omega
      clear hy hz hy2 hz1 hyx hB hi his
      go_upto_region 8 with ((with_reducible refine at_convert 24 9 ?_); refine wpList_conv_text rfl _ rfl _ [z] rfl HBY.out ?_)
      rw [HZB.out]
      clear z1 z2 z3 HBY HZB
      go_wp2
      exact ⟨⟨i + 1, by have := HIS.out; omega, by go_num, by rw [HY2.out], rfl, HB.out⟩, by have := HIS.out; simp [intOf]; omega⟩
    · obtain rfl : i = sz := by omega
      have ii : ¬ (i : Int) < (i : Int) := by omega
      clear his hi
      go_wp2
      refine bodyPost_ret (results_tmp rfl _ _ _) rfl ?_
      exact ⟨rfl, hB⟩
end Go.Proofs.YtifcdmfkojhdnaaDoor

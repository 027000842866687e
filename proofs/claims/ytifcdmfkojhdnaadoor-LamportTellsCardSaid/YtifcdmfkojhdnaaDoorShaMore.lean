/-
  The walk of sha.more: eight numbers behind 64 bytes more.
-/
import Derived.Test.YtifcdmfkojhdnaaDoorShaRow

namespace Go.Proofs.YtifcdmfkojhdnaaDoor
open Go.RowKit Sha

theorem alloc_eight (w : World) : Sem.run Tryd.prog (Instr.alloc 57 true (.tuple #[])) w = .ok (.pointer (some ⟨w.heap.size, 0, none⟩)) (w.alloc (.cells (ints .u32 zeros8) 57)) := by kernel_rfl
theorem alloc_row' (w : World) : Sem.run Tryd.prog (Instr.alloc 74 true (.tuple #[])) w = .ok (.pointer (some ⟨w.heap.size, 0, none⟩)) (w.alloc (.cells (ints .u32 zeros64) 74)) := alloc_row w

theorem turn_length (v : List Nat) (k w : Nat) : (turn v k w).length = 8 := rfl
theorem turns_length (s ws : List Nat) (hs : s.length = 8) : ∀ i, (turns s ws i).length = 8
  | 0 => hs
  | _ + 1 => rfl
theorem mod32 (x : Nat) : x % 4294967296 < 4294967296 := by omega
theorem getD_lt (l : List Nat) (M : Nat) (hM : 0 < M) (h : ∀ x ∈ l, x < M) (j : Nat) : l.getD j 0 < M := by
  rw [List.getD_eq_getElem?_getD]
  cases e : l[j]? with
  | none => exact hM
  | some x => exact h x (List.mem_of_getElem? e)
theorem turn_lt (v : List Nat) (k w : Nat) (h : ∀ j, v.getD j 0 < 4294967296) (j : Nat) : (turn v k w).getD j 0 < 4294967296 := by
  refine getD_lt _ _ (by omega) (fun x hx => ?_) j
  simp only [turn, List.mem_cons, List.not_mem_nil, or_false] at hx
  rcases hx with rfl | rfl | rfl | rfl | rfl | rfl | rfl | rfl
  · exact mod32 _
  · exact h 0
  · exact h 1
  · exact h 2
  · exact mod32 _
  · exact h 4
  · exact h 5
  · exact h 6
theorem turns_lt (s ws : List Nat) (hs : ∀ j, s.getD j 0 < 4294967296) (i : Nat) : ∀ j, (turns s ws i).getD j 0 < 4294967296 := by
  induction i with
  | zero => exact hs
  | succ i ih => exact turn_lt _ _ _ ih
theorem sums_length (s v : List Nat) (hs : s.length = 8) : ∀ i, (sums s v i).length = 8
  | 0 => hs
  | i + 1 => by simp [sums, sums_length s v hs i]

theorem xor_all (x : Nat) (h : x < 4294967296) : 4294967295 ^^^ x = 4294967295 - x := by
  have e : 4294967295 - x = 2 ^ 32 - (x + 1) := by omega
  rw [e]
  apply Nat.eq_of_testBit_eq
  intro i
  rw [Nat.testBit_xor, Nat.testBit_two_pow_sub_succ (by omega), show (4294967295 : Nat) = 2 ^ 32 - 1 from rfl, Nat.testBit_two_pow_sub_one]
  by_cases hi : i < 32
  · simp [hi]
  · have : x.testBit i = false := Nat.testBit_lt_two_pow (Nat.lt_of_lt_of_le h (by rw [show (4294967296 : Nat) = 2 ^ 32 from rfl]; exact Nat.pow_le_pow_right (by omega) (by omega)))
    simp [hi, this]
theorem not_eq (x : Nat) (h : x < 4294967296) : bits BinOp.xor IntKind.u32 (if IntKind.u32.signed = true then -1 else IntKind.u32.max) (x : Int) = ((4294967295 - x : Nat) : Int) := by
  rw [show (if IntKind.u32.signed = true then (-1 : Int) else IntKind.u32.max) = ((4294967295 : Nat) : Int) from rfl, u32_xor_nat _ _ (by omega) h, xor_all x h]
theorem t_eq (e4 e5 e6 e7 kk wk : Nat) (h4 : e4 < 4294967296) (h5 : e5 < 4294967296) (h6 : e6 < 4294967296) :
    IntKind.u32.wrap (IntKind.u32.wrap (IntKind.u32.wrap (IntKind.u32.wrap ((e7 : Int) + bits BinOp.xor IntKind.u32 (bits BinOp.xor IntKind.u32 (rotr e4 6 : Nat) (rotr e4 11 : Nat)) (rotr e4 25 : Nat)) +
      bits BinOp.xor IntKind.u32 (bits BinOp.and IntKind.u32 (e4 : Int) (e5 : Int)) (bits BinOp.and IntKind.u32 (bits BinOp.xor IntKind.u32 (if IntKind.u32.signed = true then -1 else IntKind.u32.max) (e4 : Int)) (e6 : Int))) + (kk : Int)) + (wk : Int)) =
    (((e7 + bg1 e4 + ch e4 e5 e6 + kk + wk) % 4294967296 : Nat) : Int) := by
  rw [not_eq e4 h4, u32_xor_nat _ _ (rotr_lt _ _ h4) (rotr_lt _ _ h4), u32_xor_nat _ _ (xor_lt (rotr_lt _ _ h4) (rotr_lt _ _ h4)) (rotr_lt _ _ h4), u32_and_nat _ _ h4 h5, u32_and_nat _ _ (by omega) h6, u32_xor_nat _ _ (land_lt h4) (land_lt (by omega))]
  have a : bg1 e4 = (rotr e4 6 ^^^ rotr e4 11) ^^^ rotr e4 25 := rfl
  have b : ch e4 e5 e6 = (e4 &&& e5) ^^^ ((4294967295 - e4) &&& e6) := rfl
  rw [← a, ← b]
  generalize bg1 e4 = p
  generalize ch e4 e5 e6 = q
  simp only [IntKind.wrap_u32']
  omega
theorem u_eq (e0 e1 e2 : Nat) (h0 : e0 < 4294967296) (h1 : e1 < 4294967296) (h2 : e2 < 4294967296) :
    IntKind.u32.wrap (bits BinOp.xor IntKind.u32 (bits BinOp.xor IntKind.u32 (rotr e0 2 : Nat) (rotr e0 13 : Nat)) (rotr e0 22 : Nat) +
      bits BinOp.xor IntKind.u32 (bits BinOp.xor IntKind.u32 (bits BinOp.and IntKind.u32 (e0 : Int) (e1 : Int)) (bits BinOp.and IntKind.u32 (e0 : Int) (e2 : Int))) (bits BinOp.and IntKind.u32 (e1 : Int) (e2 : Int))) =
    (((bg0 e0 + maj e0 e1 e2) % 4294967296 : Nat) : Int) := by
  rw [u32_xor_nat _ _ (rotr_lt _ _ h0) (rotr_lt _ _ h0), u32_xor_nat _ _ (xor_lt (rotr_lt _ _ h0) (rotr_lt _ _ h0)) (rotr_lt _ _ h0), u32_and_nat _ _ h0 h1, u32_and_nat _ _ h0 h2, u32_and_nat _ _ h1 h2, u32_xor_nat _ _ (land_lt h0) (land_lt h0), u32_xor_nat _ _ (xor_lt (land_lt h0) (land_lt h0)) (land_lt h1)]
  have a : bg0 e0 = (rotr e0 2 ^^^ rotr e0 13) ^^^ rotr e0 22 := rfl
  have b : maj e0 e1 e2 = ((e0 &&& e1) ^^^ (e0 &&& e2)) ^^^ (e1 &&& e2) := rfl
  rw [← a, ← b, IntKind.wrap_u32']
  omega

set_option maxHeartbeats 2000000 in
set_option maxRecDepth 100000 in
theorem more_any (s : List Nat) (hs : s.length = 8) (b o c : Nat) (bs : List Nat) (w : World) (hc : ∀ j, j < 64 → w.cell? ⟨b, o + j, none⟩ = some (.int .u8 ((bs.getD j 0 : Nat) : Int))) (hb : b < w.heap.size) (h8 : ∀ j, bs.getD j 0 < 256)
    {tr : TypeId} (hg : w.heap[1]? = some (.cells (ints .u32 ks) tr (0, 0))) (hs32 : ∀ j, s.getD j 0 < 4294967296) :
    Calls Tryd.prog 29 #[.agg (ints .u32 s), .slice (some ⟨b, o, none⟩) 64 c] w fun e w' => e = .returned (.agg (ints .u32 (more s bs))) ∧ Below w.heap.size w w' := by
  have HC := Lib.hid hc
  have H8 := Lib.hid h8
  have HS := Lib.hid hs
  have HG := Lib.hid hg
  clear hc h8 hs hg
  go_enter Tryd.func29, Tryd.ntmps29
  go_wp2_with (first | ((with_reducible refine at_alloc 74 ?_); refine wpList_alloc_zero rfl 74 rfl _ alloc_row' ?_) | ((with_reducible refine at_alloc 57 ?_); refine wpList_alloc_zero rfl 57 rfl _ alloc_eight ?_))
  refine (row_any b o c bs _ ?_ ?_ H8.out).mono ?_
  · intro j hj
    rw [World.cell?_alloc_past _ _ _ (by simp; omega), World.cell?_alloc_past _ _ _ hb]
    exact HC.out j hj
  · simp; omega
  rintro e w1 ⟨rfl, hB1⟩
  have b0 : w1.heap[w.heap.size]? = some (.cells (ints .u32 s) 57 (0, 0)) := by
    rw [hB1.block _ (by simp; omega), heap_alloc2_old]
  have b1 : w1.heap[w.heap.size + 1]? = some (.cells (ints .u32 zeros8) 57 (0, 0)) := by
    rw [hB1.block _ (by simp), heap_alloc2_new]
  have hsz : w.heap.size + 2 ≤ w1.heap.size := by have := hB1.size; simpa using this
  have hBw : Below w.heap.size w w1 := (((Below.refl _ _).alloc (Nat.le_refl _) _).alloc (by simp) _).trans (hB1.mono (by simp; omega))
  have hgl : 1 < w.heap.size := (Array.getElem?_eq_some_iff.1 HG.out).1
  have HG1 : Hid (w1.heap[1]? = some (.cells (ints .u32 ks) tr (0, 0))) := (hBw.block _ hgl).trans HG.out
  have B0 := Lib.hid b0
  have B1 := Lib.hid b1
  clear b0 b1 hB1 HG HC
  have hs8 := HS.out
  have l0 : Hid ((w1.alloc (.cells (ints .u32 (row bs)) 74)).heap[w.heap.size]? = some (.cells (ints .u32 s) 57 (0, 0))) := (Below.heap_alloc w1 _ _ (by omega)).trans B0.out
  have l1 : Hid (((w1.alloc (.cells (ints .u32 (row bs)) 74)).alloc (.cells (ints .u32 s) 57)).heap[1]? = some (.cells (ints .u32 ks) tr (0, 0))) :=
    (Below.heap_alloc _ _ _ (by simp; omega)).trans ((Below.heap_alloc w1 _ _ (by omega)).trans HG1.out)
  have s8 : Hid ((Tryd.prog.info? 57).map (·.size) = some (ints .u32 s).size) := by show _ = _; rw [size_ints, hs8]; kernel_rfl
  have s64 : Hid ((Tryd.prog.info? 74).map (·.size) = some (ints .u32 (row bs)).size) := by show _ = _; rw [size_ints, row, row1_length]; kernel_rfl
  have k64 : Hid ((Tryd.prog.info? 74).map (·.size) = some (ints .u32 ks).size) := by show _ = _; kernel_rfl
  have z64 : Hid ((ints .u32 zeros64).size = (ints .u32 (row bs)).size) := by show _ = _; rw [size_ints, size_ints, row, row1_length]; rfl
  have z8 : Hid ((ints .u32 zeros8).size = (ints .u32 s).size) := by show _ = _; rw [size_ints, size_ints, hs8]; rfl
  clear hs8
  go_wp2_with (first | ((with_reducible refine at_alloc 74 ?_); refine wpList_alloc_zero rfl 74 rfl _ alloc_row' ?_) | ((with_reducible refine at_alloc 57 ?_); refine wpList_alloc_zero rfl 57 rfl _ alloc_eight ?_) | ((with_reducible refine at_store 74 ?_); refine wpList_store_row rfl 74 _ _ rfl w1.heap.size _ rfl rfl _ _ (heap_alloc_new _ _) s64.out z64.out (one_ints _ _) ?_; rw [setRow_alloc_at _ _ _ _ _ rfl]) | ((with_reducible refine at_load 57 ?_); refine wpList_load_row rfl 57 _ rfl w.heap.size rfl _ _ _ _ l0.out Tryd.underlying57 rfl s8.out ?_) | ((with_reducible refine at_store 57 ?_); refine wpList_store_row rfl 57 _ _ rfl _ _ rfl rfl _ _ (heap_alloc_new _ _) s8.out z8.out (one_ints _ _) ?_; rw [setRow_alloc_at _ _ _ _ _ rfl]) | ((with_reducible refine at_load 74 ?_); refine wpList_load_row rfl 74 _ rfl 1 rfl _ _ _ _ l1.out Tryd.underlying74 rfl k64.out ?_))
  have b5 : ((w1.alloc (.cells (ints .u32 (row bs)) 74)).alloc (.cells (ints .u32 s) 57)).heap[w1.heap.size]? = some (.cells (ints .u32 (row bs)) 74 (0, 0)) := heap_alloc2_old _ _ _
  have b6 : ((w1.alloc (.cells (ints .u32 (row bs)) 74)).alloc (.cells (ints .u32 s) 57)).heap[w1.heap.size + 1]? = some (.cells (ints .u32 s) 57 (0, 0)) := heap_alloc2_new _ _ _
  have b2 : ((w1.alloc (.cells (ints .u32 (row bs)) 74)).alloc (.cells (ints .u32 s) 57)).heap[w.heap.size]? = some (.cells (ints .u32 s) 57 (0, 0)) := (Below.heap_alloc _ _ _ (by simp; omega)).trans ((Below.heap_alloc w1 _ _ (by omega)).trans B0.out)
  have b4 : ((w1.alloc (.cells (ints .u32 (row bs)) 74)).alloc (.cells (ints .u32 s) 57)).heap[w.heap.size + 1]? = some (.cells (ints .u32 zeros8) 57 (0, 0)) := (Below.heap_alloc _ _ _ (by simp; omega)).trans ((Below.heap_alloc w1 _ _ (by omega)).trans B1.out)
  have hB2 : Below w.heap.size w ((w1.alloc (.cells (ints .u32 (row bs)) 74)).alloc (.cells (ints .u32 s) 57)) := (hBw.alloc (by omega) _).alloc (by simp; omega) _
  generalize (w1.alloc (.cells (ints .u32 (row bs)) 74)).alloc (.cells (ints .u32 s) 57) = w2 at *
  have X5 := Lib.hid b5
  have X6 := Lib.hid b6
  have X2 := Lib.hid b2
  have X4 := Lib.hid b4
  clear b5 b6 b2 b4 l0 l1 B0 B1 HG1
  generalize hn1 : w1.heap.size = n1 at *
  have HN1 := Lib.hid hn1
  clear hn1
  go_loopw [18] (fun i wr => ∃ k : Nat, k ≤ 64 ∧ i = .int .i64 k ∧ wr.heap[n1 + 1]? = some (.cells (ints .u32 (turns s (row bs) k)) 57 (0, 0)) ∧ wr.heap[n1]? = some (.cells (ints .u32 (row bs)) 74 (0, 0)) ∧ wr.heap[w.heap.size]? = some (.cells (ints .u32 s) 57 (0, 0)) ∧ wr.heap[w.heap.size + 1]? = some (.cells (ints .u32 zeros8) 57 (0, 0)) ∧ Below w.heap.size w wr) (fun i _ => 64 - (intOf i).toNat)
  case atStart => exact ⟨0, by omega, rfl, X6.out, X5.out, X2.out, X4.out, hB2⟩
  case round =>
    clear X6 X5 X2 X4 hB2
    obtain ⟨k, hk, rfl, hx6, hx5, hx2, hx4, hB⟩ := hrel
    by_cases hlt : k < 64
    · have c0 := cell_ints hx6 0 (by rw [turns_length _ _ HS.out]; omega)
      have c1 := cell_ints hx6 1 (by rw [turns_length _ _ HS.out]; omega)
      have c2 := cell_ints hx6 2 (by rw [turns_length _ _ HS.out]; omega)
      have c3 := cell_ints hx6 3 (by rw [turns_length _ _ HS.out]; omega)
      have c4 := cell_ints hx6 4 (by rw [turns_length _ _ HS.out]; omega)
      have c5 := cell_ints hx6 5 (by rw [turns_length _ _ HS.out]; omega)
      have c6 := cell_ints hx6 6 (by rw [turns_length _ _ HS.out]; omega)
      have c7 := cell_ints hx6 7 (by rw [turns_length _ _ HS.out]; omega)
      have cw := cell_ints hx5 k (by rw [row, row1_length]; omega)
      have hst : Hid (turns s (row bs) (k + 1) = turn (turns s (row bs) k) (ks.getD k 0) ((row bs).getD k 0)) := rfl
      have v0 := turns_lt s (row bs) hs32 k 0
      have v1 := turns_lt s (row bs) hs32 k 1
      have v2 := turns_lt s (row bs) hs32 k 2
      have v3 := turns_lt s (row bs) hs32 k 3
      have v4 := turns_lt s (row bs) hs32 k 4
      have v5 := turns_lt s (row bs) hs32 k 5
      have v6 := turns_lt s (row bs) hs32 k 6
      have v7 := turns_lt s (row bs) hs32 k 7
      have sz : Hid ((ints .u32 (turns s (row bs) k)).size = 8) := by show _ = _; rw [size_ints, turns_length _ _ HS.out]
      have X6 := Lib.hid hx6
      have X5 := Lib.hid hx5
      have X2 := Lib.hid hx2
      have X4 := Lib.hid hx4
      clear hx6 hx5 hx2 hx4
      unfold turn at hst
      generalize (turns s (row bs) k).getD 0 0 = e0 at *
      generalize (turns s (row bs) k).getD 1 0 = e1 at *
      generalize (turns s (row bs) k).getD 2 0 = e2 at *
      generalize (turns s (row bs) k).getD 3 0 = e3 at *
      generalize (turns s (row bs) k).getD 4 0 = e4 at *
      generalize (turns s (row bs) k).getD 5 0 = e5 at *
      generalize (turns s (row bs) k).getD 6 0 = e6 at *
      generalize (turns s (row bs) k).getD 7 0 = e7 at *
      generalize (row bs).getD k 0 = wk at *
      have hkk : Hid ((ints .u32 ks)[k]? = some (.int .u32 ((ks.getD k 0 : Nat) : Int))) := get_ints_lt _ _ _ (show k < 64 from hlt)
      generalize ks.getD k 0 = kk at *
      have k0 : (0 : Int) ≤ (k : Int) := by omega
      have k1 : (k : Int) < 64 := by omega
      have i8 : (Tryd.prog.info? 57).map (·.size) = some 8 := by kernel_rfl
      have I8 := Lib.hid i8
      clear i8
      go_upto_region 6 with ((with_reducible refine at_index 74 ?_); refine wpList_index_one rfl 74 _ _ rfl 42 Tryd.underlying74 Tryd.underlying42 rfl (by kernel_rfl) _ k _ rfl rfl hkk.out hlt ?_)
      go_cut [9, 10] (fun s9 s10 wx => s9 = .int .u32 (e4 : Int) ∧ s10 = .int .u32 (e0 : Int) ∧ wx.heap = wr.heap ∧ Below w.heap.size w wx)
      case first =>
        go_still (by kernel_rfl)
        simp only [Exit.then]
        go_step
        go_meet
        exact ⟨rfl, rfl, rfl, hB.drew⟩
      case rest =>
        obtain ⟨rfl, rfl, hh, hB1⟩ := hcut
        have hcq := cell_of_heap hh
        have c1 := (hcq _ _).trans c1
        have c2 := (hcq _ _).trans c2
        have c3 := (hcq _ _).trans c3
        have c5 := (hcq _ _).trans c5
        have c6 := (hcq _ _).trans c6
        have c7 := (hcq _ _).trans c7
        have cw := (hcq _ _).trans cw
        have HH := Lib.hid hh
        clear hh hB hcq
        obtain ⟨wq, rfl⟩ : ∃ wq : World, wq = wc := ⟨_, rfl⟩
        go_upto_region 7 with fail
        go_cut [11] (fun s11 wx => s11 = .int .u32 (((e7 + bg1 e4 + ch e4 e5 e6 + kk + wk) % 4294967296 : Nat) : Int) ∧ wx.heap = wq.heap ∧ Below w.heap.size w wx)
        case first =>
          refine wp_region_still_lit (by kernel_rfl) (by kernel_rfl) ?_
          repeat (first | still_step | still_call (down_any _ _ (by assumption) (by decide) (by decide) _))
          refine wpStill_nil ?_
          rw [t_eq e4 e5 e6 e7 kk wk v4 v5 v6]
          simp only [Exit.then]
          go_step
          go_meet
          exact ⟨rfl, rfl, hB1.drew⟩
        case rest =>
          obtain ⟨rfl, hh, hB2⟩ := hcut
          generalize (e7 + bg1 e4 + ch e4 e5 e6 + kk + wk) % 4294967296 = t at *
          have hcq := cell_of_heap hh
          have c1 := (hcq _ _).trans c1
          have c2 := (hcq _ _).trans c2
          have c3 := (hcq _ _).trans c3
          have c5 := (hcq _ _).trans c5
          have c6 := (hcq _ _).trans c6
          have HH := Lib.hid (hh.trans HH.out)
          clear hh hB1 hcq
          obtain ⟨wq2, rfl⟩ : ∃ wq : World, wq = wc := ⟨_, rfl⟩
          go_upto_region 8 with fail
          go_cut [12] (fun s12 wx => s12 = .int .u32 (((bg0 e0 + maj e0 e1 e2) % 4294967296 : Nat) : Int) ∧ wx.heap = wq2.heap ∧ Below w.heap.size w wx)
          case first =>
            refine wp_region_still_lit (by kernel_rfl) (by kernel_rfl) ?_
            repeat (first | still_step | still_call (down_any _ _ (by assumption) (by decide) (by decide) _))
            refine wpStill_nil ?_
            rw [u_eq e0 e1 e2 v0 v1 v2]
            simp only [Exit.then]
            go_step
            go_meet
            exact ⟨rfl, rfl, hB2.drew⟩
          case rest =>
            obtain ⟨rfl, hh, hB3⟩ := hcut
            generalize (bg0 e0 + maj e0 e1 e2) % 4294967296 = u at *
            have hcq := cell_of_heap hh
            have c1 := (hcq _ _).trans c1
            have c2 := (hcq _ _).trans c2
            have c3 := (hcq _ _).trans c3
            have c5 := (hcq _ _).trans c5
            have c6 := (hcq _ _).trans c6
            have ht := hh.trans HH.out
            have x6 : Hid (wc.heap[n1 + 1]? = some (.cells (ints .u32 (turns s (row bs) k)) 57 (0, 0))) := by rw [ht]; exact X6
            have x5 : Hid (wc.heap[n1]? = some (.cells (ints .u32 (row bs)) 74 (0, 0))) := by rw [ht]; exact X5
            have x2 : Hid (wc.heap[w.heap.size]? = some (.cells (ints .u32 s) 57 (0, 0))) := by rw [ht]; exact X2
            have x4 : Hid (wc.heap[w.heap.size + 1]? = some (.cells (ints .u32 zeros8) 57 (0, 0))) := by rw [ht]; exact X4
            clear hh ht hcq X6 X5 X2 X4 HH hB2
            go_wp2_with ((with_reducible refine at_store 57 ?_); refine wpList_store_row rfl 57 _ _ rfl (n1 + 1) _ rfl rfl _ _ x6.out ?hi ?hs ?h1 ?h)
            case hi => simpa using I8.out
            case hs => exact sz.out
            case h1 => simp [Value.oneCell']
            have hcells : #[Value.int IntKind.u32 (((t : Int) + (u : Int)) % 4294967296), Value.int IntKind.u32 (e0 : Int), Value.int IntKind.u32 (e1 : Int), Value.int IntKind.u32 (e2 : Int), Value.int IntKind.u32 (((e3 : Int) + (t : Int)) % 4294967296), Value.int IntKind.u32 (e4 : Int), Value.int IntKind.u32 (e5 : Int), Value.int IntKind.u32 (e6 : Int)] = ints .u32 (turns s (row bs) (k + 1)) := by
              rw [hst.out]; simp [ints]
            rw [hcells]
            refine ⟨⟨k + 1, by omega, by go_num, heap_setRow x6.out _, ?_, ?_, ?_, below_setRow hB3 (by omega) _⟩, by simp [intOf]; omega⟩
            · rw [heap_setRow_other _ (by omega)]; exact x5.out
            · rw [heap_setRow_other _ (by omega)]; exact x2.out
            · rw [heap_setRow_other _ (by omega)]; exact x4.out
    · have hk' : k = 64 := by omega
      subst hk'
      have X6 := Lib.hid hx6
      have X2 := Lib.hid hx2
      have X4 := Lib.hid hx4
      clear hx6 hx5 hx2 hx4 hlt hk
      rw [show ((64 : Nat) : Int) = 64 from rfl]
      go_wp2
      obtain ⟨wo, rfl⟩ : ∃ wo : World, wo = wr := ⟨_, rfl⟩
      go_loopw [13, 97] (fun _ i wr => ∃ k : Nat, k ≤ 8 ∧ i = .int .i64 k ∧ wr.heap[n1 + 1]? = some (.cells (ints .u32 (turns s (row bs) 64)) 57 (0, 0)) ∧ wr.heap[w.heap.size]? = some (.cells (ints .u32 (sums s (turns s (row bs) 64) k)) 57 (0, 0)) ∧ wr.heap[w.heap.size + 1]? = some (.cells (ints .u32 zeros8) 57 (0, 0)) ∧ Below w.heap.size w wr) (fun _ i _ => 8 - (intOf i).toNat)
      case atStart => exact ⟨0, by omega, rfl, X6.out, X2.out, X4.out, hB⟩
      case round =>
        clear X6 X2 X4 hB
        obtain ⟨k, hk, rfl, hx6, hx2, hx4, hB⟩ := hrel
        by_cases hlt : k < 8
        · have c0 := cell_ints hx2 k (by rw [sums_length _ _ HS.out]; omega)
          have c1 := cell_ints hx6 k (by rw [turns_length _ _ HS.out]; omega)
          have f0 := frozen_of_row wr w.heap.size k _ _ hx2
          have X2 : Hid (∀ v : Nat, v = ((sums s (turns s (row bs) 64) k).getD k 0 + (turns s (row bs) 64).getD k 0) % 4294967296 → (wr.setCell ⟨w.heap.size, k, none⟩ (.int .u32 (v : Int))).heap[w.heap.size]? = some (.cells (ints .u32 (sums s (turns s (row bs) 64) (k + 1))) 57 (0, 0))) := fun v hv => by rw [set_block hx2, hv]; rfl
          have X6 := Lib.hid hx6
          have X4 := Lib.hid hx4
          clear hx6 hx2 hx4
          generalize (sums s (turns s (row bs) 64) k).getD k 0 = p at *
          generalize (turns s (row bs) 64).getD k 0 = q at *
          have k0 : (0 : Int) ≤ (k : Int) := by omega
          have k1 : (k : Int) < 8 := by omega
          go_wp2
          go_still_tail 8, (by kernel_rfl)
          go_wp2
          refine ⟨⟨k + 1, by omega, by go_num, ?_, ?_, ?_, (hB.setCell (p := ⟨w.heap.size, k, none⟩) (by simp) _).drew⟩, by simp [intOf]; omega⟩
          · exact (heap_setCell_other wr ⟨w.heap.size, k, none⟩ _ _ (by simp; omega)).trans X6.out
          · have := X2.out _ rfl
            rw [heap_drew]; simpa using this
          · exact (heap_setCell_other wr ⟨w.heap.size, k, none⟩ _ _ (by simp)).trans X4.out
        · have hk' : k = 8 := by omega
          subst hk'
          have X2 := Lib.hid hx2
          have X4 := Lib.hid hx4
          clear hx6 hx2 hx4 hlt hk
          have q8 : Hid ((Tryd.prog.info? 57).map (·.size) = some (ints .u32 (more s bs)).size) := by show _ = _; rw [size_ints, more, sums_length _ _ HS.out]; kernel_rfl
          have z8' : Hid ((ints .u32 zeros8).size = (ints .u32 (more s bs)).size) := by show _ = _; rw [size_ints, size_ints, more, sums_length _ _ HS.out]; rfl
          rw [show sums s (turns s (row bs) 64) 8 = more s bs from rfl] at X2
          go_wp2_with (first | ((with_reducible refine at_load 57 ?_); refine wpList_load_row rfl 57 _ rfl w.heap.size rfl _ _ _ _ X2.out Tryd.underlying57 rfl q8.out ?_) | ((with_reducible refine at_store 57 ?_); refine wpList_store_row rfl 57 _ _ rfl (w.heap.size + 1) _ rfl rfl _ _ X4.out q8.out z8'.out (one_ints _ _) ?_))
          refine bodyPost_ret (v := .agg (ints .u32 (more s bs))) (results_cell_row rfl _ _ (w.heap.size + 1) 57 _ (0, 0) _ rfl (heap_setRow X4.out _) Tryd.underlying57 rfl q8.out) rfl ?_
          exact ⟨rfl, below_setRow hB (by omega) _⟩
end Go.Proofs.YtifcdmfkojhdnaaDoor

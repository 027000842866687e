/-
  The walks of Blame and Set of score.
-/
import Derived.Test.YtddfiennoekjpaaSPeer
namespace Go.Proofs.Ytddfiennoekjpaa
open Go.RowKit Go.Maps
attribute [local go_sem] Oper.semAt_some
attribute [local go_sem ↓] Go.wp_at_zero Go.wp_at_succ

theorem cell_later {w w' : World} (h : Below w.heap.size w w') {a : Addr} {u : Value} (hc : w.cell? a = some u) : w'.cell? a = some u := (h.cell (block_lt_of_cell hc)).trans hc
theorem build_peer (p l : Nat) (w : World) : Sem.run Try.prog (Instr.build 31 #[(0, .int .i64 (p : Int)), (1, .int .i64 (l : Int))]) w = .ok (.agg (peerC (p, l))) w := by kernel_rfl
theorem peer_cell0 {w : World} {b t : Nat} {x : Nat × Nat} {fr : Nat × Nat} (h : w.heap[b]? = some (.cells (peerC x) t fr)) : w.cell? ⟨b, 0, none⟩ = some (.int .i64 (x.1 : Int)) := by rw [cell_of_row _ _ _ _ _ _ h]; rfl
theorem peer_cell1 {w : World} {b t : Nat} {x : Nat × Nat} {fr : Nat × Nat} (h : w.heap[b]? = some (.cells (peerC x) t fr)) : w.cell? ⟨b, 1, none⟩ = some (.int .i64 (x.2 : Int)) := by rw [cell_of_row _ _ _ _ _ _ h]; rfl
theorem ev_loadP {w : World} {d : Option Tmp} {ty : TypeId} {pos : String} {af : Array Edge} {gd : Option (Nat × Bool)} {ev : Operand → Value} {x : Operand} (b : Nat) (hx : ev x = .pointer (some ⟨b, 0, none⟩)) (y : Nat × Nat) (t : Nat) (fr : Nat × Nat) (hc : w.heap[b]? = some (.cells (peerC y) t fr)) :
    (execOp ev ⟨d, .load 31 x, ty, pos, af, gd⟩).run Try.prog w = .ok (.value (.agg (peerC y))) w := by
  simp only [execOp, hx, Instr.loadAt, Instr.sureAddr, Sem.run_bind, Sem.run_pure, Result.andThen_ok]
  rw [run_loadVar_row w b t 31 (peerC y) fr _ hc Try.underlying31 rfl (info_peer y)]
  rfl
section
variable {w : World} {tb mb many limit hold N : Nat} {f : Nat → Nat × Nat}
set_option maxHeartbeats 1000000 in
theorem blame_no (peer pts : Int) (hT : Tab w tb mb many limit hold f N) (hm : many ≤ 64) (h : isP many peer = false ∨ isAway many f peer = true ∨ pts < 1) :
    Calls Try.prog 11 #[.pointer (some ⟨tb, 0, none⟩), .int .i64 peer, .int .i64 pts] w fun e w' => e = .returned (.bool false) ∧ w' = w := by
  refine calls_of_wp Try.func11 rfl ?_
  simp only [Try.ntmps11, List.size_toArray, List.length_cons, List.length_nil, Nat.reduceAdd, Nat.reduceSub, Array.replicate_succ, Array.replicate_zero, List.push_toArray, List.append_toArray, List.nil_append, List.cons_append]
  have HTH := Lib.hid (there_any tb many peer w hT.cell0)
  have HAW := Lib.hid (away_any peer hT hm)
  generalize isP many peer = b1 at *
  generalize isAway many f peer = b2 at *
  cases b1
  · clear h
    go_wp2_with (go_at_call 24; refine HTH.out.mono ?_; rintro e w2 ⟨rfl, rfl⟩)
    go_ret
    exact ⟨rfl, rfl⟩
  · cases b2
    · have h1 : pts < 1 := by simpa using h
      clear h
      go_wp2_with (first
        | (go_at_call 24; refine HTH.out.mono ?_; rintro e w2 ⟨rfl, rfl⟩)
        | (go_at_call 12; refine HAW.out.mono ?_; rintro e w2 ⟨rfl, rfl⟩))
      go_ret
      exact ⟨rfl, rfl⟩
    · clear h
      go_wp2_with (first
        | (go_at_call 24; refine HTH.out.mono ?_; rintro e w2 ⟨rfl, rfl⟩)
        | (go_at_call 12; refine HAW.out.mono ?_; rintro e w2 ⟨rfl, rfl⟩))
      go_ret
      exact ⟨rfl, rfl⟩
theorem blame_nil (peer pts : Int) (w : World) :
    Calls Try.prog 11 #[.pointer none, .int .i64 peer, .int .i64 pts] w fun e w' => e = .returned (.bool false) ∧ w' = w := by
  refine calls_of_wp Try.func11 rfl ?_
  simp only [Try.ntmps11, List.size_toArray, List.length_cons, List.length_nil, Nat.reduceAdd, Nat.reduceSub, Array.replicate_succ, Array.replicate_zero, List.push_toArray, List.append_toArray, List.nil_append, List.cons_append]
  go_wp2_with (go_at_call 24; refine (there_nil peer _).mono ?_; rintro e w2 ⟨rfl, rfl⟩)
  go_ret
  exact ⟨rfl, rfl⟩
set_option maxHeartbeats 2000000 in
theorem blame_yes (k n : Nat) (x y : Nat × Nat) (d : Bool) (hT : Tab w tb mb many limit hold f N) (hm : many ≤ 64) (hk : k < many) (hx : x = f k) (hx2 : x.2 = 0) (hx1 : x.1 < limit) (hl : limit ≤ 1000) (hn : 1 ≤ n) (hn2 : n ≤ 9223372036854775807) (hN : N < 1000000)
    (hd : decide (limit ≤ x.1 + n) = d) (hy : y = if d then (limit / 2, hold) else (x.1 + n, 0)) :
    Calls Try.prog 11 #[.pointer (some ⟨tb, 0, none⟩), .int .i64 (k : Int), .int .i64 (n : Int)] w fun e w' => e = .returned (.bool d) ∧ Tab w' tb mb many limit hold (upd f k y) (N + 1) ∧ w.grownBy w' (some mb) := by
  refine calls_of_wp Try.func11 rfl ?_
  simp only [Try.ntmps11, List.size_toArray, List.length_cons, List.length_nil, Nat.reduceAdd, Nat.reduceSub, Array.replicate_succ, Array.replicate_zero, List.push_toArray, List.append_toArray, List.nil_append, List.cons_append]
  have HTH := Lib.hid (there_any tb many (k : Int) w hT.cell0)
  have HAW := Lib.hid (away_any (k : Int) hT hm)
  have hl2 := hT.look k (by omega)
  have c3 := hT.cell3
  have g1 : isP many (k : Int) = true := by rw [isP, decide_eq_true_iff]; omega
  have g2 : isAway many f (k : Int) = false := by simp [isAway, g1, ← hx, hx2]
  rw [g1] at HTH
  rw [g2] at HAW
  rw [← hx] at hl2
  obtain ⟨p, l⟩ := x
  simp only at hx2 hx1 hd hy
  subst hx2
  obtain ⟨h2, hh2⟩ : ∃ h, h = limit / 2 := ⟨_, rfl⟩
  rw [← hh2] at hy
  have n1 : (1 : Int) ≤ (n : Int) := by omega
  have n2 : ¬ (n : Int) < 1 := by omega
  have n3 : decide ((n : Int) < 1) = false := decide_eq_false n2
  have HKM := Lib.hid hk
  have HM := Lib.hid hm
  have HN := Lib.hid hN
  have HY := Lib.hid hy
  have HTW := Lib.hid hT
  have F2 : (limit : Int) / 2 = (h2 : Int) := by omega
  obtain ⟨s7, hs7⟩ : ∃ s : Int, s = (limit : Int) - (p : Int) := ⟨_, rfl⟩
  have FS : Hid (IntKind.i64.wrap ((limit : Int) - (p : Int)) = s7) := by show _ = _; rw [hs7]; exact IntWalk.i64_in _ (by omega)
  have hd2 : decide (s7 ≤ (n : Int)) = d := by
    rw [← hd]
    congr 1
    exact propext (by omega)
  have l0 : (0 : Int) ≤ (limit : Int) := by omega
  have FH : Hid (IntKind.i64.wrap (h2 : Int) = (h2 : Int)) := IntWalk.i64_in _ (by omega)
  have FA : Hid (d = false → wrap64 ((p : Int) + (n : Int)) = ((p + n : Nat) : Int)) := by
    intro hdf
    rw [hdf, decide_eq_false_iff_not] at hd
    unfold wrap64
    omega
  clear g1 g2 hx hT hm hN hy hx1 hl hn hn2 hd hs7 hh2 hk
  go_upto_region 4 with (first
    | (go_at_call 24; refine HTH.out.mono ?_; rintro e w2 ⟨rfl, rfl⟩)
    | (go_at_call 12; refine HAW.out.mono ?_; rintro e w2 ⟨rfl, rfl⟩)
    | ((with_reducible refine at_alloc 31 ?_); refine wpList_alloc_zero rfl 31 rfl _ alloc_peer ?_)
    | ((with_reducible refine at_store 31 ?_); refine wpList_store_row rfl 31 _ _ rfl _ (peerC (p, 0)) rfl rfl _ _ (heap_alloc_new _ _) (info_peer _) (size_peer _ _) (one_peer _) ?_))
  have hB7 : Below w2.heap.size w2 ((w2.alloc (.cells (peerC (0, 0)) 31)).setRow w2.heap.size (peerC (p, 0))) := below_setRow ((Below.refl _ w2).alloc (Nat.le_refl _) _) (Nat.le_refl _) _
  have k7 := heap_setRow (heap_alloc_new w2 (.cells (peerC (0, 0)) 31)) (peerC (p, 0))
  generalize (w2.alloc (.cells (peerC (0, 0)) 31)).setRow w2.heap.size (peerC (p, 0)) = w7 at *
  have HT7 := Lib.hid (HTW.out.later hB7)
  have HB7 := Lib.hid hB7
  obtain ⟨B7, hb7⟩ : ∃ B, B = w2.heap.size := ⟨_, rfl⟩
  have HBZ : Hid (w2.heap.size ≤ B7) := by rw [hb7]; exact Nat.le_refl _
  rw [← hb7] at k7 ⊢
  have K7 := Lib.hid k7
  have C1 := Lib.hid HT7.out.cell1
  have C70 := Lib.hid (peer_cell0 k7)
  clear hB7 hb7 k7 HTH HAW hl2 c3
  refine Each.region_all (by kernel_rfl) (by kernel_rfl) (by kernel_rfl) (fun _ w1 => Below w7.heap.size w7 w1) (fun _ w w' => Below w.heap.size w w') (Each.nth [fun v _ => v = .int .i64 n, fun v _ => v = .pointer (some ⟨tb, 0, none⟩), fun v _ => v = .pointer (some ⟨tb, 0, none⟩), fun v _ => v = .pointer (some ⟨tb, 1, none⟩), fun v _ => v = .int .i64 limit, fun v _ => v = .pointer (some ⟨B7, 0, none⟩), fun v _ => v = .int .i64 p, fun v _ => v = .int .i64 s7, fun v _ => v = .bool d, fun v _ => v = .bool d]) (fun _ w => Below.refl _ _) (fun _ _ _ _ h => h) ?stab4 ((Below.refl _ _).drew) ?hob4 ?hend4
  case stab4 =>
    refine Each.nth_stab _ ?_
    refine Each.stab_cons (fun _ _ _ _ _ _ _ e => e) ?_
    refine Each.stab_cons (fun _ _ _ _ _ _ _ e => e) ?_
    refine Each.stab_cons (fun _ _ _ _ _ _ _ e => e) ?_
    refine Each.stab_cons (fun _ _ _ _ _ _ _ e => e) ?_
    refine Each.stab_cons (fun _ _ _ _ _ _ _ e => e) ?_
    refine Each.stab_cons (fun _ _ _ _ _ _ _ e => e) ?_
    refine Each.stab_cons (fun _ _ _ _ _ _ _ e => e) ?_
    refine Each.stab_cons (fun _ _ _ _ _ _ _ e => e) ?_
    refine Each.stab_cons (fun _ _ _ _ _ _ _ e => e) ?_
    refine Each.stab_cons (fun _ _ _ _ _ _ _ e => e) ?_
    exact Each.stab_nil
  case hob4 =>
    refine Each.obvs_cons (Each.obv_val (fun w => Below.refl _ _) (fun _ _ h => h) _ (fun ev vs dn w1 he hk hg hfn hI hf hc hd => ⟨trivial, ?_, rfl⟩)) ?_
    · have e2 : ev (.tmp 2) = .int .i64 n := (he 2).trans (by kernel_rfl)
      clear hd hf hc he
      go_simp
      try first | exact IntWalk.i64_in _ (by omega) | exact IntWalk.u64_in _ (by omega) | exact IntWalk.u32_in _ (by omega)
    refine Each.obvs_cons (Each.obv_val (fun w => Below.refl _ _) (fun _ _ h => h) _ (fun ev vs dn w1 he hk hg hfn hI hf hc hd => ⟨trivial, ?_, rfl⟩)) ?_
    · have e0 : ev (.tmp 0) = .pointer (some ⟨tb, 0, none⟩) := (he 0).trans (by kernel_rfl)
      clear hd hf hc he
      go_simp
      try first | exact IntWalk.i64_in _ (by omega) | exact IntWalk.u64_in _ (by omega) | exact IntWalk.u32_in _ (by omega)
    refine Each.obvs_cons (Each.obv_val (fun w => Below.refl _ _) (fun _ _ h => h) _ (fun ev vs dn w1 he hk hg hfn hI hf hc hd => ⟨trivial, ?_, rfl⟩)) ?_
    · have h1 : vs 1 = _ := hd 1 (by decide)
      have e29 : ev (.tmp 29) = vs 1 := (he 29).trans (by kernel_rfl)
      rw [h1] at e29
      clear hd hf hc he
      clear h1
      go_simp
      try first | exact IntWalk.i64_in _ (by omega) | exact IntWalk.u64_in _ (by omega) | exact IntWalk.u32_in _ (by omega)
    refine Each.obvs_cons (Each.obv_val (fun w => Below.refl _ _) (fun _ _ h => h) _ (fun ev vs dn w1 he hk hg hfn hI hf hc hd => ⟨trivial, ?_, rfl⟩)) ?_
    · have h2 : vs 2 = _ := hd 2 (by decide)
      have e30 : ev (.tmp 30) = vs 2 := (he 30).trans (by kernel_rfl)
      rw [h2] at e30
      clear hd hf hc he
      clear h2
      go_simp
      try first | exact IntWalk.i64_in _ (by omega) | exact IntWalk.u64_in _ (by omega) | exact IntWalk.u32_in _ (by omega)
    refine Each.obvs_cons (Each.obv_val (fun w => Below.refl _ _) (fun _ _ h => h) _ (fun ev vs dn w1 he hk hg hfn hI hf hc hd => ⟨trivial, ?_, rfl⟩)) ?_
    · have h3 : vs 3 = _ := hd 3 (by decide)
      have e31 : ev (.tmp 31) = vs 3 := (he 31).trans (by kernel_rfl)
      rw [h3] at e31
      clear hd hf hc he
      clear h3
      have hc := cell_later hI C1.out
      go_simp
    refine Each.obvs_cons (Each.obv_val (fun w => Below.refl _ _) (fun _ _ h => h) _ (fun ev vs dn w1 he hk hg hfn hI hf hc hd => ⟨trivial, ?_, rfl⟩)) ?_
    · have e7 : ev (.tmp 7) = .pointer (some ⟨B7, 0, none⟩) := (he 7).trans (by kernel_rfl)
      clear hd hf hc he
      go_simp
      try first | exact IntWalk.i64_in _ (by omega) | exact IntWalk.u64_in _ (by omega) | exact IntWalk.u32_in _ (by omega)
    refine Each.obvs_cons (Each.obv_val (fun w => Below.refl _ _) (fun _ _ h => h) _ (fun ev vs dn w1 he hk hg hfn hI hf hc hd => ⟨trivial, ?_, rfl⟩)) ?_
    · have h5 : vs 5 = _ := hd 5 (by decide)
      have e33 : ev (.tmp 33) = vs 5 := (he 33).trans (by kernel_rfl)
      rw [h5] at e33
      clear hd hf hc he
      clear h5
      have hc := cell_later hI C70.out
      go_simp
    refine Each.obvs_cons (Each.obv_val (fun w => Below.refl _ _) (fun _ _ h => h) _ (fun ev vs dn w1 he hk hg hfn hI hf hc hd => ⟨trivial, ?_, rfl⟩)) ?_
    · have h4 : vs 4 = _ := hd 4 (by decide)
      have h6 : vs 6 = _ := hd 6 (by decide)
      have e32 : ev (.tmp 32) = vs 4 := (he 32).trans (by kernel_rfl)
      rw [h4] at e32
      have e34 : ev (.tmp 34) = vs 6 := (he 34).trans (by kernel_rfl)
      rw [h6] at e34
      clear hd hf hc he
      clear h4 h6
      go_simp
      exact FS.out
    refine Each.obvs_cons (Each.obv_val (fun w => Below.refl _ _) (fun _ _ h => h) _ (fun ev vs dn w1 he hk hg hfn hI hf hc hd => ⟨trivial, ?_, rfl⟩)) ?_
    · have h0 : vs 0 = _ := hd 0 (by decide)
      have h7 : vs 7 = _ := hd 7 (by decide)
      have e28 : ev (.tmp 28) = vs 0 := (he 28).trans (by kernel_rfl)
      rw [h0] at e28
      have e35 : ev (.tmp 35) = vs 7 := (he 35).trans (by kernel_rfl)
      rw [h7] at e35
      clear hd hf hc he
      clear h0 h7
      go_simp
      try first | exact IntWalk.i64_in _ (by omega) | exact IntWalk.u64_in _ (by omega) | exact IntWalk.u32_in _ (by omega)
    refine Each.obvs_cons (Each.obv_val (fun w => Below.refl _ _) (fun _ _ h => h) _ (fun ev vs dn w1 he hk hg hfn hI hf hc hd => ⟨trivial, ?_, rfl⟩)) ?_
    · have h0 : vs 0 = _ := hd 0 (by decide)
      have h1 : vs 1 = _ := hd 1 (by decide)
      have h2 : vs 2 = _ := hd 2 (by decide)
      have h3 : vs 3 = _ := hd 3 (by decide)
      have h4 : vs 4 = _ := hd 4 (by decide)
      have h5 : vs 5 = _ := hd 5 (by decide)
      have h6 : vs 6 = _ := hd 6 (by decide)
      have h7 : vs 7 = _ := hd 7 (by decide)
      have h8 : vs 8 = _ := hd 8 (by decide)
      have e36 : ev (.tmp 36) = vs 8 := (he 36).trans (by kernel_rfl)
      rw [h8] at e36
      clear hd hf hc he
      clear h0 h1 h2 h3 h4 h5 h6 h7 h8
      go_simp
      try first | exact IntWalk.i64_in _ (by omega) | exact IntWalk.u64_in _ (by omega) | exact IntWalk.u32_in _ (by omega)
    exact Each.obvs_nil
  case hend4 =>
    intro vs dn wx hI hR
    have h8 : vs 8 = _ := hR 8 (by decide)
    have h9 : vs 9 = _ := hR 9 (by decide)
    have hB4 : Below w7.heap.size w7 wx := hI
    clear hR hI
    simp only [Each.puts, Act.put, List.setIfInBounds_toArray, List.set_cons_zero, List.set_cons_succ, Nat.zero_add, Nat.reduceAdd]
    rw [h9]
    clear h8 h9
    have HT8 := Lib.hid (HT7.out.later hB4)
    have HK8 := Lib.hid ((hB4.block _ (Array.getElem?_eq_some_iff.1 K7.out).1).trans K7.out)
    have HB8 := Lib.hid (HB7.out.trans (hB4.mono HB7.out.size))
    clear hB4 HT7 K7 HB7 FS
    cases d
    · have hy2 : y = (p + n, 0) := by simpa using HY.out
      clear HY
      have C70 := peer_cell0 HK8.out
      have f70 := frozen_of_row wx B7 0 _ _ HK8.out
      go_upto_region 8 with fail
      have k9 : (wx.setCell ⟨B7, 0, none⟩ (.int .i64 ((p + n : Nat) : Int))).heap[B7]? = some (.cells (peerC y) 31 (0, 0)) := by
        rw [heap_setCell_same _ _ _ _ _ _ HK8.out, hy2]
        rfl
      have hB9 := HB8.out.setCell (p := ⟨B7, 0, none⟩) HBZ.out (.int .i64 ((p + n : Nat) : Int))
      have hT9 : Tab (wx.setCell ⟨B7, 0, none⟩ (.int .i64 ((p + n : Nat) : Int))) tb mb many limit hold f N := HTW.out.later hB9
      rw [FA.out rfl]
      generalize wx.setCell ⟨B7, 0, none⟩ (.int .i64 ((p + n : Nat) : Int)) = w9 at *
      have HT9 := Lib.hid hT9
      have K9 := Lib.hid k9
      have HB9 := Lib.hid hB9
      clear HT8 HK8 HB8 C70 f70 k9 hB9 hT9 hy2 HTW
      refine Each.region_most (front := ?front1) (ol := ?ol1) ?snoc1 (by kernel_rfl) ?chk1 ?fits1 ?gl1 (fun _ w1 => Below w9.heap.size w9 w1) (fun _ w w' => Below w.heap.size w w') (Each.nth [fun v _ => v = .pointer (some ⟨tb, 0, none⟩), fun v _ => v = .pointer (some ⟨tb, 0, none⟩), fun v _ => v = .pointer (some ⟨tb, 3, none⟩), fun v _ => v = .map (some mb), fun v _ => v = .int .i64 k, fun v _ => v = .agg (peerC y)]) (fun _ w => Below.refl _ _) (fun _ _ _ _ h => h) ?stab1 ((Below.refl _ _).drew) ?hob1 ?hend1
      case snoc1 => exact (.cons _ (.cons _ (.cons _ (.cons _ (.cons _ (.cons _ (.one _)))))))
      case chk1 => kernel_rfl
      case fits1 => kernel_rfl
      case gl1 => rfl
      case stab1 =>
        refine Each.nth_stab _ ?_
        refine Each.stab_cons (fun _ _ _ _ _ _ _ e => e) ?_
        refine Each.stab_cons (fun _ _ _ _ _ _ _ e => e) ?_
        refine Each.stab_cons (fun _ _ _ _ _ _ _ e => e) ?_
        refine Each.stab_cons (fun _ _ _ _ _ _ _ e => e) ?_
        refine Each.stab_cons (fun _ _ _ _ _ _ _ e => e) ?_
        refine Each.stab_cons (fun _ _ _ _ _ _ _ e => e) ?_
        exact Each.stab_nil
      case hob1 =>
        refine Each.obvs_cons (Each.obv_val (fun w => Below.refl _ _) (fun _ _ h => h) _ (fun ev vs dn w1 he hk hg hfn hI hf hc hd => ⟨trivial, ?_, rfl⟩)) ?_
        · have e0 : ev (.tmp 0) = .pointer (some ⟨tb, 0, none⟩) := (he 0).trans (by kernel_rfl)
          clear hd hf hc he
          go_simp
          try first | exact IntWalk.i64_in _ (by omega) | exact IntWalk.u64_in _ (by omega) | exact IntWalk.u32_in _ (by omega)
        refine Each.obvs_cons (Each.obv_val (fun w => Below.refl _ _) (fun _ _ h => h) _ (fun ev vs dn w1 he hk hg hfn hI hf hc hd => ⟨trivial, ?_, rfl⟩)) ?_
        · have h0 : vs 0 = _ := hd 0 (by decide)
          have e53 : ev (.tmp 53) = vs 0 := (he 53).trans (by kernel_rfl)
          rw [h0] at e53
          clear hd hf hc he
          clear h0
          go_simp
          try first | exact IntWalk.i64_in _ (by omega) | exact IntWalk.u64_in _ (by omega) | exact IntWalk.u32_in _ (by omega)
        refine Each.obvs_cons (Each.obv_val (fun w => Below.refl _ _) (fun _ _ h => h) _ (fun ev vs dn w1 he hk hg hfn hI hf hc hd => ⟨trivial, ?_, rfl⟩)) ?_
        · have h1 : vs 1 = _ := hd 1 (by decide)
          have e54 : ev (.tmp 54) = vs 1 := (he 54).trans (by kernel_rfl)
          rw [h1] at e54
          clear hd hf hc he
          clear h1
          go_simp
          try first | exact IntWalk.i64_in _ (by omega) | exact IntWalk.u64_in _ (by omega) | exact IntWalk.u32_in _ (by omega)
        refine Each.obvs_cons (Each.obv_val (fun w => Below.refl _ _) (fun _ _ h => h) _ (fun ev vs dn w1 he hk hg hfn hI hf hc hd => ⟨trivial, ?_, rfl⟩)) ?_
        · have h2 : vs 2 = _ := hd 2 (by decide)
          have e55 : ev (.tmp 55) = vs 2 := (he 55).trans (by kernel_rfl)
          rw [h2] at e55
          clear hd hf hc he
          clear h2
          have hc := cell_later hI HT9.out.cell3
          go_simp
        refine Each.obvs_cons (Each.obv_val (fun w => Below.refl _ _) (fun _ _ h => h) _ (fun ev vs dn w1 he hk hg hfn hI hf hc hd => ⟨trivial, ?_, rfl⟩)) ?_
        · have e1 : ev (.tmp 1) = .int .i64 k := (he 1).trans (by kernel_rfl)
          clear hd hf hc he
          go_simp
          try first | exact IntWalk.i64_in _ (by omega) | exact IntWalk.u64_in _ (by omega) | exact IntWalk.u32_in _ (by omega)
        refine Each.obvs_cons (Each.obv_val (fun w => Below.refl _ _) (fun _ _ h => h) _ (fun ev vs dn w1 he hk hg hfn hI hf hc hd => ⟨trivial, ?_, rfl⟩)) ?_
        · have e7 : ev (.tmp 7) = .pointer (some ⟨B7, 0, none⟩) := (he 7).trans (by kernel_rfl)
          clear hd he
          exact ev_loadP B7 (by exact e7) y _ _ ((hI.block _ (Array.getElem?_eq_some_iff.1 K9.out).1).trans K9.out)
        exact Each.obvs_nil
      case hend1 =>
        intro vs dn wz hI hR
        have h3 : vs 3 = _ := hR 3 (by decide)
        have h4 : vs 4 = _ := hR 4 (by decide)
        have h5 : vs 5 = _ := hR 5 (by decide)
        have hB8 : Below w9.heap.size w9 wz := hI
        clear hR hI
        simp only [Each.puts, Act.put, List.setIfInBounds_toArray, List.set_cons_zero, List.set_cons_succ, Nat.zero_add, Nat.reduceAdd]
        rw [h3, h4, h5]
        clear h3 h4 h5
        have HTa := Lib.hid (HT9.out.later hB8)
        have HBa := Lib.hid (HB9.out.trans (hB8.mono HB9.out.size))
        clear hB8 HT9 HB9 K9
        go_wp2_with (at_mapUpdate; refine wpList_put rfl _ _ _ rfl HTa.out HN.out k HKM.out HM.out y rfl rfl rfl ?_; intro wq hTq hgq)
        refine bodyPost_ret (results_tmp rfl _ _ _) rfl ?_
        exact ⟨rfl, hTq, (grown_of_below HBa.out (some mb)).trans hgq⟩
    · have hy2 : y = (h2, hold) := by simpa using HY.out
      clear HY
      have C1b := Lib.hid HT8.out.cell1
      have C2b := Lib.hid HT8.out.cell2
      go_upto_region 6 with fail
      refine Each.region_most (front := ?front3) (ol := ?ol3) ?snoc3 (by kernel_rfl) ?chk3 ?fits3 ?gl3 (fun _ w1 => Below wx.heap.size wx w1) (fun _ w w' => Below w.heap.size w w') (Each.nth [fun v _ => v = .pointer (some ⟨tb, 0, none⟩), fun v _ => v = .pointer (some ⟨tb, 0, none⟩), fun v _ => v = .pointer (some ⟨tb, 1, none⟩), fun v _ => v = .int .i64 limit, fun v _ => v = .int .i64 h2, fun v _ => v = .pointer (some ⟨tb, 0, none⟩), fun v _ => v = .pointer (some ⟨tb, 0, none⟩), fun v _ => v = .pointer (some ⟨tb, 2, none⟩), fun v _ => v = .int .i64 hold, fun v _ => v = .agg (peerC (h2, hold))]) (fun _ w => Below.refl _ _) (fun _ _ _ _ h => h) ?stab3 ((Below.refl _ _).drew) ?hob3 ?hend3
      case snoc3 => exact (.cons _ (.cons _ (.cons _ (.cons _ (.cons _ (.cons _ (.cons _ (.cons _ (.cons _ (.cons _ (.one _)))))))))))
      case chk3 => kernel_rfl
      case fits3 => kernel_rfl
      case gl3 => rfl
      case stab3 =>
        refine Each.nth_stab _ ?_
        refine Each.stab_cons (fun _ _ _ _ _ _ _ e => e) ?_
        refine Each.stab_cons (fun _ _ _ _ _ _ _ e => e) ?_
        refine Each.stab_cons (fun _ _ _ _ _ _ _ e => e) ?_
        refine Each.stab_cons (fun _ _ _ _ _ _ _ e => e) ?_
        refine Each.stab_cons (fun _ _ _ _ _ _ _ e => e) ?_
        refine Each.stab_cons (fun _ _ _ _ _ _ _ e => e) ?_
        refine Each.stab_cons (fun _ _ _ _ _ _ _ e => e) ?_
        refine Each.stab_cons (fun _ _ _ _ _ _ _ e => e) ?_
        refine Each.stab_cons (fun _ _ _ _ _ _ _ e => e) ?_
        refine Each.stab_cons (fun _ _ _ _ _ _ _ e => e) ?_
        exact Each.stab_nil
      case hob3 =>
        refine Each.obvs_cons (Each.obv_val (fun w => Below.refl _ _) (fun _ _ h => h) _ (fun ev vs dn w1 he hk hg hfn hI hf hc hd => ⟨trivial, ?_, rfl⟩)) ?_
        · have e0 : ev (.tmp 0) = .pointer (some ⟨tb, 0, none⟩) := (he 0).trans (by kernel_rfl)
          clear hd hf hc he
          go_simp
          try first | exact IntWalk.i64_in _ (by omega) | exact IntWalk.u64_in _ (by omega) | exact IntWalk.u32_in _ (by omega)
        refine Each.obvs_cons (Each.obv_val (fun w => Below.refl _ _) (fun _ _ h => h) _ (fun ev vs dn w1 he hk hg hfn hI hf hc hd => ⟨trivial, ?_, rfl⟩)) ?_
        · have h0 : vs 0 = _ := hd 0 (by decide)
          have e38 : ev (.tmp 38) = vs 0 := (he 38).trans (by kernel_rfl)
          rw [h0] at e38
          clear hd hf hc he
          clear h0
          go_simp
          try first | exact IntWalk.i64_in _ (by omega) | exact IntWalk.u64_in _ (by omega) | exact IntWalk.u32_in _ (by omega)
        refine Each.obvs_cons (Each.obv_val (fun w => Below.refl _ _) (fun _ _ h => h) _ (fun ev vs dn w1 he hk hg hfn hI hf hc hd => ⟨trivial, ?_, rfl⟩)) ?_
        · have h1 : vs 1 = _ := hd 1 (by decide)
          have e39 : ev (.tmp 39) = vs 1 := (he 39).trans (by kernel_rfl)
          rw [h1] at e39
          clear hd hf hc he
          clear h1
          go_simp
          try first | exact IntWalk.i64_in _ (by omega) | exact IntWalk.u64_in _ (by omega) | exact IntWalk.u32_in _ (by omega)
        refine Each.obvs_cons (Each.obv_val (fun w => Below.refl _ _) (fun _ _ h => h) _ (fun ev vs dn w1 he hk hg hfn hI hf hc hd => ⟨trivial, ?_, rfl⟩)) ?_
        · have h2 : vs 2 = _ := hd 2 (by decide)
          have e40 : ev (.tmp 40) = vs 2 := (he 40).trans (by kernel_rfl)
          rw [h2] at e40
          clear hd hf hc he
          clear h2
          have hc := cell_later hI C1b.out
          go_simp
        refine Each.obvs_cons (Each.obv_val (fun w => Below.refl _ _) (fun _ _ h => h) _ (fun ev vs dn w1 he hk hg hfn hI hf hc hd => ⟨trivial, ?_, rfl⟩)) ?_
        · have h3 : vs 3 = _ := hd 3 (by decide)
          have e41 : ev (.tmp 41) = vs 3 := (he 41).trans (by kernel_rfl)
          rw [h3] at e41
          clear hd hf hc he
          clear h3
          go_simp
          exact FH.out
        refine Each.obvs_cons (Each.obv_val (fun w => Below.refl _ _) (fun _ _ h => h) _ (fun ev vs dn w1 he hk hg hfn hI hf hc hd => ⟨trivial, ?_, rfl⟩)) ?_
        · have e0 : ev (.tmp 0) = .pointer (some ⟨tb, 0, none⟩) := (he 0).trans (by kernel_rfl)
          clear hd hf hc he
          go_simp
          try first | exact IntWalk.i64_in _ (by omega) | exact IntWalk.u64_in _ (by omega) | exact IntWalk.u32_in _ (by omega)
        refine Each.obvs_cons (Each.obv_val (fun w => Below.refl _ _) (fun _ _ h => h) _ (fun ev vs dn w1 he hk hg hfn hI hf hc hd => ⟨trivial, ?_, rfl⟩)) ?_
        · have h5 : vs 5 = _ := hd 5 (by decide)
          have e43 : ev (.tmp 43) = vs 5 := (he 43).trans (by kernel_rfl)
          rw [h5] at e43
          clear hd hf hc he
          clear h5
          go_simp
          try first | exact IntWalk.i64_in _ (by omega) | exact IntWalk.u64_in _ (by omega) | exact IntWalk.u32_in _ (by omega)
        refine Each.obvs_cons (Each.obv_val (fun w => Below.refl _ _) (fun _ _ h => h) _ (fun ev vs dn w1 he hk hg hfn hI hf hc hd => ⟨trivial, ?_, rfl⟩)) ?_
        · have h6 : vs 6 = _ := hd 6 (by decide)
          have e44 : ev (.tmp 44) = vs 6 := (he 44).trans (by kernel_rfl)
          rw [h6] at e44
          clear hd hf hc he
          clear h6
          go_simp
          try first | exact IntWalk.i64_in _ (by omega) | exact IntWalk.u64_in _ (by omega) | exact IntWalk.u32_in _ (by omega)
        refine Each.obvs_cons (Each.obv_val (fun w => Below.refl _ _) (fun _ _ h => h) _ (fun ev vs dn w1 he hk hg hfn hI hf hc hd => ⟨trivial, ?_, rfl⟩)) ?_
        · have h7 : vs 7 = _ := hd 7 (by decide)
          have e45 : ev (.tmp 45) = vs 7 := (he 45).trans (by kernel_rfl)
          rw [h7] at e45
          clear hd hf hc he
          clear h7
          have hc := cell_later hI C2b.out
          go_simp
        refine Each.obvs_cons (Each.obv_val (fun w => Below.refl _ _) (fun _ _ h => h) _ (fun ev vs dn w1 he hk hg hfn hI hf hc hd => ⟨trivial, ?_, rfl⟩)) ?_
        · have h4 : vs 4 = _ := hd 4 (by decide)
          have h8 : vs 8 = _ := hd 8 (by decide)
          have e42 : ev (.tmp 42) = vs 4 := (he 42).trans (by kernel_rfl)
          rw [h4] at e42
          have e46 : ev (.tmp 46) = vs 8 := (he 46).trans (by kernel_rfl)
          rw [h8] at e46
          clear hd hf hc he
          clear h4 h8
          have hb := build_peer h2 hold
          go_simp
          rfl
        exact Each.obvs_nil
      case hend3 =>
        intro vs dn wy hI hR
        have h9 : vs 9 = _ := hR 9 (by decide)
        have hB6 : Below wx.heap.size wx wy := hI
        clear hR hI
        simp only [Each.puts, Act.put, List.setIfInBounds_toArray, List.set_cons_zero, List.set_cons_succ, Nat.zero_add, Nat.reduceAdd]
        rw [h9, ← hy2]
        clear h9
        have HK9 := Lib.hid ((hB6.block _ (Array.getElem?_eq_some_iff.1 HK8.out).1).trans HK8.out)
        have HB9 := Lib.hid (HB8.out.trans (hB6.mono HB8.out.size))
        clear hB6 HK8 HB8 HT8 hy2 C1b C2b
        go_upto_region 8 with ((with_reducible refine at_store 31 ?_); refine wpList_store_row rfl 31 _ _ rfl B7 (peerC y) rfl rfl _ _ HK9.out (info_peer y) (size_peer _ _) (one_peer _) ?_)
        have k9 := heap_setRow HK9.out (peerC y)
        have hB9 := below_setRow HB9.out HBZ.out (peerC y)
        have hT9 := HTW.out.later hB9
        generalize wy.setRow B7 (peerC y) = w9 at *
        have HT9 := Lib.hid hT9
        have K9 := Lib.hid k9
        have HB9 := Lib.hid hB9
        clear HK9 k9 hB9 hT9 HTW
        refine Each.region_most (front := ?front2) (ol := ?ol2) ?snoc2 (by kernel_rfl) ?chk2 ?fits2 ?gl2 (fun _ w1 => Below w9.heap.size w9 w1) (fun _ w w' => Below w.heap.size w w') (Each.nth [fun v _ => v = .pointer (some ⟨tb, 0, none⟩), fun v _ => v = .pointer (some ⟨tb, 0, none⟩), fun v _ => v = .pointer (some ⟨tb, 3, none⟩), fun v _ => v = .map (some mb), fun v _ => v = .int .i64 k, fun v _ => v = .agg (peerC y)]) (fun _ w => Below.refl _ _) (fun _ _ _ _ h => h) ?stab2 ((Below.refl _ _).drew) ?hob2 ?hend2
        case snoc2 => exact (.cons _ (.cons _ (.cons _ (.cons _ (.cons _ (.cons _ (.one _)))))))
        case chk2 => kernel_rfl
        case fits2 => kernel_rfl
        case gl2 => rfl
        case stab2 =>
          refine Each.nth_stab _ ?_
          refine Each.stab_cons (fun _ _ _ _ _ _ _ e => e) ?_
          refine Each.stab_cons (fun _ _ _ _ _ _ _ e => e) ?_
          refine Each.stab_cons (fun _ _ _ _ _ _ _ e => e) ?_
          refine Each.stab_cons (fun _ _ _ _ _ _ _ e => e) ?_
          refine Each.stab_cons (fun _ _ _ _ _ _ _ e => e) ?_
          refine Each.stab_cons (fun _ _ _ _ _ _ _ e => e) ?_
          exact Each.stab_nil
        case hob2 =>
          refine Each.obvs_cons (Each.obv_val (fun w => Below.refl _ _) (fun _ _ h => h) _ (fun ev vs dn w1 he hk hg hfn hI hf hc hd => ⟨trivial, ?_, rfl⟩)) ?_
          · have e0 : ev (.tmp 0) = .pointer (some ⟨tb, 0, none⟩) := (he 0).trans (by kernel_rfl)
            clear hd hf hc he
            go_simp
            try first | exact IntWalk.i64_in _ (by omega) | exact IntWalk.u64_in _ (by omega) | exact IntWalk.u32_in _ (by omega)
          refine Each.obvs_cons (Each.obv_val (fun w => Below.refl _ _) (fun _ _ h => h) _ (fun ev vs dn w1 he hk hg hfn hI hf hc hd => ⟨trivial, ?_, rfl⟩)) ?_
          · have h0 : vs 0 = _ := hd 0 (by decide)
            have e53 : ev (.tmp 53) = vs 0 := (he 53).trans (by kernel_rfl)
            rw [h0] at e53
            clear hd hf hc he
            clear h0
            go_simp
            try first | exact IntWalk.i64_in _ (by omega) | exact IntWalk.u64_in _ (by omega) | exact IntWalk.u32_in _ (by omega)
          refine Each.obvs_cons (Each.obv_val (fun w => Below.refl _ _) (fun _ _ h => h) _ (fun ev vs dn w1 he hk hg hfn hI hf hc hd => ⟨trivial, ?_, rfl⟩)) ?_
          · have h1 : vs 1 = _ := hd 1 (by decide)
            have e54 : ev (.tmp 54) = vs 1 := (he 54).trans (by kernel_rfl)
            rw [h1] at e54
            clear hd hf hc he
            clear h1
            go_simp
            try first | exact IntWalk.i64_in _ (by omega) | exact IntWalk.u64_in _ (by omega) | exact IntWalk.u32_in _ (by omega)
          refine Each.obvs_cons (Each.obv_val (fun w => Below.refl _ _) (fun _ _ h => h) _ (fun ev vs dn w1 he hk hg hfn hI hf hc hd => ⟨trivial, ?_, rfl⟩)) ?_
          · have h2 : vs 2 = _ := hd 2 (by decide)
            have e55 : ev (.tmp 55) = vs 2 := (he 55).trans (by kernel_rfl)
            rw [h2] at e55
            clear hd hf hc he
            clear h2
            have hc := cell_later hI HT9.out.cell3
            go_simp
          refine Each.obvs_cons (Each.obv_val (fun w => Below.refl _ _) (fun _ _ h => h) _ (fun ev vs dn w1 he hk hg hfn hI hf hc hd => ⟨trivial, ?_, rfl⟩)) ?_
          · have e1 : ev (.tmp 1) = .int .i64 k := (he 1).trans (by kernel_rfl)
            clear hd hf hc he
            go_simp
            try first | exact IntWalk.i64_in _ (by omega) | exact IntWalk.u64_in _ (by omega) | exact IntWalk.u32_in _ (by omega)
          refine Each.obvs_cons (Each.obv_val (fun w => Below.refl _ _) (fun _ _ h => h) _ (fun ev vs dn w1 he hk hg hfn hI hf hc hd => ⟨trivial, ?_, rfl⟩)) ?_
          · have e7 : ev (.tmp 7) = .pointer (some ⟨B7, 0, none⟩) := (he 7).trans (by kernel_rfl)
            clear hd he
            exact ev_loadP B7 (by exact e7) y _ _ ((hI.block _ (Array.getElem?_eq_some_iff.1 K9.out).1).trans K9.out)
          exact Each.obvs_nil
        case hend2 =>
          intro vs dn wz hI hR
          have h3 : vs 3 = _ := hR 3 (by decide)
          have h4 : vs 4 = _ := hR 4 (by decide)
          have h5 : vs 5 = _ := hR 5 (by decide)
          have hB8 : Below w9.heap.size w9 wz := hI
          clear hR hI
          simp only [Each.puts, Act.put, List.setIfInBounds_toArray, List.set_cons_zero, List.set_cons_succ, Nat.zero_add, Nat.reduceAdd]
          rw [h3, h4, h5]
          clear h3 h4 h5
          have HTa := Lib.hid (HT9.out.later hB8)
          have HBa := Lib.hid (HB9.out.trans (hB8.mono HB9.out.size))
          clear hB8 HT9 HB9 K9
          go_wp2_with (at_mapUpdate; refine wpList_put rfl _ _ _ rfl HTa.out HN.out k HKM.out HM.out y rfl rfl rfl ?_; intro wq hTq hgq)
          refine bodyPost_ret (results_tmp rfl _ _ _) rfl ?_
          exact ⟨rfl, hTq, (grown_of_below HBa.out (some mb)).trans hgq⟩
end
end Go.Proofs.Ytddfiennoekjpaa

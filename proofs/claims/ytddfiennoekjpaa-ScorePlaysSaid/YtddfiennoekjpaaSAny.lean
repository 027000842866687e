/-
  Blame and Set of any peer with any number; the document's example (awake).
-/
import Derived.Test.YtddfiennoekjpaaSSet
namespace Go.Proofs.Ytddfiennoekjpaa
open Go.RowKit Go.Maps
attribute [local go_sem] Oper.semAt_some
attribute [local go_sem ↓] Go.wp_at_zero Go.wp_at_succ

def blames (many : Nat) (f : Nat → Nat × Nat) (peer pts : Int) : Bool := isP many peer && decide ((f peer.toNat).2 = 0) && decide (1 ≤ pts)
def blameD (many limit : Nat) (f : Nat → Nat × Nat) (peer pts : Int) : Bool := blames many f peer pts && decide ((limit : Int) ≤ ((f peer.toNat).1 : Int) + pts)
def blameF (many limit hold : Nat) (f : Nat → Nat × Nat) (peer pts : Int) : Nat → Nat × Nat :=
  if blames many f peer pts then upd f peer.toNat (if (limit : Int) ≤ ((f peer.toNat).1 : Int) + pts then (limit / 2, hold) else ((f peer.toNat).1 + pts.toNat, 0)) else f
def setF (many limit hold : Nat) (f : Nat → Nat × Nat) (peer p l : Int) : Nat → Nat × Nat := if maySet many limit hold peer p l then upd f peer.toNat (p.toNat, l.toNat) else f
/-- What holds of all peers at all times. -/
def Fine (limit hold : Nat) (f : Nat → Nat × Nat) : Prop := ∀ k, (f k).1 < limit ∧ (f k).2 ≤ hold
theorem fine_upd {limit hold : Nat} {f : Nat → Nat × Nat} (h : Fine limit hold f) (k : Nat) (x : Nat × Nat) (h1 : x.1 < limit) (h2 : x.2 ≤ hold) : Fine limit hold (upd f k x) := by
  intro j
  unfold upd
  split
  · exact ⟨h1, h2⟩
  · exact h j
theorem fine_zero {limit hold : Nat} (h : 0 < limit) : Fine limit hold (fun _ => (0, 0)) := fun _ => ⟨h, Nat.zero_le _⟩
theorem fine_blame {limit hold : Nat} {f : Nat → Nat × Nat} (h : Fine limit hold f) (many : Nat) (peer pts : Int) : Fine limit hold (blameF many limit hold f peer pts) := by
  unfold blameF
  have := (h peer.toNat).1
  split
  · rename_i hb
    have h1 : 1 ≤ pts := by simp only [blames, Bool.and_eq_true, decide_eq_true_iff] at hb; exact hb.2
    refine fine_upd h _ _ ?_ ?_ <;> split <;> simp <;> omega
  · exact h
theorem fine_set {limit hold : Nat} {f : Nat → Nat × Nat} (h : Fine limit hold f) (many : Nat) (peer p l : Int) : Fine limit hold (setF many limit hold f peer p l) := by
  unfold setF
  split
  · rename_i hb
    simp only [maySet, Bool.and_eq_true, decide_eq_true_iff] at hb
    exact fine_upd h _ _ (by show p.toNat < _; omega) (by show l.toNat ≤ _; omega)
  · exact h
theorem fine_le {limit hold : Nat} {f : Nat → Nat × Nat} (h : Fine limit hold f) (hh : hold ≤ 1000) : ∀ k, (f k).2 ≤ 1000 := fun k => Nat.le_trans (h k).2 hh
theorem fine_tick {limit hold : Nat} {f : Nat → Nat × Nat} (h : Fine limit hold f) : Fine limit hold (fun k => tickP (f k)) := fun k => ⟨(h k).1, by have := (h k).2; show (f k).2 - 1 ≤ _; omega⟩
theorem below_map {B : Nat} {w0 w w' : World} {mb : Nat} (hB : Below B w0 w) (hg : w.grownBy w' (some mb)) (hm : B ≤ mb) (hz : B ≤ w.heap.size) : Below B w0 w' :=
  ⟨hg.os.trans hB.os, hg.tape.trans hB.tape, hg.output.trans hB.output, Nat.le_trans hB.size hg.size, fun k hk => (hg.block k (by omega) (fun e => by have := Option.some.inj e; omega)).trans (hB.block k hk)⟩
section
variable {w : World} {tb mb many limit hold N : Nat} {f : Nat → Nat × Nat}
theorem blame_any (peer pts : Int) (hT : Tab w tb mb many limit hold f N) (hm : many ≤ 64) (hf : Fine limit hold f) (hl : limit ≤ 1000) (hp : pts ≤ 9223372036854775807) (hN : N < 1000000) :
    Calls Try.prog 11 #[.pointer (some ⟨tb, 0, none⟩), .int .i64 peer, .int .i64 pts] w fun e w' => e = .returned (.bool (blameD many limit f peer pts)) ∧ Tab w' tb mb many limit hold (blameF many limit hold f peer pts) (N + 1) ∧ w.grownBy w' (some mb) := by
  by_cases hb : blames many f peer pts = true
  · have hb2 := hb
    simp only [blames, isP, Bool.and_eq_true, decide_eq_true_iff] at hb2
    obtain ⟨⟨h1, h2⟩, h3⟩ := hb2
    obtain ⟨k, rfl⟩ : ∃ n : Nat, peer = (n : Int) := ⟨peer.toNat, by omega⟩
    obtain ⟨n, rfl⟩ : ∃ n : Nat, pts = (n : Int) := ⟨pts.toNat, by omega⟩
    simp only [Int.toNat_natCast] at h2
    have hd : blameD many limit f (k : Int) (n : Int) = decide (limit ≤ (f k).1 + n) := by
      rw [blameD, hb, Bool.true_and, Int.toNat_natCast]
      exact decide_eq_decide.2 (by omega)
    rw [hd]
    refine (blame_yes k n (f k) _ _ hT hm (by omega) rfl h2 (hf k).1 hl (by omega) (by omega) hN rfl rfl).mono ?_
    rintro e w' ⟨rfl, hT', hg⟩
    refine ⟨rfl, ?_, hg⟩
    rw [blameF, if_pos hb, Int.toNat_natCast, Int.toNat_natCast]
    by_cases h4 : limit ≤ (f k).1 + n
    · rw [if_pos (by omega)]
      rw [if_pos (by simpa using h4)] at hT'
      exact hT'
    · rw [if_neg (by omega)]
      rw [if_neg (by simpa using h4)] at hT'
      exact hT'
  · have hb : blames many f peer pts = false := by simpa using hb
    have h1 : isP many peer = false ∨ isAway many f peer = true ∨ pts < 1 := by
      by_cases h1 : isP many peer = true
      · by_cases h2 : (f peer.toNat).2 = 0
        · right; right
          simp only [blames, h1, h2, decide_true, Bool.true_and, decide_eq_false_iff_not] at hb
          omega
        · right; left
          rw [isAway, h1, Bool.true_and, decide_eq_true_iff]
          omega
      · left; simpa using h1
    refine (blame_no peer pts hT hm h1).mono ?_
    rintro e w' ⟨rfl, rfl⟩
    refine ⟨by rw [blameD, hb]; rfl, ?_, grown_of_below (Below.refl _ _) _⟩
    rw [blameF, hb]
    exact hT.mono (by omega)
theorem set_any (peer p l : Int) (hT : Tab w tb mb many limit hold f N) (hm : many ≤ 64) (hN : N < 1000000) :
    Calls Try.prog 16 #[.pointer (some ⟨tb, 0, none⟩), .int .i64 peer, .agg #[.int .i64 p, .int .i64 l]] w fun e w' => e = .returned (.int .i64 (if maySet many limit hold peer p l then 0 else 1)) ∧ Tab w' tb mb many limit hold (setF many limit hold f peer p l) (N + 1) ∧ w.grownBy w' (some mb) := by
  by_cases hb : maySet many limit hold peer p l = true
  · have hb2 := hb
    simp only [maySet, isP, Bool.and_eq_true, decide_eq_true_iff] at hb2
    obtain ⟨⟨h1, h2⟩, h3⟩ := hb2
    rw [setF, if_pos hb, if_pos hb]
    obtain ⟨k, rfl⟩ : ∃ n : Nat, peer = (n : Int) := ⟨peer.toNat, by omega⟩
    obtain ⟨p, rfl⟩ : ∃ n : Nat, p = (n : Int) := ⟨p.toNat, by omega⟩
    obtain ⟨l, rfl⟩ : ∃ n : Nat, l = (n : Int) := ⟨l.toNat, by omega⟩
    exact set_yes k (p, l) hT hm (by omega) (by show p < _; omega) (by show l ≤ _; omega) hN
  · have hb : maySet many limit hold peer p l = false := by simpa using hb
    refine (set_no peer p l hT hb).mono ?_
    rintro e w' ⟨rfl, h⟩
    refine ⟨by rw [hb]; rfl, ?_, grown_of_below h _⟩
    rw [setF, hb]
    exact (hT.later h).mono (by omega)
end
set_option maxHeartbeats 2000000 in
theorem awake_any (w : World) : Calls Try.prog 7 #[] w fun e w' => e = .returned (.bool true) ∧ Below w.heap.size w w' := by
  refine calls_of_wp Try.func7 rfl ?_
  simp only [Try.ntmps7, List.size_toArray, List.length_nil, Nat.reduceSub, Array.replicate_succ, Array.replicate_zero, List.push_toArray, List.append_toArray, List.nil_append, List.cons_append]
  go_upto_region 2 with (go_at_call 8; refine (new_ok 3 10 2 _ (by decide)).mono ?_; rintro e w1 ⟨tb, mb, rfl, hT1, htb, hmb, hB1⟩)
  have HT1 := Lib.hid hT1
  have HB1 := Lib.hid hB1
  have HMB := Lib.hid hmb
  clear hT1 hB1 hmb htb
  go_upto_region 5 with (go_at_call 11; refine (blame_yes 1 9 (0, 0) (9, 0) false HT1.out (by decide) (by decide) rfl rfl (by decide) (by decide) (by decide) (by decide) (by decide) (by decide) rfl).mono ?_; rintro e w2 ⟨rfl, hT2, hg2⟩)
  have HT2 := Lib.hid hT2
  have HB2 := Lib.hid (below_map HB1.out hg2 HMB.out HB1.out.size)
  clear hT2 hg2 HT1 HB1
  go_upto_region 6 with (go_at_call 11; refine (blame_yes 2 12 (0, 0) (5, 2) true HT2.out (by decide) (by decide) rfl rfl (by decide) (by decide) (by decide) (by decide) (by decide) (by decide) rfl).mono ?_; rintro e w3 ⟨rfl, hT3, hg3⟩)
  have HT3 := Lib.hid hT3
  have HB3 := Lib.hid (below_map HB2.out hg3 HMB.out HB2.out.size)
  clear hT3 hg3 HT2 HB2
  go_upto_region 7 with (first
    | (go_at_call 10; refine (peer_in 2 (5, 2) HT3.out (by decide) (by decide) rfl).mono ?_; rintro e w4 ⟨rfl, hB4⟩)
    | ((with_reducible refine at_alloc 31 ?_); refine wpList_alloc_zero rfl 31 rfl _ alloc_peer ?_)
    | ((with_reducible refine at_store 31 ?_); refine wpList_store_row rfl 31 _ _ rfl _ (peerC (5, 2)) rfl rfl _ _ (heap_alloc_new _ _) (info_peer _) (size_peer _ _) (one_peer _) ?_))
  have hB5 : Below w4.heap.size w4 ((w4.alloc (.cells (peerC (0, 0)) 31)).setRow w4.heap.size (peerC (5, 2))) := below_setRow ((Below.refl _ w4).alloc (Nat.le_refl _) _) (Nat.le_refl _) _
  have k5 := heap_setRow (heap_alloc_new w4 (.cells (peerC (0, 0)) 31)) (peerC (5, 2))
  generalize (w4.alloc (.cells (peerC (0, 0)) 31)).setRow w4.heap.size (peerC (5, 2)) = w5 at *
  obtain ⟨P, hP⟩ : ∃ P, P = w4.heap.size := ⟨_, rfl⟩
  have hmbP : mb < P := by rw [hP]; have := HT3.out.mlt; have := hB4.size; omega
  rw [← hP] at k5 ⊢
  have HT5 := Lib.hid ((HT3.out.later hB4).later hB5)
  have HB5 := Lib.hid (HB3.out.trans ((hB4.trans (hB5.mono hB4.size)).mono HB3.out.size))
  have K5 := Lib.hid k5
  have HMP := Lib.hid hmbP
  clear hB4 hB5 k5 hP hmbP HT3 HB3
  go_upto_region 8 with (go_at_call 13; refine (open_any HT5.out (by decide)).mono ?_; rintro e w6 ⟨v6, rfl, hr6, hB6⟩)
  obtain ⟨a6, c6, rfl⟩ := ownsRow_slice hr6
  obtain ⟨g6, c6, hv, _, _, _, hI6⟩ := ownsRow_sizes hr6 (by decide)
  simp only [Value.slice.injEq] at hv
  obtain ⟨rfl, _, rfl⟩ := hv
  have HT6 := Lib.hid (HT5.out.later hB6)
  have HB6 := Lib.hid (HB5.out.trans (hB6.mono HB5.out.size))
  have K6 := Lib.hid ((hB6.block _ (Array.getElem?_eq_some_iff.1 K5.out).1).trans K5.out)
  have HI6 := Lib.hid hI6
  have HG6 : Hid (g6 ≠ mb) := fun e => by have := HT5.out.mlt; omega
  clear HT5 HB5 K5 hB6 hI6 hr6
  have hF := fine_le (hold := 2) (limit := 10) (fine_upd (fine_upd (fine_zero (by decide)) 1 (9, 0) (by decide) (by decide)) 2 (5, 2) (by decide) (by decide)) (by decide)
  have o6 : opens 3 (upd (upd (fun _ => (0, 0)) 1 (9, 0)) 2 (5, 2)) = [0, 1] := by decide
  have d6 : downs 3 (upd (upd (fun _ => (0, 0)) 1 (9, 0)) 2 (5, 2)) = [] := by decide
  have d7 : downs 3 (fun k => tickP (upd (upd (fun _ => (0, 0)) 1 (9, 0)) 2 (5, 2) k)) = [2] := by decide
  have r8 : isAway 3 (fun k => tickP (tickP (upd (upd (fun _ => (0, 0)) 1 (9, 0)) 2 (5, 2) k))) 2 = false := by decide
  rw [o6] at HI6 ⊢
  generalize upd (upd (fun _ => (0, 0)) 1 (9, 0)) 2 (5, 2) = F at *
  have HF := Lib.hid hF
  have hF2 : ∀ k, ((fun k => tickP (F k)) k).2 ≤ 1000 := fun k => Nat.le_trans (Nat.sub_le _ _) (hF k)
  have HF2 := Lib.hid hF2
  have D6 := Lib.hid d6
  have D7 := Lib.hid d7
  have R8 := Lib.hid r8
  clear hF hF2 o6 d6 d7 r8
  go_upto_region 9 with (go_at_call 9; refine (tick_any HT6.out (by decide) (by decide) HF.out).mono ?_; rintro e w7 ⟨v7, rfl, hr7, hT7, hg7⟩)
  obtain ⟨a7, c7, rfl⟩ := ownsRow_slice hr7
  have HB7 := Lib.hid (below_map HB6.out hg7 HMB.out HB6.out.size)
  have HI7 : Hid (Ints w7 g6 [0, 1]) := ⟨Nat.lt_of_lt_of_le HI6.out.1 hg7.size, fun j x h => (hg7.cell_far ⟨g6, j, none⟩ HI6.out.1 (fun e => HG6.out (Option.some.inj e))).trans (HI6.out.2 j x h)⟩
  have K7 := Lib.hid ((hg7.block P (Array.getElem?_eq_some_iff.1 K6.out).1 (fun e => by have := Option.some.inj e; have := HMP.out; omega)).trans K6.out)
  have HT7 := Lib.hid hT7
  rw [D6.out]
  clear hg7 hT7 hr7 HB6 HI6 K6 HT6
  go_upto_region 10 with (go_at_call 9; refine (tick_any HT7.out (by decide) (by decide) HF2.out).mono ?_; rintro e w8 ⟨v8, rfl, hr8, hT8, hg8⟩)
  rw [D7.out] at hr8
  obtain ⟨g8, c8, rfl, _, _, _, hI8⟩ := ownsRow_sizes hr8 (by decide)
  have hI9 : Ints w8 g6 [0, 1] := ⟨Nat.lt_of_lt_of_le HI7.out.1 hg8.size, fun j x h => (hg8.cell_far ⟨g6, j, none⟩ HI7.out.1 (fun e => HG6.out (Option.some.inj e))).trans (HI7.out.2 j x h)⟩
  have k8 := (hg8.block P (Array.getElem?_eq_some_iff.1 K7.out).1 (fun e => by have := Option.some.inj e; have := HMP.out; omega)).trans K7.out
  have HB8 := Lib.hid (below_map HB7.out hg8 HMB.out HB7.out.size)
  have HAW := Lib.hid (away_any 2 hT8 (by decide))
  rw [R8.out] at HAW
  have cA : w8.cell? ⟨g8, 0, none⟩ = some (.int .i64 2) := hI8.2 0 2 rfl
  have cB : w8.cell? ⟨g6, 1, none⟩ = some (.int .i64 1) := hI9.2 1 1 rfl
  have cC : w8.cell? ⟨P, 0, none⟩ = some (.int .i64 5) := peer_cell0 k8
  have cD : w8.cell? ⟨P, 1, none⟩ = some (.int .i64 2) := peer_cell1 k8
  clear HB7 HI7 K7 HT7 hg8 hr8 hI8 hI9 k8 hT8 HF HF2 D6 D7 R8 HG6 HMP
  go_wp2_with (go_at_call 12; refine HAW.out.mono ?_; rintro e w9 ⟨rfl, rfl⟩)
  go_ret
  exact ⟨rfl, HB8.out⟩
end Go.Proofs.Ytddfiennoekjpaa

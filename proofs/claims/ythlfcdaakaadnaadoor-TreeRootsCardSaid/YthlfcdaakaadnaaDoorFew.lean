/-
  The walks of the laws' own small functions: few, same.
-/
import Derived.Test.YthlfcdaakaadnaaDoorPathAny
import Derived.LoopTactic
import Derived.Test.YthlfcdaakaadnaaDoorOps
namespace Go.Proofs.YthlfcdaakaadnaaDoor
open Go.RowKit Go.Shelf Sha TreeMath
attribute [local go_sem] Oper.semAt_some
attribute [local go_sem ↓] Go.wp_at_zero Go.wp_at_succ

/-- Are entries few and short? -/
def fewB (ls : List (List Nat)) : Bool := (ls.all fun l => decide (l.length ≤ 60)) && decide (ls.length ≤ 20)
theorem fewB_short {ls : List (List Nat)} (h : fewB ls = true) : Short ls ∧ ls.length ≤ 20 ∧ ∀ l ∈ ls, l.length ≤ 60 := by
  simp only [fewB, Bool.and_eq_true, List.all_eq_true, decide_eq_true_eq] at h
  exact ⟨⟨by omega, fun l hl => by have := h.1 l hl; omega⟩, h.2, h.1⟩
/-- The slice's element, where there is one. -/
theorem ByteRows.elem {w : World} {a : Option Addr} {n c : Nat} {ls : List (List Nat)} (h : ByteRows w (.slice a n c) ls) (k : Nat) (hk : k < ls.length) :
    ∃ b o u, a = some ⟨b, o, none⟩ ∧ w.cell? ⟨b, o + k, none⟩ = some u ∧ Bytes w u ls[k] := by
  obtain ⟨a', c', h1, h2, h3, h4, h5⟩ := h
  simp only [Value.slice.injEq] at h1
  obtain ⟨rfl, _, rfl⟩ := h1
  exact h5 k _ (List.getElem?_eq_getElem hk)
theorem ByteRows.form {w : World} {v : Value} {ls : List (List Nat)} (h : ByteRows w v ls) : ∃ a c, v = .slice a ls.length c ∧ ls.length ≤ c ∧ c ≤ maxLen := by
  obtain ⟨a, c, h1, h2, h3, _⟩ := h
  exact ⟨a, c, h1, h2, h3⟩
theorem Bytes.form {w : World} {v : Value} {l : List Nat} (h : Bytes w v l) : ∃ a c, v = .slice a l.length c ∧ l.length ≤ c ∧ c ≤ maxLen := by
  obtain ⟨a, c, h1, h2, h3, _⟩ := h
  exact ⟨a, c, h1, h2, h3⟩
theorem Hashes.form {w : World} {v : Value} {l : List (List Nat)} (h : Hashes w v l) : ∃ a c, v = .slice a l.length c ∧ l.length ≤ c ∧ c ≤ maxLen ∧ (∀ x ∈ l, IsHash x) := by
  obtain ⟨a, c, h1, h2, h3, _, h5, _⟩ := h
  exact ⟨a, c, h1, h2, h3, h5⟩

set_option maxHeartbeats 400000 in
set_option maxRecDepth 100000 in
theorem few_any (v : Value) (ls : List (List Nat)) (w : World) (hv : ByteRows w v ls) :
    Calls Tryd.prog 11 #[v] w fun e w' => e = .returned (.bool (fewB ls)) ∧ w = w' := by
  obtain ⟨a, c, rfl, hc1, hc2⟩ := hv.form
  obtain ⟨F, hF⟩ : ∃ F, F = fewB ls := ⟨_, rfl⟩
  rw [← hF]
  have HF := Lib.hid hF
  clear hF
  unfold maxLen at hc2
  refine calls_of_wp Tryd.func11 rfl ?_
  simp only [Tryd.ntmps11, List.size_toArray, List.length_cons, List.length_nil, Nat.reduceAdd, Nat.reduceSub, Array.replicate_succ, Array.replicate_zero, List.push_toArray, List.append_toArray, List.nil_append, List.cons_append]
  go_wp2
  go_loop [3] (fun i => ∃ k : Nat, k ≤ ls.length ∧ i = .int .i64 k ∧ ∀ l ∈ ls.take k, l.length ≤ 60) (fun i => ls.length - (intOf i).toNat)
  case atStart => exact ⟨0, Nat.zero_le _, rfl, by simp⟩
  case round =>
    obtain ⟨k, hk, rfl, hall⟩ := hrel
    by_cases hlt : k < ls.length
    · obtain ⟨b, o, u, rfl, hcell, hu⟩ := hv.elem k hlt
      obtain ⟨ua, uc, rfl, _, hum⟩ := hu.form
      unfold maxLen at hum
      have htk : ls.take (k + 1) = ls.take k ++ [ls[k]] := by rw [List.take_succ_eq_append_getElem hlt]
      have HTK := Lib.hid htk
      clear htk hu hv
      have i0 : (0 : Int) ≤ (k : Int) := by omega
      have i1 : (k : Int) < (ls.length : Int) := by omega
      by_cases h60 : ls[k].length ≤ 60
      · have h61 : ¬ (60 : Int) < (ls[k].length : Int) := by omega
        have h62 : ∀ l ∈ ls.take (k + 1), l.length ≤ 60 := by
          rw [HTK.out]
          intro l hl
          rcases List.mem_append.1 hl with h | h
          · exact hall l h
          · simp only [List.mem_cons, List.not_mem_nil, or_false] at h; subst h; exact h60
        have H62 := Lib.hid h62
        clear h62 HTK hall
        go_wp2
        go_round
        case rel => exact ⟨k + 1, by omega, by go_num, H62.out⟩
        case measure => simp [intOf]; omega
      · have h61 : (60 : Int) < (ls[k].length : Int) := by omega
        have hf : F = false := by
          rw [HF.out]
          simp only [fewB, Bool.and_eq_false_iff]
          left
          rw [List.all_eq_false]
          exact ⟨ls[k], List.getElem_mem hlt, by simpa using h60⟩
        have HFF := Lib.hid hf
        clear hf hall HTK
        go_wp2
        go_ret
        exact ⟨by rw [HFF.out]; rfl, rfl⟩
    · obtain rfl : k = ls.length := by omega
      rw [List.take_length] at hall
      have hf : F = decide (ls.length ≤ 20) := by
        rw [HF.out]
        have : (ls.all fun l => decide (l.length ≤ 60)) = true := by simpa using hall
        simp [fewB, this]
      have HFF := Lib.hid hf
      clear hf hall hv
      go_wp2
      go_ret
      exact ⟨by rw [HFF.out]; congr 2; simp; omega, rfl⟩

theorem Hashes.elem {w : World} {a : Option Addr} {n c : Nat} {ls : List (List Nat)} (h : Hashes w (.slice a n c) ls) (k : Nat) (hk : k < ls.length) :
    ∃ b o, a = some ⟨b, o, none⟩ ∧ b < w.heap.size ∧ w.rangeAt b (o + k * 32) (bcells ls[k]) ∧ IsHash ls[k] := by
  obtain ⟨a', c', h1, h2, h3, h4, h5, h6⟩ := h
  simp only [Value.slice.injEq] at h1
  obtain ⟨rfl, _, rfl⟩ := h1
  obtain ⟨b, o, h7, h8, h9⟩ := h6 k _ (List.getElem?_eq_getElem hk)
  exact ⟨b, o, h7, h8, h9, h5 _ (List.getElem_mem hk)⟩

set_option maxHeartbeats 400000 in
set_option maxRecDepth 100000 in
theorem same_any (va vb : Value) (xs ys : List (List Nat)) (w : World) (ha : Hashes w va xs) (hb : Hashes w vb ys) :
    Calls Tryd.prog 17 #[va, vb] w fun e w' => e = .returned (.bool (decide (xs = ys))) ∧ Below w.heap.size w w' := by
  obtain ⟨aa, ac, rfl, ha1, ha2, ha3⟩ := ha.form
  obtain ⟨ba, bc, rfl, hb1, hb2, hb3⟩ := hb.form
  obtain ⟨F, hF⟩ : ∃ F, F = decide (xs = ys) := ⟨_, rfl⟩
  rw [← hF]
  have HF := Lib.hid hF
  clear hF
  unfold maxLen at ha2 hb2
  refine calls_of_wp Tryd.func17 rfl ?_
  simp only [Tryd.ntmps17, List.size_toArray, List.length_cons, List.length_nil, Nat.reduceAdd, Nat.reduceSub, Array.replicate_succ, Array.replicate_zero, List.push_toArray, List.append_toArray, List.nil_append, List.cons_append]
  by_cases hl : xs.length = ys.length
  · have hl1 : ((xs.length : Int) != (ys.length : Int)) = false := by rw [bne_eq_false_iff_eq]; omega
    have HL := Lib.hid hl
    have HA := Lib.hid ha
    have HB := Lib.hid hb
    clear hl ha hb
    go_wp2
    go_loopw [5] (fun i wr => ∃ k : Nat, k ≤ xs.length ∧ i = .int .i64 k ∧ xs.take k = ys.take k ∧ Below w.heap.size w wr) (fun i _ => xs.length - (intOf i).toNat)
    case atStart => exact ⟨0, Nat.zero_le _, rfl, rfl, Below.refl _ _⟩
    case round =>
      obtain ⟨k, hk, rfl, hall, hB⟩ := hrel
      by_cases hlt : k < xs.length
      · have hlb : k < ys.length := by have := HL.out; omega
        obtain ⟨b1, o1, rfl, hb10, hr1, hx⟩ := (HA.out.later hB).elem k hlt
        obtain ⟨b2, o2, rfl, hb20, hr2, hy⟩ := (HB.out.later hB).elem k hlb
        have i0 : (0 : Int) ≤ (k : Int) := by omega
        have i1 : (k : Int) < (xs.length : Int) := by omega
        have i2 : (k : Int) < (ys.length : Int) := by omega
        have i3 : k < ys.length := by omega
        go_upto_region 6 with fail
        refine Each.region_each (by kernel_rfl) (by kernel_rfl) (fun _ w' => Below w.heap.size w w' ∧ w'.rangeAt b1 (o1 + k * 32) (bcells xs[k]) ∧ w'.rangeAt b2 (o2 + k * 32) (bcells ys[k])) (fun _ w1 w2 => w1 = w2)
          (Each.nth [fun v _ => v = .slice (some ⟨b1, o1, none⟩) xs.length ac, fun v _ => v = .int .i64 k, fun v _ => v = .pointer (some ⟨b1, o1 + k * 32, none⟩), fun v _ => v = .agg (ints .u8 xs[k]),
            fun v _ => v = .slice (some ⟨b2, o2, none⟩) ys.length bc, fun v _ => v = .int .i64 k, fun v _ => v = .pointer (some ⟨b2, o2 + k * 32, none⟩), fun v _ => v = .agg (ints .u8 ys[k]), fun v _ => v = .bool (!decide (xs[k] = ys[k]))])
          ?fr ?hfr (fun _ _ => rfl) (fun _ _ _ _ h => h) (fun _ _ _ _ _ _ _ _ _ e h => e ▸ h) ⟨hB.drew, hr1, hr2⟩ ?hob ?hend
        case hfr =>
          intro vs
          simp only [Each.puts, Act.put, List.setIfInBounds_toArray, List.set_cons_zero, List.set_cons_succ, Nat.zero_add, Nat.reduceAdd]
          exact rfl
        case hob =>
          refine Each.obs_cons (Each.ob_val (fun _ => rfl) (fun _ _ h => h) _ (fun vs dn w hI hf hc hd => ⟨trivial, ?_, rfl⟩)) ?_
          · go_simp
          refine Each.obs_cons (Each.ob_val (fun _ => rfl) (fun _ _ h => h) _ (fun vs dn w hI hf hc hd => ⟨trivial, ?_, rfl⟩)) ?_
          · go_simp
          refine Each.obs_cons (Each.ob_val (fun _ => rfl) (fun _ _ h => h) _ (fun vs dn w hI hf hc hd => ⟨trivial, ?_, rfl⟩)) ?_
          · have h0 : vs 0 = _ := hd 0 (by decide)
            have h1 : vs 1 = _ := hd 1 (by decide)
            clear hd hf hc
            go_simp
          refine Each.obs_cons (Each.ob_val (fun _ => rfl) (fun _ _ h => h) _ (fun vs dn w hI hf hc hd => ⟨trivial, ?_, rfl⟩)) ?_
          · have h2 : vs 2 = _ := hd 2 (by decide)
            exact ex_load b1 (o1 + k * 32) (by exact h2) _ hx.1 hI.2.1
          refine Each.obs_cons (Each.ob_val (fun _ => rfl) (fun _ _ h => h) _ (fun vs dn w hI hf hc hd => ⟨trivial, ?_, rfl⟩)) ?_
          · go_simp
          refine Each.obs_cons (Each.ob_val (fun _ => rfl) (fun _ _ h => h) _ (fun vs dn w hI hf hc hd => ⟨trivial, ?_, rfl⟩)) ?_
          · go_simp
          refine Each.obs_cons (Each.ob_val (fun _ => rfl) (fun _ _ h => h) _ (fun vs dn w hI hf hc hd => ⟨trivial, ?_, rfl⟩)) ?_
          · have h0 : vs 4 = _ := hd 4 (by decide)
            have h1 : vs 5 = _ := hd 5 (by decide)
            clear hd hf hc
            go_simp
          refine Each.obs_cons (Each.ob_val (fun _ => rfl) (fun _ _ h => h) _ (fun vs dn w hI hf hc hd => ⟨trivial, ?_, rfl⟩)) ?_
          · have h2 : vs 6 = _ := hd 6 (by decide)
            exact ex_load b2 (o2 + k * 32) (by exact h2) _ hy.1 hI.2.2
          refine Each.obs_cons (Each.ob_val (fun _ => rfl) (fun _ _ h => h) _ (fun vs dn w hI hf hc hd => ⟨trivial, ?_, rfl⟩)) ?_
          · have h0 : vs 3 = _ := hd 3 (by decide)
            have h1 : vs 7 = _ := hd 7 (by decide)
            exact ex_ne _ _ h0 h1 hx.1 hy.1
          exact Each.obs_nil
        case hend =>
          intro vs dn w1 hI hR
          have h8 : vs 8 = _ := hR 8 (by decide)
          rw [h8]
          have hB1 := hI.1
          clear hR hI h8
          by_cases he : xs[k] = ys[k]
          · rw [decide_eq_true he]
            have hall1 : xs.take (k + 1) = ys.take (k + 1) := by rw [List.take_succ_eq_append_getElem hlt, List.take_succ_eq_append_getElem hlb, hall, he]
            have HALL := Lib.hid hall1
            clear hall he hall1
            go_wp2
            go_roundw
            case rel => exact ⟨k + 1, by omega, by go_num, HALL.out, hB1⟩
            case measure => simp [intOf]; omega
          · rw [decide_eq_false he]
            have hf : F = false := by
              rw [HF.out, decide_eq_false_iff_not]
              intro e
              exact he (by subst e; rfl)
            have HFF := Lib.hid hf
            clear hall he hf
            go_wp2
            go_ret
            exact ⟨by rw [HFF.out]; rfl, hB1⟩
      · obtain rfl : k = xs.length := by omega
        rw [List.take_length, HL.out, List.take_length] at hall
        have hf : F = true := by rw [HF.out, decide_eq_true hall]
        have HFF := Lib.hid hf
        clear hall hf
        go_wp2
        go_ret
        exact ⟨by rw [HFF.out]; rfl, hB⟩
  · have hl1 : ((xs.length : Int) != (ys.length : Int)) = true := by rw [bne_iff_ne]; omega
    have hf : F = false := by
      rw [HF.out, decide_eq_false_iff_not]
      intro e
      exact hl (by rw [e])
    have HFF := Lib.hid hf
    clear hf hl
    go_wp2
    go_ret
    exact ⟨by rw [HFF.out]; rfl, Below.refl _ _⟩
end Go.Proofs.YthlfcdaakaadnaaDoor

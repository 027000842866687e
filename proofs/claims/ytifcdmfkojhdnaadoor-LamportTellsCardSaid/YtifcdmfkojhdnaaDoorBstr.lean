/-
  Bytes as strings; the reference's small functions: down, number, roots. (assayerref02)
-/
import Derived.Test.YtifcdmfkojhdnaaDoorShaOf
import Derived.Test.YtifcdmfkojhdnaaDoorEach
import Derived.WalkLawsBesides
import Derived.Deep.DrawnRows
namespace Go.Proofs.YtifcdmfkojhdnaaDoor
open Go.RowKit Go.Shelf Sha
attribute [local go_sem] Oper.semAt_some
attribute [local go_sem ↓] Go.wp_at_zero Go.wp_at_succ

/-- Bytes as a string. -/
def bstr (l : List Nat) : ByteArray := ⟨(l.map fun x => UInt8.ofNat x).toArray⟩
theorem size_bstr (l : List Nat) : (bstr l).size = l.length := by simp [bstr, ByteArray.size]
theorem bstr_append (a b : List Nat) : bstr a ++ bstr b = bstr (a ++ b) := by
  apply ByteArray.ext
  simp [bstr, ByteArray.data_append]
theorem bstr_extract (l : List Nat) (i j : Nat) : (bstr l).extract i j = bstr ((l.drop i).take (j - i)) := by
  apply ByteArray.ext
  rw [ByteArray.data_extract]
  simp only [bstr]
  apply Array.ext'
  simp [List.map_take, List.map_drop]
theorem bstr_get (l : List Nat) (h8 : ∀ x ∈ l, x < 256) (i : Nat) (hi : i < (bstr l).size) : ((bstr l)[i]).toNat = l.getD i 0 := by
  have hi' : i < l.length := by rw [size_bstr] at hi; exact hi
  have h := h8 _ (List.getElem_mem hi')
  have e : (bstr l)[i] = UInt8.ofNat l[i] := by
    show (bstr l).data[i] = _
    simp [bstr]
  rw [e, List.getD_eq_getElem?_getD, List.getElem?_eq_getElem hi']
  simp [UInt8.toNat_ofNat', Nat.mod_eq_of_lt h]
/-- A string's bytes. -/
def sbytes (s : ByteArray) : List Nat := s.data.toList.map (·.toNat)
theorem sbytes_lt (s : ByteArray) : ∀ x ∈ sbytes s, x < 256 := by
  intro x hx
  obtain ⟨b, _, rfl⟩ := List.mem_map.1 hx
  exact b.toNat_lt
theorem bstr_sbytes (s : ByteArray) : bstr (sbytes s) = s := by
  apply ByteArray.ext
  apply Array.ext'
  simp [bstr, sbytes, Function.comp_def]

/-- A string's byte, as an operation. -/
theorem ex_sidx {w : World} {d : Option Tmp} {ty : TypeId} {pos : String} {af : Array Edge} {gd : Option (Nat × Bool)} {a : Act} {x y : Operand} (l : List Nat) (h8 : ∀ x ∈ l, x < 256) (i : Nat) (hx : a.eval x = .string (bstr l)) (hy : a.eval y = .int .i64 (i : Int)) (hi : i < l.length) :
    (execOp a.eval ⟨d, .index 9 x y, ty, pos, af, gd⟩).run Tryd.prog w = .ok (.value (.int .u8 ((l.getD i 0 : Nat) : Int))) w := by
  have hs : i < (bstr l).size := by rw [size_bstr]; exact hi
  have h := run_index_string (P := Tryd.prog) w 9 (bstr l) .i64 (i : Int) Tryd.underlying9
  rw [dif_pos ⟨by omega, by omega⟩] at h
  have e := bstr_get l h8 i hs
  simp only [Int.toNat_natCast, e] at h
  simp only [execOp, hx, hy, Sem.run_bind, h]
  rfl
theorem rotr_sum (x n : Nat) (hn : 0 < n) (hn2 : n < 32) (hx : x < 4294967296) : x / 2 ^ n + x % 2 ^ n * 2 ^ (32 - n) = rotr x n := by
  have e : (4294967296 : Nat) = 2 ^ n * 2 ^ (32 - n) := by rw [← Nat.pow_add, show n + (32 - n) = 32 by omega]
  have e1 : x * 2 ^ (32 - n) % 4294967296 = x % 2 ^ n * 2 ^ (32 - n) := by rw [e, Nat.mul_mod_mul_right]
  have hlt : x / 2 ^ n < 2 ^ (32 - n) := by
    rw [Nat.div_lt_iff_lt_mul (Nat.two_pow_pos n), Nat.mul_comm, ← e]; exact hx
  rw [rotr, e1, Nat.add_comm, Nat.mul_comm (x % 2 ^ n)]
  exact Nat.two_pow_add_eq_or_of_lt hlt _
theorem rdown_parts (x n : Nat) (hn : 0 < n) (hn2 : n < 32) (hx : x < 4294967296) : x % 2 ^ n * 2 ^ (32 - n) < 4294967296 ∧ x / 2 ^ n + x % 2 ^ n * 2 ^ (32 - n) < 4294967296 := by
  have h := rotr_sum x n hn hn2 hx
  have h2 := rotr_lt x n hx
  generalize x % 2 ^ n * 2 ^ (32 - n) = y at *
  generalize x / 2 ^ n = z at *
  omega
/-- The same heap. -/
def SameHeap (w w' : World) : Prop := w'.heap = w.heap ∧ Below w.heap.size w w'
theorem SameHeap.refl (w : World) : SameHeap w w := ⟨rfl, Below.refl _ _⟩
theorem SameHeap.trans {a b c : World} (h : SameHeap a b) (k : SameHeap b c) : SameHeap a c := ⟨k.1.trans h.1, h.2.trans (k.2.mono h.2.size)⟩
theorem SameHeap.drew (w : World) : SameHeap w w.drew := ⟨rfl, (Below.refl _ _).drew⟩

set_option maxHeartbeats 400000 in
set_option maxRecDepth 100000 in
theorem rdown_any (x n : Nat) (hx : x < 4294967296) (h1 : 0 < n) (h2 : n < 32) (w : World) :
    Calls Tryd.prog 36 #[.int .u32 (x : Int), .int .u64 (n : Int)] w fun e w' => e = .returned (.int .u32 (rotr x n : Nat)) ∧ SameHeap w w' := by
  have HR := Lib.hid (rotr_sum x n h1 h2 hx)
  have hp := rdown_parts x n h1 h2 hx
  have hpn : 2 ^ n < 4294967296 := by
    have := Nat.pow_lt_pow_right (a := 2) (by decide) h2
    omega
  have hpm : 2 ^ (32 - n) < 4294967296 := by
    have := Nat.pow_lt_pow_right (a := 2) (by decide) (show 32 - n < 32 by omega)
    omega
  have hp0 : 0 < 2 ^ n := Nat.two_pow_pos n
  have hpow : (2 : Int) ^ n % 4294967296 = ((2 ^ n : Nat) : Int) := by
    rw [show (2 : Int) ^ n = ((2 ^ n : Nat) : Int) by simp]
    generalize (2 ^ n : Nat) = y at *
    omega
  have hm0 : (32 : Int) - (n : Int) = ((32 - n : Nat) : Int) := by omega
  have hpm2 : (2 : Int) ^ (32 - n) % 4294967296 = ((2 ^ (32 - n) : Nat) : Int) := by
    rw [show (2 : Int) ^ (32 - n) = ((2 ^ (32 - n) : Nat) : Int) by simp]
    generalize (2 ^ (32 - n) : Nat) = y at *
    omega
  generalize hP : (2 ^ n : Nat) = p at *
  generalize hM : 32 - n = m at *
  generalize hQ : (2 ^ m : Nat) = q at *
  have hpz : ¬ p = 0 := by omega
  have hdv : (0 : Int) ≤ (x : Int) / (p : Int) ∧ (x : Int) / (p : Int) ≤ 4294967295 := by
    have h := Nat.div_le_self x p
    rw [← Int.natCast_ediv]
    generalize x / p = y at *
    omega
  have hpow2 : (2 : Int) ^ m = (q : Int) := by rw [← hQ]; simp
  have hmul : IntKind.u32.wrap ((x : Int) % (p : Int) * (q : Int)) = (x : Int) % (p : Int) * (q : Int) := by
    have h1 : (x : Int) % (p : Int) * (q : Int) = ((x % p * q : Nat) : Int) := by simp
    rw [h1]
    exact IntWalk.u32_in _ (by have := hp.1; omega)
  have hsum : IntKind.u32.wrap ((x : Int) / (p : Int) + (x : Int) % (p : Int) * (q : Int)) = ((rotr x n : Nat) : Int) := by
    have h1 : (x : Int) / (p : Int) + (x : Int) % (p : Int) * (q : Int) = ((rotr x n : Nat) : Int) := by rw [← HR.out]; simp
    rw [h1]
    exact IntWalk.u32_in _ (by have := hp.2; rw [HR.out] at this; omega)
  clear hP hM hQ
  have hshl : IntKind.u32.wrap ((2 : Int) ^ m) = (q : Int) := by rw [hpow2]; exact IntWalk.u32_in _ (by omega)
  clear hpow2
  have htm : ((x : Int)).tmod (p : Int) = (x : Int) % (p : Int) := Int.tmod_eq_emod_of_nonneg (by omega)
  refine calls_of_wp Tryd.func36 rfl ?_
  simp only [Tryd.ntmps36, List.size_toArray, List.length_cons, List.length_nil, Nat.reduceAdd, Nat.reduceSub, Array.replicate_succ, Array.replicate_zero, List.push_toArray, List.append_toArray, List.nil_append, List.cons_append]
  go_upto_region 2 with fail
  -- EACH DOWN
  refine Each.region_each (by kernel_rfl) (by kernel_rfl) (fun _ w1 => SameHeap w w1) (fun _ => SameHeap) (Each.nth [fun v _ => v = .int .u32 x, fun v _ => v = .int .u32 p, fun v _ => v = .int .u32 (x / p : Nat), fun v _ => v = .int .u32 x, fun v _ => v = .int .u32 p, fun v _ => v = .int .u32 (x % p : Nat), fun v _ => v = .int .u64 n, fun v _ => v = .int .u64 m, fun v _ => v = .int .u32 q, fun v _ => v = .int .u32 (x % p * q : Nat), fun v _ => v = .int .u32 (rotr x n : Nat), fun v _ => v = .int .u32 (rotr x n : Nat)]) ?fr1 ?hfr1 (fun _ => (fun w => SameHeap.refl w)) (fun _ _ _ _ h => h) ?stab1 (SameHeap.drew w) ?hob1 ?hend1
  case hfr1 =>
    intro vs
    simp only [Each.puts, Act.put, List.setIfInBounds_toArray, List.set_cons_zero, List.set_cons_succ, Nat.zero_add, Nat.reduceAdd]
    exact rfl
  case stab1 =>
    refine Each.nth_stab _ ?_
    refine Each.stab_cons (fun _ _ _ _ _ _ _ e => e) ?_
    refine Each.stab_cons (fun _ _ _ _ _ _ _ e => e) ?_
    refine Each.stab_cons (fun _ _ _ _ _ _ _ e => e) ?_
    refine Each.stab_cons (fun _ _ _ _ _ _ _ e => e) ?_
    refine Each.stab_cons (fun _ _ _ _ _ _ _ e => e) ?_
    refine Each.stab_cons (fun _ _ _ _ _ _ _ e => e) ?_
    refine Each.stab_cons (fun _ _ _ _ _ _ _ e => e) ?_
    refine Each.stab_cons (fun _ _ _ _ _ _ _ e => e) ?_
    refine Each.stab_cons (fun _ _ _ _ _ _ _ e => e) ?_
    refine Each.stab_cons (fun _ _ _ _ _ _ _ e => e) ?_
    refine Each.stab_cons (fun _ _ _ _ _ _ _ e => e) ?_
    refine Each.stab_cons (fun _ _ _ _ _ _ _ e => e) ?_
    exact Each.stab_nil
  case hob1 =>
    refine Each.obs_cons (Each.ob_val (fun w => SameHeap.refl w) (fun _ _ h => h) _ (fun vs dn w1 hI hf hc hd => ⟨trivial, ?_, rfl⟩)) ?_
    · clear hd hf hc
      go_simp
      try first | exact IntWalk.i64_in _ (by omega) | exact IntWalk.u64_in _ (by omega) | exact IntWalk.u32_in _ (by omega)
    refine Each.obs_cons (Each.ob_val (fun w => SameHeap.refl w) (fun _ _ h => h) _ (fun vs dn w1 hI hf hc hd => ⟨trivial, ?_, rfl⟩)) ?_
    · clear hd hf hc
      go_simp
      try first | exact IntWalk.i64_in _ (by omega) | exact IntWalk.u64_in _ (by omega) | exact IntWalk.u32_in _ (by omega)
    refine Each.obs_cons (Each.ob_val (fun w => SameHeap.refl w) (fun _ _ h => h) _ (fun vs dn w1 hI hf hc hd => ⟨trivial, ?_, rfl⟩)) ?_
    · have h0 : vs 0 = _ := hd 0 (by decide)
      have h1 : vs 1 = _ := hd 1 (by decide)
      clear hd hf hc
      go_simp
      try first | exact IntWalk.i64_in _ (by omega) | exact IntWalk.u64_in _ (by omega) | exact IntWalk.u32_in _ (by omega)
    refine Each.obs_cons (Each.ob_val (fun w => SameHeap.refl w) (fun _ _ h => h) _ (fun vs dn w1 hI hf hc hd => ⟨trivial, ?_, rfl⟩)) ?_
    · clear hd hf hc
      go_simp
      try first | exact IntWalk.i64_in _ (by omega) | exact IntWalk.u64_in _ (by omega) | exact IntWalk.u32_in _ (by omega)
    refine Each.obs_cons (Each.ob_val (fun w => SameHeap.refl w) (fun _ _ h => h) _ (fun vs dn w1 hI hf hc hd => ⟨trivial, ?_, rfl⟩)) ?_
    · clear hd hf hc
      go_simp
      try first | exact IntWalk.i64_in _ (by omega) | exact IntWalk.u64_in _ (by omega) | exact IntWalk.u32_in _ (by omega)
    refine Each.obs_cons (Each.ob_val (fun w => SameHeap.refl w) (fun _ _ h => h) _ (fun vs dn w1 hI hf hc hd => ⟨trivial, ?_, rfl⟩)) ?_
    · have h3 : vs 3 = _ := hd 3 (by decide)
      have h4 : vs 4 = _ := hd 4 (by decide)
      clear hd hf hc
      go_simp
      try first | exact IntWalk.i64_in _ (by omega) | exact IntWalk.u64_in _ (by omega) | exact IntWalk.u32_in _ (by omega)
    refine Each.obs_cons (Each.ob_val (fun w => SameHeap.refl w) (fun _ _ h => h) _ (fun vs dn w1 hI hf hc hd => ⟨trivial, ?_, rfl⟩)) ?_
    · clear hd hf hc
      go_simp
      try first | exact IntWalk.i64_in _ (by omega) | exact IntWalk.u64_in _ (by omega) | exact IntWalk.u32_in _ (by omega)
    refine Each.obs_cons (Each.ob_val (fun w => SameHeap.refl w) (fun _ _ h => h) _ (fun vs dn w1 hI hf hc hd => ⟨trivial, ?_, rfl⟩)) ?_
    · have h6 : vs 6 = _ := hd 6 (by decide)
      clear hd hf hc
      go_simp
      try first | exact IntWalk.i64_in _ (by omega) | exact IntWalk.u64_in _ (by omega) | exact IntWalk.u32_in _ (by omega)
    refine Each.obs_cons (Each.ob_val (fun w => SameHeap.refl w) (fun _ _ h => h) _ (fun vs dn w1 hI hf hc hd => ⟨trivial, ?_, rfl⟩)) ?_
    · have h7 : vs 7 = _ := hd 7 (by decide)
      clear hd hf hc
      go_simp
      try first | exact IntWalk.i64_in _ (by omega) | exact IntWalk.u64_in _ (by omega) | exact IntWalk.u32_in _ (by omega)
    refine Each.obs_cons (Each.ob_val (fun w => SameHeap.refl w) (fun _ _ h => h) _ (fun vs dn w1 hI hf hc hd => ⟨trivial, ?_, rfl⟩)) ?_
    · have h5 : vs 5 = _ := hd 5 (by decide)
      have h8 : vs 8 = _ := hd 8 (by decide)
      clear hd hf hc
      go_simp
      try exact hmul
    refine Each.obs_cons (Each.ob_val (fun w => SameHeap.refl w) (fun _ _ h => h) _ (fun vs dn w1 hI hf hc hd => ⟨trivial, ?_, rfl⟩)) ?_
    · have h2 : vs 2 = _ := hd 2 (by decide)
      have h9 : vs 9 = _ := hd 9 (by decide)
      clear hd hf hc
      go_simp
      try exact hsum
    refine Each.obs_cons (Each.ob_val (fun w => SameHeap.refl w) (fun _ _ h => h) _ (fun vs dn w1 hI hf hc hd => ⟨trivial, ?_, rfl⟩)) ?_
    · have h0 : vs 0 = _ := hd 0 (by decide)
      have h1 : vs 1 = _ := hd 1 (by decide)
      have h2 : vs 2 = _ := hd 2 (by decide)
      have h3 : vs 3 = _ := hd 3 (by decide)
      have h4 : vs 4 = _ := hd 4 (by decide)
      have h5 : vs 5 = _ := hd 5 (by decide)
      have h6 : vs 6 = _ := hd 6 (by decide)
      have h7 : vs 7 = _ := hd 7 (by decide)
      have h8 : vs 8 = _ := hd 8 (by decide)
      have h9 : vs 9 = _ := hd 9 (by decide)
      have h10 : vs 10 = _ := hd 10 (by decide)
      clear hd hf hc
      go_simp
      try first | exact IntWalk.i64_in _ (by omega) | exact IntWalk.u64_in _ (by omega) | exact IntWalk.u32_in _ (by omega)
    exact Each.obs_nil
  case hend1 =>
    intro vs dn w1 hI hR
    have hv : vs 11 = _ := hR 11 (by decide)
    rw [hv]
    clear hR hv
    go_wp2
    go_ret
    exact ⟨rfl, hI⟩
  -- HCAE DOWN

theorem number_lt (a b c d : Nat) (ha : a < 256) (hb : b < 256) (hc : c < 256) (hd : d < 256) : a * 16777216 + b * 65536 + c * 256 + d < 4294967296 := by omega
set_option maxHeartbeats 400000 in
set_option maxRecDepth 100000 in
theorem number_any (a b c d : Nat) (ha : a < 256) (hb : b < 256) (hc : c < 256) (hd : d < 256) (w : World) :
    Calls Tryd.prog 35 #[.string (bstr [a, b, c, d])] w fun e w' => e = .returned (.int .u32 (a * 16777216 + b * 65536 + c * 256 + d : Nat)) ∧ SameHeap w w' := by
  have H8 : Hid (∀ x ∈ [a, b, c, d], x < 256) := by
    intro x hx
    simp only [List.mem_cons, List.not_mem_nil, or_false] at hx
    rcases hx with rfl | rfl | rfl | rfl <;> assumption
  refine calls_of_wp Tryd.func35 rfl ?_
  simp only [Tryd.ntmps35, List.size_toArray, List.length_cons, List.length_nil, Nat.reduceAdd, Nat.reduceSub, Array.replicate_succ, Array.replicate_zero, List.push_toArray, List.append_toArray, List.nil_append, List.cons_append]
  go_upto_region 1 with fail
  -- EACH NUMBER
  refine Each.region_each (by kernel_rfl) (by kernel_rfl) (fun _ w1 => SameHeap w w1) (fun _ => SameHeap) (Each.nth [fun v _ => v = .string (bstr [a, b, c, d]), fun v _ => v = .int .u8 a, fun v _ => v = .int .u32 a, fun v _ => v = .int .u32 (a * 16777216 : Nat), fun v _ => v = .string (bstr [a, b, c, d]), fun v _ => v = .int .u8 b, fun v _ => v = .int .u32 b, fun v _ => v = .int .u32 (b * 65536 : Nat), fun v _ => v = .int .u32 (a * 16777216 + b * 65536 : Nat), fun v _ => v = .string (bstr [a, b, c, d]), fun v _ => v = .int .u8 c, fun v _ => v = .int .u32 c, fun v _ => v = .int .u32 (c * 256 : Nat), fun v _ => v = .int .u32 (a * 16777216 + b * 65536 + c * 256 : Nat), fun v _ => v = .string (bstr [a, b, c, d]), fun v _ => v = .int .u8 d, fun v _ => v = .int .u32 d, fun v _ => v = .int .u32 (a * 16777216 + b * 65536 + c * 256 + d : Nat), fun v _ => v = .int .u32 (a * 16777216 + b * 65536 + c * 256 + d : Nat)]) ?fr2 ?hfr2 (fun _ => (fun w => SameHeap.refl w)) (fun _ _ _ _ h => h) ?stab2 (SameHeap.drew w) ?hob2 ?hend2
  case hfr2 =>
    intro vs
    simp only [Each.puts, Act.put, List.setIfInBounds_toArray, List.set_cons_zero, List.set_cons_succ, Nat.zero_add, Nat.reduceAdd]
    exact rfl
  case stab2 =>
    refine Each.nth_stab _ ?_
    refine Each.stab_cons (fun _ _ _ _ _ _ _ e => e) ?_
    refine Each.stab_cons (fun _ _ _ _ _ _ _ e => e) ?_
    refine Each.stab_cons (fun _ _ _ _ _ _ _ e => e) ?_
    refine Each.stab_cons (fun _ _ _ _ _ _ _ e => e) ?_
    refine Each.stab_cons (fun _ _ _ _ _ _ _ e => e) ?_
    refine Each.stab_cons (fun _ _ _ _ _ _ _ e => e) ?_
    refine Each.stab_cons (fun _ _ _ _ _ _ _ e => e) ?_
    refine Each.stab_cons (fun _ _ _ _ _ _ _ e => e) ?_
    refine Each.stab_cons (fun _ _ _ _ _ _ _ e => e) ?_
    refine Each.stab_cons (fun _ _ _ _ _ _ _ e => e) ?_
    refine Each.stab_cons (fun _ _ _ _ _ _ _ e => e) ?_
    refine Each.stab_cons (fun _ _ _ _ _ _ _ e => e) ?_
    refine Each.stab_cons (fun _ _ _ _ _ _ _ e => e) ?_
    refine Each.stab_cons (fun _ _ _ _ _ _ _ e => e) ?_
    refine Each.stab_cons (fun _ _ _ _ _ _ _ e => e) ?_
    refine Each.stab_cons (fun _ _ _ _ _ _ _ e => e) ?_
    refine Each.stab_cons (fun _ _ _ _ _ _ _ e => e) ?_
    refine Each.stab_cons (fun _ _ _ _ _ _ _ e => e) ?_
    refine Each.stab_cons (fun _ _ _ _ _ _ _ e => e) ?_
    exact Each.stab_nil
  case hob2 =>
    refine Each.obs_cons (Each.ob_val (fun w => SameHeap.refl w) (fun _ _ h => h) _ (fun vs dn w1 hI hf hc hd => ⟨trivial, ?_, rfl⟩)) ?_
    · clear hd hf hc
      go_simp
      try first | exact IntWalk.i64_in _ (by omega) | exact IntWalk.u64_in _ (by omega) | exact IntWalk.u32_in _ (by omega)
    refine Each.obs_cons (Each.ob_val (fun w => SameHeap.refl w) (fun _ _ h => h) _ (fun vs dn w1 hI hf hc hd => ⟨trivial, ?_, rfl⟩)) ?_
    · have h0 : vs 0 = _ := hd 0 (by decide)
      clear hd hf hc
      exact ex_sidx [a, b, c, d] H8.out 0 (by exact h0) rfl (by simp)
    refine Each.obs_cons (Each.ob_val (fun w => SameHeap.refl w) (fun _ _ h => h) _ (fun vs dn w1 hI hf hc hd => ⟨trivial, ?_, rfl⟩)) ?_
    · have h1 : vs 1 = _ := hd 1 (by decide)
      clear hd hf hc
      go_simp
      try first | exact IntWalk.i64_in _ (by omega) | exact IntWalk.u64_in _ (by omega) | exact IntWalk.u32_in _ (by omega)
    refine Each.obs_cons (Each.ob_val (fun w => SameHeap.refl w) (fun _ _ h => h) _ (fun vs dn w1 hI hf hc hd => ⟨trivial, ?_, rfl⟩)) ?_
    · have h2 : vs 2 = _ := hd 2 (by decide)
      clear hd hf hc
      go_simp
      try first | exact IntWalk.i64_in _ (by omega) | exact IntWalk.u64_in _ (by omega) | exact IntWalk.u32_in _ (by omega)
    refine Each.obs_cons (Each.ob_val (fun w => SameHeap.refl w) (fun _ _ h => h) _ (fun vs dn w1 hI hf hc hd => ⟨trivial, ?_, rfl⟩)) ?_
    · clear hd hf hc
      go_simp
      try first | exact IntWalk.i64_in _ (by omega) | exact IntWalk.u64_in _ (by omega) | exact IntWalk.u32_in _ (by omega)
    refine Each.obs_cons (Each.ob_val (fun w => SameHeap.refl w) (fun _ _ h => h) _ (fun vs dn w1 hI hf hc hd => ⟨trivial, ?_, rfl⟩)) ?_
    · have h4 : vs 4 = _ := hd 4 (by decide)
      clear hd hf hc
      exact ex_sidx [a, b, c, d] H8.out 1 (by exact h4) rfl (by simp)
    refine Each.obs_cons (Each.ob_val (fun w => SameHeap.refl w) (fun _ _ h => h) _ (fun vs dn w1 hI hf hc hd => ⟨trivial, ?_, rfl⟩)) ?_
    · have h5 : vs 5 = _ := hd 5 (by decide)
      clear hd hf hc
      go_simp
      try first | exact IntWalk.i64_in _ (by omega) | exact IntWalk.u64_in _ (by omega) | exact IntWalk.u32_in _ (by omega)
    refine Each.obs_cons (Each.ob_val (fun w => SameHeap.refl w) (fun _ _ h => h) _ (fun vs dn w1 hI hf hc hd => ⟨trivial, ?_, rfl⟩)) ?_
    · have h6 : vs 6 = _ := hd 6 (by decide)
      clear hd hf hc
      go_simp
      try first | exact IntWalk.i64_in _ (by omega) | exact IntWalk.u64_in _ (by omega) | exact IntWalk.u32_in _ (by omega)
    refine Each.obs_cons (Each.ob_val (fun w => SameHeap.refl w) (fun _ _ h => h) _ (fun vs dn w1 hI hf hc hd => ⟨trivial, ?_, rfl⟩)) ?_
    · have h3 : vs 3 = _ := hd 3 (by decide)
      have h7 : vs 7 = _ := hd 7 (by decide)
      clear hd hf hc
      go_simp
      try first | exact IntWalk.i64_in _ (by omega) | exact IntWalk.u64_in _ (by omega) | exact IntWalk.u32_in _ (by omega)
    refine Each.obs_cons (Each.ob_val (fun w => SameHeap.refl w) (fun _ _ h => h) _ (fun vs dn w1 hI hf hc hd => ⟨trivial, ?_, rfl⟩)) ?_
    · clear hd hf hc
      go_simp
      try first | exact IntWalk.i64_in _ (by omega) | exact IntWalk.u64_in _ (by omega) | exact IntWalk.u32_in _ (by omega)
    refine Each.obs_cons (Each.ob_val (fun w => SameHeap.refl w) (fun _ _ h => h) _ (fun vs dn w1 hI hf hc hd => ⟨trivial, ?_, rfl⟩)) ?_
    · have h9 : vs 9 = _ := hd 9 (by decide)
      clear hd hf hc
      exact ex_sidx [a, b, c, d] H8.out 2 (by exact h9) rfl (by simp)
    refine Each.obs_cons (Each.ob_val (fun w => SameHeap.refl w) (fun _ _ h => h) _ (fun vs dn w1 hI hf hc hd => ⟨trivial, ?_, rfl⟩)) ?_
    · have h10 : vs 10 = _ := hd 10 (by decide)
      clear hd hf hc
      go_simp
      try first | exact IntWalk.i64_in _ (by omega) | exact IntWalk.u64_in _ (by omega) | exact IntWalk.u32_in _ (by omega)
    refine Each.obs_cons (Each.ob_val (fun w => SameHeap.refl w) (fun _ _ h => h) _ (fun vs dn w1 hI hf hc hd => ⟨trivial, ?_, rfl⟩)) ?_
    · have h11 : vs 11 = _ := hd 11 (by decide)
      clear hd hf hc
      go_simp
      try first | exact IntWalk.i64_in _ (by omega) | exact IntWalk.u64_in _ (by omega) | exact IntWalk.u32_in _ (by omega)
    refine Each.obs_cons (Each.ob_val (fun w => SameHeap.refl w) (fun _ _ h => h) _ (fun vs dn w1 hI hf hc hd => ⟨trivial, ?_, rfl⟩)) ?_
    · have h8 : vs 8 = _ := hd 8 (by decide)
      have h12 : vs 12 = _ := hd 12 (by decide)
      clear hd hf hc
      go_simp
      try first | exact IntWalk.i64_in _ (by omega) | exact IntWalk.u64_in _ (by omega) | exact IntWalk.u32_in _ (by omega)
    refine Each.obs_cons (Each.ob_val (fun w => SameHeap.refl w) (fun _ _ h => h) _ (fun vs dn w1 hI hf hc hd => ⟨trivial, ?_, rfl⟩)) ?_
    · clear hd hf hc
      go_simp
      try first | exact IntWalk.i64_in _ (by omega) | exact IntWalk.u64_in _ (by omega) | exact IntWalk.u32_in _ (by omega)
    refine Each.obs_cons (Each.ob_val (fun w => SameHeap.refl w) (fun _ _ h => h) _ (fun vs dn w1 hI hf hc hd => ⟨trivial, ?_, rfl⟩)) ?_
    · have h14 : vs 14 = _ := hd 14 (by decide)
      clear hd hf hc
      exact ex_sidx [a, b, c, d] H8.out 3 (by exact h14) rfl (by simp)
    refine Each.obs_cons (Each.ob_val (fun w => SameHeap.refl w) (fun _ _ h => h) _ (fun vs dn w1 hI hf hc hd => ⟨trivial, ?_, rfl⟩)) ?_
    · have h15 : vs 15 = _ := hd 15 (by decide)
      clear hd hf hc
      go_simp
      try first | exact IntWalk.i64_in _ (by omega) | exact IntWalk.u64_in _ (by omega) | exact IntWalk.u32_in _ (by omega)
    refine Each.obs_cons (Each.ob_val (fun w => SameHeap.refl w) (fun _ _ h => h) _ (fun vs dn w1 hI hf hc hd => ⟨trivial, ?_, rfl⟩)) ?_
    · have h13 : vs 13 = _ := hd 13 (by decide)
      have h16 : vs 16 = _ := hd 16 (by decide)
      clear hd hf hc
      go_simp
      try first | exact IntWalk.i64_in _ (by omega) | exact IntWalk.u64_in _ (by omega) | exact IntWalk.u32_in _ (by omega)
    refine Each.obs_cons (Each.ob_val (fun w => SameHeap.refl w) (fun _ _ h => h) _ (fun vs dn w1 hI hf hc hd => ⟨trivial, ?_, rfl⟩)) ?_
    · have h0 : vs 0 = _ := hd 0 (by decide)
      have h1 : vs 1 = _ := hd 1 (by decide)
      have h2 : vs 2 = _ := hd 2 (by decide)
      have h3 : vs 3 = _ := hd 3 (by decide)
      have h4 : vs 4 = _ := hd 4 (by decide)
      have h5 : vs 5 = _ := hd 5 (by decide)
      have h6 : vs 6 = _ := hd 6 (by decide)
      have h7 : vs 7 = _ := hd 7 (by decide)
      have h8 : vs 8 = _ := hd 8 (by decide)
      have h9 : vs 9 = _ := hd 9 (by decide)
      have h10 : vs 10 = _ := hd 10 (by decide)
      have h11 : vs 11 = _ := hd 11 (by decide)
      have h12 : vs 12 = _ := hd 12 (by decide)
      have h13 : vs 13 = _ := hd 13 (by decide)
      have h14 : vs 14 = _ := hd 14 (by decide)
      have h15 : vs 15 = _ := hd 15 (by decide)
      have h16 : vs 16 = _ := hd 16 (by decide)
      have h17 : vs 17 = _ := hd 17 (by decide)
      clear hd hf hc
      go_simp
      try first | exact IntWalk.i64_in _ (by omega) | exact IntWalk.u64_in _ (by omega) | exact IntWalk.u32_in _ (by omega)
    exact Each.obs_nil
  case hend2 =>
    intro vs dn w1 hI hR
    have hv : vs 18 = _ := hR 18 (by decide)
    rw [hv]
    clear hR hv
    go_wp2
    go_ret
    exact ⟨rfl, hI⟩
  -- HCAE NUMBER
end Go.Proofs.YtifcdmfkojhdnaaDoor

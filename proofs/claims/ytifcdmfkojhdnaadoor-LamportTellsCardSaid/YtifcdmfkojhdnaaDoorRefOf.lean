/-
  The walk of assayerref02.Of.
-/
import Derived.Test.YtifcdmfkojhdnaaDoorRefMath
namespace Go.Proofs.YtifcdmfkojhdnaaDoor
open Go.RowKit Go.Shelf Sha
attribute [local go_sem] Oper.semAt_some
attribute [local go_sem ↓] Go.wp_at_zero Go.wp_at_succ

theorem owns_as {w : World} {base e size n m : Nat} {v : Value} {xs : List Value} (h : w.ownsRow base e size v n xs) (hm : m = n) : w.ownsRow base e size v m xs := hm ▸ h
theorem state_length (p : List Nat) : ∀ j, (state p j).length = 8
  | 0 => rfl
  | j + 1 => more_length _ _ (state_length p j)
theorem state_lt (p : List Nat) : ∀ j i, (state p j).getD i 0 < 4294967296
  | 0, i => getD_lt begin0 4294967296 (by decide) (by decide) i
  | j + 1, i => more_lt _ _ (state_lt p j) i
theorem xr32 {a b c : Nat} (h : c = a ^^^ b) (ha : a < 4294967296) (hb : b < 4294967296) : Hid (bits BinOp.xor IntKind.u32 (a : Int) (b : Int) = (c : Int)) := by show _ = _; rw [u32_xor_nat _ _ ha hb, h]
theorem an32 {a b c : Nat} (h : c = a &&& b) (ha : a < 4294967296) (hb : b < 4294967296) : Hid (bits BinOp.and IntKind.u32 (a : Int) (b : Int) = (c : Int)) := by show _ = _; rw [u32_and_nat _ _ ha hb, h]
theorem ad32 {a b c : Nat} (h : c = (a + b) % 4294967296) : Hid (IntKind.u32.wrap ((a : Int) + (b : Int)) = (c : Int)) := by show _ = _; rw [add_u32, h]
theorem su32 {a c : Nat} (h : c = 4294967295 - a) (ha : a < 4294967296) : Hid (IntKind.u32.wrap (4294967295 - (a : Int)) = (c : Int)) := by show _ = _; rw [IntKind.wrap_u32']; omega
theorem Nums.set {w : World} {g : Nat} {l : List Nat} (h : Nums w g l) (q : Addr) (v : Value) (hne : g ≠ q.block) : Nums (w.setCell q v) g l :=
  ⟨by rw [World.size_setCell]; exact h.1, fun j x hj => by
    have := h.2 j x hj
    unfold World.cell? at *
    rw [heap_setCell_other w q g v hne]
    exact this⟩
theorem RInv.set {w : World} {K S i : Nat} {s s' : List Nat} {x : World} {v : Value} (h : RInv w K S s x) (hK : K ≠ S) (hS : w.heap.size < S) (hx : (x.setCell ⟨S, i, none⟩ v).heap[S]? = some (.cells (ints .u32 s') 42 (0, 0))) : RInv w K S s' (x.setCell ⟨S, i, none⟩ v) :=
  ⟨h.1.setCell (p := ⟨S, i, none⟩) (Nat.le_of_lt hS) _, (heap_setCell_other x ⟨S, i, none⟩ _ _ (Nat.ne_of_lt hS)).trans h.2.1, (heap_setCell_other x ⟨S, i, none⟩ _ _ hK).trans h.2.2.1, hx⟩
theorem RInv.put {w : World} {K S B i : Nat} {s : List Nat} {x : World} {v : Value} (h : RInv w K S s x) (hw : w.heap.size < B) (hK : K ≠ B) (hS : S ≠ B) : RInv w K S s (x.setCell ⟨B, i, none⟩ v) :=
  ⟨h.1.setCell (p := ⟨B, i, none⟩) (Nat.le_of_lt hw) _, (heap_setCell_other x ⟨B, i, none⟩ _ _ (Nat.ne_of_lt hw)).trans h.2.1, (heap_setCell_other x ⟨B, i, none⟩ _ _ hK).trans h.2.2.1, (heap_setCell_other x ⟨B, i, none⟩ _ _ hS).trans h.2.2.2⟩
theorem outAt_of (s : List Nat) (k r : Nat) (hr : r < 4) : outAt s (4 * k + r) = s.getD k 0 / 2 ^ (24 - 8 * r) % 256 := by
  unfold outAt
  rw [show (4 * k + r) / 4 = k by omega, show (4 * k + r) % 4 = r by omega]
theorem RInv.drew {w : World} {K S : Nat} {s : List Nat} {x : World} (h : RInv w K S s x) : RInv w K S s x.drew := h.later (Below.refl _ _).drew
theorem Nums.drew {w : World} {g : Nat} {l : List Nat} (h : Nums w g l) : Nums w.drew g l := h.later (Below.refl _ _).drew
def ExtA (g i : Nat) (w w' : World) : Prop := if i = 31 then w.grownBy w' (some g) else Below w.heap.size w w'
theorem ExtA.refl (g i : Nat) (w : World) : ExtA g i w w := by
  unfold ExtA
  split
  · exact ⟨rfl, rfl, rfl, Nat.le_refl _, fun _ _ _ => rfl⟩
  · exact Below.refl _ _
theorem ExtA.grow {g : Nat} {w w' : World} (h : w.grownBy w' (some g)) : ExtA g 31 w w' := by unfold ExtA; rw [if_pos rfl]; exact h
theorem ExtA.below {g i : Nat} {w w' : World} (hi : i ≠ 31) (h : Below w.heap.size w w') : ExtA g i w w' := by unfold ExtA; rw [if_neg hi]; exact h
theorem ExtA.out {g i : Nat} {w w' : World} (hi : i ≠ 31) (h : ExtA g i w w') : Below w.heap.size w w' := by unfold ExtA at h; rwa [if_neg hi] at h
theorem ExtA.nums {g b i : Nat} {w w' : World} {l : List Nat} (h : ExtA g i w w') (hN : Nums w b l) (hne : b ≠ g) : Nums w' b l := by
  by_cases hi : i = 31
  · subst hi
    unfold ExtA at h
    rw [if_pos rfl] at h
    exact nums_grown hN h hne
  · exact hN.later (h.out hi)
def zpad (l : List Nat) (z : Nat) : List Nat := l ++ [128] ++ List.replicate z 0
theorem zpad_succ (l : List Nat) (z : Nat) : bstr (zpad l z) ++ bstr [0] = bstr (zpad l (z + 1)) := by
  rw [bstr_append]
  simp [zpad, List.replicate_succ']
theorem zpad_length (l : List Nat) (z : Nat) : (zpad l z).length = l.length + 1 + z := by simp [zpad]; omega
theorem pow256 (i k : Nat) (h1 : i ≤ k) : (256 : Nat) ^ (k - i) * 256 = 256 ^ (k + 1 - i) := by
  rw [show k + 1 - i = (k - i) + 1 by omega, Nat.pow_succ]
theorem pow256_le (j : Nat) (h : j ≤ 7) : 256 ^ j ≤ 72057594037927936 := by
  have := Nat.pow_le_pow_right (n := 256) (by decide) h
  omega
theorem byte_of (n i : Nat) (h : i ≤ 7) : n / 256 ^ (7 - i) % 256 = byteAt n i := by
  unfold byteAt
  rw [show (256 : Nat) = 2 ^ 8 from rfl, ← Nat.pow_mul, show 8 * (7 - i) = 56 - 8 * i by omega]

set_option maxHeartbeats 8000000 in
set_option maxRecDepth 100000 in
theorem rof_any (l : List Nat) (h8 : ∀ x ∈ l, x < 256) (hn : l.length < 1099511627776) (w : World) :
    Calls Tryd.prog 21 #[.string (bstr l)] w fun e w' => e = .returned (.agg (ints .u8 (hashOf l))) ∧ Below w.heap.size w w' := by
  refine calls_of_wp Tryd.func21 rfl ?_
  simp only [Tryd.ntmps21, List.size_toArray, List.length_cons, List.length_nil, Nat.reduceAdd, Nat.reduceSub, Array.replicate_succ, Array.replicate_zero, List.push_toArray, List.append_toArray, List.nil_append, List.cons_append]
  go_upto_region 1 with ((with_reducible refine at_alloc 23 ?_); refine wpList_alloc_zero rfl 23 rfl _ alloc_hash ?_)
  have hB1 : Below w.heap.size w (w.alloc (.cells (ints .u8 zeros32) 23)) := (Below.refl _ w).alloc (Nat.le_refl _) _
  have hR : (w.alloc (.cells (ints .u8 zeros32) 23)).heap[w.heap.size]? = some (.cells (ints .u8 zeros32) 23 (0, 0)) := heap_alloc_new _ _
  have hz : w.heap.size < (w.alloc (.cells (ints .u8 zeros32) 23)).heap.size := by rw [World.size_alloc]; omega
  generalize w.alloc (.cells (ints .u8 zeros32) 23) = w1 at *
  have HR := Lib.hid hR
  have hsz := size_bstr l
  have e128 : (ByteArray.mk #[128]) = bstr [128] := rfl
  have e0 : (ByteArray.mk #[0]) = bstr [0] := rfl
  have hz0 : bstr l ++ bstr [128] = bstr (zpad l 0) := by rw [bstr_append]; simp [zpad]
  have s1 : (bstr [128]).size = 1 := rfl
  have s2 : (bstr [0]).size = 1 := rfl
  clear hR
  have H8 := Lib.hid h8
  go_wp2
  clear hz0 e128 hsz h8 s1
  go_loopw [0] (fun b wr => ∃ z : Nat, z ≤ gap l.length ∧ b = .string (bstr (zpad l z)) ∧ wr = w1) (fun b _ => gap l.length + l.length + 1 - (match b with | .string s => s.size | _ => 0))
  case atStart => exact ⟨0, Nat.zero_le _, rfl, rfl⟩
  case round =>
    obtain ⟨z, hzg, rfl, rfl⟩ := hrel
    have hsz : (bstr (zpad l z)).size = l.length + 1 + z := by rw [size_bstr, zpad_length]
    have hg64 := gap_lt l.length
    by_cases hzz : z = gap l.length
    · have hm : (((l.length + 1 + z : Nat) : Int) % 64 != 56) = false := by
        have := (gap_at l.length z hzg).2 hzz
        rw [bne_eq_false_iff_eq]; omega
      have HZZ := Lib.hid hzz
      clear hzz
      go_wp2
      clear hm hg64 hsz e0 s2
      have hpl : (zpad l z).length = l.length + 1 + z := zpad_length l z
      have hg64 := gap_lt l.length
      obtain ⟨N, hN⟩ : ∃ N, N = l.length * 8 := ⟨_, rfl⟩
      have hNi : (l.length : Int) * 8 = (N : Int) := by omega
      rw [hNi]
      have hN1 : N < 8796093022208 := by omega
      have HN := Lib.hid hN
      clear hNi hN
      go_loopw [0, 4, 5, 6] (fun b iv _ _ wr2 => ∃ i : Nat, i ≤ 8 ∧ iv = .int .i64 i ∧ b = .string (bstr (zpad l z ++ tail8 N i)) ∧ Below w.heap.size w wr2 ∧ wr2.heap[w.heap.size]? = some (.cells (ints .u8 zeros32) 23 (0, 0)) ∧ w.heap.size < wr2.heap.size) (fun _ iv _ _ _ => 8 - (intOf iv).toNat)
      case atStart => exact ⟨0, by omega, rfl, by simp [tail8], hB1, HR.out, hz⟩
      case round =>
        clear hB1 HR hz
        obtain ⟨i, hi, rfl, rfl, hB, hR, hz⟩ := hrel
        have HR := Lib.hid hR
        clear hR
        obtain ⟨wo, rfl⟩ : ∃ wo : World, wo = wr := ⟨_, rfl⟩
        by_cases hi8 : i < 8
        · have i0 : (0 : Int) ≤ (i : Int) := by omega
          go_wp2
          go_loopw [5, 6] (fun d kv wr3 => ∃ k : Nat, i ≤ k ∧ k ≤ 7 ∧ kv = .int .i64 k ∧ d = .int .u64 (256 ^ (k - i) : Nat) ∧ wr3 = wo) (fun _ kv _ => 7 - (intOf kv).toNat)
          case atStart => exact ⟨i, Nat.le_refl _, by omega, rfl, by simp, rfl⟩
          case round =>
            obtain ⟨k, hik, hk7, rfl, rfl, rfl⟩ := hrel
            by_cases hlt : k < 7
            · have hle := pow256_le (k + 1 - i) (by omega)
              have hps := pow256 i k hik
              have hmul : ((256 ^ (k - i) : Nat) : Int) * 256 = ((256 ^ (k + 1 - i) : Nat) : Int) := by rw [← hps]; simp
              generalize hd1 : (256 ^ (k - i) : Nat) = d at *
              generalize hd2 : (256 ^ (k + 1 - i) : Nat) = d2 at *
              have HD2 := Lib.hid hd2
              have hw : IntKind.u64.wrap (d2 : Int) = (d2 : Int) := IntWalk.u64_in _ (by omega)
              have HW := Lib.hid hw
              clear hps hd1 hd2 hw
              go_wp2
              refine ⟨⟨k + 1, by omega, by omega, by go_num, by rw [HD2.out], trivial⟩, by simp [intOf]; omega⟩
            · obtain rfl : k = 7 := by omega
              have hle := pow256_le (7 - i) (by omega)
              have hdpos : 0 < 256 ^ (7 - i) := Nat.pow_pos (by decide)
              have hby := byte_of N i (by omega)
              have hdiv : N / 256 ^ (7 - i) ≤ N := Nat.div_le_self _ _
              generalize (256 ^ (7 - i) : Nat) = d at *
              have hd0 : ¬ d = 0 := by omega
              have hqi : ((N : Int)) / (d : Int) = ((N / d : Nat) : Int) := by simp
              have hx : byteAt N i < 256 := by rw [← hby]; omega
              have hcv := conv_one wr (byteAt N i) hx
              have hsa : (bstr (zpad l z ++ tail8 N i)).size ≤ 1099511627900 := by rw [size_bstr, List.length_append, tail8_length]; omega
              have hsb : (bstr [byteAt N i]).size = 1 := by rw [size_bstr]; rfl
              have hcat : bstr (zpad l z ++ tail8 N i) ++ bstr [byteAt N i] = bstr (zpad l z ++ tail8 N (i + 1)) := by rw [bstr_append, tail8, List.append_assoc]
              have HCAT := Lib.hid hcat
              have hB2 := hB.alloc (Nat.le_of_lt hz) (.cells #[.int .u8 ((byteAt N i : Nat) : Int)] 5)
              have hR2 := (Below.heap_alloc wr (.cells #[.int .u8 ((byteAt N i : Nat) : Int)] 5) w.heap.size hz).trans HR.out
              have hz2 : w.heap.size < (wr.alloc (.cells #[.int .u8 ((byteAt N i : Nat) : Int)] 5)).heap.size := by rw [World.size_alloc]; omega
              have HR2 := Lib.hid hR2
              have hbyi : (((N / d : Nat) : Int)) % 256 = ((byteAt N i : Nat) : Int) := by rw [← hby]; simp
              generalize byteAt N i = x at *
              generalize N / d = qd at *
              clear hby hcat hR2 HR hB
              go_wp2
              exact ⟨⟨i + 1, by omega, by go_num, by rw [HCAT.out], hB2, HR2.out, hz2⟩, by simp [intOf]; omega⟩
        · obtain rfl : i = 8 := by omega
          have hp : zpad l z ++ tail8 N 8 = pad l := by rw [HZZ.out, HN.out]; rfl
          rw [hp]
          have hm := pad_mod l
          have hplen := pad_length l
          obtain ⟨m, hm2⟩ : ∃ m, m = (pad l).length / 64 := ⟨_, rfl⟩
          rw [← hm2] at hm
          have HP8 : Hid (∀ x ∈ pad l, x < 256) := pad_lt l H8.out
          have HOUT := Lib.hid (hashOf_eq l m hm2)
          have hgp := gap_lt l.length
          have hm40 : m < 1099511627900 := by omega
          obtain ⟨M, hMM⟩ : ∃ M, M = 64 * m := ⟨_, rfl⟩
          have hps : (bstr (pad l)).size = M := by rw [size_bstr, hm, hMM]
          rw [← hMM] at hm
          have HM := Lib.hid hm
          have HMM := Lib.hid hMM
          have hM40 : (M : Int) < 70368744190000 := by omega
          rw [show ((8 : Nat) : Int) = 8 from rfl]
          clear hp hplen hm2 hm hpl hi8 HZZ hMM hgp hg64
          generalize pad l = p at *
          have hRB := HR.out
          clear HR
          go_upto_region 16 with (go_at_call 34; refine (roots_any _).mono ?_; rintro e w2 ⟨rfl, rfl⟩)
          change Code.wp _ _ _ _ ((wo.alloc (.cells (ints .u32 ks) 42)).alloc (.cells (ints .u32 begin0) 42))
          have hI0 : RInv w wo.heap.size (wo.heap.size + 1) (state p 0) ((wo.alloc (.cells (ints .u32 ks) 42)).alloc (.cells (ints .u32 begin0) 42)) := by
            refine ⟨(hB.alloc (Nat.le_of_lt hz) _).alloc (by simp; omega) _, ?_, ?_, ?_⟩
            · rw [Below.heap_alloc _ _ _ (by simp; omega), Below.heap_alloc _ _ _ hz]; exact hRB
            · rw [Below.heap_alloc _ _ _ (by simp)]; exact heap_alloc_new _ _
            · have := heap_alloc_new (wo.alloc (.cells (ints .u32 ks) 42)) (.cells (ints .u32 begin0) 42)
              rw [World.size_alloc] at this
              exact this
          have hKS : wo.heap.size ≠ wo.heap.size + 1 := by omega
          have hwK : w.heap.size < wo.heap.size := hz
          have hwS : w.heap.size < wo.heap.size + 1 := by omega
          generalize (wo.alloc (.cells (ints .u32 ks) 42)).alloc (.cells (ints .u32 begin0) 42) = w2 at *
          generalize wo.heap.size + 1 = S at *
          generalize wo.heap.size = K at *
          clear hB hRB hz
          go_wp2
          go_loopw [9] (fun av wr => ∃ j : Nat, j ≤ m ∧ av = .int .i64 (64 * j : Nat) ∧ RInv w K S (state p j) wr) (fun av _ => M - (intOf av).toNat)
          case atStart => exact ⟨0, Nat.zero_le _, rfl, hI0⟩
          case round =>
            clear hI0
            obtain ⟨j, hj, rfl, hI⟩ := hrel
            obtain ⟨A, hA⟩ : ∃ A, A = 64 * j := ⟨_, rfl⟩
            rw [← hA]
            by_cases hjm : j < m
            · have hAm : A + 64 ≤ M := by have := HMM.out; omega
              have i00 : A < M := by omega
              have i0 : (A : Int) < (M : Int) := by omega
              obtain ⟨bs, hbs⟩ : ∃ bs, bs = block p j := ⟨_, rfl⟩
              have HA := Lib.hid hA
              have HBS := Lib.hid hbs
              have hA40 : (A : Int) < 70368744190000 := by omega
              clear hA hbs
              clear hm40 hi
              go_wp2
              obtain ⟨wo, rfl⟩ : ∃ wo : World, wo = wr := ⟨_, rfl⟩
              go_loopw [10, 11] (fun v iv wr => ∃ k : Nat, k ≤ 16 ∧ iv = .int .i64 k ∧ wr.ownsRow wo.heap.size 42 1 v k (ucells (firsts bs k)) ∧ Below wo.heap.size wo wr) (fun _ iv _ => 16 - (intOf iv).toNat)
              case atStart => exact ⟨0, by omega, rfl, ⟨rfl, Or.inl ⟨rfl, rfl⟩⟩, Below.refl _ _⟩
              case round =>
                obtain ⟨k, hk, rfl, hown, hB⟩ := hrel
                by_cases hk16 : k < 16
                · obtain ⟨e, he⟩ : ∃ e, e = A + 4 * k := ⟨_, rfl⟩
                  have hei : (A : Int) + 4 * (k : Int) = (e : Int) := by omega
                  have hem : e + 4 ≤ M := by omega
                  have h4 := four_bytes p e (by rw [HM.out]; exact hem)
                  have hw := word_at p j k hk16
                  rw [← HA.out, ← he, ← HBS.out] at hw
                  have g8 : ∀ q, p.getD q 0 < 256 := fun q => getD_lt p 256 (by decide) HP8.out q
                  have HNUM := Lib.hid (fun W => number_any (p.getD e 0) (p.getD (e + 1) 0) (p.getD (e + 2) 0) (p.getD (e + 3) 0) (g8 _) (g8 _) (g8 _) (g8 _) W)
                  rw [← hw, ← h4] at HNUM
                  have hfs := firsts_succ bs k (by omega)
                  have hfl := firsts_length bs k (by omega)
                  generalize word bs k = y at *
                  have HFS := Lib.hid hfs
                  have HFL := Lib.hid hfl
                  have hown' := owns_as hown hfl
                  have HOWN := Lib.hid hown'
                  have i1 : (0 : Int) ≤ (e : Int) := by omega
                  have i2 : (e : Int) + 4 ≤ (M : Int) := by omega
                  have hz := hB.size
                  obtain ⟨va, vc, rfl⟩ := ownsRow_slice hown
                  have k0 : (k : Int) < 16 := by omega
                  clear he h4 hw g8 hfs hfl hown hown' hI
                  generalize firsts bs k = fb at *
                  go_wp2_with (first
                    | (go_at_call 35; refine (HNUM.out _).mono ?_; rintro x w3 ⟨rfl, hS⟩
                       have hown3 := owns_later (owns_later HOWN.out hS.2) ((Below.refl w3.heap.size w3).alloc (Nat.le_refl _) (.cells (ints .u32 [y]) 42))
                       have hz3 : wo.heap.size ≤ w3.heap.size := Nat.le_trans hz hS.2.size
                       have hB3 := (hB.trans (hS.2.mono hz)).alloc hz3 (.cells (ints .u32 [y]) 42)
                       clear HNUM HOWN hS)
                    | (at_builtin; refine append_nums rfl _ _ rfl wo.heap.size _ fb (by exact rfl) hown3 w3.heap.size 1 1 [y] rfl rfl (nums_block (heap_alloc_new w3 (.cells (ints .u32 [y]) 42))) (by rw [HFL.out]; omega) (by rw [World.size_alloc]; omega) ?_; intro v4 w4 hown4 hgrow4))
                  refine ⟨⟨k + 1, by omega, by go_num, ?_, below_grown hB3 hown3 hgrow4 (by rw [World.size_alloc]; omega)⟩, by simp [intOf]; omega⟩
                  rw [HFS.out]
                  exact owns_as hown4 (by rw [List.length_append, HFL.out]; rfl)
                · obtain rfl : k = 16 := by omega
                  rw [show ((16 : Nat) : Int) = 16 from rfl]
                  have HI := Lib.hid hI
                  clear hI hk hk16
                  go_wp2
                  go_loopw [10, 12, 13, 14] (fun v iv _ _ wr => ∃ k n : Nat, n = 16 + k ∧ k ≤ 48 ∧ iv = .int .i64 n ∧ wr.ownsRow wo.heap.size 42 1 v n (ucells (seconds bs k)) ∧ Below wo.heap.size wo wr) (fun _ iv _ _ _ => 64 - (intOf iv).toNat)
                  case atStart => exact ⟨0, 16, rfl, by omega, rfl, hown, hB⟩
                  case round =>
                    clear hown hB
                    obtain ⟨k, n, hn, hk, rfl, hown, hB⟩ := hrel
                    by_cases hk48 : k < 48
                    · obtain ⟨g, c, rfl, hbg, hnc, hcm, hNg⟩ := ownsRow_nums hown (by omega)
                      have hsl := seconds_length bs k hk
                      have hss := seconds_succ bs k hk48
                      have hlt := row1_lt bs (fun q => by rw [HBS.out]; exact getD_lt _ 256 (by decide) (fun x hx => HP8.out x (by unfold block at hx; exact List.mem_of_mem_drop (List.mem_of_mem_take hx))) q) k
                      rw [← hn] at hsl hss
                      have hgd : ∀ q, q < n → (seconds bs k).getD q 0 = (row1 bs k).getD q 0 := fun q hq => seconds_getD bs k q (by omega)
                      have hnx : next (row1 bs k) n = ((row1 bs k).getD (n - 16) 0 + (row1 bs k).getD (n - 7) 0 + sg0 ((row1 bs k).getD (n - 15) 0) + sg1 ((row1 bs k).getD (n - 2) 0)) % 4294967296 := rfl
                      obtain ⟨n16, hn16⟩ : ∃ q, q = n - 16 := ⟨_, rfl⟩
                      obtain ⟨n15, hn15⟩ : ∃ q, q = n - 15 := ⟨_, rfl⟩
                      obtain ⟨n7, hn7⟩ : ∃ q, q = n - 7 := ⟨_, rfl⟩
                      obtain ⟨n2, hn2⟩ : ∃ q, q = n - 2 := ⟨_, rfl⟩
                      rw [← hn16, ← hn15, ← hn7, ← hn2] at hnx
                      have HA16 := Lib.hid (hgd n16 (by omega))
                      have HA7 := Lib.hid (hgd n7 (by omega))
                      have c15 := hNg.cell n15 (by omega)
                      have c2 := hNg.cell n2 (by omega)
                      rw [hgd n15 (by omega)] at c15
                      rw [hgd n2 (by omega)] at c2
                      have hx32 := hlt n15
                      have hy32 := hlt n2
                      have ha16 := hlt n16
                      have ha7 := hlt n7
                      have HOWN := Lib.hid (owns_as hown hsl)
                      have HHS := Lib.hid hss
                      have HLEN := Lib.hid hsl
                      have HNG := Lib.hid hNg
                      have HN16 := Lib.hid hn
                      have f15 : (n : Int) - 15 = (n15 : Int) := by omega
                      have f2 : (n : Int) - 2 = (n2 : Int) := by omega
                      have F3 : Hid (IntKind.i64.wrap ((n : Int) - 16) = (n16 : Int)) := by show _ = _; rw [IntWalk.i64_in _ (by omega)]; omega
                      have F8 : Hid (IntKind.i64.wrap ((n : Int) - 7) = (n7 : Int)) := by show _ = _; rw [IntWalk.i64_in _ (by omega)]; omega
                      have k1 : (n : Int) < 64 := by omega
                      have k15 : (0 : Int) ≤ (n15 : Int) := by omega
                      have l15 : (n15 : Int) < (n : Int) := by omega
                      have k2 : (0 : Int) ≤ (n2 : Int) := by omega
                      have l2 : (n2 : Int) < (n : Int) := by omega
                      have k16 : (0 : Int) ≤ (n16 : Int) := by omega
                      have l16 : (n16 : Int) < (n : Int) := by omega
                      have k7 : (0 : Int) ≤ (n7 : Int) := by omega
                      have l7 : (n7 : Int) < (n : Int) := by omega
                      have L16 := Lib.hid (show n16 < (seconds bs k).length by omega)
                      have L7 := Lib.hid (show n7 < (seconds bs k).length by omega)
                      have hsn := hsl
                      have hn64 : n < 64 := by omega
                      clear hgd hlt hn hn16 hn15 hn7 hn2 hss hown
                      generalize (row1 bs k).getD n15 0 = x at *
                      generalize (row1 bs k).getD n2 0 = y at *
                      generalize (row1 bs k).getD n16 0 = a16 at *
                      generalize (row1 bs k).getD n7 0 = a7 at *
                      have HNX := Lib.hid hnx
                      clear hnx hNg hsl hsn
                      go_upto_region 29 with fail
                      obtain ⟨s1, hs1⟩ : ∃ q, q = (a16 + a7) % 4294967296 := ⟨_, rfl⟩
                      obtain ⟨y1, hy1⟩ : ∃ q, q = rotr x 7 ^^^ rotr x 18 := ⟨_, rfl⟩
                      obtain ⟨y2, hy2⟩ : ∃ q, q = y1 ^^^ x / 8 := ⟨_, rfl⟩
                      obtain ⟨s2, hs2⟩ : ∃ q, q = (s1 + y2) % 4294967296 := ⟨_, rfl⟩
                      obtain ⟨y3, hy3⟩ : ∃ q, q = rotr y 17 ^^^ rotr y 19 := ⟨_, rfl⟩
                      obtain ⟨y4, hy4⟩ : ∃ q, q = y3 ^^^ y / 1024 := ⟨_, rfl⟩
                      obtain ⟨s3, hs3⟩ : ∃ q, q = (s2 + y4) % 4294967296 := ⟨_, rfl⟩
                      have e2 : y2 = sg0 x := by rw [hy2, hy1]; rfl
                      have e4 : y4 = sg1 y := by rw [hy4, hy3]; rfl
                      have HS3 : Hid (s3 = next (row1 bs k) n) := by show _ = _; rw [HNX.out, ← e2, ← e4]; omega
                      have F11 : Hid (IntKind.u32.wrap ((a16 : Int) + (a7 : Int)) = (s1 : Int)) := by show _ = _; rw [add_u32, hs1]
                      have F16 : Hid (bits BinOp.xor IntKind.u32 (rotr x 7 : Nat) (rotr x 18 : Nat) = (y1 : Int)) := by show _ = _; rw [u32_xor_nat _ _ (rotr_lt _ _ hx32) (rotr_lt _ _ hx32), hy1]
                      have F19 : Hid (bits BinOp.xor IntKind.u32 (y1 : Int) (x / 8 : Nat) = (y2 : Int)) := by show _ = _; rw [u32_xor_nat _ _ (by rw [hy1]; exact xor_lt (rotr_lt _ _ hx32) (rotr_lt _ _ hx32)) (by omega), hy2]
                      have F20 : Hid (IntKind.u32.wrap ((s1 : Int) + (y2 : Int)) = (s2 : Int)) := by show _ = _; rw [add_u32, hs2]
                      have F25 : Hid (bits BinOp.xor IntKind.u32 (rotr y 17 : Nat) (rotr y 19 : Nat) = (y3 : Int)) := by show _ = _; rw [u32_xor_nat _ _ (rotr_lt _ _ hy32) (rotr_lt _ _ hy32), hy3]
                      have F28 : Hid (bits BinOp.xor IntKind.u32 (y3 : Int) (y / 1024 : Nat) = (y4 : Int)) := by show _ = _; rw [u32_xor_nat _ _ (by rw [hy3]; exact xor_lt (rotr_lt _ _ hy32) (rotr_lt _ _ hy32)) (by omega), hy4]
                      have F29 : Hid (IntKind.u32.wrap ((s2 : Int) + (y4 : Int)) = (s3 : Int)) := by show _ = _; rw [add_u32, hs3]
                      clear hs1 hy1 hy2 hs2 hy3 hy4 hs3 e2 e4 HNX ha16 ha7 c15 c2
                      have hx32 := Lib.hid hx32
                      have hy32 := Lib.hid hy32
                      refine Each.region_most (front := ?front4) (ol := ?ol4) ?snoc4 (by kernel_rfl) ?chk4 ?fits4 ?gl4 (fun dn w1 => Below wo.heap.size wo w1 ∧ (dn 31 = false → Nums w1 g (seconds bs k) ∧ w1.ownsRow wo.heap.size 42 1 (.slice (some ⟨g, 0, none⟩) n c) (seconds bs k).length (ucells (seconds bs k)))) (ExtA g) (Each.nth [fun v _ => v = .slice (some ⟨g, 0, none⟩) n c, fun v _ => v = .slice (some ⟨g, 0, none⟩) n c, fun v _ => v = .int .i64 n, fun v _ => v = .int .i64 n16, fun v _ => v = .pointer (some ⟨g, n16, none⟩), fun v _ => v = .int .u32 a16, fun v _ => v = .slice (some ⟨g, 0, none⟩) n c, fun v _ => v = .int .i64 n, fun v _ => v = .int .i64 n7, fun v _ => v = .pointer (some ⟨g, n7, none⟩), fun v _ => v = .int .u32 a7, fun v _ => v = .int .u32 s1, fun v _ => v = .int .u32 x, fun v _ => v = .int .u32 (rotr x 7 : Nat), fun v _ => v = .int .u32 x, fun v _ => v = .int .u32 (rotr x 18 : Nat), fun v _ => v = .int .u32 y1, fun v _ => v = .int .u32 x, fun v _ => v = .int .u32 (x / 8 : Nat), fun v _ => v = .int .u32 y2, fun v _ => v = .int .u32 s2, fun v _ => v = .int .u32 y, fun v _ => v = .int .u32 (rotr y 17 : Nat), fun v _ => v = .int .u32 y, fun v _ => v = .int .u32 (rotr y 19 : Nat), fun v _ => v = .int .u32 y3, fun v _ => v = .int .u32 y, fun v _ => v = .int .u32 (y / 1024 : Nat), fun v _ => v = .int .u32 y4, fun v _ => v = .int .u32 s3, fun v w1 => ∃ b, v = .slice (some ⟨b, 0, none⟩) 1 1 ∧ b ≠ g ∧ Nums w1 b [s3], fun v w1 => w1.ownsRow wo.heap.size 42 1 v (seconds bs k ++ [s3]).length (ucells (seconds bs k ++ [s3]))]) (ExtA.refl g) (fun i dn w ho h => by obtain ⟨o, ho1, ho2⟩ := ho; exact absurd (Each.bare_at (by kernel_rfl) ho1) ho2) ?stab4 (⟨hB.drew, fun _ => ⟨HNG.out.later (Below.refl _ _).drew, owns_later HOWN.out (Below.refl _ _).drew⟩⟩) ?hob4 ?hend4
                      case snoc4 => exact (.cons _ (.cons _ (.cons _ (.cons _ (.cons _ (.cons _ (.cons _ (.cons _ (.cons _ (.cons _ (.cons _ (.cons _ (.cons _ (.cons _ (.cons _ (.cons _ (.cons _ (.cons _ (.cons _ (.cons _ (.cons _ (.cons _ (.cons _ (.cons _ (.cons _ (.cons _ (.cons _ (.cons _ (.cons _ (.cons _ (.cons _ (.cons _ (.one _)))))))))))))))))))))))))))))))))
                      case chk4 => kernel_rfl
                      case fits4 => kernel_rfl
                      case gl4 => rfl
                      case stab4 =>
                        refine Each.nth_stab _ ?_
                        refine Each.stab_cons (fun _ _ _ _ _ _ _ e => e) ?_
                        refine Each.stab_cons (fun _ _ _ _ _ _ _ e => e) ?_
                        refine Each.stab_cons (fun _ _ _ _ _ _ _ e => e) ?_
                        refine Each.stab_cons (fun _ _ _ _ _ _ _ e => e) ?_
                        refine Each.stab_cons (fun _ _ _ _ _ _ _ e => e) ?_
                        refine Each.stab_cons (fun _ _ _ _ _ _ _ e => e) ?_
                        refine Each.stab_cons (fun _ _ _ _ _ _ _ e => e) ?_
                        refine Each.stab_cons (fun _ _ _ _ _ _ _ e => e) ?_
                        refine Each.stab_cons (fun _ _ _ _ _ _ _ e => e) ?_
                        refine Each.stab_cons (fun _ _ _ _ _ _ _ e => e) ?_
                        refine Each.stab_cons (fun _ _ _ _ _ _ _ e => e) ?_
                        refine Each.stab_cons (fun _ _ _ _ _ _ _ e => e) ?_
                        refine Each.stab_cons (fun _ _ _ _ _ _ _ e => e) ?_
                        refine Each.stab_cons (fun _ _ _ _ _ _ _ e => e) ?_
                        refine Each.stab_cons (fun _ _ _ _ _ _ _ e => e) ?_
                        refine Each.stab_cons (fun _ _ _ _ _ _ _ e => e) ?_
                        refine Each.stab_cons (fun _ _ _ _ _ _ _ e => e) ?_
                        refine Each.stab_cons (fun _ _ _ _ _ _ _ e => e) ?_
                        refine Each.stab_cons (fun _ _ _ _ _ _ _ e => e) ?_
                        refine Each.stab_cons (fun _ _ _ _ _ _ _ e => e) ?_
                        refine Each.stab_cons (fun _ _ _ _ _ _ _ e => e) ?_
                        refine Each.stab_cons (fun _ _ _ _ _ _ _ e => e) ?_
                        refine Each.stab_cons (fun _ _ _ _ _ _ _ e => e) ?_
                        refine Each.stab_cons (fun _ _ _ _ _ _ _ e => e) ?_
                        refine Each.stab_cons (fun _ _ _ _ _ _ _ e => e) ?_
                        refine Each.stab_cons (fun _ _ _ _ _ _ _ e => e) ?_
                        refine Each.stab_cons (fun _ _ _ _ _ _ _ e => e) ?_
                        refine Each.stab_cons (fun _ _ _ _ _ _ _ e => e) ?_
                        refine Each.stab_cons (fun _ _ _ _ _ _ _ e => e) ?_
                        refine Each.stab_cons (fun _ _ _ _ _ _ _ e => e) ?_
                        refine Each.stab_cons (fun i v w w' hne hnd h e => e.imp fun b e => ⟨e.1, e.2.1, ExtA.nums h e.2.2 e.2.1⟩) ?_
                        refine Each.stab_cons (fun i v w w' hne hnd h e => owns_later e (h.out hne)) ?_
                        exact Each.stab_nil
                      case hob4 =>
                        refine Each.obvs_cons (Each.obv_val (fun w => (ExtA.refl g) _ w) (fun _ w h => ⟨h.1, fun h31 => h.2 (by simpa [Each.upd] using h31)⟩) _ (fun ev vs dn w1 he hk hg hfn hI hf hc hd => ⟨trivial, ?_, rfl⟩)) ?_
                        · have e10 : ev (.tmp 10) = .slice (some ⟨g, 0, none⟩) n c := (he 10).trans (by kernel_rfl)
                          clear hd hf hc he
                          go_simp
                          try first | exact IntWalk.i64_in _ (by omega) | exact IntWalk.u64_in _ (by omega) | exact IntWalk.u32_in _ (by omega)
                        refine Each.obvs_cons (Each.obv_val (fun w => (ExtA.refl g) _ w) (fun _ w h => ⟨h.1, fun h31 => h.2 (by simpa [Each.upd] using h31)⟩) _ (fun ev vs dn w1 he hk hg hfn hI hf hc hd => ⟨trivial, ?_, rfl⟩)) ?_
                        · have e10 : ev (.tmp 10) = .slice (some ⟨g, 0, none⟩) n c := (he 10).trans (by kernel_rfl)
                          clear hd hf hc he
                          go_simp
                          try first | exact IntWalk.i64_in _ (by omega) | exact IntWalk.u64_in _ (by omega) | exact IntWalk.u32_in _ (by omega)
                        refine Each.obvs_cons (Each.obv_val (fun w => (ExtA.refl g) _ w) (fun _ w h => ⟨h.1, fun h31 => h.2 (by simpa [Each.upd] using h31)⟩) _ (fun ev vs dn w1 he hk hg hfn hI hf hc hd => ⟨trivial, ?_, rfl⟩)) ?_
                        · have e12 : ev (.tmp 12) = .int .i64 n := (he 12).trans (by kernel_rfl)
                          clear hd hf hc he
                          go_simp
                          try first | exact IntWalk.i64_in _ (by omega) | exact IntWalk.u64_in _ (by omega) | exact IntWalk.u32_in _ (by omega)
                        refine Each.obvs_cons (Each.obv_val (fun w => (ExtA.refl g) _ w) (fun _ w h => ⟨h.1, fun h31 => h.2 (by simpa [Each.upd] using h31)⟩) _ (fun ev vs dn w1 he hk hg hfn hI hf hc hd => ⟨trivial, ?_, rfl⟩)) ?_
                        · have h2 : vs 2 = _ := hd 2 (by decide)
                          have e98 : ev (.tmp 98) = vs 2 := (he 98).trans (by kernel_rfl)
                          rw [h2] at e98
                          clear hd hf hc he
                          clear h2
                          go_simp
                          exact F3.out
                        refine Each.obvs_cons (Each.obv_val (fun w => (ExtA.refl g) _ w) (fun _ w h => ⟨h.1, fun h31 => h.2 (by simpa [Each.upd] using h31)⟩) _ (fun ev vs dn w1 he hk hg hfn hI hf hc hd => ⟨trivial, ?_, rfl⟩)) ?_
                        · have h1 : vs 1 = _ := hd 1 (by decide)
                          have h3 : vs 3 = _ := hd 3 (by decide)
                          have e97 : ev (.tmp 97) = vs 1 := (he 97).trans (by kernel_rfl)
                          rw [h1] at e97
                          have e99 : ev (.tmp 99) = vs 3 := (he 99).trans (by kernel_rfl)
                          rw [h3] at e99
                          clear hd hf hc he
                          clear h1 h3
                          go_simp
                          try first | exact IntWalk.i64_in _ (by omega) | exact IntWalk.u64_in _ (by omega) | exact IntWalk.u32_in _ (by omega)
                        refine Each.obvs_cons (Each.obv_val (fun w => (ExtA.refl g) _ w) (fun _ w h => ⟨h.1, fun h31 => h.2 (by simpa [Each.upd] using h31)⟩) _ (fun ev vs dn w1 he hk hg hfn hI hf hc hd => ⟨trivial, ?_, rfl⟩)) ?_
                        · have h4 : vs 4 = _ := hd 4 (by decide)
                          have e100 : ev (.tmp 100) = vs 4 := (he 100).trans (by kernel_rfl)
                          rw [h4] at e100
                          clear hd he
                          clear h4
                          have d31 : dn 31 = false := by
                            cases d31 : dn 31 with
                            | false => rfl
                            | true => exact absurd (hc 11 _ rfl (hc 20 _ rfl (hc 29 _ rfl (hc 30 _ rfl (hc 31 _ rfl (d31) 30 (by decide)) 29 (by decide)) 20 (by decide)) 11 (by decide)) 5 (by decide)) (by rw [hf]; decide)
                          have hcell := (hI.2 d31).1.cell n16 L16.out
                          rw [HA16.out] at hcell
                          clear hI hf hc
                          go_simp
                        refine Each.obvs_cons (Each.obv_val (fun w => (ExtA.refl g) _ w) (fun _ w h => ⟨h.1, fun h31 => h.2 (by simpa [Each.upd] using h31)⟩) _ (fun ev vs dn w1 he hk hg hfn hI hf hc hd => ⟨trivial, ?_, rfl⟩)) ?_
                        · have e10 : ev (.tmp 10) = .slice (some ⟨g, 0, none⟩) n c := (he 10).trans (by kernel_rfl)
                          clear hd hf hc he
                          go_simp
                          try first | exact IntWalk.i64_in _ (by omega) | exact IntWalk.u64_in _ (by omega) | exact IntWalk.u32_in _ (by omega)
                        refine Each.obvs_cons (Each.obv_val (fun w => (ExtA.refl g) _ w) (fun _ w h => ⟨h.1, fun h31 => h.2 (by simpa [Each.upd] using h31)⟩) _ (fun ev vs dn w1 he hk hg hfn hI hf hc hd => ⟨trivial, ?_, rfl⟩)) ?_
                        · have e12 : ev (.tmp 12) = .int .i64 n := (he 12).trans (by kernel_rfl)
                          clear hd hf hc he
                          go_simp
                          try first | exact IntWalk.i64_in _ (by omega) | exact IntWalk.u64_in _ (by omega) | exact IntWalk.u32_in _ (by omega)
                        refine Each.obvs_cons (Each.obv_val (fun w => (ExtA.refl g) _ w) (fun _ w h => ⟨h.1, fun h31 => h.2 (by simpa [Each.upd] using h31)⟩) _ (fun ev vs dn w1 he hk hg hfn hI hf hc hd => ⟨trivial, ?_, rfl⟩)) ?_
                        · have h7 : vs 7 = _ := hd 7 (by decide)
                          have e103 : ev (.tmp 103) = vs 7 := (he 103).trans (by kernel_rfl)
                          rw [h7] at e103
                          clear hd hf hc he
                          clear h7
                          go_simp
                          exact F8.out
                        refine Each.obvs_cons (Each.obv_val (fun w => (ExtA.refl g) _ w) (fun _ w h => ⟨h.1, fun h31 => h.2 (by simpa [Each.upd] using h31)⟩) _ (fun ev vs dn w1 he hk hg hfn hI hf hc hd => ⟨trivial, ?_, rfl⟩)) ?_
                        · have h6 : vs 6 = _ := hd 6 (by decide)
                          have h8 : vs 8 = _ := hd 8 (by decide)
                          have e102 : ev (.tmp 102) = vs 6 := (he 102).trans (by kernel_rfl)
                          rw [h6] at e102
                          have e104 : ev (.tmp 104) = vs 8 := (he 104).trans (by kernel_rfl)
                          rw [h8] at e104
                          clear hd hf hc he
                          clear h6 h8
                          go_simp
                          try first | exact IntWalk.i64_in _ (by omega) | exact IntWalk.u64_in _ (by omega) | exact IntWalk.u32_in _ (by omega)
                        refine Each.obvs_cons (Each.obv_val (fun w => (ExtA.refl g) _ w) (fun _ w h => ⟨h.1, fun h31 => h.2 (by simpa [Each.upd] using h31)⟩) _ (fun ev vs dn w1 he hk hg hfn hI hf hc hd => ⟨trivial, ?_, rfl⟩)) ?_
                        · have h9 : vs 9 = _ := hd 9 (by decide)
                          have e105 : ev (.tmp 105) = vs 9 := (he 105).trans (by kernel_rfl)
                          rw [h9] at e105
                          clear hd he
                          clear h9
                          have d31 : dn 31 = false := by
                            cases d31 : dn 31 with
                            | false => rfl
                            | true => exact absurd (hc 11 _ rfl (hc 20 _ rfl (hc 29 _ rfl (hc 30 _ rfl (hc 31 _ rfl (d31) 30 (by decide)) 29 (by decide)) 20 (by decide)) 11 (by decide)) 10 (by decide)) (by rw [hf]; decide)
                          have hcell := (hI.2 d31).1.cell n7 L7.out
                          rw [HA7.out] at hcell
                          clear hI hf hc
                          go_simp
                        refine Each.obvs_cons (Each.obv_val (fun w => (ExtA.refl g) _ w) (fun _ w h => ⟨h.1, fun h31 => h.2 (by simpa [Each.upd] using h31)⟩) _ (fun ev vs dn w1 he hk hg hfn hI hf hc hd => ⟨trivial, ?_, rfl⟩)) ?_
                        · have h5 : vs 5 = _ := hd 5 (by decide)
                          have h10 : vs 10 = _ := hd 10 (by decide)
                          have e101 : ev (.tmp 101) = vs 5 := (he 101).trans (by kernel_rfl)
                          rw [h5] at e101
                          have e106 : ev (.tmp 106) = vs 10 := (he 106).trans (by kernel_rfl)
                          rw [h10] at e106
                          clear hd hf hc he
                          clear h5 h10
                          go_simp
                          exact F11.out
                        refine Each.obvs_cons (Each.obv_val (fun w => (ExtA.refl g) _ w) (fun _ w h => ⟨h.1, fun h31 => h.2 (by simpa [Each.upd] using h31)⟩) _ (fun ev vs dn w1 he hk hg hfn hI hf hc hd => ⟨trivial, ?_, rfl⟩)) ?_
                        · have e13 : ev (.tmp 13) = .int .u32 x := (he 13).trans (by kernel_rfl)
                          clear hd hf hc he
                          go_simp
                          try first | exact IntWalk.i64_in _ (by omega) | exact IntWalk.u64_in _ (by omega) | exact IntWalk.u32_in _ (by omega)
                        refine Each.obvs_cons (Each.obv_call (fun ev vs dn w1 he hk hg hfn hI hf hc hd => ⟨trivial, 36, #[.int .u32 x, .int .u64 7], ?_, ?_⟩)) ?_
                        · have h12 : vs 12 = _ := hd 12 (by decide)
                          have e108 : ev (.tmp 108) = vs 12 := (he 108).trans (by kernel_rfl)
                          rw [h12] at e108
                          clear hd hf hc he
                          clear h12
                          go_simp
                          try first | exact IntWalk.i64_in _ (by omega) | exact IntWalk.u64_in _ (by omega) | exact IntWalk.u32_in _ (by omega)
                        · have h12 : vs 12 = _ := hd 12 (by decide)
                          clear hd hf hc he hk hg hfn
                          refine (rdown_any x 7 hx32.out (by decide) (by decide) w1).mono ?_
                          rintro e w2 ⟨rfl, hS⟩
                          exact ⟨_, rfl, ⟨hI.1.trans (hS.2.mono hI.1.size), fun h => (hI.2 (by simpa [Each.upd] using h)).imp (fun h => h.later hS.2) (fun h => owns_later h hS.2)⟩, ExtA.below (by decide) hS.2, rfl⟩
                        refine Each.obvs_cons (Each.obv_val (fun w => (ExtA.refl g) _ w) (fun _ w h => ⟨h.1, fun h31 => h.2 (by simpa [Each.upd] using h31)⟩) _ (fun ev vs dn w1 he hk hg hfn hI hf hc hd => ⟨trivial, ?_, rfl⟩)) ?_
                        · have e13 : ev (.tmp 13) = .int .u32 x := (he 13).trans (by kernel_rfl)
                          clear hd hf hc he
                          go_simp
                          try first | exact IntWalk.i64_in _ (by omega) | exact IntWalk.u64_in _ (by omega) | exact IntWalk.u32_in _ (by omega)
                        refine Each.obvs_cons (Each.obv_call (fun ev vs dn w1 he hk hg hfn hI hf hc hd => ⟨trivial, 36, #[.int .u32 x, .int .u64 18], ?_, ?_⟩)) ?_
                        · have h13 : vs 13 = _ := hd 13 (by decide)
                          have h14 : vs 14 = _ := hd 14 (by decide)
                          have e110 : ev (.tmp 110) = vs 14 := (he 110).trans (by kernel_rfl)
                          rw [h14] at e110
                          clear hd hf hc he
                          clear h13 h14
                          go_simp
                          try first | exact IntWalk.i64_in _ (by omega) | exact IntWalk.u64_in _ (by omega) | exact IntWalk.u32_in _ (by omega)
                        · have h13 : vs 13 = _ := hd 13 (by decide)
                          have h14 : vs 14 = _ := hd 14 (by decide)
                          clear hd hf hc he hk hg hfn
                          refine (rdown_any x 18 hx32.out (by decide) (by decide) w1).mono ?_
                          rintro e w2 ⟨rfl, hS⟩
                          exact ⟨_, rfl, ⟨hI.1.trans (hS.2.mono hI.1.size), fun h => (hI.2 (by simpa [Each.upd] using h)).imp (fun h => h.later hS.2) (fun h => owns_later h hS.2)⟩, ExtA.below (by decide) hS.2, rfl⟩
                        refine Each.obvs_cons (Each.obv_val (fun w => (ExtA.refl g) _ w) (fun _ w h => ⟨h.1, fun h31 => h.2 (by simpa [Each.upd] using h31)⟩) _ (fun ev vs dn w1 he hk hg hfn hI hf hc hd => ⟨trivial, ?_, rfl⟩)) ?_
                        · have h13 : vs 13 = _ := hd 13 (by decide)
                          have h15 : vs 15 = _ := hd 15 (by decide)
                          have e109 : ev (.tmp 109) = vs 13 := (he 109).trans (by kernel_rfl)
                          rw [h13] at e109
                          have e111 : ev (.tmp 111) = vs 15 := (he 111).trans (by kernel_rfl)
                          rw [h15] at e111
                          clear hd hf hc he
                          clear h13 h15
                          go_simp
                          exact F16.out
                        refine Each.obvs_cons (Each.obv_val (fun w => (ExtA.refl g) _ w) (fun _ w h => ⟨h.1, fun h31 => h.2 (by simpa [Each.upd] using h31)⟩) _ (fun ev vs dn w1 he hk hg hfn hI hf hc hd => ⟨trivial, ?_, rfl⟩)) ?_
                        · have e13 : ev (.tmp 13) = .int .u32 x := (he 13).trans (by kernel_rfl)
                          clear hd hf hc he
                          go_simp
                          try first | exact IntWalk.i64_in _ (by omega) | exact IntWalk.u64_in _ (by omega) | exact IntWalk.u32_in _ (by omega)
                        refine Each.obvs_cons (Each.obv_val (fun w => (ExtA.refl g) _ w) (fun _ w h => ⟨h.1, fun h31 => h.2 (by simpa [Each.upd] using h31)⟩) _ (fun ev vs dn w1 he hk hg hfn hI hf hc hd => ⟨trivial, ?_, rfl⟩)) ?_
                        · have h17 : vs 17 = _ := hd 17 (by decide)
                          have e113 : ev (.tmp 113) = vs 17 := (he 113).trans (by kernel_rfl)
                          rw [h17] at e113
                          clear hd hf hc he
                          clear h17
                          go_simp
                          try first | exact IntWalk.i64_in _ (by omega) | exact IntWalk.u64_in _ (by omega) | exact IntWalk.u32_in _ (by omega)
                        refine Each.obvs_cons (Each.obv_val (fun w => (ExtA.refl g) _ w) (fun _ w h => ⟨h.1, fun h31 => h.2 (by simpa [Each.upd] using h31)⟩) _ (fun ev vs dn w1 he hk hg hfn hI hf hc hd => ⟨trivial, ?_, rfl⟩)) ?_
                        · have h16 : vs 16 = _ := hd 16 (by decide)
                          have h18 : vs 18 = _ := hd 18 (by decide)
                          have e112 : ev (.tmp 112) = vs 16 := (he 112).trans (by kernel_rfl)
                          rw [h16] at e112
                          have e114 : ev (.tmp 114) = vs 18 := (he 114).trans (by kernel_rfl)
                          rw [h18] at e114
                          clear hd hf hc he
                          clear h16 h18
                          go_simp
                          exact F19.out
                        refine Each.obvs_cons (Each.obv_val (fun w => (ExtA.refl g) _ w) (fun _ w h => ⟨h.1, fun h31 => h.2 (by simpa [Each.upd] using h31)⟩) _ (fun ev vs dn w1 he hk hg hfn hI hf hc hd => ⟨trivial, ?_, rfl⟩)) ?_
                        · have h11 : vs 11 = _ := hd 11 (by decide)
                          have h19 : vs 19 = _ := hd 19 (by decide)
                          have e107 : ev (.tmp 107) = vs 11 := (he 107).trans (by kernel_rfl)
                          rw [h11] at e107
                          have e115 : ev (.tmp 115) = vs 19 := (he 115).trans (by kernel_rfl)
                          rw [h19] at e115
                          clear hd hf hc he
                          clear h11 h19
                          go_simp
                          exact F20.out
                        refine Each.obvs_cons (Each.obv_val (fun w => (ExtA.refl g) _ w) (fun _ w h => ⟨h.1, fun h31 => h.2 (by simpa [Each.upd] using h31)⟩) _ (fun ev vs dn w1 he hk hg hfn hI hf hc hd => ⟨trivial, ?_, rfl⟩)) ?_
                        · have e14 : ev (.tmp 14) = .int .u32 y := (he 14).trans (by kernel_rfl)
                          clear hd hf hc he
                          go_simp
                          try first | exact IntWalk.i64_in _ (by omega) | exact IntWalk.u64_in _ (by omega) | exact IntWalk.u32_in _ (by omega)
                        refine Each.obvs_cons (Each.obv_call (fun ev vs dn w1 he hk hg hfn hI hf hc hd => ⟨trivial, 36, #[.int .u32 y, .int .u64 17], ?_, ?_⟩)) ?_
                        · have h15 : vs 15 = _ := hd 15 (by decide)
                          have h21 : vs 21 = _ := hd 21 (by decide)
                          have e117 : ev (.tmp 117) = vs 21 := (he 117).trans (by kernel_rfl)
                          rw [h21] at e117
                          clear hd hf hc he
                          clear h15 h21
                          go_simp
                          try first | exact IntWalk.i64_in _ (by omega) | exact IntWalk.u64_in _ (by omega) | exact IntWalk.u32_in _ (by omega)
                        · have h15 : vs 15 = _ := hd 15 (by decide)
                          have h21 : vs 21 = _ := hd 21 (by decide)
                          clear hd hf hc he hk hg hfn
                          refine (rdown_any y 17 hy32.out (by decide) (by decide) w1).mono ?_
                          rintro e w2 ⟨rfl, hS⟩
                          exact ⟨_, rfl, ⟨hI.1.trans (hS.2.mono hI.1.size), fun h => (hI.2 (by simpa [Each.upd] using h)).imp (fun h => h.later hS.2) (fun h => owns_later h hS.2)⟩, ExtA.below (by decide) hS.2, rfl⟩
                        refine Each.obvs_cons (Each.obv_val (fun w => (ExtA.refl g) _ w) (fun _ w h => ⟨h.1, fun h31 => h.2 (by simpa [Each.upd] using h31)⟩) _ (fun ev vs dn w1 he hk hg hfn hI hf hc hd => ⟨trivial, ?_, rfl⟩)) ?_
                        · have e14 : ev (.tmp 14) = .int .u32 y := (he 14).trans (by kernel_rfl)
                          clear hd hf hc he
                          go_simp
                          try first | exact IntWalk.i64_in _ (by omega) | exact IntWalk.u64_in _ (by omega) | exact IntWalk.u32_in _ (by omega)
                        refine Each.obvs_cons (Each.obv_call (fun ev vs dn w1 he hk hg hfn hI hf hc hd => ⟨trivial, 36, #[.int .u32 y, .int .u64 19], ?_, ?_⟩)) ?_
                        · have h22 : vs 22 = _ := hd 22 (by decide)
                          have h23 : vs 23 = _ := hd 23 (by decide)
                          have e119 : ev (.tmp 119) = vs 23 := (he 119).trans (by kernel_rfl)
                          rw [h23] at e119
                          clear hd hf hc he
                          clear h22 h23
                          go_simp
                          try first | exact IntWalk.i64_in _ (by omega) | exact IntWalk.u64_in _ (by omega) | exact IntWalk.u32_in _ (by omega)
                        · have h22 : vs 22 = _ := hd 22 (by decide)
                          have h23 : vs 23 = _ := hd 23 (by decide)
                          clear hd hf hc he hk hg hfn
                          refine (rdown_any y 19 hy32.out (by decide) (by decide) w1).mono ?_
                          rintro e w2 ⟨rfl, hS⟩
                          exact ⟨_, rfl, ⟨hI.1.trans (hS.2.mono hI.1.size), fun h => (hI.2 (by simpa [Each.upd] using h)).imp (fun h => h.later hS.2) (fun h => owns_later h hS.2)⟩, ExtA.below (by decide) hS.2, rfl⟩
                        refine Each.obvs_cons (Each.obv_val (fun w => (ExtA.refl g) _ w) (fun _ w h => ⟨h.1, fun h31 => h.2 (by simpa [Each.upd] using h31)⟩) _ (fun ev vs dn w1 he hk hg hfn hI hf hc hd => ⟨trivial, ?_, rfl⟩)) ?_
                        · have h22 : vs 22 = _ := hd 22 (by decide)
                          have h24 : vs 24 = _ := hd 24 (by decide)
                          have e118 : ev (.tmp 118) = vs 22 := (he 118).trans (by kernel_rfl)
                          rw [h22] at e118
                          have e120 : ev (.tmp 120) = vs 24 := (he 120).trans (by kernel_rfl)
                          rw [h24] at e120
                          clear hd hf hc he
                          clear h22 h24
                          go_simp
                          exact F25.out
                        refine Each.obvs_cons (Each.obv_val (fun w => (ExtA.refl g) _ w) (fun _ w h => ⟨h.1, fun h31 => h.2 (by simpa [Each.upd] using h31)⟩) _ (fun ev vs dn w1 he hk hg hfn hI hf hc hd => ⟨trivial, ?_, rfl⟩)) ?_
                        · have e14 : ev (.tmp 14) = .int .u32 y := (he 14).trans (by kernel_rfl)
                          clear hd hf hc he
                          go_simp
                          try first | exact IntWalk.i64_in _ (by omega) | exact IntWalk.u64_in _ (by omega) | exact IntWalk.u32_in _ (by omega)
                        refine Each.obvs_cons (Each.obv_val (fun w => (ExtA.refl g) _ w) (fun _ w h => ⟨h.1, fun h31 => h.2 (by simpa [Each.upd] using h31)⟩) _ (fun ev vs dn w1 he hk hg hfn hI hf hc hd => ⟨trivial, ?_, rfl⟩)) ?_
                        · have h26 : vs 26 = _ := hd 26 (by decide)
                          have e122 : ev (.tmp 122) = vs 26 := (he 122).trans (by kernel_rfl)
                          rw [h26] at e122
                          clear hd hf hc he
                          clear h26
                          go_simp
                          try first | exact IntWalk.i64_in _ (by omega) | exact IntWalk.u64_in _ (by omega) | exact IntWalk.u32_in _ (by omega)
                        refine Each.obvs_cons (Each.obv_val (fun w => (ExtA.refl g) _ w) (fun _ w h => ⟨h.1, fun h31 => h.2 (by simpa [Each.upd] using h31)⟩) _ (fun ev vs dn w1 he hk hg hfn hI hf hc hd => ⟨trivial, ?_, rfl⟩)) ?_
                        · have h25 : vs 25 = _ := hd 25 (by decide)
                          have h27 : vs 27 = _ := hd 27 (by decide)
                          have e121 : ev (.tmp 121) = vs 25 := (he 121).trans (by kernel_rfl)
                          rw [h25] at e121
                          have e123 : ev (.tmp 123) = vs 27 := (he 123).trans (by kernel_rfl)
                          rw [h27] at e123
                          clear hd hf hc he
                          clear h25 h27
                          go_simp
                          exact F28.out
                        refine Each.obvs_cons (Each.obv_val (fun w => (ExtA.refl g) _ w) (fun _ w h => ⟨h.1, fun h31 => h.2 (by simpa [Each.upd] using h31)⟩) _ (fun ev vs dn w1 he hk hg hfn hI hf hc hd => ⟨trivial, ?_, rfl⟩)) ?_
                        · have h20 : vs 20 = _ := hd 20 (by decide)
                          have h28 : vs 28 = _ := hd 28 (by decide)
                          have e116 : ev (.tmp 116) = vs 20 := (he 116).trans (by kernel_rfl)
                          rw [h20] at e116
                          have e124 : ev (.tmp 124) = vs 28 := (he 124).trans (by kernel_rfl)
                          rw [h28] at e124
                          clear hd hf hc he
                          clear h20 h28
                          go_simp
                          exact F29.out
                        refine Each.obvs_cons (Each.obv_new (fun ev vs dn w1 he hk hg hfn hI hf hc hd => ⟨trivial, ?_⟩)) ?_
                        · have h29 : vs 29 = _ := hd 29 (by decide)
                          have e125 : ev (.tmp 125) = vs 29 := (he 125).trans (by kernel_rfl)
                          rw [h29] at e125
                          clear hd he
                          clear h29
                          have d31 : dn 31 = false := by
                            cases d31 : dn 31 with
                            | false => rfl
                            | true => exact absurd (hc 31 _ rfl (d31) 30 (by decide)) (by rw [hf]; decide)
                          have hgl : g < w1.heap.size := (hI.2 d31).1.1
                          have hb := (Below.refl w1.heap.size w1).alloc (Nat.le_refl _) (.cells (ints .u32 [s3]) 42)
                          refine ⟨.slice (some ⟨w1.heap.size, 0, none⟩) 1 1, w1.alloc (.cells (ints .u32 [s3]) 42), ?_, ⟨hI.1.trans (hb.mono hI.1.size), fun h => (hI.2 (by simpa [Each.upd] using h)).imp (fun h => h.later hb) (fun h => owns_later h hb)⟩, ExtA.below (by decide) hb, w1.heap.size, rfl, by omega, nums_block (heap_alloc_new _ _)⟩
                          clear hI hf hc hb hgl
                          go_simp
                          rfl
                        refine Each.obvs_cons (Each.obv_new (fun ev vs dn w1 he hk hg hfn hI hf hc hd => ⟨trivial, ?_⟩)) ?_
                        · have h0 : vs 0 = _ := hd 0 (by decide)
                          have h24 : vs 24 = _ := hd 24 (by decide)
                          have h30 := hd 30 (by decide)
                          have e96 : ev (.tmp 96) = vs 0 := (he 96).trans (by kernel_rfl)
                          rw [h0] at e96
                          have e126 : ev (.tmp 126) = vs 30 := (he 126).trans (by kernel_rfl)
                          clear hd he
                          clear h0 h24
                          obtain ⟨b, hv, hbg, hN⟩ := h30
                          have hown := (hI.2 hf).2
                          have hz := hI.1.size
                          rw [hv] at e126
                          obtain ⟨v2, w2, hr, ho2, hg2⟩ := ex_append_nums (d := some 127) (ty := 67) wo.heap.size (.slice (some ⟨g, 0, none⟩) n c) (seconds bs k) (by exact e96) hown b 1 1 [s3] rfl (by exact e126) hN (by rw [HLEN.out]; omega) hz
                          exact ⟨v2, w2, hr, ⟨below_grown hI.1 hown hg2 hz, fun h => by simp [Each.upd] at h⟩, ExtA.grow hg2, ho2⟩
                        exact Each.obvs_nil
                      case hend4 =>
                        intro vs dn w1 hI hR
                        have h31 := hR 31 (by decide)
                        change w1.ownsRow wo.heap.size 42 1 (vs 31) (seconds bs k ++ [s3]).length (ucells (seconds bs k ++ [s3])) at h31
                        have hB9 := hI.1
                        clear hR hI
                        simp only [Each.puts, Act.put, List.setIfInBounds_toArray, List.set_cons_zero, List.set_cons_succ, Nat.zero_add, Nat.reduceAdd]
                        go_wp2
                        refine ⟨⟨k + 1, n + 1, by have := HN16.out; omega, by omega, by go_num, ?_, hB9⟩, by simp [intOf]; omega⟩
                        rw [HHS.out, ← HS3.out]
                        exact owns_as h31 (by rw [List.length_append, HLEN.out]; rfl)
                    · obtain rfl : k = 48 := by omega
                      obtain rfl : n = 64 := by omega
                      obtain ⟨gw, cw, rfl, hbw, hnw, hcw, hNw⟩ := ownsRow_nums hown (by decide)
                      rw [seconds_all] at hNw
                      have hI2 := HI.out.later hB
                      have HI2 := Lib.hid hI2
                      have HNW := Lib.hid hNw
                      have hsl := state_length p j
                      have hslt := state_lt p j
                      have hNs := nums_block hI2.2.2.2
                      have hNk := nums_block hI2.2.2.1
                      have HNK := Lib.hid hNk
                      obtain ⟨s, hs⟩ : ∃ s, s = state p j := ⟨_, rfl⟩
                      rw [← hs] at hsl hslt hNs hI2
                      have HS := Lib.hid hs
                      have HSL := Lib.hid hsl
                      have HSLT := Lib.hid hslt
                      have HNS := Lib.hid hNs
                      have HB2 := Lib.hid hB
                      clear hs hsl hslt hNs hNk hI2 hB hown hNw hk hn HI hk48
                      rw [show ((64 : Nat) : Int) = 64 from rfl]
                      obtain ⟨ww, rfl⟩ : ∃ ww : World, ww = wr := ⟨_, rfl⟩
                      go_wp2_with (at_builtin; refine append_nums rfl _ _ rfl ww.heap.size _ [] (by exact rfl) ⟨rfl, Or.inl ⟨rfl, rfl⟩⟩ S 8 8 s HSL.out rfl HNS.out (by decide) (Nat.le_refl _) ?_; intro v4 w4 hown4 hgrow4; obtain ⟨g0, c0, rfl, hb0, hn0, hc0, hN0⟩ := ownsRow_nums hown4 (by rw [List.nil_append, HSL.out]; decide); rw [List.nil_append, HSL.out])
                      have hB4 : Below ww.heap.size ww w4 := below_grown (v := .slice none 0 0) (n := 0) (xs := []) (e := 42) (size := 1) (Below.refl _ _) ⟨rfl, Or.inl ⟨rfl, rfl⟩⟩ hgrow4 (Nat.le_refl _)
                      obtain ⟨ws, hws⟩ : ∃ ws, ws = row bs := ⟨_, rfl⟩
                      have HWS := Lib.hid hws
                      have HWL : Hid (ws.length = 64) := by show _ = _; rw [hws]; exact row_length bs
                      have HNW4 : Hid (Nums w4 gw ws) := by show Nums _ _ _; rw [hws]; exact HNW.out.later hB4
                      have HNK4 : Hid (Nums w4 K ks) := HNK.out.later hB4
                      have HNS4 : Hid (Nums w4 S s) := HNS.out.later hB4
                      have HI4 := Lib.hid (HI2.out.later hB4)
                      have HBW : Hid (Below wo.heap.size wo w4) := HB2.out.trans (hB4.mono HB2.out.size)
                      rw [List.nil_append] at hN0
                      have HB0 := Lib.hid hb0
                      have HZ4 := Lib.hid hB4.size
                      have HSW := Lib.hid (HNS.out.1)
                      clear hws HNW HNK HNS HB2 HI2 hB4 hgrow4 hown4 hb0 hn0 hc0 hbw hnw hcw
                      go_loopw [15, 16, 17, 18, 19, 20] (fun v iv _ _ _ _ wr => ∃ i : Nat, i ≤ 64 ∧ iv = .int .i64 i ∧ (∃ g c, v = .slice (some ⟨g, 0, none⟩) 8 c ∧ ww.heap.size ≤ g ∧ Nums wr g (turns s ws i)) ∧ Below w4.heap.size w4 wr) (fun _ iv _ _ _ _ _ => 64 - (intOf iv).toNat)
                      case atStart => exact ⟨0, by omega, rfl, ⟨_, _, rfl, HB0.out, hN0⟩, Below.refl _ _⟩
                      case round =>
                        clear hN0
                        obtain ⟨i, hi, rfl, ⟨g, c, rfl, hgw, hNV⟩, hB⟩ := hrel
                        have HGW := Lib.hid hgw
                        clear hgw
                        by_cases hi64 : i < 64
                        · have k1 : (i : Int) < 64 := by omega
                          have k0 : (0 : Int) ≤ (i : Int) := by omega
                          obtain ⟨V, hV⟩ : ∃ V, V = turns s ws i := ⟨_, rfl⟩
                          have hVL : V.length = 8 := by rw [hV]; exact turns_length s ws HSL.out i
                          have hlt : ∀ q, V.getD q 0 < 4294967296 := by rw [hV]; exact turns_lt s ws HSLT.out i
                          have hT : turns s ws (i + 1) = turn V (ks.getD i 0) (ws.getD i 0) := by rw [hV]; rfl
                          rw [← hV] at hNV
                          have HVL := Lib.hid hVL
                          have HNV := Lib.hid hNV
                          have HWI := Lib.hid (show i < ws.length by rw [HWL.out]; omega)
                          have HKI := Lib.hid (show i < ks.length from hi64)
                          have hTU : turn V (ks.getD i 0) (ws.getD i 0) = [((V.getD 7 0 + bg1 (V.getD 4 0) + ch (V.getD 4 0) (V.getD 5 0) (V.getD 6 0) + ks.getD i 0 + ws.getD i 0) % 4294967296 + (bg0 (V.getD 0 0) + maj (V.getD 0 0) (V.getD 1 0) (V.getD 2 0)) % 4294967296) % 4294967296, V.getD 0 0, V.getD 1 0, V.getD 2 0, (V.getD 3 0 + (V.getD 7 0 + bg1 (V.getD 4 0) + ch (V.getD 4 0) (V.getD 5 0) (V.getD 6 0) + ks.getD i 0 + ws.getD i 0) % 4294967296) % 4294967296, V.getD 4 0, V.getD 5 0, V.getD 6 0] := rfl
                          rw [hTU] at hT
                          have c4 := hNV.cell 4 (by rw [hVL]; decide)
                          have c0 := hNV.cell 0 (by rw [hVL]; decide)
                          have h0 := hlt 0
                          have h1 := hlt 1
                          have h2 := hlt 2
                          have h4 := hlt 4
                          have h5 := hlt 5
                          have h6 := hlt 6
                          obtain ⟨e0, he0⟩ : ∃ q, q = V.getD 0 0 := ⟨_, rfl⟩
                          obtain ⟨e1, he1⟩ : ∃ q, q = V.getD 1 0 := ⟨_, rfl⟩
                          obtain ⟨e2, he2⟩ : ∃ q, q = V.getD 2 0 := ⟨_, rfl⟩
                          obtain ⟨e3, he3⟩ : ∃ q, q = V.getD 3 0 := ⟨_, rfl⟩
                          obtain ⟨e4, he4⟩ : ∃ q, q = V.getD 4 0 := ⟨_, rfl⟩
                          obtain ⟨e5, he5⟩ : ∃ q, q = V.getD 5 0 := ⟨_, rfl⟩
                          obtain ⟨e6, he6⟩ : ∃ q, q = V.getD 6 0 := ⟨_, rfl⟩
                          obtain ⟨e7, he7⟩ : ∃ q, q = V.getD 7 0 := ⟨_, rfl⟩
                          obtain ⟨kk, hkk⟩ : ∃ q, q = ks.getD i 0 := ⟨_, rfl⟩
                          obtain ⟨wk, hwk⟩ : ∃ q, q = ws.getD i 0 := ⟨_, rfl⟩
                          rw [← he0, ← he1, ← he2, ← he3, ← he4, ← he5, ← he6, ← he7, ← hkk, ← hwk] at hT
                          rw [← he4] at c4 h4
                          rw [← he0] at c0 h0
                          rw [← he1] at h1
                          rw [← he2] at h2
                          rw [← he5] at h5
                          rw [← he6] at h6
                          have HE1 := Lib.hid he1.symm
                          have HE2 := Lib.hid he2.symm
                          have HE3 := Lib.hid he3.symm
                          have HE5 := Lib.hid he5.symm
                          have HE6 := Lib.hid he6.symm
                          have HE7 := Lib.hid he7.symm
                          have HKK := Lib.hid hkk.symm
                          have HWK := Lib.hid hwk.symm
                          have HT := Lib.hid hT
                          have H0 := Lib.hid h0
                          have H1 := Lib.hid h1
                          have H2 := Lib.hid h2
                          have H4 := Lib.hid h4
                          have H5 := Lib.hid h5
                          have H6 := Lib.hid h6
                          have HBR := Lib.hid hB
                          clear he0 he1 he2 he3 he4 he5 he6 he7 hkk hwk hT hTU hV hVL hlt hNV hB h0 h1 h2 h4 h5 h6
                          go_upto_region 37 with fail
                          clear c0 c4
                          obtain ⟨p1, hp1⟩ : ∃ q, q = rotr e4 6 ^^^ rotr e4 11 := ⟨_, rfl⟩
                          obtain ⟨p2, hp2⟩ : ∃ q, q = p1 ^^^ rotr e4 25 := ⟨_, rfl⟩
                          obtain ⟨q1, hq1⟩ : ∃ q, q = (e7 + p2) % 4294967296 := ⟨_, rfl⟩
                          obtain ⟨r1, hr1⟩ : ∃ q, q = e4 &&& e5 := ⟨_, rfl⟩
                          obtain ⟨n4, hn4⟩ : ∃ q, q = 4294967295 - e4 := ⟨_, rfl⟩
                          obtain ⟨r2, hr2⟩ : ∃ q, q = n4 &&& e6 := ⟨_, rfl⟩
                          obtain ⟨r3, hr3⟩ : ∃ q, q = r1 ^^^ r2 := ⟨_, rfl⟩
                          obtain ⟨q2, hq2⟩ : ∃ q, q = (q1 + r3) % 4294967296 := ⟨_, rfl⟩
                          obtain ⟨q3, hq3⟩ : ∃ q, q = (q2 + kk) % 4294967296 := ⟨_, rfl⟩
                          obtain ⟨T, hT⟩ : ∃ q, q = (q3 + wk) % 4294967296 := ⟨_, rfl⟩
                          have eb : p2 = bg1 e4 := by rw [hp2, hp1]; rfl
                          have ec : r3 = ch e4 e5 e6 := by rw [hr3, hr1, hr2, hn4]; rfl
                          have HTT : Hid (T = (e7 + bg1 e4 + ch e4 e5 e6 + kk + wk) % 4294967296) := by show _ = _; rw [← eb, ← ec]; omega
                          have lr := fun q => rotr_lt e4 q H4.out
                          have F7 := xr32 hp1 (lr _) (lr _)
                          have F10 := xr32 hp2 (by rw [hp1]; exact xor_lt (lr _) (lr _)) (lr _)
                          have F11 := ad32 hq1
                          have F16 := an32 hr1 H4.out H5.out
                          have F18 := su32 hn4 H4.out
                          have F22 := an32 hr2 (by omega) H6.out
                          have F23 := xr32 hr3 (by rw [hr1]; exact land_lt H4.out) (by rw [hr2]; exact land_lt (by omega))
                          have F24 := ad32 hq2
                          have F29 := ad32 hq3
                          have F34 := ad32 hT
                          clear hp1 hp2 hq1 hr1 hn4 hr2 hr3 hq2 hq3 hT eb ec lr
                          refine Each.region_all (by kernel_rfl) (by kernel_rfl) (by kernel_rfl) (fun _ w1 => Below wr.heap.size wr w1) (fun _ w w' => Below w.heap.size w w') (Each.nth [fun v _ => v = .slice (some ⟨g, 0, none⟩) 8 c, fun v _ => v = .pointer (some ⟨g, 7, none⟩), fun v _ => v = .int .u32 e7, fun v _ => v = .int .u32 e4, fun v _ => v = .int .u32 (rotr e4 6 : Nat), fun v _ => v = .int .u32 e4, fun v _ => v = .int .u32 (rotr e4 11 : Nat), fun v _ => v = .int .u32 p1, fun v _ => v = .int .u32 e4, fun v _ => v = .int .u32 (rotr e4 25 : Nat), fun v _ => v = .int .u32 p2, fun v _ => v = .int .u32 q1, fun v _ => v = .int .u32 e4, fun v _ => v = .slice (some ⟨g, 0, none⟩) 8 c, fun v _ => v = .pointer (some ⟨g, 5, none⟩), fun v _ => v = .int .u32 e5, fun v _ => v = .int .u32 r1, fun v _ => v = .int .u32 e4, fun v _ => v = .int .u32 n4, fun v _ => v = .slice (some ⟨g, 0, none⟩) 8 c, fun v _ => v = .pointer (some ⟨g, 6, none⟩), fun v _ => v = .int .u32 e6, fun v _ => v = .int .u32 r2, fun v _ => v = .int .u32 r3, fun v _ => v = .int .u32 q2, fun v _ => v = .slice (some ⟨K, 0, none⟩) 64 64, fun v _ => v = .int .i64 i, fun v _ => v = .pointer (some ⟨K, i, none⟩), fun v _ => v = .int .u32 kk, fun v _ => v = .int .u32 q3, fun v _ => v = .slice (some ⟨gw, 0, none⟩) 64 cw, fun v _ => v = .int .i64 i, fun v _ => v = .pointer (some ⟨gw, i, none⟩), fun v _ => v = .int .u32 wk, fun v _ => v = .int .u32 T, fun v _ => v = .int .u32 T]) (fun _ w => Below.refl _ _) (fun _ _ _ _ h => h) ?stab3 (Below.refl _ _ |>.drew) ?hob3 ?hend3
                          case stab3 =>
                            refine Each.nth_stab _ ?_
                            refine Each.stab_cons (fun _ _ _ _ _ _ _ e => e) ?_
                            refine Each.stab_cons (fun _ _ _ _ _ _ _ e => e) ?_
                            refine Each.stab_cons (fun _ _ _ _ _ _ _ e => e) ?_
                            refine Each.stab_cons (fun _ _ _ _ _ _ _ e => e) ?_
                            refine Each.stab_cons (fun _ _ _ _ _ _ _ e => e) ?_
                            refine Each.stab_cons (fun _ _ _ _ _ _ _ e => e) ?_
                            refine Each.stab_cons (fun _ _ _ _ _ _ _ e => e) ?_
                            refine Each.stab_cons (fun _ _ _ _ _ _ _ e => e) ?_
                            refine Each.stab_cons (fun _ _ _ _ _ _ _ e => e) ?_
                            refine Each.stab_cons (fun _ _ _ _ _ _ _ e => e) ?_
                            refine Each.stab_cons (fun _ _ _ _ _ _ _ e => e) ?_
                            refine Each.stab_cons (fun _ _ _ _ _ _ _ e => e) ?_
                            refine Each.stab_cons (fun _ _ _ _ _ _ _ e => e) ?_
                            refine Each.stab_cons (fun _ _ _ _ _ _ _ e => e) ?_
                            refine Each.stab_cons (fun _ _ _ _ _ _ _ e => e) ?_
                            refine Each.stab_cons (fun _ _ _ _ _ _ _ e => e) ?_
                            refine Each.stab_cons (fun _ _ _ _ _ _ _ e => e) ?_
                            refine Each.stab_cons (fun _ _ _ _ _ _ _ e => e) ?_
                            refine Each.stab_cons (fun _ _ _ _ _ _ _ e => e) ?_
                            refine Each.stab_cons (fun _ _ _ _ _ _ _ e => e) ?_
                            refine Each.stab_cons (fun _ _ _ _ _ _ _ e => e) ?_
                            refine Each.stab_cons (fun _ _ _ _ _ _ _ e => e) ?_
                            refine Each.stab_cons (fun _ _ _ _ _ _ _ e => e) ?_
                            refine Each.stab_cons (fun _ _ _ _ _ _ _ e => e) ?_
                            refine Each.stab_cons (fun _ _ _ _ _ _ _ e => e) ?_
                            refine Each.stab_cons (fun _ _ _ _ _ _ _ e => e) ?_
                            refine Each.stab_cons (fun _ _ _ _ _ _ _ e => e) ?_
                            refine Each.stab_cons (fun _ _ _ _ _ _ _ e => e) ?_
                            refine Each.stab_cons (fun _ _ _ _ _ _ _ e => e) ?_
                            refine Each.stab_cons (fun _ _ _ _ _ _ _ e => e) ?_
                            refine Each.stab_cons (fun _ _ _ _ _ _ _ e => e) ?_
                            refine Each.stab_cons (fun _ _ _ _ _ _ _ e => e) ?_
                            refine Each.stab_cons (fun _ _ _ _ _ _ _ e => e) ?_
                            refine Each.stab_cons (fun _ _ _ _ _ _ _ e => e) ?_
                            refine Each.stab_cons (fun _ _ _ _ _ _ _ e => e) ?_
                            refine Each.stab_cons (fun _ _ _ _ _ _ _ e => e) ?_
                            exact Each.stab_nil
                          case hob3 =>
                            refine Each.obvs_cons (Each.obv_val (fun w => Below.refl _ _) (fun _ _ h => h) _ (fun ev vs dn w1 he hk hg hfn hI hf hc hd => ⟨trivial, ?_, rfl⟩)) ?_
                            · have e15 : ev (.tmp 15) = .slice (some ⟨g, 0, none⟩) 8 c := (he 15).trans (by kernel_rfl)
                              clear hd hf hc he
                              go_simp
                              try first | exact IntWalk.i64_in _ (by omega) | exact IntWalk.u64_in _ (by omega) | exact IntWalk.u32_in _ (by omega)
                            refine Each.obvs_cons (Each.obv_val (fun w => Below.refl _ _) (fun _ _ h => h) _ (fun ev vs dn w1 he hk hg hfn hI hf hc hd => ⟨trivial, ?_, rfl⟩)) ?_
                            · have h0 : vs 0 = _ := hd 0 (by decide)
                              have e141 : ev (.tmp 141) = vs 0 := (he 141).trans (by kernel_rfl)
                              rw [h0] at e141
                              clear hd hf hc he
                              clear h0
                              go_simp
                              try first | exact IntWalk.i64_in _ (by omega) | exact IntWalk.u64_in _ (by omega) | exact IntWalk.u32_in _ (by omega)
                            refine Each.obvs_cons (Each.obv_val (fun w => Below.refl _ _) (fun _ _ h => h) _ (fun ev vs dn w1 he hk hg hfn hI hf hc hd => ⟨trivial, ?_, rfl⟩)) ?_
                            · have h1 : vs 1 = _ := hd 1 (by decide)
                              have e142 : ev (.tmp 142) = vs 1 := (he 142).trans (by kernel_rfl)
                              rw [h1] at e142
                              clear hd he
                              clear h1
                              have hcell := (HNV.out.later hI).cell 7 (by rw [HVL.out]; decide)
                              rw [HE7.out] at hcell
                              clear hI hf hc
                              go_simp
                            refine Each.obvs_cons (Each.obv_val (fun w => Below.refl _ _) (fun _ _ h => h) _ (fun ev vs dn w1 he hk hg hfn hI hf hc hd => ⟨trivial, ?_, rfl⟩)) ?_
                            · have e17 : ev (.tmp 17) = .int .u32 e4 := (he 17).trans (by kernel_rfl)
                              clear hd hf hc he
                              go_simp
                              try first | exact IntWalk.i64_in _ (by omega) | exact IntWalk.u64_in _ (by omega) | exact IntWalk.u32_in _ (by omega)
                            refine Each.obvs_cons (Each.obv_call (fun ev vs dn w1 he hk hg hfn hI hf hc hd => ⟨trivial, 36, #[.int .u32 e4, .int .u64 6], ?_, ?_⟩)) ?_
                            · have h3 : vs 3 = _ := hd 3 (by decide)
                              have e144 : ev (.tmp 144) = vs 3 := (he 144).trans (by kernel_rfl)
                              rw [h3] at e144
                              clear hd hf hc he
                              clear h3
                              go_simp
                              try first | exact IntWalk.i64_in _ (by omega) | exact IntWalk.u64_in _ (by omega) | exact IntWalk.u32_in _ (by omega)
                            · have h3 : vs 3 = _ := hd 3 (by decide)
                              clear hd hf hc he hk hg hfn
                              refine (rdown_any e4 6 H4.out (by decide) (by decide) w1).mono ?_
                              rintro e w2 ⟨rfl, hS⟩
                              exact ⟨_, rfl, hI.trans (hS.2.mono hI.size), hS.2, rfl⟩
                            refine Each.obvs_cons (Each.obv_val (fun w => Below.refl _ _) (fun _ _ h => h) _ (fun ev vs dn w1 he hk hg hfn hI hf hc hd => ⟨trivial, ?_, rfl⟩)) ?_
                            · have e17 : ev (.tmp 17) = .int .u32 e4 := (he 17).trans (by kernel_rfl)
                              clear hd hf hc he
                              go_simp
                              try first | exact IntWalk.i64_in _ (by omega) | exact IntWalk.u64_in _ (by omega) | exact IntWalk.u32_in _ (by omega)
                            refine Each.obvs_cons (Each.obv_call (fun ev vs dn w1 he hk hg hfn hI hf hc hd => ⟨trivial, 36, #[.int .u32 e4, .int .u64 11], ?_, ?_⟩)) ?_
                            · have h4 : vs 4 = _ := hd 4 (by decide)
                              have h5 : vs 5 = _ := hd 5 (by decide)
                              have e146 : ev (.tmp 146) = vs 5 := (he 146).trans (by kernel_rfl)
                              rw [h5] at e146
                              clear hd hf hc he
                              clear h4 h5
                              go_simp
                              try first | exact IntWalk.i64_in _ (by omega) | exact IntWalk.u64_in _ (by omega) | exact IntWalk.u32_in _ (by omega)
                            · have h4 : vs 4 = _ := hd 4 (by decide)
                              have h5 : vs 5 = _ := hd 5 (by decide)
                              clear hd hf hc he hk hg hfn
                              refine (rdown_any e4 11 H4.out (by decide) (by decide) w1).mono ?_
                              rintro e w2 ⟨rfl, hS⟩
                              exact ⟨_, rfl, hI.trans (hS.2.mono hI.size), hS.2, rfl⟩
                            refine Each.obvs_cons (Each.obv_val (fun w => Below.refl _ _) (fun _ _ h => h) _ (fun ev vs dn w1 he hk hg hfn hI hf hc hd => ⟨trivial, ?_, rfl⟩)) ?_
                            · have h4 : vs 4 = _ := hd 4 (by decide)
                              have h6 : vs 6 = _ := hd 6 (by decide)
                              have e145 : ev (.tmp 145) = vs 4 := (he 145).trans (by kernel_rfl)
                              rw [h4] at e145
                              have e147 : ev (.tmp 147) = vs 6 := (he 147).trans (by kernel_rfl)
                              rw [h6] at e147
                              clear hd hf hc he
                              clear h4 h6
                              go_simp
                              exact F7.out
                            refine Each.obvs_cons (Each.obv_val (fun w => Below.refl _ _) (fun _ _ h => h) _ (fun ev vs dn w1 he hk hg hfn hI hf hc hd => ⟨trivial, ?_, rfl⟩)) ?_
                            · have e17 : ev (.tmp 17) = .int .u32 e4 := (he 17).trans (by kernel_rfl)
                              clear hd hf hc he
                              go_simp
                              try first | exact IntWalk.i64_in _ (by omega) | exact IntWalk.u64_in _ (by omega) | exact IntWalk.u32_in _ (by omega)
                            refine Each.obvs_cons (Each.obv_call (fun ev vs dn w1 he hk hg hfn hI hf hc hd => ⟨trivial, 36, #[.int .u32 e4, .int .u64 25], ?_, ?_⟩)) ?_
                            · have h6 : vs 6 = _ := hd 6 (by decide)
                              have h8 : vs 8 = _ := hd 8 (by decide)
                              have e149 : ev (.tmp 149) = vs 8 := (he 149).trans (by kernel_rfl)
                              rw [h8] at e149
                              clear hd hf hc he
                              clear h6 h8
                              go_simp
                              try first | exact IntWalk.i64_in _ (by omega) | exact IntWalk.u64_in _ (by omega) | exact IntWalk.u32_in _ (by omega)
                            · have h6 : vs 6 = _ := hd 6 (by decide)
                              have h8 : vs 8 = _ := hd 8 (by decide)
                              clear hd hf hc he hk hg hfn
                              refine (rdown_any e4 25 H4.out (by decide) (by decide) w1).mono ?_
                              rintro e w2 ⟨rfl, hS⟩
                              exact ⟨_, rfl, hI.trans (hS.2.mono hI.size), hS.2, rfl⟩
                            refine Each.obvs_cons (Each.obv_val (fun w => Below.refl _ _) (fun _ _ h => h) _ (fun ev vs dn w1 he hk hg hfn hI hf hc hd => ⟨trivial, ?_, rfl⟩)) ?_
                            · have h7 : vs 7 = _ := hd 7 (by decide)
                              have h9 : vs 9 = _ := hd 9 (by decide)
                              have e148 : ev (.tmp 148) = vs 7 := (he 148).trans (by kernel_rfl)
                              rw [h7] at e148
                              have e150 : ev (.tmp 150) = vs 9 := (he 150).trans (by kernel_rfl)
                              rw [h9] at e150
                              clear hd hf hc he
                              clear h7 h9
                              go_simp
                              exact F10.out
                            refine Each.obvs_cons (Each.obv_val (fun w => Below.refl _ _) (fun _ _ h => h) _ (fun ev vs dn w1 he hk hg hfn hI hf hc hd => ⟨trivial, ?_, rfl⟩)) ?_
                            · have h2 : vs 2 = _ := hd 2 (by decide)
                              have h10 : vs 10 = _ := hd 10 (by decide)
                              have e143 : ev (.tmp 143) = vs 2 := (he 143).trans (by kernel_rfl)
                              rw [h2] at e143
                              have e151 : ev (.tmp 151) = vs 10 := (he 151).trans (by kernel_rfl)
                              rw [h10] at e151
                              clear hd hf hc he
                              clear h2 h10
                              go_simp
                              exact F11.out
                            refine Each.obvs_cons (Each.obv_val (fun w => Below.refl _ _) (fun _ _ h => h) _ (fun ev vs dn w1 he hk hg hfn hI hf hc hd => ⟨trivial, ?_, rfl⟩)) ?_
                            · have e17 : ev (.tmp 17) = .int .u32 e4 := (he 17).trans (by kernel_rfl)
                              clear hd hf hc he
                              go_simp
                              try first | exact IntWalk.i64_in _ (by omega) | exact IntWalk.u64_in _ (by omega) | exact IntWalk.u32_in _ (by omega)
                            refine Each.obvs_cons (Each.obv_val (fun w => Below.refl _ _) (fun _ _ h => h) _ (fun ev vs dn w1 he hk hg hfn hI hf hc hd => ⟨trivial, ?_, rfl⟩)) ?_
                            · have e15 : ev (.tmp 15) = .slice (some ⟨g, 0, none⟩) 8 c := (he 15).trans (by kernel_rfl)
                              clear hd hf hc he
                              go_simp
                              try first | exact IntWalk.i64_in _ (by omega) | exact IntWalk.u64_in _ (by omega) | exact IntWalk.u32_in _ (by omega)
                            refine Each.obvs_cons (Each.obv_val (fun w => Below.refl _ _) (fun _ _ h => h) _ (fun ev vs dn w1 he hk hg hfn hI hf hc hd => ⟨trivial, ?_, rfl⟩)) ?_
                            · have h13 : vs 13 = _ := hd 13 (by decide)
                              have e154 : ev (.tmp 154) = vs 13 := (he 154).trans (by kernel_rfl)
                              rw [h13] at e154
                              clear hd hf hc he
                              clear h13
                              go_simp
                              try first | exact IntWalk.i64_in _ (by omega) | exact IntWalk.u64_in _ (by omega) | exact IntWalk.u32_in _ (by omega)
                            refine Each.obvs_cons (Each.obv_val (fun w => Below.refl _ _) (fun _ _ h => h) _ (fun ev vs dn w1 he hk hg hfn hI hf hc hd => ⟨trivial, ?_, rfl⟩)) ?_
                            · have h14 : vs 14 = _ := hd 14 (by decide)
                              have e155 : ev (.tmp 155) = vs 14 := (he 155).trans (by kernel_rfl)
                              rw [h14] at e155
                              clear hd he
                              clear h14
                              have hcell := (HNV.out.later hI).cell 5 (by rw [HVL.out]; decide)
                              rw [HE5.out] at hcell
                              clear hI hf hc
                              go_simp
                            refine Each.obvs_cons (Each.obv_val (fun w => Below.refl _ _) (fun _ _ h => h) _ (fun ev vs dn w1 he hk hg hfn hI hf hc hd => ⟨trivial, ?_, rfl⟩)) ?_
                            · have h12 : vs 12 = _ := hd 12 (by decide)
                              have h15 : vs 15 = _ := hd 15 (by decide)
                              have e153 : ev (.tmp 153) = vs 12 := (he 153).trans (by kernel_rfl)
                              rw [h12] at e153
                              have e156 : ev (.tmp 156) = vs 15 := (he 156).trans (by kernel_rfl)
                              rw [h15] at e156
                              clear hd hf hc he
                              clear h12 h15
                              go_simp
                              exact F16.out
                            refine Each.obvs_cons (Each.obv_val (fun w => Below.refl _ _) (fun _ _ h => h) _ (fun ev vs dn w1 he hk hg hfn hI hf hc hd => ⟨trivial, ?_, rfl⟩)) ?_
                            · have e17 : ev (.tmp 17) = .int .u32 e4 := (he 17).trans (by kernel_rfl)
                              clear hd hf hc he
                              go_simp
                              try first | exact IntWalk.i64_in _ (by omega) | exact IntWalk.u64_in _ (by omega) | exact IntWalk.u32_in _ (by omega)
                            refine Each.obvs_cons (Each.obv_val (fun w => Below.refl _ _) (fun _ _ h => h) _ (fun ev vs dn w1 he hk hg hfn hI hf hc hd => ⟨trivial, ?_, rfl⟩)) ?_
                            · have h17 : vs 17 = _ := hd 17 (by decide)
                              have e158 : ev (.tmp 158) = vs 17 := (he 158).trans (by kernel_rfl)
                              rw [h17] at e158
                              clear hd hf hc he
                              clear h17
                              go_simp
                              exact F18.out
                            refine Each.obvs_cons (Each.obv_val (fun w => Below.refl _ _) (fun _ _ h => h) _ (fun ev vs dn w1 he hk hg hfn hI hf hc hd => ⟨trivial, ?_, rfl⟩)) ?_
                            · have e15 : ev (.tmp 15) = .slice (some ⟨g, 0, none⟩) 8 c := (he 15).trans (by kernel_rfl)
                              clear hd hf hc he
                              go_simp
                              try first | exact IntWalk.i64_in _ (by omega) | exact IntWalk.u64_in _ (by omega) | exact IntWalk.u32_in _ (by omega)
                            refine Each.obvs_cons (Each.obv_val (fun w => Below.refl _ _) (fun _ _ h => h) _ (fun ev vs dn w1 he hk hg hfn hI hf hc hd => ⟨trivial, ?_, rfl⟩)) ?_
                            · have h19 : vs 19 = _ := hd 19 (by decide)
                              have e160 : ev (.tmp 160) = vs 19 := (he 160).trans (by kernel_rfl)
                              rw [h19] at e160
                              clear hd hf hc he
                              clear h19
                              go_simp
                              try first | exact IntWalk.i64_in _ (by omega) | exact IntWalk.u64_in _ (by omega) | exact IntWalk.u32_in _ (by omega)
                            refine Each.obvs_cons (Each.obv_val (fun w => Below.refl _ _) (fun _ _ h => h) _ (fun ev vs dn w1 he hk hg hfn hI hf hc hd => ⟨trivial, ?_, rfl⟩)) ?_
                            · have h20 : vs 20 = _ := hd 20 (by decide)
                              have e161 : ev (.tmp 161) = vs 20 := (he 161).trans (by kernel_rfl)
                              rw [h20] at e161
                              clear hd he
                              clear h20
                              have hcell := (HNV.out.later hI).cell 6 (by rw [HVL.out]; decide)
                              rw [HE6.out] at hcell
                              clear hI hf hc
                              go_simp
                            refine Each.obvs_cons (Each.obv_val (fun w => Below.refl _ _) (fun _ _ h => h) _ (fun ev vs dn w1 he hk hg hfn hI hf hc hd => ⟨trivial, ?_, rfl⟩)) ?_
                            · have h18 : vs 18 = _ := hd 18 (by decide)
                              have h21 : vs 21 = _ := hd 21 (by decide)
                              have e159 : ev (.tmp 159) = vs 18 := (he 159).trans (by kernel_rfl)
                              rw [h18] at e159
                              have e162 : ev (.tmp 162) = vs 21 := (he 162).trans (by kernel_rfl)
                              rw [h21] at e162
                              clear hd hf hc he
                              clear h18 h21
                              go_simp
                              exact F22.out
                            refine Each.obvs_cons (Each.obv_val (fun w => Below.refl _ _) (fun _ _ h => h) _ (fun ev vs dn w1 he hk hg hfn hI hf hc hd => ⟨trivial, ?_, rfl⟩)) ?_
                            · have h16 : vs 16 = _ := hd 16 (by decide)
                              have h22 : vs 22 = _ := hd 22 (by decide)
                              have e157 : ev (.tmp 157) = vs 16 := (he 157).trans (by kernel_rfl)
                              rw [h16] at e157
                              have e163 : ev (.tmp 163) = vs 22 := (he 163).trans (by kernel_rfl)
                              rw [h22] at e163
                              clear hd hf hc he
                              clear h16 h22
                              go_simp
                              exact F23.out
                            refine Each.obvs_cons (Each.obv_val (fun w => Below.refl _ _) (fun _ _ h => h) _ (fun ev vs dn w1 he hk hg hfn hI hf hc hd => ⟨trivial, ?_, rfl⟩)) ?_
                            · have h11 : vs 11 = _ := hd 11 (by decide)
                              have h23 : vs 23 = _ := hd 23 (by decide)
                              have e152 : ev (.tmp 152) = vs 11 := (he 152).trans (by kernel_rfl)
                              rw [h11] at e152
                              have e164 : ev (.tmp 164) = vs 23 := (he 164).trans (by kernel_rfl)
                              rw [h23] at e164
                              clear hd hf hc he
                              clear h11 h23
                              go_simp
                              exact F24.out
                            refine Each.obvs_cons (Each.obv_val (fun w => Below.refl _ _) (fun _ _ h => h) _ (fun ev vs dn w1 he hk hg hfn hI hf hc hd => ⟨trivial, ?_, rfl⟩)) ?_
                            · have e7 : ev (.tmp 7) = .slice (some ⟨K, 0, none⟩) 64 64 := (he 7).trans (by kernel_rfl)
                              clear hd hf hc he
                              go_simp
                              try first | exact IntWalk.i64_in _ (by omega) | exact IntWalk.u64_in _ (by omega) | exact IntWalk.u32_in _ (by omega)
                            refine Each.obvs_cons (Each.obv_val (fun w => Below.refl _ _) (fun _ _ h => h) _ (fun ev vs dn w1 he hk hg hfn hI hf hc hd => ⟨trivial, ?_, rfl⟩)) ?_
                            · have e16 : ev (.tmp 16) = .int .i64 i := (he 16).trans (by kernel_rfl)
                              clear hd hf hc he
                              go_simp
                              try first | exact IntWalk.i64_in _ (by omega) | exact IntWalk.u64_in _ (by omega) | exact IntWalk.u32_in _ (by omega)
                            refine Each.obvs_cons (Each.obv_val (fun w => Below.refl _ _) (fun _ _ h => h) _ (fun ev vs dn w1 he hk hg hfn hI hf hc hd => ⟨trivial, ?_, rfl⟩)) ?_
                            · have h25 : vs 25 = _ := hd 25 (by decide)
                              have h26 : vs 26 = _ := hd 26 (by decide)
                              have e166 : ev (.tmp 166) = vs 25 := (he 166).trans (by kernel_rfl)
                              rw [h25] at e166
                              have e167 : ev (.tmp 167) = vs 26 := (he 167).trans (by kernel_rfl)
                              rw [h26] at e167
                              clear hd hf hc he
                              clear h25 h26
                              go_simp
                              try first | exact IntWalk.i64_in _ (by omega) | exact IntWalk.u64_in _ (by omega) | exact IntWalk.u32_in _ (by omega)
                            refine Each.obvs_cons (Each.obv_val (fun w => Below.refl _ _) (fun _ _ h => h) _ (fun ev vs dn w1 he hk hg hfn hI hf hc hd => ⟨trivial, ?_, rfl⟩)) ?_
                            · have h27 : vs 27 = _ := hd 27 (by decide)
                              have e168 : ev (.tmp 168) = vs 27 := (he 168).trans (by kernel_rfl)
                              rw [h27] at e168
                              clear hd he
                              clear h27
                              have hcell := ((HNK4.out.later HBR.out).later hI).cell i HKI.out
                              rw [HKK.out] at hcell
                              clear hI hf hc
                              go_simp
                            refine Each.obvs_cons (Each.obv_val (fun w => Below.refl _ _) (fun _ _ h => h) _ (fun ev vs dn w1 he hk hg hfn hI hf hc hd => ⟨trivial, ?_, rfl⟩)) ?_
                            · have h24 : vs 24 = _ := hd 24 (by decide)
                              have h28 : vs 28 = _ := hd 28 (by decide)
                              have e165 : ev (.tmp 165) = vs 24 := (he 165).trans (by kernel_rfl)
                              rw [h24] at e165
                              have e169 : ev (.tmp 169) = vs 28 := (he 169).trans (by kernel_rfl)
                              rw [h28] at e169
                              clear hd hf hc he
                              clear h24 h28
                              go_simp
                              exact F29.out
                            refine Each.obvs_cons (Each.obv_val (fun w => Below.refl _ _) (fun _ _ h => h) _ (fun ev vs dn w1 he hk hg hfn hI hf hc hd => ⟨trivial, ?_, rfl⟩)) ?_
                            · have e10 : ev (.tmp 10) = .slice (some ⟨gw, 0, none⟩) 64 cw := (he 10).trans (by kernel_rfl)
                              clear hd hf hc he
                              go_simp
                              try first | exact IntWalk.i64_in _ (by omega) | exact IntWalk.u64_in _ (by omega) | exact IntWalk.u32_in _ (by omega)
                            refine Each.obvs_cons (Each.obv_val (fun w => Below.refl _ _) (fun _ _ h => h) _ (fun ev vs dn w1 he hk hg hfn hI hf hc hd => ⟨trivial, ?_, rfl⟩)) ?_
                            · have e16 : ev (.tmp 16) = .int .i64 i := (he 16).trans (by kernel_rfl)
                              clear hd hf hc he
                              go_simp
                              try first | exact IntWalk.i64_in _ (by omega) | exact IntWalk.u64_in _ (by omega) | exact IntWalk.u32_in _ (by omega)
                            refine Each.obvs_cons (Each.obv_val (fun w => Below.refl _ _) (fun _ _ h => h) _ (fun ev vs dn w1 he hk hg hfn hI hf hc hd => ⟨trivial, ?_, rfl⟩)) ?_
                            · have h30 : vs 30 = _ := hd 30 (by decide)
                              have h31 : vs 31 = _ := hd 31 (by decide)
                              have e171 : ev (.tmp 171) = vs 30 := (he 171).trans (by kernel_rfl)
                              rw [h30] at e171
                              have e172 : ev (.tmp 172) = vs 31 := (he 172).trans (by kernel_rfl)
                              rw [h31] at e172
                              clear hd hf hc he
                              clear h30 h31
                              go_simp
                              try first | exact IntWalk.i64_in _ (by omega) | exact IntWalk.u64_in _ (by omega) | exact IntWalk.u32_in _ (by omega)
                            refine Each.obvs_cons (Each.obv_val (fun w => Below.refl _ _) (fun _ _ h => h) _ (fun ev vs dn w1 he hk hg hfn hI hf hc hd => ⟨trivial, ?_, rfl⟩)) ?_
                            · have h32 : vs 32 = _ := hd 32 (by decide)
                              have e173 : ev (.tmp 173) = vs 32 := (he 173).trans (by kernel_rfl)
                              rw [h32] at e173
                              clear hd he
                              clear h32
                              have hcell := ((HNW4.out.later HBR.out).later hI).cell i HWI.out
                              rw [HWK.out] at hcell
                              clear hI hf hc
                              go_simp
                            refine Each.obvs_cons (Each.obv_val (fun w => Below.refl _ _) (fun _ _ h => h) _ (fun ev vs dn w1 he hk hg hfn hI hf hc hd => ⟨trivial, ?_, rfl⟩)) ?_
                            · have h29 : vs 29 = _ := hd 29 (by decide)
                              have h33 : vs 33 = _ := hd 33 (by decide)
                              have e170 : ev (.tmp 170) = vs 29 := (he 170).trans (by kernel_rfl)
                              rw [h29] at e170
                              have e174 : ev (.tmp 174) = vs 33 := (he 174).trans (by kernel_rfl)
                              rw [h33] at e174
                              clear hd hf hc he
                              clear h29 h33
                              go_simp
                              exact F34.out
                            refine Each.obvs_cons (Each.obv_val (fun w => Below.refl _ _) (fun _ _ h => h) _ (fun ev vs dn w1 he hk hg hfn hI hf hc hd => ⟨trivial, ?_, rfl⟩)) ?_
                            · have h0 : vs 0 = _ := hd 0 (by decide)
                              have h1 : vs 1 = _ := hd 1 (by decide)
                              have h2 : vs 2 = _ := hd 2 (by decide)
                              have h3 : vs 3 = _ := hd 3 (by decide)
                              have h4 : vs 4 = _ := hd 4 (by decide)
                              have h5 : vs 5 = _ := hd 5 (by decide)
                              have h6 : vs 6 = _ := hd 6 (by decide)
                              have h7 : vs 7 = _ := hd 7 (by decide)
                              have h8 : vs 8 = _ := hd 8 (by decide)
                              have h9 : vs 9 = _ := hd 9 (by decide)
                              have h10 : vs 10 = _ := hd 10 (by decide)
                              have h11 : vs 11 = _ := hd 11 (by decide)
                              have h12 : vs 12 = _ := hd 12 (by decide)
                              have h13 : vs 13 = _ := hd 13 (by decide)
                              have h14 : vs 14 = _ := hd 14 (by decide)
                              have h15 : vs 15 = _ := hd 15 (by decide)
                              have h16 : vs 16 = _ := hd 16 (by decide)
                              have h17 : vs 17 = _ := hd 17 (by decide)
                              have h18 : vs 18 = _ := hd 18 (by decide)
                              have h19 : vs 19 = _ := hd 19 (by decide)
                              have h20 : vs 20 = _ := hd 20 (by decide)
                              have h21 : vs 21 = _ := hd 21 (by decide)
                              have h22 : vs 22 = _ := hd 22 (by decide)
                              have h23 : vs 23 = _ := hd 23 (by decide)
                              have h24 : vs 24 = _ := hd 24 (by decide)
                              have h25 : vs 25 = _ := hd 25 (by decide)
                              have h26 : vs 26 = _ := hd 26 (by decide)
                              have h27 : vs 27 = _ := hd 27 (by decide)
                              have h28 : vs 28 = _ := hd 28 (by decide)
                              have h29 : vs 29 = _ := hd 29 (by decide)
                              have h30 : vs 30 = _ := hd 30 (by decide)
                              have h31 : vs 31 = _ := hd 31 (by decide)
                              have h32 : vs 32 = _ := hd 32 (by decide)
                              have h33 : vs 33 = _ := hd 33 (by decide)
                              have h34 : vs 34 = _ := hd 34 (by decide)
                              have e175 : ev (.tmp 175) = vs 34 := (he 175).trans (by kernel_rfl)
                              rw [h34] at e175
                              clear hd hf hc he
                              clear h0 h1 h2 h3 h4 h5 h6 h7 h8 h9 h10 h11 h12 h13 h14 h15 h16 h17 h18 h19 h20 h21 h22 h23 h24 h25 h26 h27 h28 h29 h30 h31 h32 h33 h34
                              go_simp
                              try first | exact IntWalk.i64_in _ (by omega) | exact IntWalk.u64_in _ (by omega) | exact IntWalk.u32_in _ (by omega)
                            exact Each.obvs_nil
                          case hend3 =>
                            intro vs dn w1 hI hR
                            have hv : vs 35 = _ := hR 35 (by decide)
                            have hB1 : Below wr.heap.size wr w1 := hI
                            clear hR hI
                            simp only [Each.puts, Act.put, List.setIfInBounds_toArray, List.set_cons_zero, List.set_cons_succ, Nat.zero_add, Nat.reduceAdd]
                            rw [hv]
                            clear hv
                            go_upto_region 38 with fail
                            obtain ⟨b1, hb1⟩ : ∃ q, q = rotr e0 2 ^^^ rotr e0 13 := ⟨_, rfl⟩
                            obtain ⟨b2, hb2⟩ : ∃ q, q = b1 ^^^ rotr e0 22 := ⟨_, rfl⟩
                            obtain ⟨m1, hm1⟩ : ∃ q, q = e0 &&& e1 := ⟨_, rfl⟩
                            obtain ⟨m2, hm2⟩ : ∃ q, q = e0 &&& e2 := ⟨_, rfl⟩
                            obtain ⟨m3, hm3⟩ : ∃ q, q = m1 ^^^ m2 := ⟨_, rfl⟩
                            obtain ⟨m4, hm4⟩ : ∃ q, q = e1 &&& e2 := ⟨_, rfl⟩
                            obtain ⟨m5, hm5⟩ : ∃ q, q = m3 ^^^ m4 := ⟨_, rfl⟩
                            obtain ⟨Uu, hU⟩ : ∃ q, q = (b2 + m5) % 4294967296 := ⟨_, rfl⟩
                            have eb : b2 = bg0 e0 := by rw [hb2, hb1]; rfl
                            have ec : m5 = maj e0 e1 e2 := by rw [hm5, hm3, hm1, hm2, hm4]; rfl
                            have HUU : Hid (Uu = (bg0 e0 + maj e0 e1 e2) % 4294967296) := by show _ = _; rw [hU, eb, ec]
                            have lr := fun q => rotr_lt e0 q H0.out
                            have lm1 : m1 < 4294967296 := by rw [hm1]; exact land_lt H0.out
                            have lm2 : m2 < 4294967296 := by rw [hm2]; exact land_lt H0.out
                            have lm4 : m4 < 4294967296 := by rw [hm4]; exact land_lt H1.out
                            have G4 := xr32 hb1 (lr _) (lr _)
                            have G7 := xr32 hb2 (by rw [hb1]; exact xor_lt (lr _) (lr _)) (lr _)
                            have G12 := an32 hm1 H0.out H1.out
                            have G17 := an32 hm2 H0.out H2.out
                            have G18 := xr32 hm3 lm1 lm2
                            have G25 := an32 hm4 H1.out H2.out
                            have G26 := xr32 hm5 (by rw [hm3]; exact xor_lt lm1 lm2) lm4
                            have G27 := ad32 hU
                            clear hb1 hb2 hm1 hm2 hm3 hm4 hm5 hU eb ec lr lm1 lm2 lm4 F7 F10 F11 F16 F18 F22 F23 F24 F29 F34
                            refine Each.region_all (by kernel_rfl) (by kernel_rfl) (by kernel_rfl) (fun _ w1 => Below wr.heap.size wr w1) (fun _ w w' => Below w.heap.size w w') (Each.nth [fun v _ => v = .int .u32 e0, fun v _ => v = .int .u32 (rotr e0 2 : Nat), fun v _ => v = .int .u32 e0, fun v _ => v = .int .u32 (rotr e0 13 : Nat), fun v _ => v = .int .u32 b1, fun v _ => v = .int .u32 e0, fun v _ => v = .int .u32 (rotr e0 22 : Nat), fun v _ => v = .int .u32 b2, fun v _ => v = .int .u32 e0, fun v _ => v = .slice (some ⟨g, 0, none⟩) 8 c, fun v _ => v = .pointer (some ⟨g, 1, none⟩), fun v _ => v = .int .u32 e1, fun v _ => v = .int .u32 m1, fun v _ => v = .int .u32 e0, fun v _ => v = .slice (some ⟨g, 0, none⟩) 8 c, fun v _ => v = .pointer (some ⟨g, 2, none⟩), fun v _ => v = .int .u32 e2, fun v _ => v = .int .u32 m2, fun v _ => v = .int .u32 m3, fun v _ => v = .slice (some ⟨g, 0, none⟩) 8 c, fun v _ => v = .pointer (some ⟨g, 1, none⟩), fun v _ => v = .int .u32 e1, fun v _ => v = .slice (some ⟨g, 0, none⟩) 8 c, fun v _ => v = .pointer (some ⟨g, 2, none⟩), fun v _ => v = .int .u32 e2, fun v _ => v = .int .u32 m4, fun v _ => v = .int .u32 m5, fun v _ => v = .int .u32 Uu, fun v _ => v = .int .u32 Uu]) (fun _ w => Below.refl _ _) (fun _ _ _ _ h => h) ?stab2 (hB1.drew) ?hob2 ?hend2
                            case stab2 =>
                              refine Each.nth_stab _ ?_
                              refine Each.stab_cons (fun _ _ _ _ _ _ _ e => e) ?_
                              refine Each.stab_cons (fun _ _ _ _ _ _ _ e => e) ?_
                              refine Each.stab_cons (fun _ _ _ _ _ _ _ e => e) ?_
                              refine Each.stab_cons (fun _ _ _ _ _ _ _ e => e) ?_
                              refine Each.stab_cons (fun _ _ _ _ _ _ _ e => e) ?_
                              refine Each.stab_cons (fun _ _ _ _ _ _ _ e => e) ?_
                              refine Each.stab_cons (fun _ _ _ _ _ _ _ e => e) ?_
                              refine Each.stab_cons (fun _ _ _ _ _ _ _ e => e) ?_
                              refine Each.stab_cons (fun _ _ _ _ _ _ _ e => e) ?_
                              refine Each.stab_cons (fun _ _ _ _ _ _ _ e => e) ?_
                              refine Each.stab_cons (fun _ _ _ _ _ _ _ e => e) ?_
                              refine Each.stab_cons (fun _ _ _ _ _ _ _ e => e) ?_
                              refine Each.stab_cons (fun _ _ _ _ _ _ _ e => e) ?_
                              refine Each.stab_cons (fun _ _ _ _ _ _ _ e => e) ?_
                              refine Each.stab_cons (fun _ _ _ _ _ _ _ e => e) ?_
                              refine Each.stab_cons (fun _ _ _ _ _ _ _ e => e) ?_
                              refine Each.stab_cons (fun _ _ _ _ _ _ _ e => e) ?_
                              refine Each.stab_cons (fun _ _ _ _ _ _ _ e => e) ?_
                              refine Each.stab_cons (fun _ _ _ _ _ _ _ e => e) ?_
                              refine Each.stab_cons (fun _ _ _ _ _ _ _ e => e) ?_
                              refine Each.stab_cons (fun _ _ _ _ _ _ _ e => e) ?_
                              refine Each.stab_cons (fun _ _ _ _ _ _ _ e => e) ?_
                              refine Each.stab_cons (fun _ _ _ _ _ _ _ e => e) ?_
                              refine Each.stab_cons (fun _ _ _ _ _ _ _ e => e) ?_
                              refine Each.stab_cons (fun _ _ _ _ _ _ _ e => e) ?_
                              refine Each.stab_cons (fun _ _ _ _ _ _ _ e => e) ?_
                              refine Each.stab_cons (fun _ _ _ _ _ _ _ e => e) ?_
                              refine Each.stab_cons (fun _ _ _ _ _ _ _ e => e) ?_
                              refine Each.stab_cons (fun _ _ _ _ _ _ _ e => e) ?_
                              exact Each.stab_nil
                            case hob2 =>
                              refine Each.obvs_cons (Each.obv_val (fun w => Below.refl _ _) (fun _ _ h => h) _ (fun ev vs dn w1 he hk hg hfn hI hf hc hd => ⟨trivial, ?_, rfl⟩)) ?_
                              · have e18 : ev (.tmp 18) = .int .u32 e0 := (he 18).trans (by kernel_rfl)
                                clear hd hf hc he
                                go_simp
                                try first | exact IntWalk.i64_in _ (by omega) | exact IntWalk.u64_in _ (by omega) | exact IntWalk.u32_in _ (by omega)
                              refine Each.obvs_cons (Each.obv_call (fun ev vs dn w1 he hk hg hfn hI hf hc hd => ⟨trivial, 36, #[.int .u32 e0, .int .u64 2], ?_, ?_⟩)) ?_
                              · have h0 : vs 0 = _ := hd 0 (by decide)
                                have e176 : ev (.tmp 176) = vs 0 := (he 176).trans (by kernel_rfl)
                                rw [h0] at e176
                                clear hd hf hc he
                                clear h0
                                go_simp
                                try first | exact IntWalk.i64_in _ (by omega) | exact IntWalk.u64_in _ (by omega) | exact IntWalk.u32_in _ (by omega)
                              · have h0 : vs 0 = _ := hd 0 (by decide)
                                clear hd hf hc he hk hg hfn
                                refine (rdown_any e0 2 H0.out (by decide) (by decide) w1).mono ?_
                                rintro e w2 ⟨rfl, hS⟩
                                exact ⟨_, rfl, hI.trans (hS.2.mono hI.size), hS.2, rfl⟩
                              refine Each.obvs_cons (Each.obv_val (fun w => Below.refl _ _) (fun _ _ h => h) _ (fun ev vs dn w1 he hk hg hfn hI hf hc hd => ⟨trivial, ?_, rfl⟩)) ?_
                              · have e18 : ev (.tmp 18) = .int .u32 e0 := (he 18).trans (by kernel_rfl)
                                clear hd hf hc he
                                go_simp
                                try first | exact IntWalk.i64_in _ (by omega) | exact IntWalk.u64_in _ (by omega) | exact IntWalk.u32_in _ (by omega)
                              refine Each.obvs_cons (Each.obv_call (fun ev vs dn w1 he hk hg hfn hI hf hc hd => ⟨trivial, 36, #[.int .u32 e0, .int .u64 13], ?_, ?_⟩)) ?_
                              · have h1 : vs 1 = _ := hd 1 (by decide)
                                have h2 : vs 2 = _ := hd 2 (by decide)
                                have e178 : ev (.tmp 178) = vs 2 := (he 178).trans (by kernel_rfl)
                                rw [h2] at e178
                                clear hd hf hc he
                                clear h1 h2
                                go_simp
                                try first | exact IntWalk.i64_in _ (by omega) | exact IntWalk.u64_in _ (by omega) | exact IntWalk.u32_in _ (by omega)
                              · have h1 : vs 1 = _ := hd 1 (by decide)
                                have h2 : vs 2 = _ := hd 2 (by decide)
                                clear hd hf hc he hk hg hfn
                                refine (rdown_any e0 13 H0.out (by decide) (by decide) w1).mono ?_
                                rintro e w2 ⟨rfl, hS⟩
                                exact ⟨_, rfl, hI.trans (hS.2.mono hI.size), hS.2, rfl⟩
                              refine Each.obvs_cons (Each.obv_val (fun w => Below.refl _ _) (fun _ _ h => h) _ (fun ev vs dn w1 he hk hg hfn hI hf hc hd => ⟨trivial, ?_, rfl⟩)) ?_
                              · have h1 : vs 1 = _ := hd 1 (by decide)
                                have h3 : vs 3 = _ := hd 3 (by decide)
                                have e177 : ev (.tmp 177) = vs 1 := (he 177).trans (by kernel_rfl)
                                rw [h1] at e177
                                have e179 : ev (.tmp 179) = vs 3 := (he 179).trans (by kernel_rfl)
                                rw [h3] at e179
                                clear hd hf hc he
                                clear h1 h3
                                go_simp
                                exact G4.out
                              refine Each.obvs_cons (Each.obv_val (fun w => Below.refl _ _) (fun _ _ h => h) _ (fun ev vs dn w1 he hk hg hfn hI hf hc hd => ⟨trivial, ?_, rfl⟩)) ?_
                              · have e18 : ev (.tmp 18) = .int .u32 e0 := (he 18).trans (by kernel_rfl)
                                clear hd hf hc he
                                go_simp
                                try first | exact IntWalk.i64_in _ (by omega) | exact IntWalk.u64_in _ (by omega) | exact IntWalk.u32_in _ (by omega)
                              refine Each.obvs_cons (Each.obv_call (fun ev vs dn w1 he hk hg hfn hI hf hc hd => ⟨trivial, 36, #[.int .u32 e0, .int .u64 22], ?_, ?_⟩)) ?_
                              · have h3 : vs 3 = _ := hd 3 (by decide)
                                have h5 : vs 5 = _ := hd 5 (by decide)
                                have e181 : ev (.tmp 181) = vs 5 := (he 181).trans (by kernel_rfl)
                                rw [h5] at e181
                                clear hd hf hc he
                                clear h3 h5
                                go_simp
                                try first | exact IntWalk.i64_in _ (by omega) | exact IntWalk.u64_in _ (by omega) | exact IntWalk.u32_in _ (by omega)
                              · have h3 : vs 3 = _ := hd 3 (by decide)
                                have h5 : vs 5 = _ := hd 5 (by decide)
                                clear hd hf hc he hk hg hfn
                                refine (rdown_any e0 22 H0.out (by decide) (by decide) w1).mono ?_
                                rintro e w2 ⟨rfl, hS⟩
                                exact ⟨_, rfl, hI.trans (hS.2.mono hI.size), hS.2, rfl⟩
                              refine Each.obvs_cons (Each.obv_val (fun w => Below.refl _ _) (fun _ _ h => h) _ (fun ev vs dn w1 he hk hg hfn hI hf hc hd => ⟨trivial, ?_, rfl⟩)) ?_
                              · have h4 : vs 4 = _ := hd 4 (by decide)
                                have h6 : vs 6 = _ := hd 6 (by decide)
                                have e180 : ev (.tmp 180) = vs 4 := (he 180).trans (by kernel_rfl)
                                rw [h4] at e180
                                have e182 : ev (.tmp 182) = vs 6 := (he 182).trans (by kernel_rfl)
                                rw [h6] at e182
                                clear hd hf hc he
                                clear h4 h6
                                go_simp
                                exact G7.out
                              refine Each.obvs_cons (Each.obv_val (fun w => Below.refl _ _) (fun _ _ h => h) _ (fun ev vs dn w1 he hk hg hfn hI hf hc hd => ⟨trivial, ?_, rfl⟩)) ?_
                              · have e18 : ev (.tmp 18) = .int .u32 e0 := (he 18).trans (by kernel_rfl)
                                clear hd hf hc he
                                go_simp
                                try first | exact IntWalk.i64_in _ (by omega) | exact IntWalk.u64_in _ (by omega) | exact IntWalk.u32_in _ (by omega)
                              refine Each.obvs_cons (Each.obv_val (fun w => Below.refl _ _) (fun _ _ h => h) _ (fun ev vs dn w1 he hk hg hfn hI hf hc hd => ⟨trivial, ?_, rfl⟩)) ?_
                              · have e15 : ev (.tmp 15) = .slice (some ⟨g, 0, none⟩) 8 c := (he 15).trans (by kernel_rfl)
                                clear hd hf hc he
                                go_simp
                                try first | exact IntWalk.i64_in _ (by omega) | exact IntWalk.u64_in _ (by omega) | exact IntWalk.u32_in _ (by omega)
                              refine Each.obvs_cons (Each.obv_val (fun w => Below.refl _ _) (fun _ _ h => h) _ (fun ev vs dn w1 he hk hg hfn hI hf hc hd => ⟨trivial, ?_, rfl⟩)) ?_
                              · have h9 : vs 9 = _ := hd 9 (by decide)
                                have e185 : ev (.tmp 185) = vs 9 := (he 185).trans (by kernel_rfl)
                                rw [h9] at e185
                                clear hd hf hc he
                                clear h9
                                go_simp
                                try first | exact IntWalk.i64_in _ (by omega) | exact IntWalk.u64_in _ (by omega) | exact IntWalk.u32_in _ (by omega)
                              refine Each.obvs_cons (Each.obv_val (fun w => Below.refl _ _) (fun _ _ h => h) _ (fun ev vs dn w1 he hk hg hfn hI hf hc hd => ⟨trivial, ?_, rfl⟩)) ?_
                              · have h10 : vs 10 = _ := hd 10 (by decide)
                                have e186 : ev (.tmp 186) = vs 10 := (he 186).trans (by kernel_rfl)
                                rw [h10] at e186
                                clear hd he
                                clear h10
                                have hcell := (HNV.out.later hI).cell 1 (by rw [HVL.out]; decide)
                                rw [HE1.out] at hcell
                                clear hI hf hc
                                go_simp
                              refine Each.obvs_cons (Each.obv_val (fun w => Below.refl _ _) (fun _ _ h => h) _ (fun ev vs dn w1 he hk hg hfn hI hf hc hd => ⟨trivial, ?_, rfl⟩)) ?_
                              · have h8 : vs 8 = _ := hd 8 (by decide)
                                have h11 : vs 11 = _ := hd 11 (by decide)
                                have e184 : ev (.tmp 184) = vs 8 := (he 184).trans (by kernel_rfl)
                                rw [h8] at e184
                                have e187 : ev (.tmp 187) = vs 11 := (he 187).trans (by kernel_rfl)
                                rw [h11] at e187
                                clear hd hf hc he
                                clear h8 h11
                                go_simp
                                exact G12.out
                              refine Each.obvs_cons (Each.obv_val (fun w => Below.refl _ _) (fun _ _ h => h) _ (fun ev vs dn w1 he hk hg hfn hI hf hc hd => ⟨trivial, ?_, rfl⟩)) ?_
                              · have e18 : ev (.tmp 18) = .int .u32 e0 := (he 18).trans (by kernel_rfl)
                                clear hd hf hc he
                                go_simp
                                try first | exact IntWalk.i64_in _ (by omega) | exact IntWalk.u64_in _ (by omega) | exact IntWalk.u32_in _ (by omega)
                              refine Each.obvs_cons (Each.obv_val (fun w => Below.refl _ _) (fun _ _ h => h) _ (fun ev vs dn w1 he hk hg hfn hI hf hc hd => ⟨trivial, ?_, rfl⟩)) ?_
                              · have e15 : ev (.tmp 15) = .slice (some ⟨g, 0, none⟩) 8 c := (he 15).trans (by kernel_rfl)
                                clear hd hf hc he
                                go_simp
                                try first | exact IntWalk.i64_in _ (by omega) | exact IntWalk.u64_in _ (by omega) | exact IntWalk.u32_in _ (by omega)
                              refine Each.obvs_cons (Each.obv_val (fun w => Below.refl _ _) (fun _ _ h => h) _ (fun ev vs dn w1 he hk hg hfn hI hf hc hd => ⟨trivial, ?_, rfl⟩)) ?_
                              · have h14 : vs 14 = _ := hd 14 (by decide)
                                have e190 : ev (.tmp 190) = vs 14 := (he 190).trans (by kernel_rfl)
                                rw [h14] at e190
                                clear hd hf hc he
                                clear h14
                                go_simp
                                try first | exact IntWalk.i64_in _ (by omega) | exact IntWalk.u64_in _ (by omega) | exact IntWalk.u32_in _ (by omega)
                              refine Each.obvs_cons (Each.obv_val (fun w => Below.refl _ _) (fun _ _ h => h) _ (fun ev vs dn w1 he hk hg hfn hI hf hc hd => ⟨trivial, ?_, rfl⟩)) ?_
                              · have h15 : vs 15 = _ := hd 15 (by decide)
                                have e191 : ev (.tmp 191) = vs 15 := (he 191).trans (by kernel_rfl)
                                rw [h15] at e191
                                clear hd he
                                clear h15
                                have hcell := (HNV.out.later hI).cell 2 (by rw [HVL.out]; decide)
                                rw [HE2.out] at hcell
                                clear hI hf hc
                                go_simp
                              refine Each.obvs_cons (Each.obv_val (fun w => Below.refl _ _) (fun _ _ h => h) _ (fun ev vs dn w1 he hk hg hfn hI hf hc hd => ⟨trivial, ?_, rfl⟩)) ?_
                              · have h13 : vs 13 = _ := hd 13 (by decide)
                                have h16 : vs 16 = _ := hd 16 (by decide)
                                have e189 : ev (.tmp 189) = vs 13 := (he 189).trans (by kernel_rfl)
                                rw [h13] at e189
                                have e192 : ev (.tmp 192) = vs 16 := (he 192).trans (by kernel_rfl)
                                rw [h16] at e192
                                clear hd hf hc he
                                clear h13 h16
                                go_simp
                                exact G17.out
                              refine Each.obvs_cons (Each.obv_val (fun w => Below.refl _ _) (fun _ _ h => h) _ (fun ev vs dn w1 he hk hg hfn hI hf hc hd => ⟨trivial, ?_, rfl⟩)) ?_
                              · have h12 : vs 12 = _ := hd 12 (by decide)
                                have h17 : vs 17 = _ := hd 17 (by decide)
                                have e188 : ev (.tmp 188) = vs 12 := (he 188).trans (by kernel_rfl)
                                rw [h12] at e188
                                have e193 : ev (.tmp 193) = vs 17 := (he 193).trans (by kernel_rfl)
                                rw [h17] at e193
                                clear hd hf hc he
                                clear h12 h17
                                go_simp
                                exact G18.out
                              refine Each.obvs_cons (Each.obv_val (fun w => Below.refl _ _) (fun _ _ h => h) _ (fun ev vs dn w1 he hk hg hfn hI hf hc hd => ⟨trivial, ?_, rfl⟩)) ?_
                              · have e15 : ev (.tmp 15) = .slice (some ⟨g, 0, none⟩) 8 c := (he 15).trans (by kernel_rfl)
                                clear hd hf hc he
                                go_simp
                                try first | exact IntWalk.i64_in _ (by omega) | exact IntWalk.u64_in _ (by omega) | exact IntWalk.u32_in _ (by omega)
                              refine Each.obvs_cons (Each.obv_val (fun w => Below.refl _ _) (fun _ _ h => h) _ (fun ev vs dn w1 he hk hg hfn hI hf hc hd => ⟨trivial, ?_, rfl⟩)) ?_
                              · have h19 : vs 19 = _ := hd 19 (by decide)
                                have e195 : ev (.tmp 195) = vs 19 := (he 195).trans (by kernel_rfl)
                                rw [h19] at e195
                                clear hd hf hc he
                                clear h19
                                go_simp
                                try first | exact IntWalk.i64_in _ (by omega) | exact IntWalk.u64_in _ (by omega) | exact IntWalk.u32_in _ (by omega)
                              refine Each.obvs_cons (Each.obv_val (fun w => Below.refl _ _) (fun _ _ h => h) _ (fun ev vs dn w1 he hk hg hfn hI hf hc hd => ⟨trivial, ?_, rfl⟩)) ?_
                              · have h20 : vs 20 = _ := hd 20 (by decide)
                                have e196 : ev (.tmp 196) = vs 20 := (he 196).trans (by kernel_rfl)
                                rw [h20] at e196
                                clear hd he
                                clear h20
                                have hcell := (HNV.out.later hI).cell 1 (by rw [HVL.out]; decide)
                                rw [HE1.out] at hcell
                                clear hI hf hc
                                go_simp
                              refine Each.obvs_cons (Each.obv_val (fun w => Below.refl _ _) (fun _ _ h => h) _ (fun ev vs dn w1 he hk hg hfn hI hf hc hd => ⟨trivial, ?_, rfl⟩)) ?_
                              · have e15 : ev (.tmp 15) = .slice (some ⟨g, 0, none⟩) 8 c := (he 15).trans (by kernel_rfl)
                                clear hd hf hc he
                                go_simp
                                try first | exact IntWalk.i64_in _ (by omega) | exact IntWalk.u64_in _ (by omega) | exact IntWalk.u32_in _ (by omega)
                              refine Each.obvs_cons (Each.obv_val (fun w => Below.refl _ _) (fun _ _ h => h) _ (fun ev vs dn w1 he hk hg hfn hI hf hc hd => ⟨trivial, ?_, rfl⟩)) ?_
                              · have h22 : vs 22 = _ := hd 22 (by decide)
                                have e198 : ev (.tmp 198) = vs 22 := (he 198).trans (by kernel_rfl)
                                rw [h22] at e198
                                clear hd hf hc he
                                clear h22
                                go_simp
                                try first | exact IntWalk.i64_in _ (by omega) | exact IntWalk.u64_in _ (by omega) | exact IntWalk.u32_in _ (by omega)
                              refine Each.obvs_cons (Each.obv_val (fun w => Below.refl _ _) (fun _ _ h => h) _ (fun ev vs dn w1 he hk hg hfn hI hf hc hd => ⟨trivial, ?_, rfl⟩)) ?_
                              · have h23 : vs 23 = _ := hd 23 (by decide)
                                have e199 : ev (.tmp 199) = vs 23 := (he 199).trans (by kernel_rfl)
                                rw [h23] at e199
                                clear hd he
                                clear h23
                                have hcell := (HNV.out.later hI).cell 2 (by rw [HVL.out]; decide)
                                rw [HE2.out] at hcell
                                clear hI hf hc
                                go_simp
                              refine Each.obvs_cons (Each.obv_val (fun w => Below.refl _ _) (fun _ _ h => h) _ (fun ev vs dn w1 he hk hg hfn hI hf hc hd => ⟨trivial, ?_, rfl⟩)) ?_
                              · have h21 : vs 21 = _ := hd 21 (by decide)
                                have h24 : vs 24 = _ := hd 24 (by decide)
                                have e197 : ev (.tmp 197) = vs 21 := (he 197).trans (by kernel_rfl)
                                rw [h21] at e197
                                have e200 : ev (.tmp 200) = vs 24 := (he 200).trans (by kernel_rfl)
                                rw [h24] at e200
                                clear hd hf hc he
                                clear h21 h24
                                go_simp
                                exact G25.out
                              refine Each.obvs_cons (Each.obv_val (fun w => Below.refl _ _) (fun _ _ h => h) _ (fun ev vs dn w1 he hk hg hfn hI hf hc hd => ⟨trivial, ?_, rfl⟩)) ?_
                              · have h18 : vs 18 = _ := hd 18 (by decide)
                                have h25 : vs 25 = _ := hd 25 (by decide)
                                have e194 : ev (.tmp 194) = vs 18 := (he 194).trans (by kernel_rfl)
                                rw [h18] at e194
                                have e201 : ev (.tmp 201) = vs 25 := (he 201).trans (by kernel_rfl)
                                rw [h25] at e201
                                clear hd hf hc he
                                clear h18 h25
                                go_simp
                                exact G26.out
                              refine Each.obvs_cons (Each.obv_val (fun w => Below.refl _ _) (fun _ _ h => h) _ (fun ev vs dn w1 he hk hg hfn hI hf hc hd => ⟨trivial, ?_, rfl⟩)) ?_
                              · have h7 : vs 7 = _ := hd 7 (by decide)
                                have h26 : vs 26 = _ := hd 26 (by decide)
                                have e183 : ev (.tmp 183) = vs 7 := (he 183).trans (by kernel_rfl)
                                rw [h7] at e183
                                have e202 : ev (.tmp 202) = vs 26 := (he 202).trans (by kernel_rfl)
                                rw [h26] at e202
                                clear hd hf hc he
                                clear h7 h26
                                go_simp
                                exact G27.out
                              refine Each.obvs_cons (Each.obv_val (fun w => Below.refl _ _) (fun _ _ h => h) _ (fun ev vs dn w1 he hk hg hfn hI hf hc hd => ⟨trivial, ?_, rfl⟩)) ?_
                              · have h0 : vs 0 = _ := hd 0 (by decide)
                                have h1 : vs 1 = _ := hd 1 (by decide)
                                have h2 : vs 2 = _ := hd 2 (by decide)
                                have h3 : vs 3 = _ := hd 3 (by decide)
                                have h4 : vs 4 = _ := hd 4 (by decide)
                                have h5 : vs 5 = _ := hd 5 (by decide)
                                have h6 : vs 6 = _ := hd 6 (by decide)
                                have h7 : vs 7 = _ := hd 7 (by decide)
                                have h8 : vs 8 = _ := hd 8 (by decide)
                                have h9 : vs 9 = _ := hd 9 (by decide)
                                have h10 : vs 10 = _ := hd 10 (by decide)
                                have h11 : vs 11 = _ := hd 11 (by decide)
                                have h12 : vs 12 = _ := hd 12 (by decide)
                                have h13 : vs 13 = _ := hd 13 (by decide)
                                have h14 : vs 14 = _ := hd 14 (by decide)
                                have h15 : vs 15 = _ := hd 15 (by decide)
                                have h16 : vs 16 = _ := hd 16 (by decide)
                                have h17 : vs 17 = _ := hd 17 (by decide)
                                have h18 : vs 18 = _ := hd 18 (by decide)
                                have h19 : vs 19 = _ := hd 19 (by decide)
                                have h20 : vs 20 = _ := hd 20 (by decide)
                                have h21 : vs 21 = _ := hd 21 (by decide)
                                have h22 : vs 22 = _ := hd 22 (by decide)
                                have h23 : vs 23 = _ := hd 23 (by decide)
                                have h24 : vs 24 = _ := hd 24 (by decide)
                                have h25 : vs 25 = _ := hd 25 (by decide)
                                have h26 : vs 26 = _ := hd 26 (by decide)
                                have h27 : vs 27 = _ := hd 27 (by decide)
                                have e203 : ev (.tmp 203) = vs 27 := (he 203).trans (by kernel_rfl)
                                rw [h27] at e203
                                clear hd hf hc he
                                clear h0 h1 h2 h3 h4 h5 h6 h7 h8 h9 h10 h11 h12 h13 h14 h15 h16 h17 h18 h19 h20 h21 h22 h23 h24 h25 h26 h27
                                go_simp
                                try first | exact IntWalk.i64_in _ (by omega) | exact IntWalk.u64_in _ (by omega) | exact IntWalk.u32_in _ (by omega)
                              exact Each.obvs_nil
                            case hend2 =>
                              intro vs dn w1 hI hR
                              have hv : vs 28 = _ := hR 28 (by decide)
                              have hB2 : Below wr.heap.size wr w1 := hI
                              clear hR hI
                              simp only [Each.puts, Act.put, List.setIfInBounds_toArray, List.set_cons_zero, List.set_cons_succ, Nat.zero_add, Nat.reduceAdd]
                              rw [hv]
                              clear hv
                              go_upto_region 39 with fail
                              obtain ⟨a1, ha1⟩ : ∃ q, q = (T + Uu) % 4294967296 := ⟨_, rfl⟩
                              obtain ⟨a4, ha4⟩ : ∃ q, q = (e3 + T) % 4294967296 := ⟨_, rfl⟩
                              have K2 := ad32 ha1
                              have K14 := ad32 ha4
                              have HA1 := Lib.hid ha1
                              have HA4 := Lib.hid ha4
                              clear ha1 ha4
                              refine Each.region_most (front := ?front1) (ol := ?ol1) ?snoc1 (by kernel_rfl) ?chk1 ?fits1 ?gl1 (fun _ w1 => Below wr.heap.size wr w1) (fun _ w w' => Below w.heap.size w w') (Each.nth [fun v _ => v = .int .u32 T, fun v _ => v = .int .u32 Uu, fun v _ => v = .int .u32 a1, fun v _ => v = .int .u32 e0, fun v _ => v = .slice (some ⟨g, 0, none⟩) 8 c, fun v _ => v = .pointer (some ⟨g, 1, none⟩), fun v _ => v = .int .u32 e1, fun v _ => v = .slice (some ⟨g, 0, none⟩) 8 c, fun v _ => v = .pointer (some ⟨g, 2, none⟩), fun v _ => v = .int .u32 e2, fun v _ => v = .slice (some ⟨g, 0, none⟩) 8 c, fun v _ => v = .pointer (some ⟨g, 3, none⟩), fun v _ => v = .int .u32 e3, fun v _ => v = .int .u32 T, fun v _ => v = .int .u32 a4, fun v _ => v = .int .u32 e4, fun v _ => v = .slice (some ⟨g, 0, none⟩) 8 c, fun v _ => v = .pointer (some ⟨g, 5, none⟩), fun v _ => v = .int .u32 e5, fun v _ => v = .slice (some ⟨g, 0, none⟩) 8 c, fun v _ => v = .pointer (some ⟨g, 6, none⟩), fun v _ => v = .int .u32 e6, fun v w1 => ∃ b, v = .slice (some ⟨b, 0, none⟩) 8 8 ∧ wr.heap.size ≤ b ∧ Nums w1 b [a1, e0, e1, e2, a4, e4, e5, e6]]) (fun _ w => Below.refl _ _) (fun _ _ _ _ h => h) ?stab1 (hB2.drew) ?hob1 ?hend1
                              case snoc1 => exact (.cons _ (.cons _ (.cons _ (.cons _ (.cons _ (.cons _ (.cons _ (.cons _ (.cons _ (.cons _ (.cons _ (.cons _ (.cons _ (.cons _ (.cons _ (.cons _ (.cons _ (.cons _ (.cons _ (.cons _ (.cons _ (.cons _ (.cons _ (.one _))))))))))))))))))))))))
                              case chk1 => kernel_rfl
                              case fits1 => kernel_rfl
                              case gl1 => rfl
                              case stab1 =>
                                refine Each.nth_stab _ ?_
                                refine Each.stab_cons (fun _ _ _ _ _ _ _ e => e) ?_
                                refine Each.stab_cons (fun _ _ _ _ _ _ _ e => e) ?_
                                refine Each.stab_cons (fun _ _ _ _ _ _ _ e => e) ?_
                                refine Each.stab_cons (fun _ _ _ _ _ _ _ e => e) ?_
                                refine Each.stab_cons (fun _ _ _ _ _ _ _ e => e) ?_
                                refine Each.stab_cons (fun _ _ _ _ _ _ _ e => e) ?_
                                refine Each.stab_cons (fun _ _ _ _ _ _ _ e => e) ?_
                                refine Each.stab_cons (fun _ _ _ _ _ _ _ e => e) ?_
                                refine Each.stab_cons (fun _ _ _ _ _ _ _ e => e) ?_
                                refine Each.stab_cons (fun _ _ _ _ _ _ _ e => e) ?_
                                refine Each.stab_cons (fun _ _ _ _ _ _ _ e => e) ?_
                                refine Each.stab_cons (fun _ _ _ _ _ _ _ e => e) ?_
                                refine Each.stab_cons (fun _ _ _ _ _ _ _ e => e) ?_
                                refine Each.stab_cons (fun _ _ _ _ _ _ _ e => e) ?_
                                refine Each.stab_cons (fun _ _ _ _ _ _ _ e => e) ?_
                                refine Each.stab_cons (fun _ _ _ _ _ _ _ e => e) ?_
                                refine Each.stab_cons (fun _ _ _ _ _ _ _ e => e) ?_
                                refine Each.stab_cons (fun _ _ _ _ _ _ _ e => e) ?_
                                refine Each.stab_cons (fun _ _ _ _ _ _ _ e => e) ?_
                                refine Each.stab_cons (fun _ _ _ _ _ _ _ e => e) ?_
                                refine Each.stab_cons (fun _ _ _ _ _ _ _ e => e) ?_
                                refine Each.stab_cons (fun _ _ _ _ _ _ _ e => e) ?_
                                refine Each.stab_cons (fun i v w w' hne hnd h e => e.imp fun b e => ⟨e.1, e.2.1, e.2.2.later h⟩) ?_
                                exact Each.stab_nil
                              case hob1 =>
                                refine Each.obvs_cons (Each.obv_val (fun w => Below.refl _ _) (fun _ _ h => h) _ (fun ev vs dn w1 he hk hg hfn hI hf hc hd => ⟨trivial, ?_, rfl⟩)) ?_
                                · have e19 : ev (.tmp 19) = .int .u32 T := (he 19).trans (by kernel_rfl)
                                  clear hd hf hc he
                                  go_simp
                                  try first | exact IntWalk.i64_in _ (by omega) | exact IntWalk.u64_in _ (by omega) | exact IntWalk.u32_in _ (by omega)
                                refine Each.obvs_cons (Each.obv_val (fun w => Below.refl _ _) (fun _ _ h => h) _ (fun ev vs dn w1 he hk hg hfn hI hf hc hd => ⟨trivial, ?_, rfl⟩)) ?_
                                · have e20 : ev (.tmp 20) = .int .u32 Uu := (he 20).trans (by kernel_rfl)
                                  clear hd hf hc he
                                  go_simp
                                  try first | exact IntWalk.i64_in _ (by omega) | exact IntWalk.u64_in _ (by omega) | exact IntWalk.u32_in _ (by omega)
                                refine Each.obvs_cons (Each.obv_val (fun w => Below.refl _ _) (fun _ _ h => h) _ (fun ev vs dn w1 he hk hg hfn hI hf hc hd => ⟨trivial, ?_, rfl⟩)) ?_
                                · have h0 : vs 0 = _ := hd 0 (by decide)
                                  have h1 : vs 1 = _ := hd 1 (by decide)
                                  have e204 : ev (.tmp 204) = vs 0 := (he 204).trans (by kernel_rfl)
                                  rw [h0] at e204
                                  have e205 : ev (.tmp 205) = vs 1 := (he 205).trans (by kernel_rfl)
                                  rw [h1] at e205
                                  clear hd hf hc he
                                  clear h0 h1
                                  go_simp
                                  exact K2.out
                                refine Each.obvs_cons (Each.obv_val (fun w => Below.refl _ _) (fun _ _ h => h) _ (fun ev vs dn w1 he hk hg hfn hI hf hc hd => ⟨trivial, ?_, rfl⟩)) ?_
                                · have e18 : ev (.tmp 18) = .int .u32 e0 := (he 18).trans (by kernel_rfl)
                                  clear hd hf hc he
                                  go_simp
                                  try first | exact IntWalk.i64_in _ (by omega) | exact IntWalk.u64_in _ (by omega) | exact IntWalk.u32_in _ (by omega)
                                refine Each.obvs_cons (Each.obv_val (fun w => Below.refl _ _) (fun _ _ h => h) _ (fun ev vs dn w1 he hk hg hfn hI hf hc hd => ⟨trivial, ?_, rfl⟩)) ?_
                                · have e15 : ev (.tmp 15) = .slice (some ⟨g, 0, none⟩) 8 c := (he 15).trans (by kernel_rfl)
                                  clear hd hf hc he
                                  go_simp
                                  try first | exact IntWalk.i64_in _ (by omega) | exact IntWalk.u64_in _ (by omega) | exact IntWalk.u32_in _ (by omega)
                                refine Each.obvs_cons (Each.obv_val (fun w => Below.refl _ _) (fun _ _ h => h) _ (fun ev vs dn w1 he hk hg hfn hI hf hc hd => ⟨trivial, ?_, rfl⟩)) ?_
                                · have h4 : vs 4 = _ := hd 4 (by decide)
                                  have e208 : ev (.tmp 208) = vs 4 := (he 208).trans (by kernel_rfl)
                                  rw [h4] at e208
                                  clear hd hf hc he
                                  clear h4
                                  go_simp
                                  try first | exact IntWalk.i64_in _ (by omega) | exact IntWalk.u64_in _ (by omega) | exact IntWalk.u32_in _ (by omega)
                                refine Each.obvs_cons (Each.obv_val (fun w => Below.refl _ _) (fun _ _ h => h) _ (fun ev vs dn w1 he hk hg hfn hI hf hc hd => ⟨trivial, ?_, rfl⟩)) ?_
                                · have h5 : vs 5 = _ := hd 5 (by decide)
                                  have e209 : ev (.tmp 209) = vs 5 := (he 209).trans (by kernel_rfl)
                                  rw [h5] at e209
                                  clear hd he
                                  clear h5
                                  have hcell := (HNV.out.later hI).cell 1 (by rw [HVL.out]; decide)
                                  rw [HE1.out] at hcell
                                  clear hI hf hc
                                  go_simp
                                refine Each.obvs_cons (Each.obv_val (fun w => Below.refl _ _) (fun _ _ h => h) _ (fun ev vs dn w1 he hk hg hfn hI hf hc hd => ⟨trivial, ?_, rfl⟩)) ?_
                                · have e15 : ev (.tmp 15) = .slice (some ⟨g, 0, none⟩) 8 c := (he 15).trans (by kernel_rfl)
                                  clear hd hf hc he
                                  go_simp
                                  try first | exact IntWalk.i64_in _ (by omega) | exact IntWalk.u64_in _ (by omega) | exact IntWalk.u32_in _ (by omega)
                                refine Each.obvs_cons (Each.obv_val (fun w => Below.refl _ _) (fun _ _ h => h) _ (fun ev vs dn w1 he hk hg hfn hI hf hc hd => ⟨trivial, ?_, rfl⟩)) ?_
                                · have h7 : vs 7 = _ := hd 7 (by decide)
                                  have e211 : ev (.tmp 211) = vs 7 := (he 211).trans (by kernel_rfl)
                                  rw [h7] at e211
                                  clear hd hf hc he
                                  clear h7
                                  go_simp
                                  try first | exact IntWalk.i64_in _ (by omega) | exact IntWalk.u64_in _ (by omega) | exact IntWalk.u32_in _ (by omega)
                                refine Each.obvs_cons (Each.obv_val (fun w => Below.refl _ _) (fun _ _ h => h) _ (fun ev vs dn w1 he hk hg hfn hI hf hc hd => ⟨trivial, ?_, rfl⟩)) ?_
                                · have h8 : vs 8 = _ := hd 8 (by decide)
                                  have e212 : ev (.tmp 212) = vs 8 := (he 212).trans (by kernel_rfl)
                                  rw [h8] at e212
                                  clear hd he
                                  clear h8
                                  have hcell := (HNV.out.later hI).cell 2 (by rw [HVL.out]; decide)
                                  rw [HE2.out] at hcell
                                  clear hI hf hc
                                  go_simp
                                refine Each.obvs_cons (Each.obv_val (fun w => Below.refl _ _) (fun _ _ h => h) _ (fun ev vs dn w1 he hk hg hfn hI hf hc hd => ⟨trivial, ?_, rfl⟩)) ?_
                                · have e15 : ev (.tmp 15) = .slice (some ⟨g, 0, none⟩) 8 c := (he 15).trans (by kernel_rfl)
                                  clear hd hf hc he
                                  go_simp
                                  try first | exact IntWalk.i64_in _ (by omega) | exact IntWalk.u64_in _ (by omega) | exact IntWalk.u32_in _ (by omega)
                                refine Each.obvs_cons (Each.obv_val (fun w => Below.refl _ _) (fun _ _ h => h) _ (fun ev vs dn w1 he hk hg hfn hI hf hc hd => ⟨trivial, ?_, rfl⟩)) ?_
                                · have h10 : vs 10 = _ := hd 10 (by decide)
                                  have e214 : ev (.tmp 214) = vs 10 := (he 214).trans (by kernel_rfl)
                                  rw [h10] at e214
                                  clear hd hf hc he
                                  clear h10
                                  go_simp
                                  try first | exact IntWalk.i64_in _ (by omega) | exact IntWalk.u64_in _ (by omega) | exact IntWalk.u32_in _ (by omega)
                                refine Each.obvs_cons (Each.obv_val (fun w => Below.refl _ _) (fun _ _ h => h) _ (fun ev vs dn w1 he hk hg hfn hI hf hc hd => ⟨trivial, ?_, rfl⟩)) ?_
                                · have h11 : vs 11 = _ := hd 11 (by decide)
                                  have e215 : ev (.tmp 215) = vs 11 := (he 215).trans (by kernel_rfl)
                                  rw [h11] at e215
                                  clear hd he
                                  clear h11
                                  have hcell := (HNV.out.later hI).cell 3 (by rw [HVL.out]; decide)
                                  rw [HE3.out] at hcell
                                  clear hI hf hc
                                  go_simp
                                refine Each.obvs_cons (Each.obv_val (fun w => Below.refl _ _) (fun _ _ h => h) _ (fun ev vs dn w1 he hk hg hfn hI hf hc hd => ⟨trivial, ?_, rfl⟩)) ?_
                                · have e19 : ev (.tmp 19) = .int .u32 T := (he 19).trans (by kernel_rfl)
                                  clear hd hf hc he
                                  go_simp
                                  try first | exact IntWalk.i64_in _ (by omega) | exact IntWalk.u64_in _ (by omega) | exact IntWalk.u32_in _ (by omega)
                                refine Each.obvs_cons (Each.obv_val (fun w => Below.refl _ _) (fun _ _ h => h) _ (fun ev vs dn w1 he hk hg hfn hI hf hc hd => ⟨trivial, ?_, rfl⟩)) ?_
                                · have h12 : vs 12 = _ := hd 12 (by decide)
                                  have h13 : vs 13 = _ := hd 13 (by decide)
                                  have e216 : ev (.tmp 216) = vs 12 := (he 216).trans (by kernel_rfl)
                                  rw [h12] at e216
                                  have e217 : ev (.tmp 217) = vs 13 := (he 217).trans (by kernel_rfl)
                                  rw [h13] at e217
                                  clear hd hf hc he
                                  clear h12 h13
                                  go_simp
                                  exact K14.out
                                refine Each.obvs_cons (Each.obv_val (fun w => Below.refl _ _) (fun _ _ h => h) _ (fun ev vs dn w1 he hk hg hfn hI hf hc hd => ⟨trivial, ?_, rfl⟩)) ?_
                                · have e17 : ev (.tmp 17) = .int .u32 e4 := (he 17).trans (by kernel_rfl)
                                  clear hd hf hc he
                                  go_simp
                                  try first | exact IntWalk.i64_in _ (by omega) | exact IntWalk.u64_in _ (by omega) | exact IntWalk.u32_in _ (by omega)
                                refine Each.obvs_cons (Each.obv_val (fun w => Below.refl _ _) (fun _ _ h => h) _ (fun ev vs dn w1 he hk hg hfn hI hf hc hd => ⟨trivial, ?_, rfl⟩)) ?_
                                · have e15 : ev (.tmp 15) = .slice (some ⟨g, 0, none⟩) 8 c := (he 15).trans (by kernel_rfl)
                                  clear hd hf hc he
                                  go_simp
                                  try first | exact IntWalk.i64_in _ (by omega) | exact IntWalk.u64_in _ (by omega) | exact IntWalk.u32_in _ (by omega)
                                refine Each.obvs_cons (Each.obv_val (fun w => Below.refl _ _) (fun _ _ h => h) _ (fun ev vs dn w1 he hk hg hfn hI hf hc hd => ⟨trivial, ?_, rfl⟩)) ?_
                                · have h16 : vs 16 = _ := hd 16 (by decide)
                                  have e220 : ev (.tmp 220) = vs 16 := (he 220).trans (by kernel_rfl)
                                  rw [h16] at e220
                                  clear hd hf hc he
                                  clear h16
                                  go_simp
                                  try first | exact IntWalk.i64_in _ (by omega) | exact IntWalk.u64_in _ (by omega) | exact IntWalk.u32_in _ (by omega)
                                refine Each.obvs_cons (Each.obv_val (fun w => Below.refl _ _) (fun _ _ h => h) _ (fun ev vs dn w1 he hk hg hfn hI hf hc hd => ⟨trivial, ?_, rfl⟩)) ?_
                                · have h17 : vs 17 = _ := hd 17 (by decide)
                                  have e221 : ev (.tmp 221) = vs 17 := (he 221).trans (by kernel_rfl)
                                  rw [h17] at e221
                                  clear hd he
                                  clear h17
                                  have hcell := (HNV.out.later hI).cell 5 (by rw [HVL.out]; decide)
                                  rw [HE5.out] at hcell
                                  clear hI hf hc
                                  go_simp
                                refine Each.obvs_cons (Each.obv_val (fun w => Below.refl _ _) (fun _ _ h => h) _ (fun ev vs dn w1 he hk hg hfn hI hf hc hd => ⟨trivial, ?_, rfl⟩)) ?_
                                · have e15 : ev (.tmp 15) = .slice (some ⟨g, 0, none⟩) 8 c := (he 15).trans (by kernel_rfl)
                                  clear hd hf hc he
                                  go_simp
                                  try first | exact IntWalk.i64_in _ (by omega) | exact IntWalk.u64_in _ (by omega) | exact IntWalk.u32_in _ (by omega)
                                refine Each.obvs_cons (Each.obv_val (fun w => Below.refl _ _) (fun _ _ h => h) _ (fun ev vs dn w1 he hk hg hfn hI hf hc hd => ⟨trivial, ?_, rfl⟩)) ?_
                                · have h19 : vs 19 = _ := hd 19 (by decide)
                                  have e223 : ev (.tmp 223) = vs 19 := (he 223).trans (by kernel_rfl)
                                  rw [h19] at e223
                                  clear hd hf hc he
                                  clear h19
                                  go_simp
                                  try first | exact IntWalk.i64_in _ (by omega) | exact IntWalk.u64_in _ (by omega) | exact IntWalk.u32_in _ (by omega)
                                refine Each.obvs_cons (Each.obv_val (fun w => Below.refl _ _) (fun _ _ h => h) _ (fun ev vs dn w1 he hk hg hfn hI hf hc hd => ⟨trivial, ?_, rfl⟩)) ?_
                                · have h20 : vs 20 = _ := hd 20 (by decide)
                                  have e224 : ev (.tmp 224) = vs 20 := (he 224).trans (by kernel_rfl)
                                  rw [h20] at e224
                                  clear hd he
                                  clear h20
                                  have hcell := (HNV.out.later hI).cell 6 (by rw [HVL.out]; decide)
                                  rw [HE6.out] at hcell
                                  clear hI hf hc
                                  go_simp
                                refine Each.obvs_cons (Each.obv_new (fun ev vs dn w1 he hk hg hfn hI hf hc hd => ⟨trivial, ?_⟩)) ?_
                                · have h2 : vs 2 = _ := hd 2 (by decide)
                                  have h3 : vs 3 = _ := hd 3 (by decide)
                                  have h6 : vs 6 = _ := hd 6 (by decide)
                                  have h9 : vs 9 = _ := hd 9 (by decide)
                                  have h14 : vs 14 = _ := hd 14 (by decide)
                                  have h15 : vs 15 = _ := hd 15 (by decide)
                                  have h18 : vs 18 = _ := hd 18 (by decide)
                                  have h21 : vs 21 = _ := hd 21 (by decide)
                                  have e206 : ev (.tmp 206) = vs 2 := (he 206).trans (by kernel_rfl)
                                  rw [h2] at e206
                                  have e207 : ev (.tmp 207) = vs 3 := (he 207).trans (by kernel_rfl)
                                  rw [h3] at e207
                                  have e210 : ev (.tmp 210) = vs 6 := (he 210).trans (by kernel_rfl)
                                  rw [h6] at e210
                                  have e213 : ev (.tmp 213) = vs 9 := (he 213).trans (by kernel_rfl)
                                  rw [h9] at e213
                                  have e218 : ev (.tmp 218) = vs 14 := (he 218).trans (by kernel_rfl)
                                  rw [h14] at e218
                                  have e219 : ev (.tmp 219) = vs 15 := (he 219).trans (by kernel_rfl)
                                  rw [h15] at e219
                                  have e222 : ev (.tmp 222) = vs 18 := (he 222).trans (by kernel_rfl)
                                  rw [h18] at e222
                                  have e225 : ev (.tmp 225) = vs 21 := (he 225).trans (by kernel_rfl)
                                  rw [h21] at e225
                                  clear hd he
                                  clear h2 h3 h6 h9 h14 h15 h18 h21
                                  have hb := (Below.refl w1.heap.size w1).alloc (Nat.le_refl _) (.cells (ints .u32 [a1, e0, e1, e2, a4, e4, e5, e6]) 42)
                                  refine ⟨.slice (some ⟨w1.heap.size, 0, none⟩) 8 8, w1.alloc (.cells (ints .u32 [a1, e0, e1, e2, a4, e4, e5, e6]) 42), ?_, hI.trans (hb.mono hI.size), hb, w1.heap.size, rfl, hI.size, nums_block (heap_alloc_new _ _)⟩
                                  clear hI hf hc hb
                                  go_simp
                                  rfl
                                exact Each.obvs_nil
                              case hend1 =>
                                intro vs dn w1 hI hR
                                have h22 : ∃ b, vs 22 = .slice (some ⟨b, 0, none⟩) 8 8 ∧ wr.heap.size ≤ b ∧ Nums w1 b [a1, e0, e1, e2, a4, e4, e5, e6] := hR 22 (by decide)
                                have hB3 : Below wr.heap.size wr w1 := hI
                                clear hR hI
                                obtain ⟨gb, hvb, hgb, hNb⟩ := h22
                                simp only [Each.puts, Act.put, List.setIfInBounds_toArray, List.set_cons_zero, List.set_cons_succ, Nat.zero_add, Nat.reduceAdd]
                                rw [hvb]
                                clear hvb
                                go_wp2
                                refine ⟨⟨i + 1, by omega, by go_num, ⟨gb, 8, rfl, by have a1 := HZ4.out; have a2 := HBR.out.size; omega, ?_⟩, HBR.out.trans (hB3.mono HBR.out.size)⟩, by simp [intOf]; omega⟩
                                rw [HT.out, ← HTT.out, ← HUU.out, ← HA1.out, ← HA4.out]
                                exact hNb
                        · obtain rfl : i = 64 := by omega
                          rw [show ((64 : Nat) : Int) = 64 from rfl]
                          have hI9 := HI4.out.later hB
                          rw [← HS.out] at hI9
                          obtain ⟨V, hV⟩ : ∃ V, V = turns s ws 64 := ⟨_, rfl⟩
                          rw [← hV] at hNV
                          have HVL : Hid (V.length = 8) := by show _ = _; rw [hV]; exact turns_length s ws HSL.out 64
                          have HMORE : Hid (sums s V 8 = state p (j + 1)) := by show _ = _; rw [hV, HWS.out, HBS.out, HS.out]; rfl
                          have HGS : Hid (g ≠ S) := by
                            have a1 := HGW.out
                            have a2 := HSW.out
                            show g ≠ S
                            omega
                          clear hV HNW4 HNK4 HNS4 HI4 HBW HB0 HZ4 hB hi hi64 HWS HWL HSLT HGW HSW
                          go_wp2
                          go_loopw [21] (fun iv wr => ∃ i : Nat, i ≤ 8 ∧ iv = .int .i64 i ∧ RInv w K S (sums s V i) wr ∧ Nums wr g V) (fun iv _ => 8 - (intOf iv).toNat)
                          case atStart => exact ⟨0, by omega, rfl, hI9, hNV⟩
                          case round =>
                            clear hI9 hNV
                            obtain ⟨i, hi, rfl, hI9, hNV⟩ := hrel
                            by_cases hi8 : i < 8
                            · have c0 := cell_ints hI9.2.2.2 i (by rw [sums_length _ _ HSL.out]; omega)
                              have c1 := hNV.cell i (by rw [HVL.out]; omega)
                              have f0 := frozen_of_row wr S i _ _ hI9.2.2.2
                              have X2 : Hid (∀ v : Nat, v = ((sums s V i).getD i 0 + V.getD i 0) % 4294967296 → (wr.setCell ⟨S, i, none⟩ (.int .u32 (v : Int))).heap[S]? = some (.cells (ints .u32 (sums s V (i + 1))) 42 (0, 0))) := fun v hv => by rw [set_block hI9.2.2.2, hv]; rfl
                              have HI9 := Lib.hid hI9
                              have HNV := Lib.hid hNV
                              clear hI9 hNV
                              generalize (sums s V i).getD i 0 = q1 at *
                              generalize V.getD i 0 = q2 at *
                              have k0 : (0 : Int) ≤ (i : Int) := by omega
                              have k1 : (i : Int) < 8 := by omega
                              go_upto_region 43 with fail
                              go_still_tail 9, (by kernel_rfl)
                              go_wp2
                              refine ⟨⟨i + 1, by omega, by go_num, ?_, ?_⟩, by simp [intOf]; omega⟩
                              · have e : ((q1 : Int) + (q2 : Int)) % 4294967296 = (((q1 + q2) % 4294967296 : Nat) : Int) := by omega
                                rw [e]
                                exact (HI9.out.set hKS hwS (X2.out _ rfl)).drew
                              · exact (HNV.out.set ⟨S, i, none⟩ _ HGS.out).drew
                            · obtain rfl : i = 8 := by omega
                              rw [HMORE.out] at hI9
                              rw [show ((8 : Nat) : Int) = 8 from rfl]
                              have HI9 := Lib.hid hI9
                              clear hNV HMORE hi hi8 hI9
                              go_wp2
                              have eA : (A : Int) + 64 = ((64 * (j + 1) : Nat) : Int) := by have a1 := HA.out; omega
                              have eM : M - (intOf (.int .i64 ((A : Int) + 64))).toNat < M - (intOf (.int .i64 (A : Int))).toNat := by simp [intOf]; omega
                              exact ⟨⟨j + 1, by omega, by rw [eA], HI9.out⟩, eM⟩
            · have hjm' : j = m := by omega
              have hAM : A = M := by have := HMM.out; omega
              rw [hjm'] at hI
              obtain ⟨s, hs⟩ : ∃ s, s = state p m := ⟨_, rfl⟩
              have HSL : Hid (s.length = 8) := by show _ = _; rw [hs]; exact state_length p m
              have HOUT2 : Hid (hashOf l = out s 32) := by show _ = _; rw [HOUT.out, hs]
              rw [← hs] at hI
              have HI := Lib.hid hI
              rw [hAM]
              clear hs hI hA hjm hj HOUT HMM HM hM40 hjm' hAM HP8
              go_upto_region 45 with ((with_reducible refine at_alloc 23 ?_); refine wpList_alloc_zero rfl 23 rfl _ alloc_hash ?_)
              have hBel : Below wr.heap.size wr (wr.alloc (.cells (ints .u8 zeros32) 23)) := (Below.refl _ wr).alloc (Nat.le_refl _) _
              have hI := HI.out.later hBel
              have hx : (wr.alloc (.cells (ints .u8 zeros32) 23)).heap[wr.heap.size]? = some (.cells (ints .u8 (out s (4 * 0))) 23 (0, 0)) := heap_alloc_new _ _
              have HWB : Hid (w.heap.size < wr.heap.size) := (Array.getElem?_eq_some_iff.1 HI.out.2.1).1
              have HKB : Hid (K ≠ wr.heap.size) := Nat.ne_of_lt (Array.getElem?_eq_some_iff.1 HI.out.2.2.1).1
              have HSB : Hid (S ≠ wr.heap.size) := Nat.ne_of_lt (Array.getElem?_eq_some_iff.1 HI.out.2.2.2).1
              generalize wr.alloc (.cells (ints .u8 zeros32) 23) = wa at *
              generalize wr.heap.size = B at *
              clear HI hBel
              have HX9 := Lib.hid hx
              have HI9 := Lib.hid hI
              clear hx hI
              go_wp2
              go_loopw [23] (fun iv wr => ∃ k : Nat, k ≤ 8 ∧ iv = .int .i64 k ∧ wr.heap[B]? = some (.cells (ints .u8 (out s (4 * k))) 23 (0, 0)) ∧ RInv w K S s wr) (fun iv _ => 8 - (intOf iv).toNat)
              case atStart => exact ⟨0, by omega, rfl, HX9.out, HI9.out⟩
              case round =>
                clear HX9 HI9
                obtain ⟨k, hk, rfl, hx, hI⟩ := hrel
                by_cases hk8 : k < 8
                · obtain ⟨x, hx0⟩ : ∃ x, x = s.getD k 0 := ⟨_, rfl⟩
                  obtain ⟨o0, h0⟩ : ∃ q, q = 4 * k + 0 := ⟨_, rfl⟩
                  obtain ⟨o1, h1⟩ : ∃ q, q = 4 * k + 1 := ⟨_, rfl⟩
                  obtain ⟨o2, h2⟩ : ∃ q, q = 4 * k + 2 := ⟨_, rfl⟩
                  obtain ⟨o3, h3⟩ : ∃ q, q = 4 * k + 3 := ⟨_, rfl⟩
                  rw [show 4 * k = o0 by omega] at hx
                  have HX0 := Lib.hid hx0.symm
                  have HO0 := Lib.hid h0
                  have HO1 := Lib.hid h1
                  have HO2 := Lib.hid h2
                  have HO3 := Lib.hid h3
                  have k0 : (0 : Int) ≤ (k : Int) := by omega
                  have k1 : (k : Int) < 8 := by omega
                  have i0 : 4 * (k : Int) = (o0 : Int) := by omega
                  have i1 : (o0 : Int) + 1 = (o1 : Int) := by omega
                  have i2 : (o0 : Int) + 2 = (o2 : Int) := by omega
                  have i3 : (o0 : Int) + 3 = (o3 : Int) := by omega
                  have z0 : (0 : Int) ≤ (o0 : Int) := by omega
                  have z1 : (0 : Int) ≤ (o1 : Int) := by omega
                  have z2 : (0 : Int) ≤ (o2 : Int) := by omega
                  have z3 : (0 : Int) ≤ (o3 : Int) := by omega
                  have t0 : (o0 : Int) < 32 := by omega
                  have t1 : (o1 : Int) < 32 := by omega
                  have t2 : (o2 : Int) < 32 := by omega
                  have t3 : (o3 : Int) < 32 := by omega
                  clear hx0 h0 h1 h2 h3
                  have c0 := cell_ints hI.2.2.2 k (by rw [HSL.out]; omega)
                  rw [HX0.out] at c0
                  have e0 := cell_ints hx o0 (by rw [out_length]; omega)
                  have f0 := frozen_of_row wr B o0 _ _ hx
                  have X := Lib.hid (fun v : Nat => fun hv : v = outAt s o0 => (show (wr.setCell ⟨B, o0, none⟩ (.int .u8 (v : Int))).heap[B]? = some (.cells (ints .u8 (out s (o0 + 1))) 23 (0, 0)) by rw [set_block hx, hv]; rfl))
                  have HIk := Lib.hid hI
                  clear hx hI
                  generalize (out s o0).getD o0 0 = was at *
                  go_upto_region 49 with fail
                  rw [show (x : Int) / 16777216 % 256 = ((outAt s o0 : Nat) : Int) by rw [HO0.out, outAt_of s k 0 (by decide), HX0.out]; simp]
                  have hx := X.out _ rfl
                  have hI := HIk.out.put (i := o0) (v := .int .u8 ((outAt s o0 : Nat) : Int)) HWB.out HKB.out HSB.out
                  clear c0 e0 f0 X HIk
                  rw [show o0 + 1 = o1 by rw [HO0.out, HO1.out]] at hx
                  generalize wr.setCell ⟨B, o0, none⟩ (.int .u8 ((outAt s o0 : Nat) : Int)) = wr at *
                  have c0 := cell_ints hI.2.2.2 k (by rw [HSL.out]; omega)
                  rw [HX0.out] at c0
                  have e0 := cell_ints hx o1 (by rw [out_length]; omega)
                  have f0 := frozen_of_row wr B o1 _ _ hx
                  have X := Lib.hid (fun v : Nat => fun hv : v = outAt s o1 => (show (wr.setCell ⟨B, o1, none⟩ (.int .u8 (v : Int))).heap[B]? = some (.cells (ints .u8 (out s (o1 + 1))) 23 (0, 0)) by rw [set_block hx, hv]; rfl))
                  have HIk := Lib.hid hI
                  clear hx hI
                  generalize (out s o1).getD o1 0 = was at *
                  go_upto_region 50 with fail
                  rw [show (x : Int) / 65536 % 256 = ((outAt s o1 : Nat) : Int) by rw [HO1.out, outAt_of s k 1 (by decide), HX0.out]; simp]
                  have hx := X.out _ rfl
                  have hI := HIk.out.put (i := o1) (v := .int .u8 ((outAt s o1 : Nat) : Int)) HWB.out HKB.out HSB.out
                  clear c0 e0 f0 X HIk
                  rw [show o1 + 1 = o2 by rw [HO1.out, HO2.out]] at hx
                  generalize wr.setCell ⟨B, o1, none⟩ (.int .u8 ((outAt s o1 : Nat) : Int)) = wr at *
                  have c0 := cell_ints hI.2.2.2 k (by rw [HSL.out]; omega)
                  rw [HX0.out] at c0
                  have e0 := cell_ints hx o2 (by rw [out_length]; omega)
                  have f0 := frozen_of_row wr B o2 _ _ hx
                  have X := Lib.hid (fun v : Nat => fun hv : v = outAt s o2 => (show (wr.setCell ⟨B, o2, none⟩ (.int .u8 (v : Int))).heap[B]? = some (.cells (ints .u8 (out s (o2 + 1))) 23 (0, 0)) by rw [set_block hx, hv]; rfl))
                  have HIk := Lib.hid hI
                  clear hx hI
                  generalize (out s o2).getD o2 0 = was at *
                  go_upto_region 51 with fail
                  rw [show (x : Int) / 256 % 256 = ((outAt s o2 : Nat) : Int) by rw [HO2.out, outAt_of s k 2 (by decide), HX0.out]; simp]
                  have hx := X.out _ rfl
                  have hI := HIk.out.put (i := o2) (v := .int .u8 ((outAt s o2 : Nat) : Int)) HWB.out HKB.out HSB.out
                  clear c0 e0 f0 X HIk
                  rw [show o2 + 1 = o3 by rw [HO2.out, HO3.out]] at hx
                  generalize wr.setCell ⟨B, o2, none⟩ (.int .u8 ((outAt s o2 : Nat) : Int)) = wr at *
                  have c0 := cell_ints hI.2.2.2 k (by rw [HSL.out]; omega)
                  rw [HX0.out] at c0
                  have e0 := cell_ints hx o3 (by rw [out_length]; omega)
                  have f0 := frozen_of_row wr B o3 _ _ hx
                  have X := Lib.hid (fun v : Nat => fun hv : v = outAt s o3 => (show (wr.setCell ⟨B, o3, none⟩ (.int .u8 (v : Int))).heap[B]? = some (.cells (ints .u8 (out s (o3 + 1))) 23 (0, 0)) by rw [set_block hx, hv]; rfl))
                  have HIk := Lib.hid hI
                  clear hx hI
                  generalize (out s o3).getD o3 0 = was at *
                  go_wp2
                  rw [show (x : Int) % 256 = ((outAt s o3 : Nat) : Int) by rw [HO3.out, outAt_of s k 3 (by decide), HX0.out]; simp]
                  refine ⟨⟨k + 1, by omega, by go_num, ?_, HIk.out.put HWB.out HKB.out HSB.out⟩, by simp [intOf]; omega⟩
                  rw [show 4 * (k + 1) = o3 + 1 by have := HO3.out; omega]
                  exact X.out _ rfl
                · obtain rfl : k = 8 := by omega
                  have hwx : wr.heap[w.heap.size]? = some (.cells (ints .u8 zeros32) 23 (0, 0)) := hI.2.1
                  have HX := Lib.hid hx
                  have H2 := Lib.hid hwx
                  have HBF := Lib.hid hI.1
                  clear hx hwx hI hk hk8
                  rw [show ((8 : Nat) : Int) = 8 from rfl]
                  have q32 : Hid ((Tryd.prog.info? 23).map (·.size) = some (ints .u8 (out s 32)).size) := by show _ = _; rw [size_ints, out_length]; kernel_rfl
                  have z32 : Hid ((ints .u8 zeros32).size = (ints .u8 (out s 32)).size) := by show _ = _; rw [size_ints, size_ints, out_length]; rfl
                  go_wp2_with (first | ((with_reducible refine at_load 23 ?_); refine wpList_load_row rfl 23 _ rfl B rfl _ _ _ _ HX.out Tryd.underlying23 rfl q32.out ?_) | ((with_reducible refine at_store 23 ?_); refine wpList_store_row rfl 23 _ _ rfl w.heap.size _ rfl rfl _ _ H2.out q32.out z32.out (one_ints _ _) ?_))
                  refine bodyPost_ret (v := .agg (ints .u8 (out s 32))) (results_cell_row rfl _ _ w.heap.size 23 _ (0, 0) _ rfl (heap_setRow H2.out _) Tryd.underlying23 rfl q32.out) rfl ?_
                  exact ⟨by rw [HOUT2.out], below_setRow HBF.out (Nat.le_refl _) _⟩
    · have hne : ¬ (l.length + 1 + z) % 64 = 56 := fun e => hzz ((gap_at l.length z hzg).1 e)
      have hm : (((l.length + 1 + z : Nat) : Int) % 64 != 56) = true := by
        rw [bne_iff_ne]; omega
      have hz1 := zpad_succ l z
      have hs1 : (bstr (zpad l (z + 1))).size = l.length + 1 + z + 1 := by rw [size_bstr, zpad_length]; omega
      have HS1 := Lib.hid hs1
      clear hs1 hne
      go_wp2
      refine ⟨⟨z + 1, by omega, rfl, trivial⟩, ?_⟩
      simp only [HS1.out, hsz]
      omega
end Go.Proofs.YtifcdmfkojhdnaaDoor

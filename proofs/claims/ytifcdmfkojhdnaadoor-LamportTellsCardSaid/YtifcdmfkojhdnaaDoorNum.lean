/-
  The walk of octet.Writer.Num: a number in so many bytes, the highest one first.
-/
import Derived.Test.YtifcdmfkojhdnaaDoorWriter
import Derived.Test.YtifcdmfkojhdnaaDoorEach
namespace Go.Proofs.YtifcdmfkojhdnaaDoor
open Go.RowKit Go.Shelf Sha
attribute [local go_sem] Oper.semAt_some
attribute [local go_sem ↓] Go.wp_at_zero Go.wp_at_succ

/-- A number in so many bytes. -/
def beL (x size : Nat) : List Nat := (List.range size).map fun i => x / 2 ^ (8 * (size - 1 - i)) % 256
theorem beL_length (x size : Nat) : (beL x size).length = size := by simp [beL]
theorem beL_lt (x size : Nat) : ∀ b ∈ beL x size, b < 256 := by
  intro b hb
  simp only [beL, List.mem_map] at hb
  obtain ⟨i, _, rfl⟩ := hb
  exact Nat.mod_lt _ (by decide)
theorem beL_take (x size i : Nat) (hi : i < size) : (beL x size).take i ++ [x / 2 ^ (8 * (size - 1 - i)) % 256] = (beL x size).take (i + 1) := by
  rw [List.take_add_one]
  congr 1
  unfold beL
  rw [List.getElem?_map, List.getElem?_range hi]
  rfl
theorem grown_below {w w' w'' : World} {ob : Option Nat} (h : w.grownBy w' ob) (hb : Below w'.heap.size w' w'') : w.grownBy w'' ob :=
  ⟨hb.os.trans h.os, hb.tape.trans h.tape, hb.output.trans h.output, Nat.le_trans h.size hb.size, fun k hk hn => (hb.block k (Nat.lt_of_lt_of_le hk h.size)).trans (h.block k hk hn)⟩
theorem below_then {w w' w'' : World} {ob : Option Nat} (hb : Below w.heap.size w w') (h : w'.grownBy w'' ob) : w.grownBy w'' ob :=
  ⟨h.os.trans hb.os, h.tape.trans hb.tape, h.output.trans hb.output, Nat.le_trans hb.size h.size, fun k hk hn => (h.block k (Nat.lt_of_lt_of_le hk hb.size) hn).trans (hb.block k hk)⟩
theorem grown_refl (w : World) (ob : Option Nat) : w.grownBy w ob := ⟨rfl, rfl, rfl, Nat.le_refl _, fun _ _ _ => rfl⟩
/-- One operation lets a row grow, the others make new memory alone. -/
def ExtO (m : Nat) (ob : Option Nat) (i : Nat) (w w' : World) : Prop := if i = m then w.grownBy w' ob else Below w.heap.size w w'
theorem ExtO.refl (m : Nat) (ob : Option Nat) (i : Nat) (w : World) : ExtO m ob i w w := by
  unfold ExtO
  split
  · exact grown_refl _ _
  · exact Below.refl _ _
theorem ExtO.grow {m : Nat} {ob : Option Nat} {w w' : World} (h : w.grownBy w' ob) : ExtO m ob m w w' := by unfold ExtO; rw [if_pos rfl]; exact h
theorem ExtO.below {m i : Nat} {ob : Option Nat} {w w' : World} (hi : i ≠ m) (h : Below w.heap.size w w') : ExtO m ob i w w' := by unfold ExtO; rw [if_neg hi]; exact h
theorem ExtO.out {m i : Nat} {ob : Option Nat} {w w' : World} (hi : i ≠ m) (h : ExtO m ob i w w') : Below w.heap.size w w' := by unfold ExtO at h; rwa [if_neg hi] at h
theorem ExtO.cell {m i : Nat} {ob : Option Nat} {w w' : World} {b j : Nat} {v : Value} (h : ExtO m ob i w w') (hc : b < w.heap.size ∧ w.cell? ⟨b, j, none⟩ = some v) (hne : some b ≠ ob) : b < w'.heap.size ∧ w'.cell? ⟨b, j, none⟩ = some v := by
  by_cases hi : i = m
  · subst hi
    unfold ExtO at h
    rw [if_pos rfl] at h
    exact ⟨Nat.lt_of_lt_of_le hc.1 h.size, by simp only [World.cell?] at hc ⊢; rw [h.block b hc.1 hne]; exact hc.2⟩
  · have hb := h.out hi
    exact ⟨Nat.lt_of_lt_of_le hc.1 hb.size, cell_below hb hc.2⟩
theorem owns_block_lt {w : World} {base e size n : Nat} {v : Value} {xs : List Value} (h : w.ownsRow base e size v n xs) (b : Nat) (hb : w.heap.size ≤ b) : some b ≠ v.ownBlock := by
  intro e
  rcases h.2 with ⟨rfl, _⟩ | ⟨g, cap, cur, rfl, _, k1, _⟩
  · simp [Value.ownBlock] at e
  · simp only [Value.ownBlock, Option.some.injEq] at e
    have := (Array.getElem?_eq_some_iff.1 k1).1
    omega
/-- append of one byte, as an operation. -/
theorem ex_append_byte {w : World} {d : Option Tmp} {ty : TypeId} {pos : String} {af : Array Edge} {gd : Option (Nat × Bool)} {ev : Operand → Value} {s x : Operand} (base : Nat) (v : Value) (l : List Nat) (hs : ev s = v) (hown : w.ownsRow base 5 1 v l.length (bcells l))
    (g c y : Nat) (hx : ev x = .slice (some ⟨g, 0, none⟩) 1 c) (hu : w.cell? ⟨g, 0, none⟩ = some (.int .u8 (y : Int))) (hb : l.length + 1 ≤ 1099511627776) (hbase : base ≤ w.heap.size) :
    ∃ v' w', (execOp ev ⟨d, .call { callee := .builtin .append, args := #[s, x], argTypes := #[24, 24] }, ty, pos, af, gd⟩).run Tryd.prog w = .ok (.value v') w' ∧
      w'.ownsRow base 5 1 v' (l ++ [y]).length (bcells (l ++ [y])) ∧ w.grownBy w' v.ownBlock := by
  obtain ⟨i, hi, hz, hsz, hby⟩ := info_parts info_byte
  obtain ⟨v', w', hr, h2, h3, _⟩ := run_append_own (P := Tryd.prog) w base 24 ty 5 i _ 1 1 Tryd.underlying24 hi hz hsz hby rfl (by decide) v l.length (bcells l) hown ⟨g, 0, none⟩ 1 c (bcells [y]) (by rw [bcells_length]; rfl)
    (fun j q hj => by
      rw [bcells_get] at hj
      match j, hj with
      | 0, hj =>
        simp only [List.getElem?_cons_zero, Option.map_some, Option.some.injEq] at hj
        subst hj
        rw [add_addr]
        exact hu
      | j + 1, hj => simp at hj) (bcells_one [y]) (by unfold maxLen; omega) (by omega) hbase
  refine ⟨v', w', ?_, by rw [List.length_append, bcells_append]; exact h2, h3⟩
  simp only [execOp, resolve, invoke, builtin, Sem.run_bind, Sem.run_pure, Result.andThen_ok, List.map_toArray, List.map_cons, List.map_nil, hs, hx, hr]
set_option maxHeartbeats 2000000 in
set_option maxRecDepth 100000 in
theorem num_any (base g : Nat) (l : List Nat) (x sz : Nat) (w : World) (hw : IsW base w g l) (hx : x < 18446744073709551616) (h1 : 1 ≤ sz) (h8 : sz ≤ 8) (hl : l.length ≤ 900000) :
    Calls Tryd.prog 32 #[.pointer (some ⟨g, 0, none⟩), .int .u64 (x : Int), .int .i64 (sz : Int)] w fun e w' => e = .returned (.tuple #[]) ∧ IsW base w' g (l ++ beL x sz) ∧ WStep base g w w' := by
  refine calls_of_wp Tryd.func32 rfl ?_
  simp only [Tryd.ntmps32, List.size_toArray, List.length_cons, List.length_nil, Nat.reduceAdd, Nat.reduceSub, Array.replicate_succ, Array.replicate_zero, List.push_toArray, List.append_toArray, List.nil_append, List.cons_append]
  have HW := Lib.hid hw
  have HX := Lib.hid hx
  have HH1 := Lib.hid h1
  have HH8 := Lib.hid h8
  have HL := Lib.hid hl
  have s8 : (sz : Int) ≤ 8 := by omega
  clear hw hx h1 h8 hl
  go_upto_region 1 with (go_at_call 43; refine (may_any sz _ HH1.out HH8.out).mono ?_; rintro e w2 ⟨rfl, rfl⟩)
  go_wp2
  go_loopw [6, 15] (fun _ iv wr => ∃ i : Nat, i ≤ sz ∧ iv = .int .i64 (i : Int) ∧ IsW base wr g (l ++ (beL x sz).take i) ∧ WStep base g w2 wr) (fun _ iv _ => sz - (intOf iv).toNat)
  case atStart => exact ⟨0, Nat.zero_le _, rfl, by rw [List.take_zero, List.append_nil]; exact HW.out, WStep.refl _ _ _⟩
  case round =>
    obtain ⟨i, hi, rfl, hW, hS⟩ := hrel
    by_cases his : i < sz
    · obtain ⟨b1, b0, v, b2, b3⟩ := hW
      obtain ⟨va, vc, hv⟩ := ownsRow_slice b3
      subst hv
      obtain ⟨m, hm⟩ : ∃ m, m = (l ++ (beL x sz).take i).length := ⟨_, rfl⟩
      obtain ⟨L, hLL⟩ : ∃ L, L = l ++ (beL x sz).take i := ⟨_, rfl⟩
      rw [← hLL] at hm b2 b3
      rw [← hm] at b2
      obtain ⟨s1, hs1⟩ : ∃ s1, s1 = sz - 1 := ⟨_, rfl⟩
      obtain ⟨s2, hs2⟩ : ∃ s2, s2 = s1 - i := ⟨_, rfl⟩
      obtain ⟨s3, hs3⟩ : ∃ s3, s3 = 8 * s2 := ⟨_, rfl⟩
      obtain ⟨y, hy⟩ : ∃ y, y = x / 2 ^ s3 := ⟨_, rfl⟩
      obtain ⟨z, hz⟩ : ∃ z, z = y % 256 := ⟨_, rfl⟩
      have F7 : Hid (IntKind.i64.wrap ((sz : Int) - 1) = (s1 : Int)) := by show _ = _; rw [IntWalk.i64_in _ (by omega)]; omega
      have F9 : Hid (IntKind.i64.wrap ((s1 : Int) - (i : Int)) = (s2 : Int)) := by show _ = _; rw [IntWalk.i64_in _ (by omega)]; omega
      have F10 : Hid (IntKind.i64.wrap (8 * (s2 : Int)) = (s3 : Int)) := by show _ = _; rw [IntWalk.i64_in _ (by omega)]; omega
      have hz1 : z < 256 := by rw [hz]; exact Nat.mod_lt _ (by decide)
      have HZV : Hid (L ++ [z] = l ++ (beL x sz).take (i + 1)) := by
        show _ = _
        rw [← beL_take x sz i his, ← List.append_assoc, ← hLL, hz, hy, hs3, hs2, hs1]
      have i0 : (0 : Int) ≤ (i : Int) := by omega
      have i1 : (i : Int) < (sz : Int) := by omega
      have F11 : Hid ((x : Int) / 2 ^ s3 = (y : Int)) := by show _ = _; rw [hy]; simp
      have F12 : Hid (IntKind.u8.wrap (y : Int) = (z : Int)) := by show _ = _; rw [IntKind.wrap_u8']; omega
      have k3 : (0 : Int) ≤ (s3 : Int) := by omega
      have k4 : (s3 : Int) ≤ 64 := by omega
      have HB1 := Lib.hid b1
      have HB0 := Lib.hid b0
      have HK2 := Lib.hid b2
      have HO : Hid (wr.ownsRow base 5 1 (.slice va m vc) L.length (bcells L)) := by rw [hm]; exact b3
      have HS := Lib.hid hS
      have HIS := Lib.hid his
      have HM : Hid (m ≤ 900009) := by
        show _ ≤ _
        rw [hm, hLL, List.length_append, List.length_take, beL_length]
        have := HL.out
        have := HH8.out
        omega
      have HMM := Lib.hid hm
      clear b1 b0 b2 b3 hS his hi hm hLL hs1 hs2 hs3 hy hz hz1
      go_upto_region 4 with fail
      have HNE : Hid (some g ≠ (Value.slice va m vc).ownBlock) := by
        intro e
        rcases HO.out.2 with ⟨e1, _⟩ | ⟨g1, c1, cur1, e1, _, k1, _⟩
        · simp only [Value.slice.injEq] at e1
          obtain ⟨rfl, _⟩ := e1
          simp [Value.ownBlock] at e
        · simp only [Value.slice.injEq] at e1
          obtain ⟨rfl, _⟩ := e1
          simp only [Value.ownBlock, Option.some.injEq] at e
          subst e
          rw [HK2.out] at k1
          simp only [Option.some.injEq, Obj.cells.injEq] at k1
          exact absurd k1.2.1 (by decide)
      refine Each.region_most (front := ?front1) (ol := ?ol1) ?snoc1 (by kernel_rfl) ?chk1 ?fits1 ?gl1 (fun dn w1 => (dn 14 = false → Below wr.heap.size wr w1) ∧ wr.grownBy w1 (Value.slice va m vc).ownBlock) (ExtO 14 (Value.slice va m vc).ownBlock) (Each.nth [fun v _ => v = .pointer (some ⟨g, 0, none⟩), fun v _ => v = .pointer (some ⟨g, 0, none⟩), fun v _ => v = .pointer (some ⟨g, 0, none⟩), fun v _ => v = .pointer (some ⟨g, 0, none⟩), fun v _ => v = .slice va m vc, fun v _ => v = .int .u64 x, fun v _ => v = .int .i64 sz, fun v _ => v = .int .i64 s1, fun v _ => v = .int .i64 i, fun v _ => v = .int .i64 s2, fun v _ => v = .int .i64 s3, fun v _ => v = .int .u64 y, fun v _ => v = .int .u8 z, fun v w1 => ∃ b, v = .slice (some ⟨b, 0, none⟩) 1 1 ∧ some b ≠ (Value.slice va m vc).ownBlock ∧ (b < w1.heap.size ∧ w1.cell? ⟨b, 0, none⟩ = some (.int .u8 (z : Int))), fun v w1 => w1.ownsRow base 5 1 v (L ++ [z]).length (bcells (L ++ [z])), fun v _ => v = .pointer (some ⟨g, 0, none⟩), fun v _ => v = .pointer (some ⟨g, 0, none⟩)]) (ExtO.refl 14 (Value.slice va m vc).ownBlock) (fun i dn w ho h => by obtain ⟨o, ho1, ho2⟩ := ho; exact absurd (Each.bare_at (by kernel_rfl) ho1) ho2) ?stab1 (⟨fun _ => (Below.refl _ _).drew, grown_below (grown_refl _ _) (Below.refl _ _).drew⟩) ?hob1 ?hend1
      case snoc1 => exact (.cons _ (.cons _ (.cons _ (.cons _ (.cons _ (.cons _ (.cons _ (.cons _ (.cons _ (.cons _ (.cons _ (.cons _ (.cons _ (.cons _ (.cons _ (.cons _ (.cons _ (.one _))))))))))))))))))
      case chk1 => kernel_rfl
      case fits1 => kernel_rfl
      case gl1 => rfl
      case stab1 =>
        refine Each.nth_stab _ ?_
        refine Each.stab_cons (fun _ _ _ _ _ _ _ e => e) ?_
        refine Each.stab_cons (fun _ _ _ _ _ _ _ e => e) ?_
        refine Each.stab_cons (fun _ _ _ _ _ _ _ e => e) ?_
        refine Each.stab_cons (fun _ _ _ _ _ _ _ e => e) ?_
        refine Each.stab_cons (fun _ _ _ _ _ _ _ e => e) ?_
        refine Each.stab_cons (fun _ _ _ _ _ _ _ e => e) ?_
        refine Each.stab_cons (fun _ _ _ _ _ _ _ e => e) ?_
        refine Each.stab_cons (fun _ _ _ _ _ _ _ e => e) ?_
        refine Each.stab_cons (fun _ _ _ _ _ _ _ e => e) ?_
        refine Each.stab_cons (fun _ _ _ _ _ _ _ e => e) ?_
        refine Each.stab_cons (fun _ _ _ _ _ _ _ e => e) ?_
        refine Each.stab_cons (fun _ _ _ _ _ _ _ e => e) ?_
        refine Each.stab_cons (fun _ _ _ _ _ _ _ e => e) ?_
        refine Each.stab_cons (fun i v w w' hne hnd h e => e.imp fun b e => ⟨e.1, e.2.1, ExtO.cell h e.2.2 e.2.1⟩) ?_
        refine Each.stab_cons (fun i v w w' hne hnd h e => wo_later e (h.out hne)) ?_
        refine Each.stab_cons (fun _ _ _ _ _ _ _ e => e) ?_
        refine Each.stab_cons (fun _ _ _ _ _ _ _ e => e) ?_
        exact Each.stab_nil
      case hob1 =>
        refine Each.obvs_cons (Each.obv_val (fun w => (ExtO.refl 14 (Value.slice va m vc).ownBlock) _ w) (fun _ w h => ⟨fun h9 => h.1 (by simpa [Each.upd] using h9), h.2⟩) _ (fun ev vs dn w1 he hk hg hfn hI hf hc hd => ⟨trivial, ?_, rfl⟩)) ?_
        · have e0 : ev (.tmp 0) = .pointer (some ⟨g, 0, none⟩) := (he 0).trans (by kernel_rfl)
          clear hd hf hc he
          go_simp
          try first | exact IntWalk.i64_in _ (by omega) | exact IntWalk.u64_in _ (by omega) | exact IntWalk.u32_in _ (by omega)
        refine Each.obvs_cons (Each.obv_val (fun w => (ExtO.refl 14 (Value.slice va m vc).ownBlock) _ w) (fun _ w h => ⟨fun h9 => h.1 (by simpa [Each.upd] using h9), h.2⟩) _ (fun ev vs dn w1 he hk hg hfn hI hf hc hd => ⟨trivial, ?_, rfl⟩)) ?_
        · have e0 : ev (.tmp 0) = .pointer (some ⟨g, 0, none⟩) := (he 0).trans (by kernel_rfl)
          clear hd hf hc he
          go_simp
          try first | exact IntWalk.i64_in _ (by omega) | exact IntWalk.u64_in _ (by omega) | exact IntWalk.u32_in _ (by omega)
        refine Each.obvs_cons (Each.obv_val (fun w => (ExtO.refl 14 (Value.slice va m vc).ownBlock) _ w) (fun _ w h => ⟨fun h9 => h.1 (by simpa [Each.upd] using h9), h.2⟩) _ (fun ev vs dn w1 he hk hg hfn hI hf hc hd => ⟨trivial, ?_, rfl⟩)) ?_
        · have h1 : vs 1 = _ := hd 1 (by decide)
          have e19 : ev (.tmp 19) = vs 1 := (he 19).trans (by kernel_rfl)
          rw [h1] at e19
          clear hd hf hc he
          clear h1
          go_simp
          try first | exact IntWalk.i64_in _ (by omega) | exact IntWalk.u64_in _ (by omega) | exact IntWalk.u32_in _ (by omega)
        refine Each.obvs_cons (Each.obv_val (fun w => (ExtO.refl 14 (Value.slice va m vc).ownBlock) _ w) (fun _ w h => ⟨fun h9 => h.1 (by simpa [Each.upd] using h9), h.2⟩) _ (fun ev vs dn w1 he hk hg hfn hI hf hc hd => ⟨trivial, ?_, rfl⟩)) ?_
        · have h2 : vs 2 = _ := hd 2 (by decide)
          have e20 : ev (.tmp 20) = vs 2 := (he 20).trans (by kernel_rfl)
          rw [h2] at e20
          clear hd hf hc he
          clear h2
          go_simp
          try first | exact IntWalk.i64_in _ (by omega) | exact IntWalk.u64_in _ (by omega) | exact IntWalk.u32_in _ (by omega)
        refine Each.obvs_cons (Each.obv_val (fun w => (ExtO.refl 14 (Value.slice va m vc).ownBlock) _ w) (fun _ w h => ⟨fun h9 => h.1 (by simpa [Each.upd] using h9), h.2⟩) _ (fun ev vs dn w1 he hk hg hfn hI hf hc hd => ⟨trivial, ?_, rfl⟩)) ?_
        · have h3 : vs 3 = _ := hd 3 (by decide)
          have e21 : ev (.tmp 21) = vs 3 := (he 21).trans (by kernel_rfl)
          rw [h3] at e21
          clear hd he
          clear h3
          have hcell := box_cellW ((hI.2.block g (Array.getElem?_eq_some_iff.1 HK2.out).1 HNE.out).trans HK2.out)
          clear hI hf hc
          go_simp
        refine Each.obvs_cons (Each.obv_val (fun w => (ExtO.refl 14 (Value.slice va m vc).ownBlock) _ w) (fun _ w h => ⟨fun h9 => h.1 (by simpa [Each.upd] using h9), h.2⟩) _ (fun ev vs dn w1 he hk hg hfn hI hf hc hd => ⟨trivial, ?_, rfl⟩)) ?_
        · have e1 : ev (.tmp 1) = .int .u64 x := (he 1).trans (by kernel_rfl)
          clear hd hf hc he
          go_simp
          try first | exact IntWalk.i64_in _ (by omega) | exact IntWalk.u64_in _ (by omega) | exact IntWalk.u32_in _ (by omega)
        refine Each.obvs_cons (Each.obv_val (fun w => (ExtO.refl 14 (Value.slice va m vc).ownBlock) _ w) (fun _ w h => ⟨fun h9 => h.1 (by simpa [Each.upd] using h9), h.2⟩) _ (fun ev vs dn w1 he hk hg hfn hI hf hc hd => ⟨trivial, ?_, rfl⟩)) ?_
        · have e2 : ev (.tmp 2) = .int .i64 sz := (he 2).trans (by kernel_rfl)
          clear hd hf hc he
          go_simp
          try first | exact IntWalk.i64_in _ (by omega) | exact IntWalk.u64_in _ (by omega) | exact IntWalk.u32_in _ (by omega)
        refine Each.obvs_cons (Each.obv_val (fun w => (ExtO.refl 14 (Value.slice va m vc).ownBlock) _ w) (fun _ w h => ⟨fun h9 => h.1 (by simpa [Each.upd] using h9), h.2⟩) _ (fun ev vs dn w1 he hk hg hfn hI hf hc hd => ⟨trivial, ?_, rfl⟩)) ?_
        · have h6 : vs 6 = _ := hd 6 (by decide)
          have e24 : ev (.tmp 24) = vs 6 := (he 24).trans (by kernel_rfl)
          rw [h6] at e24
          clear hd hf hc he
          clear h6
          go_simp
          exact F7.out
        refine Each.obvs_cons (Each.obv_val (fun w => (ExtO.refl 14 (Value.slice va m vc).ownBlock) _ w) (fun _ w h => ⟨fun h9 => h.1 (by simpa [Each.upd] using h9), h.2⟩) _ (fun ev vs dn w1 he hk hg hfn hI hf hc hd => ⟨trivial, ?_, rfl⟩)) ?_
        · have e6 : ev (.tmp 6) = .int .i64 i := (he 6).trans (by kernel_rfl)
          clear hd hf hc he
          go_simp
          try first | exact IntWalk.i64_in _ (by omega) | exact IntWalk.u64_in _ (by omega) | exact IntWalk.u32_in _ (by omega)
        refine Each.obvs_cons (Each.obv_val (fun w => (ExtO.refl 14 (Value.slice va m vc).ownBlock) _ w) (fun _ w h => ⟨fun h9 => h.1 (by simpa [Each.upd] using h9), h.2⟩) _ (fun ev vs dn w1 he hk hg hfn hI hf hc hd => ⟨trivial, ?_, rfl⟩)) ?_
        · have h7 : vs 7 = _ := hd 7 (by decide)
          have h8 : vs 8 = _ := hd 8 (by decide)
          have e25 : ev (.tmp 25) = vs 7 := (he 25).trans (by kernel_rfl)
          rw [h7] at e25
          have e26 : ev (.tmp 26) = vs 8 := (he 26).trans (by kernel_rfl)
          rw [h8] at e26
          clear hd hf hc he
          clear h7 h8
          go_simp
          exact F9.out
        refine Each.obvs_cons (Each.obv_val (fun w => (ExtO.refl 14 (Value.slice va m vc).ownBlock) _ w) (fun _ w h => ⟨fun h9 => h.1 (by simpa [Each.upd] using h9), h.2⟩) _ (fun ev vs dn w1 he hk hg hfn hI hf hc hd => ⟨trivial, ?_, rfl⟩)) ?_
        · have h9 : vs 9 = _ := hd 9 (by decide)
          have e27 : ev (.tmp 27) = vs 9 := (he 27).trans (by kernel_rfl)
          rw [h9] at e27
          clear hd hf hc he
          clear h9
          go_simp
          exact F10.out
        refine Each.obvs_cons (Each.obv_val (fun w => (ExtO.refl 14 (Value.slice va m vc).ownBlock) _ w) (fun _ w h => ⟨fun h9 => h.1 (by simpa [Each.upd] using h9), h.2⟩) _ (fun ev vs dn w1 he hk hg hfn hI hf hc hd => ⟨trivial, ?_, rfl⟩)) ?_
        · have h5 : vs 5 = _ := hd 5 (by decide)
          have h10 : vs 10 = _ := hd 10 (by decide)
          have e23 : ev (.tmp 23) = vs 5 := (he 23).trans (by kernel_rfl)
          rw [h5] at e23
          have e28 : ev (.tmp 28) = vs 10 := (he 28).trans (by kernel_rfl)
          rw [h10] at e28
          clear hd hf hc he
          clear h5 h10
          go_simp
          exact F11.out
        refine Each.obvs_cons (Each.obv_val (fun w => (ExtO.refl 14 (Value.slice va m vc).ownBlock) _ w) (fun _ w h => ⟨fun h9 => h.1 (by simpa [Each.upd] using h9), h.2⟩) _ (fun ev vs dn w1 he hk hg hfn hI hf hc hd => ⟨trivial, ?_, rfl⟩)) ?_
        · have h11 : vs 11 = _ := hd 11 (by decide)
          have e29 : ev (.tmp 29) = vs 11 := (he 29).trans (by kernel_rfl)
          rw [h11] at e29
          clear hd hf hc he
          clear h11
          go_simp
          exact F12.out
        refine Each.obvs_cons (Each.obv_new (fun ev vs dn w1 he hk hg hfn hI hf hc hd => ⟨trivial, ?_⟩)) ?_
        · have h12 : vs 12 = _ := hd 12 (by decide)
          have e30 : ev (.tmp 30) = vs 12 := (he 30).trans (by kernel_rfl)
          rw [h12] at e30
          clear hd he
          clear h12
          have hb := (Below.refl w1.heap.size w1).alloc (Nat.le_refl _) (.cells #[.int .u8 (z : Int)] 5)
          refine ⟨.slice (some ⟨w1.heap.size, 0, none⟩) 1 1, w1.alloc (.cells #[.int .u8 (z : Int)] 5), ?_, ⟨fun h => (hI.1 (by simpa [Each.upd] using h)).trans (hb.mono (hI.1 (by simpa [Each.upd] using h)).size), grown_below hI.2 hb⟩, ExtO.below (by decide) hb, w1.heap.size, rfl, owns_block_lt HO.out _ hI.2.size, by rw [World.size_alloc]; omega, box_cellW (heap_alloc_new _ _)⟩
          clear hI hf hc hb
          go_simp
        refine Each.obvs_cons (Each.obv_new (fun ev vs dn w1 he hk hg hfn hI hf hc hd => ⟨trivial, ?_⟩)) ?_
        · have h4 : vs 4 = _ := hd 4 (by decide)
          have h13 := hd 13 (by decide)
          have e22 : ev (.tmp 22) = vs 4 := (he 22).trans (by kernel_rfl)
          rw [h4] at e22
          have e31 : ev (.tmp 31) = vs 13 := (he 31).trans (by kernel_rfl)
          clear hd he
          clear h4
          obtain ⟨b, hv, hbg, hN⟩ := h13
          have hB1 := hI.1 hf
          rw [hv] at e31
          obtain ⟨v2, w2, hr, ho2, hg2⟩ := ex_append_byte (d := some 32) (ty := 24) base (.slice va m vc) L (by exact e22) (wo_later HO.out hB1) b 1 z (by exact e31) hN.2 (by have a1 := HM.out; have a2 := HMM.out; omega) (Nat.le_trans HB0.out hB1.size)
          exact ⟨v2, w2, hr, ⟨fun h => by simp [Each.upd] at h, below_then hB1 hg2⟩, ExtO.grow hg2, ho2⟩
        refine Each.obvs_cons (Each.obv_val (fun w => (ExtO.refl 14 (Value.slice va m vc).ownBlock) _ w) (fun _ w h => ⟨fun h9 => h.1 (by simpa [Each.upd] using h9), h.2⟩) _ (fun ev vs dn w1 he hk hg hfn hI hf hc hd => ⟨trivial, ?_, rfl⟩)) ?_
        · have h0 : vs 0 = _ := hd 0 (by decide)
          have h1 : vs 1 = _ := hd 1 (by decide)
          have h2 : vs 2 = _ := hd 2 (by decide)
          have h3 : vs 3 = _ := hd 3 (by decide)
          have h4 : vs 4 = _ := hd 4 (by decide)
          have h5 : vs 5 = _ := hd 5 (by decide)
          have h6 : vs 6 = _ := hd 6 (by decide)
          have h7 : vs 7 = _ := hd 7 (by decide)
          have h8 : vs 8 = _ := hd 8 (by decide)
          have h9 : vs 9 = _ := hd 9 (by decide)
          have h10 : vs 10 = _ := hd 10 (by decide)
          have h11 : vs 11 = _ := hd 11 (by decide)
          have h12 : vs 12 = _ := hd 12 (by decide)
          have h13 := hd 13 (by decide)
          have h14 := hd 14 (by decide)
          have e18 : ev (.tmp 18) = vs 0 := (he 18).trans (by kernel_rfl)
          rw [h0] at e18
          clear hd hf hc he
          clear h0 h1 h2 h3 h4 h5 h6 h7 h8 h9 h10 h11 h12
          go_simp
          try first | exact IntWalk.i64_in _ (by omega) | exact IntWalk.u64_in _ (by omega) | exact IntWalk.u32_in _ (by omega)
        refine Each.obvs_cons (Each.obv_val (fun w => (ExtO.refl 14 (Value.slice va m vc).ownBlock) _ w) (fun _ w h => ⟨fun h9 => h.1 (by simpa [Each.upd] using h9), h.2⟩) _ (fun ev vs dn w1 he hk hg hfn hI hf hc hd => ⟨trivial, ?_, rfl⟩)) ?_
        · have h0 : vs 0 = _ := hd 0 (by decide)
          have h1 : vs 1 = _ := hd 1 (by decide)
          have h2 : vs 2 = _ := hd 2 (by decide)
          have h3 : vs 3 = _ := hd 3 (by decide)
          have h4 : vs 4 = _ := hd 4 (by decide)
          have h5 : vs 5 = _ := hd 5 (by decide)
          have h6 : vs 6 = _ := hd 6 (by decide)
          have h7 : vs 7 = _ := hd 7 (by decide)
          have h8 : vs 8 = _ := hd 8 (by decide)
          have h9 : vs 9 = _ := hd 9 (by decide)
          have h10 : vs 10 = _ := hd 10 (by decide)
          have h11 : vs 11 = _ := hd 11 (by decide)
          have h12 : vs 12 = _ := hd 12 (by decide)
          have h13 := hd 13 (by decide)
          have h14 := hd 14 (by decide)
          have h15 : vs 15 = _ := hd 15 (by decide)
          have e33 : ev (.tmp 33) = vs 15 := (he 33).trans (by kernel_rfl)
          rw [h15] at e33
          clear hd hf hc he
          clear h0 h1 h2 h3 h4 h5 h6 h7 h8 h9 h10 h11 h12 h15
          go_simp
          try first | exact IntWalk.i64_in _ (by omega) | exact IntWalk.u64_in _ (by omega) | exact IntWalk.u32_in _ (by omega)
        exact Each.obvs_nil
      case hend1 =>
        intro vs dn wx hI hR
        have h14 : wx.ownsRow base 5 1 (vs 14) (L ++ [z]).length (bcells (L ++ [z])) := hR 14 (by decide)
        have h16 : vs 16 = _ := hR 16 (by decide)
        have hg9 := hI.2
        clear hR hI
        simp only [Each.puts, Act.put, List.setIfInBounds_toArray, List.set_cons_zero, List.set_cons_succ, Nat.zero_add, Nat.reduceAdd]
        rw [h16]
        clear h16
        have hP := wstep_put HB1.out HB0.out HK2.out HO.out h14 hg9
        obtain ⟨a6, c6, hv6⟩ := ownsRow_slice h14
        rw [hv6] at hP ⊢
        clear hv6 h14 hg9
        have hlen : (L ++ [z]).length = L.length + 1 := by simp
        rw [hlen] at hP ⊢
        clear hlen
        have HP9 := Lib.hid hP
        have hcell6 := box_cellW hP.2.2
        have hfz6 := frozen_of_row wx g 0 _ _ hP.2.2
        clear hP
        go_wp2
        exact ⟨⟨i + 1, by have := HIS.out; omega, by go_num, by have h9 := HP9.out.1; rw [HZV.out] at h9; exact h9, HS.out.trans HP9.out.2.1⟩, by have := HIS.out; simp [intOf]; omega⟩
    · obtain rfl : i = sz := by omega
      rw [List.take_of_length_le (by rw [beL_length]; exact Nat.le_refl _)] at hW
      have ii : ¬ (i : Int) < (i : Int) := by omega
      clear his hi
      go_wp2
      go_end0
      exact ⟨rfl, hW, hS⟩
end Go.Proofs.YtifcdmfkojhdnaaDoor

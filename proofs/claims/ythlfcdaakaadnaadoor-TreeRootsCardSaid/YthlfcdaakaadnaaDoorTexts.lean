/-
  Bytes read as a text; assayerlaw03.texts.
-/
import Derived.Test.YthlfcdaakaadnaaDoorStrs
import Derived.Laws.BytesArg
namespace Go.Proofs.YthlfcdaakaadnaaDoor
open Go.RowKit Go.Shelf Sha
attribute [local go_sem] Oper.semAt_some
attribute [local go_sem ↓] Go.wp_at_zero Go.wp_at_succ

theorem str_bstr (l : List Nat) : strOfNums (l.map fun (x : Nat) => (x : Int)) = bstr l := by
  simp [strOfNums, bstr]
theorem conv_text {w : World} {v : Value} {l : List Nat} (h : Bytes w v l) : (convert 40 9 v).run Tryd.prog w = .ok (.string (bstr l)) w := by
  obtain ⟨a, c, rfl, h2, h3, h4, h5, h6⟩ := h
  cases a with
  | none =>
    have hl : l = [] := List.eq_nil_of_length_eq_zero (by have := h4 rfl; omega)
    subst hl
    rw [run_convert_bytes_nil w 40 5 Tryd.underlying40 Tryd.underlying5 _ _ 9 Tryd.underlying9]
    rfl
  | some a =>
    by_cases h0 : l.length = 0
    · have hl : l = [] := List.eq_nil_of_length_eq_zero h0
      subst hl
      rw [run_convert_bytes_string w 40 9 5 _ _ _ Tryd.underlying40 Tryd.underlying5 Tryd.underlying9, run_bytesToString w a _ _ [] (by simpa using run_loadCells_list (P := Tryd.prog) w a [] (fun j v hj => by simp at hj))]
      rfl
    · obtain ⟨b, o, e, _⟩ := h6 0 l[0] (List.getElem?_eq_getElem (by omega))
      cases e
      rw [run_convert_bytes_arg w 40 5 Tryd.underlying40 Tryd.underlying5 b o l.length c (l.map fun (x : Nat) => (x : Int)) (by simp) (fun i hi => by
        obtain ⟨b', o', e, hc⟩ := h6 i l[i] (List.getElem?_eq_getElem hi)
        cases e
        rw [hc, List.getD_eq_getElem?_getD, List.getElem?_map, List.getElem?_eq_getElem hi]; rfl) 9 Tryd.underlying9, str_bstr]
/-- Bytes as a text, as an operation. -/
theorem ex_conv_text {w : World} {d : Option Tmp} {ty : TypeId} {pos : String} {af : Array Edge} {gd : Option (Nat × Bool)} {ev : Operand → Value} {x : Operand} {v : Value} {l : List Nat} (hx : ev x = v) (h : Bytes w v l) :
    (execOp ev ⟨d, .convert 40 9 x, ty, pos, af, gd⟩).run Tryd.prog w = .ok (.value (.string (bstr l))) w := by
  simp only [execOp, hx, Sem.run_bind, conv_text h, Result.andThen_ok]
  rfl
section
variable {P : Program} {w : World} {ops : Array Oper} {rest : List Oper} {o : Oper} {a : Act} {Q : Exit → Act → World → Prop} {d : Option Tmp} {x : Operand} {ty : TypeId} {pos : String} {af : Array Edge} {gd : Option (Nat × Bool)}
theorem at_convert (S T : TypeId) (h : wpList P ops Q (⟨d, .convert S T x, ty, pos, af, gd⟩ :: rest) a w) : wpList P ops Q (⟨d, .convert S T x, ty, pos, af, gd⟩ :: rest) a w := h
end
section
variable {w : World} {ops : Array Oper} {rest : List Oper} {o : Oper} {a : Act} {Q : Exit → Act → World → Prop}
theorem wpList_conv_text (hgd : o.guard = none) (x : Operand) (ho : o.op = .convert 40 9 x) (v : Value) (l : List Nat) (hx : a.eval x = v) (hb : Bytes w v l)
    (h : wpList Tryd.prog ops Q rest (a.put o.dst (.string (bstr l))) w) : wpList Tryd.prog ops Q (o :: rest) a w := by
  refine wpList_op hgd _ _ ?_ h
  simp only [execOp, ho, hx, Sem.run_bind, conv_text hb, Result.andThen_ok]
  rfl
def scells (l : List (List Nat)) : List Value := l.map fun x => Value.string (bstr x)
theorem scells_length (l : List (List Nat)) : (scells l).length = l.length := by simp [scells]
theorem scells_append (l r : List (List Nat)) : scells (l ++ r) = scells l ++ scells r := by simp [scells]
theorem scells_get (l : List (List Nat)) (j : Nat) : (scells l)[j]? = (l[j]?).map fun x => Value.string (bstr x) := by simp [scells]
theorem scells_one (l : List (List Nat)) : ∀ u ∈ scells l, u.oneCell' = true := by
  intro u hu
  simp only [scells, List.mem_map] at hu
  obtain ⟨x, _, rfl⟩ := hu
  rfl
theorem info_string : (Tryd.prog.info? 9).map (fun i => (i.zero, i.size, i.bytes)) = some (some (.string ⟨#[]⟩), 1, 16) := by kernel_rfl
/-- append of a text onto texts that the call owns. -/
theorem append_text (hgd : o.guard = none) (s x : Operand) (ho : o.op = .call { callee := .builtin .append, args := #[s, x], argTypes := #[26, 26] })
    (base : Nat) (v : Value) (l : List (List Nat)) (hs : a.eval s = v) (hown : w.ownsRow base 9 1 v l.length (scells l))
    (g c : Nat) (y : List Nat) (hx : a.eval x = .slice (some ⟨g, 0, none⟩) 1 c) (hu : w.cell? ⟨g, 0, none⟩ = some (.string (bstr y))) (hb : l.length + 1 ≤ 1099511627776) (hbase : base ≤ w.heap.size)
    (h : ∀ v' w', w'.ownsRow base 9 1 v' (l ++ [y]).length (scells (l ++ [y])) → w.grownBy w' v.ownBlock → wpList Tryd.prog ops Q rest (a.put o.dst v') w') : wpList Tryd.prog ops Q (o :: rest) a w := by
  obtain ⟨i, hi, hz, hsz, hby⟩ := info_parts info_string
  refine wpList_append_src hgd s x 26 ho base 9 i _ 1 16 Tryd.underlying26 hi hz hsz hby rfl (by decide) v l.length (scells l) hs hown (some ⟨g, 0, none⟩) 1 c (scells [y]) hx (by rw [scells_length]; rfl) ?_ (by simp) (scells_one [y]) (by unfold maxLen; omega) (by omega) hbase ?_
  · intro j q hj
    rw [scells_get] at hj
    match j, hj with
    | 0, hj =>
      simp only [List.getElem?_cons_zero, Option.map_some, Option.some.injEq] at hj
      subst hj
      exact ⟨⟨g, 0, none⟩, rfl, by rw [add_addr]; exact hu⟩
    | j + 1, hj => simp at hj
  · intro v' w' hv hg _
    exact h v' w' (by rw [List.length_append, scells_append]; exact hv) hg
end
theorem strs_owned {w : World} {base : Nat} {v : Value} {l : List (List Nat)} (h : w.ownsRow base 9 1 v l.length (scells l)) : Strs w v l := by
  have h' := h
  obtain ⟨_, h2⟩ := h
  rcases h2 with ⟨rfl, h0⟩ | ⟨g, cap, cur, rfl, _, hg, hn, hm, hs, ht⟩
  · obtain rfl : l = [] := List.eq_nil_of_length_eq_zero h0
    exact ⟨none, 0, rfl, Nat.le_refl _, Nat.zero_le _, fun _ => rfl, fun j l hj => by simp at hj⟩
  · refine ⟨_, cap, rfl, hn, hm, by simp, fun j x hj => ⟨g, 0, rfl, (Array.getElem?_eq_some_iff.1 hg).1, ?_⟩⟩
    have := World.ownsRow.cells h' (g := g) rfl j (.string (bstr x)) (by rw [scells_get, hj]; rfl)
    rw [add_addr] at this
    exact this

set_option maxHeartbeats 1000000 in
set_option maxRecDepth 100000 in
theorem texts_any (v : Value) (ls : List (List Nat)) (w : World) (hv : ByteRows w v ls) (hn : ls.length ≤ 1000) :
    Calls Tryd.prog 12 #[v] w fun e w' => ∃ v', e = .returned v' ∧ Strs w' v' ls ∧ Below w.heap.size w w' := by
  obtain ⟨a, c, rfl, _, _, _, hr⟩ := hv
  refine calls_of_wp Tryd.func12 rfl ?_
  simp only [Tryd.ntmps12, List.size_toArray, List.length_cons, List.length_nil, Nat.reduceAdd, Nat.reduceSub, Array.replicate_succ, Array.replicate_zero, List.push_toArray, List.append_toArray, List.nil_append, List.cons_append]
  obtain ⟨n, hnn⟩ : ∃ n, n = ls.length := ⟨_, rfl⟩
  rw [← hnn] at hn ⊢
  have HR := Lib.hid hr
  have HNN := Lib.hid hnn
  have HN := Lib.hid hn
  have nI : (n : Int) ≤ 1000 := by omega
  clear hr hnn hn
  go_wp2
  go_loopw [3, 4] (fun v3 iv wr => ∃ i : Nat, i ≤ n ∧ iv = .int .i64 (i : Int) ∧ wr.ownsRow w.heap.size 9 1 v3 (ls.take i).length (scells (ls.take i)) ∧ Below w.heap.size w wr) (fun _ iv _ => n - (intOf iv).toNat)
  case atStart => exact ⟨0, Nat.zero_le _, rfl, ⟨rfl, Or.inl ⟨rfl, rfl⟩⟩, Below.refl _ _⟩
  case round =>
    obtain ⟨i, hi, rfl, hown, hB⟩ := hrel
    by_cases hin : i < n
    · obtain ⟨l, hl⟩ : ∃ l, ls[i]? = some l := ⟨_, List.getElem?_eq_getElem (by rw [← HNN.out]; exact hin)⟩
      obtain ⟨b, o, x, rfl, hcell, hbytes⟩ := HR.out i l hl
      have i0 : (0 : Int) ≤ (i : Int) := by omega
      have i1 : (i : Int) < (n : Int) := by omega
      have hcell2 := cell_below hB hcell
      have HBY := Lib.hid (hbytes.later (hB.mono (Nat.le_refl _)))
      have hts : ls.take i ++ [l] = ls.take (i + 1) := by rw [List.take_add_one, hl]; rfl
      have hln : (ls.take i).length = i := by rw [List.length_take, ← HNN.out]; omega
      obtain ⟨a3, c3, hv3⟩ := ownsRow_slice hown
      rw [hln] at hv3
      have hx17 : (wr.alloc (.cells #[.string (bstr l)] 9)).cell? ⟨wr.heap.size, 0, none⟩ = some (.string (bstr l)) := box_cell (heap_alloc_new _ _)
      have ho2 := owns_later hown ((Below.refl _ wr).alloc (Nat.le_refl _) (.cells #[.string (bstr l)] 9))
      have hB2 := hB.alloc hB.size (.cells #[.string (bstr l)] 9)
      have HLN := Lib.hid hln
      have HTS := Lib.hid hts
      have HO := Lib.hid hown
      have HB := Lib.hid hB
      have HI := Lib.hid hin
      clear hl hcell hbytes hts hln hown hB hin hi
      subst hv3
      go_upto_region 4 with (first
        | ((with_reducible refine at_convert 40 9 ?_); refine wpList_conv_text rfl _ rfl _ l rfl HBY.out ?_)
        | (at_builtin; refine append_text rfl _ _ rfl w.heap.size _ (ls.take i) (by exact rfl) ho2 _ 1 l rfl hx17 (by rw [HLN.out]; have := HN.out; have := HI.out; omega) hB2.size ?_; intro v6 w6 hown9 hgrow6))
      have hB6 := below_grown hB2 ho2 hgrow6 hB2.size
      rw [HTS.out] at hown9
      have H9 := Lib.hid hown9
      have HB6 := Lib.hid hB6
      clear hown9 hB6 hgrow6 ho2 hB2 hx17
      go_wp2
      exact ⟨⟨i + 1, by have := HI.out; omega, by go_num, H9.out, HB6.out⟩, by have := HI.out; simp [intOf]; omega⟩
    · obtain rfl : i = n := by omega
      rw [HNN.out, List.take_length] at hown
      have HO := Lib.hid hown
      have HB := Lib.hid hB
      have ii : ¬ (i : Int) < (i : Int) := by omega
      clear hown hB hin hi
      go_wp2
      refine bodyPost_ret (results_tmp rfl _ _ _) rfl ?_
      exact ⟨_, rfl, strs_owned HO.out, HB.out⟩
end Go.Proofs.YthlfcdaakaadnaaDoor

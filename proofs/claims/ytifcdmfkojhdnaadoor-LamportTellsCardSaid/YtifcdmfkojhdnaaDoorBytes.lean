/-
  Rows of bytes in memory: how a slice of bytes, and a slice of such slices, is read; append of bytes onto a row that the call itself owns.
-/
import Derived.Test.YtifcdmfkojhdnaaDoorBase
import Derived.Laws.AppendOwnNone
import Derived.Lib.AppendZeros
namespace Go.Proofs.YtifcdmfkojhdnaaDoor
open Go.RowKit

/-- Bytes as cells. -/
def bcells (l : List Nat) : List Value := l.map fun (x : Nat) => Value.int .u8 (x : Int)
theorem bcells_length (l : List Nat) : (bcells l).length = l.length := by simp [bcells]
theorem bcells_append (l r : List Nat) : bcells (l ++ r) = bcells l ++ bcells r := by simp [bcells]
theorem bcells_get (l : List Nat) (j : Nat) : (bcells l)[j]? = (l[j]?).map fun (x : Nat) => Value.int .u8 (x : Int) := by simp [bcells]
theorem bcells_one (l : List Nat) : ∀ u ∈ bcells l, u.oneCell' = true := by
  intro u hu
  simp only [bcells, List.mem_map] at hu
  obtain ⟨x, _, rfl⟩ := hu
  rfl
theorem ints_eq (l : List Nat) : ints .u8 l = (bcells l).toArray := rfl

/-- A slice value that reads as bytes. -/
def Bytes (w : World) (v : Value) (l : List Nat) : Prop :=
  ∃ (a : Option Addr) (c : Nat), v = .slice a l.length c ∧ l.length ≤ c ∧ c ≤ maxLen ∧ (a = none → c = 0) ∧ (∀ x ∈ l, x < 256) ∧
    ∀ (j x : Nat), l[j]? = some x → ∃ b o, a = some ⟨b, o, none⟩ ∧ w.cell? ⟨b, o + j, none⟩ = some (.int .u8 (x : Int))
/-- A slice of such slices. -/
def ByteRows (w : World) (v : Value) (ls : List (List Nat)) : Prop :=
  ∃ (a : Option Addr) (c : Nat), v = .slice a ls.length c ∧ ls.length ≤ c ∧ c ≤ maxLen ∧ (a = none → c = 0) ∧
    ∀ (j : Nat) (l : List Nat), ls[j]? = some l → ∃ b o u, a = some ⟨b, o, none⟩ ∧ w.cell? ⟨b, o + j, none⟩ = some u ∧ Bytes w u l

theorem cell_below {w w' : World} (h : Below w.heap.size w w') {b o : Nat} {u : Value} (hc : w.cell? ⟨b, o, none⟩ = some u) : w'.cell? ⟨b, o, none⟩ = some u :=
  (h.cell (p := ⟨b, o, none⟩) (block_lt_of_cell hc)).trans hc
theorem Bytes.later {w w' : World} {v : Value} {l : List Nat} (h : Bytes w v l) (hb : Below w.heap.size w w') : Bytes w' v l := by
  obtain ⟨a, c, h1, h2, h3, h4, h5, h6⟩ := h
  refine ⟨a, c, h1, h2, h3, h4, h5, fun j x hj => ?_⟩
  obtain ⟨b, o, ha, hc⟩ := h6 j x hj
  exact ⟨b, o, ha, cell_below hb hc⟩
theorem ByteRows.later {w w' : World} {v : Value} {ls : List (List Nat)} (h : ByteRows w v ls) (hb : Below w.heap.size w w') : ByteRows w' v ls := by
  obtain ⟨a, c, h1, h2, h3, h4, h5⟩ := h
  refine ⟨a, c, h1, h2, h3, h4, fun j l hj => ?_⟩
  obtain ⟨b, o, u, ha, hc, hu⟩ := h5 j l hj
  exact ⟨b, o, u, ha, cell_below hb hc, hu.later hb⟩
theorem Bytes.lt {w : World} {v : Value} {l : List Nat} (h : Bytes w v l) (j : Nat) : l.getD j 0 < 256 := by
  obtain ⟨a, c, h1, h2, h3, h4, h5, h6⟩ := h
  rw [List.getD_eq_getElem?_getD]
  cases e : l[j]? with
  | none => decide
  | some x => exact h5 x (List.mem_of_getElem? e)

section
variable {P : Program} {w : World} {ops : Array Oper} {rest : List Oper} {o : Oper} {a : Act} {Q : Exit → Act → World → Prop}
/-- append of any slice's elements onto a row that the call owns. -/
theorem wpList_append_src (hgd : o.guard = none) (s x : Operand) (t : TypeId)
    (ho : o.op = .call { callee := .builtin .append, args := #[s, x], argTypes := #[t, t] })
    (base : Nat) (e : TypeId) (i : TypeInfo) (z : Value) (size bytes : Nat) (ht : P.underlying t = some (.slice e)) (hi : P.info? e = some i) (hz : i.zero = some z)
    (hsize : i.size = size) (hby : i.bytes = bytes) (hzs : z.cells.size = size) (hsz : 0 < size)
    (v : Value) (n : Nat) (xs : List Value) (hs : a.eval s = v) (hown : w.ownsRow base e size v n xs)
    (sa : Option Addr) (m c : Nat) (news : List Value) (hx : a.eval x = .slice sa m c) (hl : news.length = m * size) (hnews : ∀ (j : Nat) u, news[j]? = some u → ∃ ad, sa = some ad ∧ w.cell? (ad.add j) = some u) (hnone : sa = none → m = 0 ∧ c = 0) (h1 : ∀ u ∈ news, u.oneCell' = true)
    (h63 : n + m ≤ maxLen) (hbytes : (n + m) * bytes ≤ 140737488355328) (hbase : base ≤ w.heap.size)
    (h : ∀ v' w', w'.ownsRow base e size v' (n + m) (xs ++ news) → w.grownBy w' v.ownBlock → (v' = .slice none 0 0 ↔ v = .slice none 0 0 ∧ m = 0) → wpList P ops Q rest (a.put o.dst v') w') : wpList P ops Q (o :: rest) a w := by
  cases sa with
  | some ad =>
    exact wpList_append_own w hgd s x t ho base e i z size bytes ht hi hz hsize hby hzs hsz v n xs hs hown ad m c news hx hl (fun j u hj => by
      obtain ⟨ad', e, hc⟩ := hnews j u hj
      cases e; exact hc) h1 h63 hbytes hbase h
  | none =>
    obtain ⟨rfl, rfl⟩ := hnone rfl
    have hn : news = [] := List.eq_nil_of_length_eq_zero (by simpa using hl)
    subst hn
    refine Lib.wpList_append_run w hgd s x t t ho v _ hs hx v w (run_append_owned_none w base t o.type e i size ht hi v n xs hown) ?_
    exact h v w (by simpa using hown) ⟨rfl, rfl, rfl, Nat.le_refl _, fun _ _ _ => rfl⟩ (by simp)
end

theorem add_addr (b o j : Nat) : (⟨b, o, none⟩ : Addr).add j = ⟨b, o + j, none⟩ := by unfold Addr.add; split <;> simp_all
theorem info_byte : (Tryd.prog.info? 5).map (fun i => (i.zero, i.size, i.bytes)) = some (some (.int .u8 0), 1, 1) := by kernel_rfl

section
variable {w : World} {ops : Array Oper} {rest : List Oper} {o : Oper} {a : Act} {Q : Exit → Act → World → Prop}
/-- append of bytes onto bytes that the call owns. -/
theorem append_bytes (hgd : o.guard = none) (s x : Operand) (ho : o.op = .call { callee := .builtin .append, args := #[s, x], argTypes := #[24, 24] })
    (base : Nat) (v : Value) (l : List Nat) (hs : a.eval s = v) (hown : w.ownsRow base 5 1 v l.length (bcells l))
    (u : Value) (r : List Nat) (hx : a.eval x = u) (hu : Bytes w u r) (hb : l.length + r.length ≤ 70368744177664) (hbase : base ≤ w.heap.size)
    (h : ∀ v' w', w'.ownsRow base 5 1 v' (l ++ r).length (bcells (l ++ r)) → w.grownBy w' v.ownBlock → wpList Tryd.prog ops Q rest (a.put o.dst v') w') : wpList Tryd.prog ops Q (o :: rest) a w := by
  obtain ⟨i, hi, hz, hsz, hby⟩ := info_parts info_byte
  obtain ⟨sa, c, rfl, h2, h3, h4, h5, h6⟩ := hu
  refine wpList_append_src hgd s x 24 ho base 5 i _ 1 1 Tryd.underlying24 hi hz hsz hby rfl (by decide) v l.length (bcells l) hs hown sa r.length c (bcells r) hx (by rw [bcells_length, Nat.mul_one]) ?_ ?_ (bcells_one r) (by unfold maxLen; omega) (by omega) hbase ?_
  · intro j q hj
    rw [bcells_get] at hj
    cases e : r[j]? with
    | none => simp [e] at hj
    | some y =>
      simp only [e, Option.map_some, Option.some.injEq] at hj
      subst hj
      obtain ⟨b, o, ha, hc⟩ := h6 j y e
      exact ⟨⟨b, o, none⟩, ha, by rw [add_addr]; exact hc⟩
  · intro hn
    have hc := h4 hn
    exact ⟨by omega, hc⟩
  · intro v' w' hv hg _
    exact h v' w' (by rw [List.length_append, bcells_append]; exact hv) hg
end

/-- What is behind a call that hands back bytes of its own. -/
def OwnBytes (base : Nat) (w : World) (l : List Nat) (e : Ending) (w' : World) : Prop :=
  ∃ v, e = .returned v ∧ w'.ownsRow base 5 1 v l.length (bcells l) ∧ Below w.heap.size w w'

theorem ownsRow_bytes {w : World} {base : Nat} {v : Value} {l : List Nat} (h : w.ownsRow base 5 1 v l.length (bcells l)) (h8 : ∀ x ∈ l, x < 256) : Bytes w v l := by
  have h' := h
  obtain ⟨h1, h2⟩ := h
  rcases h2 with ⟨rfl, hn⟩ | ⟨g, cap, cur, rfl, hb, hg, hc, hm, hs, ht⟩
  · have : l = [] := List.eq_nil_of_length_eq_zero hn
    subst this
    exact ⟨none, 0, rfl, Nat.le_refl _, Nat.zero_le _, fun _ => rfl, by simp, by simp⟩
  · refine ⟨_, cap, rfl, hc, hm, by simp, h8, fun j x hj => ⟨g, 0, rfl, ?_⟩⟩
    have := World.ownsRow.cells h' (g := g) rfl j (.int .u8 (x : Int)) (by rw [bcells_get, hj]; rfl)
    rw [add_addr] at this
    exact this

set_option maxHeartbeats 1000000 in
/-- slices.Grow at nil: room for n bytes. -/
theorem grow_nil (n : Nat) (hn : n ≤ 70368744177664) (w : World) :
    Calls Tryd.prog 38 #[.slice none 0 0, .int .i64 n] w (OwnBytes w.heap.size w []) := by
  by_cases h0 : n = 0
  · subst h0
    go_enter Tryd.func38, Tryd.ntmps38
    go_wp2
    go_ret
    exact ⟨_, rfl, World.ownsRow_nil _ _ _ _, Below.refl _ _⟩
  · obtain ⟨i, hi, hz, hsz, hby⟩ := info_parts info_byte
    have hpos : 0 < n := by omega
    have hr := fun ty => Lib.run_append_nil_zeros (P := Tryd.prog) w 24 3 ty 5 i (.int .u8 0) .i64 .i64 Tryd.underlying24 Tryd.underlying3 hi hz n hpos (by omega) (by omega) (by rw [hby]; omega)
    have hge := grownCap_ge w n 0 5
    have hle := grownCap_le_maxLen w n 0 5 (by unfold maxLen; omega)
    have hm : grownCap w n 0 5 ≤ maxLen := hle
    have HR := Lib.hid hr
    clear hr hi hz hsz hby
    generalize grownCap w n 0 5 = cap at *
    have hm' : cap ≤ 9223372036854775807 := by unfold maxLen at hm; omega
    have HM := Lib.hid hm
    clear hm hle
    go_enter Tryd.func38, Tryd.ntmps38
    go_wp2_with (at_builtin; refine Lib.wpList_append_run w rfl _ _ 24 3 rfl _ _ rfl rfl _ _ (HR.out _) ?_)
    go_ret
    have ho : (w.alloc (.cells (Builtin.zeroCells #[Value.int IntKind.u8 0] n ++ Builtin.zeroCells #[Value.int IntKind.u8 0] (cap - n)) 5)).ownsRow w.heap.size 5 1 (.slice (some ⟨w.heap.size, 0, none⟩) 0 cap) 0 [] :=
      World.ownsRow_made w _ cap (Nat.le_refl _) HM.out (by simp only [Array.size_append, size_zeroCells]; simp; omega)
    exact ⟨_, rfl, ho, ((Below.refl _ _).alloc (Nat.le_refl _) _).drew⟩

/-- All bytes of rows, one behind the other. -/
def flat (ls : List (List Nat)) : List Nat := ls.flatten
theorem flat_snoc (ls : List (List Nat)) (k : Nat) (l : List Nat) (h : ls[k]? = some l) : flat (ls.take (k + 1)) = flat (ls.take k) ++ l := by
  unfold flat
  rw [List.take_add_one, h]; simp
theorem flat_take_le (ls : List (List Nat)) (k : Nat) : (flat (ls.take k)).length ≤ (flat ls).length := by
  unfold flat
  conv => rhs; rw [← List.take_append_drop k ls]
  simp only [List.flatten_append, List.length_append]
  omega

set_option maxHeartbeats 4000000 in
/-- slices.Concat of bytes. -/
theorem concat_any (v : Value) (ls : List (List Nat)) (w : World) (hv : ByteRows w v ls) (hn : (flat ls).length ≤ 1099511627776) (hl : ls.length ≤ 1099511627776) :
    Calls Tryd.prog 27 #[v] w (OwnBytes w.heap.size w (flat ls)) := by
  obtain ⟨a, c, rfl, h2, h3, h4, h5⟩ := hv
  have H5 := Lib.hid h5
  have h3' : c ≤ 9223372036854775807 := by unfold maxLen at h3; omega
  clear h5 h3 h4
  go_enter Tryd.func27, Tryd.ntmps27
  go_wp2
  go_loop [3, 5, 11] (fun s _ i => ∃ k : Nat, k ≤ ls.length ∧ i = .int .i64 k ∧ s = .int .i64 ((flat (ls.take k)).length : Nat)) (fun _ _ i => ls.length - (intOf i).toNat)
  case atStart => exact ⟨0, by omega, rfl, rfl⟩
  case round =>
    obtain ⟨k, hk, rfl, rfl⟩ := hrel
    by_cases hlt : k < ls.length
    · obtain ⟨l, hj⟩ : ∃ l, ls[k]? = some l := ⟨ls[k], List.getElem?_eq_getElem hlt⟩
      obtain ⟨b, o, u, rfl, hc, hu⟩ := H5.out k l hj
      obtain ⟨a', c', rfl, g2, g3, g4, g5, g6⟩ := hu
      have hs := flat_snoc ls k l hj
      have hb := flat_take_le ls (k + 1)
      rw [hs, List.length_append] at hb
      have HS := Lib.hid hs
      clear hs hj g3 g4 g5 g6
      generalize hN : (flat (ls.take k)).length = n at *
      have HN := Lib.hid hN
      clear hN
      go_wp2
      refine ⟨⟨k + 1, by omega, by go_num, ?_⟩, by simp [intOf]; omega⟩
      rw [HS.out, List.length_append, HN.out, Int.natCast_add]
    · have hk' : k = ls.length := by omega
      subst hk'
      rw [List.take_length]
      clear hlt hk
      have HN := Lib.hid hn
      generalize hln : (flat ls).length = n at *
      have HL := Lib.hid hln
      clear hln hn
      have hn := HN.out
      go_wp2_with (go_at_call 38; refine (grow_nil n (by omega) _).mono ?_; rintro e w1 ⟨v0, rfl, hown, hB⟩)
      go_loopw [6, 8, 27] (fun v _ i wr => ∃ k : Nat, k ≤ ls.length ∧ i = .int .i64 k ∧ wr.ownsRow w.heap.size 5 1 v (flat (ls.take k)).length (bcells (flat (ls.take k))) ∧ Below w.heap.size w wr) (fun _ _ i _ => ls.length - (intOf i).toNat)
      case atStart => exact ⟨0, by omega, rfl, hown, hB⟩
      case round =>
        clear hown hB
        obtain ⟨k, hk, rfl, hown, hB⟩ := hrel
        by_cases hlt : k < ls.length
        · obtain ⟨l, hj⟩ : ∃ l, ls[k]? = some l := ⟨ls[k], List.getElem?_eq_getElem hlt⟩
          obtain ⟨b, o, u, rfl, hc, hu⟩ := H5.out k l hj
          have hs := flat_snoc ls k l hj
          have hb := flat_take_le ls (k + 1)
          rw [hs, List.length_append] at hb
          have HS := Lib.hid hs
          have hc' := cell_below hB hc
          have hu' := hu.later hB
          clear hs hj hc hu
          have ho := hown
          have HO := Lib.hid ho
          have HU := Lib.hid hu'
          clear hown ho hu'
          have hbs := hB.size
          have hn' := HL.out
          have hbound : (flat (ls.take k)).length + l.length ≤ 70368744177664 := by omega
          have hsl : wr.cell? ⟨b, o + k, none⟩ = some u := hc'
          clear hn' hb
          go_wp2_with (at_builtin; refine append_bytes rfl _ _ rfl w.heap.size _ _ rfl HO.out _ l rfl HU.out hbound hbs ?_; intro v' w' hv' hg)
          refine ⟨⟨k + 1, by omega, by go_num, ?_, hB.grown hg hbs (fun j hj => (World.ownsRow.lt HO.out j hj).1)⟩, by simp [intOf]; omega⟩
          rw [HS.out]; exact hv'
        · have hk' : k = ls.length := by omega
          subst hk'
          rw [List.take_length] at hown
          have HO := Lib.hid hown
          clear hown hlt hk
          go_wp2
          go_ret
          exact ⟨_, rfl, HO.out, hB⟩
end Go.Proofs.YtifcdmfkojhdnaaDoor

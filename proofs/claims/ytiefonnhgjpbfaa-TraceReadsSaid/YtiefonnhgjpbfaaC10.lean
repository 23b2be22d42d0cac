/- awake, walked: the question at the head of the trace laws is answered yes. -/
import Derived.Test.YtiefonnhgjpbfaaC9
import Derived.Outline
namespace Go.Proofs.Ytiefonnhgjpbfaa.Tr
open Go.RowKit Go.Proofs.YtiefonnhgjpbfaaW.PrintWords Go.Proofs.YtiefonnhgjpbfaaW.PrintLast Go.Proofs.YtiefonnhgjpbfaaW.PrintMore
attribute [local go_sem] max2_int min2_int max_two min_two max_three min_three max_four min_four   -- for this text's walks alone
set_option linter.unusedVariables false
set_option linter.unusedSimpArgs false

theorem C_lit {α : Type} {d : Kd α} (W : World) (t : TypeId) {ps : List α} {inner : List Value} (h : Reps (d.K (W.alloc (.cells inner.toArray t))) d.sz ps inner) (hm : ps.length ≤ 9223372036854775807) : d.C (W.alloc (.cells inner.toArray t)) (some ⟨W.heap.size, 0, none⟩) ps.length ps := by
  refine ⟨rfl, hm, fun _ => ⟨_, rfl, fun j p hj => ⟨_, ?_, h.2 j p hj, fun i u hu => ?_⟩⟩⟩
  · have hlt := (List.getElem?_eq_some_iff.1 hj).1
    rw [List.length_take, List.length_drop, h.1]
    have : j * d.sz + d.sz ≤ ps.length * d.sz := by rw [← Nat.succ_mul]; exact Nat.mul_le_mul_right _ hlt
    omega
  · rw [add_plain]
    unfold World.cell?
    rw [heap_alloc_new]
    rw [List.getElem?_take] at hu
    split at hu
    · rw [List.getElem?_drop] at hu
      show inner.toArray[j * d.sz + i]? = some u
      simpa using hu
    · cases hu
def ev0 : S48 := ⟨1, 0, ⟨1, 2, 0, 0⟩, ⟨7, true⟩⟩
def ev1 : S48 := ⟨2, 0, ⟨0, 0, 0, 0⟩, ⟨0, false⟩⟩
def two0 : List S48 := [ev0, ev1]
def n16 : List Int := [1, 0, 1, 2, 0, 0, 7, 1, 2, 0, 0, 0, 0, 0, 0, 0]
def picks0 : List S55 := [⟨1, 1, 0⟩, ⟨3, 2, 0⟩]
theorem C_two0 (W : World) : Kd.C k48 (W.alloc (.cells #[.int .i64 1, .int .i64 0, .int .i64 1, .int .i64 2, .int .i64 0, .int .i64 0, .int .i64 7, .bool true, .int .i64 2, .int .i64 0, .int .i64 0, .int .i64 0, .int .i64 0, .int .i64 0, .int .i64 0, .bool false] 48)) (some ⟨W.heap.size, 0, none⟩) 2 two0 :=
  C_lit (d := k48) W 48 (ps := two0) (inner := [.int .i64 1, .int .i64 0, .int .i64 1, .int .i64 2, .int .i64 0, .int .i64 0, .int .i64 7, .bool true, .int .i64 2, .int .i64 0, .int .i64 0, .int .i64 0, .int .i64 0, .int .i64 0, .int .i64 0, .bool false])
    (Reps.snoc (c := [.int .i64 2, .int .i64 0, .int .i64 0, .int .i64 0, .int .i64 0, .int .i64 0, .int .i64 0, .bool false]) (Reps.snoc (c := [.int .i64 1, .int .i64 0, .int .i64 1, .int .i64 2, .int .i64 0, .int .i64 0, .int .i64 7, .bool true]) (Reps.none _ _) (k48_mk _ ev0) rfl) (k48_mk _ ev1) rfl) (by decide)
theorem C_n16 (W : World) : Kd.C (Kd.int .i64) (W.alloc (.cells #[.int .i64 1, .int .i64 0, .int .i64 1, .int .i64 2, .int .i64 0, .int .i64 0, .int .i64 7, .int .i64 1, .int .i64 2, .int .i64 0, .int .i64 0, .int .i64 0, .int .i64 0, .int .i64 0, .int .i64 0, .int .i64 0] 3)) (some ⟨W.heap.size, 0, none⟩) 16 n16 := by
  have h : ReadsOf (Value.int .i64) (0 : Int) (W.alloc (.cells (n16.map (Value.int .i64)).toArray 3)) (some ⟨W.heap.size, 0, none⟩) 16 n16 := by
    refine ⟨rfl, by omega, fun _ => ⟨_, rfl, fun j hj => ?_⟩⟩
    rw [add_plain]
    unfold World.cell?
    rw [heap_alloc_new]
    show (n16.map (Value.int .i64)).toArray[j]? = _
    have hl : j < n16.length := hj
    simp [List.getElem?_map, List.getElem?_eq_getElem hl, List.getD_eq_getElem?_getD]
  exact Kd.C_of_reads (h1 := fun _ => rfl) h
theorem C_picks0 (W : World) : Kd.C k55 (W.alloc (.cells #[.int .i64 1, .int .i64 1, .int .i64 0, .int .i64 3, .int .i64 2, .int .i64 0] 55)) (some ⟨W.heap.size, 0, none⟩) 2 picks0 :=
  C_lit (d := k55) W 55 (ps := picks0) (inner := [.int .i64 1, .int .i64 1, .int .i64 0, .int .i64 3, .int .i64 2, .int .i64 0])
    (Reps.snoc (c := [.int .i64 3, .int .i64 2, .int .i64 0]) (Reps.snoc (c := [.int .i64 1, .int .i64 1, .int .i64 0]) (Reps.none _ _) (k55_mk _ ⟨1, 1, 0⟩) rfl) (k55_mk _ ⟨3, 2, 0⟩) rfl) (by decide)
theorem ok_two0 : ∀ x ∈ two0, EvOk x := by
  intro x hx n hn
  have h : n ∈ n16 := by
    have : all8 two0 = n16 := rfl
    rw [← this]
    unfold all8
    rw [List.mem_flatMap]
    exact ⟨x, hx, hn⟩
  unfold I64
  simp only [n16, List.mem_cons, List.not_mem_nil, or_false] at h
  omega
theorem all8_two0 : all8 two0 = n16 := rfl
theorem picks_two0 : two0.map pickOf = picks0 := rfl
theorem opn_bytesE (l : List S48) (hn : l.length ≤ 1000000) : opn (bytesE l) = some (nums (all8 l), (bytesE l).length) := by
  have h8 := all8_len l
  have hN := nums_len (all8 l)
  have h1 := opn_sel (b := nums (all8 l)) (by omega) []
  rw [List.append_nil] at h1
  exact h1
theorem getNums_all8 (l : List S48) (hl : ∀ x ∈ l, EvOk x) (hn : l.length ≤ 1000000) : getNums (nums (all8 l)) = some (all8 l, (nums (all8 l)).length) := by
  have h8 := all8_len l
  have h2 := getNums_nums (l := all8 l) (by omega) (all8_i64 hl) []
  rw [List.append_nil] at h2
  exact h2
theorem trace_Parse_none (A : Option Addr) (c : Nat) (l : List Int) (w : World) (hr : Kd.C (Kd.int .u8) w A l.length l) (hc : l.length ≤ c) (hb : Byt l) (hn : l.length ≤ 1000000) (h : parse l = none) :
    Calls Try.prog 10 #[.slice A l.length c] w fun e w' => e = .returned (.tuple #[.slice none 0 0, .int .i64 3]) ∧ Below w.heap.size w w' := by
  refine (trace_Parse_calls A c l w hr hc hb hn).mono fun e w' hret => ?_
  obtain ⟨hb, h1 | ⟨x, A, c, h1, _⟩⟩ := hret
  · exact ⟨h1.2, hb⟩
  · rw [h] at h1; cases h1
theorem trace_Parse_some (A : Option Addr) (c : Nat) (l : List Int) (w : World) (hr : Kd.C (Kd.int .u8) w A l.length l) (hc : l.length ≤ c) (hb : Byt l) (hn : l.length ≤ 1000000) {x : List S48} (h : parse l = some x) :
    Calls Try.prog 10 #[.slice A l.length c] w fun e w' => ∃ (A1 : Option Addr) (c1 : Nat), e = .returned (.tuple #[.slice A1 x.length c1, .int .i64 0]) ∧ Kd.C k48 w' A1 x.length x ∧ x.length ≤ c1 ∧ Below w.heap.size w w' := by
  refine (trace_Parse_calls A c l w hr hc hb hn).mono fun e w' hret => ?_
  obtain ⟨hb, h1 | ⟨x', A', c', h1, h2, h3, h4⟩⟩ := hret
  · rw [h] at h1; cases h1.1
  · rw [h] at h1
    simp only [Option.some.injEq] at h1
    subst h1
    exact ⟨A', c', h2, h3, h4, hb⟩
theorem one_calls (w : World) : Calls Try.prog 20 #[] w fun e w' => e = .returned (.agg #[.int .i64 1, .int .i64 0, .int .i64 1, .int .i64 2, .int .i64 0, .int .i64 0, .int .i64 7, .bool true]) ∧ Below w.heap.size w w' :=
  underwoodlaw32_one.calls 1 0 1 2 0 0 7 true w rfl
/-- Are two rows of events one? -/
theorem Same_calls (A1 : Option Addr) (c1 : Nat) (l1 : List S48) (A2 : Option Addr) (c2 : Nat) (l2 : List S48) (w : World) (h1 : Kd.C k48 w A1 l1.length l1) (hc1 : l1.length ≤ c1) (h2 : Kd.C k48 w A2 l2.length l2) (hc2 : l2.length ≤ c2) (hn : l1.length ≤ 1000000) {r : Bool} (hr : decide (l1.map nev = l2.map nev) = r) :
    Calls Try.prog 16 #[.slice A1 l1.length c1, .slice A2 l2.length c2] w fun e w' => e = .returned (.bool r) ∧ Drawn0 w w' :=
  underwoodref32_Same.calls (l1.length + 1) A1 c1 l1 A2 c2 l2 r w h1 hc1 h2 hc2 (by rw [Same_is l1 l2 (by omega) _ (by omega), hr])
theorem Picked_calls (A1 : Option Addr) (c1 : Nat) (l1 : List S55) (A2 : Option Addr) (c2 : Nat) (l2 : List S55) (w : World) (h1 : Kd.C k55 w A1 l1.length l1) (hc1 : l1.length ≤ c1) (h2 : Kd.C k55 w A2 l2.length l2) (hc2 : l2.length ≤ c2) (hn : l1.length ≤ 1000000) {r : Bool} (hr : decide (l1.map npk = l2.map npk) = r) :
    Calls Try.prog 13 #[.slice A1 l1.length c1, .slice A2 l2.length c2] w fun e w' => e = .returned (.bool r) ∧ Drawn0 w w' :=
  underwoodref32_Picked.calls (l1.length + 1) A1 c1 l1 A2 c2 l2 r w h1 hc1 h2 hc2 (by rw [Picked_is l1 l2 (by omega) _ (by omega), hr])
theorem Ints_calls (A1 : Option Addr) (c1 : Nat) (l1 : List Int) (A2 : Option Addr) (c2 : Nat) (l2 : List Int) (w : World) (h1 : Kd.C (Kd.int .i64) w A1 l1.length l1) (hc1 : l1.length ≤ c1) (h2 : Kd.C (Kd.int .i64) w A2 l2.length l2) (hc2 : l2.length ≤ c2) (hn : l1.length ≤ 1000000) {r : Bool} (hr : decide (l1 = l2) = r) :
    Calls Try.prog 22 #[.slice A1 l1.length c1, .slice A2 l2.length c2] w fun e w' => e = .returned (.bool r) ∧ Drawn0 w w' :=
  underwoodref03_Ints.calls (l1.length + 1) A1 c1 l1 A2 c2 l2 r w h1 hc1 h2 hc2 (by rw [ref_Ints_is l1 l2 (by omega) _ (by omega), hr])
theorem SameB_calls (A1 : Option Addr) (c1 : Nat) (l1 : List Int) (A2 : Option Addr) (c2 : Nat) (l2 : List Int) (w : World) (h1 : Kd.C (Kd.int .u8) w A1 l1.length l1) (hc1 : l1.length ≤ c1) (h2 : Kd.C (Kd.int .u8) w A2 l2.length l2) (hc2 : l2.length ≤ c2) (hn : l1.length ≤ 1000000) {r : Bool} (hr : decide (l1 = l2) = r) :
    Calls Try.prog 11 #[.slice A1 l1.length c1, .slice A2 l2.length c2] w fun e w' => e = .returned (.bool r) ∧ Drawn0 w w' :=
  underwoodref03_Same.calls (l1.length + 1) A1 c1 l1 A2 c2 l2 r w h1 hc1 h2 hc2 (by rw [ref_Same_is l1 l2 (by omega) _ (by omega), hr])
end Go.Proofs.Ytiefonnhgjpbfaa.Tr

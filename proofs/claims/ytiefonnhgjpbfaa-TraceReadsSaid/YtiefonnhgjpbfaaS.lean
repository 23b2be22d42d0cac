/- Bytes of events that are turned, longer or shorter: what reading them answers. In plain Lean. -/
import Derived.Test.YtiefonnhgjpbfaaC12
namespace Go.Proofs.Ytiefonnhgjpbfaa.Tr
set_option linter.unusedVariables false
set_option linter.unusedSimpArgs false

theorem sel_ge (b : List Int) : b.length ≤ (sel b).length := by
  simp only [sel, List.length_append]; omega
theorem sel_apart {x y r s : List Int} (hn : (sel x ++ r).length ≤ 9223372036854775807) (h : sel x ++ r = sel y ++ s) : x = y ∧ r = s := by
  have hx : x.length ≤ 9223372036854775807 := by have := sel_ge x; rw [List.length_append] at hn; omega
  have hy : y.length ≤ 9223372036854775807 := by have := sel_ge y; rw [h, List.length_append] at hn; omega
  have h1 := opn_sel hx r
  have h2 := opn_sel hy s
  rw [h, h2] at h1
  simp only [Option.some.injEq, Prod.mk.injEq] at h1
  obtain ⟨rfl, _⟩ := h1
  exact ⟨rfl, List.append_cancel_left h⟩
theorem parse_eq {l m : List S48} {b : List Int} (hn : b.length ≤ 9223372036854775807) {r : List Int} (hb : b = bytesE l ++ r) (h : parse b = some m) : r = [] := by
  have h1 := (parse_some h).1
  rw [hb] at h1 hn
  have h2 : sel (nums (all8 l)) ++ r = sel (nums (all8 m)) ++ [] := by rw [List.append_nil]; exact h1
  exact (sel_apart hn h2).2
theorem parse_longer {l : List S48} {x : Int} (hn : (bytesE l ++ [x]).length ≤ 9223372036854775807) : parse (bytesE l ++ [x]) = none := by
  cases h : parse (bytesE l ++ [x]) with
  | none => rfl
  | some m => exact absurd (parse_eq hn rfl h) (by simp)
theorem parse_shorter {l : List S48} {k : Nat} (hn : (bytesE l).length ≤ 9223372036854775807) (hk : k < (bytesE l).length) : parse ((bytesE l).take k) = none := by
  cases h : parse ((bytesE l).take k) with
  | none => rfl
  | some m =>
    have h1 := (parse_some h).1
    have h2 : sel (nums (all8 l)) ++ [] = sel (nums (all8 m)) ++ (bytesE l).drop k := by
      rw [List.append_nil]
      show bytesE l = bytesE m ++ _
      rw [← h1, List.take_append_drop]
    have h3 := (sel_apart (by rw [List.append_nil]; exact hn) h2).2
    have h4 : ((bytesE l).drop k).length = 0 := by rw [← h3]; rfl
    rw [List.length_drop] at h4
    omega
/-- A byte more by 'by': itself only where 'by' is none. -/
theorem turn_byte {x y : Int} (hx : 0 ≤ x ∧ x ≤ 255) (hy : 0 ≤ y ∧ y ≤ 255) : (0 ≤ (x + y) % 256 ∧ (x + y) % 256 ≤ 255) ∧ ((x + y) % 256 = x ↔ y = 0) := by omega
theorem byt_set {b : List Int} (h : Byt b) {k : Nat} {x : Int} (hx : 0 ≤ x ∧ x ≤ 255) : Byt (b.set k x) := by
  intro y hy
  rcases List.mem_or_eq_of_mem_set hy with h1 | rfl
  · exact h y h1
  · exact hx
theorem set_same {b : List Int} {k : Nat} {x : Int} (hk : k < b.length) : b.set k x = b ↔ b.getD k 0 = x := by
  rw [List.getD_eq_getElem?_getD, List.getElem?_eq_getElem hk]
  constructor
  · intro h
    have h1 : (b.set k x)[k]? = b[k]? := by rw [h]
    rw [List.getElem?_set_self hk, List.getElem?_eq_getElem hk] at h1
    simpa using h1.symm
  · intro h
    subst h
    simp
/-- The bytes of which one is turned: they are read as nothing, or as other events; as themselves just if the byte is as it was. -/
theorem parse_turned {l : List S48} (hl : ∀ x ∈ l, EvOk x) (hn : l.length ≤ 1000000) {k : Nat} (hk : k < (bytesE l).length) {y : Int} (hy : 0 ≤ y ∧ y ≤ 255) {c : List Int} (hc : c = (bytesE l).set k (((bytesE l).getD k 0 + y) % 256)) :
    (parse c = none ∧ y ≠ 0) ∨ ∃ m, parse c = some m ∧ (m.map nev = l.map nev ↔ y = 0) := by
  have hx : 0 ≤ (bytesE l).getD k 0 ∧ (bytesE l).getD k 0 ≤ 255 := by
    rw [List.getD_eq_getElem?_getD, List.getElem?_eq_getElem hk]
    exact bytesE_byt l _ (List.getElem_mem _)
  have ht := (turn_byte hx hy).2
  have hs : c = bytesE l ↔ y = 0 := by
    rw [hc, set_same hk, ← ht]
    exact eq_comm
  cases h : parse c with
  | none =>
    refine .inl ⟨rfl, fun h0 => ?_⟩
    rw [hs.2 h0, parse_bytes hl hn] at h
    cases h
  | some m =>
    refine .inr ⟨m, rfl, ?_⟩
    constructor
    · intro e
      have : m = l := map_inj (fun _ _ => nev_inj) e
      subst this
      exact hs.1 (parse_some h).1
    · intro h0
      rw [hs.2 h0, parse_bytes hl hn] at h
      simp only [Option.some.injEq] at h
      rw [h]
/-- A byte within the seal is turned: nothing is read. -/
theorem parse_sealed {l : List S48} (hn : (bytesE l).length ≤ 9223372036854775807) {j : Nat} (hj : j < (nums (all8 l)).length) {y : Int} (hy : 0 ≤ y ∧ y ≤ 255) (h0 : y ≠ 0) {k : Nat} (hk : k = (put ((nums (all8 l)).length : Int)).length + j) :
    parse ((bytesE l).set k (((bytesE l).getD k 0 + y) % 256)) = none := by
  cases h : parse ((bytesE l).set k (((bytesE l).getD k 0 + y) % 256)) with
  | none => rfl
  | some m =>
    exfalso
    have h1 := (parse_some h).1
    generalize hN : nums (all8 l) = N at hj hk
    have hB : bytesE l = put (N.length : Int) ++ (N ++ put (sum N)) := by
      show sel (nums (all8 l)) = _
      rw [hN, sel, List.append_assoc]
    have hNl : N.length ≤ 9223372036854775807 := by
      have := hn
      rw [hB] at this
      simp only [List.length_append] at this
      omega
    have hbyt : Byt N := hN ▸ nums_byt _
    obtain ⟨p, x, s, hps, hp⟩ : ∃ p x s, N = p ++ x :: s ∧ p.length = j := ⟨N.take j, N[j], N.drop (j + 1), by rw [← List.drop_eq_getElem_cons hj, List.take_append_drop], by rw [List.length_take]; omega⟩
    have hxb := hbyt x (by rw [hps]; simp)
    have hg : (bytesE l).getD k 0 = x := by
      rw [hB, hk, hps, List.getD_eq_getElem?_getD, List.getElem?_append_right (by omega), Nat.add_sub_cancel_left, List.append_assoc, List.getElem?_append_right (by omega), hp, Nat.sub_self]
      rfl
    generalize hz : ((bytesE l).getD k 0 + y) % 256 = z at h h1
    rw [hg] at hz
    have hzb : 0 ≤ z ∧ z ≤ 255 := by omega
    have hzx : x ≠ z := by omega
    have hset : (bytesE l).set k z = put (N.length : Int) ++ ((p ++ z :: s) ++ put (sum N)) := by
      rw [hB, hk, List.set_append_right _ _ (by omega), Nat.add_sub_cancel_left, hps, List.append_assoc, List.set_append_right _ _ (by omega), hp, Nat.sub_self]
      simp [List.append_assoc]
    have hlen : (p ++ z :: s).length = N.length := by rw [hps]; simp
    have hM : bytesE m = put ((nums (all8 m)).length : Int) ++ (nums (all8 m) ++ put (sum (nums (all8 m)))) := by
      show sel _ = _
      rw [sel, List.append_assoc]
    rw [hset, hM] at h1
    have hml : (nums (all8 m)).length ≤ 9223372036854775807 := by
      have h2 := congrArg List.length h1
      have h3 := congrArg List.length hB
      simp only [List.length_append] at h2 h3
      rw [List.length_append] at hlen
      omega
    obtain ⟨e1, e2⟩ := put_apart (len_i64 hNl) (len_i64 hml) h1
    have e1' : (p ++ z :: s).length = (nums (all8 m)).length := by rw [hlen]; omega
    obtain ⟨e3, e4⟩ := List.append_inj e2 e1'
    have e5 := put_inj (sum_i64 _) (sum_i64 _) e4
    rw [← e3] at e5
    exact sum_turned p s x z hxb hzb hzx (by rw [← hps]; exact e5)
/-- Bytes are the same just if the events are. -/
theorem bytesE_inj {l m : List S48} (hl : ∀ x ∈ l, EvOk x) (hm : ∀ x ∈ m, EvOk x) (h1 : l.length ≤ 1000000) (h2 : m.length ≤ 1000000) : bytesE l = bytesE m ↔ l = m := by
  constructor
  · intro h
    have e := parse_bytes hl h1
    rw [h, parse_bytes hm h2] at e
    simp only [Option.some.injEq] at e
    exact e.symm
  · intro h; rw [h]
theorem nev_iff {l m : List S48} : l.map nev = m.map nev ↔ l = m := ⟨fun h => map_inj (fun _ _ => nev_inj) h, fun h => by rw [h]⟩
theorem take_same {α : Type} {l : List α} {k : Nat} (h : k ≤ l.length) : l = l.take k ↔ k = l.length := by
  constructor
  · intro e
    have := congrArg List.length e
    rw [List.length_take] at this
    omega
  · intro e
    rw [e, List.take_length]
end Go.Proofs.Ytiefonnhgjpbfaa.Tr

/- Labels of an order, and the row that they make: plain. -/
namespace Go.Proofs.Ythjecgmgpnileaa.Bd
/-- A number of a list, at a place that is a whole number. -/
def at0 (l : List Int) (i : Int) : Int := l.getD i.toNat 0
def ints (n : Nat) : List Int := (List.range n).map Int.ofNat
theorem mem_ints {n : Nat} {x : Int} : x ∈ ints n ↔ 0 ≤ x ∧ x < (n : Int) := by
  unfold ints
  rw [List.mem_map]
  constructor
  · rintro ⟨k, hk, rfl⟩
    have := List.mem_range.1 hk
    exact ⟨Int.natCast_nonneg k, by show (k : Int) < n; omega⟩
  · rintro ⟨h0, h1⟩
    exact ⟨x.toNat, List.mem_range.2 (by omega), by show ((x.toNat : Nat) : Int) = x; omega⟩
theorem ints_len (n : Nat) : (ints n).length = n := by unfold ints; simp
theorem ints_nodup (n : Nat) : (ints n).Nodup := by
  unfold ints
  rw [List.Nodup, List.pairwise_map]
  exact (List.nodup_range (n := n)).imp fun h e => h (Int.ofNat.inj e)
theorem ints_succ (n : Nat) : ints (n + 1) = ints n ++ [(n : Int)] := by unfold ints; rw [List.range_succ, List.map_append]; rfl

/-- The least label above one, or one further on, as the loop finds it. -/
def abStep (a : Int) (p : Int × Bool) (n : Int) : Int × Bool := if a < n ∧ (p.2 = false ∨ n < p.1) then (n, true) else p
def above (l : List Int) (a : Int) : Int := (l.foldl (abStep a) (a + 2097152, false)).1
def tight (l : List Int) (a : Int) : Bool := decide (above l a = a + 1 ∨ 1099511627776 < above l a)
theorem ab_spec (a : Int) (l : List Int) : ∀ p : Int × Bool, (p.2 = true → a < p.1) → (let q := l.foldl (abStep a) p; (q.2 = true → a < q.1) ∧ (q.2 = false → q = p ∧ ∀ n ∈ l, n ≤ a) ∧ (q.2 = true → (q.1 ∈ l ∨ (p.2 = true ∧ q.1 = p.1)) ∧ (∀ n ∈ l, a < n → q.1 ≤ n) ∧ (p.2 = true → q.1 ≤ p.1))) := by
  induction l with
  | nil => intro p hp; exact ⟨hp, fun _ => ⟨rfl, (fun n h => by cases h)⟩, fun h => ⟨.inr ⟨h, rfl⟩, (fun n h => by cases h), fun _ => Int.le_refl _⟩⟩
  | cons x l ih =>
    intro p hp
    simp only [List.foldl_cons]
    by_cases hc : a < x ∧ (p.2 = false ∨ x < p.1)
    · have e : abStep a p x = (x, true) := by unfold abStep; rw [if_pos hc]
      rw [e]
      obtain ⟨h1, h2, h3⟩ := ih (x, true) (fun _ => hc.1)
      refine ⟨h1, fun hf => ?_, fun ht => ?_⟩
      · have h4 := (h2 hf).1
        rw [h4] at hf
        cases hf
      · obtain ⟨g1, g2, g3⟩ := h3 ht
        have g4 := g3 rfl
        simp only at g4
        refine ⟨.inl ?_, fun n hn ha => ?_, fun hpt => ?_⟩
        · rcases g1 with g1 | ⟨_, g1⟩
          · exact List.mem_cons_of_mem _ g1
          · rw [g1]; exact List.mem_cons_self
        · rcases List.mem_cons.1 hn with rfl | hn
          · exact g4
          · exact g2 n hn ha
        · rcases hc.2 with h | h
          · rw [hpt] at h; cases h
          · omega
    · have e : abStep a p x = p := by unfold abStep; rw [if_neg hc]
      rw [e]
      obtain ⟨h1, h2, h3⟩ := ih p hp
      refine ⟨h1, fun hf => ⟨(h2 hf).1, fun n hn => ?_⟩, fun ht => ?_⟩
      · rcases List.mem_cons.1 hn with rfl | hn
        · have h4 := (h2 hf).1
          rw [h4] at hf
          by_cases ha : a < n
          · exact absurd ⟨ha, .inl hf⟩ hc
          · omega
        · exact (h2 hf).2 n hn
      · obtain ⟨g1, g2, g3⟩ := h3 ht
        refine ⟨g1.imp (List.mem_cons_of_mem _) id, fun n hn ha => ?_, g3⟩
        rcases List.mem_cons.1 hn with rfl | hn
        · by_cases hpt : p.2 = true
          · have := g3 hpt
            have h5 : ¬ n < p.1 := fun h => hc ⟨ha, .inr h⟩
            omega
          · exact absurd ⟨ha, .inl (by simpa using hpt)⟩ hc
        · exact g2 n hn ha
/-- What stands above a label: nothing, or the least of what does. -/
theorem above_spec (l : List Int) (a : Int) : (above l a = a + 2097152 ∧ ∀ n ∈ l, n ≤ a) ∨ (above l a ∈ l ∧ a < above l a ∧ ∀ n ∈ l, a < n → above l a ≤ n) := by
  obtain ⟨h1, h2, h3⟩ := ab_spec a l (a + 2097152, false) (fun h => by cases h)
  unfold above
  cases hq : (l.foldl (abStep a) (a + 2097152, false)).2 with
  | false =>
    have := h2 hq
    rw [this.1]
    exact .inl ⟨rfl, this.2⟩
  | true =>
    obtain ⟨g1, g2, _⟩ := h3 hq
    rcases g1 with g1 | ⟨g1, _⟩
    · exact .inr ⟨g1, h1 hq, g2⟩
    · cases g1
theorem above_gt (l : List Int) (a : Int) : a < above l a := by
  rcases above_spec l a with ⟨h, _⟩ | ⟨_, h, _⟩ <;> omega

/-- An order's labels: right. -/
def Good (l : List Int) : Prop := 1 ≤ l.length ∧ l.length ≤ 1000 ∧ (∀ x ∈ l, 0 ≤ x ∧ x ≤ 1099511627776) ∧ l.Nodup
/-- The row that labels make: the elements, the least label first. -/
def IsRow (l r : List Int) : Prop := r.Perm (ints l.length) ∧ r.Pairwise fun x y => at0 l x < at0 l y
theorem at0_mem {l : List Int} {i : Int} (h0 : 0 ≤ i) (h1 : i < (l.length : Int)) : at0 l i ∈ l := by
  unfold at0
  have h : i.toNat < l.length := by omega
  rw [List.getD_eq_getElem?_getD, List.getElem?_eq_getElem h]
  exact List.getElem_mem h
theorem at0_inj {l : List Int} (hl : l.Nodup) {i j : Int} (hi : 0 ≤ i ∧ i < (l.length : Int)) (hj : 0 ≤ j ∧ j < (l.length : Int)) (h : at0 l i = at0 l j) : i = j := by
  unfold at0 at h
  have h1 : i.toNat < l.length := by omega
  have h2 : j.toNat < l.length := by omega
  rw [List.getD_eq_getElem?_getD, List.getD_eq_getElem?_getD, List.getElem?_eq_getElem h1, List.getElem?_eq_getElem h2] at h
  simp only [Option.getD_some] at h
  have h3 := List.Nodup.idxOf_getElem hl _ h1
  have h4 := List.Nodup.idxOf_getElem hl _ h2
  rw [h] at h3
  omega
theorem at0_left {l m : List Int} {i : Int} (h0 : 0 ≤ i) (h1 : i < (l.length : Int)) : at0 (l ++ m) i = at0 l i := by
  unfold at0
  have h : i.toNat < l.length := by omega
  rw [List.getD_eq_getElem?_getD, List.getD_eq_getElem?_getD, List.getElem?_append_left h]
theorem at0_last {l : List Int} {x : Int} : at0 (l ++ [x]) (l.length : Int) = x := by
  unfold at0
  rw [Int.toNat_natCast, List.getD_eq_getElem?_getD, List.getElem?_append_right (Nat.le_refl _)]
  simp
theorem mem_at0 {l : List Int} {x : Int} (h : x ∈ l) : ∃ i : Int, 0 ≤ i ∧ i < (l.length : Int) ∧ at0 l i = x := by
  obtain ⟨k, hk, rfl⟩ := List.getElem_of_mem h
  refine ⟨k, by omega, by omega, ?_⟩
  unfold at0
  rw [Int.toNat_natCast, List.getD_eq_getElem?_getD, List.getElem?_eq_getElem hk]
  rfl
theorem IsRow.mem {l r : List Int} (h : IsRow l r) {x : Int} : x ∈ r ↔ 0 ≤ x ∧ x < (l.length : Int) := by rw [h.1.mem_iff, mem_ints]
theorem IsRow.nodup {l r : List Int} (h : IsRow l r) : r.Nodup := h.1.nodup_iff.2 (ints_nodup _)
theorem IsRow.len {l r : List Int} (h : IsRow l r) : r.length = l.length := by rw [h.1.length_eq, ints_len]
/-- There is but one. -/
theorem IsRow.unique {l r s : List Int} (h : IsRow l r) (k : IsRow l s) : r = s :=
  List.Perm.eq_of_pairwise (le := fun x y => at0 l x < at0 l y) (fun a b _ _ h1 h2 => absurd h1 (by omega)) h.2 k.2 (h.1.trans k.1.symm)

/-- A list with one more, behind one that it has. -/
def insAfter (l : List Int) (x s : Int) : List Int := l.flatMap fun y => if y = x then [y, s] else [y]
theorem ins_none {l : List Int} {x s : Int} (h : x ∉ l) : insAfter l x s = l := by
  unfold insAfter
  induction l with
  | nil => rfl
  | cons y l ih =>
    rw [List.flatMap_cons, ih (fun h' => h (List.mem_cons_of_mem _ h')), if_neg (fun e => h (by rw [e]; exact List.mem_cons_self))]
    rfl
theorem ins_at {a b : List Int} {x s : Int} (ha : x ∉ a) (hb : x ∉ b) : insAfter (a ++ x :: b) x s = a ++ x :: s :: b := by
  have h1 := ins_none (s := s) ha
  have h2 := ins_none (s := s) hb
  unfold insAfter at *
  rw [List.flatMap_append, List.flatMap_cons, h1, h2, if_pos rfl]
  rfl
theorem ins_split {l : List Int} (hl : l.Nodup) {x : Int} (hx : x ∈ l) (s : Int) : ∃ a b, l = a ++ x :: b ∧ insAfter l x s = a ++ x :: s :: b := by
  obtain ⟨a, b, rfl⟩ := List.append_of_mem hx
  have h := List.nodup_append.1 hl
  refine ⟨a, b, rfl, ins_at (fun h' => h.2.2 x h' x List.mem_cons_self rfl) (List.nodup_cons.1 h.2.1).1⟩
theorem ins_perm {l : List Int} (hl : l.Nodup) {x : Int} (hx : x ∈ l) (s : Int) : (insAfter l x s).Perm (s :: l) := by
  obtain ⟨a, b, e1, e2⟩ := ins_split hl hx s
  rw [e2, e1]
  have h : (a ++ x :: s :: b).Perm (a ++ s :: x :: b) := List.Perm.append_left _ (List.Perm.swap _ _ _)
  exact h.trans List.perm_middle
theorem ins_map {l : List Int} {f : Int → Int} {x s : Int} (hf : ∀ y ∈ l, f y = f x → y = x) : (insAfter l x s).map f = insAfter (l.map f) (f x) (f s) := by
  unfold insAfter
  induction l with
  | nil => rfl
  | cons y l ih =>
    rw [List.flatMap_cons, List.map_append, List.map_cons, List.flatMap_cons, ih (fun z hz => hf z (List.mem_cons_of_mem _ hz))]
    by_cases h : y = x
    · subst h; simp
    · rw [if_neg h, if_neg (fun e => h (hf y List.mem_cons_self e))]; rfl

/-- A label between one and what stands above it: the new element stands just behind. -/
theorem row_ins {l r : List Int} (hr : IsRow l r) {x n : Int} (h0 : 0 ≤ x) (h1 : x < (l.length : Int)) (hn : at0 l x < n) (hb : ∀ y ∈ l, at0 l x < y → n < y) : IsRow (l ++ [n]) (insAfter r x (l.length : Int)) := by
  obtain ⟨a, b, e1, e2⟩ := ins_split hr.nodup (hr.mem.2 ⟨h0, h1⟩) (l.length : Int)
  refine ⟨?_, ?_⟩
  · rw [List.length_append, List.length_singleton, ints_succ]
    refine (ins_perm hr.nodup (hr.mem.2 ⟨h0, h1⟩) _).trans ?_
    exact (List.Perm.cons _ hr.1).trans (List.perm_append_singleton _ _).symm
  · rw [e2]
    have hp := hr.2
    rw [e1] at hp
    have hm : ∀ y, y ∈ a ++ x :: b → 0 ≤ y ∧ y < (l.length : Int) := fun y hy => hr.mem.1 (by rw [e1]; exact hy)
    have hp' : (a ++ x :: b).Pairwise fun y z => at0 (l ++ [n]) y < at0 (l ++ [n]) z := by
      refine hp.imp_of_mem fun {y z} hy hz h => ?_
      rw [at0_left (hm y hy).1 (hm y hy).2, at0_left (hm z hz).1 (hm z hz).2]
      exact h
    have hlast : at0 (l ++ [n]) (l.length : Int) = n := at0_last
    rw [List.pairwise_append, List.pairwise_cons] at hp hp' ⊢
    obtain ⟨p1, ⟨p2, p3⟩, p4⟩ := hp'
    have hx : at0 (l ++ [n]) x = at0 l x := at0_left h0 h1
    have hbl : ∀ y ∈ b, n < at0 (l ++ [n]) y := fun y hy => by
      have hy1 := hm y (List.mem_append_right _ (List.mem_cons_of_mem _ hy))
      rw [at0_left hy1.1 hy1.2]
      exact hb _ (at0_mem hy1.1 hy1.2) (hp.2.1.1 y hy)
    refine ⟨p1, ⟨?_, ?_⟩, ?_⟩
    · intro y hy
      rcases List.mem_cons.1 hy with rfl | hy
      · rw [hlast, hx]; exact hn
      · exact p2 y hy
    · rw [List.pairwise_cons]
      refine ⟨fun y hy => ?_, p3⟩
      rw [hlast]
      exact hbl y hy
    · intro y hy z hz
      rcases List.mem_cons.1 hz with rfl | hz
      · exact p4 y hy _ List.mem_cons_self
      · rcases List.mem_cons.1 hz with rfl | hz
        · rw [hlast]
          have := p4 y hy x List.mem_cons_self
          omega
        · exact p4 y hy z (List.mem_cons_of_mem _ hz)
theorem good_ins {l : List Int} (hg : Good l) (hl : l.length < 1000) {n : Int} (h0 : 0 ≤ n) (h1 : n ≤ 1099511627776) (hn : n ∉ l) : Good (l ++ [n]) := by
  obtain ⟨g1, g2, g3, g4⟩ := hg
  refine ⟨by rw [List.length_append]; omega, by rw [List.length_append, List.length_singleton]; omega, ?_, ?_⟩
  · intro x hx
    rcases List.mem_append.1 hx with hx | hx
    · exact g3 x hx
    · rw [List.mem_singleton.1 hx]; exact ⟨h0, h1⟩
  · exact List.nodup_append.2 ⟨g4, by simp, fun x hx y hy e => by rw [List.mem_singleton.1 hy] at e; exact hn (by rw [← e]; exact hx)⟩

/-- Labels that are laid anew: where an element stands in the row, times the gap. -/
def anew (r : List Int) : List Int := (ints r.length).map fun i => (r.idxOf i : Int) * 1048576
theorem anew_len (r : List Int) : (anew r).length = r.length := by unfold anew; rw [List.length_map, ints_len]
theorem anew_at {r : List Int} {i : Int} (h0 : 0 ≤ i) (h1 : i < (r.length : Int)) : at0 (anew r) i = (r.idxOf i : Int) * 1048576 := by
  unfold at0 anew ints
  rw [List.map_map, List.getD_eq_getElem?_getD, List.getElem?_map, List.getElem?_range (by omega)]
  simp only [Option.map_some, Option.getD_some, Function.comp]
  congr 3
  show ((i.toNat : Nat) : Int) = i
  omega
theorem idx_lt_of_mem {r : List Int} {i : Int} (h : i ∈ r) : r.idxOf i < r.length := List.idxOf_lt_length_of_mem h
theorem anew_row {l r : List Int} (hr : IsRow l r) : IsRow (anew r) r := by
  refine ⟨by rw [anew_len, hr.len]; exact hr.1, ?_⟩
  have hn := hr.nodup
  rw [List.pairwise_iff_getElem]
  intro i j hi hj hij
  have h1 := hr.mem.1 (List.getElem_mem hi)
  have h2 := hr.mem.1 (List.getElem_mem hj)
  rw [← hr.len] at h1 h2
  rw [anew_at h1.1 h1.2, anew_at h2.1 h2.2, List.Nodup.idxOf_getElem hn, List.Nodup.idxOf_getElem hn]
  omega
theorem anew_good {l r : List Int} (hr : IsRow l r) (h1 : 1 ≤ l.length) (h2 : l.length ≤ 1000) : Good (anew r) := by
  have hl := hr.len
  refine ⟨by rw [anew_len]; omega, by rw [anew_len]; omega, ?_, ?_⟩
  · intro x hx
    unfold anew at hx
    obtain ⟨i, hi, rfl⟩ := List.mem_map.1 hx
    have hm : i ∈ r := by rw [hr.mem]; rw [mem_ints, hl] at hi; exact hi
    have := idx_lt_of_mem hm
    omega
  · unfold anew
    rw [List.Nodup, List.pairwise_map]
    refine (ints_nodup r.length).imp_of_mem fun {a b} ha hb hne e => hne ?_
    have hma : a ∈ r := by rw [hr.mem]; rw [mem_ints, hl] at ha; exact ha
    have hmb : b ∈ r := by rw [hr.mem]; rw [mem_ints, hl] at hb; exact hb
    have e' : r.idxOf a = r.idxOf b := by omega
    have h3 := List.getElem_idxOf (idx_lt_of_mem hma)
    have h4 := List.getElem_idxOf (idx_lt_of_mem hmb)
    rw [← h3, ← h4]
    congr 1
/-- Labels with a new element's, behind x. -/
def midOf (l : List Int) (x : Int) : Int := at0 l x + (above l (at0 l x) - at0 l x) / 2
def fresh (l r : List Int) (x : Int) : List Int := if tight l (at0 l x) then anew r else l
def newL (l r : List Int) (x : Int) : List Int := fresh l r x ++ [midOf (fresh l r x) x]
theorem fresh_len {l r : List Int} (hr : IsRow l r) (x : Int) : (fresh l r x).length = l.length := by unfold fresh; split <;> simp [anew_len, hr.len]
/-- Room behind an element: the new one's label. -/
theorem mid_ok {l r : List Int} (hr : IsRow l r) (hg : Good l) (hl : l.length < 1000) {x : Int} (h0 : 0 ≤ x) (h1 : x < (l.length : Int)) (ht : at0 l x + 1 < above l (at0 l x)) (hb : above l (at0 l x) ≤ 1099511627776) :
    Good (l ++ [midOf l x]) ∧ IsRow (l ++ [midOf l x]) (insAfter r x (l.length : Int)) := by
  have hgt := above_gt l (at0 l x)
  have hx := hg.2.2.1 _ (at0_mem h0 h1)
  have hm1 : at0 l x < midOf l x := by unfold midOf; omega
  have hm2 : midOf l x < above l (at0 l x) := by unfold midOf; omega
  have hb' : ∀ y ∈ l, at0 l x < y → midOf l x < y := by
    intro y hy hxy
    rcases above_spec l (at0 l x) with ⟨_, h⟩ | ⟨_, _, h⟩
    · have := h y hy; omega
    · have := h y hy hxy; omega
  refine ⟨good_ins hg hl (by omega) (by omega) (fun hmem => ?_), row_ins hr h0 h1 hm1 hb'⟩
  have := hb' _ hmem hm1
  omega
theorem anew_above {l r : List Int} (hr : IsRow l r) (hl : l.length ≤ 1000) {x : Int} (h0 : 0 ≤ x) (h1 : x < (l.length : Int)) : at0 (anew r) x + 1 < above (anew r) (at0 (anew r) x) ∧ above (anew r) (at0 (anew r) x) ≤ 1099511627776 ∧ at0 (anew r) x ≤ 1048576000 ∧ 0 ≤ at0 (anew r) x := by
  have hlen := hr.len
  have hm : x ∈ r := hr.mem.2 ⟨h0, h1⟩
  have hi := idx_lt_of_mem hm
  have e : at0 (anew r) x = (r.idxOf x : Int) * 1048576 := anew_at h0 (by omega)
  rw [e]
  rcases above_spec (anew r) ((r.idxOf x : Int) * 1048576) with ⟨h, _⟩ | ⟨h, h2, _⟩
  · rw [h]; omega
  · unfold anew at h
    obtain ⟨i, hi2, h3⟩ := List.mem_map.1 h
    have hmi : i ∈ r := by rw [hr.mem]; rw [mem_ints, hlen] at hi2; exact hi2
    have h4 := idx_lt_of_mem hmi
    change _ * _ = above (anew r) _ at h3
    omega
theorem new_ok {l r : List Int} (hr : IsRow l r) (hg : Good l) (hl : l.length < 1000) {x : Int} (h0 : 0 ≤ x) (h1 : x < (l.length : Int)) :
    Good (newL l r x) ∧ IsRow (newL l r x) (insAfter r x (l.length : Int)) ∧ (newL l r x).length = l.length + 1 := by
  have hlen : (newL l r x).length = l.length + 1 := by unfold newL; rw [List.length_append, fresh_len hr]; rfl
  by_cases ht : tight l (at0 l x) = true
  · have e : fresh l r x = anew r := by unfold fresh; rw [if_pos ht]
    have ha := anew_above hr (by omega) h0 h1
    have hrl := hr.len
    have h := mid_ok (anew_row hr) (anew_good hr hg.1 hg.2.1) (by rw [anew_len]; omega) h0 (by rw [anew_len]; omega) ha.1 ha.2.1
    rw [anew_len, hrl] at h
    unfold newL
    rw [e]
    refine ⟨h.1, h.2, ?_⟩
    rw [List.length_append, anew_len, hrl]; rfl
  · have e : fresh l r x = l := by unfold fresh; rw [if_neg ht]
    have hgt := above_gt l (at0 l x)
    have ht' : ¬ (above l (at0 l x) = at0 l x + 1 ∨ 1099511627776 < above l (at0 l x)) := by
      intro h; apply ht; unfold tight; exact decide_eq_true h
    have h := mid_ok hr hg hl h0 h1 (by omega) (by omega)
    unfold newL at hlen ⊢
    rw [e] at hlen ⊢
    exact ⟨h.1, h.2, hlen⟩
theorem new_bd {l r : List Int} (hr : IsRow l r) (hg : Good l) {x : Int} (h0 : 0 ≤ x) (h1 : x < (l.length : Int)) : 0 ≤ at0 (fresh l r x) x ∧ at0 (fresh l r x) x ≤ 1099511627776 := by
  unfold fresh
  split
  · have := anew_above hr hg.2.1 h0 h1; omega
  · exact hg.2.2.1 _ (at0_mem h0 h1)
end Go.Proofs.Ythjecgmgpnileaa.Bd

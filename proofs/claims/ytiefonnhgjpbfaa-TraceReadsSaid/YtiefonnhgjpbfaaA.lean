/- The plain functions that the trace laws speak of: numbers as bytes, seals, and what is read back. -/
namespace Go.Proofs.Ytiefonnhgjpbfaa.Tr

def zig (n : Int) : Nat := if 0 ≤ n then (2 * n).toNat else (-2 * n - 1).toNat
def unz (u : Nat) : Int := if u % 2 = 0 then ((u / 2 : Nat) : Int) else -((u / 2 : Nat) : Int) - 1
def grp : Nat → Nat → List Int
  | 0, _ => []
  | f + 1, u => if u < 128 then [(u : Int)] else ((u % 128 + 128 : Nat) : Int) :: grp f (u / 128)
def put (n : Int) : List Int := grp 10 (zig n)
def I64 (n : Int) : Prop := -9223372036854775808 ≤ n ∧ n ≤ 9223372036854775807
def Byt (l : List Int) : Prop := ∀ x ∈ l, 0 ≤ x ∧ x ≤ 255
def ug : Nat → List Int → Option (Nat × Nat)
  | 0, _ => none
  | _ + 1, [] => none
  | f + 1, x :: r => if x < 128 then some (x.toNat, 1) else (ug f r).map fun p => (x.toNat - 128 + 128 * p.1, p.2 + 1)
def get (b : List Int) : Option (Int × Nat) :=
  match ug 10 b with
  | some (u, k) => if u < 18446744073709551616 ∧ put (unz u) = b.take k then some (unz u, k) else none
  | none => none
def sums (b : List Int) : Int × Int := b.foldl (fun p c => ((p.1 + c) % 65521, (p.2 + (p.1 + c) % 65521) % 65521)) (1, 0)
def sum (b : List Int) : Int := 65536 * (sums b).2 + (sums b).1
def sel (b : List Int) : List Int := put b.length ++ b ++ put (sum b)
def opn (b : List Int) : Option (List Int × Nat) :=
  match get b with
  | some (n, at_) =>
    if 0 ≤ n ∧ n ≤ (b.length : Int) - at_ then
      match get (b.drop (at_ + n.toNat)) with
      | some (s, used) => if s = sum ((b.drop at_).take n.toNat) then some ((b.drop at_).take n.toNat, at_ + n.toNat + used) else none
      | none => none
    else none
  | none => none
def nums (l : List Int) : List Int := put l.length ++ l.flatMap put
def getn : Nat → List Int → Option (List Int × Nat)
  | 0, _ => some ([], 0)
  | k + 1, b =>
    match get b with
    | some (n, at_) => (getn k (b.drop at_)).map fun p => (n :: p.1, at_ + p.2)
    | none => none
def getNums (b : List Int) : Option (List Int × Nat) :=
  match get b with
  | some (m, at_) => if 0 ≤ m then (getn m.toNat (b.drop at_)).map fun p => (p.1, at_ + p.2) else none
  | none => none

/-! ### put and get -/
theorem zig_lt {n : Int} (h : I64 n) : zig n < 18446744073709551616 := by
  unfold I64 at h; unfold zig; split <;> omega
theorem unz_zig (n : Int) : unz (zig n) = n := by
  unfold zig unz
  split <;> split <;> omega
theorem zig_unz (u : Nat) : zig (unz u) = u := by
  unfold zig unz
  split <;> split <;> omega
theorem unz_i64 {u : Nat} (h : u < 18446744073709551616) : I64 (unz u) := by
  unfold unz I64
  split <;> omega
theorem grp_len (f u : Nat) : (grp f u).length ≤ f := by
  induction f generalizing u with
  | zero => simp [grp]
  | succ f ih =>
    unfold grp
    split
    · simp
    · simp only [List.length_cons]; have := ih (u / 128); omega
theorem grp_byt (f u : Nat) : Byt (grp f u) := by
  induction f generalizing u with
  | zero => intro x h; simp [grp] at h
  | succ f ih =>
    intro x h
    unfold grp at h
    split at h
    · simp at h; omega
    · simp only [List.mem_cons] at h
      rcases h with h | h
      · omega
      · exact ih _ x h
theorem put_byt (n : Int) : Byt (put n) := grp_byt _ _
theorem put_len (n : Int) : (put n).length ≤ 10 := grp_len _ _
theorem grp_pos (f u : Nat) : 0 < (grp (f + 1) u).length := by
  unfold grp; split <;> simp
theorem put_pos (n : Int) : 0 < (put n).length := grp_pos _ _
/-- What was put is read, whatever stands behind it. -/
theorem ug_grp (f u : Nat) (h : u < 128 ^ (f + 1)) (r : List Int) : ug (f + 1) (grp (f + 1) u ++ r) = some (u, (grp (f + 1) u).length) := by
  induction f generalizing u with
  | zero =>
    have h1 : u < 128 := by simpa using h
    rw [grp, if_pos h1]
    simp only [List.cons_append, List.nil_append, ug, List.length_singleton]
    rw [if_pos (by omega)]
    simp
  | succ f ih =>
    by_cases h1 : u < 128
    · rw [grp, if_pos h1]
      simp only [List.cons_append, List.nil_append, ug, List.length_singleton]
      rw [if_pos (by omega)]
      simp
    · rw [grp, if_neg h1]
      simp only [List.cons_append, ug, List.length_cons]
      rw [if_neg (by omega)]
      have h2 : u / 128 < 128 ^ (f + 1) := by
        rw [Nat.pow_succ] at h
        exact Nat.div_lt_of_lt_mul (by rw [Nat.mul_comm]; exact h)
      rw [ih _ h2]
      simp only [Option.map_some, Option.some.injEq, Prod.mk.injEq, and_true]
      omega
theorem zig_lt10 {n : Int} (h : I64 n) : zig n < 128 ^ (9 + 1) := by
  have := zig_lt h
  have : (128 : Nat) ^ (9 + 1) = 1180591620717411303424 := by decide
  omega
theorem get_put {n : Int} (h : I64 n) (r : List Int) : get (put n ++ r) = some (n, (put n).length) := by
  unfold get
  have := ug_grp 9 (zig n) (zig_lt10 h) r
  unfold put
  rw [this]
  simp only
  rw [if_pos ⟨zig_lt h, by rw [unz_zig]; simp⟩, unz_zig]
theorem get_some {b : List Int} {n : Int} {k : Nat} (h : get b = some (n, k)) : I64 n ∧ put n = b.take k ∧ k = (put n).length ∧ k ≤ b.length := by
  unfold get at h
  split at h
  · rename_i u k' hu
    split at h
    · rename_i hc
      simp only [Option.some.injEq, Prod.mk.injEq] at h
      obtain ⟨rfl, rfl⟩ := h
      have hk : ∀ (f : Nat) (b : List Int) (u k : Nat), ug f b = some (u, k) → k ≤ b.length := by
        intro f
        induction f with
        | zero => intro b u k h; simp [ug] at h
        | succ f ih =>
          intro b u k h
          cases b with
          | nil => simp [ug] at h
          | cons x r =>
            rw [ug] at h
            split at h
            · simp at h; obtain ⟨_, rfl⟩ := h; simp
            · simp only [Option.map_eq_some_iff, Prod.mk.injEq] at h
              obtain ⟨⟨a, c⟩, h1, _, rfl⟩ := h
              have := ih _ _ _ h1
              simp; omega
      have := hk _ _ _ _ hu
      refine ⟨unz_i64 hc.1, hc.2, ?_, this⟩
      rw [hc.2, List.length_take]
      omega
    · simp at h
  · simp at h
theorem get_iff {b : List Int} {n : Int} {k : Nat} : get b = some (n, k) ↔ I64 n ∧ k = (put n).length ∧ ∃ r, b = put n ++ r := by
  constructor
  · intro h
    obtain ⟨h1, h2, h3, _⟩ := get_some h
    exact ⟨h1, h3, b.drop k, by rw [h2]; exact (List.take_append_drop k b).symm⟩
  · rintro ⟨h1, rfl, r, rfl⟩
    exact get_put h1 r
theorem get_none {b : List Int} (h : get b = none) : ∀ n, I64 n → ∀ r, b ≠ put n ++ r := by
  rintro n hn r rfl
  rw [get_put hn] at h
  simp at h
/-- Put is free of beginnings. -/
theorem put_apart {n m : Int} (hn : I64 n) (hm : I64 m) {r s : List Int} (h : put n ++ r = put m ++ s) : n = m ∧ r = s := by
  have h1 := get_put hn r
  rw [h, get_put hm] at h1
  simp only [Option.some.injEq, Prod.mk.injEq] at h1
  obtain ⟨rfl, _⟩ := h1
  exact ⟨rfl, List.append_cancel_left h⟩
theorem put_inj {n m : Int} (hn : I64 n) (hm : I64 m) (h : put n = put m) : n = m :=
  (put_apart (r := []) (s := []) hn hm (by simpa using h)).1

/-! ### sums and seals -/
theorem sums_step (b : List Int) (p : Int × Int) (hp : (0 ≤ p.1 ∧ p.1 < 65521) ∧ 0 ≤ p.2 ∧ p.2 < 65521) :
    let q := b.foldl (fun (p : Int × Int) c => ((p.1 + c) % 65521, (p.2 + (p.1 + c) % 65521) % 65521)) p
    (0 ≤ q.1 ∧ q.1 < 65521) ∧ 0 ≤ q.2 ∧ q.2 < 65521 := by
  induction b generalizing p with
  | nil => exact hp
  | cons c b ih =>
    simp only [List.foldl_cons]
    exact ih _ (by simp only; omega)
theorem sums_bd (b : List Int) : (0 ≤ (sums b).1 ∧ (sums b).1 < 65521) ∧ 0 ≤ (sums b).2 ∧ (sums b).2 < 65521 := sums_step b (1, 0) (by simp)
theorem sum_bd (b : List Int) : 0 ≤ sum b ∧ sum b < 4294967296 := by
  have := sums_bd b
  unfold sum
  omega
theorem sum_i64 (b : List Int) : I64 (sum b) := by
  have := sum_bd b
  unfold I64
  omega
theorem sums_mod (b : List Int) (p q : Int × Int) (d : Int) (h : (q.1 - p.1 - d) % 65521 = 0) :
    ((b.foldl (fun (p : Int × Int) c => ((p.1 + c) % 65521, (p.2 + (p.1 + c) % 65521) % 65521)) q).1 - (b.foldl (fun (p : Int × Int) c => ((p.1 + c) % 65521, (p.2 + (p.1 + c) % 65521) % 65521)) p).1 - d) % 65521 = 0 := by
  induction b generalizing p q with
  | nil => exact h
  | cons c b ih =>
    simp only [List.foldl_cons]
    exact ih _ _ (by simp only; omega)
/-- A row of which one byte is another one has another sum. -/
theorem sum_turned (a c : List Int) (x y : Int) (hx : 0 ≤ x ∧ x ≤ 255) (hy : 0 ≤ y ∧ y ≤ 255) (hne : x ≠ y) : sum (a ++ x :: c) ≠ sum (a ++ y :: c) := by
  intro h
  have h1 := sums_bd (a ++ x :: c)
  have h2 := sums_bd (a ++ y :: c)
  have h3 : (sums (a ++ x :: c)).1 = (sums (a ++ y :: c)).1 := by
    unfold sum at h
    omega
  have h4 := sums_mod c ((((sums a).1 + y) % 65521, ((sums a).2 + ((sums a).1 + y) % 65521) % 65521)) ((((sums a).1 + x) % 65521, ((sums a).2 + ((sums a).1 + x) % 65521) % 65521)) (x - y) (by simp only; omega)
  have e1 : sums (a ++ x :: c) = c.foldl (fun (p : Int × Int) c => ((p.1 + c) % 65521, (p.2 + (p.1 + c) % 65521) % 65521)) (((sums a).1 + x) % 65521, ((sums a).2 + ((sums a).1 + x) % 65521) % 65521) := by
    unfold sums
    rw [List.foldl_append, List.foldl_cons]
  have e2 : sums (a ++ y :: c) = c.foldl (fun (p : Int × Int) c => ((p.1 + c) % 65521, (p.2 + (p.1 + c) % 65521) % 65521)) (((sums a).1 + y) % 65521, ((sums a).2 + ((sums a).1 + y) % 65521) % 65521) := by
    unfold sums
    rw [List.foldl_append, List.foldl_cons]
  rw [← e1, ← e2] at h4
  omega
theorem len_i64 {α : Type} {l : List α} (h : l.length ≤ 9223372036854775807) : I64 (l.length : Int) := by
  unfold I64; omega
theorem drop_add_append (a b : List Int) (n : Nat) : (a ++ b).drop (a.length + n) = b.drop n := by
  rw [List.drop_append]
  simp
theorem opn_sel {b : List Int} (h : b.length ≤ 9223372036854775807) (r : List Int) : opn (sel b ++ r) = some (b, (sel b).length) := by
  unfold opn
  have e : sel b ++ r = put b.length ++ (b ++ (put (sum b) ++ r)) := by simp [sel]
  rw [e, get_put (len_i64 h)]
  simp only
  rw [if_pos ⟨by omega, by simp only [List.length_append]; omega⟩]
  have h1 : (put (b.length : Int) ++ (b ++ (put (sum b) ++ r))).drop ((put (b.length : Int)).length + (b.length : Int).toNat) = put (sum b) ++ r := by
    rw [drop_add_append]; simp
  have h2 : ((put (b.length : Int) ++ (b ++ (put (sum b) ++ r))).drop (put (b.length : Int)).length).take (b.length : Int).toNat = b := by
    simp
  rw [h1, get_put (sum_i64 b), h2]
  simp only [if_true]
  simp [sel]
  omega
theorem opn_some {b s : List Int} {k : Nat} (h : opn b = some (s, k)) : ∃ r, b = sel s ++ r ∧ k = (sel s).length := by
  unfold opn at h
  split at h
  · rename_i n at_ hg
    split at h
    · rename_i hc
      split at h
      · rename_i s' used hs
        split at h
        · rename_i he
          simp only [Option.some.injEq, Prod.mk.injEq] at h
          obtain ⟨rfl, rfl⟩ := h
          obtain ⟨hn, rfl, r, rfl⟩ := get_iff.1 hg
          obtain ⟨hs', rfl, r', hr'⟩ := get_iff.1 hs
          rw [drop_add_append] at hr'
          simp only [List.drop_left] at he ⊢
          have hl : (r.take n.toNat).length = n.toNat := by
            rw [List.length_take]
            simp only [List.length_append] at hc
            omega
          have hn' : ((r.take n.toNat).length : Int) = n := by omega
          refine ⟨r', ?_, ?_⟩
          · unfold sel
            rw [hn', ← he, List.append_assoc, List.append_assoc, ← hr', List.take_append_drop]
          · unfold sel
            rw [hn', ← he]
            simp only [List.length_append, hl]
        · simp at h
      · simp at h
    · simp at h
  · simp at h
theorem opn_none {b : List Int} (h : opn b = none) : ∀ s r, s.length ≤ 9223372036854775807 → b ≠ sel s ++ r := by
  rintro s r hs rfl
  rw [opn_sel hs] at h
  simp at h

/-! ### rows of numbers -/
theorem getn_nums (l : List Int) (h : ∀ x ∈ l, I64 x) (r : List Int) : getn l.length (l.flatMap put ++ r) = some (l, (l.flatMap put).length) := by
  induction l with
  | nil => simp [getn]
  | cons n l ih =>
    simp only [List.flatMap_cons, List.length_cons, getn, List.append_assoc]
    rw [get_put (h n (by simp))]
    simp only [List.drop_left]
    rw [ih (fun x hx => h x (by simp [hx]))]
    simp
theorem getNums_nums {l : List Int} (hl : l.length ≤ 9223372036854775807) (h : ∀ x ∈ l, I64 x) (r : List Int) : getNums (nums l ++ r) = some (l, (nums l).length) := by
  unfold getNums nums
  rw [List.append_assoc, get_put (len_i64 hl)]
  simp only [List.drop_left]
  rw [if_pos (by omega)]
  have := getn_nums l h r
  simp only [Int.toNat_natCast]
  rw [this]
  simp
theorem getn_some {k : Nat} {b l : List Int} {u : Nat} (h : getn k b = some (l, u)) : l.length = k ∧ (∀ x ∈ l, I64 x) ∧ u = (l.flatMap put).length ∧ ∃ r, b = l.flatMap put ++ r := by
  induction k generalizing b l u with
  | zero =>
    simp only [getn, Option.some.injEq, Prod.mk.injEq] at h
    obtain ⟨rfl, rfl⟩ := h
    simp
  | succ k ih =>
    rw [getn] at h
    split at h
    · rename_i n at_ hg
      simp only [Option.map_eq_some_iff, Prod.mk.injEq] at h
      obtain ⟨⟨l', u'⟩, h1, rfl, rfl⟩ := h
      obtain ⟨hn, rfl, r, rfl⟩ := get_iff.1 hg
      rw [List.drop_left] at h1
      obtain ⟨h2, h3, h4, r', h5⟩ := ih h1
      refine ⟨by simp [h2], ?_, by simp [h4], r', by simp [h5]⟩
      intro x hx
      simp only [List.mem_cons] at hx
      rcases hx with rfl | hx
      · exact hn
      · exact h3 x hx
    · simp at h
theorem getNums_some {b l : List Int} {u : Nat} (h : getNums b = some (l, u)) : (∀ x ∈ l, I64 x) ∧ u = (nums l).length ∧ ∃ r, b = nums l ++ r := by
  unfold getNums at h
  split at h
  · rename_i m at_ hg
    split at h
    · rename_i hm
      simp only [Option.map_eq_some_iff, Prod.mk.injEq] at h
      obtain ⟨⟨l', u'⟩, h1, rfl, rfl⟩ := h
      obtain ⟨hn, rfl, r, rfl⟩ := get_iff.1 hg
      rw [List.drop_left] at h1
      obtain ⟨h2, h3, h4, r', h5⟩ := getn_some h1
      have : ((l'.length : Nat) : Int) = m := by omega
      refine ⟨h3, ?_, r', ?_⟩
      · unfold nums; rw [this, List.length_append, ← h4]
      · unfold nums; rw [this, h5, List.append_assoc]
    · simp at h
  · simp at h
theorem flat_byt (l : List Int) : Byt (l.flatMap put) := by
  intro x hx
  rw [List.mem_flatMap] at hx
  obtain ⟨n, _, hn⟩ := hx
  exact put_byt n x hn
theorem byt_append {a b : List Int} (ha : Byt a) (hb : Byt b) : Byt (a ++ b) := by
  intro x hx
  rw [List.mem_append] at hx
  rcases hx with hx | hx
  · exact ha x hx
  · exact hb x hx
theorem nums_byt (l : List Int) : Byt (nums l) := byt_append (put_byt _) (flat_byt l)
theorem sel_byt {b : List Int} (h : Byt b) : Byt (sel b) := byt_append (byt_append (put_byt _) h) (put_byt _)
theorem flat_len (l : List Int) : (l.flatMap put).length ≤ 10 * l.length := by
  induction l with
  | nil => simp
  | cons n l ih => simp only [List.flatMap_cons, List.length_append, List.length_cons]; have := put_len n; omega
theorem flat_len_ge (l : List Int) : l.length ≤ (l.flatMap put).length := by
  induction l with
  | nil => simp
  | cons n l ih => simp only [List.flatMap_cons, List.length_append, List.length_cons]; have := put_pos n; omega
theorem nums_len (l : List Int) : (nums l).length ≤ 10 + 10 * l.length := by
  unfold nums; rw [List.length_append]; have := put_len l.length; have := flat_len l; omega
theorem sel_len (b : List Int) : (sel b).length ≤ 20 + b.length := by
  unfold sel; simp only [List.length_append]; have := put_len b.length; have := put_len (sum b); omega
end Go.Proofs.Ytiefonnhgjpbfaa.Tr

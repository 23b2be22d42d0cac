/- The reference's Get and GetNums come to the plain functions. -/
import Derived.Test.YtiefonnhgjpbfaaE
set_option linter.unusedVariables false
namespace Go.Proofs.Ytiefonnhgjpbfaa.Tr
open Go.RowKit Go.Proofs.YtiefonnhgjpbfaaW.PrintWords Go.Proofs.YtiefonnhgjpbfaaW.PrintMore

def vv : List Int → Nat
  | [] => 0
  | b :: bs => (b % 128).toNat + 128 * vv bs
theorem vv_cons (b : Int) (bs : List Int) : vv (b :: bs) = (b % 128).toNat + 128 * vv bs := by rw [vv]
theorem vv_snoc (bs : List Int) (x : Int) (h : Hi bs) (h0 : 0 ≤ x) (h1 : x < 128) : vv (bs ++ [x]) = Wv bs + 128 ^ bs.length * x.toNat := by
  induction bs with
  | nil => simp [vv, Wv]; omega
  | cons b bs ih =>
    have hb := h b (by simp)
    have := ih (fun y hy => h y (by simp [hy]))
    simp only [List.cons_append, vv, this, Wv, List.length_cons, Nat.pow_succ]
    rw [Nat.mul_add, Nat.mul_comm (128 ^ bs.length) 128, Nat.mul_assoc]
    omega
theorem vv_step (b : Int) (V : Nat) (h0 : 0 ≤ b) (h1 : b ≤ 255) : IntKind.u64.wrap ((IntKind.u64.wrap (128 * ((V % 18446744073709551616 : Nat) : Int))) + (IntKind.u64.wrap (Int.tmod b 128))) = ((((b % 128).toNat + 128 * V) % 18446744073709551616 : Nat) : Int) := by
  rw [Int.tmod_eq_emod_of_nonneg h0, IntKind.wrap_u64, IntKind.wrap_u64, IntKind.wrap_u64]
  omega
theorem unz_odd (u : Nat) (hu : u < 18446744073709551616) (h : ((u % 2 : Nat) : Int) = 1) : wrap64 ((wrap64 (-(wrap64 ((u / 2 : Nat) : Int)))) - 1) = unz u := by
  rw [w64 (x := ((u / 2 : Nat) : Int)) (by omega) (by omega), w64 (x := -((u / 2 : Nat) : Int)) (by omega) (by omega), w64 (by omega) (by omega)]
  unfold unz
  rw [if_neg (by omega)]
theorem unz_even (u : Nat) (hu : u < 18446744073709551616) (h : ¬ ((u % 2 : Nat) : Int) = 1) : wrap64 ((u / 2 : Nat) : Int) = unz u := by
  rw [w64 (by omega) (by omega)]
  unfold unz
  rw [if_pos (by omega)]
theorem half_u64 (u : Nat) (hu : u < 18446744073709551616) : IntKind.u64.wrap (Int.tdiv (u : Int) 2) = ((u / 2 : Nat) : Int) := by
  rw [Int.tdiv_eq_ediv_of_nonneg (by omega), IntKind.wrap_u64]; omega
theorem ref_Get_j4 (l : List Int) (hn : l.length ≤ 4611686018427387904) (i : Nat) (hi : i < l.length) (n : Int) (h : I64 n) (k : Nat) (hk : 20 < k) :
    underwoodref03_Get.j4 k l (i : Int) n = some (if put n = l.take (i + 1) then (n, (i : Int) + 1, 0) else (0, 0, 3)) := by
  obtain ⟨k, rfl⟩ : ∃ p, k = p + 1 := ⟨k - 1, by omega⟩
  have hp := put_len n
  rw [underwoodref03_Get.j4, ref_Put_is h k (by omega), Option.bind_some]
  have e3 : wrap64 ((i : Int) + 1) = (i : Int) + 1 := w64 (by omega) (by omega)
  rw [e3, if_pos (by omega), if_pos (by omega)]
  have e4 : ((i : Int) + 1).toNat = i + 1 := by omega
  rw [e4, ref_Same_is _ _ (by omega) k (by omega), Option.bind_some]
  by_cases hc : put n = l.take (i + 1)
  · rw [if_pos (decide_eq_true hc), if_pos hc]
  · rw [if_neg (fun hh => hc (of_decide_eq_true hh)), if_neg hc]
theorem ref_Get_l1 (l : List Int) (hl : Byt l) (hn : l.length ≤ 4611686018427387904) (i : Nat) (hi : i < l.length) (hi10 : i < 10) (K : Nat) (hK : 20 < K) (k : Nat) : ∀ m : Nat, m ≤ i + 1 → K + m < k →
    underwoodref03_Get.l1 k l ((vv ((l.take (i + 1)).drop m) % 18446744073709551616 : Nat) : Int) (i : Int) ((m : Int) - 1)
      = some (if put (unz (vv (l.take (i + 1)) % 18446744073709551616)) = l.take (i + 1) then (unz (vv (l.take (i + 1)) % 18446744073709551616), (i : Int) + 1, 0) else (0, 0, 3)) := by
  induction k with
  | zero => intro m _ h; omega
  | succ k ih =>
    intro m hm hk
    rw [underwoodref03_Get.l1]
    by_cases h : 0 < m
    · obtain ⟨m, rfl⟩ : ∃ p, m = p + 1 := ⟨m - 1, by omega⟩
      have e1 : ((m + 1 : Nat) : Int) - 1 = (m : Int) := by omega
      have hb := rd_byt hl m (by omega)
      rw [e1, if_pos (by omega), if_pos (by omega), if_pos (by omega), w64 (x := (m : Int) - 1) (by omega) (by omega)]
      have hd : (l.take (i + 1)).drop m = rd l (m : Int) :: (l.take (i + 1)).drop (m + 1) := by
        have hlt : m < (l.take (i + 1)).length := by simp; omega
        rw [List.drop_eq_getElem_cons hlt, List.getElem_take, rd_get l m (by omega)]
      have e2 : IntKind.u64.wrap ((IntKind.u64.wrap (128 * ((vv ((l.take (i + 1)).drop (m + 1)) % 18446744073709551616 : Nat) : Int))) + (IntKind.u64.wrap (Int.tmod (rd l (m : Int)) 128))) = ((vv ((l.take (i + 1)).drop m) % 18446744073709551616 : Nat) : Int) := by
        rw [vv_step _ _ hb.1 hb.2, hd, vv_cons]
      rw [e2]
      exact ih m (by omega) (by omega)
    · have : m = 0 := by omega
      subst this
      simp only [List.drop_zero]
      generalize hu : vv (l.take (i + 1)) % 18446744073709551616 = u
      have hu' : u < 18446744073709551616 := by omega
      rw [if_neg (by omega)]
      have hj : ∀ n : Int, n = unz u → underwoodref03_Get.j4 k l (i : Int) n = some (if put (unz u) = l.take (i + 1) then (unz u, (i : Int) + 1, 0) else (0, 0, 3)) := by
        rintro n rfl
        exact ref_Get_j4 l hn i hi _ (unz_i64 hu') k (by omega)
      have e5 : Int.tmod (u : Int) 2 = ((u % 2 : Nat) : Int) := by rw [Int.tmod_eq_emod_of_nonneg (by omega)]; omega
      rw [e5, half_u64 u hu']
      by_cases h2 : ((u % 2 : Nat) : Int) = 1
      · rw [if_pos h2]
        exact hj _ (unz_odd u hu' h2)
      · rw [if_neg h2]
        exact hj _ (unz_even u hu' h2)
theorem gt_put (bs r : List Int) (x : Int) (h : Hi bs) (hl : bs.length < 10) (h0 : 0 ≤ x) (hx : x < 128) :
    gt (bs ++ x :: r) = if put (unz (vv (bs ++ [x]) % 18446744073709551616)) = bs ++ [x] then (unz (vv (bs ++ [x]) % 18446744073709551616), (bs.length : Int) + 1, 0) else (0, 0, 3) := by
  unfold gt get
  have hu := ug_at bs r x h hl hx
  rw [hu, vv_snoc bs x h h0 hx]
  simp only [take_at]
  generalize hV : Wv bs + 128 ^ bs.length * x.toNat = V at *
  by_cases hlt : V < 18446744073709551616
  · rw [Nat.mod_eq_of_lt hlt]
    by_cases e : put (unz V) = bs ++ [x]
    · rw [if_pos ⟨hlt, e⟩, if_pos e]
      simp
    · rw [if_neg (fun hh => e hh.2), if_neg e]
  · rw [if_neg (fun hh => hlt hh.1), if_neg]
    intro e
    have h1 : V % 18446744073709551616 < 128 ^ (9 + 1) := by
      have : (128 : Nat) ^ (9 + 1) = 1180591620717411303424 := by decide
      omega
    have h2 := ug_grp 9 (V % 18446744073709551616) h1 r
    unfold put at e
    rw [zig_unz] at e
    rw [e] at h2
    rw [show bs ++ x :: r = (bs ++ [x]) ++ r from by simp, h2] at hu
    simp only [Option.some.injEq, Prod.mk.injEq] at hu
    omega
theorem ref_Get_l0 (l : List Int) (hl : Byt l) (hn : l.length ≤ 4611686018427387904) (k : Nat) : ∀ i : Nat, i ≤ l.length → i ≤ 10 → Hi (l.take i) → 100 < k + i →
    underwoodref03_Get.l0 k l 0 (i : Int) = some (gt l) := by
  induction k with
  | zero => intro i _ h _ h'; omega
  | succ k ih =>
    intro i hi hi10 hH hk
    rw [underwoodref03_Get.l0]
    have hj : ∀ h : ¬ (i < l.length ∧ i < 10 ∧ 128 ≤ rd l (i : Int)), underwoodref03_Get.j1 k l 0 (i : Int) = some (gt l) := by
      intro h
      obtain ⟨k, rfl⟩ : ∃ p, k = p + 2 := ⟨k - 2, by omega⟩
      rw [underwoodref03_Get.j1]
      by_cases h1 : i = l.length
      · have : l.take i = l := List.take_of_length_le (by omega)
        rw [this] at hH
        rw [if_pos (by omega), underwoodref03_Get.j2, if_pos rfl, gt_end l hH]
      · have hs := split_at l i (by omega)
        have hlen : (l.take i).length = i := by simp; omega
        rw [if_neg (by omega)]
        by_cases h2 : i = 10
        · have hf : gt l = (0, 0, 3) := by
            rw [← hs]
            exact gt_long _ _ hH (by omega)
          rw [hf, h2, underwoodref03_Get.j2, if_pos (by rfl)]
        · have hb := rd_byt hl i (by omega)
          have hx : rd l (i : Int) < 128 := by omega
          have hd : ((i : Int) == 10) = false := by simp; omega
          rw [hd, underwoodref03_Get.j2, if_neg (by simp)]
          have h3 := ref_Get_l1 l hl hn i (by omega) (by omega) 21 (by omega) k (i + 1) (by omega) (by omega)
          have e0 : (l.take (i + 1)).drop (i + 1) = [] := List.drop_eq_nil_of_le (by simp; omega)
          rw [e0] at h3
          have e1 : ((vv [] % 18446744073709551616 : Nat) : Int) = 0 := rfl
          have e2 : ((i + 1 : Nat) : Int) - 1 = (i : Int) := by omega
          rw [e1, e2] at h3
          rw [h3]
          have h4 := gt_put (l.take i) (l.drop (i + 1)) (rd l (i : Int)) hH (by omega) hb.1 hx
          rw [hs, ← take_succ_rd l i (by omega), hlen] at h4
          rw [h4]
    by_cases h : i < l.length ∧ i < 10 ∧ 128 ≤ rd l (i : Int)
    · rw [if_pos (by omega), if_pos (by omega), if_pos (by omega), if_pos h.2.2, w64 (x := (i : Int) + 1) (by omega) (by omega)]
      have hb := rd_byt hl i h.1
      have := ih (i + 1) (by omega) (by omega) (by
        intro y hy
        rw [take_succ_rd l i h.1, List.mem_append, List.mem_singleton] at hy
        rcases hy with hy | rfl
        · exact hH y hy
        · omega) (by omega)
      rw [Int.natCast_add, Int.natCast_one] at this
      exact this
    · have hj' := hj h
      split
      · split
        · split
          · split
            · rename_i h1 h2 h3 h4
              exact absurd ⟨by omega, by omega, h4⟩ h
            · exact hj'
          · omega
        · exact hj'
      · exact hj'
theorem ref_Get_is (l : List Int) (hl : Byt l) (hn : l.length ≤ 4611686018427387904) (k : Nat) (hk : 100 < k) : underwoodref03_Get.f k l = some (gt l) := by
  unfold underwoodref03_Get.f
  have := ref_Get_l0 l hl hn k 0 (by omega) (by omega) (by intro x hx; simp at hx) (by omega)
  simpa using this

/-! ### rows of numbers -/
def gn (b : List Int) : List Int × Int × Int :=
  match getNums b with
  | some (l, k) => (l, (k : Int), 0)
  | none => ([], 0, 3)
theorem byt_drop {l : List Int} (h : Byt l) (i : Nat) : Byt (l.drop i) := fun x hx => h x (List.mem_of_mem_drop hx)
theorem byt_take {l : List Int} (h : Byt l) (i : Nat) : Byt (l.take i) := fun x hx => h x (List.mem_of_mem_take hx)
theorem gt_none {b : List Int} (h : get b = none) : gt b = (0, 0, 3) := by unfold gt; rw [h]
theorem gt_some {b : List Int} {n : Int} {k : Nat} (h : get b = some (n, k)) : gt b = (n, (k : Int), 0) := by unfold gt; rw [h]
theorem get_len {b : List Int} {n : Int} {k : Nat} (h : get b = some (n, k)) : 0 < k ∧ k ≤ b.length := by
  obtain ⟨_, _, h3, h4⟩ := get_some h
  have := put_pos n
  omega
theorem getn_none_long (k : Nat) (b : List Int) (h : b.length < k) : getn k b = none := by
  induction k generalizing b with
  | zero => omega
  | succ k ih =>
    rw [getn]
    cases hg : get b with
    | none => rfl
    | some p =>
      obtain ⟨n, a⟩ := p
      have := get_len hg
      simp only
      rw [ih (b.drop a) (by simp; omega)]
      rfl
theorem ref_GetNums_l0 (l : List Int) (hl : Byt l) (hn : l.length ≤ 1000000000) (k : Nat) : ∀ (m : Int) (j a : Nat) (acc : List Int), (j : Int) ≤ m → m ≤ 9223372036854775807 → a ≤ l.length → acc.length ≤ a → (l.length - a) + 110 < k → (j : Int) = acc.length →
    underwoodref03_GetNums.l0 k l m (a : Int) acc (j : Int) = some (match getn (m - j).toNat (l.drop a) with | some (x, u) => (acc ++ x, (a : Int) + u, 0) | none => ([], 0, 3)) := by
  induction k with
  | zero => intro m j a acc _ _ _ _ h; omega
  | succ k ih =>
    intro m j a acc hj hm ha hacc hk hja
    rw [underwoodref03_GetNums.l0]
    by_cases h : (j : Int) < m
    · rw [if_pos h, if_pos (by omega), if_pos (by omega), Int.toNat_natCast, ref_Get_is _ (byt_drop hl a) (by simp; omega) k (by omega)]
      simp only [Option.bind_some]
      obtain ⟨q, hq⟩ : ∃ q, (m - j).toNat = q + 1 := ⟨(m - j).toNat - 1, by omega⟩
      rw [hq, getn]
      cases hg : get (l.drop a) with
      | none =>
        rw [gt_none hg]
        simp
      | some p =>
        obtain ⟨n, u⟩ := p
        have hu := get_len hg
        simp only [List.length_drop] at hu
        rw [gt_some hg]
        simp only [if_true]
        rw [if_pos (by omega), w64 (x := (a : Int) + (u : Int)) (by omega) (by omega), w64 (x := (j : Int) + 1) (by omega) (by omega)]
        have := ih m (j + 1) (a + u) (acc ++ [n]) (by omega) hm (by omega) (by simp; omega) (by omega) (by simp; omega)
        rw [Int.natCast_add, Int.natCast_add, Int.natCast_one] at this
        rw [this]
        have e : (m - ((j : Int) + 1)).toNat = q := by omega
        rw [e, List.drop_drop]
        cases getn q (l.drop (a + u)) with
        | none => rfl
        | some p =>
          simp only [Option.map_some, List.append_assoc, List.singleton_append, Option.some.injEq, Prod.mk.injEq, true_and, and_true]
          omega
    · rw [if_neg h]
      have : (m - j).toNat = 0 := by omega
      rw [this]
      simp [getn]
theorem ref_GetNums_is (l : List Int) (hl : Byt l) (hn : l.length ≤ 1000000000) (k : Nat) (hk : l.length + 120 < k) : underwoodref03_GetNums.f k l = some (gn l) := by
  unfold underwoodref03_GetNums.f
  rw [ref_Get_is l hl (by omega) k (by omega)]
  simp only [Option.bind_some]
  obtain ⟨k, rfl⟩ : ∃ p, k = p + 1 := ⟨k - 1, by omega⟩
  unfold gn getNums
  cases hg : get l with
  | none =>
    rw [gt_none hg]
    simp only
    rw [if_neg (by omega), underwoodref03_GetNums.j0, if_pos rfl]
  | some p =>
    obtain ⟨m, a⟩ := p
    have hu := get_len hg
    have hm := (get_some hg).1
    rw [gt_some hg]
    simp only [if_true]
    unfold I64 at hm
    rw [underwoodref03_GetNums.j0]
    by_cases h0 : 0 ≤ m
    · rw [if_neg (by simp; omega), if_pos h0]
      have := ref_GetNums_l0 l hl hn k m 0 a [] (by omega) (by omega) (by omega) (by simp) (by omega) (by simp)
      simp only [Int.natCast_zero, Int.sub_zero, List.nil_append] at this
      rw [this]
      cases getn m.toNat (l.drop a) with
      | none => rfl
      | some p => simp
    · rw [if_pos (by simp; omega), if_neg h0]
end Go.Proofs.Ytiefonnhgjpbfaa.Tr

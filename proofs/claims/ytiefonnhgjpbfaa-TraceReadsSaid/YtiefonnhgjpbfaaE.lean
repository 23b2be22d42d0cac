/- What is got of bytes: wire.Get and the reference's Get come to the plain 'get'. -/
import Derived.Test.YtiefonnhgjpbfaaD
set_option linter.unusedVariables false
namespace Go.Proofs.Ytiefonnhgjpbfaa.Tr
open Go.RowKit Go.Proofs.YtiefonnhgjpbfaaW.PrintWords Go.Proofs.YtiefonnhgjpbfaaW.PrintMore

def gt (b : List Int) : Int × Int × Int :=
  match get b with
  | some (n, k) => (n, (k : Int), 0)
  | none => (0, 0, 3)
def Hi (l : List Int) : Prop := ∀ x ∈ l, 128 ≤ x ∧ x ≤ 255
def Wv : List Int → Nat
  | [] => 0
  | b :: bs => b.toNat - 128 + 128 * Wv bs
theorem Wv_snoc (bs : List Int) (b : Int) : Wv (bs ++ [b]) = Wv bs + (b.toNat - 128) * 128 ^ bs.length := by
  induction bs with
  | nil => simp [Wv]
  | cons c bs ih =>
    simp only [List.cons_append, Wv, ih, List.length_cons, Nat.pow_succ]
    rw [Nat.mul_add, Nat.add_assoc, Nat.mul_comm (128 ^ bs.length) 128, Nat.mul_left_comm]
theorem Wv_lt (bs : List Int) (h : Hi bs) : Wv bs < 128 ^ bs.length := by
  induction bs with
  | nil => simp [Wv]
  | cons b bs ih =>
    have h1 := h b (by simp)
    have h2 := ih (fun x hx => h x (by simp [hx]))
    simp only [Wv, List.length_cons, Nat.pow_succ]
    omega
theorem ug_hi (bs : List Int) (h : Hi bs) (f : Nat) (r : List Int) (hf : bs.length ≤ f) : ug f (bs ++ r) = (ug (f - bs.length) r).map fun p => (Wv bs + 128 ^ bs.length * p.1, p.2 + bs.length) := by
  induction bs generalizing f with
  | nil => simp [Wv]
  | cons b bs ih =>
    have h1 := h b (by simp)
    simp only [List.length_cons] at hf
    obtain ⟨f, rfl⟩ : ∃ m, f = m + 1 := ⟨f - 1, by omega⟩
    simp only [List.cons_append, ug, List.length_cons]
    rw [if_neg (by omega), ih (fun x hx => h x (by simp [hx])) f (by omega), Option.map_map]
    have e : f + 1 - (bs.length + 1) = f - bs.length := by omega
    rw [e]
    refine congrArg (fun F => Option.map F (ug (f - bs.length) r)) (funext fun p => ?_)
    simp only [Function.comp, Wv, Prod.mk.injEq, Nat.pow_succ]
    refine ⟨?_, by omega⟩
    have h1' : b.toNat - 128 < 128 := by omega
    rw [Nat.mul_add, Nat.mul_comm (128 ^ bs.length) 128, Nat.mul_assoc, Nat.add_assoc]
theorem ug_end (bs : List Int) (h : Hi bs) (f : Nat) : ug f bs = none := by
  rcases Nat.lt_or_ge f bs.length with hf | hf
  · have h1 : Hi (bs.take f) := fun x hx => h x (List.mem_of_mem_take hx)
    have h2 := ug_hi (bs.take f) h1 f (bs.drop f) (by simp; omega)
    rw [List.take_append_drop] at h2
    have h3 : (bs.take f).length = f := by simp; omega
    rw [h2, h3, Nat.sub_self]
    simp [ug]
  · have h2 := ug_hi bs h f [] hf
    rw [List.append_nil] at h2
    rw [h2]
    cases f - bs.length <;> simp [ug]
theorem ug_long (bs r : List Int) (h : Hi bs) (hl : bs.length = 10) : ug 10 (bs ++ r) = none := by
  rw [ug_hi bs h 10 r (by omega), hl]
  simp [ug]
theorem ug_at (bs r : List Int) (x : Int) (h : Hi bs) (hl : bs.length < 10) (hx : x < 128) : ug 10 (bs ++ x :: r) = some (Wv bs + 128 ^ bs.length * x.toNat, bs.length + 1) := by
  rw [ug_hi bs h 10 _ (by omega)]
  obtain ⟨f, hf⟩ : ∃ m, 10 - bs.length = m + 1 := ⟨9 - bs.length, by omega⟩
  rw [hf]
  simp only [ug]
  rw [if_pos hx]
  simp only [Option.map_some, Option.some.injEq, Prod.mk.injEq, true_and]
  omega
theorem grp_short (f i u : Nat) (h : u < 128 ^ i) (hi : 0 < i) : (grp f u).length ≤ i := by
  induction f generalizing u i with
  | zero => simp [grp]
  | succ f ih =>
    unfold grp
    split
    · simp; omega
    · obtain ⟨i, rfl⟩ : ∃ m, i = m + 1 := ⟨i - 1, by omega⟩
      have : 0 < i := by
        rcases Nat.eq_zero_or_pos i with h0 | h0
        · subst h0; simp at h; omega
        · exact h0
      simp only [List.length_cons]
      have := ih i (u / 128) (by rw [Nat.pow_succ] at h; exact Nat.div_lt_of_lt_mul (by rw [Nat.mul_comm]; exact h)) this
      omega
theorem grp_bytes (bs : List Int) (x : Int) (h : Hi bs) (hx0 : 0 ≤ x) (hx : x < 128) (hz : x ≠ 0 ∨ bs = []) (f : Nat) (hf : bs.length < f) : grp f (Wv bs + 128 ^ bs.length * x.toNat) = bs ++ [x] := by
  induction bs generalizing f with
  | nil =>
    obtain ⟨f, rfl⟩ : ∃ m, f = m + 1 := ⟨f - 1, by omega⟩
    simp only [Wv, List.length_nil, Nat.pow_zero, Nat.one_mul, Nat.zero_add, List.nil_append, grp]
    rw [if_pos (by omega), Int.toNat_of_nonneg hx0]
  | cons b bs ih =>
    have h1 := h b (by simp)
    simp only [List.length_cons] at hf
    obtain ⟨f, rfl⟩ : ∃ m, f = m + 1 := ⟨f - 1, by omega⟩
    have hx1 : x ≠ 0 := by rcases hz with hz | hz; exact hz; simp at hz
    have h2 := ih (fun y hy => h y (by simp [hy])) (.inl hx1) f (by omega)
    simp only [Wv, List.length_cons, Nat.pow_succ]
    have e : b.toNat - 128 + 128 * Wv bs + 128 ^ bs.length * 128 * x.toNat = b.toNat - 128 + 128 * (Wv bs + 128 ^ bs.length * x.toNat) := by
      rw [Nat.mul_add, Nat.mul_comm (128 ^ bs.length) 128, Nat.mul_assoc, Nat.add_assoc]
    rw [e]
    have hp : 1 ≤ 128 ^ bs.length * x.toNat := Nat.mul_pos (Nat.pow_pos (by omega)) (by omega)
    generalize hV : Wv bs + 128 ^ bs.length * x.toNat = V at *
    rw [grp, if_neg (by omega)]
    have e1 : (b.toNat - 128 + 128 * V) / 128 = V := by omega
    rw [e1, h2, List.cons_append]
    congr 1
    omega

/-! ### the three ways in which 'get' ends -/
theorem gt_end (bs : List Int) (h : Hi bs) : gt bs = (0, 0, 3) := by
  unfold gt get
  rw [ug_end bs h]
theorem gt_long (bs r : List Int) (h : Hi bs) (hl : bs.length = 10) : gt (bs ++ r) = (0, 0, 3) := by
  unfold gt get
  rw [ug_long bs r h hl]
theorem take_at (bs r : List Int) (x : Int) : (bs ++ x :: r).take (bs.length + 1) = bs ++ [x] := by
  rw [List.take_append, List.take_of_length_le (by omega)]; simp
theorem gt_zero (bs r : List Int) (h : Hi bs) (hl : bs.length < 10) (h0 : 0 < bs.length) : gt (bs ++ 0 :: r) = (0, 0, 3) := by
  unfold gt get
  rw [ug_at bs r 0 h hl (by omega)]
  simp only
  rw [if_neg]
  rintro ⟨_, h2⟩
  rw [take_at] at h2
  have h3 : (put (unz (Wv bs + 128 ^ bs.length * (0 : Int).toNat))).length = bs.length + 1 := by rw [h2]; simp
  unfold put at h3
  rw [zig_unz] at h3
  have h4 := grp_short 10 bs.length (Wv bs + 128 ^ bs.length * (0 : Int).toNat) (by simpa using Wv_lt bs h) h0
  omega
theorem gt_big (bs r : List Int) (x : Int) (h : Hi bs) (hl : bs.length = 9) (hx : 1 < x) : gt (bs ++ x :: r) = (0, 0, 3) := by
  by_cases hx1 : x < 128
  · unfold gt get
    rw [ug_at bs r x h (by omega) hx1]
    simp only
    rw [if_neg]
    rintro ⟨h1, _⟩
    rw [hl] at h1
    have : (128 : Nat) ^ 9 = 9223372036854775808 := by decide
    rw [this] at h1
    omega
  · unfold gt get
    rw [ug_hi bs h 10 _ (by omega), hl]
    simp only [ug]
    rw [if_neg hx1]
    simp
theorem gt_at (bs r : List Int) (x : Int) (h : Hi bs) (hl : bs.length < 10) (hx0 : 0 ≤ x) (hx : x < 128) (hz : x ≠ 0 ∨ bs = []) (h9 : bs.length = 9 → x ≤ 1) :
    gt (bs ++ x :: r) = (unz (Wv bs + x.toNat * 128 ^ bs.length), (bs.length : Int) + 1, 0) ∧ Wv bs + x.toNat * 128 ^ bs.length < 18446744073709551616 := by
  have hlt := (or_group (Wv bs) bs.length x.toNat (by omega) (Wv_lt bs h) (by omega) (by omega)).2
  refine ⟨?_, hlt⟩
  unfold gt get
  rw [ug_at bs r x h hl hx, Nat.mul_comm (128 ^ bs.length)]
  simp only
  rw [if_pos ⟨hlt, by
    rw [take_at]
    unfold put
    rw [zig_unz, Nat.mul_comm]
    exact grp_bytes bs x h hx0 hx hz 10 hl⟩]
  simp

/-! ### wire.Get -/
theorem take_succ_rd (l : List Int) (i : Nat) (h : i < l.length) : l.take (i + 1) = l.take i ++ [rd l (i : Int)] := by
  rw [rd_get l i h, List.take_succ_eq_append_getElem h]
theorem split_at (l : List Int) (i : Nat) (h : i < l.length) : l.take i ++ rd l (i : Int) :: l.drop (i + 1) = l := by
  rw [← drop_rd l i h, List.take_append_drop]
theorem wire_Get_l0 (l : List Int) (hl : Byt l) (hn : l.length ≤ 4611686018427387904) (k : Nat) : ∀ i : Nat, i ≤ l.length → i ≤ 10 → Hi (l.take i) → 30 < k + 2 * i →
    wire_Get.l0 k (Wv (l.take i) : Int) l (l.length : Int) (i : Int) = some (gt l) := by
  induction k using Nat.strongRecOn with
  | _ k ih =>
    intro i hi hi10 hH hk
    obtain ⟨k, rfl⟩ : ∃ m, k = m + 2 := ⟨k - 2, by omega⟩
    rw [wire_Get.l0]
    by_cases h : i < l.length
    · have hb := rd_byt hl i h
      have hs := split_at l i h
      have hlen : (l.take i).length = i := by simp; omega
      rw [if_pos (by omega), if_pos (by omega), if_pos (by omega)]
      by_cases hstop : 9 < i ∨ (i = 9 ∧ 1 < rd l (i : Int))
      · have hfail : gt l = (0, 0, 3) := by
          rw [← hs]
          rcases hstop with h9 | ⟨h9, h1⟩
          · exact gt_long _ _ hH (by omega)
          · exact gt_big _ _ _ hH (by omega) h1
        rw [hfail]
        rcases hstop with h9 | ⟨h9, h1⟩
        · rw [if_neg (by omega), wire_Get.j1, if_pos (by simp; omega)]
        · rw [if_pos (by omega), if_pos (by omega), wire_Get.j1, if_pos rfl]
      · have h9 : i ≤ 9 := by omega
        have hflag : (if (i : Int) = 9 then (if (rd l (i : Int)) > 1 then (wire_Get.j1 (k + 1) (Wv (l.take i) : Int) (i : Int) (rd l (i : Int)) l (l.length : Int) (i : Int) true) else (wire_Get.j1 (k + 1) (Wv (l.take i) : Int) (i : Int) (rd l (i : Int)) l (l.length : Int) (i : Int) (decide ((i : Int) > 9)))) else (wire_Get.j1 (k + 1) (Wv (l.take i) : Int) (i : Int) (rd l (i : Int)) l (l.length : Int) (i : Int) (decide ((i : Int) > 9))))
            = wire_Get.j1 (k + 1) (Wv (l.take i) : Int) (i : Int) (rd l (i : Int)) l (l.length : Int) (i : Int) false := by
          have hd : decide ((i : Int) > 9) = false := by simp; omega
          rw [hd]
          split
          · rw [if_neg (by omega)]
          · rfl
        rw [hflag, wire_Get.j1, if_neg (by simp), if_pos (by rw [w64 (by omega) (by omega)]; omega)]
        have hy : Go.bits .andNot .u8 (rd l (i : Int)) 128 = (((rd l (i : Int)) % 128).toNat : Int) := by
          rw [andNot128 _ hb.1 (by omega)]; omega
        have hor := or_group (Wv (l.take i)) i ((rd l (i : Int)) % 128).toNat h9 (by have := Wv_lt _ hH; rwa [hlen] at this) (by omega) (by omega)
        rw [hy, hor.1]
        by_cases hx : rd l (i : Int) < 128
        · rw [if_pos hx]
          have hm : ((rd l (i : Int)) % 128).toNat = (rd l (i : Int)).toNat := by omega
          rw [hm]
          by_cases hz : rd l (i : Int) = 0
          · rw [if_pos hz]
            by_cases hi0 : 0 < i
            · rw [if_pos (by omega)]
              have : gt l = (0, 0, 3) := by
                rw [hz] at hs
                rw [← hs]
                exact gt_zero _ _ hH (by omega) (by omega)
              rw [this]
            · rw [if_neg (by omega)]
              have hg := gt_at (l.take i) (l.drop (i + 1)) (rd l (i : Int)) hH (by omega) hb.1 hx (.inr (List.eq_nil_of_length_eq_zero (by omega))) (by omega)
              rw [hs, hlen] at hg
              rw [hg.1, unz_bits _ (by rw [← hm]; exact hor.2), w64 (x := (i : Int) + 1) (by omega) (by omega)]
          · rw [if_neg hz]
            have hg := gt_at (l.take i) (l.drop (i + 1)) (rd l (i : Int)) hH (by omega) hb.1 hx (.inl hz) (by omega)
            rw [hs, hlen] at hg
            rw [hg.1, unz_bits _ (by rw [← hm]; exact hor.2), w64 (x := (i : Int) + 1) (by omega) (by omega)]
        · rw [if_neg hx, w64 (x := (i : Int) + 1) (by omega) (by omega)]
          have hW : ((Wv (l.take i) + ((rd l (i : Int)) % 128).toNat * 128 ^ i : Nat) : Int) = (Wv (l.take (i + 1)) : Int) := by
            rw [take_succ_rd l i h, Wv_snoc, hlen]
            rw [show ((rd l (i : Int)) % 128).toNat = (rd l (i : Int)).toNat - 128 from by omega]
          have := ih k (by omega) (i + 1) (by omega) (by omega) (by
            intro y hy
            rw [take_succ_rd l i h, List.mem_append, List.mem_singleton] at hy
            rcases hy with hy | rfl
            · exact hH y hy
            · omega) (by omega)
          rw [Int.natCast_add, Int.natCast_one] at this
          rw [hW, this]
    · rw [if_neg (by omega)]
      have : l.take i = l := List.take_of_length_le (by omega)
      rw [this] at hH
      rw [gt_end l hH]
theorem wire_Get_is (l : List Int) (hl : Byt l) (hn : l.length ≤ 4611686018427387904) (k : Nat) (hk : 30 < k) : wire_Get.f k l = some (gt l) := by
  unfold wire_Get.f
  have := wire_Get_l0 l hl hn k 0 (by omega) (by omega) (by intro x hx; simp at hx) (by omega)
  simpa [Wv] using this
end Go.Proofs.Ytiefonnhgjpbfaa.Tr

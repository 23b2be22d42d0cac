/- wire.GetText and wire.Open, walked. -/
import Derived.Test.YtiefonnhgjpbfaaC2
namespace Go.Proofs.Ytiefonnhgjpbfaa.Tr
open Go.RowKit Go.Proofs.YtiefonnhgjpbfaaW.PrintWords Go.Proofs.YtiefonnhgjpbfaaW.PrintLast Go.Proofs.YtiefonnhgjpbfaaW.PrintMore
attribute [local go_sem] max2_int min2_int max_two min_two max_three min_three max_four min_four   -- for this text's walks alone
set_option linter.unusedVariables false
set_option linter.unusedSimpArgs false

def text (b : List Int) : Option (List Int × Nat) :=
  match get b with
  | some (n, at_) => if 0 ≤ n ∧ n ≤ (b.length : Int) - at_ then some ((b.take (at_ + n.toNat)).drop at_, at_ + n.toNat) else none
  | none => none
theorem take_drop_eq (b : List Int) (a n : Nat) : (b.take (a + n)).drop a = (b.drop a).take n := by
  rw [List.drop_take, Nat.add_sub_cancel_left]
theorem opn_text (b : List Int) : opn b = match text b with
    | some (s, at_) => match get (b.drop at_) with
      | some (m, used) => if m = sum s then some (s, at_ + used) else none
      | none => none
    | none => none := by
  unfold opn text
  cases get b with
  | none => rfl
  | some p =>
    obtain ⟨n, a⟩ := p
    simp only
    by_cases h : 0 ≤ n ∧ n ≤ (b.length : Int) - a
    · rw [if_pos h, if_pos h]
      simp only [take_drop_eq]
      cases get (b.drop (a + n.toNat)) with
      | none => rfl
      | some p => rfl
    · rw [if_neg h, if_neg h]
theorem text_byt {b s : List Int} {k : Nat} (hb : Byt b) (h : text b = some (s, k)) : Byt s ∧ k ≤ b.length ∧ s.length ≤ b.length := by
  unfold text at h
  split at h
  · split at h
    · rename_i n a hg hc
      simp only [Option.some.injEq, Prod.mk.injEq] at h
      obtain ⟨rfl, rfl⟩ := h
      refine ⟨byt_drop (byt_take hb _) _, by omega, by simp; omega⟩
    · simp at h
  · simp at h
theorem bytesOf_str {s : List Int} (h : Byt s) : bytesOf (strOfNums s) = s := by
  unfold bytesOf
  rw [strOfNums_data, List.map_map]
  conv => rhs; rw [← List.map_id s]
  refine List.map_congr_left fun x hx => ?_
  have := h x hx
  simp only [Function.comp, id]
  have h2 : (UInt8.ofNat x.toNat).toNat = x.toNat := by
    rw [UInt8.toNat_ofNat']
    omega
  rw [h2]
  omega
theorem wire_Get_some (A : Option Addr) (c : Nat) (l : List Int) (w : World) (hr : Kd.C (Kd.int .u8) w A l.length l) (hc : l.length ≤ c) (hb : Byt l) (hn : l.length ≤ 1000000000) {n : Int} {k : Nat} (h : get l = some (n, k)) :
    Calls Try.prog 35 #[.slice A l.length c] w fun e w' => e = .returned (.tuple #[.int .i64 n, .int .i64 (k : Int), .int .i64 0]) ∧ Drawn0 w w' :=
  wire_Get.calls 31 A c l n k 0 w hr hc (by rw [wire_Get_is l hb (by omega) 31 (by omega), gt_some h])
theorem wire_Get_none (A : Option Addr) (c : Nat) (l : List Int) (w : World) (hr : Kd.C (Kd.int .u8) w A l.length l) (hc : l.length ≤ c) (hb : Byt l) (hn : l.length ≤ 1000000000) (h : get l = none) :
    Calls Try.prog 35 #[.slice A l.length c] w fun e w' => e = .returned (.tuple #[.int .i64 0, .int .i64 0, .int .i64 3]) ∧ Drawn0 w w' :=
  wire_Get.calls 31 A c l 0 0 3 w hr hc (by rw [wire_Get_is l hb (by omega) 31 (by omega), gt_none h])

set_option maxHeartbeats 8000000 in
set_option maxRecDepth 100000 in
theorem wire_GetText_none (A : Option Addr) (c : Nat) (l : List Int) (w : World) (hr : Kd.C (Kd.int .u8) w A l.length l) (hc : l.length ≤ c) (hb : Byt l) (hn : l.length ≤ 1000000000) (h : text l = none) :
    Calls Try.prog 34 #[.slice A l.length c] w fun e w' => e = .returned (.tuple #[.string ⟨#[]⟩, .int .i64 0, .int .i64 3]) ∧ Drawn0 w w' := by
  have HR := Aside0.mk hr
  have HC := Aside0.mk hc
  have HY := Aside0.mk hb
  have HN := Aside0.mk hn
  unfold text at h
  cases hg : get l with
  | none =>
    have HG := Aside0.mk hg
    clear hg h hr hc hb hn
    go_enter Try.func34, Try.ntmps34
    go_wp2_with (first | ((with_reducible refine gate_callee (f := 35) rfl ?_); refine goesL_ (some 10) rfl rfl Try.func35 (by kernel_rfl) rfl #[.slice A l.length c] rfl (by (try simp only [List.map_toArray, List.map_cons, List.map_nil]); first | done | rfl | (simp only [List.length_drop, List.length_take]; rfl)) ?_; (with_reducible refine (wire_Get_none _ _ l _ ?side1 HC.out HY.out HN.out HG.out).mono ?_); (case side1 => repeat (first | exact HR.out | exact (Kd.C_below HR.out HB.out) | (with_reducible refine Kd.C_alloc ?_ _) | (with_reducible refine Kd.C_drewN ?_ _) | (with_reducible refine Kd.C_drew ?_))); rintro e w' ⟨rfl, ⟨nd, rfl⟩⟩; refine ⟨_, rfl, ?_⟩))
    go_ret3
    exact ⟨rfl, ⟨⟨_, rfl⟩⟩⟩
  | some p =>
    obtain ⟨n, k⟩ := p
    rw [hg] at h
    have hlen := get_len hg
    have hi := (get_some hg).1
    unfold I64 at hi
    obtain ⟨hi0, hi1⟩ := hi
    have hc2 : ¬ (0 ≤ n ∧ n ≤ (l.length : Int) - (k : Int)) := by
      intro hc2
      simp only [if_pos hc2] at h
      cases h
    have hk0 : 0 < k := hlen.1
    have hk1 : (k : Int) ≤ (l.length : Int) := by omega
    have hl1 : (l.length : Int) ≤ 1000000000 := by omega
    have HG := Aside0.mk hg
    clear hg h hr hc hb hn hlen
    by_cases h0 : n < 0
    · clear hc2
      go_enter Try.func34, Try.ntmps34
      go_wp2_with (first | ((with_reducible refine gate_callee (f := 35) rfl ?_); refine goesL_ (some 10) rfl rfl Try.func35 (by kernel_rfl) rfl #[.slice A l.length c] rfl (by (try simp only [List.map_toArray, List.map_cons, List.map_nil]); first | done | rfl | (simp only [List.length_drop, List.length_take]; rfl)) ?_; (with_reducible refine (wire_Get_some _ _ l _ ?side1 HC.out HY.out HN.out HG.out).mono ?_); (case side1 => repeat (first | exact HR.out | exact (Kd.C_below HR.out HB.out) | (with_reducible refine Kd.C_alloc ?_ _) | (with_reducible refine Kd.C_drewN ?_ _) | (with_reducible refine Kd.C_drew ?_))); rintro e w' ⟨rfl, ⟨nd, rfl⟩⟩; refine ⟨_, rfl, ?_⟩))
      go_ret3
      exact ⟨rfl, ⟨⟨_, rfl⟩⟩⟩
    · have h1 : (l.length : Int) - (k : Int) < n := by omega
      clear hc2
      go_enter Try.func34, Try.ntmps34
      go_wp2_with (first | ((with_reducible refine gate_callee (f := 35) rfl ?_); refine goesL_ (some 10) rfl rfl Try.func35 (by kernel_rfl) rfl #[.slice A l.length c] rfl (by (try simp only [List.map_toArray, List.map_cons, List.map_nil]); first | done | rfl | (simp only [List.length_drop, List.length_take]; rfl)) ?_; (with_reducible refine (wire_Get_some _ _ l _ ?side1 HC.out HY.out HN.out HG.out).mono ?_); (case side1 => repeat (first | exact HR.out | exact (Kd.C_below HR.out HB.out) | (with_reducible refine Kd.C_alloc ?_ _) | (with_reducible refine Kd.C_drewN ?_ _) | (with_reducible refine Kd.C_drew ?_))); rintro e w' ⟨rfl, ⟨nd, rfl⟩⟩; refine ⟨_, rfl, ?_⟩))
      go_ret3
      exact ⟨rfl, ⟨⟨_, rfl⟩⟩⟩

set_option maxHeartbeats 8000000 in
set_option maxRecDepth 100000 in
theorem wire_GetText_some (A : Option Addr) (c : Nat) (l : List Int) (w : World) (hr : Kd.C (Kd.int .u8) w A l.length l) (hc : l.length ≤ c) (hb : Byt l) (hn : l.length ≤ 1000000000) {s : List Int} {q : Nat} (h : text l = some (s, q)) :
    Calls Try.prog 34 #[.slice A l.length c] w fun e w' => e = .returned (.tuple #[.string (strOfNums s), .int .i64 (q : Int), .int .i64 0]) ∧ Drawn0 w w' := by
  have HR := Aside0.mk hr
  have HC := Aside0.mk hc
  have HY := Aside0.mk hb
  have HN := Aside0.mk hn
  unfold text at h
  cases hg : get l with
  | none => rw [hg] at h; simp at h
  | some p =>
    obtain ⟨n, k⟩ := p
    rw [hg] at h
    have hlen := get_len hg
    have hi := (get_some hg).1
    simp only at h
    by_cases hc2 : 0 ≤ n ∧ n ≤ (l.length : Int) - (k : Int)
    · rw [if_pos hc2] at h
      simp only [Option.some.injEq, Prod.mk.injEq] at h
      obtain ⟨m, rfl⟩ := Int.eq_ofNat_of_zero_le hc2.1
      obtain ⟨h1, h2⟩ := h
      simp only [Int.toNat_natCast] at h1 h2
      have hm : (m : Int) ≤ (l.length : Int) - (k : Int) := hc2.2
      have hk0 : 0 < k := hlen.1
      have hk1 : (k : Int) ≤ (l.length : Int) := by omega
      have hl1 : (l.length : Int) ≤ 1000000000 := by omega
      have hc3 : (l.length : Int) ≤ (c : Int) := by omega
      obtain ⟨i0, hi0, _, hsz, _⟩ := info_parts info5
      obtain ⟨A1, hcut, hA1, hC1⟩ := print_mid_of (P := Try.prog) (Value.int .u8) 0 24 5 .i64 .i64 Try.underlying24 hi0 hsz A c l (k : Int) ((k : Int) + (m : Int)) (by omega) (by omega) (by omega) hc
      have e1 : ((k : Int) + (m : Int)).toNat = k + m := by omega
      have e2 : ((k : Int)).toNat = k := by omega
      rw [e1, e2, h1] at hcut hC1
      rw [e1, e2, h1] at hA1
      have HR1 := Kd.C_of_reads (h1 := fun _ => rfl) (hA1 _ (Kd.reads_of_C hr))
      have hcv := fun (W : World) (hW : (Kd.int .u8).C W A1 s.length s) => Kd.C_string (P := Try.prog) (c := c - k) Try.underlying24 Try.underlying5 Try.underlying9 hW
      have hcv2 : ∀ m, (convert 24 9 (.slice A1 s.length (c - k))).run Try.prog (w.drewN m) = .ok (.string (strOfNums s)) (w.drewN m) := fun m => hcv _ (Kd.C_drewN HR1 m)
      have HG := Aside0.mk hg
      have HQ : Aside0 ((k : Int) + (m : Int) = (q : Int)) := ⟨by omega⟩
      clear hg h1 h2 hr hc hb hn hlen hc2 hi0 hsz hA1 hC1 HR1 hcv e1 e2 hi
      go_enter Try.func34, Try.ntmps34
      go_wp2_with (first | ((with_reducible refine gate_callee (f := 35) rfl ?_); refine goesL_ (some 10) rfl rfl Try.func35 (by kernel_rfl) rfl #[.slice A l.length c] rfl (by (try simp only [List.map_toArray, List.map_cons, List.map_nil]); first | done | rfl | (simp only [List.length_drop, List.length_take]; rfl)) ?_; (with_reducible refine (wire_Get_some _ _ l _ ?side1 HC.out HY.out HN.out HG.out).mono ?_); (case side1 => repeat (first | exact HR.out | exact (Kd.C_below HR.out HB.out) | (with_reducible refine Kd.C_alloc ?_ _) | (with_reducible refine Kd.C_drewN ?_ _) | (with_reducible refine Kd.C_drew ?_))); rintro e w' ⟨rfl, ⟨nd, rfl⟩⟩; refine ⟨_, rfl, ?_⟩))
      go_ret3
      exact ⟨by rw [HQ.out]; rfl, ⟨⟨_, rfl⟩⟩⟩
    · rw [if_neg hc2] at h
      cases h

theorem below_bytes {w W : World} (h : Below w.heap.size w W) (e : TypeId) (s : ByteArray) : Below w.heap.size w (Lib.bytesWorld W e s) := bytes_below h h.size e s
theorem str_reads (W : World) {s : List Int} (hb : Byt s) (hn : s.length ≤ 1000000000) : Kd.C (Kd.int .u8) (Lib.bytesWorld W 5 (strOfNums s)) (some ⟨W.heap.size, 0, none⟩) s.length s ∧ s.length ≤ grownCap W (strOfNums s).size 0 5 := by
  have h := bytes_reads W 5 (strOfNums s) (by rw [strOfNums_size]; omega)
  rw [bytesOf_str hb, strOfNums_size] at h
  have hg := grownCap_ge W (strOfNums s).size 0 5
  rw [strOfNums_size] at hg
  exact ⟨Kd.C_of_reads (enc := Value.int .u8) (d := (0 : Int)) (h1 := fun _ => rfl) h, by rw [strOfNums_size]; exact hg⟩
theorem wire_Sum_str (s : List Int) (hb : Byt s) (hn : s.length ≤ 1000000000) (W : World) (B : Nat) (hB : W.heap.size = B) :
    Calls Try.prog 36 #[.slice (some ⟨B, 0, none⟩) (strOfNums s).size (grownCap W (strOfNums s).size 0 5)] (Lib.bytesWorld W 5 (strOfNums s)) fun e w' => e = .returned (.int .i64 (sum s)) ∧ Drawn0 (Lib.bytesWorld W 5 (strOfNums s)) w' := by
  obtain ⟨h1, h2⟩ := str_reads W hb hn
  subst hB
  generalize grownCap W (strOfNums s).size 0 5 = c at *
  generalize hW : Lib.bytesWorld W 5 (strOfNums s) = W1 at *
  rw [strOfNums_size]
  exact wire_Sum.calls (s.length + 1) _ _ s (sum s) _ h1 h2 (wire_Sum_is s hb (by omega))
def OpnRet (W : World) (e : Ending) (w' : World) (s : List Int) (k : Nat) : Prop :=
  ∃ (A : Option Addr) (c : Nat), e = .returned (.tuple #[.slice A s.length c, .int .i64 (k : Int), .int .i64 0]) ∧ Kd.C (Kd.int .u8) w' A s.length s ∧ s.length ≤ c ∧ Below W.heap.size W w'
theorem cut_of {A : Option Addr} {c : Nat} {l : List Int} (k : Nat) (hk : k ≤ l.length) (hc : l.length ≤ c) : ∃ A' : Option Addr,
    (∀ W : World, (Instr.slice 24 (.slice A l.length c) (some (.int .i64 (k : Int))) none none).run Try.prog W = .ok (.slice A' (l.drop k).length (c - k)) W) ∧
    (∀ w : World, Kd.C (Kd.int .u8) w A l.length l → Kd.C (Kd.int .u8) w A' (l.drop k).length (l.drop k)) ∧ (l.drop k).length ≤ c - k := by
  obtain ⟨i0, hi0, _, hsz, _⟩ := info_parts info5
  obtain ⟨A', h1, h2⟩ := print_cut_of (P := Try.prog) (Value.int .u8) 0 24 5 .i64 Try.underlying24 hi0 hsz A l.length c k hk
  refine ⟨A', fun W => by rw [List.length_drop]; exact h1 W, fun w h => ?_, by rw [List.length_drop]; omega⟩
  have h3 := h2 w l hc (Kd.reads_of_C h)
  rw [← List.length_drop] at h3
  exact Kd.C_of_reads (h1 := fun _ => rfl) h3
set_option maxHeartbeats 8000000 in
set_option maxRecDepth 100000 in
theorem wire_Open_none (A : Option Addr) (c : Nat) (l : List Int) (w : World) (hr : Kd.C (Kd.int .u8) w A l.length l) (hc : l.length ≤ c) (hb : Byt l) (hn : l.length ≤ 1000000000) (h : opn l = none) :
    Calls Try.prog 18 #[.slice A l.length c] w fun e w' => e = .returned (.tuple #[.slice none 0 0, .int .i64 0, .int .i64 3]) ∧ Below w.heap.size w w' := by
  have HR := Aside0.mk hr
  have HC := Aside0.mk hc
  have HY := Aside0.mk hb
  have HN := Aside0.mk hn
  have HB := Aside0.mk (Below.refl w.heap.size w)
  rw [opn_text] at h
  cases ht : text l with
  | none =>
    have HT := Aside0.mk ht
    clear ht h hr hc hb hn
    go_enter Try.func18, Try.ntmps18
    go_wp2_with (first | ((with_reducible refine gate_callee (f := 34) rfl ?_); refine goesL_ (some 12) rfl rfl Try.func34 (by kernel_rfl) rfl #[.slice A l.length c] rfl (by (try simp only [List.map_toArray, List.map_cons, List.map_nil]); first | done | rfl | (simp only [List.length_drop, List.length_take]; rfl)) ?_; (with_reducible refine (wire_GetText_none _ _ l _ ?side1 HC.out HY.out HN.out HT.out).mono ?_); (case side1 => repeat (first | exact HR.out | exact (Kd.C_below HR.out HB.out) | (with_reducible refine Kd.C_alloc ?_ _) | (with_reducible refine Kd.C_drewN ?_ _) | (with_reducible refine Kd.C_drew ?_))); rintro e w' ⟨rfl, ⟨nd, rfl⟩⟩; refine ⟨_, rfl, ?_⟩))
    go_ret3
    exact ⟨rfl, (by repeat (first | (with_reducible first | exact HB.out | apply below_alloc | apply pw_below_drewN | apply below_drew1) | exact HB.out))⟩
  | some p =>
    obtain ⟨s, q⟩ := p
    rw [ht] at h
    simp only at h
    have hq := text_byt hb ht
    obtain ⟨A1, hcut, hA1, hC1⟩ := cut_of (A := A) (c := c) (l := l) q hq.2.1 hc
    have HR1 := Aside0.mk (hA1 _ hr)
    have HC1 := Aside0.mk hC1
    have HY1 := Aside0.mk (byt_drop hb q)
    have HN1 : Aside0 ((l.drop q).length ≤ 1000000000) := ⟨by simp; omega⟩
    have HT := Aside0.mk ht
    have hl1 : (l.length : Int) ≤ 1000000000 := by omega
    have hq1 : (q : Int) ≤ (l.length : Int) := by omega
    cases hg : get (l.drop q) with
    | none =>
      have HG := Aside0.mk hg
      clear ht h hr hc hb hn hA1 hC1 hq hg
      go_enter Try.func18, Try.ntmps18
      go_wp2_with (first | ((with_reducible refine gate_callee (f := 34) rfl ?_); refine goesL_ (some 12) rfl rfl Try.func34 (by kernel_rfl) rfl #[.slice A l.length c] rfl (by (try simp only [List.map_toArray, List.map_cons, List.map_nil]); first | done | rfl | (simp only [List.length_drop, List.length_take]; rfl)) ?_; (with_reducible refine (wire_GetText_some _ _ l _ ?side1 HC.out HY.out HN.out HT.out).mono ?_); (case side1 => repeat (first | exact HR.out | exact (Kd.C_below HR.out HB.out) | (with_reducible refine Kd.C_alloc ?_ _) | (with_reducible refine Kd.C_drewN ?_ _) | (with_reducible refine Kd.C_drew ?_))); rintro e w' ⟨rfl, ⟨nd, rfl⟩⟩; refine ⟨_, rfl, ?_⟩) | ((with_reducible refine gate_callee (f := 35) rfl ?_); refine goesL_ (some 23) rfl rfl Try.func35 (by kernel_rfl) rfl #[.slice A1 (l.drop q).length (c - q)] rfl (by (try simp only [List.map_toArray, List.map_cons, List.map_nil]); first | done | rfl | (simp only [List.length_drop, List.length_take]; rfl)) ?_; (with_reducible refine (wire_Get_none _ _ (l.drop q) _ ?side1 HC1.out HY1.out HN1.out HG.out).mono ?_); (case side1 => repeat (first | exact HR1.out | exact (Kd.C_below HR1.out HB.out) | (with_reducible refine Kd.C_alloc ?_ _) | (with_reducible refine Kd.C_drewN ?_ _) | (with_reducible refine Kd.C_drew ?_))); rintro e w' ⟨rfl, ⟨nd, rfl⟩⟩; refine ⟨_, rfl, ?_⟩))
      go_ret3
      exact ⟨rfl, (by repeat (first | (with_reducible first | exact HB.out | apply below_alloc | apply pw_below_drewN | apply below_drew1) | exact HB.out))⟩
    | some p =>
      obtain ⟨m, u⟩ := p
      rw [hg] at h
      simp only at h
      have hne : ¬ m = sum s := by
        intro e
        rw [if_pos e] at h
        cases h
      have hne1 : (m == sum s) = false := beq_eq_false_iff_ne.mpr hne
      have hne2 : (m != sum s) = true := bne_iff_ne.mpr hne
      have HG := Aside0.mk hg
      have HSy := Aside0.mk hq.1
      have HSm : Aside0 (s.length ≤ 1000000000) := ⟨by omega⟩
      have kb := fun W => print_bytes (P := Try.prog) 9 24 5 Try.underlying9 Try.underlying24 Try.underlying5 (strOfNums s) W
      clear ht h hr hc hb hn hA1 hC1 hq hg hne
      go_enter Try.func18, Try.ntmps18
      go_wp2_with (first | ((with_reducible refine gate_callee (f := 34) rfl ?_); refine goesL_ (some 12) rfl rfl Try.func34 (by kernel_rfl) rfl #[.slice A l.length c] rfl (by (try simp only [List.map_toArray, List.map_cons, List.map_nil]); first | done | rfl | (simp only [List.length_drop, List.length_take]; rfl)) ?_; (with_reducible refine (wire_GetText_some _ _ l _ ?side1 HC.out HY.out HN.out HT.out).mono ?_); (case side1 => repeat (first | exact HR.out | exact (Kd.C_below HR.out HB.out) | (with_reducible refine Kd.C_alloc ?_ _) | (with_reducible refine Kd.C_drewN ?_ _) | (with_reducible refine Kd.C_drew ?_))); rintro e w' ⟨rfl, ⟨nd, rfl⟩⟩; refine ⟨_, rfl, ?_⟩) | ((with_reducible refine gate_callee (f := 35) rfl ?_); refine goesL_ (some 23) rfl rfl Try.func35 (by kernel_rfl) rfl #[.slice A1 (l.drop q).length (c - q)] rfl (by (try simp only [List.map_toArray, List.map_cons, List.map_nil]); first | done | rfl | (simp only [List.length_drop, List.length_take]; rfl)) ?_; (with_reducible refine (wire_Get_some _ _ (l.drop q) _ ?side1 HC1.out HY1.out HN1.out HG.out).mono ?_); (case side1 => repeat (first | exact HR1.out | exact (Kd.C_below HR1.out HB.out) | (with_reducible refine Kd.C_alloc ?_ _) | (with_reducible refine Kd.C_drewN ?_ _) | (with_reducible refine Kd.C_drew ?_))); rintro e w' ⟨rfl, ⟨nd, rfl⟩⟩; refine ⟨_, rfl, ?_⟩) | (go_at_call 36; refine (wire_Sum_str s HSy.out HSm.out _ _ ?hB).mono ?_; (case hB => rfl); rintro e w' ⟨rfl, ⟨nd, rfl⟩⟩))
      go_ret3
      exact ⟨rfl, (by repeat (first | (with_reducible first | exact HB.out | apply below_alloc | apply pw_below_drewN | apply below_drew1 | apply below_bytes) | exact HB.out))⟩

theorem opn_ret {w W : World} {s : List Int} {k : Nat} {x : Int} (hb : Byt s) (hn : s.length ≤ 1000000000) (B : Nat) (hB : W.heap.size = B) (h : Below w.heap.size w W) (hx : x = (k : Int)) :
    OpnRet w (.returned (.tuple #[.slice (some ⟨B, 0, none⟩) (strOfNums s).size (grownCap W (strOfNums s).size 0 5), .int .i64 x, .int .i64 0])) (Lib.bytesWorld W 5 (strOfNums s)) s k := by
  subst hB hx
  obtain ⟨h1, h2⟩ := str_reads W hb hn
  exact ⟨_, _, by rw [strOfNums_size], h1, h2, below_bytes h _ _⟩
set_option maxHeartbeats 8000000 in
set_option maxRecDepth 100000 in
theorem wire_Open_some (A : Option Addr) (c : Nat) (l : List Int) (w : World) (hr : Kd.C (Kd.int .u8) w A l.length l) (hc : l.length ≤ c) (hb : Byt l) (hn : l.length ≤ 1000000000) {r : List Int} {k : Nat} (h : opn l = some (r, k)) :
    Calls Try.prog 18 #[.slice A l.length c] w fun e w' => OpnRet w e w' r k := by
  have HR := Aside0.mk hr
  have HC := Aside0.mk hc
  have HY := Aside0.mk hb
  have HN := Aside0.mk hn
  have HB := Aside0.mk (Below.refl w.heap.size w)
  rw [opn_text] at h
  cases ht : text l with
  | none => rw [ht] at h; cases h
  | some p =>
    obtain ⟨s, q⟩ := p
    rw [ht] at h
    simp only at h
    have hq := text_byt hb ht
    obtain ⟨A1, hcut, hA1, hC1⟩ := cut_of (A := A) (c := c) (l := l) q hq.2.1 hc
    have HR1 := Aside0.mk (hA1 _ hr)
    have HC1 := Aside0.mk hC1
    have HY1 := Aside0.mk (byt_drop hb q)
    have HN1 : Aside0 ((l.drop q).length ≤ 1000000000) := ⟨by simp; omega⟩
    have HT := Aside0.mk ht
    have hl1 : (l.length : Int) ≤ 1000000000 := by omega
    have hq1 : (q : Int) ≤ (l.length : Int) := by omega
    cases hg : get (l.drop q) with
    | none => rw [hg] at h; cases h
    | some p =>
      obtain ⟨m, u⟩ := p
      rw [hg] at h
      simp only at h
      by_cases he : m = sum s
      · rw [if_pos he] at h
        simp only [Option.some.injEq, Prod.mk.injEq] at h
        obtain ⟨rfl, hk⟩ := h
        have hu := get_len hg
        have hu1 : (u : Int) ≤ (l.length : Int) := by have := hu.2; simp at this; omega
        have hne1 : (m == sum s) = true := beq_iff_eq.mpr he
        have hne2 : (m != sum s) = false := bne_eq_false_iff_eq.mpr he
        have HK : Aside0 ((q : Int) + (u : Int) = (k : Int)) := ⟨by omega⟩
        have HG := Aside0.mk hg
        have HSy := Aside0.mk hq.1
        have HSm : Aside0 (s.length ≤ 1000000000) := ⟨by omega⟩
        have kb := fun W => print_bytes (P := Try.prog) 9 24 5 Try.underlying9 Try.underlying24 Try.underlying5 (strOfNums s) W
        clear ht hr hc hb hn hA1 hC1 hq hg hu he hk
        go_enter Try.func18, Try.ntmps18
        go_wp2_with (first | ((with_reducible refine gate_callee (f := 34) rfl ?_); refine goesL_ (some 12) rfl rfl Try.func34 (by kernel_rfl) rfl #[.slice A l.length c] rfl (by (try simp only [List.map_toArray, List.map_cons, List.map_nil]); first | done | rfl | (simp only [List.length_drop, List.length_take]; rfl)) ?_; (with_reducible refine (wire_GetText_some _ _ l _ ?side1 HC.out HY.out HN.out HT.out).mono ?_); (case side1 => repeat (first | exact HR.out | exact (Kd.C_below HR.out HB.out) | (with_reducible refine Kd.C_alloc ?_ _) | (with_reducible refine Kd.C_drewN ?_ _) | (with_reducible refine Kd.C_drew ?_))); rintro e w' ⟨rfl, ⟨nd, rfl⟩⟩; refine ⟨_, rfl, ?_⟩) | ((with_reducible refine gate_callee (f := 35) rfl ?_); refine goesL_ (some 23) rfl rfl Try.func35 (by kernel_rfl) rfl #[.slice A1 (l.drop q).length (c - q)] rfl (by (try simp only [List.map_toArray, List.map_cons, List.map_nil]); first | done | rfl | (simp only [List.length_drop, List.length_take]; rfl)) ?_; (with_reducible refine (wire_Get_some _ _ (l.drop q) _ ?side1 HC1.out HY1.out HN1.out HG.out).mono ?_); (case side1 => repeat (first | exact HR1.out | exact (Kd.C_below HR1.out HB.out) | (with_reducible refine Kd.C_alloc ?_ _) | (with_reducible refine Kd.C_drewN ?_ _) | (with_reducible refine Kd.C_drew ?_))); rintro e w' ⟨rfl, ⟨nd, rfl⟩⟩; refine ⟨_, rfl, ?_⟩) | (go_at_call 36; refine (wire_Sum_str s HSy.out HSm.out _ _ ?hB).mono ?_; (case hB => rfl); rintro e w' ⟨rfl, ⟨nd, rfl⟩⟩))
        go_ret3
        refine opn_ret HSy.out HSm.out _ ?_ ?_ HK.out
        · rfl
        · exact (by repeat (first | (with_reducible first | exact HB.out | apply below_alloc | apply pw_below_drewN | apply below_drew1 | apply below_bytes) | exact HB.out))
      · rw [if_neg he] at h
        cases h
end Go.Proofs.Ytiefonnhgjpbfaa.Tr

/- Strands put behind one: walked. -/
import Derived.Test.YthjecgmgpnileaaC7
import Derived.Test.YthjecgmgpnileaaPl
namespace Go.Proofs.Ythjecgmgpnileaa.Bd
open Go.RowKit Go.Lib Go.Proofs.YthjecgmgpnileaaW.PrintWords Go.Proofs.YthjecgmgpnileaaW.PrintLast Go.Proofs.YthjecgmgpnileaaW.PrintMore
attribute [local go_sem] max2_int min2_int max_two min_two max_three min_three max_four min_four   -- for this text's walks alone
set_option linter.unusedVariables false
set_option linter.unusedSimpArgs false

theorem cell_step {W w3 : World} {a : Addr} {v : Value} (hb : Below W.heap.size W w3) (hc : W.cell? a = some v) : w3.cell? a = some v := (hb.cell (World.block_lt_of_cell? W _ hc)).trans hc
theorem map_step {W w3 : World} {b : Nat} {o : List Int} (hb : Below W.heap.size W w3) (h : MapAt W b o) : MapAt w3 b o := (hb.block b (Array.getElem?_eq_some_iff.1 h).1).trans h
theorem below_undrew {B : Nat} {w w' : World} (h : Below B w.drew w') : Below B w w' := ⟨h.os, h.tape, h.output, h.size, h.block⟩
theorem R_blk {w w' : World} {base : Nat} {v : Value} {xs : List Int} (h : Kd.R (Kd.int .i64) 3 w base (fun _ => True) v xs) (hk : ∀ k, k < w.heap.size → (∃ cells, w.heap[k]? = some (.cells cells 3 (0, 0))) → w'.heap[k]? = w.heap[k]?) : Kd.R (Kd.int .i64) 3 w' base (fun _ => True) v xs :=
  Kd.R_mono (Kd.R_step (Kd.R_tight rfl h) fun k ho hl => hk k hl (Kd.R_typed h k ho.symm)) fun _ _ => trivial
/-- What is written in a list's strand put: its own block, and its map's. -/
theorem ls_written {w : World} {base P mb : Nat} {v0 vx : Value} {l o L' : List Int} {s : Int}
    (hP : w.heap[P]? = some (.cells #[vx, .map (some mb)] 85 (0, 0))) (hM : MapAt w mb o) (hR : Kd.R (Kd.int .i64) 3 w base (fun _ => True) v0 l) (hg : Good l) (hrow : IsRow l (L'.map (fOf (o ++ [s])))) (hp : (o ++ [s]).Perm L') (hs : ∀ x ∈ L', 0 ≤ x ∧ x ≤ 1000000) (h1 : base ≤ P) (h2 : base ≤ mb) :
    let w7 := (w.setCell ⟨P, 0, none⟩ v0).drew
    let w9 := ChangeMaps.setBlock (ChangeMaps.setBlock w7 mb (half o s)) mb (.map ((esOf o).push ⟨.int .i64 s, .int .i64 (o.length : Int), o.length⟩) (o.length + 1))
    MapAt w7 mb o ∧ (ChangeMaps.setBlock w7 mb (half o s)).heap[mb]? = some (half o s) ∧ LsAt w9 base P mb L' ∧ (w9.os = w.os ∧ w9.tape = w.tape ∧ w9.output = w.output ∧ w9.heap.size = w.heap.size) ∧ ∀ k, k ≠ P → k ≠ mb → w9.heap[k]? = w.heap[k]? := by
  intro w7 w9
  have hPm : P ≠ mb := fun e => by rw [e] at hP; unfold MapAt at hM; rw [hM] at hP; cases hP
  have hPl := (Array.getElem?_eq_some_iff.1 hP).1
  have hml := (Array.getElem?_eq_some_iff.1 hM).1
  have hM7 : MapAt w7 mb o := (Below.heap_setCell w ⟨P, 0, none⟩ v0 mb (Ne.symm hPm)).trans hM
  have hz7 : w7.heap.size = w.heap.size := by show (w.setCell _ _).heap.size = _; simp [World.setCell]
  have hz8 : (ChangeMaps.setBlock w7 mb (half o s)).heap.size = w.heap.size := by simpa [ChangeMaps.setBlock] using hz7
  have hfar : ∀ k, k ≠ P → k ≠ mb → w9.heap[k]? = w.heap[k]? := fun k k1 k2 => by
    show (ChangeMaps.setBlock (ChangeMaps.setBlock w7 mb _) mb _).heap[k]? = _
    rw [setBlock_heap k2, setBlock_heap k2]
    exact Below.heap_setCell w ⟨P, 0, none⟩ v0 k k1
  refine ⟨hM7, ?_, ⟨v0, l, o ++ [s], ?_, ?_, ?_, hg, hrow, hp, hs, h1, h2⟩, ⟨rfl, rfl, rfl, ?_⟩, hfar⟩
  · have : mb < w7.heap.size := by rw [hz7]; exact hml
    simp [ChangeMaps.setBlock, this]
  · show (ChangeMaps.setBlock (ChangeMaps.setBlock w7 mb _) mb _).heap[P]? = _
    rw [setBlock_heap hPm, setBlock_heap hPm]
    exact blk_put (w := w) hP 0 v0 rfl
  · refine R_blk hR fun k hk hc => hfar k (fun e => ?_) (fun e => ?_)
    · subst e; obtain ⟨c, hc⟩ := hc; rw [hP] at hc; cases hc
    · subst e; obtain ⟨c, hc⟩ := hc; unfold MapAt at hM; rw [hM] at hc; cases hc
  · exact map_set (by rw [hz8]; exact hml)
  · show (ChangeMaps.setBlock (ChangeMaps.setBlock w7 mb _) mb _).heap.size = _
    have : (ChangeMaps.setBlock (ChangeMaps.setBlock w7 mb (half o s)) mb (.map ((esOf o).push ⟨.int .i64 s, .int .i64 (o.length : Int), o.length⟩) (o.length + 1))).heap.size = (ChangeMaps.setBlock w7 mb (half o s)).heap.size := by simp [ChangeMaps.setBlock]
    rw [this, hz8]

def OnlyAt (P mb : Nat) (w w' : World) : Prop := Kept w w' fun k => k = P ∨ k = mb
set_option maxHeartbeats 16000000 in
set_option maxRecDepth 100000 in
theorem put_calls (base P mb bs : Nat) (A : Option Addr) (c : Nat) (x : Int) (ss L : List Int) (w : World) (hls : LsAt w base P mb L) (hss : Kd.R (Kd.int .i64) 3 w bs (fun _ => True) (.slice A ss.length c) ss)
    (hx : x ∈ L) (hnd : ss.Nodup) (hnew : ∀ s ∈ ss, s ∉ L ∧ 0 ≤ s ∧ s ≤ 1000000) (hlen : L.length + ss.length ≤ 1000) :
    Calls Try.prog 24 #[.pointer (some ⟨P, 0, none⟩), .int .i64 x, .slice A ss.length c] w fun e w' => e = .returned (.tuple #[]) ∧ LsAt w' base P mb (putL L x ss) ∧ Below base w w' ∧ OnlyAt P mb w w' := by
  have hLn : L.Nodup := by obtain ⟨v, l, o, _, _, _, _, hrow, _⟩ := hls; exact ls_nodup (f := fOf o) hrow
  have hnn : Aside0 ((ss.length : Int) ≤ 1000) := ⟨by omega⟩
  have HN := Aside0.mk (And.intro hLn (And.intro hx (And.intro hnd (And.intro hnew hlen))))
  have HL := Aside0.mk hls
  have HS := Aside0.mk hss
  have HB := Aside0.mk (Below.refl base w)
  have HK := Aside0.mk (Kept.refl w fun k => k = P ∨ k = mb)
  clear hls hss hx hnd hnew hlen hLn
  go_enter Try.func24, Try.ntmps24
  go_wp2
  go_loopg [13, 1] (ss.length + 1) (fun kq v13 v1 w' => ∃ (i : Nat), v13 = .int .i64 (i : Int) ∧ v1 = .int .i64 (lastOf x (ss.take i)) ∧ (i : Int) ≤ (ss.length : Int) ∧ Aside0 (kq + i = ss.length + 1) ∧ Aside0 (LsAt w' base P mb (putL L x (ss.take i))) ∧ Aside0 (Kd.R (Kd.int .i64) 3 w' bs (fun _ => True) (.slice A ss.length c) ss) ∧ Aside0 (Below base w w') ∧ Aside0 (Kept w w' fun k => k = P ∨ k = mb))
  case atStart => exact ⟨0, rfl, rfl, by omega, ⟨rfl⟩, HL, HS, HB, HK⟩
  case round =>
    obtain ⟨i, rfl, rfl, hi, HQ, HL, HS, HB, HK⟩ := hrel
    by_cases h : (i : Int) < (ss.length : Int)
    · have hil : i < ss.length := by omega
      have hn := hnn.out
      have hput := putL_ok (t := ss.take i) HN.out.1 HN.out.2.1 ((List.take_sublist _ _).nodup HN.out.2.2.1) (fun s hs => (HN.out.2.2.2.1 s (List.mem_of_mem_take hs)).1)
      have hsn : putL L x (ss.take (i + 1)) = insAfter (putL L x (ss.take i)) (lastOf x (ss.take i)) ss[i] := by rw [List.take_succ_eq_append_getElem hil, putL_snoc]
      have hls := lastOf_snoc x (ss.take i) ss[i]
      rw [← List.take_succ_eq_append_getElem hil] at hls
      have hfr : ss[i] ∉ putL L x (ss.take i) := by
        rw [hput.2.1]
        rintro (h1 | h1)
        · obtain ⟨j, hj, e⟩ := List.mem_take_iff_getElem.1 h1
          have e1 := List.Nodup.idxOf_getElem HN.out.2.2.1 i hil
          have e2 := List.Nodup.idxOf_getElem HN.out.2.2.1 j (by omega)
          rw [← e, e2] at e1
          omega
        · exact (HN.out.2.2.2.1 _ (List.getElem_mem hil)).1 h1
      have hsm := (HN.out.2.2.2.1 _ (List.getElem_mem hil)).2
      have hlc : (putL L x (ss.take i)).length < 1000 := by rw [hput.2.2.1, List.length_take]; have := HN.out.2.2.2.2; omega
      have hlast := hput.2.2.2
      have hget := rd_get ss i hil
      obtain ⟨_, _, hCs⟩ := Kd.R_reads' HS.out
      obtain ⟨ad, ea, hxs⟩ := Kd.at_int hCs (i : Int) (by omega) (by omega)
      cases ea
      rw [Int.toNat_natCast] at hxs
      rw [hget] at hxs
      obtain ⟨s, hse⟩ : ∃ s, ss[i] = s := ⟨_, rfl⟩
      obtain ⟨xi, hxe⟩ : ∃ q, lastOf x (ss.take i) = q := ⟨_, rfl⟩
      obtain ⟨Li, hLe⟩ : ∃ q, putL L x (ss.take i) = q := ⟨_, rfl⟩
      rw [hxe] at hlast
      rw [hxe]
      rw [hse, hLe] at hfr
      rw [hse] at hsm hls hxs
      rw [hLe] at hlc hlast
      rw [hLe, hxe, hse] at hsn
      rw [hLe] at HL
      have HE := Aside0.mk (And.intro hsn hls)
      have HW := Aside0.mk (And.intro hfr (And.intro hsm (And.intro hlc hlast)))
      obtain ⟨v, l, o, hP, hR, hM, hg, hrow, hperm, hsml, hbP, hbm⟩ := HL.out
      have hst := ls_step (L := Li) (o := o) (x := xi) (s := s) hg hrow hperm hlast hfr hlc
      obtain ⟨A0, c0, ev, hle, hC⟩ := Kd.R_reads hR
      subst ev
      have hc0 : wr.cell? ⟨P, 0, none⟩ = some (.slice A0 l.length c0) := (blk_cell hP 0).trans rfl
      have hc1 : wr.cell? ⟨P, 1, none⟩ = some (.map (some mb)) := (blk_cell hP 1).trans rfl
      have hfP := blk_frozen hP 0
      have hwx : ∀ y ∈ o, wf64 y := fun y hy => have h2 := hsml y (hperm.mem_iff.1 hy); wf_small h2.1 h2.2
      have hond : o.Nodup := hperm.nodup_iff.2 (ls_nodup (f := fOf o) hrow)
      have hlk : ∀ W, MapAt W mb o → (Instr.lookup 83 (.map (some mb)) (.int .i64 xi) false).run Try.prog W = .ok (.int .i64 (o.idxOf xi : Int)) W := fun W hW => map_look hW hwx hond (hperm.mem_iff.2 hlast)
      have hso : s ∉ o := fun h1 => hfr (hperm.mem_iff.1 h1)
      have HWX := Aside0.mk (And.intro hwx hso)
      have hxl : Aside0 (o.idxOf xi < l.length) := ⟨hst.2.1⟩
      have hl9 : Aside0 (l.length < 1000) := ⟨hst.2.2.1⟩
      have HST := Aside0.mk hst
      have hbs : Aside0 (base ≤ wr.heap.size) := ⟨Nat.le_trans hbP (Nat.le_of_lt (Array.getElem?_eq_some_iff.1 hP).1)⟩
      have hsz1 : wr.heap.size ≤ (wr.drew.alloc (.cells #[.slice none 0 0] 81)).heap.size := by simp
      have hbs1 : base ≤ (wr.drew.alloc (.cells #[.slice none 0 0] 81)).heap.size := Nat.le_trans hbs.out hsz1
      have hP := Aside0.mk hP
      have hC := Aside0.mk hC
      have hM := Aside0.mk hM
      have hg := Aside0.mk hg
      have hrow : Aside0 (IsRow l (Li.map (fOf o))) := ⟨hrow⟩
      have hsml := Aside0.mk (And.intro hsml (And.intro hperm (And.intro hbP hbm)))
      clear hput hsn hls hfr hsm hlc hlast hget hCs hR hle hst hwx hond hso hLe hxe hse
      go_wp2
      refine start_ (n := 19) (S := fun w' => w'.cell? ⟨P, 0, none⟩ = some (.slice A0 l.length c0) ∧ w'.cell? ⟨P, 1, none⟩ = some (.map (some mb)) ∧ MapAt w' mb o) (ds := [16]) #[false, false, false, false, false, false, false, false, false, false, false, false, false, false, false, false, false, false, false] (by kernel_rfl) rfl rfl ⟨hc0, hc1, hM.out⟩ (fun hHeld => ?_)
      refine pure_ (i := 0) (N := some 18) (v := ?_) (a' := ?_) #[true, false, false, false, false, false, false, false, false, false, false, false, false, false, false, false, false, false, false] rfl rfl (by kernel_rfl) (fun _ _ _ h => h) (Or.inl ⟨by rfl, ?_⟩) ?_ ?_
      rotate_left
      · intro w'
        go_simp
        with_reducible rfl
      rotate_left
      · simp only [Act.put, List.setIfInBounds_toArray, List.set_cons_zero, List.set_cons_succ, i64_w, i32_w]
        rfl
      refine pure_ (i := 1) (N := some 19) (v := ?_) (a' := ?_) #[true, true, false, false, false, false, false, false, false, false, false, false, false, false, false, false, false, false, false] rfl rfl (by kernel_rfl) (fun _ _ _ h => h) (Or.inl ⟨by rfl, ?_⟩) ?_ ?_
      rotate_left
      · intro w'
        go_simp
        with_reducible rfl
      rotate_left
      · simp only [Act.put, List.setIfInBounds_toArray, List.set_cons_zero, List.set_cons_succ, i64_w, i32_w]
        rfl
      refine pure_ (i := 2) (N := some 20) (v := ?_) (a' := ?_) #[true, true, true, false, false, false, false, false, false, false, false, false, false, false, false, false, false, false, false] rfl rfl (by kernel_rfl) (fun _ _ _ h => h) (Or.inl ⟨by rfl, ?_⟩) ?_ ?_
      rotate_left
      · intro w'
        go_simp
        with_reducible rfl
      rotate_left
      · simp only [Act.put, List.setIfInBounds_toArray, List.set_cons_zero, List.set_cons_succ, i64_w, i32_w]
        rfl
      refine pure_ (i := 4) (N := some 22) (v := ?_) (a' := ?_) #[true, true, true, false, true, false, false, false, false, false, false, false, false, false, false, false, false, false, false] rfl rfl (by kernel_rfl) (fun _ _ _ h => h) (Or.inl ⟨by rfl, ?_⟩) ?_ ?_
      rotate_left
      · intro w'
        go_simp
        with_reducible rfl
      rotate_left
      · simp only [Act.put, List.setIfInBounds_toArray, List.set_cons_zero, List.set_cons_succ, i64_w, i32_w]
        rfl
      refine pure_ (i := 5) (N := some 23) (v := ?_) (a' := ?_) #[true, true, true, false, true, true, false, false, false, false, false, false, false, false, false, false, false, false, false] rfl rfl (by kernel_rfl) (fun _ _ _ h => h) (Or.inl ⟨by rfl, ?_⟩) ?_ ?_
      rotate_left
      · intro w'
        go_simp
        with_reducible rfl
      rotate_left
      · simp only [Act.put, List.setIfInBounds_toArray, List.set_cons_zero, List.set_cons_succ, i64_w, i32_w]
        rfl
      refine pure_ (i := 6) (N := some 24) (v := ?_) (a' := ?_) #[true, true, true, false, true, true, true, false, false, false, false, false, false, false, false, false, false, false, false] rfl rfl (by kernel_rfl) (fun _ _ _ h => h) (Or.inl ⟨by rfl, ?_⟩) ?_ ?_
      rotate_left
      · intro w'
        go_simp
        with_reducible rfl
      rotate_left
      · simp only [Act.put, List.setIfInBounds_toArray, List.set_cons_zero, List.set_cons_succ, i64_w, i32_w]
        rfl
      refine pure_ (i := 8) (N := some 26) (v := ?_) (a' := ?_) #[true, true, true, false, true, true, true, false, true, false, false, false, false, false, false, false, false, false, false] rfl rfl (by kernel_rfl) (fun _ _ _ h => h) (Or.inl ⟨by rfl, ?_⟩) ?_ ?_
      rotate_left
      · intro w'
        go_simp
        with_reducible rfl
      rotate_left
      · simp only [Act.put, List.setIfInBounds_toArray, List.set_cons_zero, List.set_cons_succ, i64_w, i32_w]
        rfl
      refine take_ (i := 3) (N := some 21) (v := ?_) (a' := ?_) #[true, true, true, true, true, true, true, false, true, false, false, false, false, false, false, false, false, false, false] rfl rfl (by kernel_rfl) (fun _ _ _ h => h) (Or.inl ⟨by rfl, ?_⟩) hHeld ?_ ?_
      rotate_left
      · rintro w' ⟨s0, s1, s2⟩
        go_simp
        with_reducible rfl
      rotate_left
      · simp only [Act.put, List.setIfInBounds_toArray, List.set_cons_zero, List.set_cons_succ, i64_w, i32_w]
        rfl
      refine take_ (i := 7) (N := some 25) (v := ?_) (a' := ?_) #[true, true, true, true, true, true, true, true, true, false, false, false, false, false, false, false, false, false, false] rfl rfl (by kernel_rfl) (fun _ _ _ h => h) (Or.inl ⟨by rfl, ?_⟩) hHeld ?_ ?_
      rotate_left
      · rintro w' ⟨s0, s1, s2⟩
        go_simp
        with_reducible rfl
      rotate_left
      · simp only [Act.put, List.setIfInBounds_toArray, List.set_cons_zero, List.set_cons_succ, i64_w, i32_w]
        rfl
      refine take_ (i := 9) (N := some 27) (v := ?_) (a' := ?_) #[true, true, true, true, true, true, true, true, true, true, false, false, false, false, false, false, false, false, false] rfl rfl (by kernel_rfl) (fun _ _ _ h => h) (Or.inl ⟨by rfl, ?_⟩) hHeld ?_ ?_
      rotate_left
      · rintro w' ⟨s0, s1, s2⟩
        go_simp
        with_reducible rfl
      rotate_left
      · simp only [Act.put, List.setIfInBounds_toArray, List.set_cons_zero, List.set_cons_succ, i64_w, i32_w]
        rfl
      refine join_ (σ := Value × Nat) 3 #[true, true, true, true, true, true, true, true, true, true, true, true, true, true, true, true, false, false, false] (fun s => [(28, .tuple #[.agg #[s.1], .int .i64 (l.length : Int), .int .i64 0]), (17, .tuple #[.agg #[s.1], .int .i64 (l.length : Int), .int .i64 0]), (29, .agg #[s.1]), (30, .int .i64 (l.length : Int)), (31, .int .i64 0), (8, .pointer (some ⟨s.2, 0, none⟩))]) (fun s w' => w'.cell? ⟨P, 0, none⟩ = some (.slice A0 l.length c0) ∧ w'.cell? ⟨P, 1, none⟩ = some (.map (some mb)) ∧ MapAt w' mb o ∧ Kd.R (Kd.int .i64) 3 w' base (fun _ => True) s.1 (newL l (Li.map (fOf o)) (o.idxOf xi : Int)) ∧ w'.heap[s.2]? = some (.cells #[.slice none 0 0] 81 (0, 0)) ∧ wr.heap.size ≤ s.2 ∧ Below wr.heap.size wr w') ?_ ?_
      rotate_left
      · intro hCont
        refine two_ (i := 10) (j := 15) (Ni := some 28) (Nj := some 8) #[true, true, true, true, true, true, true, true, true, true, true, false, false, false, false, false, false, false, false] #[true, true, true, true, true, true, true, true, true, true, false, false, false, false, false, true, false, false, false] rfl rfl rfl rfl (by kernel_rfl) (by decide) (by decide) (fun K hK => ?_) (fun K hK => ?_)
        · skip
          refine goes_ Try.func31 (by kernel_rfl) rfl #[.agg #[.slice A0 l.length c0], .int .i64 (o.idxOf xi : Int)] (by rfl) rfl rfl (by simp only [List.map_toArray, List.map_cons, List.map_nil]; rfl) ?_
          with_reducible refine (behind_calls A0 c0 l (Li.map (fOf o)) (o.idxOf xi) wr.drew (Kd.C_drew hC.out) hg.out hrow.out hxl.out hl9.out).mono ?_
          rintro e w3 ⟨v0, rfl, ho, hb⟩
          refine ⟨_, rfl, ?_⟩
          refine hK.out _ _ ⟨(cell_step hb (a := ⟨P, 0, none⟩) hc0), (cell_step hb (a := ⟨P, 1, none⟩) hc1), (map_step hb hM.out)⟩ (fun hHeld => ?_)
          clear hK K
          refine norm_ (a' := ?_) ?_ ?_
          rotate_left
          · show Act.put _ (some 28) _ = _
            simp only [Act.put, List.setIfInBounds_toArray, List.set_cons_zero, List.set_cons_succ, i64_w, i32_w]
            rfl
          refine pure_ (i := 11) (N := some 17) (v := ?_) (a' := ?_) #[true, true, true, true, true, true, true, true, true, true, true, true, false, false, false, false, false, false, false] rfl rfl (by kernel_rfl) (fun _ _ _ h => h) (Or.inl ⟨by rfl, ?_⟩) ?_ ?_
          rotate_left
          · intro w'
            go_simp
            with_reducible rfl
          rotate_left
          · simp only [Act.put, List.setIfInBounds_toArray, List.set_cons_zero, List.set_cons_succ, i64_w, i32_w]
            rfl
          refine pure_ (i := 12) (N := some 29) (v := ?_) (a' := ?_) #[true, true, true, true, true, true, true, true, true, true, true, true, true, false, false, false, false, false, false] rfl rfl (by kernel_rfl) (fun _ _ _ h => h) (Or.inl ⟨by rfl, ?_⟩) ?_ ?_
          rotate_left
          · intro w'
            go_simp
            with_reducible rfl
          rotate_left
          · simp only [Act.put, List.setIfInBounds_toArray, List.set_cons_zero, List.set_cons_succ, i64_w, i32_w]
            rfl
          refine pure_ (i := 13) (N := some 30) (v := ?_) (a' := ?_) #[true, true, true, true, true, true, true, true, true, true, true, true, true, true, false, false, false, false, false] rfl rfl (by kernel_rfl) (fun _ _ _ h => h) (Or.inl ⟨by rfl, ?_⟩) ?_ ?_
          rotate_left
          · intro w'
            go_simp
            with_reducible rfl
          rotate_left
          · simp only [Act.put, List.setIfInBounds_toArray, List.set_cons_zero, List.set_cons_succ, i64_w, i32_w]
            rfl
          refine pure_ (i := 14) (N := some 31) (v := ?_) (a' := ?_) #[true, true, true, true, true, true, true, true, true, true, true, true, true, true, true, false, false, false, false] rfl rfl (by kernel_rfl) (fun _ _ _ h => h) (Or.inl ⟨by rfl, ?_⟩) ?_ ?_
          rotate_left
          · intro w'
            go_simp
            with_reducible rfl
          rotate_left
          · simp only [Act.put, List.setIfInBounds_toArray, List.set_cons_zero, List.set_cons_succ, i64_w, i32_w]
            rfl
          refine one_ (i := 15) (N := some 8) #[true, true, true, true, true, true, true, true, true, true, true, true, true, true, true, true, false, false, false] rfl rfl (by kernel_rfl) (by decide) (fun K hK => ?_)
          refine value_ (w1 := (w3).alloc (.cells #[.slice none 0 0] 81)) (v := .pointer (some ⟨(w3).heap.size, 0, none⟩)) (by rfl) rfl (by first | (go_simp; done) | (go_simp; rfl)) ?_
          refine hK.out _ _ ⟨(cell_step (below_alloc (Below.refl w3.heap.size w3) _) (cell_step hb (a := ⟨P, 0, none⟩) hc0)), (cell_step (below_alloc (Below.refl w3.heap.size w3) _) (cell_step hb (a := ⟨P, 1, none⟩) hc1)), (map_step (below_alloc (Below.refl w3.heap.size w3) _) (map_step hb hM.out))⟩ (fun hHeld => ?_)
          clear hK K
          refine norm_ (a' := ?_) ?_ ?_
          rotate_left
          · show Act.put _ (some 8) _ = _
            simp only [Act.put, List.setIfInBounds_toArray, List.set_cons_zero, List.set_cons_succ, i64_w, i32_w]
            rfl
          exact norm_ (by simp only [putAll, Act.put, List.setIfInBounds_toArray, List.set_cons_zero, List.set_cons_succ]) (hCont (v0, w3.heap.size) _ ⟨hHeld.1, hHeld.2.1, hHeld.2.2, Kd.R_alloc (Kd.R_lower ho hbs.out) _, (MapKept.heap_alloc w3 _).1, hb.size, below_alloc (below_undrew hb) _⟩)
        · skip
          refine value_ (w1 := (wr.drew).alloc (.cells #[.slice none 0 0] 81)) (v := .pointer (some ⟨(wr.drew).heap.size, 0, none⟩)) (by rfl) rfl (by first | (go_simp; done) | (go_simp; rfl)) ?_
          refine hK.out _ _ ⟨(cell_step (below_alloc (Below.refl wr.drew.heap.size wr.drew) (.cells #[.slice none 0 0] 81)) hc0), (cell_step (below_alloc (Below.refl wr.drew.heap.size wr.drew) (.cells #[.slice none 0 0] 81)) hc1), (map_step (below_alloc (Below.refl wr.drew.heap.size wr.drew) (.cells #[.slice none 0 0] 81)) hM.out)⟩ (fun hHeld => ?_)
          clear hK K
          refine norm_ (a' := ?_) ?_ ?_
          rotate_left
          · show Act.put _ (some 8) _ = _
            simp only [Act.put, List.setIfInBounds_toArray, List.set_cons_zero, List.set_cons_succ, i64_w, i32_w]
            rfl
          refine one_ (i := 10) (N := some 28) #[true, true, true, true, true, true, true, true, true, true, true, false, false, false, false, true, false, false, false] rfl rfl (by kernel_rfl) (by decide) (fun K hK => ?_)
          refine goes_ Try.func31 (by kernel_rfl) rfl #[.agg #[.slice A0 l.length c0], .int .i64 (o.idxOf xi : Int)] (by rfl) rfl rfl (by simp only [List.map_toArray, List.map_cons, List.map_nil]; rfl) ?_
          with_reducible refine (behind_calls A0 c0 l (Li.map (fOf o)) (o.idxOf xi) (wr.drew.alloc (.cells #[.slice none 0 0] 81)) (Kd.C_alloc (Kd.C_drew hC.out) _) hg.out hrow.out hxl.out hl9.out).mono ?_
          rintro e w3 ⟨v0, rfl, ho, hb⟩
          refine ⟨_, rfl, ?_⟩
          refine hK.out _ _ ⟨(cell_step hb (cell_step (below_alloc (Below.refl wr.drew.heap.size wr.drew) (.cells #[.slice none 0 0] 81)) hc0)), (cell_step hb (cell_step (below_alloc (Below.refl wr.drew.heap.size wr.drew) (.cells #[.slice none 0 0] 81)) hc1)), (map_step hb (map_step (below_alloc (Below.refl wr.drew.heap.size wr.drew) (.cells #[.slice none 0 0] 81)) hM.out))⟩ (fun hHeld => ?_)
          clear hK K
          refine norm_ (a' := ?_) ?_ ?_
          rotate_left
          · show Act.put _ (some 28) _ = _
            simp only [Act.put, List.setIfInBounds_toArray, List.set_cons_zero, List.set_cons_succ, i64_w, i32_w]
            rfl
          refine pure_ (i := 11) (N := some 17) (v := ?_) (a' := ?_) #[true, true, true, true, true, true, true, true, true, true, true, true, false, false, false, true, false, false, false] rfl rfl (by kernel_rfl) (fun _ _ _ h => h) (Or.inl ⟨by rfl, ?_⟩) ?_ ?_
          rotate_left
          · intro w'
            go_simp
            with_reducible rfl
          rotate_left
          · simp only [Act.put, List.setIfInBounds_toArray, List.set_cons_zero, List.set_cons_succ, i64_w, i32_w]
            rfl
          refine pure_ (i := 12) (N := some 29) (v := ?_) (a' := ?_) #[true, true, true, true, true, true, true, true, true, true, true, true, true, false, false, true, false, false, false] rfl rfl (by kernel_rfl) (fun _ _ _ h => h) (Or.inl ⟨by rfl, ?_⟩) ?_ ?_
          rotate_left
          · intro w'
            go_simp
            with_reducible rfl
          rotate_left
          · simp only [Act.put, List.setIfInBounds_toArray, List.set_cons_zero, List.set_cons_succ, i64_w, i32_w]
            rfl
          refine pure_ (i := 13) (N := some 30) (v := ?_) (a' := ?_) #[true, true, true, true, true, true, true, true, true, true, true, true, true, true, false, true, false, false, false] rfl rfl (by kernel_rfl) (fun _ _ _ h => h) (Or.inl ⟨by rfl, ?_⟩) ?_ ?_
          rotate_left
          · intro w'
            go_simp
            with_reducible rfl
          rotate_left
          · simp only [Act.put, List.setIfInBounds_toArray, List.set_cons_zero, List.set_cons_succ, i64_w, i32_w]
            rfl
          refine pure_ (i := 14) (N := some 31) (v := ?_) (a' := ?_) #[true, true, true, true, true, true, true, true, true, true, true, true, true, true, true, true, false, false, false] rfl rfl (by kernel_rfl) (fun _ _ _ h => h) (Or.inl ⟨by rfl, ?_⟩) ?_ ?_
          rotate_left
          · intro w'
            go_simp
            with_reducible rfl
          rotate_left
          · simp only [Act.put, List.setIfInBounds_toArray, List.set_cons_zero, List.set_cons_succ, i64_w, i32_w]
            rfl
          exact norm_ (by simp only [putAll, Act.put, List.setIfInBounds_toArray, List.set_cons_zero, List.set_cons_succ]) (hCont (v0, wr.drew.heap.size) _ ⟨hHeld.1, hHeld.2.1, hHeld.2.2, Kd.R_lower ho hbs1, blk_below (MapKept.heap_alloc wr.drew _).1 hb, Nat.le_refl _, (below_alloc (below_undrew (Below.refl _ _)) _).trans (hb.mono hsz1)⟩)
      rintro ⟨v0, G8⟩ w5 ⟨s0, s1, s2, hR5, hG8, hGs, hB5⟩
      have hHeld := And.intro s0 (And.intro s1 s2)
      obtain ⟨A8, c8, ev8⟩ := Kd.R_slice hR5
      subst ev8
      have hcG : w5.cell? ⟨G8, 0, none⟩ = some (.slice none 0 0) := (blk_cell hG8 0).trans rfl
      have hfG := blk_frozen hG8 0
      have HR5 := Aside0.mk hR5
      have HG8 := Aside0.mk hG8
      have HGs := Aside0.mk hGs
      have HB5 := Aside0.mk hB5
      clear hR5 hG8 hGs hB5
      refine norm_ (a' := ?_) ?_ ?_
      rotate_left
      · simp only [putAll, Act.put, List.setIfInBounds_toArray, List.set_cons_zero, List.set_cons_succ]
        rfl
      refine last_ (i := 16) (N := none) #[true, true, true, true, true, true, true, true, true, true, true, true, true, true, true, true, true, false, false] rfl rfl (by kernel_rfl) (by decide) (fun K hK => ?_)
      refine skip_ (w1 := ?_) (by rfl) rfl ?_ ?_
      rotate_left
      · go_simp
        rfl
      refine hK.out _ _ ?_
      clear hK K
      refine pure_ (i := 17) (N := some 9) (v := ?_) (a' := ?_) #[true, true, true, true, true, true, true, true, true, true, true, true, true, true, true, true, true, true, false] rfl rfl (by kernel_rfl) (fun _ _ _ h => h) (Or.inl ⟨by rfl, ?_⟩) ?_ ?_
      rotate_left
      · intro w'
        go_simp
        with_reducible rfl
      rotate_left
      · simp only [Act.put, List.setIfInBounds_toArray, List.set_cons_zero, List.set_cons_succ, i64_w, i32_w]
        rfl
      refine pure_ (i := 18) (N := some 10) (v := ?_) (a' := ?_) #[true, true, true, true, true, true, true, true, true, true, true, true, true, true, true, true, true, true, true] rfl rfl (by kernel_rfl) (fun _ _ _ h => h) (Or.inl ⟨by rfl, ?_⟩) ?_ ?_
      rotate_left
      · intro w'
        go_simp
        with_reducible rfl
      rotate_left
      · simp only [Act.put, List.setIfInBounds_toArray, List.set_cons_zero, List.set_cons_succ, i64_w, i32_w]
        rfl
      refine done_ (by kernel_rfl) ?_
      obtain ⟨lN, hlN⟩ : ∃ q, newL l (Li.map (fOf o)) (o.idxOf xi : Int) = q := ⟨_, rfl⟩
      have hR5 := HR5.out
      have hst := HST.out
      rw [hlN] at hR5 hst
      rw [hlN]
      obtain ⟨w6, hw6⟩ : ∃ q, w5.setCell ⟨G8, 0, none⟩ (.slice A8 lN.length c8) = q := ⟨_, rfl⟩
      rw [hw6]
      have hPlt := (Array.getElem?_eq_some_iff.1 hP.out).1
      have hmlt := (Array.getElem?_eq_some_iff.1 hM.out).1
      have hG := HGs.out
      have hP5 := (HB5.out.block P hPlt).trans hP.out
      have hM5 : MapAt w5 mb o := (HB5.out.block mb hmlt).trans hM.out
      have hP6 : w6.heap[P]? = some (.cells #[.slice A0 l.length c0, .map (some mb)] 85 (0, 0)) := by rw [← hw6]; exact (Below.heap_setCell w5 ⟨G8, 0, none⟩ _ P (by show P ≠ G8; omega)).trans hP5
      have hM6 : MapAt w6 mb o := by rw [← hw6]; exact (Below.heap_setCell w5 ⟨G8, 0, none⟩ _ mb (by show mb ≠ G8; omega)).trans hM5
      have hR6 : Kd.R (Kd.int .i64) 3 w6 base (fun _ => True) (.slice A8 lN.length c8) lN := by rw [← hw6]; exact Kd.R_set hR5 HG8.out (by decide) 0 _
      have hG6 : w6.heap[G8]? = some (.cells #[.slice A8 lN.length c8] 81 (0, 0)) := by rw [← hw6]; exact blk_put HG8.out 0 _ rfl
      have hB6 : Below wr.heap.size wr w6 := by rw [← hw6]; exact below_set HB5.out HGs.out
      have hol : l.length = o.length := hst.1.symm
      have hinm := fun y => ins_mem (s := s) (y := y) (ls_nodup hrow.out) HW.out.2.2.2
      obtain ⟨m7, m8, hl9, hk9, hf9⟩ := ls_written hP6 hM6 hR6 hst.2.2.2.1 hst.2.2.2.2.1 hst.2.2.2.2.2 (fun y hy => by rcases (hinm y).1 hy with rfl | h1; exact HW.out.2.1; exact hsml.out.1 y h1) hsml.out.2.2.1 hsml.out.2.2.2
      have hme : (Instr.mapEntry 83 (.map (some mb)) (.int .i64 s)).run Try.prog (w6.setCell ⟨P, 0, none⟩ (.slice A8 lN.length c8)).drew = .ok (.tuple #[.int .i64 0, .int .i64 (o.length : Int)]) (ChangeMaps.setBlock (w6.setCell ⟨P, 0, none⟩ (.slice A8 lN.length c8)).drew mb (half o s)) := map_entry m7 HWX.out.1 (wf_small HW.out.2.1.1 HW.out.2.1.2) HWX.out.2
      have hes : (Instr.entryStore 83 (.map (some mb)) (.int .i64 (o.length : Int)) (.int .i64 (o.length : Int))).run Try.prog (ChangeMaps.setBlock (w6.setCell ⟨P, 0, none⟩ (.slice A8 lN.length c8)).drew mb (half o s)) = .ok () (ChangeMaps.setBlock (ChangeMaps.setBlock (w6.setCell ⟨P, 0, none⟩ (.slice A8 lN.length c8)).drew mb (half o s)) mb (.map ((esOf o).push ⟨.int .i64 s, .int .i64 (o.length : Int), o.length⟩) (o.length + 1))) := map_store m8 (.int .i64 (o.length : Int))
      have HS9 : Kd.R (Kd.int .i64) 3 (ChangeMaps.setBlock (ChangeMaps.setBlock (w6.setCell ⟨P, 0, none⟩ (.slice A8 lN.length c8)).drew mb (half o s)) mb (.map ((esOf o).push ⟨.int .i64 s, .int .i64 (o.length : Int), o.length⟩) (o.length + 1))) bs (fun _ => True) (.slice (some ad) ss.length c) ss := R_blk (Kd.R_below HS.out hB6) fun k hk hc => hf9 k (fun e => by subst e; obtain ⟨c, hc⟩ := hc; rw [hP6] at hc; cases hc) (fun e => by subst e; obtain ⟨c, hc⟩ := hc; unfold MapAt at hM6; rw [hM6] at hc; cases hc)
      have HB9 : Below base w6 (ChangeMaps.setBlock (ChangeMaps.setBlock (w6.setCell ⟨P, 0, none⟩ (.slice A8 lN.length c8)).drew mb (half o s)) mb (.map ((esOf o).push ⟨.int .i64 s, .int .i64 (o.length : Int), o.length⟩) (o.length + 1))) := ⟨hk9.1, hk9.2.1, hk9.2.2.1, Nat.le_of_eq hk9.2.2.2.symm, fun k hk => hf9 k (by have := hsml.out.2.2.1; omega) (by have := hsml.out.2.2.2; omega)⟩
      have HK9 : Kept w6 (ChangeMaps.setBlock (ChangeMaps.setBlock (w6.setCell ⟨P, 0, none⟩ (.slice A8 lN.length c8)).drew mb (half o s)) mb (.map ((esOf o).push ⟨.int .i64 s, .int .i64 (o.length : Int), o.length⟩) (o.length + 1))) (fun k => k = P ∨ k = mb) := ⟨Nat.le_of_eq hk9.2.2.2.symm, fun k _ hn => hf9 k (fun e => hn (.inl e)) (fun e => hn (.inr e))⟩
      have HBw := Aside0.mk ((HB.out.trans (hB6.mono hbs.out)).trans HB9)
      have HKw := Aside0.mk ((HK.out.below hB6).then_ HK9 (fun _ hk => .inl hk))
      have HSw := Aside0.mk HS9
      have HLw := Aside0.mk hl9
      have hc16 : w6.cell? ⟨P, 1, none⟩ = some (.map (some mb)) := (blk_cell hP6 1).trans rfl
      have hcP6 : w6.cell? ⟨P, 0, none⟩ = some (.slice A0 l.length c0) := (blk_cell hP6 0).trans rfl
      have hfP6 := blk_frozen hP6 0
      have hcG6 : w6.cell? ⟨G8, 0, none⟩ = some (.slice A8 lN.length c8) := (blk_cell hG6 0).trans rfl
      rw [hol]
      have hn : (ss.length : Int) ≤ 1000 := hnn.out
      clear hc0 hc1 hfP hlk hxs hsz1 hbs1 hR5 hst hlN hw6 hPlt hmlt hG hP5 hM5 hP6 hM6 hR6 hG6 hB6 hol hinm m7 m8 hl9 hk9 hf9 HS9 HB9 HK9 hcG hfG s0 s1 s2 hHeld
      go_wp2
      refine start_ (n := 14) (S := fun w' => w'.cell? ⟨P, 1, none⟩ = some (.map (some mb)) ∧ w'.cell? ⟨G8, 0, none⟩ = some (.slice A8 lN.length c8)) (ds := [10, 11, 13]) #[false, false, false, false, false, false, false, false, false, false, false, false, false, false] (by kernel_rfl) rfl rfl ⟨hc16, hcG6⟩ (fun hHeld => ?_)
      refine pure_ (i := 0) (N := some 32) (v := ?_) (a' := ?_) #[true, false, false, false, false, false, false, false, false, false, false, false, false, false] rfl rfl (by kernel_rfl) (fun _ _ _ h => h) (Or.inl ⟨by rfl, ?_⟩) ?_ ?_
      rotate_left
      · intro w'
        go_simp
        with_reducible rfl
      rotate_left
      · simp only [Act.put, List.setIfInBounds_toArray, List.set_cons_zero, List.set_cons_succ, i64_w, i32_w]
        rfl
      refine pure_ (i := 1) (N := some 33) (v := ?_) (a' := ?_) #[true, true, false, false, false, false, false, false, false, false, false, false, false, false] rfl rfl (by kernel_rfl) (fun _ _ _ h => h) (Or.inl ⟨by rfl, ?_⟩) ?_ ?_
      rotate_left
      · intro w'
        go_simp
        with_reducible rfl
      rotate_left
      · simp only [Act.put, List.setIfInBounds_toArray, List.set_cons_zero, List.set_cons_succ, i64_w, i32_w]
        rfl
      refine pure_ (i := 2) (N := some 34) (v := ?_) (a' := ?_) #[true, true, true, false, false, false, false, false, false, false, false, false, false, false] rfl rfl (by kernel_rfl) (fun _ _ _ h => h) (Or.inl ⟨by rfl, ?_⟩) ?_ ?_
      rotate_left
      · intro w'
        go_simp
        with_reducible rfl
      rotate_left
      · simp only [Act.put, List.setIfInBounds_toArray, List.set_cons_zero, List.set_cons_succ, i64_w, i32_w]
        rfl
      refine pure_ (i := 3) (N := some 35) (v := ?_) (a' := ?_) #[true, true, true, true, false, false, false, false, false, false, false, false, false, false] rfl rfl (by kernel_rfl) (fun _ _ _ h => h) (Or.inl ⟨by rfl, ?_⟩) ?_ ?_
      rotate_left
      · intro w'
        go_simp
        with_reducible rfl
      rotate_left
      · simp only [Act.put, List.setIfInBounds_toArray, List.set_cons_zero, List.set_cons_succ, i64_w, i32_w]
        rfl
      refine pure_ (i := 5) (N := some 37) (v := ?_) (a' := ?_) #[true, true, true, true, false, true, false, false, false, false, false, false, false, false] rfl rfl (by kernel_rfl) (fun _ _ _ h => h) (Or.inl ⟨by rfl, ?_⟩) ?_ ?_
      rotate_left
      · intro w'
        go_simp
        with_reducible rfl
      rotate_left
      · simp only [Act.put, List.setIfInBounds_toArray, List.set_cons_zero, List.set_cons_succ, i64_w, i32_w]
        rfl
      refine pure_ (i := 7) (N := some 39) (v := ?_) (a' := ?_) #[true, true, true, true, false, true, false, true, false, false, false, false, false, false] rfl rfl (by kernel_rfl) (fun _ _ _ h => h) (Or.inl ⟨by rfl, ?_⟩) ?_ ?_
      rotate_left
      · intro w'
        go_simp
        with_reducible rfl
      rotate_left
      · simp only [Act.put, List.setIfInBounds_toArray, List.set_cons_zero, List.set_cons_succ, i64_w, i32_w]
        rfl
      refine take_ (i := 4) (N := some 36) (v := ?_) (a' := ?_) #[true, true, true, true, true, true, false, true, false, false, false, false, false, false] rfl rfl (by kernel_rfl) (fun _ _ _ h => h) (Or.inl ⟨by rfl, ?_⟩) hHeld ?_ ?_
      rotate_left
      · rintro w' ⟨s0, s1⟩
        go_simp
        with_reducible rfl
      rotate_left
      · simp only [Act.put, List.setIfInBounds_toArray, List.set_cons_zero, List.set_cons_succ, i64_w, i32_w]
        rfl
      refine take_ (i := 6) (N := some 38) (v := ?_) (a' := ?_) #[true, true, true, true, true, true, true, true, false, false, false, false, false, false] rfl rfl (by kernel_rfl) (fun _ _ _ h => h) (Or.inl ⟨by rfl, ?_⟩) hHeld ?_ ?_
      rotate_left
      · rintro w' ⟨s0, s1⟩
        go_simp
        with_reducible rfl
      rotate_left
      · simp only [Act.put, List.setIfInBounds_toArray, List.set_cons_zero, List.set_cons_succ, i64_w, i32_w]
        rfl
      refine pure_ (i := 8) (N := some 40) (v := ?_) (a' := ?_) #[true, true, true, true, true, true, true, true, true, false, false, false, false, false] rfl rfl (by kernel_rfl) (fun _ _ _ h => h) (Or.inl ⟨by rfl, ?_⟩) ?_ ?_
      rotate_left
      · intro w'
        go_simp
        with_reducible rfl
      rotate_left
      · simp only [Act.put, List.setIfInBounds_toArray, List.set_cons_zero, List.set_cons_succ, i64_w, i32_w]
        rfl
      refine pure_ (i := 9) (N := some 41) (v := ?_) (a' := ?_) #[true, true, true, true, true, true, true, true, true, true, false, false, false, false] rfl rfl (by kernel_rfl) (fun _ _ _ h => h) (Or.inl ⟨by rfl, ?_⟩) ?_ ?_
      rotate_left
      · intro w'
        go_simp
        with_reducible rfl
      rotate_left
      · simp only [Act.put, List.setIfInBounds_toArray, List.set_cons_zero, List.set_cons_succ, i64_w, i32_w]
        rfl
      refine last_ (i := 10) (N := none) #[true, true, true, true, true, true, true, true, true, true, true, false, false, false] rfl rfl (by kernel_rfl) (by decide) (fun K hK => ?_)
      refine skip_ (w1 := ?_) (by rfl) rfl ?_ ?_
      rotate_left
      · go_simp
        rfl
      refine hK.out _ _ ?_
      clear hK K
      refine last_ (i := 11) (N := some 42) #[true, true, true, true, true, true, true, true, true, true, true, true, false, false] rfl rfl (by kernel_rfl) (by decide) (fun K hK => ?_)
      refine value_ (w1 := ?_) (v := ?_) (by rfl) rfl ?_ ?_
      rotate_left 2
      · go_simp
        constructor
        · rfl
        · rfl
      refine hK.out _ _ ?_
      clear hK K
      refine norm_ (a' := ?_) ?_ ?_
      rotate_left
      · show Act.put _ (some 42) _ = _
        simp only [Act.put, List.setIfInBounds_toArray, List.set_cons_zero, List.set_cons_succ, i64_w, i32_w]
        rfl
      refine pure_ (i := 12) (N := some 43) (v := ?_) (a' := ?_) #[true, true, true, true, true, true, true, true, true, true, true, true, true, false] rfl rfl (by kernel_rfl) (fun _ _ _ h => h) (Or.inl ⟨by rfl, ?_⟩) ?_ ?_
      rotate_left
      · intro w'
        go_simp
        with_reducible rfl
      rotate_left
      · simp only [Act.put, List.setIfInBounds_toArray, List.set_cons_zero, List.set_cons_succ, i64_w, i32_w]
        rfl
      refine last_ (i := 13) (N := none) #[true, true, true, true, true, true, true, true, true, true, true, true, true, true] rfl rfl (by kernel_rfl) (by decide) (fun K hK => ?_)
      refine skip_ (w1 := ?_) (by rfl) rfl ?_ ?_
      rotate_left
      · go_simp
        rfl
      refine hK.out _ _ ?_
      clear hK K
      refine done_ (by kernel_rfl) ?_
      obtain ⟨w9, hw9⟩ : ∃ q, (ChangeMaps.setBlock (ChangeMaps.setBlock (w6.setCell ⟨P, 0, none⟩ (.slice A8 lN.length c8)).drew mb (half o s)) mb (.map ((esOf o).push ⟨.int .i64 s, .int .i64 (o.length : Int), o.length⟩) (o.length + 1))) = q := ⟨_, rfl⟩
      rw [hw9] at HBw HKw HSw HLw
      rw [hw9]
      have HE := HE
      clear hme hes hc16 hcP6 hfP6 hcG6 hw9
      go_wp2
      go_roundg (gk - 1)
      case measure => have := HQ.out; omega
      case rel => exact ⟨i + 1, by go_num, by rw [HE.out.2], by omega, ⟨by have := HQ.out; omega⟩, by rw [HE.out.1]; exact HLw, HSw, HBw, HKw⟩
    · have hie : i = ss.length := by omega
      subst hie
      rw [List.take_length] at HL
      go_wp2
      go_end0
      exact ⟨rfl, HL.out, HB.out, HK.out⟩
end Go.Proofs.Ythjecgmgpnileaa.Bd

/- Builders, with the frame of what else stands; the contract of style.Text. -/
import Derived.Test.YtmiencglfhpmeaaGreatDoorMQSs
import Derived.Test.YtmiencglfhpmeaaGreatDoorMQXx
import Derived.Test.YtmiencglfhpmeaaGreatDoorMQXv
import Derived.Shelf.Strings.BuilderK
set_option linter.unusedSimpArgs false
set_option linter.unusedVariables false
namespace Go.Proofs.YtmiencglfhpmeaaGreatDoor
open List (foldl_nil foldl_cons getD_cons_zero getD_cons_succ setIfInBounds_toArray set_cons_zero set_cons_succ)
open Go.RowKit Hach Num
abbrev Bdr (B b : Nat) (l : List UInt8) (w : World) : Prop := Lib.IsBuilderF 99 5 B b (Lib.byteCells l) w
abbrev Oth (b : Nat) (w w' : World) : Prop := Lib.OthersKept 5 (some b) w w'
theorem wStr (B b : Nat) (l s : List UInt8) (w : World) (h : Bdr B b l w) (hlen : l.length + s.length ≤ 140737488355328) (hBw : B ≤ w.heap.size) :
  Calls Tryz.prog 46 #[.pointer (some ⟨b, 0, none⟩), .string ⟨s.toArray⟩] w fun e w' => e = .returned (.tuple #[.int .i64 (s.length : Nat), .nilIface]) ∧ Bdr B b (l ++ s) w' ∧ Below B w w' ∧ Oth b w w' := by
 have hz : (⟨s.toArray⟩ : ByteArray).size = s.length := Wr.toArr_size s
 refine (Any.Builder_WriteString_k Wr.sh166 Wr.sh166x B b (Lib.byteCells l) ⟨s.toArray⟩ w h (by rw [hz, Wr.bytes_length]; exact hlen) hBw).mono ?_
 rintro e w' ⟨rfl, h1, h2, h3⟩
 refine ⟨by rw [hz], .inr ?_, h2, h3⟩
 rw [Lib.strCells_toArray] at h1
 have h4 : Lib.BuilderAtF 99 5 B b (.pointer (some ⟨b, 0, none⟩)) (Lib.byteCells l ++ Lib.byteCells s) w' := h1
 simpa [Lib.byteCells] using h4
theorem bStr (B b : Nat) (l : List UInt8) (w : World) (h : Bdr B b l w) (hBw : B ≤ w.heap.size) :
  Calls Tryz.prog 50 #[.pointer (some ⟨b, 0, none⟩)] w fun e w' => e = .returned (.string ⟨l.toArray⟩) ∧ Below B w w' := by
 refine (Any.Builder_String_any_k Tryz.lays169 Tryz.Builder_Extra_169 B b l w h hBw).mono ?_
 rintro e w' ⟨rfl, _, h2, _⟩
 exact ⟨rfl, h2⟩
theorem Bdr.ext {B b : Nat} {l : List UInt8} {w w' : World} (h : Bdr B b l w) (hE : Ext w w') : Bdr B b l w' := by
 have key : ∀ p, Lib.BuilderAtF 99 5 B b p (Lib.byteCells l) w → Lib.BuilderAtF 99 5 B b p (Lib.byteCells l) w' := fun p h => by
  obtain ⟨hB, v, hb, ho, hn⟩ := h
  exact ⟨hB, v, (hE.below.block b (Array.getElem?_eq_some_iff.1 hb).1).trans hb, World.ownsRowF.kept ho (Wr.grown_ext hE none) (by cases v.ownBlock <;> simp), hn⟩
 exact h.imp (key _) (key _)
theorem RnB.kept {w w' : World} {b bd : Nat} {u : Rn} (h : RnB w b u) (hk : Oth bd w w') (hne : b ≠ bd) : RnB w' b u := hk b _ h (by simpa using hne) (fun c fz e => by simp at e)
def E28 (u : Rn) : List Value := u.r.e1.cells u.A1 u.c1 ++ (u.r.e2.cells u.A2 u.c2 ++ (u.r.e3.cells u.A3 u.c3 ++ u.r.e4.cells u.A4 u.c4))
def EB (w : World) (g : Nat) (u : Rn) : Prop := w.heap[g]? = some (.cells (E28 u).toArray 47 (0, 0))
theorem EB.lt {w : World} {g : Nat} {u : Rn} (h : EB w g u) : g < w.heap.size := (Array.getElem?_eq_some_iff.1 h).1
theorem EB.ext {w w' : World} {g : Nat} {u : Rn} (h : EB w g u) (hE : Ext w w') : EB w' g u := (hE.below.block g h.lt).trans h
theorem EB.kept {w w' : World} {g bd : Nat} {u : Rn} (h : EB w g u) (hk : Oth bd w w') (hne : g ≠ bd) : EB w' g u := hk g _ h (by simpa using hne) (fun c fz e => by simp at e)
theorem EB.range {w : World} {g : Nat} {u : Rn} (h : EB w g u) : w.rangeAt g 0 (E28 u) := fun j v hv => by
 have h' : w.heap[g]? = _ := h
 simpa [World.cell?, h'] using hv
def exAt (u : Rn) (j : Nat) : Ex := if j = 0 then u.r.e1 else if j = 1 then u.r.e2 else if j = 2 then u.r.e3 else u.r.e4
def adAt (u : Rn) (j : Nat) : Option Addr := if j = 0 then u.A1 else if j = 1 then u.A2 else if j = 2 then u.A3 else u.A4
def cpAt (u : Rn) (j : Nat) : Nat := if j = 0 then u.c1 else if j = 1 then u.c2 else if j = 2 then u.c3 else u.c4
theorem EB.rng {w : World} {g : Nat} {u : Rn} (h : EB w g u) (j : Nat) (hj : j < 4) : w.rangeAt g (j * 7) ((exAt u j).cells (adAt u j) (cpAt u j)) := fun i v hi => by
 have hr := h.range
 have hi7 : i < 7 := (List.getElem?_eq_some_iff.1 hi).1
 have key : (E28 u)[j * 7 + i]? = some v := by
  match j, hj with
  | 0, _ => rw [Nat.zero_mul, Nat.zero_add]; unfold E28; rw [List.getElem?_append_left (by exact hi7)]; exact hi
  | 1, _ =>
   unfold E28
   rw [List.getElem?_append_right (by show 7 ≤ 1 * 7 + i; omega), List.getElem?_append_left (by show 1 * 7 + i - 7 < 7; omega)]
   rw [show 1 * 7 + i - (u.r.e1.cells u.A1 u.c1).length = i by show 1 * 7 + i - 7 = i; omega]; exact hi
  | 2, _ =>
   unfold E28
   rw [List.getElem?_append_right (by show 7 ≤ 2 * 7 + i; omega), List.getElem?_append_right (by show 7 ≤ 2 * 7 + i - 7; omega), List.getElem?_append_left (by show 2 * 7 + i - 7 - 7 < 7; omega)]
   rw [show 2 * 7 + i - (u.r.e1.cells u.A1 u.c1).length - (u.r.e2.cells u.A2 u.c2).length = i by show 2 * 7 + i - 7 - 7 = i; omega]; exact hi
  | 3, _ =>
   unfold E28
   rw [List.getElem?_append_right (by show 7 ≤ 3 * 7 + i; omega), List.getElem?_append_right (by show 7 ≤ 3 * 7 + i - 7; omega), List.getElem?_append_right (by show 7 ≤ 3 * 7 + i - 7 - 7; omega)]
   rw [show 3 * 7 + i - (u.r.e1.cells u.A1 u.c1).length - (u.r.e2.cells u.A2 u.c2).length - (u.r.e3.cells u.A3 u.c3).length = i by show 3 * 7 + i - 7 - 7 - 7 = i; omega]; exact hi
 have := hr (j * 7 + i) v key
 rwa [Nat.zero_add] at this
set_option maxRecDepth 100000 in
set_option maxHeartbeats 2000000 in
theorem expressions2_any (u : Rn) (w : World) :
  Calls Tryz.prog 43 #[.agg u.cells.toArray] w fun e w' => ∃ g, e = .returned (.slice (some ⟨g, 0, none⟩) 4 4) ∧ w.heap.size ≤ g ∧ EB w' g u ∧ Ext w w' := by
 obtain ⟨w1, hw1⟩ : ∃ w1, w.alloc (.cells u.cells.toArray 49) = w1 := ⟨_, rfl⟩
 have hB := RnB.new w u
 rw [hw1] at hB
 have hE1 : Ext w w1 := by rw [← hw1]; exact Ext.alloc _ _
 have l1 := range1 hB.range
 have l2 := range2 hB.range
 have l3 := range3 hB.range
 have l4 := range4 hB.range
 have HW1 := Lib.hid hw1
 clear hw1
 simp only [Nat.zero_add] at l1 l2 l3 l4
 unfold Ex.cells at l1 l2 l3 l4
 go_enter Tryz.func43, Tryz.ntmps43
 go_upto_region 1 with fail
 rw [HW1.out]
 go_wp2_with (first | (refine load_E rfl _ rfl _ _ _ l1 rfl rfl ?_) | (refine load_E rfl _ rfl _ _ _ l2 rfl rfl ?_) | (refine load_E rfl _ rfl _ _ _ l3 rfl rfl ?_) | (refine load_E rfl _ rfl _ _ _ l4 rfl rfl ?_))
 go_ret
 exact ⟨w1.heap.size, rfl, hE1.sz, Go.heap_alloc_new _ _, hE1.trans (Ext.alloc _ _)⟩
def tAt (u : Rn) (j : Nat) : List UInt8 := wrText (txT (exAt u j))
def preT (u : Rn) : List UInt8 := wrText u.r.nm ++ wrInt u.r.pr
def midT (u : Rn) (j : Nat) : List UInt8 := preT u ++ ((List.range j).map (tAt u)).flatten
theorem midT_step (u : Rn) (j : Nat) : midT u (j + 1) = midT u j ++ tAt u j := by
 unfold midT; rw [List.range_succ]; simp
theorem midT_four (u : Rn) : midT u 4 = u.r.text := by
 unfold midT preT Rl.text
 simp [List.range_succ, tAt, exAt]
theorem exAt_facts {u : Rn} {d : Nat} {W : World} {S : Nat → Prop} (hk : u.kids W S d) (j : Nat) : ExL W S d (adAt u j) (exAt u j).l := by
 unfold adAt exAt
 split
 ·exact hk.k1
 split
 ·exact hk.k2
 split
 ·exact hk.k3
 ·exact hk.k4
theorem exAt_ok {u : Rn} (hok : u.r.ok) (j : Nat) : (exAt u j).ok ∧ (exAt u j).size < 1099511627776 := by
 obtain ⟨_, _, o1, o2, o3, o4⟩ := hok
 unfold exAt
 split
 ·exact o1
 split
 ·exact o2
 split
 ·exact o3
 ·exact o4
theorem exAt_len {u : Rn} (h : TxSz u.r) (j : Nat) : (txT (exAt u j)).length ≤ 1560 ∧ (tAt u j).length ≤ 1582 := by
 unfold tAt exAt
 split
 ·exact ⟨h.l3, h.t3⟩
 split
 ·exact ⟨h.l4, h.t4⟩
 split
 ·exact ⟨h.l5, h.t5⟩
 ·exact ⟨h.l6, h.t6⟩
theorem midT_len {u : Rn} (h : TxSz u.r) : ∀ j : Nat, (midT u j).length ≤ 68 + 1582 * j
 | 0 => by
  have := h.t1
  have := h.t2
  unfold midT preT
  simp only [List.length_append]
  simp; omega
 | j + 1 => by
  have h1 := midT_len h j
  have h2 := (exAt_len h j).2
  rw [midT_step, List.length_append]; omega
set_option maxRecDepth 100000 in
set_option maxHeartbeats 4000000 in
theorem TextL_any (l : List Rl) (A : Option Addr) (c d : Nat) (w : World) (hX : RlB w w.heap.size d A l) (hl : l.length < 4294967296) (hc : l.length ≤ c) (hc2 : c < 9223372036854775808) (hok : ∀ r ∈ l, r.ok) (hT : Wr.Tabs w) (hT2 : Tabs w) :
  Calls Tryz.prog 20 #[.slice A l.length c] w (TextR l w) := by
 have HX := Lib.hid hX
 have HOK := Lib.hid hok
 have HT := Lib.hid hT
 have HT2 := Lib.hid hT2
 have CK := Lib.hid (CheckL_any l A c d w hX hl hc hc2 hok)
 clear hX hok hT hT2
 go_enter Tryz.func20, Tryz.ntmps20
 go_wp2_with fail
 refine CK.out.mono ?_
 rintro e w3 ⟨rfl, hE3⟩
 have HE3 := Lib.hid hE3
 obtain ⟨E, hEE⟩ : ∃ E, chkL l = E := ⟨_, rfl⟩
 have HCE := Lib.hid hEE
 rw [hEE]
 clear hEE hE3
 by_cases e0 : E = 0
 ·subst e0
  have HL : Hid (txL l = (textsL l, 0)) := Lib.hid (txL_of HCE.out)
  go_upto_region 5 with fail
  obtain ⟨w4, hw4⟩ : ∃ w4, w3.alloc (.cells #[.pointer none, .slice none 0 0] 99) = w4 := ⟨_, rfl⟩
  have hBd := Lib.IsBuilderF.of (Lib.fresh_isBuilder 99 5 w3)
  rw [hw4] at hBd ⊢
  have hE4 : Ext w3 w4 := by rw [← hw4]; exact Ext.alloc _ _
  obtain ⟨bd, hbd⟩ : ∃ b, w3.heap.size = b := ⟨_, rfl⟩
  rw [hbd] at hBd ⊢
  have HBD : Hid (Bdr bd bd (textsL (l.take 0)) w4) := Lib.hid hBd
  have HE4 := Lib.hid hE4
  have HS3 := Lib.hid hbd
  clear hw4 hBd hE4 hbd
  go_wp2_with fail
  go_loopw [19] (fun kv wr => ∃ k : Nat, k ≤ l.length ∧ kv = .int .i64 k ∧ Hid (Bdr bd bd (textsL (l.take k)) wr ∧ Ext w3 wr)) (fun kv _ => l.length - (intOf kv).toNat)
  case atStart => exact ⟨0, by omega, rfl, Lib.hid ⟨HBD.out, HE4.out⟩⟩
  case round =>
   obtain ⟨k, hk, rfl, HS⟩ := hrel
   by_cases hlt : k < l.length
   ·have tk : decide (k < l.length) = true := by simp; omega
    obtain ⟨g, o, u, rfl, hg, hu, hku, hr0⟩ := HX.out.at_ hlt
    have hr := range_ext hr0 hg (HE3.out.trans HS.out.2)
    have HKU := Lib.hid hku
    have hul : u.r ∈ l := by rw [hu]; exact List.getElem_mem hlt
    have HOKU := Lib.hid (HOK.out u.r hul)
    obtain ⟨bb, hbb⟩ := chk_mem HCE.out hul
    have HSZ := Lib.hid (txSz hbb)
    have HTX : Hid (textsL (l.take (k + 1)) = textsL (l.take k) ++ u.r.text) := Lib.hid (by rw [hu]; exact textsL_take l k hlt)
    have H0 := Lib.hid (take_texts HCE.out k)
    obtain ⟨P, hP⟩ : ∃ P, textsL (l.take k) = P := ⟨_, rfl⟩
    rw [hP] at HS HTX H0
    clear hku hu hr0 hul hbb hP
    go_upto_region 8 with (first | (refine load_R rfl _ rfl _ _ _ hr rfl rfl ?_) | (refine store_R u rfl _ _ rfl rfl rfl ?_))
    obtain ⟨wa, hwa⟩ : ∃ wa, wr.alloc (.cells u.cells.toArray 49) = wa := ⟨_, rfl⟩
    have hB := RnB.new wr u
    rw [hwa] at hB ⊢
    have hEa : Ext wr wa := by rw [← hwa]; exact Ext.alloc _ _
    obtain ⟨br, hbr⟩ : ∃ b, wr.heap.size = b := ⟨_, rfl⟩
    have hbdr : bd < br := by
     obtain ⟨hb1, _⟩ | ⟨hb1, _⟩ := HS.out.1
     all_goals (rw [← hbr]; rename_i hh; obtain ⟨v, hv, _⟩ := hh; exact (Array.getElem?_eq_some_iff.1 hv).1)
    rw [hbr] at hB ⊢
    have HBR := Lib.hid hB
    have HEa := Lib.hid (HS.out.2.trans hEa)
    have HBa := Lib.hid (HS.out.1.ext hEa)
    obtain ⟨F, hF⟩ : ∃ F : ByteArray, ⟨u.r.nm.toArray⟩ = F := ⟨_, rfl⟩
    obtain ⟨T1, hT1⟩ : ∃ T : ByteArray, ⟨(wrText u.r.nm).toArray⟩ = T := ⟨_, rfl⟩
    obtain ⟨T2, hT2⟩ : ∃ T : ByteArray, ⟨(wrInt u.r.pr).toArray⟩ = T := ⟨_, rfl⟩
    have z1 : T1.size ≤ 46 := by rw [← hT1, Wr.toArr_size]; exact HSZ.out.t1
    have z2 : T2.size ≤ 22 := by rw [← hT2, Wr.toArr_size]; exact HSZ.out.t2
    have HPT : Hid (T1 ++ T2 = ⟨(preT u).toArray⟩) := Lib.hid (by rw [← hT1, ← hT2, Wr.ba_append]; rfl)
    have CT1 := Lib.hid (fun (W : World) (h : Ext wa W) => Wr.wText_any u.r.nm (by have := HSZ.out.t0; omega) W (HT.out.ext (HE3.out.trans (HEa.out.trans h))))
    have CT2 := Lib.hid (fun (W : World) (h : Ext wa W) => Wr.wInt_any u.r.pr HSZ.out.i2 W (HT.out.ext (HE3.out.trans (HEa.out.trans h))))
    rw [hF, hT1] at CT1
    rw [hT2] at CT2
    have FN : Hid (∀ W, Ext wa W → W.cell? ⟨br, 0, none⟩ = some (.string F)) := Lib.hid (fun W h => by rw [← hF]; exact (hB.ext h).range 0 _ rfl)
    have FP : Hid (∀ W, Ext wa W → W.cell? ⟨br, 1, none⟩ = some (.int .i64 u.r.pr)) := Lib.hid (fun W h => (hB.ext h).range 1 _ rfl)
    clear hwa hB hEa hbr hr hg hF hT1 hT2
    apply wp_region_seq (l := [_, _, _, _, _, _, _]) (t := [_]) [some 23, some 24, some 25, some 26, some 27, some 28, some 29, some 30] [[], [0], [1], [], [3], [4], [2, 5], [6]] [1, 2, 6, 4, 5, 7, 7] [eqv _, eqv _, (eqv (.string T1)), eqv _, eqv _, (eqv (.string T2)), eqv _] (by kernel_rfl) (by kernel_rfl) ⟨?o0, ?o1, ?o2, ?o3, ?o4, ?o5, ?o6, trivial⟩ ?last
    case o0 =>
     intro xv W hE _
     simp only [putD, List.foldl_nil, List.getD_cons_zero]
     refine OpGoal.plain ?_
     go_wp2_with fail
     exact ⟨rfl, Ext.refl _, rfl⟩
    case o1 =>
     intro xv W hE hp
     have r0 : xv 0 = _ := hp.1
     clear hp
     have hWW := (Ext.drew wa).trans hE
     have n1 := FN.out W hWW
     have p1 := FP.out W hWW
     simp only [putD, foldl_nil, foldl_cons, getD_cons_zero, getD_cons_succ, Act.put, setIfInBounds_toArray, set_cons_zero, set_cons_succ]
     refine OpGoal.plain ?_
     go_wp2_with fail
     exact ⟨rfl, Ext.refl _, rfl⟩
    case o2 =>
     intro xv W hE hp
     have r1 : xv 1 = _ := hp.1
     clear hp
     simp only [putD, foldl_nil, foldl_cons, getD_cons_zero, getD_cons_succ, Act.put, setIfInBounds_toArray, set_cons_zero, set_cons_succ]
     refine OpGoal.plain ?_
     go_wp2_with fail
     refine (CT1.out W ((Ext.drew wa).trans hE)).mono ?_
     rintro r w' ⟨rfl, hE9⟩
     go_wp2_with fail
     exact ⟨rfl, hE9, rfl⟩
    case o3 =>
     intro xv W hE _
     simp only [putD, List.foldl_nil, List.getD_cons_zero, List.getD_cons_succ]
     refine OpGoal.plain ?_
     go_wp2_with fail
     exact ⟨rfl, Ext.refl _, rfl⟩
    case o4 =>
     intro xv W hE hp
     have r3 : xv 3 = _ := hp.1
     clear hp
     have hWW := (Ext.drew wa).trans hE
     have n1 := FN.out W hWW
     have p1 := FP.out W hWW
     simp only [putD, foldl_nil, foldl_cons, getD_cons_zero, getD_cons_succ, Act.put, setIfInBounds_toArray, set_cons_zero, set_cons_succ]
     refine OpGoal.plain ?_
     go_wp2_with fail
     exact ⟨rfl, Ext.refl _, rfl⟩
    case o5 =>
     intro xv W hE hp
     have r4 : xv 4 = _ := hp.1
     clear hp
     simp only [putD, foldl_nil, foldl_cons, getD_cons_zero, getD_cons_succ, Act.put, setIfInBounds_toArray, set_cons_zero, set_cons_succ]
     refine OpGoal.plain ?_
     go_wp2_with fail
     refine (CT2.out W ((Ext.drew wa).trans hE)).mono ?_
     rintro r w' ⟨rfl, hE9⟩
     go_wp2_with fail
     exact ⟨rfl, hE9, rfl⟩
    case o6 =>
     intro xv W hE hp
     have r2 : xv 2 = _ := hp.1
     have r5 : xv 5 = _ := hp.2.1
     clear hp
     simp only [putD, foldl_nil, foldl_cons, getD_cons_zero, getD_cons_succ, Act.put, setIfInBounds_toArray, set_cons_zero, set_cons_succ]
     refine OpGoal.plain ?_
     go_wp2_with fail
     exact ⟨rfl, Ext.refl _, rfl⟩
    case last =>
     intro xv W hE hp
     have r0 : xv 0 = _ := hp.1
     have r1 : xv 1 = _ := hp.2.1
     have r2 : xv 2 = _ := hp.2.2.1
     have r3 : xv 3 = _ := hp.2.2.2.1
     have r4 : xv 4 = _ := hp.2.2.2.2.1
     have r5 : xv 5 = _ := hp.2.2.2.2.2.1
     have r6 : xv 6 = _ := hp.2.2.2.2.2.2.1
     clear hp
     simp only [putD, List.foldl_nil, List.foldl_cons, List.getD_cons_zero, List.getD_cons_succ, Act.put, List.length_cons, List.length_nil, List.range_succ, List.range_zero, List.nil_append, List.cons_append, List.setIfInBounds_toArray, List.set_cons_zero, List.set_cons_succ]
     have HEW := Lib.hid (HEa.out.trans ((Ext.drew wa).trans hE))
     have HBRW := Lib.hid (HBR.out.ext ((Ext.drew wa).trans hE))
     have HBW := Lib.hid (HBa.out.ext ((Ext.drew wa).trans hE))
     have q6 : xv 6 = .string (T1 ++ T2) := r6
     rw [HPT.out] at q6
     rw [q6]
     clear r0 r1 r2 r3 r4 r5 r6 q6 hE
     go_wp2_with fail
     have hmz := midT_len HSZ.out 0
     have hpl : (preT u).length ≤ 68 := by simpa [midT] using hmz
     have hlen0 : P.length + (preT u).length ≤ 140737488355328 := by have := H0.out; omega
     refine (wStr bd bd P (preT u) W HBW.out hlen0 (by have := HEW.out.sz; have := HS3.out; omega)).mono ?_
     rintro e w5 ⟨rfl, hB5, hb5, ho5⟩
     have HB5 : Hid (Bdr bd bd (P ++ midT u 0) w5) := Lib.hid (by simpa [midT] using hB5)
     have HE5 := Lib.hid (show Ext w3 w5 from Below.trans HEW.out (by rw [HS3.out]; exact hb5))
     have HBR5 := Lib.hid (HBRW.out.kept ho5 (by omega))
     clear hB5 hb5 ho5 hmz
     go_upto_region 9 with fail
     have hr5 := HBR5.out.range
     go_wp2_with (first | (refine load_R rfl _ rfl _ _ _ hr5 rfl rfl ?_))
     refine (expressions2_any u w5).mono ?_
     rintro e w6 ⟨ge, rfl, hge, hEB, hE6⟩
     have hbe : bd < ge := by have := HBR5.out.lt; omega
     have HB6 := Lib.hid (HB5.out.ext hE6)
     have HE6 := Lib.hid (HE5.out.trans hE6)
     have HEB := Lib.hid hEB
     clear hr5 hEB hE6 hge
     go_wp2_with fail
     go_loopw [34] (fun jv ws => ∃ j : Nat, j ≤ 4 ∧ jv = .int .i64 j ∧ Hid (Bdr bd bd (P ++ midT u j) ws ∧ EB ws ge u ∧ Ext w3 ws)) (fun jv _ => 4 - (intOf jv).toNat)
     case atStart => exact ⟨0, by omega, rfl, Lib.hid ⟨HB6.out, HEB.out, HE6.out⟩⟩
     case round =>
      obtain ⟨j, hj, rfl, HI⟩ := hrel
      by_cases hj4 : j < 4
      ·have tj : decide ((j : Int) < 4) = true := by simp; omega
       have hrj := HI.out.2.1.rng j hj4
       have hEw : Ext w wr := HE3.out.trans HI.out.2.2
       have hkx := exAt_facts (HKU.out.ext hEw) j
       have hokx := exAt_ok HOKU.out j
       have hlx := exAt_len HSZ.out j
       have HTA : Hid (tAt u j = wrText (txT (exAt u j))) := Lib.hid rfl
       obtain ⟨x, hx⟩ : ∃ x, exAt u j = x := ⟨_, rfl⟩
       obtain ⟨Ax, hAx⟩ : ∃ x, adAt u j = x := ⟨_, rfl⟩
       obtain ⟨cx, hcx⟩ : ∃ x, cpAt u j = x := ⟨_, rfl⟩
       rw [hx] at hrj hkx hokx hlx HTA
       rw [hAx] at hrj hkx
       rw [hcx] at hrj
       have CTX := Lib.hid (fun (W : World) (h : Ext wr W) => TextC_any x d Ax cx W (ExL.ext hkx h) hokx.2 hokx.1 (HT2.out.ext (hEw.trans h)))
       have WTX := Lib.hid (fun (W : World) (h : Ext wr W) => Wr.wText_any (txT x) (by omega) W (HT.out.ext (hEw.trans h)))
       have HML := Lib.hid (midT_len HSZ.out j)
       have HTL := Lib.hid hlx.2
       unfold Ex.cells at hrj CTX
       unfold sv at CTX
       clear hEw hkx hokx hlx hx hAx hcx
       go_wp2_with (first | (refine load_E rfl _ rfl _ _ _ hrj rfl rfl ?_))
       refine (CTX.out _ (Ext.alloc _ _)).mono ?_
       rintro e w7 ⟨rfl, hE7⟩
       have HE7 := Lib.hid ((Ext.alloc _ _).trans hE7)
       clear hE7 hrj
       go_wp2_with fail
       refine (WTX.out w7 HE7.out).mono ?_
       rintro e w8 ⟨rfl, hE8⟩
       have HE8 := Lib.hid (HE7.out.trans hE8)
       have hlen8 : (P ++ midT u j).length + (wrText (txT x)).length ≤ 140737488355328 := by
        have h1 := H0.out
        have h2 := HML.out
        have h3 := HTL.out
        rw [HTA.out] at h3
        rw [List.length_append]; omega
       clear hE8
       go_wp2_with fail
       refine (wStr bd bd (P ++ midT u j) (wrText (txT x)) w8 (HI.out.1.ext HE8.out) hlen8 (by have := (HI.out.2.2.trans HE8.out).sz; have := HS3.out; omega)).mono ?_
       rintro e w9 ⟨rfl, hB9, hb9, ho9⟩
       have HN : Hid (Bdr bd bd (P ++ midT u (j + 1)) w9 ∧ EB w9 ge u ∧ Ext w3 w9) := Lib.hid ⟨by rw [midT_step, HTA.out, ← List.append_assoc]; exact hB9, (HI.out.2.1.ext HE8.out).kept ho9 (by omega), Below.trans (HI.out.2.2.trans HE8.out) (by rw [HS3.out]; exact hb9)⟩
       clear hB9 hb9 ho9
       go_wp2_with fail
       go_roundw
       case rel => exact ⟨j + 1, by omega, by go_num, HN⟩
       case measure => simp [intOf]; omega
      ·obtain rfl : j = 4 := by omega
       have HN : Hid (Bdr bd bd (textsL (l.take (k + 1))) wr ∧ Ext w3 wr) := Lib.hid ⟨by rw [HTX.out, ← midT_four]; exact HI.out.1, HI.out.2.2⟩
       go_wp2_with fail
       go_roundw
       case rel => exact ⟨k + 1, by omega, by go_num, HN⟩
       case measure => simp [intOf]; omega
   ·obtain rfl : k = l.length := by omega
    have tk : decide (l.length < l.length) = false := by simp
    go_wp2_with fail
    refine (bStr bd bd _ _ HS.out.1 (by have := HS.out.2.sz; have := HS3.out; omega)).mono ?_
    rintro e w5 ⟨rfl, hb5⟩
    go_wp2_with fail
    go_ret2
    exact ⟨by rw [HL.out]; rfl, HE3.out.trans (Below.trans HS.out.2 (by rw [HS3.out]; exact hb5))⟩
 ·have ye : (E == 0) = false := by rw [beq_eq_false_iff_ne]; exact e0
  have HL : Hid (txL l = ([], E)) := Lib.hid (by unfold txL; rw [HCE.out, if_pos e0])
  clear e0
  go_wp2_with fail
  go_ret2
  exact ⟨by rw [HL.out]; rfl, HE3.out⟩
end Go.Proofs.YtmiencglfhpmeaaGreatDoor

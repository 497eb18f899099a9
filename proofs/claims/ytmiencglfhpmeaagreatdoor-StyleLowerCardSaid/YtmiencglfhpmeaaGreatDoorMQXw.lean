/- Contracts of the library's functions that layer 2 calls, and of the readers' small methods. -/
import Derived.Test.YtmiencglfhpmeaaGreatDoorMQXv
import Derived.Lib.SmallJoins
import Derived.Lib.AppendIntMem
import Derived.ScopeJumps
import Derived.Deep.LoopGhost
set_option linter.unusedSimpArgs false
set_option linter.unusedVariables false
namespace Go.Proofs.YtmiencglfhpmeaaGreatDoor.Wr
open Go.RowKit Hach Num
def Tabs (w : World) : Prop :=
 Lib.TabIs Tryz.prog w "internal/strconv.uint64pow10" .u64 Lib.pow10Tab ∧ 4 ≤ w.heap.size ∧ (∃ m, w.cell? ⟨1, 0, none⟩ = some (.int .i64 m)) ∧
  (∃ ev, w.cell? ⟨2, 0, none⟩ = some ev ∧ (ev = .nilIface ∨ ∃ te pe, ev = .iface te pe)) ∧ (∃ ev, w.cell? ⟨3, 0, none⟩ = some ev ∧ (ev = .nilIface ∨ ∃ te pe, ev = .iface te pe))
theorem Tabs.keep {w w' : World} (h : Tabs w) (hz : w.heap.size ≤ w'.heap.size) (hk : ∀ k, k < 4 → w'.heap[k]? = w.heap[k]?) : Tabs w' := by
 obtain ⟨h0, hs, h1, h2, h3⟩ := h
 refine ⟨?_, by omega, ?_, ?_, ?_⟩
 ·have hg : Tryz.prog.globalNamed "internal/strconv.uint64pow10" = some 0 := by kernel_rfl
  unfold Lib.TabIs World.var? at h0 ⊢
  rw [hg] at h0 ⊢
  simp only [Option.bind_some] at h0 ⊢
  rw [hk 0 (by omega)]
  exact h0
 ·obtain ⟨m, h⟩ := h1
  exact ⟨m, (World.cell?_of_block (a := ⟨1, 0, none⟩) (hk 1 (by omega))).trans h⟩
 ·obtain ⟨m, h, r⟩ := h2
  exact ⟨m, (World.cell?_of_block (a := ⟨2, 0, none⟩) (hk 2 (by omega))).trans h, r⟩
 ·obtain ⟨m, h, r⟩ := h3
  exact ⟨m, (World.cell?_of_block (a := ⟨3, 0, none⟩) (hk 3 (by omega))).trans h, r⟩
theorem Tabs.sz {w : World} (h : Tabs w) : 4 ≤ w.heap.size := h.2.1
theorem Tabs.ext {w w' : World} (h : Tabs w) (hE : Ext w w') : Tabs w' := h.keep hE.sz fun k hk => hE.below.block k (by have := h.sz; omega)
theorem Tabs.grown {w w' : World} {b : Nat} (h : Tabs w) (hg : w.grownBy w' (some b)) (hb : 4 ≤ b) : Tabs w' :=
 h.keep hg.size fun k hk => hg.block k (by have := h.sz; omega) (by simp; omega)
theorem ext_grow (w : World) (k : Nat) (os : Array Obj) : Ext w (Sort.grow (w.drewN k) os) := Lib.below_grow _ w (Nat.le_refl _) k os
theorem ext_drewN (w : World) (k : Nat) : Ext w (w.drewN k) := ⟨rfl, rfl, rfl, Nat.le_refl _, fun _ _ => rfl⟩
theorem itoa_any (n : Int) (hn : InI n) (w : World) (ht : Tabs w) :
  Calls Tryz.prog 84 #[.int .i64 n] w fun e w' => e = .returned (.string ⟨(Lib.itoa n).toArray⟩) ∧ Ext w w' := by
 refine (Tryz.strconv_Itoa n hn.1 hn.2 w ht.1).mono ?_
 rintro e w' ⟨rfl, k, os, rfl⟩
 exact ⟨rfl, ext_grow w k os⟩
theorem atoi_any (d : ByteArray) (hd : d.size < 4294967296) (w : World) (ht : Tabs w) :
    Calls Tryz.prog 111 #[.string d] w fun e w' =>
      ((∃ v, InI v ∧ num d.data.toList = (if Lib.itoa v = d.data.toList then some v else none) ∧ e = .returned (.tuple #[.int .i64 v, .nilIface])) ∨
       (∃ v te pe, num d.data.toList = none ∧ e = .returned (.tuple #[.int .i64 v, .iface te pe]))) ∧ Ext w w' := by
  obtain ⟨_, _, _, ⟨e2, c2, k2⟩, ⟨e3, c3, k3⟩⟩ := ht
  cases h : Lib.atoiAll d.data.toList
  · rename_i v
    refine (Tryz.strconv_Atoi_ok d (by omega) v h w).mono ?_
    rintro e w' ⟨rfl, hw⟩
    refine ⟨.inl ⟨v, Lib.atoiAll_bounds h, ?_, rfl⟩, ?_⟩
    · unfold num; rw [h]
    · rcases hw with rfl | ⟨t, rfl⟩
      · exact Ext.refl _
      · exact Joins.below_bytesWorld _ w _ t (Nat.le_refl _)
  · refine (show Calls Tryz.prog 111 #[.string d] w _ from Any.strconv_Atoi_syntax Tryz.laysC172 d (by omega) h e2 w c2 k2).mono ?_
    rintro e w' ⟨N, rfl, _, _, hb⟩
    exact ⟨.inr ⟨_, _, _, by unfold num; rw [h], rfl⟩, hb⟩
  · refine (show Calls Tryz.prog 111 #[.string d] w _ from Any.strconv_Atoi_range Tryz.laysC172 d (by omega) h e3 w c3 k3).mono ?_
    rintro e w' ⟨N, rfl, _, _, hb⟩
    exact ⟨.inr ⟨_, _, _, by unfold num; rw [h], rfl⟩, hb⟩
theorem cut_any (s : ByteArray) (c : UInt8) (hs : s.size < 4294967281) (w : World) (ht : Tabs w) :
    Calls Tryz.prog 110 #[.string s, .string ⟨#[c]⟩] w fun e w' =>
      ((∃ a b, cutB c s.data.toList = some (a, b) ∧ e = .returned (.tuple #[.string ⟨a.toArray⟩, .string ⟨b.toArray⟩, .bool true])) ∨
       (cutB c s.data.toList = none ∧ e = .returned (.tuple #[.string s, .string ⟨#[]⟩, .bool false]))) ∧ Ext w w' := by
  obtain ⟨_, _, ⟨m, hm⟩, _⟩ := ht
  refine (Tryz.strings_Cut s ⟨#[c]⟩ m w hs hm).mono ?_
  rintro e w' ⟨rfl, k, rfl⟩
  refine ⟨?_, ext_drewN w k⟩
  have hc := cut_one c s.data.toList
  show _ ∨ _
  rw [show (⟨#[c]⟩ : ByteArray).data.toList = [c] from rfl, hc]
  cases h : cutB c s.data.toList with
  | none => exact .inr ⟨rfl, rfl⟩
  | some p => exact .inl ⟨p.1, p.2, rfl, rfl⟩
theorem grown_set (w : World) (b o : Nat) (v : Value) : w.grownBy (w.setCell ⟨b, o, none⟩ v) (some b) :=
 ⟨rfl, rfl, rfl, by simp [World.setCell], fun k _ hk => heap_setCell_other w _ k v (fun e => hk (by rw [e]))⟩
theorem grown_ext {w w' : World} (h : Ext w w') (r : Option Nat) : w.grownBy w' r := ⟨h.os, h.tape, h.output, h.size, fun k hk _ => h.block k hk⟩
def Rd (w : World) (b : Nat) (l : Option (List UInt8)) : Prop := w.heap[b]? = some (.cells #[.string ⟨(l.getD []).toArray⟩, .bool l.isNone] 134 (0, 0))
theorem Rd.cell0 {w : World} {b : Nat} {l : Option (List UInt8)} (h : Rd w b l) : w.cell? ⟨b, 0, none⟩ = some (.string ⟨(l.getD []).toArray⟩) := by simp [World.cell?, show w.heap[b]? = _ from h]
theorem Rd.cell1 {w : World} {b : Nat} {l : Option (List UInt8)} (h : Rd w b l) : w.cell? ⟨b, 1, none⟩ = some (.bool l.isNone) := by simp [World.cell?, show w.heap[b]? = _ from h]
theorem Rd.free {w : World} {b : Nat} {l : Option (List UInt8)} (h : Rd w b l) (o : Nat) : w.frozen? ⟨b, o, none⟩ = false := by simp [World.frozen?, show w.heap[b]? = _ from h]
theorem Rd.lt {w : World} {b : Nat} {l : Option (List UInt8)} (h : Rd w b l) : b < w.heap.size := (Array.getElem?_eq_some_iff.1 h).1
theorem Rd.ext {w w' : World} {b : Nat} {l : Option (List UInt8)} (h : Rd w b l) (hE : Ext w w') : Rd w' b l := (hE.below.block b h.lt).trans h
theorem bad_any (b : Nat) (l : Option (List UInt8)) (w : World) (h : Rd w b l) :
  Calls Tryz.prog 59 #[.pointer (some ⟨b, 0, none⟩)] w fun e w' => e = .returned (.bool l.isNone) ∧ w' = w := by
 have c1 := h.cell1
 go_enter Tryz.func59, Tryz.ntmps59
 go_wp2_with fail
 go_ret
 exact ⟨rfl, rfl⟩
theorem left_any (b : Nat) (l : Option (List UInt8)) (w : World) (h : Rd w b l) :
  Calls Tryz.prog 55 #[.pointer (some ⟨b, 0, none⟩)] w fun e w' => e = .returned (.int .i64 ((l.getD []).length : Nat)) ∧ w' = w := by
 have c0 := h.cell0
 cases l with
 | none =>
  go_enter Tryz.func55, Tryz.ntmps55
  go_wp2_with fail
  refine (bad_any b _ w h).mono ?_
  rintro e w' ⟨rfl, rfl⟩
  go_wp2_with fail
  go_ret
  exact ⟨rfl, rfl⟩
 | some l =>
  go_enter Tryz.func55, Tryz.ntmps55
  go_wp2_with fail
  refine (bad_any b _ w h).mono ?_
  rintro e w' ⟨rfl, rfl⟩
  go_wp2_with fail
  go_ret
  exact ⟨by simp, rfl⟩
theorem fail_any (b : Nat) (l : Option (List UInt8)) (w : World) (h : Rd w b l) :
  Calls Tryz.prog 89 #[.pointer (some ⟨b, 0, none⟩)] w fun e w' => e = .returned (.tuple #[]) ∧ Rd w' b none ∧ w.grownBy w' (some b) := by
 have c0 := h.cell0
 have c1 := h.cell1
 have f0 := h.free 0
 have f1 := h.free 1
 go_enter Tryz.func89, Tryz.ntmps89
 go_wp2_with fail
 go_end0
 refine ⟨rfl, ?_, (grown_set w b 1 _).trans (grown_set _ b 0 _)⟩
 exact heap_setCell_same _ b 0 _ _ _ (heap_setCell_same w b 1 _ _ _ h)
end Go.Proofs.YtmiencglfhpmeaaGreatDoor.Wr
namespace Go.Proofs.YtmiencglfhpmeaaGreatDoor.Wr
open Go.RowKit Hach Num
def NumEnd (e : Ending) (w' : World) (b : Nat) (o : Option (Int × List UInt8)) : Prop := match o with
 | none => e = .returned (.tuple #[.int .i64 0, .bool false]) ∧ Rd w' b none
 | some (v, r) => e = .returned (.tuple #[.int .i64 v, .bool true]) ∧ Rd w' b (some r)
set_option maxHeartbeats 400000 in
theorem number_any (b : Nat) (l : Option (List UInt8)) (c : UInt8) (w : World) (hR : Rd w b l) (hb : 4 ≤ b) (hT : Tabs w) (hl : (l.getD []).length < 4294967281) :
  Calls Tryz.prog 88 #[.pointer (some ⟨b, 0, none⟩), .string ⟨#[c]⟩] w fun e w' => NumEnd e w' b (l.bind (rdNum c)) ∧ w.grownBy w' (some b) := by
 go_enter Tryz.func88, Tryz.ntmps88
 go_wp2_with fail
 refine wp_scope_jumps 0 (fun a' w' => ∃ u1 u2 u3 u4 u5 u6 u7 u8 u9 u10 u11 u12 u13 u14 u15 u16 u17 u18 u19 u20 u21 u22 u23 u24 u25 u26 u27 u28 u29 u30 u31 u32 u33 u34 u35 u36 u37 u38 u39 u40 : Value, a' = { tmps := #[.pointer (some ⟨b, 0, none⟩), u1, u2, u3, u4, u5, u6, u7, u8, u9, u10, u11, u12, u13, u14, u15, u16, u17, u18, u19, u20, u21, u22, u23, u24, u25, u26, u27, u28, u29, u30, u31, u32, u33, u34, u35, u36, u37, u38, u39, u40], defers := [] } ∧ (∃ l', Rd w' b l') ∧ w.grownBy w' (some b) ∧ l.bind (rdNum c) = none) (fun _ _ => 0) rfl ?first ?pass
 case pass =>
  rintro a' w' ⟨u1, u2, u3, u4, u5, u6, u7, u8, u9, u10, u11, u12, u13, u14, u15, u16, u17, u18, u19, u20, u21, u22, u23, u24, u25, u26, u27, u28, u29, u30, u31, u32, u33, u34, u35, u36, u37, u38, u39, u40, rfl, ⟨l', hR'⟩, hg, hno⟩
  go_wp2_with fail
  refine (fail_any b l' w' hR').mono ?_
  rintro e w2 ⟨rfl, hR2, hg2⟩
  go_wp2_with fail
  simp only [Exit.jump]
  go_ret2
  rw [hno]
  exact ⟨⟨rfl, hR2⟩, hg.trans hg2⟩
 case first =>
  cases l with
  | none =>
   go_wp2_with fail
   refine (bad_any b _ w hR).mono ?_
   rintro e w' ⟨rfl, rfl⟩
   go_wp2_with fail
   go_step3
   refine ⟨rfl, _, _, _, _, _, _, _, _, _, _, _, _, _, _, _, _, _, _, _, _, _, _, _, _, _, _, _, _, _, _, _, _, _, _, _, _, _, _, _, _, rfl, ⟨_, hR⟩, ⟨rfl, rfl, rfl, Nat.le_refl _, fun _ _ _ => rfl⟩, rfl⟩
  | some l =>
   have c0 := hR.cell0
   have f0 := hR.free 0
   have hls : (⟨l.toArray⟩ : ByteArray).size < 4294967281 := by show l.toArray.size < _; simpa using hl
   go_wp2_with fail
   refine (bad_any b _ w hR).mono ?_
   rintro e w' ⟨rfl, rfl⟩
   go_wp2_with fail
   refine (cut_any ⟨l.toArray⟩ c hls w' hT).mono ?_
   rintro e w1 ⟨he, hE1⟩
   have hR1 := hR.ext hE1
   have f1 := hR1.free 0
   have c1 := hR1.cell0
   have hT1 := hT.ext hE1
   simp only [] at he
   rcases he with ⟨a, r, hc, rfl⟩ | ⟨hc, rfl⟩
   ·have hal : a.length < 4294967281 := by
     obtain ⟨e, _⟩ := cutB_some hc
     have : l.length = a.length + (r.length + 1) := by rw [show l = _ from e]; simp
     simp at hl; omega
    have has : (⟨a.toArray⟩ : ByteArray).size < 4294967296 := by show a.toArray.size < _; simp; omega
    go_wp2_with fail
    obtain ⟨w2, hw2⟩ : ∃ w2, w1.setCell ⟨b, 0, none⟩ (.string ⟨r.toArray⟩) = w2 := ⟨_, rfl⟩
    have hR2 : Rd w2 b (some r) := by rw [← hw2]; exact heap_setCell_same w1 b 0 _ _ _ hR1
    have hg2 : w'.grownBy w2 (some b) := by rw [← hw2]; exact (grown_ext hE1 _).trans (grown_set w1 b 0 _)
    have hT2 := hT.grown hg2 hb
    rw [hw2]
    clear hw2
    refine (atoi_any ⟨a.toArray⟩ has w2 hT2).mono ?_
    rintro e w3 ⟨he, hE3⟩
    have hR3 := hR2.ext hE3
    have hg3 := hg2.trans (grown_ext hE3 _)
    have hT3 := hT.grown hg3 hb
    rcases he with ⟨v, hv, hn, rfl⟩ | ⟨v, te, pe, hn, rfl⟩
    ·go_wp2_with fail
     refine (itoa_any v hv w3 hT3).mono ?_
     rintro e w4 ⟨rfl, hE4⟩
     have hR4 := hR3.ext hE4
     have hg4 := hg3.trans (grown_ext hE4 _)
     obtain ⟨iv, hiv⟩ : ∃ iv : ByteArray, (⟨(Lib.itoa v).toArray⟩ : ByteArray) = iv := ⟨_, rfl⟩
     obtain ⟨av, hav⟩ : ∃ av : ByteArray, (⟨a.toArray⟩ : ByteArray) = av := ⟨_, rfl⟩
     by_cases hva : Lib.itoa v = a
     ·have tq : (iv.toList == av.toList) = true := by rw [← hiv, ← hav, hva]; exact beq_self_eq_true _
      have hnum : (some l).bind (rdNum c) = some (v, r) := by simp only [Option.bind_some, rdNum, hc]; rw [show num a = some v from by rw [show num a = _ from hn, if_pos hva]]; rfl
      rw [hiv, hav]
      clear hn hva hiv hav
      go_wp2_with fail
      simp only [Exit.jump]
      go_ret2
      rw [hnum]
      exact ⟨⟨rfl, hR4⟩, hg4⟩
     ·have tq : (iv.toList == av.toList) = false := by
       rw [beq_eq_false_iff_ne]
       intro e
       have e2 := eq_of_toList e
       rw [← hiv, ← hav] at e2
       injection e2 with e2
       exact hva (by simpa using congrArg Array.toList e2)
      have hnum : (some l).bind (rdNum c) = none := by simp only [Option.bind_some, rdNum, hc]; rw [show num a = none from by rw [show num a = _ from hn, if_neg hva]]; rfl
      rw [hiv, hav]
      clear hn hva hiv hav
      go_wp2_with fail
      go_step3
      refine ⟨rfl, _, _, _, _, _, _, _, _, _, _, _, _, _, _, _, _, _, _, _, _, _, _, _, _, _, _, _, _, _, _, _, _, _, _, _, _, _, _, _, _, rfl, ⟨_, hR4⟩, hg4, hnum⟩
    ·go_wp2_with fail
     go_step3
     refine ⟨rfl, _, _, _, _, _, _, _, _, _, _, _, _, _, _, _, _, _, _, _, _, _, _, _, _, _, _, _, _, _, _, _, _, _, _, _, _, _, _, _, _, rfl, ⟨_, hR3⟩, hg3, (by simp only [Option.bind_some, rdNum, hc, hn]; rfl)⟩
   ·go_wp2_with fail
    go_step3
    refine ⟨rfl, _, _, _, _, _, _, _, _, _, _, _, _, _, _, _, _, _, _, _, _, _, _, _, _, _, _, _, _, _, _, _, _, _, _, _, _, _, _, _, _, rfl, ⟨_, (heap_setCell_same w1 b 0 _ _ _ hR1 : Rd _ b (some []))⟩, (grown_ext hE1 _).trans (grown_set w1 b 0 _), (by simp only [Option.bind_some, rdNum, hc])⟩
theorem ba_take (r : List UInt8) (k : Nat) : (⟨r.toArray⟩ : ByteArray).extract 0 k = ⟨(r.take k).toArray⟩ := by
 apply ba_ext; rw [ByteArray.data_extract]; simp
theorem ba_drop (r : List UInt8) (k : Nat) : (⟨r.toArray⟩ : ByteArray).extract k r.length = ⟨(r.drop k).toArray⟩ := by
 apply ba_ext; rw [ByteArray.data_extract]; simp
 rw [List.take_of_length_le]
 simp
def IntEnd (e : Ending) (w' : World) (b : Nat) (o : Option (Int × List UInt8)) : Prop := e = .returned (.int .i64 ((o.map (·.1)).getD 0)) ∧ Rd w' b (o.map (·.2))
def TextEnd (e : Ending) (w' : World) (b : Nat) (o : Option (List UInt8 × List UInt8)) : Prop := e = .returned (.string ⟨((o.map (·.1)).getD []).toArray⟩) ∧ Rd w' b (o.map (·.2))
theorem int_any (b : Nat) (l : Option (List UInt8)) (w : World) (hR : Rd w b l) (hb : 4 ≤ b) (hT : Tabs w) (hl : (l.getD []).length < 4294967281) :
  Calls Tryz.prog 57 #[.pointer (some ⟨b, 0, none⟩)] w fun e w' => IntEnd e w' b (l.bind rdInt) ∧ w.grownBy w' (some b) := by
 go_enter Tryz.func57, Tryz.ntmps57
 go_wp2_with fail
 refine (number_any b l 59 w hR hb hT hl).mono ?_
 rintro e w' ⟨hn, hg⟩
 show _
 have hn : NumEnd e w' b (l.bind rdInt) := hn
 cases ho : l.bind rdInt with
 | none =>
  rw [ho] at hn
  obtain ⟨rfl, hR'⟩ := hn
  have HO := Lib.hid ho
  clear ho
  go_wp2_with fail
  go_ret
  rw [HO.out]
  exact ⟨⟨rfl, hR'⟩, hg⟩
 | some p =>
  rw [ho] at hn
  obtain ⟨v, r⟩ := p
  obtain ⟨rfl, hR'⟩ := hn
  have HO := Lib.hid ho
  clear ho
  go_wp2_with fail
  go_ret
  rw [HO.out]
  exact ⟨⟨rfl, hR'⟩, hg⟩
theorem text_any (b : Nat) (l : Option (List UInt8)) (w : World) (hR : Rd w b l) (hb : 4 ≤ b) (hT : Tabs w) (hl : (l.getD []).length < 4294967281) :
  Calls Tryz.prog 56 #[.pointer (some ⟨b, 0, none⟩)] w fun e w' => TextEnd e w' b (l.bind rdText) ∧ w.grownBy w' (some b) := by
 go_enter Tryz.func56, Tryz.ntmps56
 go_wp2_with fail
 refine (number_any b l 58 w hR hb hT hl).mono ?_
 rintro e w' ⟨hn, hg⟩
 cases ho : l.bind (rdNum 58) with
 | none =>
  have ht : l.bind rdText = none := by
   cases l with
   | none => rfl
   | some l => simp only [Option.bind_some] at ho ⊢; unfold rdText; rw [ho]
  rw [ho] at hn
  have HT := Lib.hid ht
  clear ht ho
  obtain ⟨rfl, hR'⟩ := hn
  go_wp2_with fail
  refine (fail_any b _ w' hR').mono ?_
  rintro e w2 ⟨rfl, hR2, hg2⟩
  go_wp2_with fail
  go_ret
  rw [HT.out]
  exact ⟨⟨rfl, hR2⟩, hg.trans hg2⟩
 | some p =>
  rw [ho] at hn
  obtain ⟨n, r⟩ := p
  obtain ⟨rfl, hR'⟩ := hn
  have c0 := hR'.cell0
  have f0 := hR'.free 0
  simp only [Option.getD_some] at c0
  have hr : r.length < 4294967281 ∧ InI n := by
   cases l with
   | none => cases ho
   | some l =>
    obtain ⟨hv, e⟩ := rdNum_only (show rdNum 58 l = some (n, r) from ho)
    have : l.length = (Lib.itoa n).length + (r.length + 1) := by rw [e]; simp
    simp only [Option.getD_some] at hl
    exact ⟨by omega, hv⟩
  obtain ⟨hrl, hn0, hn1⟩ := hr
  have hsz : (⟨r.toArray⟩ : ByteArray).size = r.length := by show r.toArray.size = _; simp
  by_cases hbad : n < 0 ∨ (r.length : Int) < n
  ·have ht : l.bind rdText = none := by
    cases l with
    | none => rfl
    | some l => simp only [Option.bind_some] at ho ⊢; unfold rdText; rw [ho]; simp only; rw [if_pos hbad]
   have HT := Lib.hid ht
   clear ht ho
   have t1 : decide (n < 0) = true ∨ decide (n < 0) = false ∧ decide ((r.length : Int) < n) = true := by
    by_cases h : n < 0
    ·left; simpa using h
    ·right; refine ⟨by simpa using h, ?_⟩
     rcases hbad with h' | h'
     ·exact absurd h' h
     ·simpa using h'
   rcases t1 with t1 | ⟨t1, t2⟩
   ·go_wp2_with fail
    refine (fail_any b _ w' hR').mono ?_
    rintro e w2 ⟨rfl, hR2, hg2⟩
    go_wp2_with fail
    go_ret
    rw [HT.out]
    exact ⟨⟨rfl, hR2⟩, hg.trans hg2⟩
   ·go_wp2_with fail
    refine (fail_any b _ w' hR').mono ?_
    rintro e w2 ⟨rfl, hR2, hg2⟩
    go_wp2_with fail
    go_ret
    rw [HT.out]
    exact ⟨⟨rfl, hR2⟩, hg.trans hg2⟩
  ·obtain ⟨k, rfl⟩ : ∃ k : Nat, n = k := ⟨n.toNat, by omega⟩
   have hk : k ≤ r.length := by omega
   have ht : l.bind rdText = some (r.take k, r.drop k) := by
    cases l with
    | none => cases ho
    | some l => simp only [Option.bind_some] at ho ⊢; unfold rdText; rw [ho]; simp only; rw [if_neg hbad]; simp
   have HT := Lib.hid ht
   clear ht ho
   have t1 : decide ((k : Int) < 0) = false := by simp
   have t2 : decide ((r.length : Int) < k) = false := by simp; omega
   have t3 : decide (r.length < k) = false := by simpa using hk
   go_wp2_with fail
   go_ret
   rw [HT.out]
   refine ⟨⟨?_, ?_⟩, hg.trans (grown_set w' b 0 _)⟩
   ·show Ending.returned (Value.string _) = _
    rw [ba_take]; rfl
   ·have := heap_setCell_same w' b 0 _ _ (.string ((⟨r.toArray⟩ : ByteArray).extract k r.length)) hR'
    rw [ba_drop] at this
    rw [ba_drop]
    exact this
end Go.Proofs.YtmiencglfhpmeaaGreatDoor.Wr
namespace Go.Proofs.YtmiencglfhpmeaaGreatDoor.Wr
open Go.RowKit Hach Num
def txv (x : List UInt8) : Value := .string ⟨x.toArray⟩
theorem grown_own {w w1 w2 : World} {b : Nat} {v : Value} (h : w.grownBy w1 (some b)) (k : w1.grownBy w2 v.ownBlock) (hv : ∀ g, v.ownBlock = some g → w.heap.size ≤ g) : w.grownBy w2 (some b) :=
 ⟨k.os.trans h.os, k.tape.trans h.tape, k.output.trans h.output, Nat.le_trans h.size k.size, fun i hi hr => (k.block i (Nat.lt_of_lt_of_le hi h.size) (fun e => by have := hv i e.symm; omega)).trans (h.block i hi hr)⟩
theorem Rd.own {w w' : World} {b : Nat} {l : Option (List UInt8)} {r : Option Nat} (h : Rd w b l) (hg : w.grownBy w' r) (hb : some b ≠ r) : Rd w' b l := (hg.block b h.lt hb).trans h
end Go.Proofs.YtmiencglfhpmeaaGreatDoor.Wr

/- The contract of the program's read: an expression is read into a place in a block. -/
import Derived.Test.YtmiencglfhpmeaaGreatDoorMQSu
import Derived.Test.YtmiencglfhpmeaaGreatDoorMQXw
import Derived.Test.YtmiencglfhpmeaaGreatDoorMQXp
import Derived.Test.YtmiencglfhpmeaaGreatDoorMQSw
set_option linter.unusedSimpArgs false
set_option linter.unusedVariables false
namespace Go.Proofs.YtmiencglfhpmeaaGreatDoor
open Go.RowKit Hach Num
theorem tabsE {w : World} (h : Wr.Tabs w) : Tabs w := ⟨h.1, h.2.1, h.2.2.2.1, h.2.2.2.2⟩
theorem Wr.new_any (s : ByteArray) (w : World) :
  Calls Tryz.prog 54 #[.string s] w fun e w' => e = .returned (.pointer (some ⟨w.heap.size, 0, none⟩)) ∧ Wr.Rd w' w.heap.size (some s.data.toList) ∧ Ext w w' := by
 go_enter Tryz.func54, Tryz.ntmps54
 go_wp2_with fail
 go_ret
 exact ⟨rfl, heap_alloc_new _ _, Ext.alloc _ _⟩
def nxt (rb : Nat) : Value := .func (.func 56) #[.pointer (some ⟨rb, 0, none⟩)] #[]
structure RdP (w w' : World) (rb eb : Nat) (l : Option (List UInt8)) (pre post : List Value) (T : TypeId) (bo : Bool) (wm : World) : Prop where
 r : Wr.Rd wm rb ((l.bind rdText).map (·.2))
 g1 : w.grownBy wm (some rb)
 g2 : wm.grownBy w' (some eb)
 no : bo = false → l.bind rdE = none
 yes : bo = true → l.bind rdText ≠ none → ∃ (x : Ex) (A : Option Addr) (c d : Nat) (r : List UInt8), l.bind rdE = some (x, r) ∧ w'.heap[eb]? = some (.cells (pre ++ (x.cells A c ++ post)).toArray T (0, 0)) ∧ ExL w' (fun k => w.heap.size ≤ k ∧ k < w'.heap.size) d A x.l
theorem ret1 {fn : Func} (hr : fn.results = #[.tmp 4]) {W : World} {Q : Ending → World → Prop} {a : Value} {tmps : Array Value} (h4 : tmps.getD 4 undef = a) (hQ : Q (.returned a) W) : bodyPost Tryz.prog fn Q Exit.ret ⟨tmps, []⟩ W := by
 refine bodyPost_ret (v := a) ?_ rfl hQ
 rw [Array.getD_eq_getD_getElem?] at h4
 simp only [results, hr]
 go_simp
set_option maxRecDepth 100000 in
set_option maxHeartbeats 4000000 in
theorem sread_any (rb eb eo : Nat) (l : Option (List UInt8)) (w : World) (hR : Wr.Rd w rb l) (hb : 4 ≤ rb) (hT : Wr.Tabs w) (hl : (l.getD []).length < 4294967281) (pre old post : List Value) (T : TypeId)
  (hB : w.heap[eb]? = some (.cells (pre ++ (old ++ post)).toArray T (0, 0))) (ho : pre.length = eo) (h7 : old.length = 7) (hne : rb ≠ eb) :
  Calls Tryz.prog 58 #[nxt rb, .pointer (some ⟨eb, eo, none⟩)] w fun e w' => ∃ bo wm, e = .returned (.bool bo) ∧ RdP w w' rb eb l pre post T bo wm := by
 have TX := Lib.hid (Wr.text_any rb l w hR hb hT hl)
 unfold nxt
 go_enter Tryz.func58, Tryz.ntmps58
 go_wp2_with fail
 refine TX.out.mono ?_
 rintro e w1 ⟨⟨rfl, hR1⟩, hg1⟩
 have hE0 : w.grownBy w1 (some rb) := hg1
 have hT1 : Tabs w1 := (tabsE hT).keep hg1.size (fun k hk => hg1.block k (by have := (tabsE hT).sz; omega) (by simp; omega))
 have hbz : eb < w.heap.size := (Array.getElem?_eq_some_iff.1 hB).1
 have hB1 : w1.heap[eb]? = some (.cells (pre ++ (old ++ post)).toArray T (0, 0)) := (hg1.block eb hbz (by simp; omega)).trans hB
 obtain ⟨s, hs⟩ : ∃ s, ((l.bind rdText).map (·.1)).getD [] = s := ⟨_, rfl⟩
 have hsl : s.length < 4294967296 := by
  rw [← hs]
  cases l with
  | none => simp
  | some ll =>
   cases ht : rdText ll with
   | none => simp [ht]
   | some p =>
    have h1 := (rdText_len (show rdText ll = some (p.1, p.2) from ht)).1
    simp [ht] at hl ⊢
    omega
 rw [hs]
 have HNO : Hid (¬ ((parseE s).2 = 0 ∧ chkE (parseE s).1 = 0 ∧ txT (parseE s).1 = s) → l.bind rdE = none) := Lib.hid (fun h => by
  cases ho : l.bind rdText with
  | none => exact rdE_none ho
  | some p =>
   obtain ⟨s', r⟩ := p
   rw [ho] at hs
   simp only [Option.map_some, Option.getD_some] at hs
   subst hs
   rw [rdE_some ho, if_neg h])
 have HYE : Hid ((parseE s).2 = 0 ∧ chkE (parseE s).1 = 0 ∧ txT (parseE s).1 = s → l.bind rdText ≠ none → ∃ r, l.bind rdE = some ((parseE s).1, r)) := Lib.hid (fun h hn => by
  cases ho : l.bind rdText with
  | none => exact absurd ho hn
  | some p =>
   obtain ⟨s', r⟩ := p
   rw [ho] at hs
   simp only [Option.map_some, Option.getD_some] at hs
   subst hs
   exact ⟨r, by rw [rdE_some ho, if_pos h]⟩)
 have HCZ : Hid ((parseE s).2 = 0 → chkE (parseE s).1 = 0 ∧ (parseE s).1.ok ∧ (parseE s).1.size < 1099511627776) := Lib.hid (fun h => ⟨parse_chk h, parse_zero h⟩)
 have PA := Lib.hid (parse_any s hsl w1 hT1)
 unfold ParseQ at PA
 obtain ⟨y, hy⟩ : ∃ y, (parseE s).1 = y := ⟨_, rfl⟩
 obtain ⟨er, her⟩ : ∃ y, (parseE s).2 = y := ⟨_, rfl⟩
 rw [hy, her] at PA HNO HYE HCZ
 obtain ⟨S, hS⟩ : ∃ S : ByteArray, (⟨s.toArray⟩ : ByteArray) = S := ⟨_, rfl⟩
 have HSS := Lib.hid hS
 have HB1 := Lib.hid hB1
 have HT1 := Lib.hid hT1
 have HG1 := Lib.hid hg1
 have HR1 := Lib.hid hR1
 have HHO := Lib.hid ho
 have HH7 := Lib.hid h7
 rw [hS] at PA
 rw [hS]
 clear hs hy her hS hT1 hB1 hg1 hR1 TX hE0 hR hB hT ho h7
 go_wp2_with fail
 refine PA.out.mono ?_
 rintro e w3 ⟨A, c, d, rfl, hX3, hE3⟩
 have HX3 := Lib.hid hX3
 have HE3 := Lib.hid hE3
 unfold Ex.cells
 clear hX3 hE3 PA
 by_cases e0 : er = 0
 ·subst e0
  obtain ⟨hc0, hok, hsz⟩ := HCZ.out rfl
  go_upto_region 3 with fail
  obtain ⟨w4, hw4⟩ : ∃ w4, w3.alloc (.cells (y.cells A c).toArray 47) = w4 := ⟨_, rfl⟩
  obtain ⟨q, hq⟩ : ∃ q, w3.heap.size = q := ⟨_, rfl⟩
  have hE4 : Ext w3 w4 := by rw [← hw4]; exact Ext.alloc _ _
  have hr4 := range_new w3 (y.cells A c) 47
  have hlt4 : w3.heap.size < w4.heap.size := by rw [← hw4]; simp
  rw [hw4, hq] at hr4
  rw [hq] at hlt4
  have HX4 := Lib.hid (exl_ext HX3.out hE4)
  have TC := Lib.hid (TextC_any y d A c w4 (ExL.ext (HX3.out.more fun k hk => hk.2) hE4) hsz hok (HT1.out.ext (HE3.out.trans hE4)))
  unfold Ex.cells at hw4 TC
  unfold sv at TC
  have HE4 := Lib.hid (HE3.out.trans hE4)
  rw [hw4, hq]
  obtain ⟨D, hD⟩ : ∃ D : ByteArray, (⟨(txT y).toArray⟩ : ByteArray) = D := ⟨_, rfl⟩
  have hq2 := bs_eq2 (txT y) s D S hD HSS.out
  obtain ⟨bo, hbo⟩ : ∃ q, decide (txT y = s) = q := ⟨_, rfl⟩
  rw [hbo] at hq2
  rw [hD, hc0] at TC
  have HBO := Lib.hid hbo
  have HC0 := Lib.hid hc0
  have HR4 : Hid (∀ W, Ext w4 W → W.rangeAt q 0 (y.cells A c)) := Lib.hid (fun W h => range_ext hr4 hlt4 h)
  have hr4' := hr4
  unfold Ex.cells at hr4'
  clear hw4 hE4 hD hbo hok hsz hc0 hq hr4
  go_wp2_with (first | (refine load_E rfl _ rfl _ _ _ hr4' rfl rfl ?_))
  refine TC.out.mono ?_
  rintro e w5 ⟨rfl, hE5⟩
  have HE5 := Lib.hid (HE4.out.trans hE5)
  have HX5 := Lib.hid (exl_ext HX4.out hE5)
  have hr5 := HR4.out w5 hE5
  clear hr4' hE5 hlt4 TC
  go_upto_region 6 with fail
  have hB5 : w5.heap[eb]? = some (.cells (pre ++ (old ++ post)).toArray T (0, 0)) := (HE5.out.below.block eb (Nat.lt_of_lt_of_le hbz HG1.out.size)).trans HB1.out
  have hp := put_mid (y.cells A c) old pre post w5 hB5 HH7.out
  rw [HHO.out] at hp
  have HP := Lib.hid hp
  have hX6 := exl_grow HX5.out hp.2 (Nat.lt_of_lt_of_le hbz HG1.out.size)
  have HX6 := Lib.hid hX6
  clear hp hX6
  go_upto_region 7 with (first | (refine store_E eb eo pre old post (y.cells A c) T hB5 HHO.out HH7.out rfl (ex_one y A c) rfl _ _ rfl rfl rfl ?_) | (refine load_E rfl _ rfl q 0 _ hr5 rfl rfl ?_))
  obtain ⟨w6, hw6⟩ : ∃ q, w5.setCells eb eo (y.cells A c) = q := ⟨_, rfl⟩
  rw [hw6] at HP HX6 ⊢
  clear hw6 hr5 hB5
  go_wp2_with fail
  refine ret1 (a := .bool bo) rfl rfl ?_
  refine ⟨bo, w5, rfl, HR1.out.ext HE5.out, grown_trans HG1.out (grown_of HE5.out _), HP.out.2, fun h => HNO.out (fun k => ?_), fun h hn => ?_⟩
  ·rw [h, decide_eq_false_iff_not] at HBO
   exact HBO.out k.2.2
  ·have hts : txT y = s := by
    have := HBO.out
    rw [h, decide_eq_true_iff] at this
    exact this
   obtain ⟨r, hr⟩ := HYE.out ⟨by simp, HC0.out, hts⟩ hn
   exact ⟨y, A, c, d, r, hr, HP.out.1, exl_low HX6.out HG1.out.size⟩
 ·have ye : (er != 0) = true := by simpa using e0
  have HN : Hid (l.bind rdE = none) := Lib.hid (HNO.out (fun h => e0 h.1))
  clear e0
  go_wp2_with fail
  have hE4 := Ext.alloc w3 (.cells (y.cells A c).toArray 47)
  exact ret1 (a := .bool false) rfl rfl ⟨false, _, rfl, HR1.out.ext (HE3.out.trans hE4), grown_trans HG1.out (grown_of (HE3.out.trans hE4) _), grown_of (Ext.refl _) _, fun _ => HN.out, fun h => (by cases h)⟩
end Go.Proofs.YtmiencglfhpmeaaGreatDoor
namespace Go.Proofs.YtmiencglfhpmeaaGreatDoor
open Go.RowKit Hach Num
structure PpSt (w1 wr : World) (rb : Nat) (s cur : List UInt8) (ov : Value) (us : List Rn) (d : Nat) : Prop where
 o : OwnR wr w1.heap.size ov us
 r : Wr.Rd wr rb (some cur)
 g : w1.grownBy wr (some rb)
 k : KidsR wr (SO w1.heap.size wr ov) d us
 p : goRs [] s = goRs (us.map (·.r)) cur
 l : us.length + cur.length ≤ s.length
 ok : ∀ u ∈ us, u.r.ok ∧ u.r.small
theorem PpSt.next {w1 wr wF wz : World} {rb bu d D : Nat} {s cur r : List UInt8} {ov v' : Value} {us : List Rn} {u : Rn} (h : PpSt w1 wr rb s cur ov us d) (hlt : rb < w1.heap.size) (hg : wr.grownBy wF (some rb)) (hR : Wr.Rd wF rb (some r)) (hd : d ≤ D)
  (hk : u.kids wF (fun b => bu + 1 ≤ b ∧ b < wF.heap.size) D) (hbu : wr.heap.size ≤ bu) (hrd : rdR cur = some (u.r, r)) (hs : s.length ≤ 262144) (ho : OwnR wz w1.heap.size v' (us ++ [u])) (hgz : wF.grownBy wz ov.ownBlock) (hn : v'.ownBlock = ov.ownBlock ∨ v'.ownBlock = some wF.heap.size) : PpSt w1 wz rb s r v' (us ++ [u]) D := by
 have h1 := grown_trans h.g hg
 have hr1 := rdR_less hrd
 have hl := h.l
 refine ⟨ho, hR.own hgz (fun e => ?_), Wr.grown_own h1 hgz (fun g e => (h.o.lt g e).1), ?_, ?_, ?_, ?_⟩
 ·have := h.o.lt rb e.symm; omega
 ·refine KidsR.step (lo := bu + 1) (KidsR.deep (KidsR.more (KidsR.keep h.k fun b hb o => grown_cell hg hb.2.1 (fun e => ?_) o) fun b hb => ?_) hd) hk ?_ (fun b e => ?_) hgz hn
  ·simp only [Option.some.injEq] at e; have := hb.1; omega
  ·exact ⟨hb.1, Nat.lt_of_lt_of_le hb.2.1 hg.size, hb.2.2⟩
  ·have := h.g.size; omega
  ·have := (h.o.lt b e).2; omega
 ·rw [h.p, goRs_some hrd]; simp
 ·simp only [List.length_append, List.length_singleton]; omega
 ·intro y hy
  rcases List.mem_append.1 hy with hy | hy
  ·exact h.ok y hy
  ·rw [List.mem_singleton.1 hy]; exact rdR_ok hrd (by omega)
theorem PpSt.bad {w w1 wr w' : World} {rb d : Nat} {s cur : List UInt8} {ov : Value} {us : List Rn} (h : PpSt w1 wr rb s cur ov us d) (hP : parseL s = parseG (goRs [] s)) (hne : cur ≠ []) (hrd : rdR cur = none) (hE : Ext w w') : ParseQL s w (.returned (.tuple #[.slice none 0 0, .int .i64 ((us.length : Int) + 1), .int .i64 4])) w' := by
 have e : parseL s = ([], ((us.length : Int) + 1), 4) := by
  rw [hP, h.p, goRs_none hne hrd, parseG, List.length_map]; rfl
 unfold ParseQL
 rw [e]
 exact ⟨none, 0, 0, rfl, RlL.nil _ _ _ _, ⟨Nat.le_refl _, by decide⟩, fun r hr => (by cases hr), hE⟩
theorem PpSt.all {w1 wr : World} {rb d : Nat} {s : List UInt8} {ov : Value} {us : List Rn} (h : PpSt w1 wr rb s [] ov us d) (hP : parseL s = parseG (goRs [] s)) : parseL s = if chkL (us.map (·.r)) ≠ 0 then ([], 0, chkL (us.map (·.r))) else (us.map (·.r), 0, 0) := by
 rw [hP, h.p, goRs_nil, parseG]
def Rn.setk (u : Rn) : Nat → Ex → Option Addr → Nat → Rn
 | 0 => u.set1
 | 1 => u.set2
 | 2 => u.set3
 | _ => u.set4
def Stp (x : Ex) (m m' : Option (List UInt8)) : Prop := ∃ r, m.bind rdE = some (x, r) ∧ m' = some r
def ChE (u : Rl) : Nat → Option (List UInt8) → Option (List UInt8) → Prop
 | 0, m2, m => m = m2
 | 1, m2, m => Stp u.e1 m2 m
 | 2, m2, m => ∃ m3, Stp u.e1 m2 m3 ∧ Stp u.e2 m3 m
 | 3, m2, m => ∃ m3 m4, Stp u.e1 m2 m3 ∧ Stp u.e2 m3 m4 ∧ Stp u.e3 m4 m
 | _, m2, m => ∃ m3 m4 m5, Stp u.e1 m2 m3 ∧ Stp u.e2 m3 m4 ∧ Stp u.e3 m4 m5 ∧ Stp u.e4 m5 m
theorem four {k : Nat} (hk : k < 4) : k = 0 ∨ k = 1 ∨ k = 2 ∨ k = 3 := by omega
theorem ChE.next {u : Rn} {k : Nat} {m2 m m' : Option (List UInt8)} {x : Ex} (h : ChE u.r k m2 m) (hk : k < 4) (hs : Stp x m m') (A : Option Addr) (c : Nat) : ChE (u.setk k x A c).r (k + 1) m2 m' := by
 rcases four hk with rfl | rfl | rfl | rfl
 ·have h' : m = m2 := h
  subst h'; exact hs
 ·exact ⟨m, h, hs⟩
 ·obtain ⟨m3, h1, h2⟩ := h
  exact ⟨m3, m, h1, h2, hs⟩
 ·obtain ⟨m3, m4, h1, h2, h3⟩ := h
  exact ⟨m3, m4, m, h1, h2, h3, hs⟩
def rest4 (nm : List UInt8) (pr : Int) (m2 : Option (List UInt8)) : Option (Rl × List UInt8) :=
 (m2.bind rdE).bind fun p3 => (rdE p3.2).bind fun p4 => (rdE p4.2).bind fun p5 => (rdE p5.2).bind fun p6 => some (⟨nm, pr, p3.1, p4.1, p5.1, p6.1⟩, p6.2)
theorem ChE.stop {u : Rn} {k : Nat} {m2 m : Option (List UInt8)} (h : ChE u.r k m2 m) (hk : k < 4) (hn : m.bind rdE = none) (nm : List UInt8) (pr : Int) : rest4 nm pr m2 = none := by
 unfold rest4
 rcases four hk with rfl | rfl | rfl | rfl
 ·have h' : m = m2 := h
  subst h'; rw [hn]; rfl
 ·obtain ⟨r3, h1, rfl⟩ := h
  have hn' : rdE r3 = none := hn
  rw [h1]; simp [hn']
 ·obtain ⟨m3, ⟨r3, h1, rfl⟩, ⟨r4, h2, rfl⟩⟩ := h
  have h2' : rdE r3 = _ := h2
  have hn' : rdE r4 = none := hn
  rw [h1]; simp [h2', hn']
 ·obtain ⟨m3, m4, ⟨r3, h1, rfl⟩, ⟨r4, h2, rfl⟩, ⟨r5, h3, rfl⟩⟩ := h
  have h2' : rdE r3 = _ := h2
  have h3' : rdE r4 = _ := h3
  have hn' : rdE r5 = none := hn
  rw [h1]; simp [h2', h3', hn']
theorem ChE.all {u : Rn} {m2 m : Option (List UInt8)} (h : ChE u.r 4 m2 m) : ∃ r, m = some r ∧ rest4 u.r.nm u.r.pr m2 = some (u.r, r) := by
 obtain ⟨m3, m4, m5, ⟨r3, h1, rfl⟩, ⟨r4, h2, rfl⟩, ⟨r5, h3, rfl⟩, ⟨r6, h4, rfl⟩⟩ := h
 have h2' : rdE r3 = _ := h2
 have h3' : rdE r4 = _ := h3
 have h4' : rdE r5 = _ := h4
 refine ⟨r6, rfl, ?_⟩
 unfold rest4
 rw [h1]; simp [h2', h3', h4']
theorem rdR_rest {l : List UInt8} {o1 : Option (List UInt8 × List UInt8)} {o2 : Option (Int × List UInt8)} (h1 : rdText l = o1) (h2 : (o1.map (·.2)).bind rdInt = o2) : rdR l = rest4 ((o1.map (·.1)).getD []) ((o2.map (·.1)).getD 0) (o2.map (·.2)) := by
 subst h2
 unfold rdR rest4
 rw [h1]
 cases o1 with
 | none => rfl
 | some p =>
  obtain ⟨nm, l1⟩ := p
  simp only [Option.map_some, Option.bind_some, Option.getD_some]
  cases rdInt l1 with
  | none => rfl
  | some q =>
   obtain ⟨pr, l2⟩ := q
   simp only [Option.map_some, Option.bind_some, Option.getD_some]
   cases rdE l2 with
   | none => rfl
   | some q3 =>
    obtain ⟨x3, l3⟩ := q3
    simp only [Option.bind_some]
    cases rdE l3 with
    | none => rfl
    | some q4 =>
     obtain ⟨x4, l4⟩ := q4
     simp only [Option.bind_some]
     cases rdE l4 with
     | none => rfl
     | some q5 =>
      obtain ⟨x5, l5⟩ := q5
      simp only [Option.bind_some]
      cases rdE l5 with
      | none => rfl
      | some q6 => rfl
theorem cells_k (u : Rn) {k : Nat} (hk : k < 4) : ∃ pre old post, u.cells = pre ++ (old ++ post) ∧ pre.length = 2 + 7 * k ∧ old.length = 7 ∧ ∀ (x : Ex) (A : Option Addr) (c : Nat), pre ++ (x.cells A c ++ post) = (u.setk k x A c).cells := by
 rcases four hk with rfl | rfl | rfl | rfl
 ·exact ⟨[.string ⟨u.r.nm.toArray⟩, .int .i64 u.r.pr], u.r.e1.cells u.A1 u.c1, u.r.e2.cells u.A2 u.c2 ++ (u.r.e3.cells u.A3 u.c3 ++ u.r.e4.cells u.A4 u.c4), rfl, rfl, rfl, fun x A c => rfl⟩
 ·exact ⟨.string ⟨u.r.nm.toArray⟩ :: .int .i64 u.r.pr :: u.r.e1.cells u.A1 u.c1, u.r.e2.cells u.A2 u.c2, u.r.e3.cells u.A3 u.c3 ++ u.r.e4.cells u.A4 u.c4, rfl, rfl, rfl, fun x A c => rfl⟩
 ·exact ⟨.string ⟨u.r.nm.toArray⟩ :: .int .i64 u.r.pr :: (u.r.e1.cells u.A1 u.c1 ++ u.r.e2.cells u.A2 u.c2), u.r.e3.cells u.A3 u.c3, u.r.e4.cells u.A4 u.c4, rfl, rfl, rfl, fun x A c => rfl⟩
 ·exact ⟨.string ⟨u.r.nm.toArray⟩ :: .int .i64 u.r.pr :: (u.r.e1.cells u.A1 u.c1 ++ (u.r.e2.cells u.A2 u.c2 ++ u.r.e3.cells u.A3 u.c3)), u.r.e4.cells u.A4 u.c4, [], rfl, rfl, rfl, fun x A c => rfl⟩
theorem kids_k {u : Rn} {w : World} {S : Nat → Prop} {d : Nat} (h : u.kids w S d) {k : Nat} (hk : k < 4) {x : Ex} {A : Option Addr} (hx : ExL w S d A x.l) (c : Nat) : (u.setk k x A c).kids w S d := by
 rcases four hk with rfl | rfl | rfl | rfl
 ·exact ⟨hx, h.k2, h.k3, h.k4⟩
 ·exact ⟨h.k1, hx, h.k3, h.k4⟩
 ·exact ⟨h.k1, h.k2, hx, h.k4⟩
 ·exact ⟨h.k1, h.k2, h.k3, hx⟩
theorem setk_nm (u : Rn) {k : Nat} (hk : k < 4) (x : Ex) (A : Option Addr) (c : Nat) : (u.setk k x A c).r.nm = u.r.nm ∧ (u.setk k x A c).r.pr = u.r.pr := by
 rcases four hk with rfl | rfl | rfl | rfl <;> exact ⟨rfl, rfl⟩
def ptrs (bu : Nat) : Array Value := #[.pointer (some ⟨bu, 2, none⟩), .pointer (some ⟨bu, 9, none⟩), .pointer (some ⟨bu, 16, none⟩), .pointer (some ⟨bu, 23, none⟩)]
theorem ptrs_at {w : World} {bp bu : Nat} (h : w.heap[bp]? = some (.cells (ptrs bu) 112 (0, 0))) {k : Nat} (hk : k < 4) : w.cell? ⟨bp, k, none⟩ = some (.pointer (some ⟨bu, 2 + 7 * k, none⟩)) := by
 simp only [World.cell?, h]
 rcases four hk with rfl | rfl | rfl | rfl <;> rfl
structure PgSt (wr wk : World) (rb bu bp : Nat) (cur nm : List UInt8) (pr : Int) (m2 : Option (List UInt8)) (k : Nat) (m : Option (List UInt8)) (u : Rn) (D : Nat) : Prop where
 lr : rb < wr.heap.size
 lu : wr.heap.size ≤ bu
 lp : bu < bp
 hk : k ≤ 4
 r : Wr.Rd wk rb m
 g : wr.grownBy wk (some rb)
 ub : RnB wk bu u
 p : wk.heap[bp]? = some (.cells (ptrs bu) 112 (0, 0))
 kk : u.kids wk (fun k => bu + 1 ≤ k ∧ k < wk.heap.size) D
 c : ChE u.r k m2 m
 n : u.r.nm = nm ∧ u.r.pr = pr
 l : (m.getD []).length ≤ cur.length
theorem PgSt.next {wr wk wm w' : World} {rb bu bp : Nat} {cur nm : List UInt8} {pr : Int} {m2 m : Option (List UInt8)} {k : Nat} {u : Rn} {D d c : Nat} (h : PgSt wr wk rb bu bp cur nm pr m2 k m u D) (hk : k < 4) {x : Ex} {A : Option Addr} {r : List UInt8} (hR : Wr.Rd wm rb (some r)) (g1 : wk.grownBy wm (some rb)) (g2 : wm.grownBy w' (some bu)) (hx : m.bind rdE = some (x, r))
  (hB : w'.heap[bu]? = some (.cells (u.setk k x A c).cells.toArray 49 (0, 0))) (hX : ExL w' (fun k => wk.heap.size ≤ k ∧ k < w'.heap.size) d A x.l) : PgSt wr w' rb bu bp cur nm pr m2 (k + 1) (some r) (u.setk k x A c) (D + d) := by
 have hlr := h.lr
 have hlu := h.lu
 have hlp := h.lp
 have hub := h.ub.lt
 have hbp : bp < wk.heap.size := (Array.getElem?_eq_some_iff.1 h.p).1
 have hcell : ∀ b, bu + 1 ≤ b ∧ b < wk.heap.size → ∀ o, w'.cell? ⟨b, o, none⟩ = wk.cell? ⟨b, o, none⟩ := fun b hb o => (grown_cell g2 (Nat.lt_of_lt_of_le hb.2 g1.size) (by simp; omega) o).trans (grown_cell g1 hb.2 (by simp; omega) o)
 have hsz : wk.heap.size ≤ w'.heap.size := Nat.le_trans g1.size g2.size
 refine ⟨h.lr, h.lu, h.lp, hk, hR.own g2 (by simp; omega), grown_new (grown_trans h.g g1) h.lu g2, hB, ?_, ?_, h.c.next hk ⟨r, hx, rfl⟩ A c, ?_, ?_⟩
 ·exact (g2.block bp (Nat.lt_of_lt_of_le hbp g1.size) (by simp; omega)).trans ((g1.block bp hbp (by simp; omega)).trans h.p)
 ·refine kids_k (((h.kk.keep hcell).more fun b hb => ⟨hb.1, Nat.lt_of_lt_of_le hb.2 hsz⟩).deep (Nat.le_add_right _ _)) hk ((exl_low hX hub).deep (Nat.le_add_left _ _)) c
 ·obtain ⟨e1, e2⟩ := setk_nm u hk x A c
  exact ⟨e1.trans h.n.1, e2.trans h.n.2⟩
 ·cases m with
  | none => cases hx
  | some l => exact Nat.le_trans (Nat.le_of_lt (rdE_less (show rdE l = _ from hx))) h.l
end Go.Proofs.YtmiencglfhpmeaaGreatDoor

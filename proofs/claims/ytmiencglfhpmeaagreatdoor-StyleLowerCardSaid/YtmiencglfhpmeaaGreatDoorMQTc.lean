/- The contract of the program's Parse. -/
import Derived.Test.YtmiencglfhpmeaaGreatDoorMQTa
set_option linter.unusedSimpArgs false
set_option linter.unusedVariables false
namespace Go.Proofs.YtmiencglfhpmeaaGreatDoor
open Go.RowKit Hach Num
theorem rn_setN {w : World} {b : Nat} {u : Rn} (nm : List UInt8) (v : Int) (h : RnB w b u) : RnB ((w.setCell ⟨b, 0, none⟩ (.string ⟨nm.toArray⟩)).setCell ⟨b, 1, none⟩ (.int .i64 v)) b ⟨⟨nm, v, u.r.e1, u.r.e2, u.r.e3, u.r.e4⟩, u.A1, u.A2, u.A3, u.A4, u.c1, u.c2, u.c3, u.c4⟩ ∧ w.grownBy ((w.setCell ⟨b, 0, none⟩ (.string ⟨nm.toArray⟩)).setCell ⟨b, 1, none⟩ (.int .i64 v)) (some b) :=
 put_mid [.string ⟨nm.toArray⟩, .int .i64 v] [.string ⟨u.r.nm.toArray⟩, .int .i64 u.r.pr] [] (u.r.e1.cells u.A1 u.c1 ++ (u.r.e2.cells u.A2 u.c2 ++ (u.r.e3.cells u.A3 u.c3 ++ u.r.e4.cells u.A4 u.c4))) w h rfl
set_option maxRecDepth 100000 in
set_option maxHeartbeats 4000000 in
theorem ParseL_any (s : List UInt8) (hs : s.length < 4294967281) (w : World) (hT : Wr.Tabs w) : Calls Tryz.prog 22 #[.string ⟨s.toArray⟩] w (ParseQL s w) := by
 have NW := Lib.hid (Wr.new_any ⟨s.toArray⟩ w)
 obtain ⟨S, hS⟩ : ∃ S : ByteArray, (⟨s.toArray⟩ : ByteArray) = S := ⟨_, rfl⟩
 have hz : S.size = s.length := by rw [← hS]; exact Wr.toArr_size s
 have hSl : S.data.toList = s := by rw [← hS]
 rw [hS, hSl] at NW
 rw [hS]
 clear hS hSl
 by_cases hbig : 262144 < s.length
 ·have t1 : decide ((262144 : Int) < (s.length : Int)) = true := by simp; omega
  have HP : Hid (parseL s = ([], 0, 2)) := Lib.hid (by unfold parseL; rw [if_pos hbig])
  clear hbig NW
  go_enter Tryz.func22, Tryz.ntmps22
  go_wp2_with fail
  refine ret3 rfl rfl rfl rfl ?_
  unfold ParseQL
  rw [HP.out]
  exact ⟨none, 0, 0, rfl, RlL.nil _ _ _ _, ⟨Nat.le_refl _, by decide⟩, fun r hr => (by cases hr), Ext.refl _⟩
 ·have t1 : decide ((262144 : Int) < (s.length : Int)) = false := by simp; omega
  have HP := Lib.hid (parse_go (s := s) (by omega))
  have hsl : s.length ≤ 262144 := by omega
  have HTW := Lib.hid hT
  clear hbig hT
  go_enter Tryz.func22, Tryz.ntmps22
  go_wp2_with fail
  refine NW.out.mono ?_
  rintro e w1 ⟨rfl, hR1, hE1⟩
  have HR1 := Lib.hid hR1
  have HE1 := Lib.hid hE1
  obtain ⟨rb, hrb⟩ : ∃ b, w.heap.size = b := ⟨_, rfl⟩
  rw [hrb] at HR1
  have hlt1 : rb < w1.heap.size := HR1.out.lt
  have hrb4 : 4 ≤ rb := by rw [← hrb]; exact (tabsE HTW.out).sz
  have HRB := Lib.hid hrb
  rw [hrb]
  clear hR1 hE1 hrb NW
  go_wp2_with fail
  go_loopg [5] s.length (fun g ov wr => ∃ (cur : List UInt8) (us : List Rn) (d : Nat), g = cur.length ∧ Hid (PpSt w1 wr rb s cur ov us d))
  case atStart => exact ⟨s, [], 0, rfl, Lib.hid ⟨OwnR.nil _ _, HR1.out, grown_of (Ext.refl _) _, KidsR.nil _ _ _, rfl, by simp, fun u hu => by cases hu⟩⟩
  case round =>
   obtain ⟨cur, us, d, rfl, HS⟩ := hrel
   obtain ⟨wo, hwo⟩ : ∃ q, q = wr := ⟨_, rfl⟩
   subst hwo
   obtain ⟨A0, c0, hov, hf0⟩ := HS.out.o.form
   subst hov
   clear hf0
   have LF := Lib.hid (Wr.left_any rb (some cur) wo HS.out.r)
   simp only [Option.getD_some] at LF
   have HTR : Hid (Wr.Tabs wo) := Lib.hid ((HTW.out.ext HE1.out).grown HS.out.g hrb4)
   go_wp2_with fail
   refine LF.out.mono ?_
   rintro e wa ⟨rfl, hwa⟩
   obtain rfl := hwa.symm
   clear LF
   by_cases hc0 : cur = []
   ·subst hc0
    have tc : decide (0 < ([] : List UInt8).length) = false := rfl
    have hE := ext_of_grown HE1.out HS.out.g (Nat.le_of_eq HRB.out)
    have hcap := HS.out.o.cap
    have hsz := HS.out.l
    have hg1 := HS.out.g.size
    have hlk := (OwnR.list (S := fun k => w.heap.size ≤ k ∧ k < wo.heap.size) HS.out.o (HS.out.k.more fun b hb => ⟨by have := hb.1; have := HE1.out.sz; omega, hb.2.1⟩) (fun b h1 h2 => ⟨by have := HE1.out.sz; omega, h2⟩)).1
    have hl2 : RlL wo (fun k => w.heap.size ≤ k ∧ k < wo.heap.size) d A0 (us.map (·.r)) := (hlk.keep fun b hb o => (Ext.refl wo).old (p := ⟨b, o, none⟩) hb.2).more fun b hb => ⟨hb.1, Nat.lt_of_lt_of_le hb.2 (Ext.refl wo).sz⟩
    have CK := Lib.hid (CheckL_any (us.map (·.r)) A0 c0 d wo (hl2.more fun b hb => hb.2) (by rw [List.length_map]; omega) (by rw [List.length_map]; exact hcap.1) hcap.2 (fun r hr => by
     obtain ⟨u, hu, rfl⟩ := List.mem_map.1 hr
     exact (HS.out.ok u hu).1))
    have HAL := Lib.hid (HS.out.all HP.out)
    have HFI : Hid (∀ W, Ext wo W → ParseQL s w (.returned (.tuple #[.slice A0 us.length c0, .int .i64 0, .int .i64 0])) W ∨ True) := Lib.hid (fun W h => .inr trivial)
    rw [List.length_map] at CK
    have HL2 := Lib.hid hl2
    have HE2 := Lib.hid hE
    have HCAP := Lib.hid hcap
    have HOK : Hid (∀ r ∈ us.map (·.r), r.ok ∧ r.small) := Lib.hid (fun r hr => by
     obtain ⟨u, hu, rfl⟩ := List.mem_map.1 hr
     exact HS.out.ok u hu)
    have HLN : Hid ((us.map (·.r)).length = us.length) := Lib.hid (List.length_map ..)
    obtain ⟨L, hL⟩ : ∃ q, us.map (·.r) = q := ⟨_, rfl⟩
    rw [hL] at CK HAL HL2 HOK HLN
    obtain ⟨er, her⟩ : ∃ q, chkL L = q := ⟨_, rfl⟩
    rw [her] at CK HAL
    clear hE hcap hsz hg1 hlk hl2 hL her HFI
    go_wp2_with fail
    refine CK.out.mono ?_
    rintro e w9 ⟨rfl, hE9⟩
    have HE9 := Lib.hid hE9
    clear hE9 CK
    by_cases e0 : er = 0
    ·subst e0
     go_wp2_with fail
     refine ret3 (a := .slice A0 us.length c0) (b := .int .i64 0) (c := .int .i64 0) rfl rfl rfl rfl ?_
     unfold ParseQL
     rw [HAL.out, if_neg (by simp)]
     exact ⟨A0, c0, d, congrArg (fun n => Ending.returned (.tuple #[.slice A0 n c0, .int .i64 0, .int .i64 0])) HLN.out.symm, (HL2.out.keep fun b hb o => HE9.out.old (p := ⟨b, o, none⟩) hb.2).more fun b hb => ⟨hb.1, Nat.lt_of_lt_of_le hb.2 HE9.out.sz⟩, by rw [HLN.out]; exact HCAP.out, HOK.out, HE2.out.trans HE9.out⟩
    ·have ye : (er != 0) = true := by simpa using e0
     have HZ := Lib.hid e0
     clear e0
     go_wp2_with fail
     refine ret3 rfl rfl rfl rfl ?_
     unfold ParseQL
     rw [HAL.out, if_pos HZ.out]
     exact ⟨none, 0, 0, rfl, RlL.nil _ _ _ _, ⟨Nat.le_refl _, by decide⟩, fun r hr => (by cases hr), HE2.out.trans HE9.out⟩
   ·have tc : decide (0 < cur.length) = true := by
     have := List.length_pos_iff.2 hc0
     simp; omega
    have HNE := Lib.hid hc0
    have HLL := Lib.hid HS.out.l
    have hcl : cur.length ≤ 262144 := by have := HS.out.l; omega
    clear hc0
    go_upto_region 7 with fail
    have hU2 : RnB (wo.alloc (.cells zero30 49)) wo.heap.size (Rn.zero []) := Go.heap_alloc_new _ _
    have hE2 := Ext.alloc wo (.cells zero30 49)
    obtain ⟨w2, hw2⟩ : ∃ q, wo.alloc (.cells zero30 49) = q := ⟨_, rfl⟩
    obtain ⟨bu, hbu⟩ : ∃ q, wo.heap.size = q := ⟨_, rfl⟩
    rw [hw2, hbu] at hU2
    rw [hw2] at hE2
    have HBU := Lib.hid hbu
    have hrbu : rb < bu := by rw [← hbu]; exact HS.out.r.lt
    have HE2 := Lib.hid hE2
    have HU2 := Lib.hid hU2
    unfold zero30 at hw2
    rw [hw2, hbu]
    have TX := Lib.hid (Wr.text_any rb (some cur) w2 (HS.out.r.ext hE2) hrb4 (HTR.out.ext hE2) (by simp only [Option.getD_some]; omega))
    obtain ⟨o1, ho1⟩ : ∃ o, rdText cur = o := ⟨_, rfl⟩
    rw [show (some cur).bind rdText = rdText cur from rfl, ho1] at TX
    unfold Wr.TextEnd at TX
    obtain ⟨nm, hnm⟩ : ∃ q, (o1.map (·.1)).getD [] = q := ⟨_, rfl⟩
    rw [hnm] at TX
    have hl1 : ((o1.map (·.2)).getD []).length ≤ cur.length := by
     rw [← ho1]
     cases ht : rdText cur with
     | none => simp
     | some q => exact (rdText_len (show rdText cur = some (q.1, q.2) from ht)).2
    have HO1 := Lib.hid ho1
    have HNM := Lib.hid hnm
    clear hw2 hbu hU2 hE2 ho1 hnm
    go_wp2_with fail
    refine TX.out.mono ?_
    rintro e w3 ⟨⟨rfl, hR3⟩, hg3⟩
    have HR3 := Lib.hid hR3
    have HG3 := Lib.hid hg3
    have HU3 := Lib.hid (HU2.out.own hg3 (by simp; omega))
    have IN := Lib.hid (Wr.int_any rb _ w3 hR3 hrb4 ((HTR.out.ext HE2.out).grown hg3 hrb4) (by omega))
    obtain ⟨o2, ho2⟩ : ∃ o, (o1.map (·.2)).bind rdInt = o := ⟨_, rfl⟩
    rw [ho2] at IN
    unfold Wr.IntEnd at IN
    obtain ⟨pr, hpr⟩ : ∃ q, (o2.map (·.1)).getD 0 = q := ⟨_, rfl⟩
    obtain ⟨m2, hm2⟩ : ∃ q, o2.map (·.2) = q := ⟨_, rfl⟩
    rw [hpr, hm2] at IN
    have hl2 : (m2.getD []).length ≤ cur.length := by
     rw [← hm2, ← ho2]
     cases hx : o1.map (·.2) with
     | none => simp
     | some l =>
      rw [hx] at hl1
      cases ht : rdInt l with
      | none => simp [ht]
      | some q =>
       have h1 : l.length ≤ cur.length := hl1
       have h2 := rdInt_less (show rdInt l = some (q.1, q.2) from ht)
       have e : ((some l).bind rdInt).map (·.2) = some q.2 := by simp [ht]
       rw [e]
       show q.2.length ≤ cur.length
       omega
    have HRE : Hid (rdR cur = rest4 nm pr m2) := Lib.hid (by rw [rdR_rest HO1.out ho2, HNM.out, hpr, hm2])
    clear hR3 hg3 TX ho2 hpr hm2 HNM HO1 hl1
    go_wp2_with fail
    refine IN.out.mono ?_
    rintro e w4 ⟨⟨rfl, hR4⟩, hg4⟩
    have HU4 := Lib.hid (HU3.out.own hg4 (by simp; omega))
    have HR4 := Lib.hid hR4
    have HG4 := Lib.hid (grown_trans HG3.out hg4)
    have hc0 : w4.cell? ⟨bu, 0, none⟩ = some (.string ⟨#[]⟩) := HU4.out.range 0 _ rfl
    have hc1 : w4.cell? ⟨bu, 1, none⟩ = some (.int .i64 0) := HU4.out.range 1 _ rfl
    have hf0 := HU4.out.free 0
    have hf1 := HU4.out.free 1
    clear hR4 hg4 IN HU3 HR3 HU2 HG3
    go_upto_region 8 with fail
    have hsp := rn_setN nm pr HU4.out
    obtain ⟨w5, hw5⟩ : ∃ q, (w4.setCell ⟨bu, 0, none⟩ (.string ⟨nm.toArray⟩)).setCell ⟨bu, 1, none⟩ (.int .i64 pr) = q := ⟨_, rfl⟩
    rw [hw5] at hsp
    rw [hw5]
    have HU5 := Lib.hid hsp.1
    have HG5 := Lib.hid hsp.2
    clear hw5 hsp hc0 hc1 hf0 hf1
    go_wp2_with fail
    have hP0 : PgSt wo (w5.alloc (.cells (ptrs bu) 112)) rb bu w5.heap.size cur nm pr m2 0 m2 ⟨⟨nm, pr, zeroE, zeroE, zeroE, zeroE⟩, none, none, none, none, 0, 0, 0, 0⟩ 0 := by
     have hE6 := Ext.alloc w5 (.cells (ptrs bu) 112)
     exact ⟨HS.out.r.lt, Nat.le_of_eq HBU.out, HU5.out.lt, by omega, (HR4.out.own HG5.out (by simp; omega)).ext hE6, grown_trans (grown_new (grown_trans (grown_of HE2.out _) HG4.out) (Nat.le_of_eq HBU.out) HG5.out) (grown_of hE6 _), HU5.out.ext hE6, Go.heap_alloc_new _ _, ⟨ExL.nil _ _ _ _, ExL.nil _ _ _ _, ExL.nil _ _ _ _, ExL.nil _ _ _ _⟩, rfl, ⟨rfl, rfl⟩, hl2⟩
    obtain ⟨w6, hw6⟩ : ∃ q, w5.alloc (.cells (ptrs bu) 112) = q := ⟨_, rfl⟩
    obtain ⟨bp, hbp⟩ : ∃ q, w5.heap.size = q := ⟨_, rfl⟩
    rw [hw6, hbp] at hP0
    have HP0 := Lib.hid hP0
    unfold ptrs at hw6
    rw [hw6, hbp]
    clear hP0 hw6 hbp HG5 HU5 HU4 HR4 HG4 HE2 hl2
    go_loopg [31] 4 (fun g iv wk => ∃ (k : Nat) (m : Option (List UInt8)) (u : Rn) (D : Nat), g = 4 - k ∧ iv = .int .i64 (k : Nat) ∧ Hid (PgSt wo wk rb bu bp cur nm pr m2 k m u D))
    case atStart => exact ⟨0, m2, _, 0, rfl, rfl, HP0⟩
    case round =>
     obtain ⟨k, m, u, D, rfl, hiv, HI⟩ := hrel
     subst hiv
     by_cases hk4 : k < 4
     ·have tk : decide ((k : Int) < 4) = true := by simp; omega
      have tk2 : decide (k < 4) = true := by simpa using hk4
      have hpt := ptrs_at HI.out.p hk4
      have hk0 : (0 : Int) ≤ k := by omega
      have HPN : Hid (∀ W, w1.grownBy W (some rb) → m.bind rdE = none → ParseQL s w (.returned (.tuple #[.slice none 0 0, .int .i64 ((us.length : Int) + 1), .int .i64 4])) W) := Lib.hid (fun W hg hn => HS.out.bad HP.out HNE.out (HRE.out.trans (HI.out.c.stop hk4 hn nm pr)) (ext_of_grown HE1.out hg (Nat.le_of_eq HRB.out)))
      have HWR : Hid (wrap64 ((us.length : Int) + 1) = (us.length : Int) + 1) := Lib.hid (by have := HS.out.l; exact IntWalk.wrap64_in _ ⟨by omega, by omega⟩)
      obtain ⟨pre, old, post, hcs, hpl, ho7, hset⟩ := cells_k u hk4
      have SR := Lib.hid (sread_any rb bu (2 + 7 * k) m wr HI.out.r hrb4 (HTR.out.grown HI.out.g hrb4) (by have := HI.out.l; omega) pre old post 49 (by rw [← hcs]; exact HI.out.ub) hpl ho7 (by have := HI.out.lr; have := HI.out.lu; omega))
      unfold nxt at SR
      have HSET := Lib.hid hset
      clear hcs hpl ho7 hset
      go_wp2_with fail
      refine SR.out.mono ?_
      rintro e w7 ⟨bo, wm, rfl, hP⟩
      have HPR := Lib.hid hP
      have HG7 : Hid (w1.grownBy w7 (some rb)) := Lib.hid (grown_trans HS.out.g (grown_new (grown_trans HI.out.g hP.g1) HI.out.lu hP.g2))
      clear hP SR
      cases bo with
      | false =>
       go_wp2_with fail
       rw [HWR.out]
       exact ret3 rfl rfl rfl rfl (HPN.out _ HG7.out (HPR.out.no rfl))
      | true =>
       have BD := Lib.hid (Wr.bad_any rb _ w7 (HPR.out.r.own HPR.out.g2 (by have := HI.out.lr; have := HI.out.lu; simp; omega)))
       cases hm : m.bind rdText with
       | none =>
        rw [hm] at BD
        have HM := Lib.hid hm
        clear hm
        go_wp2_with fail
        refine BD.out.mono ?_
        rintro e w8 ⟨rfl, hw8⟩
        obtain rfl := hw8.symm
        go_wp2_with fail
        rw [HWR.out]
        exact ret3 rfl rfl rfl rfl (HPN.out _ HG7.out (rdE_none HM.out))
       | some q =>
        rw [hm] at BD
        have HM := Lib.hid hm
        clear hm
        go_wp2_with fail
        refine BD.out.mono ?_
        rintro e w8 ⟨rfl, hw8⟩
        obtain rfl := hw8.symm
        obtain ⟨x, A, c, d', r, hx, hB, hX⟩ := HPR.out.yes rfl (by rw [HM.out]; simp)
        have hr' : Wr.Rd wm rb (some r) := by
         have h1 := HPR.out.r
         rw [HM.out] at h1
         rw [rdE_some HM.out] at hx
         split at hx
         ·simp only [Option.some.injEq, Prod.mk.injEq] at hx
          obtain ⟨_, rfl⟩ := hx
          exact h1
         ·cases hx
        have HNX := Lib.hid (HI.out.next (c := c) hk4 hr' HPR.out.g1 HPR.out.g2 hx (by rw [← HSET.out]; exact hB) hX)
        clear hx hB hX hr' BD
        go_wp2_with fail
        go_roundg (4 - (k + 1))
        case measure => omega
        case rel => exact ⟨k + 1, some r, u.setk k x A c, D + d', rfl, by go_num, HNX⟩
     ·have tk : decide ((k : Int) < 4) = false := by simp; omega
      have tk2 : decide (k < 4) = false := by simpa using hk4
      have hke : k = 4 := by have := HI.out.hk; omega
      subst hke
      obtain ⟨r, rfl, hrest⟩ := HI.out.c.all
      have HRD2 : Hid (rdR cur = some (u.r, r)) := Lib.hid (by
       rw [HRE.out, ← HI.out.n.1, ← HI.out.n.2]; exact hrest)
      have hrx := HI.out.ub.range
      unfold Rn.cells at hrx
      have HOWN : Hid (OwnR (wr.alloc (.cells u.cells.toArray 49)) w1.heap.size (.slice A0 us.length c0) us) := Lib.hid ((HS.out.o.keep HI.out.g (by by_cases e : (Value.slice A0 us.length c0).ownBlock = none; exact .inl e; exact .inr (fun h => by have := (HS.out.o.lt rb h).1; omega))).ext (Ext.alloc _ _))
      have HCG : Hid (∀ (j : Nat) (t : Rn), [u][j]? = some t → (wr.alloc (.cells u.cells.toArray 49)).rangeAt wr.heap.size (0 + j * 30) t.cells) := Lib.hid (fun j t ht => by
       match j, ht with
       | 0, ht => simp only [List.getElem?_cons_zero, Option.some.injEq] at ht; subst ht; exact range_new wr u.cells _
       | j + 1, ht => simp at ht)
      have hu2 : us.length + [u].length < 4294967296 := by have := HS.out.l; simp; omega
      have hb2 : w1.heap.size ≤ (wr.alloc (.cells u.cells.toArray 49)).heap.size := Nat.le_trans HS.out.g.size (Nat.le_trans HI.out.g.size (by simp))
      clear hrest
      go_wp2_with (first | (refine load_R rfl _ rfl bu 0 _ hrx rfl rfl ?_) | (at_builtin; refine app_R rfl 48 50 rfl w1.heap.size (.slice A0 us.length c0) us rfl HOWN.out wr.heap.size 0 1 [u] rfl HCG.out hu2 hb2 ?_; intro v' wz ho hgz hnz))
      have HE5 : Ext wr (wr.alloc (.cells u.cells.toArray 49)) := Ext.alloc _ _
      have HKF := (HI.out.kk.keep (w' := wr.alloc (.cells u.cells.toArray 49)) (fun b hb o => HE5.old (p := ⟨b, o, none⟩) hb.2)).more (S' := fun k => bu + 1 ≤ k ∧ k < (wr.alloc (.cells u.cells.toArray 49)).heap.size) (fun b hb => ⟨hb.1, Nat.lt_of_lt_of_le hb.2 HE5.sz⟩)
      have HNX := Lib.hid (HS.out.next (D := d + D) hlt1 (grown_trans HI.out.g (grown_of HE5 _)) (HI.out.r.ext HE5) (Nat.le_add_right _ _) (HKF.deep (Nat.le_add_left _ _)) HI.out.lu HRD2.out hsl ho hgz hnz)
      clear HE5 HKF ho hgz hnz hrx HOWN HCG hu2 hb2
      go_roundg r.length
      case measure => have := rdR_less HRD2.out; omega
      case rel => exact ⟨r, us ++ [u], _, rfl, HNX⟩
end Go.Proofs.YtmiencglfhpmeaaGreatDoor

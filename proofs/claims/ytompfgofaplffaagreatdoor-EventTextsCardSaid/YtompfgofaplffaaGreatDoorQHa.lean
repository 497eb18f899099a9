/- EventTexts: the walk. -/
import Derived.ArgAppend
import Derived.Deep.Cut
import Derived.Test.YtompfgofaplffaaGreatDoorQGw
import Derived.Test.YtompfgofaplffaaGreatDoorRows
import Derived.Test.YtompfgofaplffaaGreatDoorQGj
import Derived.ProofKit
import Derived.ShutString
import Derived.OpenShut
import Derived.Carry
import Derived.Lib.SmallJoins
import Derived.SliceStrings
import Derived.LaidMore
import Derived.Stop.LaidErr
import Derived.Lib.LaidTab
import Derived.HandedShaped
import Derived.MakeChecks
import Derived.ChangeSlices
import Derived.Deep.Slices
set_option linter.unusedSimpArgs false
set_option linter.unusedVariables false
namespace Go.Proofs.YtompfgofaplffaaGreatDoor
open Go.RowKit Hach Num

def strG (ss : List ByteArray) (j : Nat) : ByteArray := ss.getD j ByteArray.empty
theorem resV_eq (o : Option Ev) : ∃ (z : Ev) (b : Bool), resV o = .tuple #[.agg #[.int .i64 z.kind, .int .i64 z.at_, .int .i64 z.id, .int .i64 z.other, .int .i64 z.n], .bool b] := ⟨o.getD zeroEv, o.isSome, rfl⟩
theorem evPair_row {W : World} {g : Nat} {a b : Ev} (h : W.heap[g]? = some (.cells #[.int .i64 a.kind, .int .i64 a.at_, .int .i64 a.id, .int .i64 a.other, .int .i64 a.n, .int .i64 b.kind, .int .i64 b.at_, .int .i64 b.id, .int .i64 b.other, .int .i64 b.n] 23 (0, 0))) : EvRow W g [a, b] := fun j u hu => cells_of h j u (by
  have e : ([a, b].map Ev.cells).flatten = [.int .i64 a.kind, .int .i64 a.at_, .int .i64 a.id, .int .i64 a.other, .int .i64 a.n, .int .i64 b.kind, .int .i64 b.at_, .int .i64 b.id, .int .i64 b.other, .int .i64 b.n] := by simp [Ev.cells]
  rw [e] at hu
  simpa using hu)

set_option maxRecDepth 100000 in
set_option maxHeartbeats 8000000 in
theorem EventTexts_any (x0 x1 x2 x3 x4 : Int) (u v : Nat) (i s : ByteArray) (h0 : InI x0) (h1 : InI x1) (h2 : InI x2) (h3 : InI x3) (h4 : InI x4) (hu : u < 256) (hv : v < 256) (hi : i.size < 9223372036854775808) (hs : s.size < 9223372036854775808) (w : World) (ht : Tabs w) :
    Calls Tryz.prog 3 #[.agg #[.int .i64 x0, .int .i64 x1, .int .i64 x2, .int .i64 x3, .int .i64 x4], .agg #[.int .u8 (u : Nat), .int .u8 (v : Nat), .string i], .string s] w fun e w' => e = .returned (.bool true) ∧ Ext w w' := by
  have HS := Lib.hid (fun W (h : Ext w W) => sanity_any W (ht.ext h))
  have HMD := Lib.hid (fun W => mod4_any x0 W)
  have HTX := Lib.hid (fun e he W (h : Ext w W) => text_any e he W (ht.ext h))
  have HRT := Lib.hid (fun e he W => rtext_any e he W)
  have HAP := Lib.hid (fun (d : ByteArray) (hd : d.size < 4294967000) W => apply_any u v i d hu hv hi hd W)
  have HPA := Lib.hid (fun (d : ByteArray) (hd : d.size < 4294967281) W (h : Ext w W) => parse_any d W hd (ht.ext h))
  have HRP := Lib.hid (fun (d : ByteArray) (hd : d.size < 4294967281) W => rparse_any d W (Nat.lt_trans hd (by decide)))
  have hcut : s.extract 0 (min (s.size : Int) 60).toNat = cut60 s := by
    unfold cut60
    rw [show (min (s.size : Int) 60).toNat = min s.size 60 by omega]
  have HCS : Hid ((cut60 s).size ≤ 60) := Lib.hid (cut60_size s)
  generalize cut60 s = sc at hcut HCS
  have hq := modR_or x0
  have b1 : 0 ≤ modR x0 := by omega
  have b2 : modR x0 ≤ 3 := by omega
  clear hq
  generalize modR x0 = q at *
  have HIA : Hid (InEv ⟨x0, x1, x2, x3, x4⟩) := Lib.hid ⟨h0, h1, h2, h3, h4⟩
  have HIB : Hid (InEv ⟨1 + q, x1, x2, x3, x4⟩) := Lib.hid ⟨inI_small (v := 1 + q) (by omega) (by omega), h1, h2, h3, h4⟩
  clear ht h0 h1 h2 h3 h4 hu hv hi
  go_enter Tryz.func3, Tryz.ntmps3
  go_wp2_with fail
  refine (HS.out _ (Ext.trans (Ext.alloc _ _) (Ext.alloc _ _))).mono ?_
  rintro r w1 ⟨rfl, hE1⟩
  have hB1 : EvBlk w1 w.heap.size ⟨x0, x1, x2, x3, x4⟩ := blk_ext (blk_ext (Go.heap_alloc_new w _) (Ext.alloc _ _)) hE1
  have hC1 := blk_ext (Go.heap_alloc_new (w.alloc (.cells #[.int .i64 x0, .int .i64 x1, .int .i64 x2, .int .i64 x3, .int .i64 x4] 23)) (.cells #[.int .u8 (u : Nat), .int .u8 (v : Nat), .string i] 25)) hE1
  rw [World.size_alloc] at hC1
  have HC1 := Lib.hid hC1
  have hX1 := Ext.trans (Ext.trans (Ext.alloc _ _) (Ext.alloc _ _)) hE1
  have HX1 := Lib.hid hX1
  obtain ⟨c0, c1, c2, c3, c4⟩ := hB1.get
  have l0 : w.heap.size < w1.heap.size := (Array.getElem?_eq_some_iff.1 hB1).1
  have HB1 := Lib.hid hB1
  clear hE1 hX1 hB1 hC1 HS
  go_wp2_with fail
  refine (HMD.out _).mono ?_
  rintro r w2 ⟨rfl, rfl⟩
  clear HMD
  go_wp2_with fail
  have hP := Go.heap_alloc_new (w1.alloc (.cells #[.int .i64 (1 + q), .int .i64 x1, .int .i64 x2, .int .i64 x3, .int .i64 x4] 23)) (.cells #[.int .i64 x0, .int .i64 x1, .int .i64 x2, .int .i64 x3, .int .i64 x4, .int .i64 (1 + q), .int .i64 x1, .int .i64 x2, .int .i64 x3, .int .i64 x4] 23)
  rw [World.size_alloc] at hP
  have hXV : Ext w1 ((w1.alloc (.cells #[.int .i64 (1 + q), .int .i64 x1, .int .i64 x2, .int .i64 x3, .int .i64 x4] 23)).alloc (.cells #[.int .i64 x0, .int .i64 x1, .int .i64 x2, .int .i64 x3, .int .i64 x4, .int .i64 (1 + q), .int .i64 x1, .int .i64 x2, .int .i64 x3, .int .i64 x4] 23)) := Ext.trans (Ext.alloc _ _) (Ext.alloc _ _)
  obtain ⟨V, hV⟩ : ∃ V, (w1.alloc (.cells #[.int .i64 (1 + q), .int .i64 x1, .int .i64 x2, .int .i64 x3, .int .i64 x4] 23)).alloc (.cells #[.int .i64 x0, .int .i64 x1, .int .i64 x2, .int .i64 x3, .int .i64 x4, .int .i64 (1 + q), .int .i64 x1, .int .i64 x2, .int .i64 x3, .int .i64 x4] 23) = V := ⟨_, rfl⟩
  rw [hV] at hP hXV
  rw [hV]
  have hR : EvRow V (w1.heap.size + 1) [⟨x0, x1, x2, x3, x4⟩, ⟨1 + q, x1, x2, x3, x4⟩] := evPair_row hP
  have HXV := Lib.hid (Ext.trans HX1.out hXV)
  have HCV := Lib.hid (blk_ext HC1.out hXV)
  have HEG : Hid (∀ k, k < 2 → InEv (evG [⟨x0, x1, x2, x3, x4⟩, ⟨1 + q, x1, x2, x3, x4⟩] k)) := Lib.hid (fun k hk => by
    obtain rfl | rfl : k = 0 ∨ k = 1 := by omega
    · exact HIA.out
    · exact HIB.out)
  have hl2 : ([⟨x0, x1, x2, x3, x4⟩, ⟨1 + q, x1, x2, x3, x4⟩] : List Ev).length = 2 := rfl
  generalize ([⟨x0, x1, x2, x3, x4⟩, ⟨1 + q, x1, x2, x3, x4⟩] : List Ev) = us at *
  have HQ := Lib.hid (fun j (hj : j < 2) W (h : Ext V W) => And.intro ((hR.keep h).cell (j := j) (i := 0) (by omega) rfl) (And.intro ((hR.keep h).cell (j := j) (i := 1) (by omega) rfl) (And.intro ((hR.keep h).cell (j := j) (i := 2) (by omega) rfl) (And.intro ((hR.keep h).cell (j := j) (i := 3) (by omega) rfl) ((hR.keep h).cell (j := j) (i := 4) (by omega) rfl)))))
  have HCC := Lib.hid (fun W (h : Ext V W) => And.intro (cells_of (blk_ext HCV.out h) 0 _ rfl) (And.intro (cells_of (blk_ext HCV.out h) 1 _ rfl) (cells_of (blk_ext HCV.out h) 2 _ rfl)))
  clear hV hP hXV hR hl2 c0 c1 c2 c3 c4 l0 HB1 HC1 HX1 HIA HIB HCV
  generalize w1.heap.size + 1 = g at *
  clear b1 b2
  -- OUTER
  go_loopw [34] (fun s34 wr => ∃ k : Nat, k ≤ 2 ∧ s34 = .int .i64 k ∧ Hid (Ext V wr)) (fun s34 _ => 2 - (intOf s34).toNat)
  case atStart => exact ⟨0, Nat.zero_le _, rfl, Lib.hid (Ext.refl _)⟩
  case round =>
    obtain ⟨k, hk, rfl, hE⟩ := hrel
    by_cases hlt : k < 2
    · have t : decide ((k : Int) < 2) = true := by simp; omega
      have HIK := Lib.hid (HEG.out k hlt)
      have HCK := Lib.hid (HQ.out k hlt wr hE.out)
      generalize evG us k = y at *
      obtain ⟨c0, c1, c2, c3, c4⟩ := HCK.out
      simp only [Nat.add_zero] at c0
      clear HCK
      have HTL : Hid ((⟨(textE y).toArray⟩ : ByteArray).size ≤ 110) := Lib.hid (by have := textE_len HIK.out; show (textE y).toArray.size ≤ _; simpa using this)
      have HT1 := Lib.hid (HTX.out y HIK.out)
      have HT2 := Lib.hid (HRT.out y HIK.out)
      generalize (⟨(textE y).toArray⟩ : ByteArray) = tx at *
      go_wp2_with fail
      refine (HT1.out _ (Ext.trans HXV.out (Ext.trans hE.out (Ext.alloc _ _)))).mono ?_
      rintro r w3 ⟨rfl, hE3⟩
      have hBy := (show EvBlk w3 wr.heap.size y from blk_ext (Go.heap_alloc_new wr _) hE3).get
      have hX3 := Ext.trans hE.out (Ext.trans (Ext.alloc _ _) hE3)
      have HX3 := Lib.hid hX3
      clear hE3 hX3 c0 c1 c2 c3 c4
      obtain ⟨c0, c1, c2, c3, c4⟩ := hBy
      go_wp2_with fail
      refine (HT2.out w3).mono ?_
      rintro r w4 ⟨rfl, hE4⟩
      have HX4 := Lib.hid (Ext.trans HX3.out hE4)
      clear hE4 c0 c1 c2 c3 c4
      obtain ⟨c0, c1, c2⟩ := HCC.out w4 HX4.out
      go_wp2_with fail
      refine (HAP.out tx (by have := HTL.out; omega) w4).mono ?_
      rintro r w5 ⟨⟨d, rfl, hd⟩, hE5⟩
      have HX5 := Lib.hid (Ext.trans HX4.out hE5)
      have HSS : Hid (∀ j, j < 3 → (strG [tx, d, sc] j).size < 4294967281) := Lib.hid (fun j hj => by
        have h1 := HTL.out
        have h2 := HCS.out
        obtain rfl | rfl | rfl : j = 0 ∨ j = 1 ∨ j = 2 := by omega
        · show tx.size < _; omega
        · show d.size < _; omega
        · show sc.size < _; omega)
      clear hE5 c0 c1 c2 hd
      go_wp2_with fail
      have hS6 := Go.heap_alloc_new w5 (.cells #[.string tx, .string d, .string sc] 9)
      have hX6 := Ext.trans HX5.out (Ext.alloc w5 (.cells #[.string tx, .string d, .string sc] 9))
      have hcs : ∀ j, j < 3 → (#[.string tx, .string d, .string sc] : Array Value)[j]? = some (.string (strG [tx, d, sc] j)) := fun j hj => by
        obtain rfl | rfl | rfl : j = 0 ∨ j = 1 ∨ j = 2 := by omega
        all_goals rfl
      obtain ⟨U, hU⟩ : ∃ U, w5.alloc (.cells #[.string tx, .string d, .string sc] 9) = U := ⟨_, rfl⟩
      rw [hU] at hS6 hX6
      rw [hU]
      have HSC := Lib.hid (fun j (hj : j < 3) W (h : Ext U W) => cells_of (blk_ext hS6 h) j _ (hcs j hj))
      have HX6 := Lib.hid hX6
      clear hU hS6 hX6 hcs
      generalize ([tx, d, sc] : List ByteArray) = ss at *
      generalize w5.heap.size = gs at *
      -- INNER
      go_loopw [51] (fun s51 wq => ∃ j : Nat, j ≤ 3 ∧ s51 = .int .i64 j ∧ Hid (Ext U wq)) (fun s51 _ => 3 - (intOf s51).toNat)
      case atStart => exact ⟨0, Nat.zero_le _, rfl, Lib.hid (Ext.refl _)⟩
      case round =>
        obtain ⟨j, hj, rfl, hF⟩ := hrel
        by_cases hlj : j < 3
        · have tj : decide ((j : Int) < 3) = true := by simp; omega
          have cj := HSC.out j hlj wr hF.out
          have HZJ := Lib.hid (HSS.out j hlj)
          generalize strG ss j = sj at *
          go_wp2_with fail
          refine (HPA.out sj HZJ.out _ (Ext.trans HXV.out (Ext.trans HX6.out hF.out))).mono ?_
          rintro r w7 ⟨⟨o, ho, rfl⟩, hE7⟩
          have HO := Lib.hid (fun o' (h : Reads sj.data.toList o') => reads_one h ho)
          have HX7 := Lib.hid (Ext.trans hF.out hE7)
          clear hE7 ho cj
          obtain ⟨z, b, hz⟩ := resV_eq o
          have HZV := Lib.hid hz
          rw [hz]
          clear hz
          go_wp2_with fail
          have hB7 : EvBlk (w7.alloc (.cells #[.int .i64 z.kind, .int .i64 z.at_, .int .i64 z.id, .int .i64 z.other, .int .i64 z.n] 23)) w7.heap.size z := Go.heap_alloc_new w7 _
          have HB7 := Lib.hid hB7
          clear hB7
          refine (HRP.out sj HZJ.out _).mono ?_
          rintro r w8 ⟨⟨o', ho', rfl⟩, hE8⟩
          obtain rfl := HO.out o' ho'
          have hl7 : w7.heap.size < w8.heap.size := (Array.getElem?_eq_some_iff.1 (HB7.out.ext hE8)).1
          obtain ⟨c0, c1, c2, c3, c4⟩ := (HB7.out.ext hE8).get
          have HX8 := Lib.hid (Ext.trans HX7.out (Ext.trans (Ext.alloc _ _) hE8))
          rw [HZV.out]
          clear ho' hE8 HO HB7
          go_wp2_with fail
          go_roundw
          case rel => exact ⟨j + 1, by omega, by go_num, Lib.hid (Ext.trans HX8.out (Ext.alloc _ _))⟩
          case measure => simp [intOf]; omega
        · have tj : decide ((j : Int) < 3) = false := by simp; omega
          have HXE := Lib.hid (Ext.trans HX6.out hF.out)
          go_wp2_with fail
          go_roundw
          case rel => exact ⟨k + 1, by omega, by go_num, HXE⟩
          case measure => simp [intOf]; omega
    · have t : decide ((k : Int) < 2) = false := by simp; omega
      go_wp2_with fail
      go_ret
      exact ⟨rfl, Ext.trans HXV.out hE.out⟩
end Go.Proofs.YtompfgofaplffaaGreatDoor

namespace Go.Proofs.YtompfgofaplffaaGreatDoor
open Go.RowKit Hach Num
open Go.ChangeShapes Go.WideShapes Go.ChangeAt

theorem laid : laidOutB Tryz.prog = true := by kernel_rfl
theorem trodAll_back {P : Program} (hl : laidOutB P = true) {H : Type} {enc : TypeId × Value → H} {W W' : World} (hb : Below W.heap.size W W') : ∀ (ts : List TypeId) (vs : List Value) (ds : List (DataW H)) (ps : List MemPlace), (∀ t ∈ ts, P.readableRec t = true ∧ t < P.types.size) →
    DataW.TrodAll enc P W 0 (fun _ => true) true ts vs ds ps → (∀ x ∈ ps, x.block < W.heap.size) → DataW.TrodAll enc P W' 0 (fun b => decide (b < W.heap.size)) true ts vs ds ps
  | [], vs, ds, ps, _, h, _ => by
    obtain ⟨rfl, rfl, rfl⟩ := trodAll_nil h
    exact trodAll_mk0
  | t :: ts, vs, ds, ps, ht, h, hlt => by
    obtain ⟨v, vs', d, ds', p, q, rfl, rfl, rfl, h0, r0⟩ := trodAll_cons h
    have h1 := ht t (List.mem_cons_self ..)
    exact trodAll_cons_mk (Below.trod hl h1.1 h1.2 h0 hb (fun x hx => hlt x (List.mem_append_left _ hx)))
      (trodAll_back hl hb ts vs' ds' q (fun u hu => ht u (List.mem_cons_of_mem _ hu)) r0 (fun x hx => hlt x (List.mem_append_right _ hx)))
theorem args_back {P : Program} (hl : laidOutB P = true) {H : Type} {enc : TypeId × Value → H} {W W' : World} (hb : Below W.heap.size W W') (ts : List TypeId) (vs : List Value) (ds : List (DataW H)) (ps : List MemPlace) (ht : (ts.all fun t => P.readableRec t && decide (t < P.types.size)) = true)
    (hA : DataW.TrodAll enc P W 0 (fun _ => true) true ts vs ds ps) (hlt : ∀ x ∈ ps, x.block < W.heap.size) : DataW.TrodAll enc P W' 0 (fun b => decide (b < W.heap.size)) true ts vs ds ps :=
  trodAll_back hl hb ts vs ds ps (fun t h => by
    have := List.all_eq_true.1 ht t h
    rw [Bool.and_eq_true] at this
    exact ⟨this.1, of_decide_eq_true this.2⟩) hA hlt
def Laids : List (String × DataW Unit) := Rows.eventTextsRow.laid
theorem own : ownKnob Tryz.prog.godebug = none := by kernel_rfl

theorem star : "*" ++ "errors.errorString" = "*errors.errorString" := by decide
theorem rowE (u : TypeId) (h : Tryz.prog.typeName? 3 u = some "*errors.errorString") : u = 260 :=
  typeName_ptr_named (nm := "errors.errorString") (by rw [star]; kernel_rfl) (by kernel_rfl) (by decide) u (by rw [star]; exact h)
theorem tabs_of {W : World} (hL : laidMetH Tryz.prog Laids W) (hS : W.ShapedOpen Tryz.prog) : Tabs W := by
  rw [MakeChecks.laidMetH_plain _ _ _ (by kernel_rfl)] at hL
  obtain ⟨m, hm⟩ := cell_of_shapedOpen_int (P := Tryz.prog) (w := W) (g := 4) (zero := #[.int .i64 0]) (t := 3) hS (of_decide_eq_true (by kernel_rfl)) (by kernel_rfl) rfl (by kernel_rfl) (by kernel_rfl) Tryz.underlying3
  have h0 : Lib.TabIs Tryz.prog W "internal/strconv.uint64pow10" .u64 Lib.pow10Tab :=
    Lib.tabIs_of_head (g := 3) (t := 256) (e := 211) (n := 20) (by kernel_rfl) (by kernel_rfl) Tryz.underlying256 Tryz.underlying211 (by kernel_rfl) (by kernel_rfl) (show laidMet Tryz.prog (("internal/strconv.uint64pow10", Lib.tabData .u64 Lib.pow10Tab) :: _) W from hL.tail.tail)
  obtain ⟨a3, s3, hv3, _⟩ := laid_sentinel (g := 1) (ti := 66) hL.tail.tail.tail.tail (by kernel_rfl) (by kernel_rfl) Tryz.underlying66 rowE Tryz.underlying260 Tryz.underlying262 rfl rfl Tryz.underlying9 (by kernel_rfl) (by kernel_rfl)
  obtain ⟨a2, s2, hv2, _⟩ := laid_sentinel (g := 0) (ti := 66) hL.tail.tail.tail.tail.tail (by kernel_rfl) (by kernel_rfl) Tryz.underlying66 rowE Tryz.underlying260 Tryz.underlying262 rfl rfl Tryz.underlying9 (by kernel_rfl) (by kernel_rfl)
  have c3 : W.cell? ⟨1, 0, none⟩ = some (.iface 260 (.pointer (some a3))) := by
    simpa using World.var?_cell (P := Tryz.prog) (g := 1) (by kernel_rfl) hv3 0
  have c2 : W.cell? ⟨0, 0, none⟩ = some (.iface 260 (.pointer (some a2))) := by
    simpa using World.var?_cell (P := Tryz.prog) (g := 0) (by kernel_rfl) hv2 0
  have hz : 4 < W.heap.size := World.block_lt_of_cell? W _ hm
  exact ⟨h0, hz, ⟨m, hm⟩, ⟨_, c2, .inr ⟨_, _, rfl⟩⟩, ⟨_, c3, .inr ⟨_, _, rfl⟩⟩⟩

/- the wrap, the world's shape kept, a condition besides -/
theorem handed_shaped {H : Type} {enc : TypeId × Value → H} {a : Assume} {C : Checked} {os : Os} {f : FuncId} {fn : Func} {s : ChangeSpec} {conds : List PathCond} {apart fresh handsOn again : Bool} {X : World → Array Value → Prop}
    (hX : ∀ (w w' : World) (args : Array Value), w.heap = w'.heap → X w args → X w' args)
    (own : ownKnob C.prog.godebug = none) (started : os.Started) (noInit : C.prog.inits.idxOf? f = none) (hfn : C.prog.funcs[f]? = some fn)
    (witness : ∃ (w : World) (tape : Tape) (i : Input), w.os = os ∧ (w.forCall tape i).Shaped C.prog ∧ i.vars = [] ∧ Input.okWide C.prog (w.forCall tape i) .any w.heap.size f i ∧
      ((s.pre enc C.prog fn conds apart (w.forCall tape i).memory i.args ∧ X (w.forCall tape i).memory i.args) ∧ sizedMet enc C.prog fn (OpenSpec.ofChange s) apart (w.forCall tape i).memory i.args) ∧ a.holds C.prog (lone (Frame.enter C.prog f i.args .normal) [] (w.forCall tape i)))
    (contract : ∀ (W : World) (base : Nat) (args : Array Value) (ds gs : List (DataW H)) (before : List MemPlace),
      (∀ (j : Nat) t v, fn.params[j]? = some t → args[j]? = some v → Value.okWide C.prog W .any base t v) →
      DataW.Whole enc C.prog fn.params.toList s.vars apart W args.toList ds gs before →
      W.ShapedOpen C.prog → X W args →
      Calls C.prog f args W fun e W' => ∃ v, e = .returned v ∧ s.post enc C.prog fn apart fresh handsOn again W args v W') :
    ReturnsInHanded a C os f .any (fun w args => (s.pre enc C.prog fn conds apart w args ∧ X w args) ∧ sizedMet enc C.prog fn (OpenSpec.ofChange s) apart w args) (s.post enc C.prog fn apart fresh handsOn again) := by
  refine returnsInHanded_of_calls own started noInit witness ?_
  intro w tape i _ hsh _ hok hpre hholds
  obtain ⟨_, _, _, fn', hfn', _, _, _, _, hval⟩ := hok
  have e : fn' = fn := Option.some.inj (hfn'.symm.trans hfn)
  subst e
  obtain ⟨⟨⟨ds, gs, before, hw, hc⟩, hx⟩, hz⟩ := hpre
  have hw' := DataW.Whole.of_heap (w' := w.forCall tape i) (by rfl) hw
  refine (contract (w.forCall tape i) w.heap.size i.args ds gs before hval hw' hsh (hX _ _ _ (by rfl) hx)).mono fun e W' ⟨v, he, hp⟩ => ?_
  subst he
  exact ChangeSpec.post_blind hp

set_option maxRecDepth 100000
theorem inI_of {n : Int} (h : (Lit.int .i64 n).wf = true) : InI n := by
  have := bounds_i64 h
  unfold InI
  omega
theorem ev_of {H : Type} {enc : TypeId × Value → H} {W : World} {m : Nat} {c0 c1 c2 c3 c4 : Value} {z : DataW H × List MemPlace} (h : DataW.trod enc Tryz.prog W 0 (fun _ => true) true m 23 [c0, c1, c2, c3, c4] = some z) :
    ∃ x0 x1 x2 x3 x4 : Int, [c0, c1, c2, c3, c4] = [.int .i64 x0, .int .i64 x1, .int .i64 x2, .int .i64 x3, .int .i64 x4] ∧ InI x0 ∧ InI x1 ∧ InI x2 ∧ InI x3 ∧ InI x4 := by
  obtain ⟨fs, hfs, h0, h1, h2, h3, h4, hsz⟩ : ∃ fs : Array Field, Tryz.prog.underlying 23 = some (.struct fs) ∧ (∃ f, fs[0]? = some f ∧ f.offset = 0 ∧ f.type = 3) ∧ (∃ f, fs[1]? = some f ∧ f.offset = 1 ∧ f.type = 3) ∧ (∃ f, fs[2]? = some f ∧ f.offset = 2 ∧ f.type = 3) ∧ (∃ f, fs[3]? = some f ∧ f.offset = 3 ∧ f.type = 3) ∧ (∃ f, fs[4]? = some f ∧ f.offset = 4 ∧ f.type = 3) ∧ fs.size = 5 :=
    ⟨_, Tryz.underlying23, ⟨_, rfl, rfl, rfl⟩, ⟨_, rfl, rfl, rfl⟩, ⟨_, rfl, rfl, rfl⟩, ⟨_, rfl, rfl, rfl⟩, ⟨_, rfl, rfl, rfl⟩, rfl⟩
  obtain ⟨ys, n', hn', hy, hlen, hyl, hf⟩ := DataW.trod_struct hfs h
  have qint : Tryz.prog.cellsOf 3 = 1 := by kernel_rfl
  obtain ⟨f0, u0, o0, p0⟩ := h0
  have t0 := hf 0 f0 u0
  rw [o0, p0, qint] at t0
  obtain ⟨f1, u1, o1, p1⟩ := h1
  have t1 := hf 1 f1 u1
  rw [o1, p1, qint] at t1
  obtain ⟨f2, u2, o2, p2⟩ := h2
  have t2 := hf 2 f2 u2
  rw [o2, p2, qint] at t2
  obtain ⟨f3, u3, o3, p3⟩ := h3
  have t3 := hf 3 f3 u3
  rw [o3, p3, qint] at t3
  obtain ⟨f4, u4, o4, p4⟩ := h4
  have t4 := hf 4 f4 u4
  rw [o4, p4, qint] at t4
  rw [hsz] at hyl
  match ys, hyl with
  | [y0, y1, y2, y3, y4], _ =>
    obtain ⟨n0, e0, _, w0⟩ := DataW.trod_int Tryz.underlying3 (show DataW.trod enc Tryz.prog W 0 (fun _ => true) true n' 3 [c0] = some y0 from t0)
    obtain ⟨n1, e1, _, w1⟩ := DataW.trod_int Tryz.underlying3 (show DataW.trod enc Tryz.prog W 0 (fun _ => true) true n' 3 [c1] = some y1 from t1)
    obtain ⟨n2, e2, _, w2⟩ := DataW.trod_int Tryz.underlying3 (show DataW.trod enc Tryz.prog W 0 (fun _ => true) true n' 3 [c2] = some y2 from t2)
    obtain ⟨n3, e3, _, w3⟩ := DataW.trod_int Tryz.underlying3 (show DataW.trod enc Tryz.prog W 0 (fun _ => true) true n' 3 [c3] = some y3 from t3)
    obtain ⟨n4, e4, _, w4⟩ := DataW.trod_int Tryz.underlying3 (show DataW.trod enc Tryz.prog W 0 (fun _ => true) true n' 3 [c4] = some y4 from t4)
    simp only [List.cons.injEq, and_true] at e0 e1 e2 e3 e4
    subst e0 e1 e2 e3 e4
    exact ⟨n0, n1, n2, n3, n4, rfl, inI_of w0, inI_of w1, inI_of w2, inI_of w3, inI_of w4⟩
theorem ev_open {H : Type} {enc : TypeId × Value → H} {r : Reach} {b0 : Nat} {W : World} {v : Value} {d : DataW H} {ps : List MemPlace} (hv : Value.okWide Tryz.prog W r b0 23 v) (h : DataW.Trod enc Tryz.prog W 0 (fun _ => true) true 23 v d ps) :
    ∃ x0 x1 x2 x3 x4 : Int, v = .agg #[.int .i64 x0, .int .i64 x1, .int .i64 x2, .int .i64 x3, .int .i64 x4] ∧ InI x0 ∧ InI x1 ∧ InI x2 ∧ InI x3 ∧ InI x4 := by
  simp only [Value.okWide, Tryz.underlying23] at hv
  obtain ⟨cs, rfl, hsz, _⟩ := hv
  obtain ⟨l⟩ := cs
  match l, hsz.trans (show Tryz.prog.cellsOf 23 = 5 by kernel_rfl) with
  | [c0, c1, c2, c3, c4], _ =>
    obtain ⟨fuel, hf⟩ := h
    obtain ⟨x0, x1, x2, x3, x4, e, k0, k1, k2, k3, k4⟩ := ev_of (show DataW.trod enc Tryz.prog W 0 (fun _ => true) true fuel 23 [c0, c1, c2, c3, c4] = some _ from hf)
    simp only [List.cons.injEq, and_true] at e
    obtain ⟨rfl, rfl, rfl, rfl, rfl⟩ := e
    exact ⟨x0, x1, x2, x3, x4, rfl, k0, k1, k2, k3, k4⟩
theorem chg_of {H : Type} {enc : TypeId × Value → H} {W : World} {m : Nat} {c0 c1 c2 : Value} {z : DataW H × List MemPlace} (h : DataW.trod enc Tryz.prog W 0 (fun _ => true) true m 25 [c0, c1, c2] = some z) :
    ∃ (u v' : Nat) (i : ByteArray), [c0, c1, c2] = [.int .u8 (u : Nat), .int .u8 (v' : Nat), .string i] ∧ u < 256 ∧ v' < 256 ∧ i.size < 9223372036854775808 := by
  obtain ⟨fs, hfs, h0, h1, h2, hsz⟩ : ∃ fs : Array Field, Tryz.prog.underlying 25 = some (.struct fs) ∧ (∃ f, fs[0]? = some f ∧ f.offset = 0 ∧ f.type = 5) ∧ (∃ f, fs[1]? = some f ∧ f.offset = 1 ∧ f.type = 5) ∧ (∃ f, fs[2]? = some f ∧ f.offset = 2 ∧ f.type = 9) ∧ fs.size = 3 :=
    ⟨_, Tryz.underlying25, ⟨_, rfl, rfl, rfl⟩, ⟨_, rfl, rfl, rfl⟩, ⟨_, rfl, rfl, rfl⟩, rfl⟩
  obtain ⟨ys, n', hn', hy, hlen, hyl, hf⟩ := DataW.trod_struct hfs h
  have qstring : Tryz.prog.cellsOf 9 = 1 := by kernel_rfl
  have quint8 : Tryz.prog.cellsOf 5 = 1 := by kernel_rfl
  obtain ⟨f0, u0, o0, p0⟩ := h0
  have t0 := hf 0 f0 u0
  rw [o0, p0, quint8] at t0
  obtain ⟨f1, u1, o1, p1⟩ := h1
  have t1 := hf 1 f1 u1
  rw [o1, p1, quint8] at t1
  obtain ⟨f2, u2, o2, p2⟩ := h2
  have t2 := hf 2 f2 u2
  rw [o2, p2, qstring] at t2
  rw [hsz] at hyl
  match ys, hyl with
  | [y0, y1, y2], _ =>
    obtain ⟨n0, e0, _, w0⟩ := DataW.trod_int Tryz.underlying5 (show DataW.trod enc Tryz.prog W 0 (fun _ => true) true n' 5 [c0] = some y0 from t0)
    obtain ⟨n1, e1, _, w1⟩ := DataW.trod_int Tryz.underlying5 (show DataW.trod enc Tryz.prog W 0 (fun _ => true) true n' 5 [c1] = some y1 from t1)
    obtain ⟨b2, e2, _, w2⟩ := DataW.trod_string Tryz.underlying9 (show DataW.trod enc Tryz.prog W 0 (fun _ => true) true n' 9 [c2] = some y2 from t2)
    simp only [List.cons.injEq, and_true] at e0 e1 e2
    subst e0 e1 e2
    have hb0 := bounds_u8 w0
    have hb1 := bounds_u8 w1
    obtain ⟨q0, rfl⟩ : ∃ k : Nat, n0 = k := ⟨n0.toNat, by omega⟩
    obtain ⟨q1, rfl⟩ : ∃ k : Nat, n1 = k := ⟨n1.toNat, by omega⟩
    exact ⟨q0, q1, b2, rfl, by omega, by omega, by simp only [maxLen] at w2; omega⟩
theorem chg_open {H : Type} {enc : TypeId × Value → H} {r : Reach} {b0 : Nat} {W : World} {v : Value} {d : DataW H} {ps : List MemPlace} (hv : Value.okWide Tryz.prog W r b0 25 v) (h : DataW.Trod enc Tryz.prog W 0 (fun _ => true) true 25 v d ps) :
    ∃ (u v' : Nat) (i : ByteArray), v = .agg #[.int .u8 (u : Nat), .int .u8 (v' : Nat), .string i] ∧ u < 256 ∧ v' < 256 ∧ i.size < 9223372036854775808 := by
  simp only [Value.okWide, Tryz.underlying25] at hv
  obtain ⟨cs, rfl, hsz, _⟩ := hv
  obtain ⟨l⟩ := cs
  match l, hsz.trans (show Tryz.prog.cellsOf 25 = 3 by kernel_rfl) with
  | [c0, c1, c2], _ =>
    obtain ⟨fuel, hf⟩ := h
    obtain ⟨u, v', i, e, k0, k1, k2⟩ := chg_of (show DataW.trod enc Tryz.prog W 0 (fun _ => true) true fuel 25 [c0, c1, c2] = some _ from hf)
    simp only [List.cons.injEq, and_true] at e
    obtain ⟨rfl, rfl, rfl⟩ := e
    exact ⟨u, v', i, rfl, k0, k1, k2⟩
end Go.Proofs.YtompfgofaplffaaGreatDoor

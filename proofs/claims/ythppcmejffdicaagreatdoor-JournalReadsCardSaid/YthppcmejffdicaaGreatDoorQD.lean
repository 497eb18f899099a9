/- strings.NewReplacer; hide: the contract. -/
import Derived.Test.YthppcmejffdicaaGreatDoorQJzc
import Derived.Test.YthppcmejffdicaaGreatDoorQOwn
import Derived.Lib.SmallJoins

set_option linter.unusedSimpArgs false
set_option linter.unusedVariables false
namespace Go.Proofs.YthppcmejffdicaaGreatDoor
open Go.RowKit Hach Num Jn

/- append(nil, four strings) -/
theorem app_four {ops : Array Oper} {rest : List Oper} {o : Oper} {a : Act} {w : World} {Q : Exit → Act → World → Prop} (hgd : o.guard = none) (x : Tmp)
    (ho : o.op = .call { callee := .builtin .append, args := #[.const (.slice none 0 0), .tmp x], argTypes := #[36, 36] }) (g : Nat) (x0 x1 x2 x3 : ByteArray) (hF : Four w g x0 x1 x2 x3) (hx : a.eval (.tmp x) = .slice (some ⟨g, 0, none⟩) 4 4)
    (h : ∀ b c w', Ext w w' → w.heap.size ≤ b → Four w' b x0 x1 x2 x3 → wpList Tryz.prog ops Q rest (a.put o.dst (.slice (some ⟨b, 0, none⟩) 4 c)) w') : wpList Tryz.prog ops Q (o :: rest) a w := by
  obtain ⟨i0, hi, hz0, hz1, hz2⟩ := info_parts infoS
  refine wpList_append_own w hgd _ _ _ ho w.heap.size 9 i0 (.string ⟨#[]⟩) 1 16 Tryz.underlying36 hi hz0 hz1 hz2 rfl (by decide) (.slice none 0 0) 0 [] rfl (World.ownsRow_nil w _ _ 1) ⟨g, 0, none⟩ 4 4 [.string x0, .string x1, .string x2, .string x3] hx rfl ?_ ?_ ?_ ?_ (Nat.le_refl _) ?_
  · intro j u hu
    match j, hu with
    | 0, hu => simp at hu; subst hu; simpa [Addr.add] using hF.c0
    | 1, hu => simp at hu; subst hu; simpa [Addr.add] using hF.c1
    | 2, hu => simp at hu; subst hu; simpa [Addr.add] using hF.c2
    | 3, hu => simp at hu; subst hu; simpa [Addr.add] using hF.c3
    | j + 4, hu => simp at hu
  · intro u hu; simp at hu; rcases hu with rfl | rfl | rfl | rfl <;> rfl
  · simp only [maxLen]; omega
  · omega
  · intro v' w' h2 h3 _
    have hown := h2
    rcases h2.2 with ⟨_, hn⟩ | ⟨b, cap, cur, rfl, hb, hg, r⟩
    · simp at hn
    · have hc := fun j v hv => World.ownsRow.cells hown (g := b) rfl j v hv
      have hlt := (World.ownsRow.lt hown b rfl).2
      refine h b _ w' (Below.grown (Below.refl _ w) h3 (Nat.le_refl _) (by intro k hk; cases hk)) hb ⟨hlt, ?_, ?_, ?_, ?_⟩
      · simpa [Addr.add_lit] using hc 0 _ rfl
      · simpa [Addr.add_lit] using hc 1 _ rfl
      · simpa [Addr.add_lit] using hc 2 _ rfl
      · simpa [Addr.add_lit] using hc 3 _ rfl

theorem newrep_any (o : Nat) (x0 x1 x2 x3 : ByteArray) (w : World) (hF : Four w o x0 x1 x2 x3) :
    Calls Tryz.prog 64 #[.slice (some ⟨o, 0, none⟩) 4 4] w fun e w' => ∃ b o' c, e = .returned (.pointer (some ⟨b, 0, none⟩)) ∧ Ext w w' ∧ w.heap.size ≤ b ∧ o' < b ∧ Rpl w' b 0 .nilIface (.slice (some ⟨o', 0, none⟩) 4 c) ∧ Four w' o' x0 x1 x2 x3 := by
  go_enter Tryz.func64, Tryz.ntmps64
  go_wp2_with (at_builtin; refine app_four (o := ⟨some 9, _, _, _, _, _⟩) rfl 8 rfl o x0 x1 x2 x3 hF rfl ?_; intro b c w' hE hb hF')
  go_ret
  have hF2 := hF'.ext (Ext.alloc w' (.cells #[.int .u32 0, .int .i32 0, .int .u32 0, .nilIface, .slice (some ⟨b, 0, none⟩) 4 c] 116))
  exact ⟨w'.heap.size, b, c, rfl, hE.trans (Ext.alloc _ _), hE.sz, hF'.lt, ⟨_, _, Array.getElem?_push_size, rfl⟩, hF2⟩
end Go.Proofs.YthppcmejffdicaaGreatDoor

/- hide: strings.Replacer's Replace where the replacer is one of bytes: the contracts. -/
namespace Go.Proofs.YthppcmejffdicaaGreatDoor
open Go.RowKit Hach Num Jn

theorem cell_ne {w : World} {b : Nat} {m : Int} {r o : Value} (h : Rpl w b m r o) {a : Nat} {v : Value} (hc : w.cell? ⟨a, 0, none⟩ = some v) (hv : v ≠ .int .u32 0) : a ≠ b := by
  rintro rfl
  rw [h.cell.1] at hc
  exact hv (by simpa using hc.symm)
theorem set_cell {w : World} {b a : Nat} (hab : a ≠ b) (i j : Nat) (v : Value) : (w.setCell ⟨b, i, none⟩ v).cell? ⟨a, j, none⟩ = w.cell? ⟨a, j, none⟩ :=
  World.cell?_setCell_other _ _ _ _ (by intro e; have := congrArg Addr.block e; simp at this; omega)
theorem Bsr.ne {w : World} {g b : Nat} {m : Int} {r o : Value} (h : Bsr w g) (hb : Rpl w b m r o) : g ≠ b := by
  rintro rfl
  obtain ⟨hl, h0, -⟩ := h
  have h5 := h0 5 (by omega) (by omega) (by omega)
  obtain ⟨cs, t, hr, rfl⟩ := hb.row
  simp [World.cell?, hr] at h5
theorem Bsr.but {w w' : World} {g b : Nat} {m : Int} {r o : Value} (h : Bsr w g) (hb : Rpl w b m r o) (hs : w'.heap.size = w.heap.size) (hC : ∀ p : Addr, p.block ≠ b → w'.cell? p = w.cell? p) : Bsr w' g := by
  have hg := h.ne hb
  obtain ⟨hl, h0, ⟨a, ac, ha, a1, a2, a3⟩, ⟨c, bc, hc, b1, b2, b3⟩, ⟨t, tc, ht, t1, t2, t3⟩⟩ := h
  have na := cell_ne hb a2 (by simp)
  have nc := cell_ne hb b2 (by simp)
  have nt := cell_ne hb t2 (by simp)
  refine ⟨by rw [hs]; exact hl, fun k h1 h2 h3 => (hC ⟨g, k, none⟩ hg).trans (h0 k h1 h2 h3), ⟨a, ac, by rw [hs]; exact ha, (hC ⟨g, 10, none⟩ hg).trans a1, (hC ⟨a, 0, none⟩ na).trans a2, (hC ⟨a, 1, none⟩ na).trans a3⟩,
    ⟨c, bc, by rw [hs]; exact hc, (hC ⟨g, 92, none⟩ hg).trans b1, (hC ⟨c, 0, none⟩ nc).trans b2, (hC ⟨c, 1, none⟩ nc).trans b3⟩, ⟨t, tc, by rw [hs]; exact ht, (hC ⟨g, 256, none⟩ hg).trans t1, (hC ⟨t, 0, none⟩ nt).trans t2, (hC ⟨t, 1, none⟩ nt).trans t3⟩⟩
theorem set_but (w : World) (b i : Nat) (v : Value) (p : Addr) (hp : p.block ≠ b) : (w.setCell ⟨b, i, none⟩ v).cell? p = w.cell? p :=
  World.cell?_setCell_other _ _ _ _ (fun e => hp (by rw [← e]))
theorem Bsr.set {w : World} {g b : Nat} {m : Int} {r o : Value} (h : Bsr w g) (hb : Rpl w b m r o) (i : Nat) (v : Value) : Bsr (w.setCell ⟨b, i, none⟩ v) g :=
  h.but hb (setCell_size _ _ _) (set_but w b i v)
theorem Bsr.done {w : World} {g b : Nat} {m : Int} {r o : Value} (h : Bsr w g) (hb : Rpl w b m r o) : Bsr ((w.drew.setCell ⟨b, 0, none⟩ (.int .u32 1)).setCell ⟨b, 1, none⟩ (.int .i32 0)) g :=
  h.but hb done_size (fun _ hp => done_other hp)

theorem buildOnce_h (b o c : Nat) (w : World) (r : Value) (h : Rpl w b 1 r (.slice (some ⟨o, 0, none⟩) 4 c)) (hF : Four w o ⟨#[92]⟩ ⟨#[92, 92]⟩ ⟨#[10]⟩ ⟨#[92, 110]⟩) :
    Calls Tryz.prog 76 #[.pointer (some ⟨b, 0, none⟩)] w fun e w' => e = .returned (.tuple #[]) ∧ ∃ r', Rpl w' b 1 r' (.slice none 0 0) ∧ ∃ g, r' = .iface 149 (.pointer (some ⟨g, 0, none⟩)) ∧ Bsr w' g ∧ Below b w w' := by
  obtain ⟨c0, c1, c3, c4⟩ := h.cell
  go_enter Tryz.func76, Tryz.ntmps76
  go_wp2_with fail
  refine (build_hide b o c w c4 hF).mono ?_
  rintro e w1 ⟨g, rfl, hE, hg, hB⟩
  have h1 := h.ext hE
  have e3 := h1.cell.2.2.1
  have z3 := h1.fz 3
  have e4 := h1.cell.2.2.2
  have z4 := h1.fz 4
  go_wp2_with fail
  go_end0
  refine ⟨rfl, _, (h1.built _).gone _, g, rfl, (hB.set h1 3 _).set (h1.built _) 4 _, ?_⟩
  exact ((Below.mono hE (Nat.le_of_lt h.lt)).setCell (by exact Nat.le_refl b) _).setCell (by exact Nat.le_refl b) _

theorem bsr_any (g : Nat) (s : List UInt8) (w : World) (hB : Bsr w g) (hs : s.length < 1073741824) :
    Calls Tryz.prog 163 #[.pointer (some ⟨g, 0, none⟩), .string ⟨s.toArray⟩] w fun e w' => e = .returned (.string ⟨(esc s).toArray⟩) ∧ Ext w w' := by
  by_cases h : s.length < 16
  · exact bsr_short g s w hB h
  · exact bsr_long g s w hB hs (by omega)

theorem method_h (g : Nat) (w : World) : (method 315 149 (.pointer (some ⟨g, 0, none⟩)) "Replace").run Tryz.prog w = .ok (163, .pointer (some ⟨g, 0, none⟩)) w := by kernel_rfl

set_option maxRecDepth 100000 in
set_option maxHeartbeats 1000000 in
theorem replace_h (b o c : Nat) (s : List UInt8) (hs : s.length < 1073741824) (w : World) (h : Rpl w b 0 .nilIface (.slice (some ⟨o, 0, none⟩) 4 c)) (ho : o < b) (hF : Four w o ⟨#[92]⟩ ⟨#[92, 92]⟩ ⟨#[10]⟩ ⟨#[92, 110]⟩) :
    Calls Tryz.prog 65 #[.pointer (some ⟨b, 0, none⟩), .string ⟨s.toArray⟩] w fun e w' => e = .returned (.string ⟨(esc s).toArray⟩) ∧ Below b w w' := by
  have hmf : ∀ (fn : Fn) (first cap : Array Value) (w : World), (Instr.makeFunc fn first cap).run Tryz.prog w = .ok (.func fn first cap) w := fun _ _ _ _ => rfl
  have hF1 : Four (w.setCell ⟨b, 1, none⟩ (.int .i32 1)) o ⟨#[92]⟩ ⟨#[92, 92]⟩ ⟨#[10]⟩ ⟨#[92, 110]⟩ := by
    have hn : o ≠ b := by omega
    exact ⟨by rw [setCell_size]; exact hF.lt, (set_but w b 1 _ _ hn).trans hF.c0, (set_but w b 1 _ _ hn).trans hF.c1, (set_but w b 1 _ _ hn).trans hF.c2, (set_but w b 1 _ _ hn).trans hF.c3⟩
  have hm := fun (g : Nat) (w : World) => method_h g w
  have hbo := buildOnce_h b o c _ _ (h.lock 1) hF1
  go_enter Tryz.func65, Tryz.ntmps65
  go_wp2_with fail
  refine (do_of b w _ _ _ (fun r' w' => ∃ g, r' = .iface 149 (.pointer (some ⟨g, 0, none⟩)) ∧ Bsr w' g ∧ Below b (w.setCell ⟨b, 1, none⟩ (.int .i32 1)) w') h hbo).mono ?_
  rintro e w1 ⟨rfl, r', w2, hR, ⟨g, rfl, hB, hW⟩, rfl⟩
  have hB2 := hB.done hR
  have hc := done_cell hR
  have hW2 : Below b w ((w2.drew.setCell ⟨b, 0, none⟩ (.int .u32 1)).setCell ⟨b, 1, none⟩ (.int .i32 0)) := done_below (((Below.refl b w).setCell (by exact Nat.le_refl b) _).trans hW) (Nat.le_refl b)
  have hsz : b < ((w2.drew.setCell ⟨b, 0, none⟩ (.int .u32 1)).setCell ⟨b, 1, none⟩ (.int .i32 0)).heap.size := by rw [done_size]; exact hR.lt
  generalize (w2.drew.setCell ⟨b, 0, none⟩ (.int .u32 1)).setCell ⟨b, 1, none⟩ (.int .i32 0) = V at *
  go_wp2_with fail
  refine (bsr_any g s V hB2 hs).mono ?_
  rintro e w3 ⟨rfl, hE3⟩
  go_wp2_with fail
  go_ret
  exact ⟨rfl, hW2.trans (Below.mono hE3 (Nat.le_of_lt hsz))⟩

theorem four_new (w : World) (x0 x1 x2 x3 : ByteArray) : Four (w.alloc (.cells #[.string x0, .string x1, .string x2, .string x3] 9)) w.heap.size x0 x1 x2 x3 := by
  refine ⟨?_, ?_, ?_, ?_, ?_⟩
  · rw [show (World.alloc w _).heap.size = _ from Array.size_push _]; omega
  all_goals (rw [World.cell?_alloc_mark]; rfl)

set_option maxHeartbeats 1000000 in
theorem hide_any (s : List UInt8) (hs : s.length < 1073741824) (w : World) :
    Calls Tryz.prog 58 #[.string ⟨s.toArray⟩] w fun e w' => e = .returned (.string ⟨(esc s).toArray⟩) ∧ Ext w w' := by
  go_enter Tryz.func58, Tryz.ntmps58
  go_wp2_with fail
  have hF := four_new w ⟨#[92]⟩ ⟨#[92, 92]⟩ ⟨#[10]⟩ ⟨#[92, 110]⟩
  have hE0 := Ext.alloc w (.cells #[.string ⟨#[92]⟩, .string ⟨#[92, 92]⟩, .string ⟨#[10]⟩, .string ⟨#[92, 110]⟩] 9)
  refine (newrep_any w.heap.size _ _ _ _ _ hF).mono ?_
  rintro e w1 ⟨b, o, c, rfl, hE1, hb, ho, hR, hF1⟩
  have hwb : w.heap.size ≤ b := Nat.le_trans hE0.sz hb
  have hE := hE0.trans hE1
  go_wp2_with fail
  refine (replace_h b o c s hs w1 hR ho hF1).mono ?_
  rintro e w2 ⟨rfl, hB⟩
  go_wp2_with fail
  go_ret
  exact ⟨rfl, Below.trans hE (hB.mono hwb)⟩
end Go.Proofs.YthppcmejffdicaaGreatDoor

/- The contract of the program's line. -/
namespace Go.Proofs.YthppcmejffdicaaGreatDoor
open Go.RowKit Hach Num Jn

/- the package-level variables that the library reads: the powers of ten, bytealg.MaxLen -/
def Tabs (w : World) : Prop := Lib.TabIs Tryz.prog w "internal/strconv.uint64pow10" .u64 Lib.pow10Tab ∧ 6 ≤ w.heap.size ∧ ∃ m, w.cell? ⟨2, 0, none⟩ = some (.int .i64 m)
theorem Tabs.keep {w w' : World} (h : Tabs w) (hz : w.heap.size ≤ w'.heap.size) (hk : ∀ k, k < 6 → w'.heap[k]? = w.heap[k]?) : Tabs w' := by
  obtain ⟨h0, hs, m, h1⟩ := h
  refine ⟨?_, by omega, m, ?_⟩
  · obtain ⟨g, hg, hg6⟩ : ∃ g, Tryz.prog.globalNamed "internal/strconv.uint64pow10" = some g ∧ g < 6 := ⟨_, (by kernel_rfl : Tryz.prog.globalNamed "internal/strconv.uint64pow10" = some 3), by omega⟩
    unfold Lib.TabIs World.var? at h0 ⊢
    rw [hg] at h0 ⊢
    simp only [Option.bind_some] at h0 ⊢
    rw [hk g hg6]
    exact h0
  · exact (World.cell?_of_block (a := ⟨2, 0, none⟩) (hk 2 (by omega))).trans h1
theorem Tabs.sz {w : World} (h : Tabs w) : 6 ≤ w.heap.size := h.2.1
theorem Tabs.ext {w w' : World} (h : Tabs w) (hE : Ext w w') : Tabs w' := h.keep hE.sz fun k hk => hE.below.block k (by have := h.sz; omega)
theorem Tabs.below {w w' : World} {B : Nat} (h : Tabs w) (hE : Below B w w') (hB : 6 ≤ B) : Tabs w' := h.keep hE.size fun k hk => hE.block k (by omega)
theorem ext_grow (w : World) (k : Nat) (os : Array Obj) : Ext w (Sort.grow (w.drewN k) os) := Lib.below_grow _ w (Nat.le_refl _) k os

theorem itoa_any (n : Int) (h0 : -9223372036854775808 ≤ n) (h1 : n ≤ 9223372036854775807) (w : World) (ht : Tabs w) :
    Calls Tryz.prog 56 #[.int .i64 n] w fun e w' => e = .returned (.string ⟨(Lib.itoa n).toArray⟩) ∧ Ext w w' := by
  refine (Tryz.strconv_Itoa n h0 h1 w ht.1).mono ?_
  rintro e w' ⟨rfl, k, os, rfl⟩
  exact ⟨rfl, ext_grow w k os⟩

set_option maxHeartbeats 1000000 in
theorem lineP_any (s : List UInt8) (hs : s.length < 16777216) (w : World) (ht : Tabs w) :
    Calls Tryz.prog 44 #[.string ⟨s.toArray⟩] w fun e w' => e = .returned (.string ⟨(line s).toArray⟩) ∧ Ext w w' := by
  have hsz := toArr_size s
  go_enter Tryz.func44, Tryz.ntmps44
  go_wp2_with fail
  refine (itoa_any s.length (by omega) (by omega) w ht).mono ?_
  rintro e w1 ⟨rfl, hE1⟩
  have hd := Lib.itoa_length_le (s.length : Int) (by omega) (by omega)
  have hd2 : (⟨(Lib.itoa (s.length : Int)).toArray⟩ : ByteArray).size ≤ 21 := by rw [toArr_size]; exact hd
  go_wp2_with fail
  refine (Of_any ⟨s.toArray⟩ w1 (by rw [toArr_size]; omega)).mono ?_
  rintro e w2 ⟨rfl, hE2⟩
  rw [dg_list]
  go_wp2_with fail
  refine (hexP_any (dgl s) (by rw [dgl_length]; omega) w2).mono ?_
  rintro e w3 ⟨rfl, hE3⟩
  have hx : (hexl (dgl s)).length = 16 := by rw [hexl_len, dgl_length]
  have hel := esc_len s
  have hP : ((⟨(Lib.itoa (s.length : Int)).toArray⟩ : ByteArray) ++ ⟨[32].toArray⟩ ++ ⟨(hexl (dgl s)).toArray⟩ ++ ⟨[32].toArray⟩ ++ ⟨(esc s).toArray⟩ ++ ⟨[10].toArray⟩) = ⟨(line s).toArray⟩ := by
    rw [ba_append, ba_append, ba_append, ba_append, ba_append]; unfold line head; simp
  have hz1 : ((⟨(Lib.itoa (s.length : Int)).toArray⟩ : ByteArray) ++ ⟨[32].toArray⟩).size ≤ 22 := by rw [ba_append, toArr_size, List.length_append, List.length_singleton]; omega
  have hz2 : (⟨(hexl (dgl s)).toArray⟩ : ByteArray).size ≤ 16 := by rw [toArr_size, hx]; omega
  have hz3 : ((⟨(Lib.itoa (s.length : Int)).toArray⟩ : ByteArray) ++ ⟨[32].toArray⟩ ++ ⟨(hexl (dgl s)).toArray⟩).size ≤ 38 := by rw [ba_append, ba_append, toArr_size, List.length_append, List.length_append, List.length_singleton, hx]; omega
  have hz4 : ((⟨(Lib.itoa (s.length : Int)).toArray⟩ : ByteArray) ++ ⟨[32].toArray⟩ ++ ⟨(hexl (dgl s)).toArray⟩ ++ ⟨[32].toArray⟩).size ≤ 39 := by rw [ba_append, ba_append, ba_append, toArr_size]; simp only [List.length_append, List.length_singleton, hx]; omega
  have hz5 : (⟨(esc s).toArray⟩ : ByteArray).size ≤ 33554432 := by rw [toArr_size]; omega
  have hz6 : ((⟨(Lib.itoa (s.length : Int)).toArray⟩ : ByteArray) ++ ⟨[32].toArray⟩ ++ ⟨(hexl (dgl s)).toArray⟩ ++ ⟨[32].toArray⟩ ++ ⟨(esc s).toArray⟩).size ≤ 33554500 := by rw [ba_append, ba_append, ba_append, ba_append, toArr_size]; simp only [List.length_append, List.length_singleton, hx]; omega
  have HP := Lib.hid hP
  clear hx hP hd hel
  have hid := hide_any s (by omega)
  generalize (⟨(Lib.itoa (s.length : Int)).toArray⟩ : ByteArray) = D at *
  generalize (⟨(hexl (dgl s)).toArray⟩ : ByteArray) = H at *
  generalize (⟨(esc s).toArray⟩ : ByteArray) = E at *
  go_wp2_with fail
  refine (hid w3).mono ?_
  rintro e w4 ⟨rfl, hE4⟩
  go_wp2_with fail
  go_ret
  exact ⟨by rw [← HP.out]; rfl, ((hE1.trans hE2).trans hE3).trans hE4⟩
end Go.Proofs.YthppcmejffdicaaGreatDoor

/- The contract of the program's Open. -/
import Derived.Test.YthppcmejffdicaaGreatDoorQF
import Derived.Test.YthppcmejffdicaaGreatDoorQJs

set_option linter.unusedSimpArgs false
set_option linter.unusedVariables false
namespace Go.Proofs.YthppcmejffdicaaGreatDoor
open Go.RowKit Hach Num Jn Go.Shelf
attribute [local go_sem] Oper.semAt_some

theorem app_Tin {F : Fence} {n : Nat} {ops : Array Oper} {rest : List Oper} {o : Oper} {a : Act} {w : World} {Q : Exit → Act → World → Prop} (hgd : o.guard = none) (s x : Tmp)
    (ho : o.op = .call { callee := .builtin .append, args := #[.tmp s, .tmp x], argTypes := #[36, 36] }) (base : Nat) (v : Value) (ss : List (List UInt8)) (hs : a.eval (.tmp s) = v) (hown : OwnT w base v ss)
    (g : Nat) (t : (List UInt8)) (hx : a.eval (.tmp x) = .slice (some ⟨g, 0, none⟩) 1 1) (hc : w.cell? ⟨g, 0, none⟩ = some (txv t)) (hl : ss.length < 4294967296) (hbase : base ≤ w.heap.size)
    (h : ∀ v' w', OwnT w' base v' (ss ++ [t]) → w.grownBy w' v.ownBlock → wpListIn F n Tryz.prog ops Q rest (a.put o.dst v') w') : wpListIn F n Tryz.prog ops Q (o :: rest) a w := by
  obtain ⟨i0, hi, hz0, hz1, hz2⟩ := info_parts infoS
  refine wpListIn_append_own w hgd _ _ _ ho base 9 i0 (.string ⟨#[]⟩) 1 16 Tryz.underlying36 hi hz0 hz1 hz2 rfl (by decide) v ss.length (ss.map txv) hs hown ⟨g, 0, none⟩ 1 1 [txv t] hx rfl ?_ ?_ ?_ ?_ hbase ?_
  · intro j u hu
    match j, hu with
    | 0, hu => simp at hu; subst hu; simpa [Addr.add] using hc
    | j + 1, hu => simp at hu
  · intro u hu; simp at hu; subst hu; rfl
  · simp only [maxLen]; omega
  · omega
  · intro v' w' h2 h3 _
    refine h v' w' ?_ h3
    unfold OwnT
    simpa using h2
theorem own_step {A B : World} {hi : Nat} {v : Value} {xs : List (List UInt8)} (h : OwnT A hi v xs) (hb : ∀ k, hi ≤ k → k < A.heap.size → B.heap[k]? = A.heap[k]?) : OwnT B hi v xs := by
  refine ⟨h.1, ?_⟩
  rcases h.2 with hn | ⟨g, cap, cur, e, hg, hc, r⟩
  · exact .inl hn
  · exact .inr ⟨g, cap, cur, e, hg, (hb g hg (Array.getElem?_eq_some_iff.1 hc).1).trans hc, r⟩
theorem own_form {w : World} {base : Nat} {v : Value} {xs : List (List UInt8)} (h : OwnT w base v xs) : ∃ A c, v = .slice A xs.length c := by
  rcases h.2 with ⟨rfl, hn⟩ | ⟨g, cap, cur, rfl, hb, hg, r⟩
  · exact ⟨none, 0, by rw [hn]⟩
  · exact ⟨_, _, rfl⟩
theorem cell_of_row1 {w : World} {b : Nat} {v : Value} {t : TypeId} (h : w.heap[b]? = some (.cells #[v] t (0, 0))) : w.cell? ⟨b, 0, none⟩ = some v := by simp [World.cell?, h]
theorem fz_of_row1 {w : World} {b : Nat} {v : Value} {t : TypeId} (h : w.heap[b]? = some (.cells #[v] t (0, 0))) : w.frozen? ⟨b, 0, none⟩ = false := by simp [World.frozen?, h]
theorem set_row1 {w : World} {b : Nat} {v : Value} {t : TypeId} (h : w.heap[b]? = some (.cells #[v] t (0, 0))) (u : Value) : (w.setCell ⟨b, 0, none⟩ u).heap[b]? = some (.cells #[u] t (0, 0)) := by simp [World.setCell, Array.getElem?_modify, h]
theorem suf_any (s : List UInt8) (hs : s.length < 16777216) (w : World) : Calls Tryz.prog 41 #[.string ⟨s.toArray⟩, .string ⟨#[10]⟩] w fun e w' => e = .returned (.bool (decide (s.getLast? = some 10))) ∧ w' = w :=
  (Tryz.strings_HasSuffix ⟨s.toArray⟩ ⟨#[10]⟩ w (by rw [toArr_size]; omega)).mono fun e w' h => by
    have e1 : Lib.hasSuffix (⟨s.toArray⟩ : ByteArray).data.toList (⟨#[10]⟩ : ByteArray).data.toList = decide (s.getLast? = some 10) := by rw [← suffix_nl]
    rw [e1] at h; exact h
theorem put_len (d : Dk) : (d.put [10]).2.text.length ≤ d.text.length + 1 := by
  obtain ⟨t1, _, _⟩ := works_cases d
  have hw : (d.write [10]).2.text.length ≤ d.text.length + 1 := by
    unfold Dk.write
    split
    · simp [t1]
    · rw [t1]; omega
  unfold Dk.put
  split
  · have hs : (d.write [10]).2.sync.2.text = (d.write [10]).2.text := by
      obtain ⟨t2, _, _⟩ := works_cases (d.write [10]).2
      unfold Dk.sync
      split
      · simpa using t2
      · exact t2
    rw [hs]; exact hw
  · exact hw
theorem Tabs.kb {S : List Nat} {w w' : World} (h : Tabs w) (hk : KB S w w') (hS : ∀ k ∈ S, 6 ≤ k) : Tabs w' :=
  h.keep hk.size fun k hk6 => hk.block k (by have := h.sz; omega) fun hm => by have := hS k hm; omega
theorem lines_any (s : List UInt8) (w : World) : Calls Tryz.prog 43 #[.string ⟨s.toArray⟩] w fun e w' => ∃ bx, e = .returned (.func (.func 51) #[] #[.pointer (some ⟨bx, 0, none⟩)]) ∧ Ext w w' ∧ w.heap.size ≤ bx ∧ Box w' bx (.string ⟨s.toArray⟩) := by
  have hmf : ∀ (fn : Fn) (first cap : Array Value) (w : World), (Instr.makeFunc fn first cap).run Tryz.prog w = .ok (.func fn first cap) w := fun _ _ _ _ => rfl
  go_enter Tryz.func43, Tryz.ntmps43
  go_wp2_with fail
  go_ret
  exact ⟨w.heap.size, rfl, Ext.alloc _ _, Nat.le_refl _, Box.new _ _ _⟩

set_option maxRecDepth 100000 in
set_option maxHeartbeats 4000000 in
theorem openP_any (b : Nat) (d : Dk) (w : World) (hD : DkAt 65 w b d) (hk : DkOk d) (ht : d.text.length < 8388608) (hT : Tabs w) (hb6 : 6 ≤ b) :
    Calls Tryz.prog 22 #[.pointer (some ⟨b, 0, none⟩)] w (OpenEnd 62 65 w b d) := by
  obtain ⟨c0, c1, c2, c3, c4⟩ := hD.cell
  have hbl := hD.lt
  refine (callsIn_wide (n := 9)).1 ?_
  refine callsIn_of_wp_marks Tryz.func22 rfl trivial ?_ rfl
  simp only [Tryz.ntmps22, List.size_toArray, List.length_cons, List.length_nil, Nat.reduceAdd, Nat.reduceSub, Array.replicate_succ, Array.replicate_zero, List.push_toArray, List.append_toArray, List.nil_append, List.cons_append]
  cases hoff : d.off with
  | true =>
    rw [hoff] at c2
    have ho : d.open_ = (false, d) := by unfold Dk.open_; rw [hoff]; rfl
    have HO := Lib.hid ho
    clear ho hoff
    gi_wp2
    exact ⟨_, results_tmp2 rfl _ _ _, by unfold OpenEnd; rw [HO.out]; exact ⟨hD, KB.refl _ _, .inl ⟨rfl, rfl⟩⟩⟩
  | false =>
    rw [hoff] at c2
    have hz1 := toArr_size d.text
    by_cases he : d.text = []
    · have ho : d.open_ = (true, d) := by unfold Dk.open_; rw [hoff, he]; simp
      have HO := Lib.hid ho
      have h0 : d.text.length = 0 := by rw [he]; rfl
      have te : ((⟨d.text.toArray⟩ : ByteArray).toList == []) = true := by rw [ByteArray.toList_eq]; simp [he]
      clear ho hoff he
      have htl : d.text.length < 16777216 := by omega
      have H0 := Lib.hid h0
      clear h0
      generalize hTX : (⟨d.text.toArray⟩ : ByteArray) = TX at *
      have HTX := Lib.hid hTX
      clear hTX
      gi_wp2
      refine ⟨trivial, ?_⟩
      gi_wp2
      refine ⟨trivial, ?_⟩
      have hLV : LgAt 62 (w.alloc (.cells #[.pointer (some ⟨b, 0, none⟩), .int .i64 0, .bool false] 62)) w.heap.size (some b) 0 false := Array.getElem?_push_size
      have hEV := Ext.alloc w (.cells #[.pointer (some ⟨b, 0, none⟩), .int .i64 0, .bool false] 62)
      have hKV : KB [b] w _ := KB.ext hEV
      have hDV := hD.ext hEV
      have hTV := hT.ext hEV
      generalize w.alloc (.cells #[.pointer (some ⟨b, 0, none⟩), .int .i64 0, .bool false] 62) = V at hLV hEV hKV hDV hTV ⊢
      obtain ⟨g, hg⟩ : ∃ g, g = w.heap.size := ⟨_, rfl⟩
      have hgw : w.heap.size ≤ g := by omega
      rw [← hg] at hLV ⊢
      have HG := Lib.hid hg
      clear hg
      clear hEV hT c0 c1 c2 c3 c4
      have hLl := hLV.lt
      obtain ⟨y0, _, _, _, _⟩ := hDV.cell
      rw [HTX.out] at y0
      have hlin := fun W => lines_any d.text W
      simp only [HTX.out] at hlin
      have hbV := hDV.lt
      gi_wp2
      refine ⟨trivial, (callsIn_wide.2 (hlin _)).mono ?_⟩
      rintro e w2 ⟨bx, rfl, hE2, hbx, hBx⟩
      have hE1 := Ext.alloc V (.cells #[.slice none 0 0] 36)
      have hO1 : (V.alloc (.cells #[.slice none 0 0] 36)).heap[V.heap.size]? = some (.cells #[.slice none 0 0] 36) := Array.getElem?_push_size
      have hs1 : (V.alloc (.cells #[.slice none 0 0] 36)).heap.size = V.heap.size + 1 := Array.size_push _
      have hO2 := (Below.block hE2 V.heap.size (by omega)).trans hO1
      have hB2 : Below V.heap.size V w2 := Below.trans hE1 (Below.mono hE2 (by omega))
      have hz2 : V.heap.size + 1 ≤ w2.heap.size := by have := hE2.sz; omega
      have hT2 := hTV.below hB2 hTV.sz
      have hV6 := hTV.sz
      rw [← HTX.out] at hBx
      clear hO1 hs1 hE1 hE2 y0 hlin
      gi_wp2
      refine wpIn_feed (F := Fence.wide) rfl (by omega) (gf := 51) (lb := #[.pointer (some ⟨bx, 0, none⟩)]) rfl trivial (enters_of Tryz.func51 (by kernel_rfl) rfl)
        (fun x : List UInt8 => #[.string ⟨x.toArray⟩]) (fun _ => False) (fun k => k < 6) (recs d.text) (lines_feeds _ bx (by omega) d.text w2 (fun k => k < 6) hBx hT2 htl (fun _ h => h)) (fun _ => rfl) (fun k hk => hk.elim) (fun k hk => by omega)
        (fun hi pre A => ∃ v, A.heap[V.heap.size]? = some (.cells #[v] 36) ∧ OwnT A hi v pre ∧ Below V.heap.size V A) ?stays ?start ?a1 ?assign ?body ?done
      case stays =>
        rintro hi pre A B hh ⟨v, h1, h2, h3⟩ hs
        have hA := h3.size
        have hlt := (Array.getElem?_eq_some_iff.1 h1).1
        exact ⟨v, (hs.block _ hlt (by omega) id).trans h1, own_step h2 (fun k hk hl => hs.block k hl (by omega) id), ⟨hs.os.trans h3.os, hs.tape.trans h3.tape, hs.output.trans h3.output, Nat.le_trans h3.size hs.size, fun k hk => (hs.block k (by omega) (by omega) id).trans (h3.block k hk)⟩⟩
      case start => exact fun hi hh => ⟨_, hO2, OwnT.nil _ _, hB2⟩
      case assign =>
        intro l2 x W2 K hK
        gi_wp2
        exact hK
      case body =>
        rintro l2 hi pre x post A hS hh hA ⟨v, h1, h2, h3⟩
        obtain ⟨Ad, c, rfl⟩ := own_form h2
        have cO : A.cell? ⟨V.heap.size, 0, none⟩ = some (.slice Ad pre.length c) := by simp [World.cell?, h1]
        have hpl : pre.length < 4294967296 := by
          have h := recs_count _ d.text (Nat.le_refl _)
          rw [hS] at h
          simp at h
          omega
        have hlt := (Array.getElem?_eq_some_iff.1 h1).1
        have hA1 : (A.alloc (.cells #[.string ⟨x.toArray⟩] 9)).heap.size = A.heap.size + 1 := Array.size_push _
        have hn0 : some V.heap.size ≠ (Value.slice Ad pre.length c).ownBlock := fun e => by have := (OwnT.lt h2 _ e.symm).1; omega
        have HN := Lib.hid hn0
        clear hn0 hS
        gi_wp2_with (gi_at_builtin; refine app_Tin rfl 42 44 rfl hi _ pre rfl (h2.ext (Ext.alloc _ _)) A.heap.size x rfl (World.cell?_alloc_mark ..) hpl (by have := (Ext.alloc A (.cells #[.string ⟨x.toArray⟩] 9)).sz; omega) ?_; intro v' w' hO' hg'; obtain ⟨Ad2, c2, rfl⟩ := own_form hO'; have kh := Lib.hid ((hg'.block _ (by rw [hA1]; omega) HN.out).trans ((Below.heap_alloc _ _ _ hlt).trans h1)); have k1 := cell_of_row1 kh.out; have k2 := fz_of_row1 kh.out)
        have hb1 : Below hi (A.alloc (.cells #[.string ⟨x.toArray⟩] 9)) w' := (Below.refl _ _).grown hg' (by rw [hA1]; omega) fun k e => (OwnT.lt h2 k e).1
        have hb2 : Below hi A w' := Below.trans (Below.mono (Ext.alloc _ _) hA) hb1
        have hz' := hb2.size
        have h5 : OwnT w' hi (.slice Ad2 (pre.length + 1) c2) (pre ++ [x]) := by
          have h := hO'
          rw [show (pre ++ [x]).length = pre.length + 1 from by simp] at h
          exact h
        refine ⟨⟨by rw [setCell_size]; exact hz', fun k hk hkk => (Below.heap_setCell _ _ _ _ (by show k ≠ V.heap.size; omega)).trans (hb2.block k (by omega))⟩, _, set_row1 kh.out _, own_step h5 (fun k hk hl => Below.heap_setCell _ _ _ _ (by show k ≠ V.heap.size; omega)), ?_⟩
        have h4 : Below V.heap.size V w' := Below.trans h3 (Below.mono hb2 (by omega))
        exact h4.setCell (Nat.le_refl _) _
      case done =>
        rintro D hi A hD hDh ⟨v, h1, h2, h3⟩ hK
        obtain ⟨Ad, c, rfl⟩ := own_form h2
        have cO := cell_of_row1 h1
        have hg6 : g < V.heap.size := hLl
        have hLA : LgAt 62 A g (some b) 0 false := (h3.block g hLl).trans hLV
        obtain ⟨l0, l1, l2'⟩ := hLA.cell
        have f1 := hLA.free 1
        have hcnt : (recs d.text).length < 16777216 := by have := recs_count _ d.text (Nat.le_refl _); omega
        have hgO : ¬ g = V.heap.size := by omega
        have hOg : ¬ V.heap.size = g := by omega
        gi_wp2
        gi_region
        gi_wp2
        have hK2 : ((A.setCell ⟨g, 1, none⟩ (.int .i64 ((recs d.text).length : Nat))).drew).heap[D]? = some (.deferred (some [])) := (Below.heap_setCell _ _ _ _ (by show D ≠ g; omega)).trans hK
        have hL3 : LgAt 62 (A.setCell ⟨g, 1, none⟩ (.int .i64 ((recs d.text).length : Nat))) g (some b) (recs d.text).length false := heap_setCell_same A g 1 _ _ (.int .i64 ((recs d.text).length : Nat)) hLA
        refine ⟨by simp, .inl ⟨_, _, rfl, run_takeDeferred hK2, ?_⟩⟩
        refine ⟨_, results_tmp2 rfl _ _ _, ?_⟩
        have hsame : ∀ k, k ≠ D → k ≠ g → (((A.setCell ⟨g, 1, none⟩ (.int .i64 ((recs d.text).length : Nat))).drew).putObj D (.deferred none)).heap[k]? = A.heap[k]? := fun k h1 h2 => (World.putObj_heap_other h1).trans (Below.heap_setCell _ _ _ _ h2)
        have hszF : (((A.setCell ⟨g, 1, none⟩ (.int .i64 ((recs d.text).length : Nat))).drew).putObj D (.deferred none)).heap.size = A.heap.size := by rw [World.putObj_size]; exact setCell_size _ _ _
        have hAz := h3.size
        unfold OpenEnd
        rw [HO.out]
        refine ⟨((hsame b (by omega) (by omega)).trans (h3.block b hbV)).trans hDV, ⟨h3.os.trans hKV.os, h3.tape.trans hKV.tape, h3.output.trans hKV.output, by rw [hszF]; exact Nat.le_trans hKV.size h3.size, fun k hk hS => ((hsame k (by have := hKV.size; omega) (by omega)).trans (h3.block k (by have := hKV.size; omega))).trans (hKV.block k hk hS)⟩, .inr ⟨rfl, g, _, rfl, hgw, by rw [hszF]; omega, (World.putObj_heap_other (show g ≠ D by omega)).trans hL3, ?_⟩⟩
        exact (own_step h2 (fun k hk hl => hsame k (by omega) (by omega))).base_ (by have := hKV.size; omega)
    · obtain ⟨c, hlast⟩ : ∃ c, d.text.getLast? = some c := by
        match h : d.text.getLast? with
        | none => exact absurd (List.getLast?_eq_none_iff.1 h) he
        | some c => exact ⟨c, rfl⟩
      have te : ((⟨d.text.toArray⟩ : ByteArray).toList == []) = false := by rw [ByteArray.toList_eq]; simp [he]
      have hsf := fun W => suf_any d.text (by omega) W
      rw [hlast] at hsf
      have hLV : LgAt 62 (w.alloc (.cells #[.pointer (some ⟨b, 0, none⟩), .int .i64 0, .bool false] 62)) w.heap.size (some b) 0 false := Array.getElem?_push_size
      have hEV := Ext.alloc w (.cells #[.pointer (some ⟨b, 0, none⟩), .int .i64 0, .bool false] 62)
      have hKV : KB [b] w _ := KB.ext hEV
      have hDV := hD.ext hEV
      have hTV := hT.ext hEV
      by_cases hc : c = 10
      · subst hc
        have ho : d.open_ = (true, d) := by unfold Dk.open_; rw [hoff, hlast]; simp
        have HO := Lib.hid ho
        have htl : d.text.length < 16777216 := by omega
        simp only [decide_true] at hsf
        clear ho hoff he hlast
        generalize hTX : (⟨d.text.toArray⟩ : ByteArray) = TX at *
        have HTX := Lib.hid hTX
        clear hTX
        have HSF := Lib.hid hsf
        clear hsf
        gi_wp2
        refine ⟨trivial, (callsIn_wide.2 (HSF.out _)).mono ?_⟩
        rintro e w1 ⟨rfl, rfl⟩
        gi_wp2
        refine ⟨trivial, ?_⟩
        generalize w.alloc (.cells #[.pointer (some ⟨b, 0, none⟩), .int .i64 0, .bool false] 62) = V at hLV hEV hKV hDV hTV ⊢
        obtain ⟨g, hg⟩ : ∃ g, g = w.heap.size := ⟨_, rfl⟩
        have hgw : w.heap.size ≤ g := by omega
        rw [← hg] at hLV ⊢
        have HG := Lib.hid hg
        clear hg
        clear hEV hT c0 c1 c2 c3 c4
        have hLl := hLV.lt
        obtain ⟨y0, _, _, _, _⟩ := hDV.cell
        rw [HTX.out] at y0
        have hlin := fun W => lines_any d.text W
        simp only [HTX.out] at hlin
        have hbV := hDV.lt
        gi_wp2
        refine ⟨trivial, (callsIn_wide.2 (hlin _)).mono ?_⟩
        rintro e w2 ⟨bx, rfl, hE2, hbx, hBx⟩
        have hE1 := Ext.alloc V (.cells #[.slice none 0 0] 36)
        have hO1 : (V.alloc (.cells #[.slice none 0 0] 36)).heap[V.heap.size]? = some (.cells #[.slice none 0 0] 36) := Array.getElem?_push_size
        have hs1 : (V.alloc (.cells #[.slice none 0 0] 36)).heap.size = V.heap.size + 1 := Array.size_push _
        have hO2 := (Below.block hE2 V.heap.size (by omega)).trans hO1
        have hB2 : Below V.heap.size V w2 := Below.trans hE1 (Below.mono hE2 (by omega))
        have hz2 : V.heap.size + 1 ≤ w2.heap.size := by have := hE2.sz; omega
        have hT2 := hTV.below hB2 hTV.sz
        have hV6 := hTV.sz
        rw [← HTX.out] at hBx
        clear hO1 hs1 hE1 hE2 y0 hlin
        gi_wp2
        refine wpIn_feed (F := Fence.wide) rfl (by omega) (gf := 51) (lb := #[.pointer (some ⟨bx, 0, none⟩)]) rfl trivial (enters_of Tryz.func51 (by kernel_rfl) rfl)
          (fun x : List UInt8 => #[.string ⟨x.toArray⟩]) (fun _ => False) (fun k => k < 6) (recs d.text) (lines_feeds _ bx (by omega) d.text w2 (fun k => k < 6) hBx hT2 htl (fun _ h => h)) (fun _ => rfl) (fun k hk => hk.elim) (fun k hk => by omega)
          (fun hi pre A => ∃ v, A.heap[V.heap.size]? = some (.cells #[v] 36) ∧ OwnT A hi v pre ∧ Below V.heap.size V A) ?stays ?start ?a2 ?assign ?body ?done
        case stays =>
          rintro hi pre A B hh ⟨v, h1, h2, h3⟩ hs
          have hA := h3.size
          have hlt := (Array.getElem?_eq_some_iff.1 h1).1
          exact ⟨v, (hs.block _ hlt (by omega) id).trans h1, own_step h2 (fun k hk hl => hs.block k hl (by omega) id), ⟨hs.os.trans h3.os, hs.tape.trans h3.tape, hs.output.trans h3.output, Nat.le_trans h3.size hs.size, fun k hk => (hs.block k (by omega) (by omega) id).trans (h3.block k hk)⟩⟩
        case start => exact fun hi hh => ⟨_, hO2, OwnT.nil _ _, hB2⟩
        case assign =>
          intro l2 x W2 K hK
          gi_wp2
          exact hK
        case body =>
          rintro l2 hi pre x post A hS hh hA ⟨v, h1, h2, h3⟩
          obtain ⟨Ad, c, rfl⟩ := own_form h2
          have cO : A.cell? ⟨V.heap.size, 0, none⟩ = some (.slice Ad pre.length c) := by simp [World.cell?, h1]
          have hpl : pre.length < 4294967296 := by
            have h := recs_count _ d.text (Nat.le_refl _)
            rw [hS] at h
            simp at h
            omega
          have hlt := (Array.getElem?_eq_some_iff.1 h1).1
          have hA1 : (A.alloc (.cells #[.string ⟨x.toArray⟩] 9)).heap.size = A.heap.size + 1 := Array.size_push _
          have hn0 : some V.heap.size ≠ (Value.slice Ad pre.length c).ownBlock := fun e => by have := (OwnT.lt h2 _ e.symm).1; omega
          have HN := Lib.hid hn0
          clear hn0 hS
          gi_wp2_with (gi_at_builtin; refine app_Tin rfl 42 44 rfl hi _ pre rfl (h2.ext (Ext.alloc _ _)) A.heap.size x rfl (World.cell?_alloc_mark ..) hpl (by have := (Ext.alloc A (.cells #[.string ⟨x.toArray⟩] 9)).sz; omega) ?_; intro v' w' hO' hg'; obtain ⟨Ad2, c2, rfl⟩ := own_form hO'; have kh := Lib.hid ((hg'.block _ (by rw [hA1]; omega) HN.out).trans ((Below.heap_alloc _ _ _ hlt).trans h1)); have k1 := cell_of_row1 kh.out; have k2 := fz_of_row1 kh.out)
          have hb1 : Below hi (A.alloc (.cells #[.string ⟨x.toArray⟩] 9)) w' := (Below.refl _ _).grown hg' (by rw [hA1]; omega) fun k e => (OwnT.lt h2 k e).1
          have hb2 : Below hi A w' := Below.trans (Below.mono (Ext.alloc _ _) hA) hb1
          have hz' := hb2.size
          have h5 : OwnT w' hi (.slice Ad2 (pre.length + 1) c2) (pre ++ [x]) := by
            have h := hO'
            rw [show (pre ++ [x]).length = pre.length + 1 from by simp] at h
            exact h
          refine ⟨⟨by rw [setCell_size]; exact hz', fun k hk hkk => (Below.heap_setCell _ _ _ _ (by show k ≠ V.heap.size; omega)).trans (hb2.block k (by omega))⟩, _, set_row1 kh.out _, own_step h5 (fun k hk hl => Below.heap_setCell _ _ _ _ (by show k ≠ V.heap.size; omega)), ?_⟩
          have h4 : Below V.heap.size V w' := Below.trans h3 (Below.mono hb2 (by omega))
          exact h4.setCell (Nat.le_refl _) _
        case done =>
          rintro D hi A hD hDh ⟨v, h1, h2, h3⟩ hK
          obtain ⟨Ad, c, rfl⟩ := own_form h2
          have cO := cell_of_row1 h1
          have hg6 : g < V.heap.size := hLl
          have hLA : LgAt 62 A g (some b) 0 false := (h3.block g hLl).trans hLV
          obtain ⟨l0, l1, l2'⟩ := hLA.cell
          have f1 := hLA.free 1
          have hcnt : (recs d.text).length < 16777216 := by have := recs_count _ d.text (Nat.le_refl _); omega
          have hgO : ¬ g = V.heap.size := by omega
          have hOg : ¬ V.heap.size = g := by omega
          gi_wp2
          gi_region
          gi_wp2
          have hK2 : ((A.setCell ⟨g, 1, none⟩ (.int .i64 ((recs d.text).length : Nat))).drew).heap[D]? = some (.deferred (some [])) := (Below.heap_setCell _ _ _ _ (by show D ≠ g; omega)).trans hK
          have hL3 : LgAt 62 (A.setCell ⟨g, 1, none⟩ (.int .i64 ((recs d.text).length : Nat))) g (some b) (recs d.text).length false := heap_setCell_same A g 1 _ _ (.int .i64 ((recs d.text).length : Nat)) hLA
          refine ⟨by simp, .inl ⟨_, _, rfl, run_takeDeferred hK2, ?_⟩⟩
          refine ⟨_, results_tmp2 rfl _ _ _, ?_⟩
          have hsame : ∀ k, k ≠ D → k ≠ g → (((A.setCell ⟨g, 1, none⟩ (.int .i64 ((recs d.text).length : Nat))).drew).putObj D (.deferred none)).heap[k]? = A.heap[k]? := fun k h1 h2 => (World.putObj_heap_other h1).trans (Below.heap_setCell _ _ _ _ h2)
          have hszF : (((A.setCell ⟨g, 1, none⟩ (.int .i64 ((recs d.text).length : Nat))).drew).putObj D (.deferred none)).heap.size = A.heap.size := by rw [World.putObj_size]; exact setCell_size _ _ _
          have hAz := h3.size
          unfold OpenEnd
          rw [HO.out]
          refine ⟨((hsame b (by omega) (by omega)).trans (h3.block b hbV)).trans hDV, ⟨h3.os.trans hKV.os, h3.tape.trans hKV.tape, h3.output.trans hKV.output, by rw [hszF]; exact Nat.le_trans hKV.size h3.size, fun k hk hS => ((hsame k (by have := hKV.size; omega) (by omega)).trans (h3.block k (by have := hKV.size; omega))).trans (hKV.block k hk hS)⟩, .inr ⟨rfl, g, _, rfl, hgw, by rw [hszF]; omega, (World.putObj_heap_other (show g ≠ D by omega)).trans hL3, ?_⟩⟩
          exact (own_step h2 (fun k hk hl => hsame k (by omega) (by omega))).base_ (by have := hKV.size; omega)
      · have ho : d.open_ = d.put [10] := by
          unfold Dk.open_; rw [hoff, hlast]
          simp [he, hc]
        have hdf : decide (some c = some (10 : UInt8)) = false := by simp [hc]
        rw [hdf] at hsf
        have hpu := putP_any w.heap.size b 0 d false [10] _ hLV hDV (by omega) hk (by simp; omega)
        have hpl := put_len d
        obtain ⟨ok, d2, hput⟩ : ∃ ok d2, d.put [10] = (ok, d2) := ⟨_, _, rfl⟩
        rw [hput] at hpu ho hpl
        simp only at hpu hpl
        have HO := Lib.hid ho
        have HPU := Lib.hid hpu
        have htl : d2.text.length < 16777216 := by omega
        have HSF := Lib.hid hsf
        clear ho hoff he hlast hput hpu hsf hdf hc
        generalize hTX : (⟨d.text.toArray⟩ : ByteArray) = TX at *
        have HTX0 := Lib.hid hTX
        clear hTX
        gi_wp2
        refine ⟨trivial, (callsIn_wide.2 (HSF.out _)).mono ?_⟩
        rintro e w1 ⟨rfl, rfl⟩
        gi_wp2
        refine ⟨trivial, (callsIn_wide.2 HPU.out).mono ?_⟩
        rintro e V ⟨rfl, hDV2, hgV⟩
        replace hLV := hLV.own hgV (by simp; omega)
        replace hKV := hKV.trans (KB.grown hgV (by simp))
        have hTV2 := hTV.keep hgV.size (fun k hk => hgV.block k (by have := hTV.sz; omega) (by simp; omega))
        cases ok with
        | false =>
          gi_wp2
          exact ⟨_, results_tmp2 rfl _ _ _, by unfold OpenEnd; rw [HO.out]; exact ⟨hDV2, hKV, .inl ⟨rfl, rfl⟩⟩⟩
        | true =>
          clear hDV hTV
          have hDV := hDV2
          have hTV := hTV2
          generalize hTX : (⟨d2.text.toArray⟩ : ByteArray) = TX2 at *
          have HTX := Lib.hid hTX
          clear hTX
          obtain ⟨g, hg⟩ : ∃ g, g = w.heap.size := ⟨_, rfl⟩
          have hgw : w.heap.size ≤ g := by omega
          rw [← hg] at hLV ⊢
          have HG := Lib.hid hg
          clear hg
          clear hEV hT c0 c1 c2 c3 c4 te
          have hLl := hLV.lt
          obtain ⟨y0, _, _, _, _⟩ := hDV.cell
          rw [HTX.out] at y0
          have hlin := fun W => lines_any d2.text W
          simp only [HTX.out] at hlin
          have hbV := hDV.lt
          gi_wp2
          refine ⟨trivial, (callsIn_wide.2 (hlin _)).mono ?_⟩
          rintro e w2 ⟨bx, rfl, hE2, hbx, hBx⟩
          have hE1 := Ext.alloc V (.cells #[.slice none 0 0] 36)
          have hO1 : (V.alloc (.cells #[.slice none 0 0] 36)).heap[V.heap.size]? = some (.cells #[.slice none 0 0] 36) := Array.getElem?_push_size
          have hs1 : (V.alloc (.cells #[.slice none 0 0] 36)).heap.size = V.heap.size + 1 := Array.size_push _
          have hO2 := (Below.block hE2 V.heap.size (by omega)).trans hO1
          have hB2 : Below V.heap.size V w2 := Below.trans hE1 (Below.mono hE2 (by omega))
          have hz2 : V.heap.size + 1 ≤ w2.heap.size := by have := hE2.sz; omega
          have hT2 := hTV.below hB2 hTV.sz
          have hV6 := hTV.sz
          rw [← HTX.out] at hBx
          clear hO1 hs1 hE1 hE2 y0 hlin
          gi_wp2
          refine wpIn_feed (F := Fence.wide) rfl (by omega) (gf := 51) (lb := #[.pointer (some ⟨bx, 0, none⟩)]) rfl trivial (enters_of Tryz.func51 (by kernel_rfl) rfl)
            (fun x : List UInt8 => #[.string ⟨x.toArray⟩]) (fun _ => False) (fun k => k < 6) (recs d2.text) (lines_feeds _ bx (by omega) d2.text w2 (fun k => k < 6) hBx hT2 htl (fun _ h => h)) (fun _ => rfl) (fun k hk => hk.elim) (fun k hk => by omega)
            (fun hi pre A => ∃ v, A.heap[V.heap.size]? = some (.cells #[v] 36) ∧ OwnT A hi v pre ∧ Below V.heap.size V A) ?stays ?start ?a3 ?assign ?body ?done
          case stays =>
            rintro hi pre A B hh ⟨v, h1, h2, h3⟩ hs
            have hA := h3.size
            have hlt := (Array.getElem?_eq_some_iff.1 h1).1
            exact ⟨v, (hs.block _ hlt (by omega) id).trans h1, own_step h2 (fun k hk hl => hs.block k hl (by omega) id), ⟨hs.os.trans h3.os, hs.tape.trans h3.tape, hs.output.trans h3.output, Nat.le_trans h3.size hs.size, fun k hk => (hs.block k (by omega) (by omega) id).trans (h3.block k hk)⟩⟩
          case start => exact fun hi hh => ⟨_, hO2, OwnT.nil _ _, hB2⟩
          case assign =>
            intro l2 x W2 K hK
            gi_wp2
            exact hK
          case body =>
            rintro l2 hi pre x post A hS hh hA ⟨v, h1, h2, h3⟩
            obtain ⟨Ad, c, rfl⟩ := own_form h2
            have cO : A.cell? ⟨V.heap.size, 0, none⟩ = some (.slice Ad pre.length c) := by simp [World.cell?, h1]
            have hpl : pre.length < 4294967296 := by
              have h := recs_count _ d2.text (Nat.le_refl _)
              rw [hS] at h
              simp at h
              omega
            have hlt := (Array.getElem?_eq_some_iff.1 h1).1
            have hA1 : (A.alloc (.cells #[.string ⟨x.toArray⟩] 9)).heap.size = A.heap.size + 1 := Array.size_push _
            have hn0 : some V.heap.size ≠ (Value.slice Ad pre.length c).ownBlock := fun e => by have := (OwnT.lt h2 _ e.symm).1; omega
            have HN := Lib.hid hn0
            clear hn0 hS
            gi_wp2_with (gi_at_builtin; refine app_Tin rfl 42 44 rfl hi _ pre rfl (h2.ext (Ext.alloc _ _)) A.heap.size x rfl (World.cell?_alloc_mark ..) hpl (by have := (Ext.alloc A (.cells #[.string ⟨x.toArray⟩] 9)).sz; omega) ?_; intro v' w' hO' hg'; obtain ⟨Ad2, c2, rfl⟩ := own_form hO'; have kh := Lib.hid ((hg'.block _ (by rw [hA1]; omega) HN.out).trans ((Below.heap_alloc _ _ _ hlt).trans h1)); have k1 := cell_of_row1 kh.out; have k2 := fz_of_row1 kh.out)
            have hb1 : Below hi (A.alloc (.cells #[.string ⟨x.toArray⟩] 9)) w' := (Below.refl _ _).grown hg' (by rw [hA1]; omega) fun k e => (OwnT.lt h2 k e).1
            have hb2 : Below hi A w' := Below.trans (Below.mono (Ext.alloc _ _) hA) hb1
            have hz' := hb2.size
            have h5 : OwnT w' hi (.slice Ad2 (pre.length + 1) c2) (pre ++ [x]) := by
              have h := hO'
              rw [show (pre ++ [x]).length = pre.length + 1 from by simp] at h
              exact h
            refine ⟨⟨by rw [setCell_size]; exact hz', fun k hk hkk => (Below.heap_setCell _ _ _ _ (by show k ≠ V.heap.size; omega)).trans (hb2.block k (by omega))⟩, _, set_row1 kh.out _, own_step h5 (fun k hk hl => Below.heap_setCell _ _ _ _ (by show k ≠ V.heap.size; omega)), ?_⟩
            have h4 : Below V.heap.size V w' := Below.trans h3 (Below.mono hb2 (by omega))
            exact h4.setCell (Nat.le_refl _) _
          case done =>
            rintro D hi A hD hDh ⟨v, h1, h2, h3⟩ hK
            obtain ⟨Ad, c, rfl⟩ := own_form h2
            have cO := cell_of_row1 h1
            have hg6 : g < V.heap.size := hLl
            have hLA : LgAt 62 A g (some b) 0 false := (h3.block g hLl).trans hLV
            obtain ⟨l0, l1, l2'⟩ := hLA.cell
            have f1 := hLA.free 1
            have hcnt : (recs d2.text).length < 16777216 := by have := recs_count _ d2.text (Nat.le_refl _); omega
            have hgO : ¬ g = V.heap.size := by omega
            have hOg : ¬ V.heap.size = g := by omega
            gi_wp2
            gi_region
            gi_wp2
            have hK2 : ((A.setCell ⟨g, 1, none⟩ (.int .i64 ((recs d2.text).length : Nat))).drew).heap[D]? = some (.deferred (some [])) := (Below.heap_setCell _ _ _ _ (by show D ≠ g; omega)).trans hK
            have hL3 : LgAt 62 (A.setCell ⟨g, 1, none⟩ (.int .i64 ((recs d2.text).length : Nat))) g (some b) (recs d2.text).length false := heap_setCell_same A g 1 _ _ (.int .i64 ((recs d2.text).length : Nat)) hLA
            refine ⟨by simp, .inl ⟨_, _, rfl, run_takeDeferred hK2, ?_⟩⟩
            refine ⟨_, results_tmp2 rfl _ _ _, ?_⟩
            have hsame : ∀ k, k ≠ D → k ≠ g → (((A.setCell ⟨g, 1, none⟩ (.int .i64 ((recs d2.text).length : Nat))).drew).putObj D (.deferred none)).heap[k]? = A.heap[k]? := fun k h1 h2 => (World.putObj_heap_other h1).trans (Below.heap_setCell _ _ _ _ h2)
            have hszF : (((A.setCell ⟨g, 1, none⟩ (.int .i64 ((recs d2.text).length : Nat))).drew).putObj D (.deferred none)).heap.size = A.heap.size := by rw [World.putObj_size]; exact setCell_size _ _ _
            have hAz := h3.size
            unfold OpenEnd
            rw [HO.out]
            refine ⟨((hsame b (by omega) (by omega)).trans (h3.block b hbV)).trans hDV, ⟨h3.os.trans hKV.os, h3.tape.trans hKV.tape, h3.output.trans hKV.output, by rw [hszF]; exact Nat.le_trans hKV.size h3.size, fun k hk hS => ((hsame k (by have := hKV.size; omega) (by omega)).trans (h3.block k (by have := hKV.size; omega))).trans (hKV.block k hk hS)⟩, .inr ⟨rfl, g, _, rfl, hgw, by rw [hszF]; omega, (World.putObj_heap_other (show g ≠ D by omega)).trans hL3, ?_⟩⟩
            exact (own_step h2 (fun k hk hl => hsame k (by omega) (by omega))).base_ (by have := hKV.size; omega)
end Go.Proofs.YthppcmejffdicaaGreatDoor

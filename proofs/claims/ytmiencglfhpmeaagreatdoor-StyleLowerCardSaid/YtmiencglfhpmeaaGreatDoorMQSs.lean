/- The contract of the reference's Text. -/
import Derived.Test.YtmiencglfhpmeaaGreatDoorMQSh
import Derived.Test.YtmiencglfhpmeaaGreatDoorMQSa
import Derived.Test.YtmiencglfhpmeaaGreatDoorMQXk
import Derived.Test.YtmiencglfhpmeaaGreatDoorMQXx
set_option linter.unusedSimpArgs false
set_option linter.unusedVariables false
namespace Go.Proofs.YtmiencglfhpmeaaGreatDoor
open Go.RowKit Hach Num
theorem textsL_take (l : List Rl) (k : Nat) (hk : k < l.length) : textsL (l.take (k + 1)) = textsL (l.take k) ++ (l[k]).text := by
 rw [List.take_succ_eq_append_getElem hk, textsL_append]; simp [textsL]
structure TxSz (r : Rl) : Prop where
 t0 : r.nm.length ≤ 24
 t1 : (wrText r.nm).length ≤ 46
 t2 : (wrInt r.pr).length ≤ 22
 i2 : InI r.pr
 t3 : (wrText (txT r.e1)).length ≤ 1582
 t4 : (wrText (txT r.e2)).length ≤ 1582
 t5 : (wrText (txT r.e3)).length ≤ 1582
 t6 : (wrText (txT r.e4)).length ≤ 1582
 l3 : (txT r.e1).length ≤ 1560
 l4 : (txT r.e2).length ≤ 1560
 l5 : (txT r.e3).length ≤ 1560
 l6 : (txT r.e4).length ≤ 1560
theorem txSz {b : List Rl} {r : Rl} (h : r.err b = 0) : TxSz r := by
 obtain ⟨h1, _, h3, h4, h5, h6, h7⟩ := err_zero h
 have hn := rlnm_len h1
 have l4 := txT_len h4
 have l5 := txT_len h5
 have l6 := txT_len h6
 have l7 := txT_len h7
 have t0 := wrText_len (s := r.nm) (by omega)
 have t1 := itoa_len (v := r.pr) ⟨by omega, by omega⟩
 have t4 := wrText_len (s := txT r.e1) (by omega)
 have t5 := wrText_len (s := txT r.e2) (by omega)
 have t6 := wrText_len (s := txT r.e3) (by omega)
 have t7 := wrText_len (s := txT r.e4) (by omega)
 have tI : (wrInt r.pr).length ≤ 22 := by unfold wrInt; simp only [List.length_append, List.length_singleton]; omega
 exact ⟨by omega, by omega, tI, ⟨by omega, by omega⟩, by omega, by omega, by omega, by omega, l4, l5, l6, l7⟩
def TextR (l : List Rl) (w : World) (e : Ending) (w' : World) : Prop := e = .returned (.tuple #[.string ⟨(txL l).1.toArray⟩, .int .i64 (txL l).2]) ∧ Ext w w'
theorem take_texts {l : List Rl} (h : chkL l = 0) (k : Nat) : (textsL (l.take k)).length ≤ 255840 := by
 have h1 := (chk_len h).1
 have h2 := textsL_len (l.take k) fun r hr => chk_mem h (List.mem_of_mem_take hr)
 rw [List.length_take] at h2
 omega
end Go.Proofs.YtmiencglfhpmeaaGreatDoor

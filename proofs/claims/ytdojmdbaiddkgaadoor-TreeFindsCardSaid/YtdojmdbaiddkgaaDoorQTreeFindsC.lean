/- Texts of the proof of TreeFinds, put together: TLClone Print10 PTreeB Print11 PTreeC GoTreeF. -/
import Derived.Test.YtdojmdbaiddkgaaDoorProg
import Derived.Below
import Derived.Deep.Draws
import Derived.Deep.AppendLies
import Derived.Maps.AppendAt
import Derived.OwnWalk
import Derived.Laws.BytesArg
import Derived.Laws.MakeOwn
import Derived.Laws.OwnMore
import Derived.Deep.OwnRows
import Derived.Tactics
import Derived.Lib.ConvBytes
import Derived.Laws.Slices
import Derived.WalkKit
import Derived.KernelRfl
import Derived.RowKit3
import Derived.Deep.LoopGhost
import Derived.Deep.QuietTactic
import Derived.BigQuiet
import Derived.WideLaws
import Derived.Deep.DeepCutAuto
import Derived.Deep.CutBlock
import Derived.Deep.RegionHeld3
import Derived.Laws.Rows
import Derived.Lib.AppendStr
import Derived.ArgAppend
import Derived.Laws.IdiomCopy
import Derived.OrdersHeld
import Derived.Laws.BitsLemmas
import Derived.RowKit
import Derived.Test.YtdojmdbaiddkgaaDoorWMore
import Derived.Shelf.Unicode.ValidAny
import Derived.Shelf.Strings.Builder1
import Derived.Shelf.Small.Utf8
import Derived.Shelf.Small.Strs
import Derived.Shelf.Strings.BuilderF
import Derived.Shelf.Strings.BuilderK
import Derived.Shelf.Strings.Search1
import Derived.Shelf.Strings.Prefix
import Derived.Shelf.Strings.Runes
import Derived.Shelf.Strings.IndexAny
import Derived.Shelf.Strings.AsciiSet
import Derived.Shelf.Strings.IndexAnyAll
import Derived.Shelf.Strings.BuilderCap
import Derived.Shelf.Slices.Equal
import Derived.Ground.Names2Prog
import Derived.Shelf.Slices.Clone
import Derived.Shelf.Slices.Empties2
import Derived.WalkSpells
import Derived.Laws.Runes
import Derived.Laws.RangeAny
import Derived.Laws.RangeString
import Derived.Lib.IndexAny
import Derived.Lib.SpaceUEq
import Derived.Lib.RuneCount
import Derived.Lib.QuoteLoop
import Derived.Lib.Hide
import Derived.Lib.OthersKept
import Derived.Lib.DecodeN
import Derived.IntWalk
import Derived.Test.YtdojmdbaiddkgaaDoorWWords
import Derived.Test.YtdojmdbaiddkgaaDoorWLast
import Derived.Test.YtdojmdbaiddkgaaDoorWTab
import Derived.Test.YtdojmdbaiddkgaaDoorWQPut
import Derived.Test.YtdojmdbaiddkgaaDoorWApart
import Derived.Test.YtdojmdbaiddkgaaDoorWArr
import Derived.Test.YtdojmdbaiddkgaaDoorWZeros
import Derived.Test.YtdojmdbaiddkgaaDoorWFoot
import Derived.Test.YtdojmdbaiddkgaaDoorWKept
import Derived.Test.YtdojmdbaiddkgaaDoorWShare
import Derived.Test.YtdojmdbaiddkgaaDoorWN
import Derived.Test.YtdojmdbaiddkgaaDoorWRepsOne
import Derived.Test.YtdojmdbaiddkgaaDoorWInv
import Derived.Test.YtdojmdbaiddkgaaDoorWGuard
import Derived.Test.YtdojmdbaiddkgaaDoorWNEv
import Derived.Outline
import Derived.Laws.IdiomStrings
import Derived.Deep.RegionWith
import Derived.RegionCalls
import Derived.Lib.SmallJoins
import Derived.Test.YtdojmdbaiddkgaaDoorRows
import Derived.Lib.LaidU8T
import Derived.PinnedBridge
import Derived.MakeChecks
import Derived.ProofKit
import Derived.SliceStrings
import Derived.SizedLaws
import Derived.Deep.Slices
import Derived.Test.YtdojmdbaiddkgaaDoorQTreeFindsB
section
set_option linter.unusedVariables false
set_option linter.unusedSimpArgs false
namespace Go.Proofs.YtdojmdbaiddkgaaDoor.Print
open Go.RowKit Go.Proofs.YtdojmdbaiddkgaaDoorW.PrintWords Go.Proofs.YtdojmdbaiddkgaaDoorW.PrintLast Go.Proofs.YtdojmdbaiddkgaaDoorW.PrintMore
/-- Where the loop over the parameters stands. -/
structure LC (w : World) (Bx R0 : Nat) (nm vl : ByteArray) (v1 : Value) (l : List S59) (rows0 : List (List Value)) (i : Nat) (wr : World) : Prop where
  bel : Below w.heap.size w wr
  box : wr.heap[Bx]? = some (.cells #[.string nm, v1, .string vl] 37 (0, 0))
  res : wr.heap[R0]? = some (.cells #[.string ⟨#[]⟩, .slice none 0 0, .string ⟨#[]⟩] 37 (0, 0))
  ex : ∃ (f : Nat → Nat) (rows : List (List Value)), rows.length = l.length ∧ (Kd.raw 2).R 59 wr w.heap.size (fun _ => True) v1 rows ∧ (∀ (j : Nat) (x : S59) (c : List Value), j < i → l[j]? = some x → rows[j]? = some c → k59.M wr w.heap.size (fun k => R0 < k ∧ some k ≠ v1.ownBlock ∧ f k = j) x c) ∧ (∀ j, i ≤ j → rows[j]? = rows0[j]?)
theorem cellP {w : World} {g : Nat} {cs : Array Value} {t : TypeId} {fr : Nat × Nat} (h : w.heap[g]? = some (.cells cs t fr)) (j : Nat) : w.cell? ⟨g, j, none⟩ = cs[j]? := by simp [World.cell?, h]
theorem frozP {w : World} {g : Nat} {cs : Array Value} {t : TypeId} (h : w.heap[g]? = some (.cells cs t (0, 0))) (j : Nat) : w.frozen? ⟨g, j, none⟩ = false := by simp [World.frozen?, h]
theorem blkC (w : World) (o o' : Obj) : ((w.alloc o).alloc o').heap[w.heap.size]? = some o := by
  rw [Below.heap_alloc _ _ _ (by simp)]; exact heap_alloc_new w o
theorem blkC2 (w : World) (o o' : Obj) : ((w.alloc o).alloc o').heap[w.heap.size + 1]? = some o' := by
  have := heap_alloc_new (w.alloc o) o'
  simpa using this
theorem typesRaw : ∀ q, q ∈ 59 :: (Kd.raw 2).E → q ≠ 37 := by decide
theorem LC_step {w : World} {Bx R0 : Nat} {nm vl : ByteArray} {gb n cv : Nat} {l : List S59} {rows0 rows : List (List Value)} {f : Nat → Nat} {i : Nat} {wr wd w5 : World} {x : S59} {A1 A5 : Option Addr} {c1 c5 : Nat}
    (hT : LC w Bx R0 nm vl (.slice (some ⟨gb, 0, none⟩) n cv) l rows0 i wr) (hrl : rows.length = l.length) (hR : (Kd.raw 2).R 59 wr w.heap.size (fun _ => True) (.slice (some ⟨gb, 0, none⟩) n cv) rows)
    (hF : ∀ (j : Nat) (x : S59) (c : List Value), j < i → l[j]? = some x → rows[j]? = some c → k59.M wr w.heap.size (fun k => R0 < k ∧ some k ≠ (Value.slice (some ⟨gb, 0, none⟩) n cv).ownBlock ∧ f k = j) x c) (hS : ∀ j, i ≤ j → rows[j]? = rows0[j]?) (hrow : rows[i]? = some [.string x.f0, .slice A1 x.f1.length c1])
    (hx : l[i]? = some x) (hbg : w.heap.size ≤ gb) (hgl : gb < wr.heap.size) (hd : wd.heap = wr.heap) (hdb : Below wr.heap.size wr w5) (hR5 : Kd.R Kd.string 9 w5 wr.heap.size (fun _ => True) (.slice A5 x.f1.length c5) x.f1) :
    LC w Bx R0 nm vl (.slice (some ⟨gb, 0, none⟩) n cv) l rows0 (i + 1) (w5.setCell ⟨gb, i * 2 + 1, none⟩ (.slice A5 x.f1.length c5)) := by
  have hil : i < rows.length := (List.getElem?_eq_some_iff.1 hrow).1
  have hown : (Value.slice (some ⟨gb, 0, none⟩) n cv).ownBlock = some gb := rfl
  have nB : Bx ≠ gb := fun e => Kd.R_ne hR hT.box (by decide : 59 ≠ 37) (by rw [e]; rfl)
  have nR : R0 ≠ gb := fun e => Kd.R_ne hR hT.res (by decide : 59 ≠ 37) (by rw [e]; rfl)
  refine ⟨(hT.bel.trans (hdb.mono hT.bel.size)).setCell (p := ⟨gb, i * 2 + 1, none⟩) hbg _, blk_far ((hdb.block Bx (blk_lt hT.box)).trans hT.box) nB _, blk_far ((hdb.block R0 (blk_lt hT.res)).trans hT.res) nR _, fun k => if wr.heap.size ≤ k then i else f k, rows.set i [.string x.f0, .slice A5 x.f1.length c5], by rw [List.length_set]; exact hrl, raw_put (Kd.R_below hR hdb) hrow rfl, fun j y c hj hy hc => ?_, fun j hj => ?_⟩
  · by_cases hji : j = i
    · subst hji
      obtain rfl : x = y := Option.some.inj (hx.symm.trans hy)
      rw [List.getElem?_set_self hil] at hc
      obtain rfl := Option.some.inj hc
      refine k59_mkM _ _ _ x ?_
      have hRl := blk_lt hT.res
      have h1 := Kd.R_lower (Kd.R_mono (ok' := fun k => R0 < k ∧ some k ≠ (Value.slice (some ⟨gb, 0, none⟩) n cv).ownBlock ∧ (if wr.heap.size ≤ k then j else f k) = j) (Kd.R_bound hR5) (fun k hk => ⟨by have := hk.2.1; omega, fun e => by rw [hown] at e; injection e with e; have := hk.2.1; omega, by rw [if_pos hk.2.1]⟩)) hT.bel.size
      exact Kd.R_far (p := ⟨gb, j * 2 + 1, none⟩) h1 (fun k hk e => hk.2.1 (by rw [hown, e])) _
    · rw [List.getElem?_set_ne (by omega)] at hc
      have hB0 := k59.M_bound (hF j y c (by omega) hy hc)
      have h0 : k59.M wr w.heap.size (fun k => R0 < k ∧ some k ≠ (Value.slice (some ⟨gb, 0, none⟩) n cv).ownBlock ∧ (if wr.heap.size ≤ k then i else f k) = j) y c := by
        refine k59.M_mono ?_ hB0
        intro k hk
        have h9 : ¬ wr.heap.size ≤ k := by have := hk.2.2.1; omega
        exact ⟨hk.1.1, hk.1.2.1, by rw [if_neg h9]; exact hk.1.2.2⟩
      exact Kd.M_far (p := ⟨gb, i * 2 + 1, none⟩) (Kd.M_below h0 hdb) (fun k hk e => hk.2.1 (by rw [hown, e])) _
  · rw [List.getElem?_set_ne (by omega)]; exact hS j (by omega)
theorem LC_end {w : World} {Bx R0 : Nat} {nm vl : ByteArray} {Av : Option Addr} {n cv : Nat} {l : List S59} {rows0 : List (List Value)} {wr : World} (hT : LC w Bx R0 nm vl (.slice Av n cv) l rows0 n wr) (hn : n = l.length) (hw : w.heap.size ≤ R0) {a b c : Value} :
    Kd.S k59 59 (((wr.setCell ⟨R0, 0, none⟩ a).setCell ⟨R0, 1, none⟩ b).setCell ⟨R0, 2, none⟩ c) w.heap.size (fun _ => True) (.slice Av n cv) l := by
  obtain ⟨f, rows, hrl, hR, hF, hS⟩ := hT.ex
  have hN : Kd.S k59 59 wr w.heap.size (fun k => w.heap.size ≤ k ∧ k ≠ R0) (.slice Av n cv) l := by
    have hb := Kd.R_base hR
    have hne := Kd.R_ne hR hT.res (by decide : 59 ≠ 37)
    obtain ⟨_, inner, ho, hr⟩ := hR
    have hz : l.zipIdx.length = rows.length := by rw [List.length_zipIdx, hrl]
    refine ⟨f, fun k hk => ⟨hb k hk, fun e => hne (by rw [← e]; exact hk.symm)⟩, inner, by rw [hz]; exact ho, by rw [hz]; exact hr.1, fun j p hj => ?_⟩
    have hjl : j < l.length := by have := (List.getElem?_eq_some_iff.1 hj).1; rw [List.length_zipIdx] at this; exact this
    have hp : p = (l[j], j) := by
      rw [List.getElem?_zipIdx, List.getElem?_eq_getElem hjl] at hj
      simpa using hj.symm
    have hrj : j < rows.length := by omega
    have hc : (inner.drop (j * 2)).take 2 = rows[j] := (hr.2 j _ (List.getElem?_eq_getElem hrj)).1
    have hM := hF j l[j] rows[j] (by omega) (List.getElem?_eq_getElem hjl) (List.getElem?_eq_getElem hrj)
    subst hp
    show k59.M wr w.heap.size (fun k => ((w.heap.size ≤ k ∧ k ≠ R0) ∧ some k ≠ (Value.slice Av n cv).ownBlock) ∧ f k = j) l[j] ((inner.drop (j * 2)).take 2)
    rw [hc]
    exact k59.M_mono (fun k hk => ⟨⟨⟨by omega, by omega⟩, hk.2.1⟩, hk.2.2⟩) hM
  exact Kd.S_mono (Kd.S_far (p := ⟨R0, 2, none⟩) (Kd.S_far (p := ⟨R0, 1, none⟩) (Kd.S_far (p := ⟨R0, 0, none⟩) hN (fun _ hk => hk.2) _) (fun _ hk => hk.2) _) (fun _ hk => hk.2) _) (fun k hk => trivial)
set_option maxHeartbeats 1000000 in
set_option maxRecDepth 100000 in
theorem lineClone_walk (nm vl : ByteArray) (A : Option Addr) (c : Nat) (l : List S59) (w : World) (hr : Kd.C k59 w A l.length l) (hl : l.length < 3518437208883) (hv : ∀ p ∈ l, p.f1.length < 8796093022208) :
    Calls Tryd.prog 19 #[.agg #[.string nm, .slice A l.length c, .string vl]] w fun e w' => ∃ v1, e = .returned (.agg #[.string nm, v1, .string vl]) ∧ Kd.S k59 59 w' w.heap.size (fun _ => True) v1 l ∧ Below w.heap.size w w' := by
  obtain ⟨rows0, hrl, hraw, hrow⟩ := raw_of hr
  have HRaw := Aside0.mk (show Kd.C (Kd.raw 2) w A rows0.length rows0 from hraw)
  have HRow := Aside0.mk hrow
  have HL := Aside0.mk hl
  have HV := Aside0.mk hv
  have HRl := Aside0.mk hrl
  obtain ⟨n, hn⟩ : ∃ n, n = l.length := ⟨_, rfl⟩
  have HN := Aside0.mk hn
  rw [← hn]
  clear hr hl hv hraw hrow hrl hn
  go_enter Tryd.func19, Tryd.ntmps19
  go_wp2_with fail
  go_at_call 28
  have hm : rows0.length = n := by rw [HN.out, HRl.out]
  have hnb : n < 3518437208883 := by have := HL.out; have := HN.out; omega
  have HM := Aside0.mk hm
  rw [← hm]
  refine (cloneP A c rows0 _ (Kd.C_below HRaw.out (by repeat (first | exact Below.refl _ _ | apply below_alloc))) (by rw [HRl.out]; exact HL.out)).mono ?_
  rintro e w3 ⟨v1, rfl, hR, hB⟩
  have hbox := (hB.block w.heap.size (by first | (simp; done) | (simp; omega))).trans (blkC w _ _)
  have hres := (hB.block (w.heap.size + 1) (by first | (simp; done) | (simp; omega))).trans (blkC2 w _ _)
  have HB : Aside0 (Below w.heap.size w w3) := ⟨(show Below w.heap.size w _ by repeat (first | exact Below.refl _ _ | apply below_alloc)).trans (hB.mono (by simp <;> omega))⟩
  have HR := Aside0.mk (Kd.R_lower hR (show w.heap.size ≤ _ by simp <;> omega))
  obtain ⟨Av, cv, rfl⟩ := Kd.R_slice hR
  rw [hm] at HR ⊢
  obtain ⟨Bx, hBx⟩ : ∃ Bx, Bx = w.heap.size := ⟨_, rfl⟩
  have HBx := Aside0.mk hBx
  rw [← hBx] at hbox hres ⊢
  have HBox := Aside0.mk hbox
  have HRes := Aside0.mk hres
  have x1 := cellP hbox 1
  have z1 := frozP hbox 1
  have hlt : Bx < w3.heap.size := blk_lt hbox
  clear hbox hres hR hB hBx
  go_wp2_with fail
  have hR4 := Kd.R_set HR.out HBox.out typesRaw 1 (.slice Av n cv)
  have HLC : Aside0 (LC w Bx (Bx + 1) nm vl (.slice Av n cv) l rows0 0 (w3.setCell ⟨Bx, 1, none⟩ (.slice Av n cv))) := ⟨⟨HB.out.setCell (p := ⟨Bx, 1, none⟩) (show w.heap.size ≤ Bx by rw [HBx.out]; exact Nat.le_refl _) _, blk_set HBox.out 1 _, blk_far HRes.out (show Bx + 1 ≠ Bx by omega) _, fun _ => 0, rows0, HRl.out, hR4, fun j x c hj => absurd hj (by omega), fun j _ => rfl⟩⟩
  clear x1 z1 hR4 HR
  go_loopg [11] n (fun k v11 wr => ∃ i : Nat, v11 = .int .i64 i ∧ i ≤ n ∧ Aside0 (n ≤ i + k) ∧ Aside0 (LC w Bx (Bx + 1) nm vl (.slice Av n cv) l rows0 i wr))
  case atStart => exact ⟨0, rfl, by omega, ⟨by omega⟩, HLC⟩
  case round =>
    obtain ⟨i, rfl, hi, HK, HT⟩ := hrel
    clear HLC
    by_cases hin : i < n
    · cases gk with
      | zero => exfalso; have := HK.out; omega
      | succ k =>
      obtain ⟨f, rows, hrl, hR, hF, hS⟩ := HT.out.ex
      have hil : i < l.length := by have := HN.out; omega
      have hirow : i < rows.length := by omega
      obtain ⟨gb, cap, hvv, hbg, hgl, _⟩ := Kd.R_form hR (by omega)
      obtain ⟨rfl, rfl⟩ : Av = some ⟨gb, 0, none⟩ ∧ cv = cap := by
        injection hvv with e1 e2 e3
        exact ⟨e1, e3⟩
      have hr0 : rows[i]? = rows0[i]? := hS i (Nat.le_refl _)
      have hK0 := HRow.out i l[i] rows[i] (List.getElem?_eq_getElem hil) (by rw [← hr0]; exact List.getElem?_eq_getElem hirow)
      obtain ⟨A1, c1, hcs, hl1, hC1⟩ := k59_open hK0
      have hrow : rows[i]? = some [.string l[i].f0, .slice A1 l[i].f1.length c1] := by rw [List.getElem?_eq_getElem hirow, hcs]
      obtain ⟨ce, hcl, hM, hcc, hfz⟩ := Kd.R_elem hR ([] : List Value) (i : Int) (by omega) (by omega)
      have hce : ce = [.string l[i].f0, .slice A1 l[i].f1.length c1] := by
        have h1 : ce = rows.getD i [] := hM.1
        rw [h1, List.getD_eq_getElem?_getD, hrow]; rfl
      subst hce
      have d1 : wr.cell? ⟨gb, i * 2 + 1, none⟩ = some (.slice A1 l[i].f1.length c1) := hcc 1 _ rfl
      have f1 : wr.frozen? ⟨gb, i * 2 + 1, none⟩ = false := hfz 1
      have b1 := cellP HT.out.box 1
      have hbl : Bx < wr.heap.size := blk_lt HT.out.box
      have hgB : gb ≠ Bx := fun e => by
        have h1 := Kd.R_ne hR HT.out.box (by decide : 59 ≠ 37)
        exact h1 (by rw [e]; rfl)
      obtain ⟨x, hx⟩ : ∃ x, x = l[i] := ⟨_, rfl⟩
      rw [← hx] at d1 hrow hl1 hC1
      have HX := Aside0.mk hx
      have HC1 := Aside0.mk hC1
      have HRR := Aside0.mk hR
      have HFS := Aside0.mk (And.intro hrl (And.intro hF (And.intro hS hrow)))
      have HL1 := Aside0.mk hl1
      clear hrl hR hF hS hr0 hK0 hcs hl1 hC1 hrow hcl hM hcc hfz hx hvv
      have hvx : x.f1.length < 8796093022208 := HV.out x (by rw [HX.out]; exact List.getElem_mem hil)
      have HVX := Aside0.mk hvx
      clear hvx
      go_wp2_with fail
      go_region_law (go_simp; go_at_call 29; refine (cloneS A1 c1 x.f1 _ (Kd.C_below HC1.out (pw_below_drewN HT.out.bel _)) HVX.out).mono ?_; rintro e w5 ⟨v', rfl, hR5, hB5⟩; obtain ⟨A5, c5, rfl⟩ := Kd.R_slice hR5; have hk5 : w5.heap[gb]? = wr.heap[gb]? := hB5.block gb hgl; have d5 : w5.cell? ⟨gb, i * 2 + 1, none⟩ = some (.slice A1 x.f1.length c1) := (hB5.cell (p := ⟨gb, i * 2 + 1, none⟩) hgl).trans d1; have f5 : w5.frozen? ⟨gb, i * 2 + 1, none⟩ = false := by
                       have h9 := f1
                       unfold World.frozen? at h9 ⊢
                       rw [hk5]
                       exact h9
                     have b5 : w5.cell? ⟨Bx, 1, none⟩ = some (.slice (some ⟨gb, 0, none⟩) n cv) := (hB5.cell (p := ⟨Bx, 1, none⟩) hbl).trans (b1.trans rfl); have HB5 := Aside0.mk hB5; have HR5 := Aside0.mk hR5; clear hB5 hR5 hk5)
      all_goals
        have HLS := Aside0.mk (LC_step (wd := wr) HT.out HFS.out.1 HRR.out HFS.out.2.1 HFS.out.2.2.1 HFS.out.2.2.2 (by rw [HX.out]; exact List.getElem?_eq_getElem hil) hbg hgl rfl ((pw_below_drewN (Below.refl _ wr) _).trans HB5.out) HR5.out)
        clear d5 f5 b5 d1 f1 b1
        go_wp2_with fail
        go_roundg k
        case measure => have := HK.out; omega
        case rel => exact ⟨i + 1, by first | rfl | (go_num; done), by omega, ⟨by have := HK.out; omega⟩, HLS⟩
    · obtain rfl : i = n := by omega
      have b0 := cellP HT.out.box 0
      have b1 := cellP HT.out.box 1
      have b2 := cellP HT.out.box 2
      have r0 := cellP HT.out.res 0
      have r1 := cellP HT.out.res 1
      have r2 := cellP HT.out.res 2
      have z0 := frozP HT.out.res 0
      have z1 := frozP HT.out.res 1
      have z2 := frozP HT.out.res 2
      go_wp2_with fail
      have HNN := Aside0.mk (LC_end HT.out HN.out (by rw [HBx.out]; omega) (a := .string nm) (b := .slice Av i cv) (c := .string vl))
      refine bodyPost_ret (v := .agg #[.string nm, .slice Av i cv, .string vl]) (by simp [results, Tryd.results19, go_sem, r0, r1, r2]) rfl ⟨_, rfl, HNN.out, ?_⟩
      have hw : w.heap.size ≤ Bx + 1 := by rw [HBx.out]; omega
      exact (((HT.out.bel.setCell (p := ⟨Bx + 1, 0, none⟩) hw _).setCell (p := ⟨Bx + 1, 1, none⟩) hw _).setCell (p := ⟨Bx + 1, 2, none⟩) hw _)
def line_Clone.f (a0_0 : ByteArray) (l0_1 : List S59) (a0_2 : ByteArray) : Option (ByteArray × List S59 × ByteArray) := if l0_1.length < 3518437208883 ∧ ∀ p ∈ l0_1, p.f1.length < 8796093022208 then some (a0_0, l0_1, a0_2) else none
theorem line_Clone.calls (a0_0 : ByteArray) (A0_1 : Option Addr) (c0_1 : Nat) (l0_1 : List S59) (a0_2 : ByteArray) (r1 : ByteArray) (r2 : List S59) (r3 : ByteArray) (w : World) (hG : GG w) (hr0_1 : Kd.C k59 w A0_1 l0_1.length l0_1) (hc0_1 : l0_1.length ≤ c0_1) (h : line_Clone.f a0_0 l0_1 a0_2 = some (r1, r2, r3)) :
    Calls Tryd.prog 19 #[.agg #[.string a0_0, .slice A0_1 l0_1.length c0_1, .string a0_2]] w fun e w' => ∃ v1_ : Value, e = .returned (.agg #[.string r1, v1_, .string r3]) ∧ Kd.S k59 59 w' w.heap.size (fun _ => True) v1_ r2 ∧ Below w.heap.size w w' := by
  unfold line_Clone.f at h
  by_cases hg : l0_1.length < 3518437208883 ∧ ∀ p ∈ l0_1, p.f1.length < 8796093022208
  · rw [if_pos hg] at h
    simp only [Option.some.injEq, Prod.mk.injEq] at h
    obtain ⟨rfl, rfl, rfl⟩ := h
    exact lineClone_walk _ _ _ _ _ w hr0_1 hg.1 hg.2
  · rw [if_neg hg] at h; cases h
end Go.Proofs.YtdojmdbaiddkgaaDoor.Print
end
section
namespace Go.Proofs.YtdojmdbaiddkgaaDoor.Print
open Go.RowKit Go.Proofs.YtdojmdbaiddkgaaDoorW.PrintWords Go.Proofs.YtdojmdbaiddkgaaDoorW.PrintLast Go.Proofs.YtdojmdbaiddkgaaDoorW.PrintMore
set_option linter.unusedVariables false
set_option linter.unusedSimpArgs false
def tree_Find.l0 : Nat → ByteArray → Int → List (S37) → Int → Int → ByteArray → List (S59) → ByteArray → Option (ByteArray × (List (S59)) × ByteArray × Int)
 | 0, _, _, _, _, _, _, _, _ => none
 | k + 1, x1, x7, x11, x12, x13, x214000, x214001, x214002 => if x13 < x12 then (if 0 ≤ x13 then (if x13 < (x11.length : Int) then (if ((rd_T37 x11 x13).f0).toList = x1.toList then (if x7 = 0 then ((line_Clone.f ((rd_T37 x11 x13).f0) ((rd_T37 x11 x13).f1) ((rd_T37 x11 x13).f2)).bind fun bt216 => (tree_Find.l0 k x1 (wrap64 (x7 + 1)) x11 x12 (wrap64 (x13 + 1)) bt216.1 bt216.2.1 bt216.2.2)) else (tree_Find.l0 k x1 (wrap64 (x7 + 1)) x11 x12 (wrap64 (x13 + 1)) x214000 x214001 x214002)) else (tree_Find.l0 k x1 x7 x11 x12 (wrap64 (x13 + 1)) x214000 x214001 x214002)) else (none)) else (none)) else (some (x214000, x214001, x214002, x7))
def tree_Find.f (k : Nat) (a0_0 : ByteArray) (l0_1 : List (S37)) (l0_2 : List (S32)) (a1 : ByteArray) : Option (ByteArray × (List (S59)) × ByteArray × Int) := tree_Find.l0 k a1 0 l0_1 (l0_1.length : Int) 0 (⟨#[]⟩ : ByteArray) ([] : List (S59)) (⟨#[]⟩ : ByteArray)
set_option maxHeartbeats 8000000 in
set_option maxRecDepth 100000 in
theorem tree_Find.calls (k : Nat) (a0_0 : ByteArray) (A0_1 : Option Addr) (c0_1 : Nat) (l0_1 : List (S37)) (A0_2 : Option Addr) (c0_2 : Nat) (l0_2 : List (S32)) (a1 : ByteArray) (r1 : ByteArray) (r2 : List (S59)) (r3 : ByteArray) (r4 : Int) (w : World) (hG : GG w) (hr0_1 : Kd.C k37 w A0_1 l0_1.length l0_1) (hc0_1 : l0_1.length ≤ c0_1) (hr0_2 : Kd.C k32 w A0_2 l0_2.length l0_2) (hc0_2 : l0_2.length ≤ c0_2) (h : tree_Find.f k a0_0 l0_1 l0_2 a1 = some (r1, r2, r3, r4)) :
  Calls Tryd.prog 9 #[.agg #[.string a0_0, .slice A0_1 l0_1.length c0_1, .slice A0_2 l0_2.length c0_2], .string a1] w fun e w' => ∃ v1_ : Value, e = .returned (.tuple #[.agg #[.string r1, v1_, .string r3], .int .i64 r4]) ∧ Kd.S k59 59 w' w.heap.size (fun _ => True) v1_ r2 ∧ Below w.heap.size w w' := by
 have hu32 := Tryd.underlying32; have hu37 := Tryd.underlying37; have HR0_1 := Aside0.mk hr0_1; have HC0_1 := Aside0.mk hc0_1; clear hr0_1 hc0_1; have HR0_2 := Aside0.mk hr0_2; have HC0_2 := Aside0.mk hc0_2; clear hr0_2 hc0_2; have HB := Aside0.mk (Below.refl w.heap.size w); have H : (tree_Find.l0 k a1 0 l0_1 (l0_1.length : Int) 0 (⟨#[]⟩ : ByteArray) ([] : List (S59)) (⟨#[]⟩ : ByteArray)) = some (r1, r2, r3, r4) := h; clear h; have H' := Aside0.mk H; clear H
 go_enter Tryd.func9, Tryd.ntmps9
 go_wp2_with (first | ((with_reducible refine gate_dst (N := 2) rfl ?_); refine zbox (N := 2) #[.string a0_0, .slice A0_1 l0_1.length c0_1, .slice A0_2 l0_2.length c0_2] 32 (fun gb211 hg w3 hbox hb => ?_); have n0_ := zw hb; have n1_ := Aside0.mk hbox; have n2_ := zg w hg; have n3_ := zg w hg; clear HB; have HB := n0_; have BK211 := n1_; have GW211 := n2_; have GE211 := n3_; clear n0_ n1_ n2_ n3_; clear hb hbox hg) | ((with_reducible refine gate_dst (N := 4) rfl ?_); refine zbox (N := 4) #[.string (⟨#[]⟩ : ByteArray), .slice none 0 0, .string (⟨#[]⟩ : ByteArray)] 37 (fun gb212 hg w4 hbox hb => ?_); replace BK212 := Aside0.mk hbox; replace GW212 := zg w hg; replace GE212 := zg w hg; replace HB := zw hb; replace NB211_212 := zn BK211 hg; replace NB212_211 := zm BK211 hg; replace BK211 := zb BK211 hb; clear hb hbox hg) | ((with_reducible refine gate_dst (N := 6) rfl ?_); refine zbox (N := 6) #[.string (⟨#[]⟩ : ByteArray), .slice none 0 0, .string (⟨#[]⟩ : ByteArray)] 37 (fun gb213 hg w5 hbox hb => ?_); replace BK213 := Aside0.mk hbox; replace GW213 := zg w hg; replace GE213 := zg w hg; replace HB := zw hb; replace NB211_213 := zn BK211 hg; replace NB213_211 := zm BK211 hg; replace BK211 := zb BK211 hb; replace NB212_213 := zn BK212 hg; replace NB213_212 := zm BK212 hg; replace BK212 := zb BK212 hb; clear hb hbox hg; have hnb6 := NB211_212.out; have hnc6 := NB212_211.out; have hnb7 := NB211_213.out; have hnc7 := NB213_211.out; have hcz8_0 := zc0 BK211; have hcz8_1 := zc1 BK211; have hcz8_2 := zc2 BK211; have hfz8_0 := zf BK211 0; have hfz8_1 := zf BK211 1; have hfz8_2 := zf BK211 2))
 go_loopg [7, 13] k (fun kq v7 v13 w' => ∃ (x7_1 : Int) (x13_1 : Int) (x214000_1 : ByteArray) (x214001_1 : List (S59)) (x214002_1 : ByteArray) (u214001 : Value), v7 = .int .i64 x7_1 ∧ v13 = .int .i64 x13_1 ∧ Aside0 (tree_Find.l0 kq a1 x7_1 l0_1 (l0_1.length : Int) x13_1 x214000_1 x214001_1 x214002_1 = some (r1, r2, r3, r4)) ∧ Aside0 (kq ≤ k) ∧ Aside0 (Kd.S k59 59 w' w.heap.size (fun _ => True) u214001 x214001_1) ∧ Aside0 (w'.heap[gb211]? = some (.cells #[.string a0_0, (.slice A0_1 l0_1.length c0_1), (.slice A0_2 l0_2.length c0_2)] 32 (0, 0))) ∧ Aside0 (w'.heap[gb212]? = some (.cells #[.string (⟨#[]⟩ : ByteArray), (.slice none 0 0), .string (⟨#[]⟩ : ByteArray)] 37 (0, 0))) ∧ Aside0 (w'.heap[gb213]? = some (.cells #[.string x214000_1, u214001, .string x214002_1] 37 (0, 0))) ∧ Aside0 (Below w.heap.size w w'))
 case atStart => exact ⟨(0), (0), ((⟨#[]⟩ : ByteArray)), (([] : List (S59))), ((⟨#[]⟩ : ByteArray)), (.slice none 0 0), zS, zS, H', ⟨Nat.le_refl _⟩, ⟨by first | exact Kd.S_nil _ _ _ _ _ | exact Kd.N_nil _ _ _ _ _ | exact Kd.V_nil _ _ _ _ _ | exact Kd.Q_nil _ _ _ _ _ | exact Kd.R_nil _ _ _ _ _⟩, ⟨blk_below BK211.out zX⟩, ⟨blk_below BK212.out zX⟩, ⟨blk_below BK213.out zX⟩, ⟨zB⟩⟩
 case round =>
  clear H'; clear hcz8_0 hcz8_1 hcz8_2 hfz8_0 hfz8_1 hfz8_2; obtain ⟨x7_1, x13_1, x214000_1, x214001_1, x214002_1, u214001, rfl, rfl, HA, HK1, HO_214001, BK211, BK212, BK213, HB⟩ := hrel
  cases gk with
  | zero => exact absurd HA.out (by simp [tree_Find.l0])
  | succ k1 =>
   have H := HA.out; clear HA; simp only [tree_Find.l0] at H; replace H := zId H; rcases H with ⟨-, c9b0, H⟩ | ⟨-, c9b0, H⟩
   ·replace H := zJd H; obtain ⟨-, c10b0, H⟩ := H; replace H := zJd H; obtain ⟨-, c11b0, H⟩ := H; replace H := zIe H; rcases H with ⟨-, c12b0, c12b1, H⟩ | ⟨c12, c12b0, c12b1, H⟩
    ·replace H := zIe H; rcases H with ⟨-, c13b0, c13b1, H⟩ | ⟨c13, c13b0, c13b1, H⟩
     ·replace H := Option.bind_eq_some_iff.mp H; obtain ⟨⟨t216, t217, t220⟩, A140, H⟩ := H; replace H : (tree_Find.l0 k1 a1 (wrap64 (x7_1 + 1)) l0_1 (l0_1.length : Int) (wrap64 (x13_1 + 1)) t216 t217 t220) = some (r1, r2, r3, r4) := H; have A14 := Aside0.mk A140; clear A140; have H' := Aside0.mk H; clear H; have p214 := zQ (0 ≤ (x13_1 : Int)); have q214 := zQ (x13_1 < (l0_1.length : Int)); obtain ⟨ad214, A214_1, c214_1, e214, hx214_0, hx214_1, hx214_2, hl214_1, hi214_1⟩ := at_T37 HR0_1.out x13_1 p214 q214
      cases e214
      replace hx214_0 := zx HB hx214_0; replace hx214_1 := zx HB hx214_1; replace hx214_2 := zx HB hx214_2; have HR214_1 := Aside0.mk hi214_1; have HC214_1 := Aside0.mk hl214_1; clear hi214_1 hl214_1; replace p214 := eq_true p214; replace q214 := eq_true q214
      go_wp2_with (first | ((with_reducible refine gate_dst (N := 9) rfl ?_); refine zbox (N := 9) #[.string (⟨#[]⟩ : ByteArray), .slice none 0 0, .string (⟨#[]⟩ : ByteArray)] 37 (fun gb215 hg w15 hbox hb => ?_); replace HO_214001 := Aside0.mk (Kd.S_below (Kd.S_below HO_214001.out zX) hb); replace BK215 := Aside0.mk hbox; replace GW215 := zg w hg; replace GE215 := zg w hg; replace HB := zw hb; replace NB211_215 := zn BK211 hg; replace NB215_211 := zm BK211 hg; replace BK211 := zb BK211 hb; replace NB212_215 := zn BK212 hg; replace NB215_212 := zm BK212 hg; replace BK212 := zb BK212 hb; replace NB213_215 := zn BK213 hg; replace NB215_213 := zm BK213 hg; replace BK213 := zb BK213 hb; clear hb hbox hg; have hnb16 := NB215_211.out; have hnc16 := NB211_215.out; have hnb17 := NB215_212.out; have hnc17 := NB212_215.out; have hnb18 := NB215_213.out; have hnc18 := NB213_215.out; have hcz19_0 := zc0 BK215; have hcz19_1 := zc1 BK215; have hcz19_2 := zc2 BK215; have hfz19_0 := zf BK215 0; have hfz19_1 := zf BK215 1; have hfz19_2 := zf BK215 2) | ((with_reducible refine gate_callee (f := 19) rfl ?_); refine goesL_ (some 24) rfl rfl Tryd.func19 (by kernel_rfl) rfl #[.agg #[.string ((rd_T37 l0_1 x13_1).f0), .slice A214_1 ((rd_T37 l0_1 x13_1).f1).length c214_1, .string ((rd_T37 l0_1 x13_1).f2)]] rfl zA ?_; (with_reducible refine (line_Clone.calls ((rd_T37 l0_1 x13_1).f0) _ _ ((rd_T37 l0_1 x13_1).f1) ((rd_T37 l0_1 x13_1).f2) t216 t217 t220 _ zG ?side1 ?side2 A14.out).mono ?_); (case side1 => exact Kd.C_below HR214_1.out zB); (case side2 => exact HC214_1.out); rintro e w20 ⟨v218, rfl, ho0, hb⟩; refine ⟨_, rfl, ?_⟩; replace HO219 := Aside0.mk (Kd.S_lower (Kd.S_new' ho0 (Kd.S_lt (by (with_reducible repeat (first | apply Kd.S_alloc | apply Kd.S_drewN | apply Kd.S_drew)); exact (Kd.S_mono (Kd.S_far (p := ⟨gb215, 2, none⟩) (Kd.S_far (p := ⟨gb215, 1, none⟩) (Kd.S_far (p := ⟨gb215, 0, none⟩) (Kd.S_types HO_214001.out BK215.out (by decide)) (fun _ hk => hk.2) (.string ((rd_T37 l0_1 x13_1).f0))) (fun _ hk => hk.2) (.slice A214_1 ((rd_T37 l0_1 x13_1).f1).length c214_1)) (fun _ hk => hk.2) (.string ((rd_T37 l0_1 x13_1).f2))) (fun _ h_ => h_.1))))) (below_size zB)); replace HO_214001 := Aside0.mk (Kd.S_elder' (by (with_reducible repeat (first | apply Kd.S_alloc | apply Kd.S_drewN | apply Kd.S_drew)); exact (Kd.S_mono (Kd.S_far (p := ⟨gb215, 2, none⟩) (Kd.S_far (p := ⟨gb215, 1, none⟩) (Kd.S_far (p := ⟨gb215, 0, none⟩) (Kd.S_types HO_214001.out BK215.out (by decide)) (fun _ hk => hk.2) (.string ((rd_T37 l0_1 x13_1).f0))) (fun _ hk => hk.2) (.slice A214_1 ((rd_T37 l0_1 x13_1).f1).length c214_1)) (fun _ hk => hk.2) (.string ((rd_T37 l0_1 x13_1).f2))) (fun _ h_ => h_.1))) (Kd.S_base ho0) hb); replace BK211 := Aside0.mk (blk_below (g := gb211) (o := .cells #[.string a0_0, .slice (some ad214) l0_1.length c0_1, .slice A0_2 l0_2.length c0_2] 32 (0, 0)) (by (with_reducible repeat (first | refine blk_drewN ?_ _ | refine blk_drew ?_ | refine blk_alloc ?_ _)); refine blk_far ?_ NB211_215.out _; (with_reducible repeat (first | refine blk_drewN ?_ _ | refine blk_drew ?_ | refine blk_alloc ?_ _)); refine blk_far ?_ NB211_215.out _; (with_reducible repeat (first | refine blk_drewN ?_ _ | refine blk_drew ?_ | refine blk_alloc ?_ _)); refine blk_far ?_ NB211_215.out _; (with_reducible repeat (first | refine blk_drewN ?_ _ | refine blk_drew ?_ | refine blk_alloc ?_ _)); exact BK211.out) hb); replace BK212 := Aside0.mk (blk_below (g := gb212) (o := .cells #[.string (⟨#[]⟩ : ByteArray), .slice none 0 0, .string (⟨#[]⟩ : ByteArray)] 37 (0, 0)) (by (with_reducible repeat (first | refine blk_drewN ?_ _ | refine blk_drew ?_ | refine blk_alloc ?_ _)); refine blk_far ?_ NB212_215.out _; (with_reducible repeat (first | refine blk_drewN ?_ _ | refine blk_drew ?_ | refine blk_alloc ?_ _)); refine blk_far ?_ NB212_215.out _; (with_reducible repeat (first | refine blk_drewN ?_ _ | refine blk_drew ?_ | refine blk_alloc ?_ _)); refine blk_far ?_ NB212_215.out _; (with_reducible repeat (first | refine blk_drewN ?_ _ | refine blk_drew ?_ | refine blk_alloc ?_ _)); exact BK212.out) hb); replace BK213 := Aside0.mk (blk_below (g := gb213) (o := .cells #[.string x214000_1, u214001, .string x214002_1] 37 (0, 0)) (by (with_reducible repeat (first | refine blk_drewN ?_ _ | refine blk_drew ?_ | refine blk_alloc ?_ _)); refine blk_far ?_ NB213_215.out _; (with_reducible repeat (first | refine blk_drewN ?_ _ | refine blk_drew ?_ | refine blk_alloc ?_ _)); refine blk_far ?_ NB213_215.out _; (with_reducible repeat (first | refine blk_drewN ?_ _ | refine blk_drew ?_ | refine blk_alloc ?_ _)); refine blk_far ?_ NB213_215.out _; (with_reducible repeat (first | refine blk_drewN ?_ _ | refine blk_drew ?_ | refine blk_alloc ?_ _)); exact BK213.out) hb); replace BK215 := Aside0.mk (blk_below (g := gb215) (o := .cells #[.string ((rd_T37 l0_1 x13_1).f0), .slice A214_1 ((rd_T37 l0_1 x13_1).f1).length c214_1, .string ((rd_T37 l0_1 x13_1).f2)] 37 (0, 0)) (by (with_reducible repeat (first | refine blk_drewN ?_ _ | refine blk_drew ?_ | refine blk_alloc ?_ _)); refine blk_put (cs := #[.string ((rd_T37 l0_1 x13_1).f0), .slice A214_1 ((rd_T37 l0_1 x13_1).f1).length c214_1, .string (⟨#[]⟩ : ByteArray)]) ?_ 2 _ rfl; (with_reducible repeat (first | refine blk_drewN ?_ _ | refine blk_drew ?_ | refine blk_alloc ?_ _)); refine blk_put (cs := #[.string ((rd_T37 l0_1 x13_1).f0), .slice none 0 0, .string (⟨#[]⟩ : ByteArray)]) ?_ 1 _ rfl; (with_reducible repeat (first | refine blk_drewN ?_ _ | refine blk_drew ?_ | refine blk_alloc ?_ _)); refine blk_put (cs := #[.string (⟨#[]⟩ : ByteArray), .slice none 0 0, .string (⟨#[]⟩ : ByteArray)]) ?_ 0 _ rfl; (with_reducible repeat (first | refine blk_drewN ?_ _ | refine blk_drew ?_ | refine blk_alloc ?_ _)); exact BK215.out) hb); replace HB := zw hb; (try clear hb); (try clear ho0); have hnb21 := NB213_211.out; have hnc21 := NB211_213.out; have hnb22 := NB213_212.out; have hnc22 := NB212_213.out; have hcz23_0 := zc0 BK213; have hcz23_1 := zc1 BK213; have hcz23_2 := zc2 BK213; have hfz23_0 := zf BK213 0; have hfz23_1 := zf BK213 1; have hfz23_2 := zf BK213 2; obtain ⟨Ao24, co24, eo24⟩ := Kd.S_slice HO219.out; subst eo24))
      go_roundg k1
      case measure => have := HK1.out; omega
      case rel => exact ⟨(wrap64 (x7_1 + 1)), (wrap64 (x13_1 + 1)), (t216), (t217), (t220), (.slice Ao24 t217.length co24), zS, zS, H', ⟨by have := HK1.out; omega⟩, ⟨by (with_reducible repeat (first | apply Kd.S_alloc | apply Kd.S_drewN | apply Kd.S_drew)); exact Kd.S_mono (Kd.S_far (p := ⟨gb213, 2, none⟩) (Kd.S_far (p := ⟨gb213, 1, none⟩) (Kd.S_far (p := ⟨gb213, 0, none⟩) (Kd.S_types HO219.out BK213.out (by decide)) (fun _ hk => hk.2) (.string t216)) (fun _ hk => hk.2) (.slice Ao24 t217.length co24)) (fun _ hk => hk.2) (.string t220)) (fun _ hk => trivial)⟩, ⟨by (with_reducible repeat (first | refine blk_drewN ?_ _ | refine blk_drew ?_ | refine blk_alloc ?_ _)); refine blk_far ?_ NB211_213.out _; (with_reducible repeat (first | refine blk_drewN ?_ _ | refine blk_drew ?_ | refine blk_alloc ?_ _)); refine blk_far ?_ NB211_213.out _; (with_reducible repeat (first | refine blk_drewN ?_ _ | refine blk_drew ?_ | refine blk_alloc ?_ _)); refine blk_far ?_ NB211_213.out _; (with_reducible repeat (first | refine blk_drewN ?_ _ | refine blk_drew ?_ | refine blk_alloc ?_ _)); exact BK211.out⟩, ⟨by (with_reducible repeat (first | refine blk_drewN ?_ _ | refine blk_drew ?_ | refine blk_alloc ?_ _)); refine blk_far ?_ NB212_213.out _; (with_reducible repeat (first | refine blk_drewN ?_ _ | refine blk_drew ?_ | refine blk_alloc ?_ _)); refine blk_far ?_ NB212_213.out _; (with_reducible repeat (first | refine blk_drewN ?_ _ | refine blk_drew ?_ | refine blk_alloc ?_ _)); refine blk_far ?_ NB212_213.out _; (with_reducible repeat (first | refine blk_drewN ?_ _ | refine blk_drew ?_ | refine blk_alloc ?_ _)); exact BK212.out⟩, ⟨by (with_reducible repeat (first | refine blk_drewN ?_ _ | refine blk_drew ?_ | refine blk_alloc ?_ _)); refine blk_put (cs := #[.string t216, .slice Ao24 t217.length co24, .string x214002_1]) ?_ 2 _ rfl; (with_reducible repeat (first | refine blk_drewN ?_ _ | refine blk_drew ?_ | refine blk_alloc ?_ _)); refine blk_put (cs := #[.string t216, u214001, .string x214002_1]) ?_ 1 _ rfl; (with_reducible repeat (first | refine blk_drewN ?_ _ | refine blk_drew ?_ | refine blk_alloc ?_ _)); refine blk_put (cs := #[.string x214000_1, u214001, .string x214002_1]) ?_ 0 _ rfl; (with_reducible repeat (first | refine blk_drewN ?_ _ | refine blk_drew ?_ | refine blk_alloc ?_ _)); exact BK213.out⟩, ⟨zB⟩⟩
     ·have H' := Aside0.mk H; clear H; have p214 := zQ (0 ≤ (x13_1 : Int)); have q214 := zQ (x13_1 < (l0_1.length : Int)); obtain ⟨ad214, A214_1, c214_1, e214, hx214_0, hx214_1, hx214_2, hl214_1, hi214_1⟩ := at_T37 HR0_1.out x13_1 p214 q214
      cases e214
      replace hx214_0 := zx HB hx214_0; replace hx214_1 := zx HB hx214_1; replace hx214_2 := zx HB hx214_2; have HR214_1 := Aside0.mk hi214_1; have HC214_1 := Aside0.mk hl214_1; clear hi214_1 hl214_1; replace p214 := eq_true p214; replace q214 := eq_true q214
      go_wp2_with (first | ((with_reducible refine gate_dst (N := 9) rfl ?_); refine zbox (N := 9) #[.string (⟨#[]⟩ : ByteArray), .slice none 0 0, .string (⟨#[]⟩ : ByteArray)] 37 (fun gb215 hg w25 hbox hb => ?_); replace HO_214001 := Aside0.mk (Kd.S_below (Kd.S_below HO_214001.out zX) hb); replace BK215 := Aside0.mk hbox; replace GW215 := zg w hg; replace GE215 := zg w hg; replace HB := zw hb; replace NB211_215 := zn BK211 hg; replace NB215_211 := zm BK211 hg; replace BK211 := zb BK211 hb; replace NB212_215 := zn BK212 hg; replace NB215_212 := zm BK212 hg; replace BK212 := zb BK212 hb; replace NB213_215 := zn BK213 hg; replace NB215_213 := zm BK213 hg; replace BK213 := zb BK213 hb; clear hb hbox hg; have hnb26 := NB215_211.out; have hnc26 := NB211_215.out; have hnb27 := NB215_212.out; have hnc27 := NB212_215.out; have hnb28 := NB215_213.out; have hnc28 := NB213_215.out; have hcz29_0 := zc0 BK215; have hcz29_1 := zc1 BK215; have hcz29_2 := zc2 BK215; have hfz29_0 := zf BK215 0; have hfz29_1 := zf BK215 1; have hfz29_2 := zf BK215 2))
      go_roundg k1
      case measure => have := HK1.out; omega
      case rel => exact ⟨(wrap64 (x7_1 + 1)), (wrap64 (x13_1 + 1)), (x214000_1), (x214001_1), (x214002_1), (u214001), zS, zS, H', ⟨by have := HK1.out; omega⟩, ⟨by (with_reducible repeat (first | apply Kd.S_alloc | apply Kd.S_drewN | apply Kd.S_drew)); exact Kd.S_mono (Kd.S_far (p := ⟨gb215, 2, none⟩) (Kd.S_far (p := ⟨gb215, 1, none⟩) (Kd.S_far (p := ⟨gb215, 0, none⟩) (Kd.S_types HO_214001.out BK215.out (by decide)) (fun _ hk => hk.2) (.string ((rd_T37 l0_1 x13_1).f0))) (fun _ hk => hk.2) (.slice A214_1 ((rd_T37 l0_1 x13_1).f1).length c214_1)) (fun _ hk => hk.2) (.string ((rd_T37 l0_1 x13_1).f2))) (fun _ hk => trivial)⟩, ⟨by (with_reducible repeat (first | refine blk_drewN ?_ _ | refine blk_drew ?_ | refine blk_alloc ?_ _)); refine blk_far ?_ NB211_215.out _; (with_reducible repeat (first | refine blk_drewN ?_ _ | refine blk_drew ?_ | refine blk_alloc ?_ _)); refine blk_far ?_ NB211_215.out _; (with_reducible repeat (first | refine blk_drewN ?_ _ | refine blk_drew ?_ | refine blk_alloc ?_ _)); refine blk_far ?_ NB211_215.out _; (with_reducible repeat (first | refine blk_drewN ?_ _ | refine blk_drew ?_ | refine blk_alloc ?_ _)); exact BK211.out⟩, ⟨by (with_reducible repeat (first | refine blk_drewN ?_ _ | refine blk_drew ?_ | refine blk_alloc ?_ _)); refine blk_far ?_ NB212_215.out _; (with_reducible repeat (first | refine blk_drewN ?_ _ | refine blk_drew ?_ | refine blk_alloc ?_ _)); refine blk_far ?_ NB212_215.out _; (with_reducible repeat (first | refine blk_drewN ?_ _ | refine blk_drew ?_ | refine blk_alloc ?_ _)); refine blk_far ?_ NB212_215.out _; (with_reducible repeat (first | refine blk_drewN ?_ _ | refine blk_drew ?_ | refine blk_alloc ?_ _)); exact BK212.out⟩, ⟨by (with_reducible repeat (first | refine blk_drewN ?_ _ | refine blk_drew ?_ | refine blk_alloc ?_ _)); refine blk_far ?_ NB213_215.out _; (with_reducible repeat (first | refine blk_drewN ?_ _ | refine blk_drew ?_ | refine blk_alloc ?_ _)); refine blk_far ?_ NB213_215.out _; (with_reducible repeat (first | refine blk_drewN ?_ _ | refine blk_drew ?_ | refine blk_alloc ?_ _)); refine blk_far ?_ NB213_215.out _; (with_reducible repeat (first | refine blk_drewN ?_ _ | refine blk_drew ?_ | refine blk_alloc ?_ _)); exact BK213.out⟩, ⟨zB⟩⟩
    ·have H' := Aside0.mk H; clear H; have p214 := zQ (0 ≤ (x13_1 : Int)); have q214 := zQ (x13_1 < (l0_1.length : Int)); obtain ⟨ad214, A214_1, c214_1, e214, hx214_0, hx214_1, hx214_2, hl214_1, hi214_1⟩ := at_T37 HR0_1.out x13_1 p214 q214
     cases e214
     replace hx214_0 := zx HB hx214_0; replace hx214_1 := zx HB hx214_1; replace hx214_2 := zx HB hx214_2; have HR214_1 := Aside0.mk hi214_1; have HC214_1 := Aside0.mk hl214_1; clear hi214_1 hl214_1; replace p214 := eq_true p214; replace q214 := eq_true q214
     go_wp2_with (first | ((with_reducible refine gate_dst (N := 9) rfl ?_); refine zbox (N := 9) #[.string (⟨#[]⟩ : ByteArray), .slice none 0 0, .string (⟨#[]⟩ : ByteArray)] 37 (fun gb215 hg w30 hbox hb => ?_); replace HO_214001 := Aside0.mk (Kd.S_below (Kd.S_below HO_214001.out zX) hb); replace BK215 := Aside0.mk hbox; replace GW215 := zg w hg; replace GE215 := zg w hg; replace HB := zw hb; replace NB211_215 := zn BK211 hg; replace NB215_211 := zm BK211 hg; replace BK211 := zb BK211 hb; replace NB212_215 := zn BK212 hg; replace NB215_212 := zm BK212 hg; replace BK212 := zb BK212 hb; replace NB213_215 := zn BK213 hg; replace NB215_213 := zm BK213 hg; replace BK213 := zb BK213 hb; clear hb hbox hg; have hnb31 := NB215_211.out; have hnc31 := NB211_215.out; have hnb32 := NB215_212.out; have hnc32 := NB212_215.out; have hnb33 := NB215_213.out; have hnc33 := NB213_215.out; have hcz34_0 := zc0 BK215; have hcz34_1 := zc1 BK215; have hcz34_2 := zc2 BK215; have hfz34_0 := zf BK215 0; have hfz34_1 := zf BK215 1; have hfz34_2 := zf BK215 2))
     go_roundg k1
     case measure => have := HK1.out; omega
     case rel => exact ⟨(x7_1), (wrap64 (x13_1 + 1)), (x214000_1), (x214001_1), (x214002_1), (u214001), zS, zS, H', ⟨by have := HK1.out; omega⟩, ⟨by (with_reducible repeat (first | apply Kd.S_alloc | apply Kd.S_drewN | apply Kd.S_drew)); exact Kd.S_mono (Kd.S_far (p := ⟨gb215, 2, none⟩) (Kd.S_far (p := ⟨gb215, 1, none⟩) (Kd.S_far (p := ⟨gb215, 0, none⟩) (Kd.S_types HO_214001.out BK215.out (by decide)) (fun _ hk => hk.2) (.string ((rd_T37 l0_1 x13_1).f0))) (fun _ hk => hk.2) (.slice A214_1 ((rd_T37 l0_1 x13_1).f1).length c214_1)) (fun _ hk => hk.2) (.string ((rd_T37 l0_1 x13_1).f2))) (fun _ hk => trivial)⟩, ⟨by (with_reducible repeat (first | refine blk_drewN ?_ _ | refine blk_drew ?_ | refine blk_alloc ?_ _)); refine blk_far ?_ NB211_215.out _; (with_reducible repeat (first | refine blk_drewN ?_ _ | refine blk_drew ?_ | refine blk_alloc ?_ _)); refine blk_far ?_ NB211_215.out _; (with_reducible repeat (first | refine blk_drewN ?_ _ | refine blk_drew ?_ | refine blk_alloc ?_ _)); refine blk_far ?_ NB211_215.out _; (with_reducible repeat (first | refine blk_drewN ?_ _ | refine blk_drew ?_ | refine blk_alloc ?_ _)); exact BK211.out⟩, ⟨by (with_reducible repeat (first | refine blk_drewN ?_ _ | refine blk_drew ?_ | refine blk_alloc ?_ _)); refine blk_far ?_ NB212_215.out _; (with_reducible repeat (first | refine blk_drewN ?_ _ | refine blk_drew ?_ | refine blk_alloc ?_ _)); refine blk_far ?_ NB212_215.out _; (with_reducible repeat (first | refine blk_drewN ?_ _ | refine blk_drew ?_ | refine blk_alloc ?_ _)); refine blk_far ?_ NB212_215.out _; (with_reducible repeat (first | refine blk_drewN ?_ _ | refine blk_drew ?_ | refine blk_alloc ?_ _)); exact BK212.out⟩, ⟨by (with_reducible repeat (first | refine blk_drewN ?_ _ | refine blk_drew ?_ | refine blk_alloc ?_ _)); refine blk_far ?_ NB213_215.out _; (with_reducible repeat (first | refine blk_drewN ?_ _ | refine blk_drew ?_ | refine blk_alloc ?_ _)); refine blk_far ?_ NB213_215.out _; (with_reducible repeat (first | refine blk_drewN ?_ _ | refine blk_drew ?_ | refine blk_alloc ?_ _)); refine blk_far ?_ NB213_215.out _; (with_reducible repeat (first | refine blk_drewN ?_ _ | refine blk_drew ?_ | refine blk_alloc ?_ _)); exact BK213.out⟩, ⟨zB⟩⟩
   ·simp only [Option.some.injEq, Prod.mk.injEq] at H; obtain ⟨rfl, rfl, rfl, rfl⟩ := H; have hnb35 := NB213_211.out; have hnc35 := NB211_213.out; have hnb36 := NB213_212.out; have hnc36 := NB212_213.out; have hcz37_0 := zc0 BK213; have hcz37_1 := zc1 BK213; have hcz37_2 := zc2 BK213; have hfz37_0 := zf BK213 0; have hfz37_1 := zf BK213 1; have hfz37_2 := zf BK213 2; have hnb38 := NB212_211.out; have hnc38 := NB211_212.out; have hcz39_0 := zc0 BK212
    have hcz39_1 := zc1 BK212; have hcz39_2 := zc2 BK212; have hfz39_0 := zf BK212 0; have hfz39_1 := zf BK212 1; have hfz39_2 := zf BK212 2; obtain ⟨Ao40, co40, eo40⟩ := Kd.S_slice HO_214001.out; subst eo40; go_wp2
    refine bodyPost_ret (results_ct rfl _ _ gb212 37 #[.string x214000_1, .slice Ao40 x214001_1.length co40, .string x214002_1] (0, 0) _ rfl (by (with_reducible repeat (first | refine blk_drewN ?_ _ | refine blk_drew ?_ | refine blk_alloc ?_ _)); refine blk_put (cs := #[.string x214000_1, .slice Ao40 x214001_1.length co40, .string (⟨#[]⟩ : ByteArray)]) ?_ 2 _ rfl; (with_reducible repeat (first | refine blk_drewN ?_ _ | refine blk_drew ?_ | refine blk_alloc ?_ _)); refine blk_put (cs := #[.string x214000_1, .slice none 0 0, .string (⟨#[]⟩ : ByteArray)]) ?_ 1 _ rfl; (with_reducible repeat (first | refine blk_drewN ?_ _ | refine blk_drew ?_ | refine blk_alloc ?_ _)); refine blk_put (cs := #[.string (⟨#[]⟩ : ByteArray), .slice none 0 0, .string (⟨#[]⟩ : ByteArray)]) ?_ 0 _ rfl; (with_reducible repeat (first | refine blk_drewN ?_ _ | refine blk_drew ?_ | refine blk_alloc ?_ _)); exact BK212.out) Tryd.underlying37 rfl (by kernel_rfl)) rfl ?_
    exact ⟨_, zE, by (with_reducible repeat (first | apply Kd.S_alloc | apply Kd.S_drewN | apply Kd.S_drew)); exact Kd.S_mono (Kd.S_far (p := ⟨gb212, 2, none⟩) (Kd.S_far (p := ⟨gb212, 1, none⟩) (Kd.S_far (p := ⟨gb212, 0, none⟩) (Kd.S_types HO_214001.out BK212.out (by decide)) (fun _ hk => hk.2) (.string x214000_1)) (fun _ hk => hk.2) (.slice Ao40 x214001_1.length co40)) (fun _ hk => hk.2) (.string x214002_1)) (fun _ hk => trivial), zB⟩
def trystlaw10_Ours.l0 : Nat → Int → Int → ByteArray → List (S59) → ByteArray → ByteArray → List (S62) → ByteArray → Option (ByteArray × (List (S62)) × ByteArray)
 | 0, _, _, _, _, _, _, _, _ => none
 | k + 1, x12, x13, x222000, x222001, x222002, x224000, x224001, x224002 => if x13 < x12 then (if 0 ≤ x13 then (if x13 < (x222001.length : Int) then (if x224001.length < 3518437208883 then (trystlaw10_Ours.l0 k x12 (wrap64 (x13 + 1)) x222000 x222001 x222002 x224000 (x224001 ++ [(⟨(rd_T59 x222001 x13).f0, (rd_T59 x222001 x13).f1⟩ : S62)]) x224002) else (none)) else (none)) else (none)) else (some (x224000, x224001, x224002))
def trystlaw10_Ours.f (k : Nat) (a0_0 : ByteArray) (l0_1 : List (S59)) (a0_2 : ByteArray) : Option (ByteArray × (List (S62)) × ByteArray) := trystlaw10_Ours.l0 k (l0_1.length : Int) 0 a0_0 l0_1 a0_2 a0_0 ([] : List (S62)) a0_2
def trystlaw10_Ours.T5 : Bool × List (List Nat × List Nat) := (true, [([], []), ([0], [0]), ([], []), ([2], [2]), ([], []), ([3, 4], [3, 4]), ([5], [5]), ([6], [6]), ([1, 7], [1, 7]), ([0, 1, 2, 3, 4, 5, 6, 7, 8], []), ([9, 8, 8, 0, 1, 2, 3, 4, 5, 6, 7, 8], [8, 9])])
def trystlaw10_Ours.B5 : List Nat := [0, 1, 0, 4, 0, 28, 60, 124, 255, 511, 1023]
theorem trystlaw10_Ours.tab5 : rtab .any (opsOf Tryd.f12 5) = trystlaw10_Ours.T5 := by kernel_rfl
theorem trystlaw10_Ours.bits5 : waitsOk trystlaw10_Ours.T5.2 trystlaw10_Ours.B5 = true := by kernel_rfl
set_option maxHeartbeats 8000000 in
set_option maxRecDepth 100000 in
theorem trystlaw10_Ours.calls (k : Nat) (a0_0 : ByteArray) (P0_1_ : Nat → Prop) (A0_1 : Option Addr) (c0_1 : Nat) (l0_1 : List (S59)) (a0_2 : ByteArray) (r1 : ByteArray) (r2 : List (S62)) (r3 : ByteArray) (w : World) (hG : GG w) (hs0_1 : Kd.V k59 59 w w.heap.size (fun k_ => P0_1_ k_) (.slice A0_1 l0_1.length c0_1) l0_1) (h : trystlaw10_Ours.f k a0_0 l0_1 a0_2 = some (r1, r2, r3)) :
  Calls Tryd.prog 12 #[.agg #[.string a0_0, .slice A0_1 l0_1.length c0_1, .string a0_2]] w fun e w' => ∃ v1_ : Value, e = .returned (.agg #[.string r1, v1_, .string r3]) ∧ Kd.N k62 62 w' w.heap.size (fun k_ => (P0_1_ k_ ∨ w.heap.size ≤ k_)) v1_ r2 ∧ Below w.heap.size w w' := by
 have hu37 := Tryd.underlying37; have hu42 := Tryd.underlying42; have hu59 := Tryd.underlying59; have HO0_1 := Aside0.mk (show Kd.V k59 59 w w.heap.size (fun k_ => (P0_1_ k_ ∨ w.heap.size ≤ k_)) (.slice A0_1 l0_1.length c0_1) l0_1 from Kd.V_mono hs0_1 (fun k_ hk => .inl hk)); have HB := Aside0.mk (Below.refl w.heap.size w); have H : (trystlaw10_Ours.l0 k (l0_1.length : Int) 0 a0_0 l0_1 a0_2 a0_0 ([] : List (S62)) a0_2) = some (r1, r2, r3) := h; clear h; have H' := Aside0.mk H; clear H
 go_enter Tryd.func12, Tryd.ntmps12
 go_wp2_with (first | ((with_reducible refine gate_dst (N := 1) rfl ?_); refine zbox (N := 1) #[.string a0_0, .slice A0_1 l0_1.length c0_1, .string a0_2] 37 (fun gb221 hg w2 hbox hb => ?_); have n0_ := Aside0.mk (Kd.V_below (Kd.V_elderB (Kd.V_below HO0_1.out zX) gb221 (Nat.le_of_eq hg.symm)) hb); have n1_ := zw hb; have n2_ := Aside0.mk hbox; have n3_ := zg w hg; have n4_ := zg w hg; clear HO0_1; clear HB; have HO0_1 := n0_; have HB := n1_; have BK221 := n2_; have GW221 := n3_; have GE221 := n4_; clear n0_ n1_ n2_ n3_ n4_; clear hb hbox hg) | ((with_reducible refine gate_dst (N := 2) rfl ?_); refine zbox (N := 2) #[.string (⟨#[]⟩ : ByteArray), .slice none 0 0, .string (⟨#[]⟩ : ByteArray)] 42 (fun gb222 hg w3 hbox hb => ?_); replace HO0_1 := Aside0.mk (Kd.V_below (Kd.V_elderB (Kd.V_below HO0_1.out zX) gb222 (Nat.le_of_eq hg.symm)) hb); replace BK222 := Aside0.mk hbox; replace GW222 := zg w hg; replace GE222 := zg w hg; replace HB := zw hb; replace NB221_222 := zn BK221 hg; replace NB222_221 := zm BK221 hg; replace BK221 := zb BK221 hb; clear hb hbox hg; have hnb4 := NB221_222.out; have hnc4 := NB222_221.out; have hcz5_0 := zc0 BK221; have hcz5_1 := zc1 BK221; have hcz5_2 := zc2 BK221; have hfz5_0 := zf BK221 0; have hfz5_1 := zf BK221 1; have hfz5_2 := zf BK221 2) | ((with_reducible refine gate_dst (N := 3) rfl ?_); refine zbox (N := 3) #[.string (⟨#[]⟩ : ByteArray), .slice none 0 0, .string (⟨#[]⟩ : ByteArray)] 42 (fun gb223 hg w6 hbox hb => ?_); replace HO0_1 := Aside0.mk (Kd.V_below (Kd.V_elderB (Kd.V_below HO0_1.out zX) gb223 (Nat.le_of_eq hg.symm)) hb); replace BK223 := Aside0.mk hbox; replace GW223 := zg w hg; replace GE223 := zg w hg; replace HB := zw hb; replace NB221_223 := zn BK221 hg; replace NB223_221 := zm BK221 hg; replace BK221 := zb BK221 hb; replace NB222_223 := zn BK222 hg; replace NB223_222 := zm BK222 hg; replace BK222 := zb BK222 hb; clear hb hbox hg; have hnb7 := NB223_221.out; have hnc7 := NB221_223.out; have hnb8 := NB223_222.out; have hnc8 := NB222_223.out; have hcz9_0 := zc0 BK223; have hcz9_1 := zc1 BK223; have hcz9_2 := zc2 BK223; have hfz9_0 := zf BK223 0; have hfz9_1 := zf BK223 1; have hfz9_2 := zf BK223 2; have hcz10_0 := zc0 BK221; have hcz10_1 := zc1 BK221; have hcz10_2 := zc2 BK221; have hfz10_0 := zf BK221 0; have hfz10_1 := zf BK221 1; have hfz10_2 := zf BK221 2))
 go_loopg [13] k (fun kq v13 w' => ∃ (x13_1 : Int) (x224001_1 : List (S62)) (u224001 : Value), v13 = .int .i64 x13_1 ∧ Aside0 (trystlaw10_Ours.l0 kq (l0_1.length : Int) x13_1 a0_0 l0_1 a0_2 a0_0 x224001_1 a0_2 = some (r1, r2, r3)) ∧ Aside0 (kq ≤ k) ∧ Aside0 (Kd.V k59 59 w' w.heap.size (fun k_ => (P0_1_ k_ ∨ w.heap.size ≤ k_) ∧ some k_ ≠ (u224001 : Value).ownBlock ∧ k_ ≠ gb221 ∧ k_ ≠ gb222 ∧ k_ ≠ gb223) (.slice A0_1 l0_1.length c0_1) l0_1) ∧ Aside0 (Kd.N k62 62 w' w.heap.size (fun k_ => (P0_1_ k_ ∨ w.heap.size ≤ k_) ∧ k_ ≠ gb221 ∧ k_ ≠ gb222 ∧ k_ ≠ gb223) u224001 x224001_1) ∧ Aside0 (w'.heap[gb221]? = some (.cells #[.string a0_0, (.slice A0_1 l0_1.length c0_1), .string a0_2] 37 (0, 0))) ∧ Aside0 (w'.heap[gb222]? = some (.cells #[.string (⟨#[]⟩ : ByteArray), (.slice none 0 0), .string (⟨#[]⟩ : ByteArray)] 42 (0, 0))) ∧ Aside0 (w'.heap[gb223]? = some (.cells #[.string a0_0, u224001, .string a0_2] 42 (0, 0))) ∧ Aside0 (Below w.heap.size w w'))
 case atStart => exact ⟨(0), (([] : List (S62))), (.slice none 0 0), zS, H', ⟨Nat.le_refl _⟩, ⟨by (with_reducible repeat (first | apply Kd.V_alloc | apply Kd.V_drewN | apply Kd.V_drew)); exact Kd.V_mono (Kd.V_far (p := ⟨gb223, 2, none⟩) (Kd.V_far (p := ⟨gb223, 1, none⟩) (Kd.V_far (p := ⟨gb223, 0, none⟩) (Kd.V_mono HO0_1.out (fun k_ hk => (⟨hk, hk.2⟩ : _ ∧ k_ ≠ gb223))) (fun _ hk => hk.2) (.string a0_0)) (fun _ hk => hk.2) (.slice none 0 0)) (fun _ hk => hk.2) (.string a0_2)) (fun _ hk => ⟨hk.1.1.1.1, ⟨(by simp [Value.ownBlock]), ⟨hk.1.1.1.2, ⟨hk.1.1.2, hk.1.2⟩⟩⟩⟩)⟩, ⟨by first | exact Kd.S_nil _ _ _ _ _ | exact Kd.N_nil _ _ _ _ _ | exact Kd.V_nil _ _ _ _ _ | exact Kd.Q_nil _ _ _ _ _ | exact Kd.R_nil _ _ _ _ _⟩, ⟨by (with_reducible repeat (first | refine blk_drewN ?_ _ | refine blk_drew ?_ | refine blk_alloc ?_ _)); refine blk_far ?_ NB221_223.out _; (with_reducible repeat (first | refine blk_drewN ?_ _ | refine blk_drew ?_ | refine blk_alloc ?_ _)); refine blk_far ?_ NB221_223.out _; (with_reducible repeat (first | refine blk_drewN ?_ _ | refine blk_drew ?_ | refine blk_alloc ?_ _)); refine blk_far ?_ NB221_223.out _; (with_reducible repeat (first | refine blk_drewN ?_ _ | refine blk_drew ?_ | refine blk_alloc ?_ _)); exact BK221.out⟩, ⟨by (with_reducible repeat (first | refine blk_drewN ?_ _ | refine blk_drew ?_ | refine blk_alloc ?_ _)); refine blk_far ?_ NB222_223.out _; (with_reducible repeat (first | refine blk_drewN ?_ _ | refine blk_drew ?_ | refine blk_alloc ?_ _)); refine blk_far ?_ NB222_223.out _; (with_reducible repeat (first | refine blk_drewN ?_ _ | refine blk_drew ?_ | refine blk_alloc ?_ _)); refine blk_far ?_ NB222_223.out _; (with_reducible repeat (first | refine blk_drewN ?_ _ | refine blk_drew ?_ | refine blk_alloc ?_ _)); exact BK222.out⟩, ⟨by (with_reducible repeat (first | refine blk_drewN ?_ _ | refine blk_drew ?_ | refine blk_alloc ?_ _)); refine blk_put (cs := #[.string a0_0, .slice none 0 0, .string (⟨#[]⟩ : ByteArray)]) ?_ 2 _ rfl; (with_reducible repeat (first | refine blk_drewN ?_ _ | refine blk_drew ?_ | refine blk_alloc ?_ _)); refine blk_put (cs := #[.string a0_0, .slice none 0 0, .string (⟨#[]⟩ : ByteArray)]) ?_ 1 _ rfl; (with_reducible repeat (first | refine blk_drewN ?_ _ | refine blk_drew ?_ | refine blk_alloc ?_ _)); refine blk_put (cs := #[.string (⟨#[]⟩ : ByteArray), .slice none 0 0, .string (⟨#[]⟩ : ByteArray)]) ?_ 0 _ rfl; (with_reducible repeat (first | refine blk_drewN ?_ _ | refine blk_drew ?_ | refine blk_alloc ?_ _)); exact BK223.out⟩, ⟨zB⟩⟩
 case round =>
  clear H'; clear hcz10_0 hcz10_1 hcz10_2 hcz5_0 hcz5_1 hcz5_2 hcz9_0 hcz9_1 hcz9_2 hfz10_0 hfz10_1 hfz10_2 hfz5_0 hfz5_1 hfz5_2 hfz9_0 hfz9_1 hfz9_2; obtain ⟨x13_1, x224001_1, u224001, rfl, HA, HK1, HO_222001, HO_224001, BK221, BK222, BK223, HB⟩ := hrel
  cases gk with
  | zero => exact absurd HA.out (by simp [trystlaw10_Ours.l0])
  | succ k1 =>
   have H := HA.out; clear HA; simp only [trystlaw10_Ours.l0] at H; replace H := zId H; rcases H with ⟨-, c11b0, H⟩ | ⟨-, c11b0, H⟩
   ·replace H := zJd H; obtain ⟨-, c12b0, H⟩ := H; replace H := zJd H; obtain ⟨-, c13b0, H⟩ := H; replace H := zJ H; obtain ⟨c14, H⟩ := H; have LMc14 := Aside0.mk c14; clear c14; obtain ⟨y225, hy225⟩ : ∃ y_ : List (S62), y_ = (x224001_1 ++ [(⟨(rd_T59 l0_1 x13_1).f0, (rd_T59 l0_1 x13_1).f1⟩ : S62)]) := ⟨_, rfl⟩; replace H : (trystlaw10_Ours.l0 k1 (l0_1.length : Int) (wrap64 (x13_1 + 1)) a0_0 l0_1 a0_2 a0_0 y225 a0_2) = some (r1, r2, r3) := by first | (rw [hy225]; with_reducible exact H) | (have H2_ := (Option.bind_some _ _).symm.trans H; rw [hy225]; with_reducible exact H2_) | (have H2_ := (Option.bind_some _ _).symm.trans H; with_reducible exact H2_) | with_reducible exact H | (rw [hy225]; exact H) | exact H
    have Ny225 := Aside0.mk hy225; clear hy225; have H' := Aside0.mk H; clear H
    try go_wp2
    replace HO_222001 := Aside0.mk (Kd.V_drew HO_222001.out); replace HO_224001 := Aside0.mk (Kd.N_drew HO_224001.out); replace BK221 := Aside0.mk (blk_drew BK221.out); replace BK222 := Aside0.mk (blk_drew BK222.out); replace BK223 := Aside0.mk (blk_drew BK223.out); replace HB := Aside0.mk (below_drew1 HB.out); have p224 := zQ (0 ≤ (x13_1 : Int)); have q224 := zQ (x13_1 < (l0_1.length : Int)); obtain ⟨ad224, A224_1, c224_1, e224, hx224_0, hx224_1, hl224_1, hi224_1⟩ := at_T59 (Kd.V_reads' HO_222001.out).2.2 x13_1 p224 q224
    cases e224
    obtain ⟨ce224, hce224, hMe224, hcc224⟩ := Kd.V_get HO_222001.out z59 x13_1 p224 (by first | exact q224 | exact of_decide_eq_true (by first | (with_reducible assumption) | assumption) | (have e_ := (Kd.V_reads' HO_222001.out).1; omega)); obtain ⟨ua224_1, uc224_1, rfl, ul224_1, ge224_1⟩ := k59_openF hMe224; have hv224_1 := hcc224 1 _ rfl; rw [add_field _ _ 1 (by omega)] at hv224_1; replace hv224_1 := Option.some.inj (hv224_1.symm.trans hx224_1)
    injection hv224_1 with hva_ hvn_ hvc_
    rw [hva_] at ge224_1; rw [hvc_] at ul224_1; have HL224_1 := Aside0.mk (show Kd.V Kd.string 9 _ w.heap.size _ _ ((rd_T59 l0_1 x13_1).f1) from Kd.V_mk ul224_1 ge224_1); clear hva_ hvn_ hvc_ ge224_1 ul224_1; clear hcc224 hce224; have HR224_1 := Aside0.mk hi224_1; have HC224_1 := Aside0.mk hl224_1; clear hi224_1 hl224_1; replace p224 := eq_true p224; replace q224 := eq_true q224
    refine start_ (n := 11) (S := fun w' => w'.cell? ⟨gb223, 0, none⟩ = some (.string a0_0) ∧ w'.cell? ⟨gb223, 1, none⟩ = some (u224001) ∧ w'.cell? ⟨gb223, 2, none⟩ = some (.string a0_2) ∧ w'.cell? ⟨gb221, 0, none⟩ = some (.string a0_0) ∧ w'.cell? ⟨gb221, 1, none⟩ = some (.slice (some ad224) l0_1.length c0_1) ∧ w'.cell? ⟨gb221, 2, none⟩ = some (.string a0_2) ∧ w'.cell? (ad224.add ((x13_1).toNat * 2)) = some (.string ((rd_T59 l0_1 x13_1).f0)) ∧ w'.cell? ⟨(ad224.add ((x13_1).toNat * 2)).block, (ad224.add ((x13_1).toNat * 2)).off + 1, none⟩ = some (.slice A224_1 ((rd_T59 l0_1 x13_1).f1).length c224_1)) (ds := [8, 10]) #[false, false, false, false, false, false, false, false, false, false, false] (by kernel_rfl) rfl rfl ⟨(blk_cell BK223.out 0).trans rfl, (blk_cell BK223.out 1).trans rfl, (blk_cell BK223.out 2).trans rfl, (blk_cell BK221.out 0).trans rfl, (blk_cell BK221.out 1).trans rfl, (blk_cell BK221.out 2).trans rfl, hx224_0, hx224_1⟩ (fun hHeld => ?_); refine with_tabW trystlaw10_Ours.tab5 trystlaw10_Ours.bits5 (fun HT_ HW_ => ?_)
    generalize wr.drew = w15 at HO_222001 HO_224001 BK221 BK222 BK223 HB HL224_1 HR224_1 hx224_0 hx224_1 hHeld ⊢; refine pure_ (i := 0) (N := some 16) (v := ?_) (a' := ?_) #[true, false, false, false, false, false, false, false, false, false, false] rfl rfl (any_of HT_.out (by kernel_rfl)) (fun _ _ _ h => h) (Or.inl ⟨by rfl, ?_⟩) ?_ ?_; rotate_left
    ·intro w'; go_simp; with_reducible rfl
    rotate_left
    ·simp only [Act.put, List.setIfInBounds_toArray, List.set_cons_zero, List.set_cons_succ, i64_w, i32_w]; rfl
    refine pure_ (i := 2) (N := some 18) (v := ?_) (a' := ?_) #[true, false, true, false, false, false, false, false, false, false, false] rfl rfl (any_of HT_.out (by kernel_rfl)) (fun _ _ _ h => h) (Or.inl ⟨by rfl, ?_⟩) ?_ ?_; rotate_left
    ·intro w'; go_simp; with_reducible rfl
    rotate_left
    ·simp only [Act.put, List.setIfInBounds_toArray, List.set_cons_zero, List.set_cons_succ, i64_w, i32_w]; rfl
    refine pure_ (i := 4) (N := some 20) (v := ?_) (a' := ?_) #[true, false, true, false, true, false, false, false, false, false, false] rfl rfl (any_of HT_.out (by kernel_rfl)) (fun _ _ _ h => h) (Or.inl ⟨by rfl, ?_⟩) ?_ ?_; rotate_left
    ·intro w'; go_simp; with_reducible rfl
    rotate_left
    ·simp only [Act.put, List.setIfInBounds_toArray, List.set_cons_zero, List.set_cons_succ, i64_w, i32_w]; rfl
    refine take_ (i := 1) (N := some 17) (v := ?_) (a' := ?_) #[true, true, true, false, true, false, false, false, false, false, false] rfl rfl (take_ofW HT_.out HW_.out (by kernel_rfl)) (fun _ _ _ h => h) (Or.inl ⟨by rfl, ?_⟩) hHeld ?_ ?_; rotate_left
    ·rintro w' ⟨s0, s1, s2, s3, s4, s5, s6, s7⟩; go_simp; with_reducible rfl
    rotate_left
    ·simp only [Act.put, List.setIfInBounds_toArray, List.set_cons_zero, List.set_cons_succ, i64_w, i32_w]; rfl
    refine take_ (i := 3) (N := some 19) (v := ?_) (a' := ?_) #[true, true, true, true, true, false, false, false, false, false, false] rfl rfl (take_ofW HT_.out HW_.out (by kernel_rfl)) (fun _ _ _ h => h) (Or.inl ⟨by rfl, ?_⟩) hHeld ?_ ?_; rotate_left
    ·rintro w' ⟨s0, s1, s2, s3, s4, s5, s6, s7⟩; go_simp; with_reducible rfl
    rotate_left
    ·simp only [Act.put, List.setIfInBounds_toArray, List.set_cons_zero, List.set_cons_succ, i64_w, i32_w]; rfl
    refine pure_ (i := 5) (N := some 21) (v := ?_) (a' := ?_) #[true, true, true, true, true, true, false, false, false, false, false] rfl rfl (any_of HT_.out (by kernel_rfl)) (fun _ _ _ h => h) (Or.inl ⟨by rfl, ?_⟩) ?_ ?_; rotate_left
    ·intro w'; go_simp; with_reducible rfl
    rotate_left
    ·simp only [Act.put, List.setIfInBounds_toArray, List.set_cons_zero, List.set_cons_succ, i64_w, i32_w]; rfl
    refine take_ (i := 6) (N := some 22) (v := ?_) (a' := ?_) #[true, true, true, true, true, true, true, false, false, false, false] rfl rfl (take_ofW HT_.out HW_.out (by kernel_rfl)) (fun _ _ _ h => h) (Or.inl ⟨by rfl, ?_⟩) hHeld ?_ ?_; rotate_left
    ·rintro w' ⟨s0, s1, s2, s3, s4, s5, s6, s7⟩; go_simp; with_reducible rfl
    rotate_left
    ·simp only [Act.put, List.setIfInBounds_toArray, List.set_cons_zero, List.set_cons_succ, i64_w, i32_w]; rfl
    refine one_ (i := 7) (N := some 23) #[true, true, true, true, true, true, true, true, false, false, false] rfl rfl (one_of HT_.out (by kernel_rfl)) (by decide) (fun K hK => ?_); refine value_ (w1 := ?_) (v := ?_) (by rfl) rfl ?_ ?_; rotate_left 2
    ·go_simp
     constructor
     ·rfl
     ·rfl
    refine hK.out _ _ ⟨(blk_cell (blk_alloc BK223.out _) 0).trans rfl, (blk_cell (blk_alloc BK223.out _) 1).trans rfl, (blk_cell (blk_alloc BK223.out _) 2).trans rfl, (blk_cell (blk_alloc BK221.out _) 0).trans rfl, (blk_cell (blk_alloc BK221.out _) 1).trans rfl, (blk_cell (blk_alloc BK221.out _) 2).trans rfl, (World.cell?_alloc_lt _ _ _ (World.block_lt_of_cell? _ _ (hHeld.2.2.2.2.2.2.1))).trans (hHeld.2.2.2.2.2.2.1), (World.cell?_alloc_lt _ _ _ (World.block_lt_of_cell? _ _ (hHeld.2.2.2.2.2.2.2))).trans (hHeld.2.2.2.2.2.2.2)⟩ (fun hHeld => ?_); clear hK K; refine norm_ (a' := ?_) ?_ ?_; rotate_left
    ·show Act.put _ (some 23) _ = _
     simp only [Act.put, List.setIfInBounds_toArray, List.set_cons_zero, List.set_cons_succ, i64_w, i32_w]; rfl
    refine last_ (i := 8) (N := some 24) #[true, true, true, true, true, true, true, true, true, false, false] rfl rfl (one_of HT_.out (by kernel_rfl)) (by decide) (fun K hK => ?_); refine Kd.N_append_step k62 (w0 := w) w.heap.size (by rfl) (.tmp 17) (.tmp 23) 40 62 (.agg #[(.string ⟨#[]⟩), (.slice none 0 0)]) 40 rfl Tryd.underlying40 info62 rfl (by decide) (by omega) u224001 x224001_1 (⟨(rd_T59 l0_1 x13_1).f0, (rd_T59 l0_1 x13_1).f1⟩ : S62) [.string ((rd_T59 l0_1 x13_1).f0), .slice A224_1 ((rd_T59 l0_1 x13_1).f1).length c224_1] (fun k_ => (P0_1_ k_ ∨ w.heap.size ≤ k_) ∧ k_ ≠ gb221 ∧ k_ ≠ gb222 ∧ k_ ≠ gb223) (fun k_ => ((fun k_ => (P0_1_ k_ ∨ w.heap.size ≤ k_) ∧ k_ ≠ gb221 ∧ k_ ≠ gb222 ∧ k_ ≠ gb223)) k_ ∧ some k_ ≠ (u224001 : Value).ownBlock) rfl rfl ?aP (fun _ hk => hk) ?aF ?aO ?aB ?aS ?aL ?_
    (case aP => exact (k62_mkF _ _ (⟨(rd_T59 l0_1 x13_1).f0, (rd_T59 l0_1 x13_1).f1⟩ : S62) (Kd.V_reads' (Kd.V_mono (ok' := (fun k_ => ((fun k_ => (P0_1_ k_ ∨ w.heap.size ≤ k_) ∧ k_ ≠ gb221 ∧ k_ ≠ gb222 ∧ k_ ≠ gb223)) k_ ∧ some k_ ≠ (u224001 : Value).ownBlock)) (HL224_1.out) (fun k_ hk => ⟨⟨hk.1, ⟨hk.2.2.1, ⟨hk.2.2.2.1, hk.2.2.2.2⟩⟩⟩, hk.2.1⟩))).2.1 (Kd.V_F (Kd.V_mono (ok' := (fun k_ => ((fun k_ => (P0_1_ k_ ∨ w.heap.size ≤ k_) ∧ k_ ≠ gb221 ∧ k_ ≠ gb222 ∧ k_ ≠ gb223)) k_ ∧ some k_ ≠ (u224001 : Value).ownBlock)) (HL224_1.out) (fun k_ hk => ⟨⟨hk.1, ⟨hk.2.2.1, ⟨hk.2.2.2.1, hk.2.2.2.2⟩⟩⟩, hk.2.1⟩)))))
    (case aB => exact zB)
    (case aF => exact (fun k_ hk => ⟨(.inr (Nat.le_trans (below_size zB) hk)), Kd.freshB (g := gb221) (o := .cells #[.string a0_0, .slice (some ad224) l0_1.length c0_1, .string a0_2] 37 (0, 0)) (blk_below BK221.out zX) k_ hk, Kd.freshB (g := gb222) (o := .cells #[.string (⟨#[]⟩ : ByteArray), .slice none 0 0, .string (⟨#[]⟩ : ByteArray)] 42 (0, 0)) (blk_below BK222.out zX) k_ hk, Kd.freshB (g := gb223) (o := .cells #[.string a0_0, u224001, .string a0_2] 42 (0, 0)) (blk_below BK223.out zX) k_ hk⟩))
    (case aO => exact (Kd.N_below HO_224001.out zX))
    (case aS => exact (below_size zB))
    (case aL => have := LMc14.out; omega)
    intro v226 w16 ho hb hg hat; rw [← Ny225.out] at ho; have n0_ := Aside0.mk (Kd.V_afterv (ok := (fun k_ => (P0_1_ k_ ∨ w.heap.size ≤ k_) ∧ k_ ≠ gb221 ∧ k_ ≠ gb222 ∧ k_ ≠ gb223)) (by (with_reducible repeat (first | apply Kd.V_alloc | apply Kd.V_drewN | apply Kd.V_drew)); exact Kd.V_mono HO_222001.out (fun _ hk => ⟨⟨hk.1, ⟨hk.2.2.1, ⟨hk.2.2.2.1, hk.2.2.2.2⟩⟩⟩, hk.2.1⟩)) hg hat); have n1_ := Aside0.mk (blk_grown (g := gb221) (o := .cells #[.string a0_0, .slice (some ad224) l0_1.length c0_1, .string a0_2] 37 (0, 0)) (blk_below BK221.out zX) hg (Kd.N_ne HO_224001.out BK221.out (by decide))); have n2_ := Aside0.mk (blk_grown (g := gb222) (o := .cells #[.string (⟨#[]⟩ : ByteArray), .slice none 0 0, .string (⟨#[]⟩ : ByteArray)] 42 (0, 0)) (blk_below BK222.out zX) hg (Kd.N_ne HO_224001.out BK222.out (by decide)))
    have n3_ := Aside0.mk (blk_grown (g := gb223) (o := .cells #[.string a0_0, u224001, .string a0_2] 42 (0, 0)) (blk_below BK223.out zX) hg (Kd.N_ne HO_224001.out BK223.out (by decide))); have n4_ := Aside0.mk (Kd.V_afterv (ok := (fun k_ => (P0_1_ k_ ∨ w.heap.size ≤ k_) ∧ k_ ≠ gb221 ∧ k_ ≠ gb222 ∧ k_ ≠ gb223)) (by (with_reducible repeat (first | apply Kd.V_alloc | apply Kd.V_drewN | apply Kd.V_drew)); exact Kd.V_mono HL224_1.out (fun _ hk => ⟨⟨hk.1, ⟨hk.2.2.1, ⟨hk.2.2.2.1, hk.2.2.2.2⟩⟩⟩, hk.2.1⟩)) hg hat); have n5_ := Aside0.mk (hb); have n6_ := Aside0.mk (ho); clear HO_222001; clear BK221; clear BK222; clear BK223; clear HL224_1; clear HB; clear HO_224001; have HO_222001 := n0_; have BK221 := n1_; have BK222 := n2_; have BK223 := n3_; have HL224_1 := n4_; have HB := n5_; have HO227 := n6_; clear n0_ n1_ n2_ n3_ n4_ n5_ n6_; clear ho hb hg hat
    obtain ⟨Ao17, co17, eo17⟩ := Kd.N_slice HO227.out
    (first | subst eo17 | (injection eo17 with f1_ f2_ f3_; have f4_ := f1_.symm; have f5_ := f3_.symm; clear f1_ f2_ f3_; subst f4_; subst f5_))
    refine hK.out _ _ ?_; clear hK K; refine norm_ (a' := ?_) ?_ ?_; rotate_left
    ·show Act.put _ (some 24) _ = _
     simp only [Act.put, List.setIfInBounds_toArray, List.set_cons_zero, List.set_cons_succ, i64_w, i32_w]; rfl
    refine pure_ (i := 9) (N := some 25) (v := ?_) (a' := ?_) #[true, true, true, true, true, true, true, true, true, true, false] rfl rfl (any_of HT_.out (by kernel_rfl)) (fun _ _ _ h => h) (Or.inl ⟨by rfl, ?_⟩) ?_ ?_; rotate_left
    ·intro w'; go_simp; with_reducible rfl
    rotate_left
    ·simp only [Act.put, List.setIfInBounds_toArray, List.set_cons_zero, List.set_cons_succ, i64_w, i32_w]; rfl
    refine last_ (i := 10) (N := none) #[true, true, true, true, true, true, true, true, true, true, true] rfl rfl (one_of HT_.out (by kernel_rfl)) (by decide) (fun K hK => ?_); have hs18 : w16.cell? ⟨gb223, 1, none⟩ = some (u224001) := (blk_cell BK223.out 1).trans rfl; have hfs18 := zf BK223 1; have hns18_0 := NB221_223.out; have hns18_1 := NB222_223.out; have hms18_0 := NB223_221.out; have hms18_1 := NB223_222.out; refine skip_ (w1 := ?_) (by rfl) rfl ?_ ?_; rotate_left
    ·go_simp; rfl
    refine hK.out _ _ ?_; clear hK K; refine done_ (done_of HT_.out (by kernel_rfl)) ?_
    try go_wp2
    go_roundg k1
    case measure => have := HK1.out; omega
    case rel => exact ⟨(wrap64 (x13_1 + 1)), (y225), (.slice Ao17 y225.length co17), zS, H', ⟨by have := HK1.out; omega⟩, ⟨by (with_reducible repeat (first | apply Kd.V_alloc | apply Kd.V_drewN | apply Kd.V_drew)); exact Kd.V_mono (Kd.V_far (p := ⟨gb223, 1, none⟩) (Kd.V_mono HO_222001.out (fun k_ hk => (⟨hk, hk.1.2.2.2⟩ : _ ∧ k_ ≠ gb223))) (fun _ hk => hk.2) (.slice Ao17 y225.length co17)) (fun _ hk => ⟨hk.1.1.1, ⟨hk.1.2, ⟨hk.1.1.2.1, ⟨hk.1.1.2.2.1, hk.1.1.2.2.2⟩⟩⟩⟩)⟩, ⟨by (with_reducible repeat (first | apply Kd.N_alloc | apply Kd.N_drewN | apply Kd.N_drew)); exact Kd.N_mono (Kd.N_far (p := ⟨gb223, 1, none⟩) (Kd.N_mono HO227.out (fun k_ hk => (⟨hk, hk.2.2.2⟩ : _ ∧ k_ ≠ gb223))) (fun _ hk => hk.2) (.slice Ao17 y225.length co17)) (fun _ hk => ⟨hk.1.1, ⟨hk.1.2.1, ⟨hk.1.2.2.1, hk.1.2.2.2⟩⟩⟩)⟩, ⟨by (with_reducible repeat (first | refine blk_drewN ?_ _ | refine blk_drew ?_ | refine blk_alloc ?_ _)); refine blk_far ?_ NB221_223.out _; (with_reducible repeat (first | refine blk_drewN ?_ _ | refine blk_drew ?_ | refine blk_alloc ?_ _)); exact BK221.out⟩, ⟨by (with_reducible repeat (first | refine blk_drewN ?_ _ | refine blk_drew ?_ | refine blk_alloc ?_ _)); refine blk_far ?_ NB222_223.out _; (with_reducible repeat (first | refine blk_drewN ?_ _ | refine blk_drew ?_ | refine blk_alloc ?_ _)); exact BK222.out⟩, ⟨by (with_reducible repeat (first | refine blk_drewN ?_ _ | refine blk_drew ?_ | refine blk_alloc ?_ _)); refine blk_put (cs := #[.string a0_0, u224001, .string a0_2]) ?_ 1 _ rfl; (with_reducible repeat (first | refine blk_drewN ?_ _ | refine blk_drew ?_ | refine blk_alloc ?_ _)); exact BK223.out⟩, ⟨zB⟩⟩
   ·simp only [Option.some.injEq, Prod.mk.injEq] at H; obtain ⟨rfl, rfl, rfl⟩ := H; have hnb19 := NB223_221.out; have hnc19 := NB221_223.out; have hnb20 := NB223_222.out; have hnc20 := NB222_223.out; have hcz21_0 := zc0 BK223; have hcz21_1 := zc1 BK223; have hcz21_2 := zc2 BK223; have hfz21_0 := zf BK223 0; have hfz21_1 := zf BK223 1; have hfz21_2 := zf BK223 2; have hnb22 := NB222_221.out; have hnc22 := NB221_222.out; have hcz23_0 := zc0 BK222; have hcz23_1 := zc1 BK222
    have hcz23_2 := zc2 BK222; have hfz23_0 := zf BK222 0; have hfz23_1 := zf BK222 1; have hfz23_2 := zf BK222 2; obtain ⟨Ao24, co24, eo24⟩ := Kd.N_slice HO_224001.out; subst eo24; go_wp2
    refine bodyPost_ret (results_cell_row rfl _ _ gb222 42 #[.string a0_0, .slice Ao24 x224001_1.length co24, .string a0_2] (0, 0) _ rfl (by (with_reducible repeat (first | refine blk_drewN ?_ _ | refine blk_drew ?_ | refine blk_alloc ?_ _)); refine blk_put (cs := #[.string a0_0, .slice Ao24 x224001_1.length co24, .string (⟨#[]⟩ : ByteArray)]) ?_ 2 _ rfl; (with_reducible repeat (first | refine blk_drewN ?_ _ | refine blk_drew ?_ | refine blk_alloc ?_ _)); refine blk_put (cs := #[.string a0_0, .slice none 0 0, .string (⟨#[]⟩ : ByteArray)]) ?_ 1 _ rfl; (with_reducible repeat (first | refine blk_drewN ?_ _ | refine blk_drew ?_ | refine blk_alloc ?_ _)); refine blk_put (cs := #[.string (⟨#[]⟩ : ByteArray), .slice none 0 0, .string (⟨#[]⟩ : ByteArray)]) ?_ 0 _ rfl; (with_reducible repeat (first | refine blk_drewN ?_ _ | refine blk_drew ?_ | refine blk_alloc ?_ _)); exact BK222.out) Tryd.underlying42 rfl (by kernel_rfl)) rfl ?_
    exact ⟨_, zE, by (with_reducible repeat (first | apply Kd.N_alloc | apply Kd.N_drewN | apply Kd.N_drew)); exact Kd.N_mono (Kd.N_far (p := ⟨gb222, 2, none⟩) (Kd.N_far (p := ⟨gb222, 1, none⟩) (Kd.N_far (p := ⟨gb222, 0, none⟩) (Kd.N_mono HO_224001.out (fun k_ hk => (⟨hk, hk.2.2.1⟩ : _ ∧ k_ ≠ gb222))) (fun _ hk => hk.2) (.string a0_0)) (fun _ hk => hk.2) (.slice Ao24 x224001_1.length co24)) (fun _ hk => hk.2) (.string a0_2)) (fun _ hk => hk.1.1), zB⟩
end Go.Proofs.YtdojmdbaiddkgaaDoor.Print
end
section
set_option linter.unusedVariables false
set_option linter.unusedSimpArgs false
set_option linter.unusedSectionVars false
namespace Go.Proofs.YtdojmdbaiddkgaaDoor.Pure
open Go.RowKit Go.Proofs.YtdojmdbaiddkgaaDoor.Print Go.Proofs.YtdojmdbaiddkgaaDoorW.PrintWords Go.Proofs.YtdojmdbaiddkgaaDoorW.PrintLast Go.Proofs.YtdojmdbaiddkgaaDoorW.PrintMore
theorem size_l0 (nm : ByteArray) (l : List RL) (ks : List RT) (dp : Int) (hl : l.length ≤ 9000000000000000000) (hb : ∀ x ∈ l, LB x) (next : ∀ n : Int, ∃ r, Ev (fun k => trystlaw11_size.l1 k dp n (ks.length : Int) ((0 : Nat) : Int) nm l ks) r) :
    ∀ (d i : Nat) (n : Int), i + d = l.length → ∃ r, Ev (fun k => trystlaw11_size.l0 k dp n (l.length : Int) (i : Int) nm l ks) r := by
  intro d
  induction d with
  | zero =>
    intro i n hi
    obtain ⟨r, hr⟩ := next n
    exact ⟨r, Ev.step (fun k => by simp only [trystlaw11_size.l0]; rw [if_neg (by omega)]; rfl) hr⟩
  | succ d ihd =>
    intro i n hi
    have hil : i < l.length := by omega
    have hbx := hb _ (List.getElem_mem hil)
    obtain ⟨b, hf⟩ := few_ev l[i].f0 l[i].f2 l[i].f1 (by have := hbx.1; omega) (fun p hp => by have := hbx.2 p hp; omega) l[i].f1.length 0 (wrap64 ((l[i].f0.size : Int) + (l[i].f2.size : Int))) (by omega)
    have hf : Ev (fun k => trystlaw10_Few.f k l[i].f0 l[i].f1 l[i].f2) b := hf
    obtain ⟨q, hq⟩ := ihd (i + 1) (wrap64 ((wrap64 ((wrap64 (n + 1)) + (l[i].f0.size : Int))) + (l[i].f2.size : Int))) (by omega)
    have hs : ∀ r, Ev (fun k => if b = true then trystlaw11_size.l0 k dp (wrap64 ((wrap64 ((wrap64 (n + 1)) + (l[i].f0.size : Int))) + (l[i].f2.size : Int))) (l.length : Int) ((i + 1 : Nat) : Int) nm l ks else some 1048576) r → Ev (fun k => trystlaw11_size.l0 k dp n (l.length : Int) (i : Int) nm l ks) r := fun r hr => by
      refine Ev.step (f := fun k => (trystlaw10_Few.f k l[i].f0 l[i].f1 l[i].f2).bind fun t => if t = true then trystlaw11_size.l0 k dp (wrap64 ((wrap64 ((wrap64 (n + 1)) + (l[i].f0.size : Int))) + (l[i].f2.size : Int))) (l.length : Int) ((i + 1 : Nat) : Int) nm l ks else some 1048576) (fun k => ?_) (Ev.bind hf hr)
      simp only [trystlaw11_size.l0]
      rw [if_pos (by omega), if_pos (by omega), if_pos (by omega), rdRL l i hil, wrapS i _ hil hl]
    cases b with
    | false => exact ⟨1048576, hs _ (Ev.congr (f := fun _ => some 1048576) (fun k => by rw [if_neg (by simp)]) (Ev.now _))⟩
    | true => exact ⟨q, hs _ (Ev.congr (fun k => by rw [if_pos rfl]) hq)⟩
theorem sizeT : ∀ (N : Nat) (t : RT), SizeOf.sizeOf t < N → TB t → ∀ dp : Int, ∃ r, Ev (fun k => trystlaw11_size.f k t.f0 t.f1 t.f2 dp) r
  | 0, t, h, _ => by omega
  | N + 1, t, h, hb => fun dp => by
    obtain ⟨⟨h1, h2⟩, h3, h4⟩ := TB_of hb
    have ih : ∀ x ∈ t.f2, ∀ dp : Int, ∃ r, Ev (fun k => trystlaw11_size.f k x.f0 x.f1 x.f2 dp) r := fun x hx => sizeT N x (by have := kid_lt hx; omega) (h4 x hx)
    obtain ⟨r, hr⟩ := size_l0 t.f0 t.f1 t.f2 dp (by omega) h2 (fun n => size_l1 t.f0 t.f1 t.f2 dp (by omega) ih t.f2.length 0 n (by omega)) t.f1.length 0 (wrap64 (1 + (t.f0.size : Int))) (by omega)
    exact ⟨r, Ev.step (fun k => by simp only [trystlaw11_size.f]; rfl) hr⟩
theorem fewT (t : RT) (hb : TB t) : ∃ b, Ev (fun k => trystlaw11_Few.f k t.f0 t.f1 t.f2) b := by
  obtain ⟨r, hr⟩ := sizeT _ t (Nat.lt_succ_self _) hb 0
  exact ⟨decide (r ≤ 50000), Ev.bind hr (Ev.now _)⟩
theorem awake11 : Ev (fun k => trystlaw11_awake.f k) true := Ev.of (k := 20) (fun k => trystlaw11_awake.mono k) (by decide +kernel)
def findR (nm : ByteArray) : List PL → Nat → PL → PL × Nat
  | [], n, c => (c, n)
  | x :: t, n, c => if x.f0 = nm then findR nm t (n + 1) (if n = 0 then x else c) else findR nm t n c
theorem rdPL (l : List PL) (i : Nat) (h : i < l.length) : rd_T37 l (i : Int) = l[i] := by
  unfold rd_T37
  rw [Int.toNat_natCast, List.getD_eq_getElem?_getD, List.getElem?_eq_getElem h]; rfl
theorem find_l0 (nm : ByteArray) (l : List PL) (hl : l.length ≤ 9000000000000000000) (hb : ∀ x ∈ l, x.f1.length < 3518437208883 ∧ ∀ p ∈ x.f1, p.f1.length < 8796093022208) :
    ∀ (d i n : Nat) (c : PL), i + d = l.length → n ≤ i → Ev (fun k => tree_Find.l0 k nm (n : Int) l (l.length : Int) (i : Int) c.f0 c.f1 c.f2) ((findR nm (l.drop i) n c).1.f0, (findR nm (l.drop i) n c).1.f1, (findR nm (l.drop i) n c).1.f2, ((findR nm (l.drop i) n c).2 : Int)) := by
  intro d
  induction d with
  | zero =>
    intro i n c hi hn
    rw [List.drop_eq_nil_of_le (by omega)]
    exact Ev.step (f := fun _ => some (c.f0, c.f1, c.f2, (n : Int))) (fun k => by simp only [tree_Find.l0]; rw [if_neg (by omega)]) (Ev.now _)
  | succ d ihd =>
    intro i n c hi hn
    have hil : i < l.length := by omega
    have hbx := hb _ (List.getElem_mem hil)
    rw [List.drop_eq_getElem_cons hil]
    by_cases he : l[i].f0 = nm
    · by_cases hz : n = 0
      · subst hz
        have h1 := ihd (i + 1) 1 l[i] (by omega) (by omega)
        simp only [findR, if_pos he, if_pos rfl]
        refine Ev.step (fun k => ?_) h1
        simp only [tree_Find.l0]
        rw [if_pos (by omega), if_pos (by omega), if_pos (by omega), rdPL l i hil, if_pos (by rw [he]), if_pos (by omega), line_Clone.f, if_pos hbx, Option.bind_some, wrapS i _ hil hl, wrapS 0 1 (by omega) (by omega)]
      · have h1 := ihd (i + 1) (n + 1) c (by omega) (by omega)
        simp only [findR, if_pos he, if_neg hz]
        refine Ev.step (fun k => ?_) h1
        simp only [tree_Find.l0]
        rw [if_pos (by omega), if_pos (by omega), if_pos (by omega), rdPL l i hil, if_pos (by rw [he]), if_neg (by omega), wrapS i _ hil hl, wrapS n (n + 1) (by omega) (by omega)]
    · have h1 := ihd (i + 1) n c (by omega) (by omega)
      simp only [findR, if_neg he]
      refine Ev.step (fun k => ?_) h1
      simp only [tree_Find.l0]
      rw [if_pos (by omega), if_pos (by omega), if_pos (by omega), rdPL l i hil, if_neg (fun h => he (toList_ba.1 h)), wrapS i _ hil hl]
end Go.Proofs.YtdojmdbaiddkgaaDoor.Pure
end
section
namespace Go.Proofs.YtdojmdbaiddkgaaDoor.Print
open Go.RowKit Go.Proofs.YtdojmdbaiddkgaaDoorW.PrintWords Go.Proofs.YtdojmdbaiddkgaaDoorW.PrintLast Go.Proofs.YtdojmdbaiddkgaaDoorW.PrintMore
set_option linter.unusedVariables false
set_option linter.unusedSimpArgs false
mutual
def trystlaw11_TreeFinds.j0 : Nat → ByteArray → Bool → ByteArray → List (S42) → List (S25) → ByteArray → List (S42) → List (S25) → Option (Bool)
 | 0, _, _, _, _, _, _, _, _ => none
 | k + 1, x2, x23, x229000, x229001, x229002, x230000, x230001, x230002 => if x23 = true then ((trystlaw11_awake.f k).bind fun t233 => (some t233)) else ((trystlaw11_Theirs.f k x229000 x229001 x229002).bind fun bt234 => ((trystlaw11_Theirs.f k x230000 x230001 x230002).bind fun bt241 => ((tree_Equal.f bt234.1 bt234.2.1 bt234.2.2 bt241.1 bt241.2.1 bt241.2.2).bind fun t248 => ((trystlaw11_Same.f k x229000 x229001 x229002 x230000 x230001 x230002).bind fun t249 => (if (t248 != t249) = true then (trystlaw11_TreeFinds.j1 k x2 true x229000 x229001 x229002) else ((trystlaw11_Theirs.f k x229000 x229001 x229002).bind fun bt250 => ((trystlaw11_Theirs.f k x229000 x229001 x229002).bind fun bt257 => ((tree_Equal.f bt250.1 bt250.2.1 bt250.2.2 bt257.1 bt257.2.1 bt257.2.2).bind fun t264 => (trystlaw11_TreeFinds.j1 k x2 (!t264) x229000 x229001 x229002)))))))))
def trystlaw11_TreeFinds.j1 : Nat → ByteArray → Bool → ByteArray → List (S42) → List (S25) → Option (Bool)
 | 0, _, _, _, _, _ => none
 | k + 1, x2, x41, x229000, x229001, x229002 => if x41 = true then (some false) else ((trystlaw11_Theirs.f k x229000 x229001 x229002).bind fun bt265 => ((tree_Find.f k bt265.1 bt265.2.1 bt265.2.2 x2).bind fun bt272 => (trystlaw11_TreeFinds.l0 k x2 bt272.2.2.2 0 (-1) (x229001.length : Int) 0 x229000 x229001 x229002 bt272.1 bt272.2.1 bt272.2.2.1)))
def trystlaw11_TreeFinds.l0 : Nat → ByteArray → Int → Int → Int → Int → Int → ByteArray → List (S42) → List (S25) → ByteArray → List (S59) → ByteArray → Option (Bool)
 | 0, _, _, _, _, _, _, _, _, _, _, _, _ => none
 | k + 1, x2, x8, x9, x10, x51, x52, x229000, x229001, x229002, x279000, x279001, x279002 => if x52 < x51 then (if 0 ≤ x52 then (if x52 < (x229001.length : Int) then (if ((rd_T42 x229001 x52).f0).toList = x2.toList then (if x9 = 0 then (trystlaw11_TreeFinds.l0 k x2 x8 (wrap64 (x9 + 1)) x52 x51 (wrap64 (x52 + 1)) x229000 x229001 x229002 x279000 x279001 x279002) else (trystlaw11_TreeFinds.l0 k x2 x8 (wrap64 (x9 + 1)) x10 x51 (wrap64 (x52 + 1)) x229000 x229001 x229002 x279000 x279001 x279002)) else (trystlaw11_TreeFinds.l0 k x2 x8 x9 x10 x51 (wrap64 (x52 + 1)) x229000 x229001 x229002 x279000 x279001 x279002)) else (none)) else (none)) else (if x9 = 0 then (if x8 = 0 then ((line_Equal.f x279000 x279001 x279002 (⟨#[]⟩ : ByteArray) ([] : List (S59)) (⟨#[]⟩ : ByteArray)).bind fun t280 => (some t280)) else (some false)) else (if x8 = x9 then ((trystlaw10_Ours.f k x279000 x279001 x279002).bind fun bt281 => (if 0 ≤ x10 then (if x10 < (x229001.length : Int) then ((trystlaw10_Same.f k bt281.1 bt281.2.1 bt281.2.2 ((rd_T42 x229001 x10).f0) ((rd_T42 x229001 x10).f1) ((rd_T42 x229001 x10).f2)).bind fun t287 => (some t287)) else (none)) else (none))) else (some false)))
end
def trystlaw11_TreeFinds.f (k : Nat) (a0_0 : ByteArray) (l0_1 : List (S42)) (l0_2 : List (S25)) (a1_0 : ByteArray) (l1_1 : List (S42)) (l1_2 : List (S25)) (a2 : ByteArray) : Option (Bool) := (trystlaw11_awake.f k).bind fun t230 => (if t230 = true then ((trystlaw11_Few.f k a0_0 l0_1 l0_2).bind fun t231 => (if t231 = true then ((trystlaw11_Few.f k a1_0 l1_1 l1_2).bind fun t232 => (trystlaw11_TreeFinds.j0 k a2 (!t232) a0_0 l0_1 l0_2 a1_0 l1_1 l1_2)) else (trystlaw11_TreeFinds.j0 k a2 true a0_0 l0_1 l0_2 a1_0 l1_1 l1_2))) else (trystlaw11_TreeFinds.j0 k a2 true a0_0 l0_1 l0_2 a1_0 l1_1 l1_2))
def trystlaw11_TreeFinds.T3 : Bool × List (List Nat × List Nat) := (true, [([], []), ([0], [0]), ([], []), ([2, 1], [2]), ([1, 3, 3], [1, 3]), ([], []), ([], []), ([5, 6, 4], [5, 6]), ([4, 7], [4, 7]), ([8, 7], [8]), ([9], [9]), ([10, 9, 9], [9, 10]), ([9], [9]), ([12, 11, 9], [9, 12]), ([11, 13, 13, 9], [9, 11, 13]), ([14, 9], [9, 14]), ([9, 15], [9, 15])])
def trystlaw11_TreeFinds.B3 : List Nat := [0, 1, 0, 7, 15, 0, 0, 127, 255, 511, 1023, 2047, 1023, 8191, 16383, 32767, 65535]
theorem trystlaw11_TreeFinds.tab3 : rtab .any (opsOf Tryd.f3 3) = trystlaw11_TreeFinds.T3 := by kernel_rfl
theorem trystlaw11_TreeFinds.bits3 : waitsOk trystlaw11_TreeFinds.T3.2 trystlaw11_TreeFinds.B3 = true := by kernel_rfl
def trystlaw11_TreeFinds.T17 : Bool × List (List Nat × List Nat) := (true, [([], []), ([], []), ([0, 1], [0, 1]), ([2], [2]), ([3], [3]), ([4, 3, 3], [3, 4]), ([3], [3]), ([6, 3], [3, 6]), ([3], [3]), ([7, 8, 3], [3, 7, 8]), ([9, 3], [3, 9]), ([5, 10, 5, 3], [3, 5, 10]), ([3, 11], [3, 11]), ([12, 11, 0, 1, 2, 3, 4, 5, 6, 7, 8, 9, 10, 11, 12], [12])])
def trystlaw11_TreeFinds.B17 : List Nat := [0, 0, 3, 7, 15, 31, 15, 79, 15, 463, 975, 2047, 4095, 8191]
theorem trystlaw11_TreeFinds.tab17 : rtab .any (opsOf Tryd.f3 17) = trystlaw11_TreeFinds.T17 := by kernel_rfl
theorem trystlaw11_TreeFinds.bits17 : waitsOk trystlaw11_TreeFinds.T17.2 trystlaw11_TreeFinds.B17 = true := by kernel_rfl
set_option maxHeartbeats 8000000 in
set_option maxRecDepth 100000 in
theorem trystlaw11_TreeFinds.calls (k : Nat) (a0_0 : ByteArray) (A0_1 : Option Addr) (c0_1 : Nat) (l0_1 : List (S42)) (A0_2 : Option Addr) (c0_2 : Nat) (l0_2 : List (S25)) (a1_0 : ByteArray) (A1_1 : Option Addr) (c1_1 : Nat) (l1_1 : List (S42)) (A1_2 : Option Addr) (c1_2 : Nat) (l1_2 : List (S25)) (a2 : ByteArray) (r : Bool) (w : World) (hG : GG w) (hr0_1 : Kd.C k42 w A0_1 l0_1.length l0_1) (hc0_1 : l0_1.length ≤ c0_1) (hr0_2 : Kd.C k25 w A0_2 l0_2.length l0_2) (hc0_2 : l0_2.length ≤ c0_2) (hr1_1 : Kd.C k42 w A1_1 l1_1.length l1_1) (hc1_1 : l1_1.length ≤ c1_1) (hr1_2 : Kd.C k25 w A1_2 l1_2.length l1_2) (hc1_2 : l1_2.length ≤ c1_2) (h : trystlaw11_TreeFinds.f k a0_0 l0_1 l0_2 a1_0 l1_1 l1_2 a2 = some r) :
  Calls Tryd.prog 3 #[.agg #[.string a0_0, .slice A0_1 l0_1.length c0_1, .slice A0_2 l0_2.length c0_2], .agg #[.string a1_0, .slice A1_1 l1_1.length c1_1, .slice A1_2 l1_2.length c1_2], .string a2] w fun e w' => e = .returned (.bool r) ∧ Below w.heap.size w w' := by
 have hu25 := Tryd.underlying25; have hu37 := Tryd.underlying37; have hu42 := Tryd.underlying42; have HR0_1 := Aside0.mk hr0_1; have HC0_1 := Aside0.mk hc0_1; clear hr0_1 hc0_1; have HR0_2 := Aside0.mk hr0_2; have HC0_2 := Aside0.mk hc0_2; clear hr0_2 hc0_2; have HR1_1 := Aside0.mk hr1_1; have HC1_1 := Aside0.mk hc1_1; clear hr1_1 hc1_1; have HR1_2 := Aside0.mk hr1_2; have HC1_2 := Aside0.mk hc1_2; clear hr1_2 hc1_2; have HB := Aside0.mk (Below.refl w.heap.size w); have H : ((trystlaw11_awake.f k).bind fun t230 => (if t230 = true then ((trystlaw11_Few.f k a0_0 l0_1 l0_2).bind fun t231 => (if t231 = true then ((trystlaw11_Few.f k a1_0 l1_1 l1_2).bind fun t232 => (trystlaw11_TreeFinds.j0 k a2 (!t232) a0_0 l0_1 l0_2 a1_0 l1_1 l1_2)) else (trystlaw11_TreeFinds.j0 k a2 true a0_0 l0_1 l0_2 a1_0 l1_1 l1_2))) else (trystlaw11_TreeFinds.j0 k a2 true a0_0 l0_1 l0_2 a1_0 l1_1 l1_2))) = some r := h
 clear h; have HC4 := Aside0.mk H; clear H
 go_enter Tryd.func3, Tryd.ntmps3
 go_upto_region 1 with (first | ((with_reducible refine gate_dst (N := 3) rfl ?_); refine zbox (N := 3) #[.string a0_0, .slice A0_1 l0_1.length c0_1, .slice A0_2 l0_2.length c0_2] 25 (fun gb228 hg w5 hbox hb => ?_); have n0_ := zw hb; have n1_ := Aside0.mk hbox; have n2_ := zg w hg; have n3_ := zg w hg; clear HB; have HB := n0_; have BK228 := n1_; have GW228 := n2_; have GE228 := n3_; clear n0_ n1_ n2_ n3_; clear hb hbox hg) | ((with_reducible refine gate_dst (N := 4) rfl ?_); refine zbox (N := 4) #[.string a1_0, .slice A1_1 l1_1.length c1_1, .slice A1_2 l1_2.length c1_2] 25 (fun gb229 hg w6 hbox hb => ?_); replace BK229 := Aside0.mk hbox; replace GW229 := zg w hg; replace GE229 := zg w hg; replace HB := zw hb; replace NB228_229 := zn BK228 hg; replace NB229_228 := zm BK228 hg; replace BK228 := zb BK228 hb; clear hb hbox hg))
 (try simp only [Act.put, List.setIfInBounds_toArray, List.set_cons_zero, List.set_cons_succ])
 go_cut [23] (fun v23 wc => ∃ (kq : Nat) (x23_3 : Bool), v23 = .bool x23_3 ∧ Aside0 (trystlaw11_TreeFinds.j0 kq a2 x23_3 a0_0 l0_1 l0_2 a1_0 l1_1 l1_2 = some r) ∧ Aside0 (kq ≤ k) ∧ Aside0 (wc.heap[gb228]? = some (.cells #[.string a0_0, (.slice A0_1 l0_1.length c0_1), (.slice A0_2 l0_2.length c0_2)] 25 (0, 0))) ∧ Aside0 (wc.heap[gb229]? = some (.cells #[.string a1_0, (.slice A1_1 l1_1.length c1_1), (.slice A1_2 l1_2.length c1_2)] 25 (0, 0))) ∧ Aside0 (Below w.heap.size w wc))
 case first =>
  have H := HC4.out; clear HC4; replace H := Option.bind_eq_some_iff.mp H; obtain ⟨t230, A70, H⟩ := H; replace H : (if t230 = true then ((trystlaw11_Few.f k a0_0 l0_1 l0_2).bind fun t231 => (if t231 = true then ((trystlaw11_Few.f k a1_0 l1_1 l1_2).bind fun t232 => (trystlaw11_TreeFinds.j0 k a2 (!t232) a0_0 l0_1 l0_2 a1_0 l1_1 l1_2)) else (trystlaw11_TreeFinds.j0 k a2 true a0_0 l0_1 l0_2 a1_0 l1_1 l1_2))) else (trystlaw11_TreeFinds.j0 k a2 true a0_0 l0_1 l0_2 a1_0 l1_1 l1_2)) = some r := H; have A7 := Aside0.mk A70; clear A70; replace H := zIb H; rcases H with ⟨rfl, H⟩ | ⟨rfl, H⟩
  ·replace H := Option.bind_eq_some_iff.mp H; obtain ⟨t231, A90, H⟩ := H; replace H : (if t231 = true then ((trystlaw11_Few.f k a1_0 l1_1 l1_2).bind fun t232 => (trystlaw11_TreeFinds.j0 k a2 (!t232) a0_0 l0_1 l0_2 a1_0 l1_1 l1_2)) else (trystlaw11_TreeFinds.j0 k a2 true a0_0 l0_1 l0_2 a1_0 l1_1 l1_2)) = some r := H; have A9 := Aside0.mk A90; clear A90; replace H := zIb H; rcases H with ⟨rfl, H⟩ | ⟨rfl, H⟩
   ·replace H := Option.bind_eq_some_iff.mp H; obtain ⟨t232, A110, H⟩ := H; replace H : (trystlaw11_TreeFinds.j0 k a2 (!t232) a0_0 l0_1 l0_2 a1_0 l1_1 l1_2) = some r := H; have A11 := Aside0.mk A110; clear A110; have H' := Aside0.mk H; clear H
    go_wp2_with (first | ((with_reducible refine gate_callee (f := 4) rfl ?_); refine goesL_ (some 12) rfl rfl Tryd.func4 (by kernel_rfl) rfl #[] rfl zA ?_; (with_reducible refine (trystlaw11_awake.calls k  true _ zG A7.out).mono ?_); rintro e w12 ⟨rfl, hb⟩; refine ⟨_, rfl, ?_⟩; replace BK228 := zb BK228 hb; replace BK229 := zb BK229 hb; replace HB := zw hb; (try clear hb); have hnb13 := NB228_229.out; have hnc13 := NB229_228.out; have hcz14_0 := zc0 BK228; have hcz14_1 := zc1 BK228; have hcz14_2 := zc2 BK228; have hfz14_0 := zf BK228 0; have hfz14_1 := zf BK228 1; have hfz14_2 := zf BK228 2) | (go_at_call 5; (with_reducible refine (trystlaw11_Few.calls k a0_0 _ _ l0_1 _ _ l0_2 true _ zG ?side1 ?side2 ?side3 ?side4 A9.out).mono ?_); (case side1 => exact Kd.C_below (Kd.C_below HR0_1.out HB.out) zX); (case side2 => exact HC0_1.out); (case side3 => exact Kd.C_below (Kd.C_below HR0_2.out HB.out) zX); (case side4 => exact HC0_2.out); rintro e w15 ⟨rfl, hb⟩; replace BK228 := zb BK228 hb; replace BK229 := zb BK229 hb; replace HB := zw hb; (try clear hb); have hcz16_0 := zc0 BK229; have hcz16_1 := zc1 BK229; have hcz16_2 := zc2 BK229; have hfz16_0 := zf BK229 0; have hfz16_1 := zf BK229 1; have hfz16_2 := zf BK229 2) | (go_at_call 5; (with_reducible refine (trystlaw11_Few.calls k a1_0 _ _ l1_1 _ _ l1_2 t232 _ zG ?side1 ?side2 ?side3 ?side4 A11.out).mono ?_); (case side1 => exact Kd.C_below (Kd.C_below HR1_1.out HB.out) zX); (case side2 => exact HC1_1.out); (case side3 => exact Kd.C_below (Kd.C_below HR1_2.out HB.out) zX); (case side4 => exact HC1_2.out); rintro e w17 ⟨rfl, hb⟩; replace BK228 := zb BK228 hb; replace BK229 := zb BK229 hb; replace HB := zw hb; (try clear hb)))
    go_meet
    case rel => exact ⟨_, (!t232), zS, H', ⟨by first | omega | exact Nat.le_refl _⟩, ⟨blk_below BK228.out zX⟩, ⟨blk_below BK229.out zX⟩, ⟨zB⟩⟩
   ·have H' := Aside0.mk H; clear H
    go_wp2_with (first | ((with_reducible refine gate_callee (f := 4) rfl ?_); refine goesL_ (some 12) rfl rfl Tryd.func4 (by kernel_rfl) rfl #[] rfl zA ?_; (with_reducible refine (trystlaw11_awake.calls k  true _ zG A7.out).mono ?_); rintro e w18 ⟨rfl, hb⟩; refine ⟨_, rfl, ?_⟩; replace BK228 := zb BK228 hb; replace BK229 := zb BK229 hb; replace HB := zw hb; (try clear hb); have hnb19 := NB228_229.out; have hnc19 := NB229_228.out; have hcz20_0 := zc0 BK228; have hcz20_1 := zc1 BK228; have hcz20_2 := zc2 BK228; have hfz20_0 := zf BK228 0; have hfz20_1 := zf BK228 1; have hfz20_2 := zf BK228 2) | (go_at_call 5; (with_reducible refine (trystlaw11_Few.calls k a0_0 _ _ l0_1 _ _ l0_2 false _ zG ?side1 ?side2 ?side3 ?side4 A9.out).mono ?_); (case side1 => exact Kd.C_below (Kd.C_below HR0_1.out HB.out) zX); (case side2 => exact HC0_1.out); (case side3 => exact Kd.C_below (Kd.C_below HR0_2.out HB.out) zX); (case side4 => exact HC0_2.out); rintro e w21 ⟨rfl, hb⟩; replace BK228 := zb BK228 hb; replace BK229 := zb BK229 hb; replace HB := zw hb; (try clear hb)))
    go_meet
    case rel => exact ⟨_, (true), zS, H', ⟨by first | omega | exact Nat.le_refl _⟩, ⟨blk_below BK228.out zX⟩, ⟨blk_below BK229.out zX⟩, ⟨zB⟩⟩
  ·have H' := Aside0.mk H; clear H
   go_wp2_with (first | ((with_reducible refine gate_callee (f := 4) rfl ?_); refine goesL_ (some 12) rfl rfl Tryd.func4 (by kernel_rfl) rfl #[] rfl zA ?_; (with_reducible refine (trystlaw11_awake.calls k  false _ zG A7.out).mono ?_); rintro e w22 ⟨rfl, hb⟩; refine ⟨_, rfl, ?_⟩; replace BK228 := zb BK228 hb; replace BK229 := zb BK229 hb; replace HB := zw hb; (try clear hb)))
   go_meet
   case rel => exact ⟨_, (true), zS, H', ⟨by first | omega | exact Nat.le_refl _⟩, ⟨blk_below BK228.out zX⟩, ⟨blk_below BK229.out zX⟩, ⟨zB⟩⟩
 case rest =>
  clear HC4; obtain ⟨kq, x23_3, rfl, HA, HJ3, BK228, BK229, HB⟩ := hcut
  cases kq with
  | zero => exact absurd HA.out (by simp [trystlaw11_TreeFinds.j0])
  | succ kj3 =>
   have H := HA.out; clear HA; simp only [trystlaw11_TreeFinds.j0] at H; replace H := zIb H; rcases H with ⟨rfl, H⟩ | ⟨rfl, H⟩
   ·replace H := Option.bind_eq_some_iff.mp H; obtain ⟨t233, A240, H⟩ := H; replace H : (some t233) = some r := H; have A24 := Aside0.mk A240; clear A240; obtain rfl := Option.some.inj H
    go_wp2_with (first | ((with_reducible refine gate_callee (f := 4) rfl ?_); refine goesL_ (some 24) rfl rfl Tryd.func4 (by kernel_rfl) rfl #[] rfl zA ?_; (with_reducible refine (trystlaw11_awake.calls kj3  t233 _ zG A24.out).mono ?_); rintro e w25 ⟨rfl, hb⟩; refine ⟨_, rfl, ?_⟩; replace BK228 := zb BK228 hb; replace BK229 := zb BK229 hb; replace HB := zw hb; (try clear hb)))
    go_ret; exact ⟨zE, zB⟩
   ·have HC26 := Aside0.mk H; clear H
    go_upto_region 3 with (fail)
    go_cut [41] (fun v41 wc => ∃ (kq : Nat) (x41_25 : Bool), v41 = .bool x41_25 ∧ Aside0 (trystlaw11_TreeFinds.j1 kq a2 x41_25 a0_0 l0_1 l0_2 = some r) ∧ Aside0 (kq ≤ kj3) ∧ Aside0 (wc.heap[gb228]? = some (.cells #[.string a0_0, (.slice A0_1 l0_1.length c0_1), (.slice A0_2 l0_2.length c0_2)] 25 (0, 0))) ∧ Aside0 (wc.heap[gb229]? = some (.cells #[.string a1_0, (.slice A1_1 l1_1.length c1_1), (.slice A1_2 l1_2.length c1_2)] 25 (0, 0))) ∧ Aside0 (Below w.heap.size w wc))
    case first =>
     have H := HC26.out; clear HC26; replace H := Option.bind_eq_some_iff.mp H; obtain ⟨⟨t234, t235, t238⟩, A270, H⟩ := H; replace H : ((trystlaw11_Theirs.f kj3 a1_0 l1_1 l1_2).bind fun bt241 => ((tree_Equal.f t234 t235 t238 bt241.1 bt241.2.1 bt241.2.2).bind fun t248 => ((trystlaw11_Same.f kj3 a0_0 l0_1 l0_2 a1_0 l1_1 l1_2).bind fun t249 => (if (t248 != t249) = true then (trystlaw11_TreeFinds.j1 kj3 a2 true a0_0 l0_1 l0_2) else ((trystlaw11_Theirs.f kj3 a0_0 l0_1 l0_2).bind fun bt250 => ((trystlaw11_Theirs.f kj3 a0_0 l0_1 l0_2).bind fun bt257 => ((tree_Equal.f bt250.1 bt250.2.1 bt250.2.2 bt257.1 bt257.2.1 bt257.2.2).bind fun t264 => (trystlaw11_TreeFinds.j1 kj3 a2 (!t264) a0_0 l0_1 l0_2)))))))) = some r := H; have A27 := Aside0.mk A270; clear A270; replace H := Option.bind_eq_some_iff.mp H; obtain ⟨⟨t241, t242, t245⟩, A280, H⟩ := H
     replace H : ((tree_Equal.f t234 t235 t238 t241 t242 t245).bind fun t248 => ((trystlaw11_Same.f kj3 a0_0 l0_1 l0_2 a1_0 l1_1 l1_2).bind fun t249 => (if (t248 != t249) = true then (trystlaw11_TreeFinds.j1 kj3 a2 true a0_0 l0_1 l0_2) else ((trystlaw11_Theirs.f kj3 a0_0 l0_1 l0_2).bind fun bt250 => ((trystlaw11_Theirs.f kj3 a0_0 l0_1 l0_2).bind fun bt257 => ((tree_Equal.f bt250.1 bt250.2.1 bt250.2.2 bt257.1 bt257.2.1 bt257.2.2).bind fun t264 => (trystlaw11_TreeFinds.j1 kj3 a2 (!t264) a0_0 l0_1 l0_2))))))) = some r := H; have A28 := Aside0.mk A280; clear A280; replace H := Option.bind_eq_some_iff.mp H; obtain ⟨t248, A290, H⟩ := H
     replace H : ((trystlaw11_Same.f kj3 a0_0 l0_1 l0_2 a1_0 l1_1 l1_2).bind fun t249 => (if (t248 != t249) = true then (trystlaw11_TreeFinds.j1 kj3 a2 true a0_0 l0_1 l0_2) else ((trystlaw11_Theirs.f kj3 a0_0 l0_1 l0_2).bind fun bt250 => ((trystlaw11_Theirs.f kj3 a0_0 l0_1 l0_2).bind fun bt257 => ((tree_Equal.f bt250.1 bt250.2.1 bt250.2.2 bt257.1 bt257.2.1 bt257.2.2).bind fun t264 => (trystlaw11_TreeFinds.j1 kj3 a2 (!t264) a0_0 l0_1 l0_2)))))) = some r := H; have A29 := Aside0.mk A290; clear A290; replace H := Option.bind_eq_some_iff.mp H; obtain ⟨t249, A300, H⟩ := H
     replace H : (if (t248 != t249) = true then (trystlaw11_TreeFinds.j1 kj3 a2 true a0_0 l0_1 l0_2) else ((trystlaw11_Theirs.f kj3 a0_0 l0_1 l0_2).bind fun bt250 => ((trystlaw11_Theirs.f kj3 a0_0 l0_1 l0_2).bind fun bt257 => ((tree_Equal.f bt250.1 bt250.2.1 bt250.2.2 bt257.1 bt257.2.1 bt257.2.2).bind fun t264 => (trystlaw11_TreeFinds.j1 kj3 a2 (!t264) a0_0 l0_1 l0_2))))) = some r := H; have A30 := Aside0.mk A300; clear A300; replace H := zI H; rcases H with ⟨c31, H⟩ | ⟨c31, H⟩
     ·have c31b0 : (t248 != t249) = true := c31; (try (have c31b1 : decide (t248 = t249) = false := by simpa using c31)); (try (have c31b2 : (t248 == t249) = false := by simpa using c31)); (try (have c31b3 : ¬ (t248 = t249) := by simpa using c31)); clear c31
      (first | rw [c31b0] | (simp only [i64_w, i32_w]; rw [c31b0]) | skip)
      have H' := Aside0.mk H; clear H
      try go_wp2
      replace BK228 := Aside0.mk (blk_drew BK228.out); replace BK229 := Aside0.mk (blk_drew BK229.out); replace HB := Aside0.mk (below_drew1 HB.out)
      refine start_ (n := 17) (S := fun w' => w'.cell? ⟨gb228, 0, none⟩ = some (.string a0_0) ∧ w'.cell? ⟨gb228, 1, none⟩ = some (.slice A0_1 l0_1.length c0_1) ∧ w'.cell? ⟨gb228, 2, none⟩ = some (.slice A0_2 l0_2.length c0_2) ∧ w'.cell? ⟨gb229, 0, none⟩ = some (.string a1_0) ∧ w'.cell? ⟨gb229, 1, none⟩ = some (.slice A1_1 l1_1.length c1_1) ∧ w'.cell? ⟨gb229, 2, none⟩ = some (.slice A1_2 l1_2.length c1_2)) (ds := []) #[false, false, false, false, false, false, false, false, false, false, false, false, false, false, false, false, false] (by kernel_rfl) rfl rfl ⟨(blk_cell BK228.out 0).trans rfl, (blk_cell BK228.out 1).trans rfl, (blk_cell BK228.out 2).trans rfl, (blk_cell BK229.out 0).trans rfl, (blk_cell BK229.out 1).trans rfl, (blk_cell BK229.out 2).trans rfl⟩ (fun hHeld => ?_); refine with_tabW trystlaw11_TreeFinds.tab3 trystlaw11_TreeFinds.bits3 (fun HT_ HW_ => ?_)
      generalize wc.drew = w32 at BK228 BK229 HB hHeld ⊢; refine take_ (i := 0) (N := some 25) (v := ?_) (a' := ?_) #[true, false, false, false, false, false, false, false, false, false, false, false, false, false, false, false, false] rfl rfl (take_ofW HT_.out HW_.out (by kernel_rfl)) (fun _ _ _ h => h) (Or.inl ⟨by rfl, ?_⟩) hHeld ?_ ?_; rotate_left
      ·rintro w' ⟨s0, s1, s2, s3, s4, s5⟩; go_simp; with_reducible rfl
      rotate_left
      ·simp only [Act.put, List.setIfInBounds_toArray, List.set_cons_zero, List.set_cons_succ, i64_w, i32_w]; rfl
      refine take_ (i := 2) (N := some 27) (v := ?_) (a' := ?_) #[true, false, true, false, false, false, false, false, false, false, false, false, false, false, false, false, false] rfl rfl (take_ofW HT_.out HW_.out (by kernel_rfl)) (fun _ _ _ h => h) (Or.inl ⟨by rfl, ?_⟩) hHeld ?_ ?_; rotate_left
      ·rintro w' ⟨s0, s1, s2, s3, s4, s5⟩; go_simp; with_reducible rfl
      rotate_left
      ·simp only [Act.put, List.setIfInBounds_toArray, List.set_cons_zero, List.set_cons_succ, i64_w, i32_w]; rfl
      refine take_ (i := 5) (N := some 30) (v := ?_) (a' := ?_) #[true, false, true, false, false, true, false, false, false, false, false, false, false, false, false, false, false] rfl rfl (take_ofW HT_.out HW_.out (by kernel_rfl)) (fun _ _ _ h => h) (Or.inl ⟨by rfl, ?_⟩) hHeld ?_ ?_; rotate_left
      ·rintro w' ⟨s0, s1, s2, s3, s4, s5⟩; go_simp; with_reducible rfl
      rotate_left
      ·simp only [Act.put, List.setIfInBounds_toArray, List.set_cons_zero, List.set_cons_succ, i64_w, i32_w]; rfl
      refine take_ (i := 6) (N := some 31) (v := ?_) (a' := ?_) #[true, false, true, false, false, true, true, false, false, false, false, false, false, false, false, false, false] rfl rfl (take_ofW HT_.out HW_.out (by kernel_rfl)) (fun _ _ _ h => h) (Or.inl ⟨by rfl, ?_⟩) hHeld ?_ ?_; rotate_left
      ·rintro w' ⟨s0, s1, s2, s3, s4, s5⟩; go_simp; with_reducible rfl
      rotate_left
      ·simp only [Act.put, List.setIfInBounds_toArray, List.set_cons_zero, List.set_cons_succ, i64_w, i32_w]; rfl
      refine one_ (i := 1) (N := some 26) #[true, true, true, false, false, true, true, false, false, false, false, false, false, false, false, false, false] rfl rfl (one_of HT_.out (by kernel_rfl)) (by decide) (fun K hK => ?_); refine goes_ Tryd.func7 (by kernel_rfl) rfl #[.agg #[.string a0_0, .slice A0_1 l0_1.length c0_1, .slice A0_2 l0_2.length c0_2]] (by rfl) rfl rfl zA ?_
      with_reducible refine (trystlaw11_Theirs.calls kj3 a0_0 _ _ l0_1 _ _ l0_2 t234 t235 t238 _ zG ?side1 ?side2 ?side3 ?side4 A27.out).mono ?_
      (case side1 => exact Kd.C_below (Kd.C_below HR0_1.out HB.out) zX)
      (case side2 => exact HC0_1.out)
      (case side3 => exact Kd.C_below (Kd.C_below HR0_2.out HB.out) zX)
      (case side4 => exact HC0_2.out)
      rintro e w33 ⟨v236, v239, rfl, ho0, ho1, hb⟩; refine ⟨_, rfl, ?_⟩; have n0_ := Aside0.mk (Kd.N_lower (Kd.N_mono (ok' := fun k_ => some k_ ≠ (v239 : Value).ownBlock ∧ k_ ≠ gb228 ∧ k_ ≠ gb229) (Kd.R_N (Kd.R_bound (Kd.R_apart' ho0 (Kd.R_typed ho1) (by decide)))) (fun k_ hk_ => ⟨hk_.1.2, (Kd.freshB (g := gb228) (o := .cells #[.string a0_0, .slice A0_1 l0_1.length c0_1, .slice A0_2 l0_2.length c0_2] 25 (0, 0)) (blk_below BK228.out zX) k_ hk_.2.1), (Kd.freshB (g := gb229) (o := .cells #[.string a1_0, .slice A1_1 l1_1.length c1_1, .slice A1_2 l1_2.length c1_2] 25 (0, 0)) (blk_below BK229.out zX) k_ hk_.2.1)⟩)) (below_size zB))
      have n1_ := Aside0.mk (Kd.N_lower (Kd.N_mono (ok' := fun k_ => some k_ ≠ (v236 : Value).ownBlock ∧ k_ ≠ gb228 ∧ k_ ≠ gb229) (Kd.R_N (Kd.R_bound ho1)) (fun k_ hk_ => ⟨hk_.1, (Kd.freshB (g := gb228) (o := .cells #[.string a0_0, .slice A0_1 l0_1.length c0_1, .slice A0_2 l0_2.length c0_2] 25 (0, 0)) (blk_below BK228.out zX) k_ hk_.2.1), (Kd.freshB (g := gb229) (o := .cells #[.string a1_0, .slice A1_1 l1_1.length c1_1, .slice A1_2 l1_2.length c1_2] 25 (0, 0)) (blk_below BK229.out zX) k_ hk_.2.1)⟩)) (below_size zB)); have n2_ := zb BK228 hb; have n3_ := zb BK229 hb; have n4_ := zw hb; clear BK228; clear BK229; clear HB; have HO237 := n0_; have HO240 := n1_; have BK228 := n2_; have BK229 := n3_; have HB := n4_; clear n0_ n1_ n2_ n3_ n4_; (try clear hb); (try clear hb2); (try clear hk)
      (try clear hi); (try clear ho0); (try clear ho1); refine hK.out _ _ ⟨(blk_cell BK228.out 0).trans rfl, (blk_cell BK228.out 1).trans rfl, (blk_cell BK228.out 2).trans rfl, (blk_cell BK229.out 0).trans rfl, (blk_cell BK229.out 1).trans rfl, (blk_cell BK229.out 2).trans rfl⟩ (fun hHeld => ?_); clear hK K; refine norm_ (a' := ?_) ?_ ?_; rotate_left
      ·show Act.put _ (some 26) _ = _
       simp only [Act.put, List.setIfInBounds_toArray, List.set_cons_zero, List.set_cons_succ, i64_w, i32_w]; rfl
      refine one_ (i := 3) (N := some 28) #[true, true, true, true, false, true, true, false, false, false, false, false, false, false, false, false, false] rfl rfl (one_of HT_.out (by kernel_rfl)) (by decide) (fun K hK => ?_); refine goes_ Tryd.func7 (by kernel_rfl) rfl #[.agg #[.string a1_0, .slice A1_1 l1_1.length c1_1, .slice A1_2 l1_2.length c1_2]] (by rfl) rfl rfl zA ?_
      with_reducible refine (trystlaw11_Theirs.calls kj3 a1_0 _ _ l1_1 _ _ l1_2 t241 t242 t245 _ zG ?side1 ?side2 ?side3 ?side4 A28.out).mono ?_
      (case side1 => exact Kd.C_below (Kd.C_below HR1_1.out HB.out) zX)
      (case side2 => exact HC1_1.out)
      (case side3 => exact Kd.C_below (Kd.C_below HR1_2.out HB.out) zX)
      (case side4 => exact HC1_2.out)
      rintro e w34 ⟨v243, v246, rfl, ho0, ho1, hb⟩; refine ⟨_, rfl, ?_⟩; have n0_ := Aside0.mk (Kd.N_mono (Kd.N_told (Kd.N_told (Kd.N_old (Kd.N_below HO237.out zX) hb) (Kd.N_base (Kd.R_N ho0))) (Kd.N_base (Kd.R_N ho1))) (fun _ h_ => h_.1)); have n1_ := Aside0.mk (Kd.N_mono (Kd.N_told (Kd.N_told (Kd.N_old (Kd.N_below HO240.out zX) hb) (Kd.N_base (Kd.R_N ho0))) (Kd.N_base (Kd.R_N ho1))) (fun _ h_ => h_.1))
      have n2_ := Aside0.mk (Kd.N_lower (Kd.N_mono (ok' := fun k_ => some k_ ≠ (v246 : Value).ownBlock ∧ some k_ ≠ (v236 : Value).ownBlock ∧ some k_ ≠ (v239 : Value).ownBlock ∧ k_ ≠ gb228 ∧ k_ ≠ gb229) (Kd.R_N (Kd.R_bound (Kd.R_apart' ho0 (Kd.R_typed ho1) (by decide)))) (fun k_ hk_ => ⟨hk_.1.2, (Kd.fresh' (Kd.N_lt (Kd.N_below HO237.out zX)) k_ hk_.2.1), (Kd.fresh' (Kd.N_lt (Kd.N_below HO240.out zX)) k_ hk_.2.1), (Kd.freshB (g := gb228) (o := .cells #[.string a0_0, .slice A0_1 l0_1.length c0_1, .slice A0_2 l0_2.length c0_2] 25 (0, 0)) (blk_below BK228.out zX) k_ hk_.2.1), (Kd.freshB (g := gb229) (o := .cells #[.string a1_0, .slice A1_1 l1_1.length c1_1, .slice A1_2 l1_2.length c1_2] 25 (0, 0)) (blk_below BK229.out zX) k_ hk_.2.1)⟩)) (below_size zB))
      have n3_ := Aside0.mk (Kd.N_lower (Kd.N_mono (ok' := fun k_ => some k_ ≠ (v243 : Value).ownBlock ∧ some k_ ≠ (v236 : Value).ownBlock ∧ some k_ ≠ (v239 : Value).ownBlock ∧ k_ ≠ gb228 ∧ k_ ≠ gb229) (Kd.R_N (Kd.R_bound ho1)) (fun k_ hk_ => ⟨hk_.1, (Kd.fresh' (Kd.N_lt (Kd.N_below HO237.out zX)) k_ hk_.2.1), (Kd.fresh' (Kd.N_lt (Kd.N_below HO240.out zX)) k_ hk_.2.1), (Kd.freshB (g := gb228) (o := .cells #[.string a0_0, .slice A0_1 l0_1.length c0_1, .slice A0_2 l0_2.length c0_2] 25 (0, 0)) (blk_below BK228.out zX) k_ hk_.2.1), (Kd.freshB (g := gb229) (o := .cells #[.string a1_0, .slice A1_1 l1_1.length c1_1, .slice A1_2 l1_2.length c1_2] 25 (0, 0)) (blk_below BK229.out zX) k_ hk_.2.1)⟩)) (below_size zB)); have n4_ := zb BK228 hb; have n5_ := zb BK229 hb; have n6_ := zw hb; clear HO237
      clear HO240; clear BK228; clear BK229; clear HB; have HO237 := n0_; have HO240 := n1_; have HO244 := n2_; have HO247 := n3_; have BK228 := n4_; have BK229 := n5_; have HB := n6_; clear n0_ n1_ n2_ n3_ n4_ n5_ n6_; (try clear hb); (try clear hb2); (try clear hk); (try clear hi); (try clear ho0); (try clear ho1); obtain ⟨Ao35, co35, eo35⟩ := Kd.N_slice HO237.out
      (first | subst eo35 | (injection eo35 with f1_ f2_ f3_; have f4_ := f1_.symm; have f5_ := f3_.symm; clear f1_ f2_ f3_; subst f4_; subst f5_))
      obtain ⟨Ao36, co36, eo36⟩ := Kd.N_slice HO240.out
      (first | subst eo36 | (injection eo36 with f1_ f2_ f3_; have f4_ := f1_.symm; have f5_ := f3_.symm; clear f1_ f2_ f3_; subst f4_; subst f5_))
      obtain ⟨Ao37, co37, eo37⟩ := Kd.N_slice HO244.out
      (first | subst eo37 | (injection eo37 with f1_ f2_ f3_; have f4_ := f1_.symm; have f5_ := f3_.symm; clear f1_ f2_ f3_; subst f4_; subst f5_))
      obtain ⟨Ao38, co38, eo38⟩ := Kd.N_slice HO247.out
      (first | subst eo38 | (injection eo38 with f1_ f2_ f3_; have f4_ := f1_.symm; have f5_ := f3_.symm; clear f1_ f2_ f3_; subst f4_; subst f5_))
      refine hK.out _ _ ⟨(blk_cell BK228.out 0).trans rfl, (blk_cell BK228.out 1).trans rfl, (blk_cell BK228.out 2).trans rfl, (blk_cell BK229.out 0).trans rfl, (blk_cell BK229.out 1).trans rfl, (blk_cell BK229.out 2).trans rfl⟩ (fun hHeld => ?_); clear hK K; refine norm_ (a' := ?_) ?_ ?_; rotate_left
      ·show Act.put _ (some 28) _ = _
       simp only [Act.put, List.setIfInBounds_toArray, List.set_cons_zero, List.set_cons_succ, i64_w, i32_w]; rfl
      refine one_ (i := 4) (N := some 29) #[true, true, true, true, true, true, true, false, false, false, false, false, false, false, false, false, false] rfl rfl (one_of HT_.out (by kernel_rfl)) (by decide) (fun K hK => ?_); refine goes_ Tryd.func6 (by kernel_rfl) rfl #[.agg #[.string t234, .slice Ao35 t235.length co35, .slice Ao36 t238.length co36], .agg #[.string t241, .slice Ao37 t242.length co37, .slice Ao38 t245.length co38]] (by rfl) rfl rfl zA ?_
      with_reducible refine (tree_Equal.calls t234 _ _ t235 _ _ t238 t241 _ _ t242 _ _ t245 t248 _ zG ?side1 ?side2 ?side3 ?side4 ?side5 ?side6 ?side7 ?side8 A29.out).mono ?_
      (case side1 => exact Kd.C_below (Kd.N_reads' HO237.out).2.2 zX)
      (case side2 => exact (Kd.N_reads' HO237.out).2.1)
      (case side3 => exact Kd.C_below (Kd.N_reads' HO240.out).2.2 zX)
      (case side4 => exact (Kd.N_reads' HO240.out).2.1)
      (case side5 => exact Kd.C_below (Kd.N_reads' HO244.out).2.2 zX)
      (case side6 => exact (Kd.N_reads' HO244.out).2.1)
      (case side7 => exact Kd.C_below (Kd.N_reads' HO247.out).2.2 zX)
      (case side8 => exact (Kd.N_reads' HO247.out).2.1)
      rintro e w39 ⟨rfl, hb⟩; refine ⟨_, rfl, ?_⟩; replace HO237 := Aside0.mk (Kd.N_below (Kd.N_below HO237.out zX) hb); replace HO240 := Aside0.mk (Kd.N_below (Kd.N_below HO240.out zX) hb); replace HO244 := Aside0.mk (Kd.N_below (Kd.N_below HO244.out zX) hb); replace HO247 := Aside0.mk (Kd.N_below (Kd.N_below HO247.out zX) hb); replace BK228 := zb BK228 hb; replace BK229 := zb BK229 hb; replace HB := zw hb; (try clear hb); (try clear hb2); (try clear hk); (try clear hi)
      refine hK.out _ _ ⟨(blk_cell BK228.out 0).trans rfl, (blk_cell BK228.out 1).trans rfl, (blk_cell BK228.out 2).trans rfl, (blk_cell BK229.out 0).trans rfl, (blk_cell BK229.out 1).trans rfl, (blk_cell BK229.out 2).trans rfl⟩ (fun hHeld => ?_); clear hK K; refine norm_ (a' := ?_) ?_ ?_; rotate_left
      ·show Act.put _ (some 29) _ = _
       simp only [Act.put, List.setIfInBounds_toArray, List.set_cons_zero, List.set_cons_succ, i64_w, i32_w]; rfl
      refine one_ (i := 7) (N := some 32) #[true, true, true, true, true, true, true, true, false, false, false, false, false, false, false, false, false] rfl rfl (one_of HT_.out (by kernel_rfl)) (by decide) (fun K hK => ?_); refine goes_ Tryd.func8 (by kernel_rfl) rfl #[.agg #[.string a0_0, .slice A0_1 l0_1.length c0_1, .slice A0_2 l0_2.length c0_2], .agg #[.string a1_0, .slice A1_1 l1_1.length c1_1, .slice A1_2 l1_2.length c1_2]] (by rfl) rfl rfl zA ?_
      with_reducible refine (trystlaw11_Same.calls kj3 a0_0 _ _ l0_1 _ _ l0_2 a1_0 _ _ l1_1 _ _ l1_2 t249 _ zG ?side1 ?side2 ?side3 ?side4 ?side5 ?side6 ?side7 ?side8 A30.out).mono ?_
      (case side1 => exact Kd.C_below (Kd.C_below HR0_1.out HB.out) zX)
      (case side2 => exact HC0_1.out)
      (case side3 => exact Kd.C_below (Kd.C_below HR0_2.out HB.out) zX)
      (case side4 => exact HC0_2.out)
      (case side5 => exact Kd.C_below (Kd.C_below HR1_1.out HB.out) zX)
      (case side6 => exact HC1_1.out)
      (case side7 => exact Kd.C_below (Kd.C_below HR1_2.out HB.out) zX)
      (case side8 => exact HC1_2.out)
      rintro e w40 ⟨rfl, hb⟩; refine ⟨_, rfl, ?_⟩; replace HO237 := Aside0.mk (Kd.N_below (Kd.N_below HO237.out zX) hb); replace HO240 := Aside0.mk (Kd.N_below (Kd.N_below HO240.out zX) hb); replace HO244 := Aside0.mk (Kd.N_below (Kd.N_below HO244.out zX) hb); replace HO247 := Aside0.mk (Kd.N_below (Kd.N_below HO247.out zX) hb); replace BK228 := zb BK228 hb; replace BK229 := zb BK229 hb; replace HB := zw hb; (try clear hb); (try clear hb2); (try clear hk); (try clear hi)
      refine hK.out _ _ ⟨(blk_cell BK228.out 0).trans rfl, (blk_cell BK228.out 1).trans rfl, (blk_cell BK228.out 2).trans rfl, (blk_cell BK229.out 0).trans rfl, (blk_cell BK229.out 1).trans rfl, (blk_cell BK229.out 2).trans rfl⟩ (fun hHeld => ?_); clear hK K; refine norm_ (a' := ?_) ?_ ?_; rotate_left
      ·show Act.put _ (some 32) _ = _
       simp only [Act.put, List.setIfInBounds_toArray, List.set_cons_zero, List.set_cons_succ, i64_w, i32_w]; rfl
      refine pure_ (i := 8) (N := some 33) (v := ?_) (a' := ?_) #[true, true, true, true, true, true, true, true, true, false, false, false, false, false, false, false, false] rfl rfl (any_of HT_.out (by kernel_rfl)) (fun _ _ _ h => h) (Or.inl ⟨by rfl, ?_⟩) ?_ ?_; rotate_left
      ·intro w'; go_simp; with_reducible rfl
      rotate_left
      ·simp only [Act.put, List.setIfInBounds_toArray, List.set_cons_zero, List.set_cons_succ, i64_w, i32_w]; rfl
      refine pure_ (i := 9) (N := some 34) (v := ?_) (a' := ?_) #[true, true, true, true, true, true, true, true, true, true, false, false, false, false, false, false, false] rfl rfl (any_of HT_.out (by kernel_rfl)) (fun _ _ _ h => h) (Or.inl ⟨by rfl, ?_⟩) ?_ ?_; rotate_left
      ·intro w'; go_simp; with_reducible rfl
      rotate_left
      ·simp only [Act.put, List.setIfInBounds_toArray, List.set_cons_zero, List.set_cons_succ, i64_w, i32_w]; rfl
      refine pure_ (i := 10) (N := some 35) (v := undef) (a' := ?_) #[true, true, true, true, true, true, true, true, true, true, true, false, false, false, false, false, false] rfl rfl (any_of HT_.out (by kernel_rfl)) (fun _ _ _ h => h) (Or.inr ⟨by rfl, rfl⟩) ?_ ?_; rotate_left
      ·simp only [Act.put, List.setIfInBounds_toArray, List.set_cons_zero, List.set_cons_succ, i64_w, i32_w]; rfl
      refine pure_ (i := 11) (N := some 36) (v := undef) (a' := ?_) #[true, true, true, true, true, true, true, true, true, true, true, true, false, false, false, false, false] rfl rfl (any_of HT_.out (by kernel_rfl)) (fun _ _ _ h => h) (Or.inr ⟨by rfl, rfl⟩) ?_ ?_; rotate_left
      ·simp only [Act.put, List.setIfInBounds_toArray, List.set_cons_zero, List.set_cons_succ, i64_w, i32_w]; rfl
      refine pure_ (i := 12) (N := some 37) (v := undef) (a' := ?_) #[true, true, true, true, true, true, true, true, true, true, true, true, true, false, false, false, false] rfl rfl (any_of HT_.out (by kernel_rfl)) (fun _ _ _ h => h) (Or.inr ⟨by rfl, rfl⟩) ?_ ?_; rotate_left
      ·simp only [Act.put, List.setIfInBounds_toArray, List.set_cons_zero, List.set_cons_succ, i64_w, i32_w]; rfl
      refine pure_ (i := 13) (N := some 38) (v := undef) (a' := ?_) #[true, true, true, true, true, true, true, true, true, true, true, true, true, true, false, false, false] rfl rfl (any_of HT_.out (by kernel_rfl)) (fun _ _ _ h => h) (Or.inr ⟨by rfl, rfl⟩) ?_ ?_; rotate_left
      ·simp only [Act.put, List.setIfInBounds_toArray, List.set_cons_zero, List.set_cons_succ, i64_w, i32_w]; rfl
      refine pure_ (i := 14) (N := some 39) (v := undef) (a' := ?_) #[true, true, true, true, true, true, true, true, true, true, true, true, true, true, true, false, false] rfl rfl (any_of HT_.out (by kernel_rfl)) (fun _ _ _ h => h) (Or.inr ⟨by rfl, rfl⟩) ?_ ?_; rotate_left
      ·simp only [Act.put, List.setIfInBounds_toArray, List.set_cons_zero, List.set_cons_succ, i64_w, i32_w]; rfl
      refine pure_ (i := 15) (N := some 40) (v := undef) (a' := ?_) #[true, true, true, true, true, true, true, true, true, true, true, true, true, true, true, true, false] rfl rfl (any_of HT_.out (by kernel_rfl)) (fun _ _ _ h => h) (Or.inr ⟨by rfl, rfl⟩) ?_ ?_; rotate_left
      ·simp only [Act.put, List.setIfInBounds_toArray, List.set_cons_zero, List.set_cons_succ, i64_w, i32_w]; rfl
      refine pure_ (i := 16) (N := some 41) (v := ?_) (a' := ?_) #[true, true, true, true, true, true, true, true, true, true, true, true, true, true, true, true, true] rfl rfl (any_of HT_.out (by kernel_rfl)) (fun _ _ _ h => h) (Or.inl ⟨by rfl, ?_⟩) ?_ ?_; rotate_left
      ·intro w'; go_simp; with_reducible rfl
      rotate_left
      ·simp only [Act.put, List.setIfInBounds_toArray, List.set_cons_zero, List.set_cons_succ, i64_w, i32_w]; rfl
      refine done_ (done_of HT_.out (by kernel_rfl)) ?_
      try go_wp2
      go_meet
      case rel => exact ⟨_, (true), zS, H', ⟨by have := HJ3.out; first | omega | exact Nat.le_refl _⟩, ⟨blk_below BK228.out zX⟩, ⟨blk_below BK229.out zX⟩, ⟨zB⟩⟩
     ·have c31b0 : (t248 != t249) = false := by simpa using c31
      (try (have c31b1 : decide (t248 = t249) = true := by simpa using c31)); (try (have c31b2 : (t248 == t249) = true := by simpa using c31)); clear c31
      (first | rw [c31b0] | (simp only [i64_w, i32_w]; rw [c31b0]) | skip)
      replace H := Option.bind_eq_some_iff.mp H; obtain ⟨⟨t250, t251, t254⟩, A410, H⟩ := H; replace H : ((trystlaw11_Theirs.f kj3 a0_0 l0_1 l0_2).bind fun bt257 => ((tree_Equal.f t250 t251 t254 bt257.1 bt257.2.1 bt257.2.2).bind fun t264 => (trystlaw11_TreeFinds.j1 kj3 a2 (!t264) a0_0 l0_1 l0_2))) = some r := H; have A41 := Aside0.mk A410; clear A410; replace H := Option.bind_eq_some_iff.mp H; obtain ⟨⟨t257, t258, t261⟩, A420, H⟩ := H; replace H : ((tree_Equal.f t250 t251 t254 t257 t258 t261).bind fun t264 => (trystlaw11_TreeFinds.j1 kj3 a2 (!t264) a0_0 l0_1 l0_2)) = some r := H; have A42 := Aside0.mk A420; clear A420; replace H := Option.bind_eq_some_iff.mp H; obtain ⟨t264, A430, H⟩ := H; replace H : (trystlaw11_TreeFinds.j1 kj3 a2 (!t264) a0_0 l0_1 l0_2) = some r := H; have A43 := Aside0.mk A430; clear A430; have H' := Aside0.mk H; clear H
      try go_wp2
      replace BK228 := Aside0.mk (blk_drew BK228.out); replace BK229 := Aside0.mk (blk_drew BK229.out); replace HB := Aside0.mk (below_drew1 HB.out)
      refine start_ (n := 17) (S := fun w' => w'.cell? ⟨gb228, 0, none⟩ = some (.string a0_0) ∧ w'.cell? ⟨gb228, 1, none⟩ = some (.slice A0_1 l0_1.length c0_1) ∧ w'.cell? ⟨gb228, 2, none⟩ = some (.slice A0_2 l0_2.length c0_2) ∧ w'.cell? ⟨gb229, 0, none⟩ = some (.string a1_0) ∧ w'.cell? ⟨gb229, 1, none⟩ = some (.slice A1_1 l1_1.length c1_1) ∧ w'.cell? ⟨gb229, 2, none⟩ = some (.slice A1_2 l1_2.length c1_2)) (ds := []) #[false, false, false, false, false, false, false, false, false, false, false, false, false, false, false, false, false] (by kernel_rfl) rfl rfl ⟨(blk_cell BK228.out 0).trans rfl, (blk_cell BK228.out 1).trans rfl, (blk_cell BK228.out 2).trans rfl, (blk_cell BK229.out 0).trans rfl, (blk_cell BK229.out 1).trans rfl, (blk_cell BK229.out 2).trans rfl⟩ (fun hHeld => ?_); refine with_tabW trystlaw11_TreeFinds.tab3 trystlaw11_TreeFinds.bits3 (fun HT_ HW_ => ?_)
      generalize wc.drew = w44 at BK228 BK229 HB hHeld ⊢; refine take_ (i := 0) (N := some 25) (v := ?_) (a' := ?_) #[true, false, false, false, false, false, false, false, false, false, false, false, false, false, false, false, false] rfl rfl (take_ofW HT_.out HW_.out (by kernel_rfl)) (fun _ _ _ h => h) (Or.inl ⟨by rfl, ?_⟩) hHeld ?_ ?_; rotate_left
      ·rintro w' ⟨s0, s1, s2, s3, s4, s5⟩; go_simp; with_reducible rfl
      rotate_left
      ·simp only [Act.put, List.setIfInBounds_toArray, List.set_cons_zero, List.set_cons_succ, i64_w, i32_w]; rfl
      refine take_ (i := 2) (N := some 27) (v := ?_) (a' := ?_) #[true, false, true, false, false, false, false, false, false, false, false, false, false, false, false, false, false] rfl rfl (take_ofW HT_.out HW_.out (by kernel_rfl)) (fun _ _ _ h => h) (Or.inl ⟨by rfl, ?_⟩) hHeld ?_ ?_; rotate_left
      ·rintro w' ⟨s0, s1, s2, s3, s4, s5⟩; go_simp; with_reducible rfl
      rotate_left
      ·simp only [Act.put, List.setIfInBounds_toArray, List.set_cons_zero, List.set_cons_succ, i64_w, i32_w]; rfl
      refine take_ (i := 5) (N := some 30) (v := ?_) (a' := ?_) #[true, false, true, false, false, true, false, false, false, false, false, false, false, false, false, false, false] rfl rfl (take_ofW HT_.out HW_.out (by kernel_rfl)) (fun _ _ _ h => h) (Or.inl ⟨by rfl, ?_⟩) hHeld ?_ ?_; rotate_left
      ·rintro w' ⟨s0, s1, s2, s3, s4, s5⟩; go_simp; with_reducible rfl
      rotate_left
      ·simp only [Act.put, List.setIfInBounds_toArray, List.set_cons_zero, List.set_cons_succ, i64_w, i32_w]; rfl
      refine take_ (i := 6) (N := some 31) (v := ?_) (a' := ?_) #[true, false, true, false, false, true, true, false, false, false, false, false, false, false, false, false, false] rfl rfl (take_ofW HT_.out HW_.out (by kernel_rfl)) (fun _ _ _ h => h) (Or.inl ⟨by rfl, ?_⟩) hHeld ?_ ?_; rotate_left
      ·rintro w' ⟨s0, s1, s2, s3, s4, s5⟩; go_simp; with_reducible rfl
      rotate_left
      ·simp only [Act.put, List.setIfInBounds_toArray, List.set_cons_zero, List.set_cons_succ, i64_w, i32_w]; rfl
      refine one_ (i := 1) (N := some 26) #[true, true, true, false, false, true, true, false, false, false, false, false, false, false, false, false, false] rfl rfl (one_of HT_.out (by kernel_rfl)) (by decide) (fun K hK => ?_); refine goes_ Tryd.func7 (by kernel_rfl) rfl #[.agg #[.string a0_0, .slice A0_1 l0_1.length c0_1, .slice A0_2 l0_2.length c0_2]] (by rfl) rfl rfl zA ?_
      with_reducible refine (trystlaw11_Theirs.calls kj3 a0_0 _ _ l0_1 _ _ l0_2 t234 t235 t238 _ zG ?side1 ?side2 ?side3 ?side4 A27.out).mono ?_
      (case side1 => exact Kd.C_below (Kd.C_below HR0_1.out HB.out) zX)
      (case side2 => exact HC0_1.out)
      (case side3 => exact Kd.C_below (Kd.C_below HR0_2.out HB.out) zX)
      (case side4 => exact HC0_2.out)
      rintro e w45 ⟨v236, v239, rfl, ho0, ho1, hb⟩; refine ⟨_, rfl, ?_⟩; have n0_ := Aside0.mk (Kd.N_lower (Kd.N_mono (ok' := fun k_ => some k_ ≠ (v239 : Value).ownBlock ∧ k_ ≠ gb228 ∧ k_ ≠ gb229) (Kd.R_N (Kd.R_bound (Kd.R_apart' ho0 (Kd.R_typed ho1) (by decide)))) (fun k_ hk_ => ⟨hk_.1.2, (Kd.freshB (g := gb228) (o := .cells #[.string a0_0, .slice A0_1 l0_1.length c0_1, .slice A0_2 l0_2.length c0_2] 25 (0, 0)) (blk_below BK228.out zX) k_ hk_.2.1), (Kd.freshB (g := gb229) (o := .cells #[.string a1_0, .slice A1_1 l1_1.length c1_1, .slice A1_2 l1_2.length c1_2] 25 (0, 0)) (blk_below BK229.out zX) k_ hk_.2.1)⟩)) (below_size zB))
      have n1_ := Aside0.mk (Kd.N_lower (Kd.N_mono (ok' := fun k_ => some k_ ≠ (v236 : Value).ownBlock ∧ k_ ≠ gb228 ∧ k_ ≠ gb229) (Kd.R_N (Kd.R_bound ho1)) (fun k_ hk_ => ⟨hk_.1, (Kd.freshB (g := gb228) (o := .cells #[.string a0_0, .slice A0_1 l0_1.length c0_1, .slice A0_2 l0_2.length c0_2] 25 (0, 0)) (blk_below BK228.out zX) k_ hk_.2.1), (Kd.freshB (g := gb229) (o := .cells #[.string a1_0, .slice A1_1 l1_1.length c1_1, .slice A1_2 l1_2.length c1_2] 25 (0, 0)) (blk_below BK229.out zX) k_ hk_.2.1)⟩)) (below_size zB)); have n2_ := zb BK228 hb; have n3_ := zb BK229 hb; have n4_ := zw hb; clear BK228; clear BK229; clear HB; have HO237 := n0_; have HO240 := n1_; have BK228 := n2_; have BK229 := n3_; have HB := n4_; clear n0_ n1_ n2_ n3_ n4_; (try clear hb); (try clear hb2); (try clear hk)
      (try clear hi); (try clear ho0); (try clear ho1); refine hK.out _ _ ⟨(blk_cell BK228.out 0).trans rfl, (blk_cell BK228.out 1).trans rfl, (blk_cell BK228.out 2).trans rfl, (blk_cell BK229.out 0).trans rfl, (blk_cell BK229.out 1).trans rfl, (blk_cell BK229.out 2).trans rfl⟩ (fun hHeld => ?_); clear hK K; refine norm_ (a' := ?_) ?_ ?_; rotate_left
      ·show Act.put _ (some 26) _ = _
       simp only [Act.put, List.setIfInBounds_toArray, List.set_cons_zero, List.set_cons_succ, i64_w, i32_w]; rfl
      refine one_ (i := 3) (N := some 28) #[true, true, true, true, false, true, true, false, false, false, false, false, false, false, false, false, false] rfl rfl (one_of HT_.out (by kernel_rfl)) (by decide) (fun K hK => ?_); refine goes_ Tryd.func7 (by kernel_rfl) rfl #[.agg #[.string a1_0, .slice A1_1 l1_1.length c1_1, .slice A1_2 l1_2.length c1_2]] (by rfl) rfl rfl zA ?_
      with_reducible refine (trystlaw11_Theirs.calls kj3 a1_0 _ _ l1_1 _ _ l1_2 t241 t242 t245 _ zG ?side1 ?side2 ?side3 ?side4 A28.out).mono ?_
      (case side1 => exact Kd.C_below (Kd.C_below HR1_1.out HB.out) zX)
      (case side2 => exact HC1_1.out)
      (case side3 => exact Kd.C_below (Kd.C_below HR1_2.out HB.out) zX)
      (case side4 => exact HC1_2.out)
      rintro e w46 ⟨v243, v246, rfl, ho0, ho1, hb⟩; refine ⟨_, rfl, ?_⟩; have n0_ := Aside0.mk (Kd.N_mono (Kd.N_told (Kd.N_told (Kd.N_old (Kd.N_below HO237.out zX) hb) (Kd.N_base (Kd.R_N ho0))) (Kd.N_base (Kd.R_N ho1))) (fun _ h_ => h_.1)); have n1_ := Aside0.mk (Kd.N_mono (Kd.N_told (Kd.N_told (Kd.N_old (Kd.N_below HO240.out zX) hb) (Kd.N_base (Kd.R_N ho0))) (Kd.N_base (Kd.R_N ho1))) (fun _ h_ => h_.1))
      have n2_ := Aside0.mk (Kd.N_lower (Kd.N_mono (ok' := fun k_ => some k_ ≠ (v246 : Value).ownBlock ∧ some k_ ≠ (v236 : Value).ownBlock ∧ some k_ ≠ (v239 : Value).ownBlock ∧ k_ ≠ gb228 ∧ k_ ≠ gb229) (Kd.R_N (Kd.R_bound (Kd.R_apart' ho0 (Kd.R_typed ho1) (by decide)))) (fun k_ hk_ => ⟨hk_.1.2, (Kd.fresh' (Kd.N_lt (Kd.N_below HO237.out zX)) k_ hk_.2.1), (Kd.fresh' (Kd.N_lt (Kd.N_below HO240.out zX)) k_ hk_.2.1), (Kd.freshB (g := gb228) (o := .cells #[.string a0_0, .slice A0_1 l0_1.length c0_1, .slice A0_2 l0_2.length c0_2] 25 (0, 0)) (blk_below BK228.out zX) k_ hk_.2.1), (Kd.freshB (g := gb229) (o := .cells #[.string a1_0, .slice A1_1 l1_1.length c1_1, .slice A1_2 l1_2.length c1_2] 25 (0, 0)) (blk_below BK229.out zX) k_ hk_.2.1)⟩)) (below_size zB))
      have n3_ := Aside0.mk (Kd.N_lower (Kd.N_mono (ok' := fun k_ => some k_ ≠ (v243 : Value).ownBlock ∧ some k_ ≠ (v236 : Value).ownBlock ∧ some k_ ≠ (v239 : Value).ownBlock ∧ k_ ≠ gb228 ∧ k_ ≠ gb229) (Kd.R_N (Kd.R_bound ho1)) (fun k_ hk_ => ⟨hk_.1, (Kd.fresh' (Kd.N_lt (Kd.N_below HO237.out zX)) k_ hk_.2.1), (Kd.fresh' (Kd.N_lt (Kd.N_below HO240.out zX)) k_ hk_.2.1), (Kd.freshB (g := gb228) (o := .cells #[.string a0_0, .slice A0_1 l0_1.length c0_1, .slice A0_2 l0_2.length c0_2] 25 (0, 0)) (blk_below BK228.out zX) k_ hk_.2.1), (Kd.freshB (g := gb229) (o := .cells #[.string a1_0, .slice A1_1 l1_1.length c1_1, .slice A1_2 l1_2.length c1_2] 25 (0, 0)) (blk_below BK229.out zX) k_ hk_.2.1)⟩)) (below_size zB)); have n4_ := zb BK228 hb; have n5_ := zb BK229 hb; have n6_ := zw hb; clear HO237
      clear HO240; clear BK228; clear BK229; clear HB; have HO237 := n0_; have HO240 := n1_; have HO244 := n2_; have HO247 := n3_; have BK228 := n4_; have BK229 := n5_; have HB := n6_; clear n0_ n1_ n2_ n3_ n4_ n5_ n6_; (try clear hb); (try clear hb2); (try clear hk); (try clear hi); (try clear ho0); (try clear ho1); obtain ⟨Ao47, co47, eo47⟩ := Kd.N_slice HO237.out
      (first | subst eo47 | (injection eo47 with f1_ f2_ f3_; have f4_ := f1_.symm; have f5_ := f3_.symm; clear f1_ f2_ f3_; subst f4_; subst f5_))
      obtain ⟨Ao48, co48, eo48⟩ := Kd.N_slice HO240.out
      (first | subst eo48 | (injection eo48 with f1_ f2_ f3_; have f4_ := f1_.symm; have f5_ := f3_.symm; clear f1_ f2_ f3_; subst f4_; subst f5_))
      obtain ⟨Ao49, co49, eo49⟩ := Kd.N_slice HO244.out
      (first | subst eo49 | (injection eo49 with f1_ f2_ f3_; have f4_ := f1_.symm; have f5_ := f3_.symm; clear f1_ f2_ f3_; subst f4_; subst f5_))
      obtain ⟨Ao50, co50, eo50⟩ := Kd.N_slice HO247.out
      (first | subst eo50 | (injection eo50 with f1_ f2_ f3_; have f4_ := f1_.symm; have f5_ := f3_.symm; clear f1_ f2_ f3_; subst f4_; subst f5_))
      refine hK.out _ _ ⟨(blk_cell BK228.out 0).trans rfl, (blk_cell BK228.out 1).trans rfl, (blk_cell BK228.out 2).trans rfl, (blk_cell BK229.out 0).trans rfl, (blk_cell BK229.out 1).trans rfl, (blk_cell BK229.out 2).trans rfl⟩ (fun hHeld => ?_); clear hK K; refine norm_ (a' := ?_) ?_ ?_; rotate_left
      ·show Act.put _ (some 28) _ = _
       simp only [Act.put, List.setIfInBounds_toArray, List.set_cons_zero, List.set_cons_succ, i64_w, i32_w]; rfl
      refine one_ (i := 4) (N := some 29) #[true, true, true, true, true, true, true, false, false, false, false, false, false, false, false, false, false] rfl rfl (one_of HT_.out (by kernel_rfl)) (by decide) (fun K hK => ?_); refine goes_ Tryd.func6 (by kernel_rfl) rfl #[.agg #[.string t234, .slice Ao47 t235.length co47, .slice Ao48 t238.length co48], .agg #[.string t241, .slice Ao49 t242.length co49, .slice Ao50 t245.length co50]] (by rfl) rfl rfl zA ?_
      with_reducible refine (tree_Equal.calls t234 _ _ t235 _ _ t238 t241 _ _ t242 _ _ t245 t248 _ zG ?side1 ?side2 ?side3 ?side4 ?side5 ?side6 ?side7 ?side8 A29.out).mono ?_
      (case side1 => exact Kd.C_below (Kd.N_reads' HO237.out).2.2 zX)
      (case side2 => exact (Kd.N_reads' HO237.out).2.1)
      (case side3 => exact Kd.C_below (Kd.N_reads' HO240.out).2.2 zX)
      (case side4 => exact (Kd.N_reads' HO240.out).2.1)
      (case side5 => exact Kd.C_below (Kd.N_reads' HO244.out).2.2 zX)
      (case side6 => exact (Kd.N_reads' HO244.out).2.1)
      (case side7 => exact Kd.C_below (Kd.N_reads' HO247.out).2.2 zX)
      (case side8 => exact (Kd.N_reads' HO247.out).2.1)
      rintro e w51 ⟨rfl, hb⟩; refine ⟨_, rfl, ?_⟩; replace HO237 := Aside0.mk (Kd.N_below (Kd.N_below HO237.out zX) hb); replace HO240 := Aside0.mk (Kd.N_below (Kd.N_below HO240.out zX) hb); replace HO244 := Aside0.mk (Kd.N_below (Kd.N_below HO244.out zX) hb); replace HO247 := Aside0.mk (Kd.N_below (Kd.N_below HO247.out zX) hb); replace BK228 := zb BK228 hb; replace BK229 := zb BK229 hb; replace HB := zw hb; (try clear hb); (try clear hb2); (try clear hk); (try clear hi)
      refine hK.out _ _ ⟨(blk_cell BK228.out 0).trans rfl, (blk_cell BK228.out 1).trans rfl, (blk_cell BK228.out 2).trans rfl, (blk_cell BK229.out 0).trans rfl, (blk_cell BK229.out 1).trans rfl, (blk_cell BK229.out 2).trans rfl⟩ (fun hHeld => ?_); clear hK K; refine norm_ (a' := ?_) ?_ ?_; rotate_left
      ·show Act.put _ (some 29) _ = _
       simp only [Act.put, List.setIfInBounds_toArray, List.set_cons_zero, List.set_cons_succ, i64_w, i32_w]; rfl
      refine one_ (i := 7) (N := some 32) #[true, true, true, true, true, true, true, true, false, false, false, false, false, false, false, false, false] rfl rfl (one_of HT_.out (by kernel_rfl)) (by decide) (fun K hK => ?_); refine goes_ Tryd.func8 (by kernel_rfl) rfl #[.agg #[.string a0_0, .slice A0_1 l0_1.length c0_1, .slice A0_2 l0_2.length c0_2], .agg #[.string a1_0, .slice A1_1 l1_1.length c1_1, .slice A1_2 l1_2.length c1_2]] (by rfl) rfl rfl zA ?_
      with_reducible refine (trystlaw11_Same.calls kj3 a0_0 _ _ l0_1 _ _ l0_2 a1_0 _ _ l1_1 _ _ l1_2 t249 _ zG ?side1 ?side2 ?side3 ?side4 ?side5 ?side6 ?side7 ?side8 A30.out).mono ?_
      (case side1 => exact Kd.C_below (Kd.C_below HR0_1.out HB.out) zX)
      (case side2 => exact HC0_1.out)
      (case side3 => exact Kd.C_below (Kd.C_below HR0_2.out HB.out) zX)
      (case side4 => exact HC0_2.out)
      (case side5 => exact Kd.C_below (Kd.C_below HR1_1.out HB.out) zX)
      (case side6 => exact HC1_1.out)
      (case side7 => exact Kd.C_below (Kd.C_below HR1_2.out HB.out) zX)
      (case side8 => exact HC1_2.out)
      rintro e w52 ⟨rfl, hb⟩; refine ⟨_, rfl, ?_⟩; replace HO237 := Aside0.mk (Kd.N_below (Kd.N_below HO237.out zX) hb); replace HO240 := Aside0.mk (Kd.N_below (Kd.N_below HO240.out zX) hb); replace HO244 := Aside0.mk (Kd.N_below (Kd.N_below HO244.out zX) hb); replace HO247 := Aside0.mk (Kd.N_below (Kd.N_below HO247.out zX) hb); replace BK228 := zb BK228 hb; replace BK229 := zb BK229 hb; replace HB := zw hb; (try clear hb); (try clear hb2); (try clear hk); (try clear hi)
      refine hK.out _ _ ⟨(blk_cell BK228.out 0).trans rfl, (blk_cell BK228.out 1).trans rfl, (blk_cell BK228.out 2).trans rfl, (blk_cell BK229.out 0).trans rfl, (blk_cell BK229.out 1).trans rfl, (blk_cell BK229.out 2).trans rfl⟩ (fun hHeld => ?_); clear hK K; refine norm_ (a' := ?_) ?_ ?_; rotate_left
      ·show Act.put _ (some 32) _ = _
       simp only [Act.put, List.setIfInBounds_toArray, List.set_cons_zero, List.set_cons_succ, i64_w, i32_w]; rfl
      refine pure_ (i := 8) (N := some 33) (v := ?_) (a' := ?_) #[true, true, true, true, true, true, true, true, true, false, false, false, false, false, false, false, false] rfl rfl (any_of HT_.out (by kernel_rfl)) (fun _ _ _ h => h) (Or.inl ⟨by rfl, ?_⟩) ?_ ?_; rotate_left
      ·intro w'; go_simp; with_reducible rfl
      rotate_left
      ·simp only [Act.put, List.setIfInBounds_toArray, List.set_cons_zero, List.set_cons_succ, i64_w, i32_w]; rfl
      refine pure_ (i := 9) (N := some 34) (v := ?_) (a' := ?_) #[true, true, true, true, true, true, true, true, true, true, false, false, false, false, false, false, false] rfl rfl (any_of HT_.out (by kernel_rfl)) (fun _ _ _ h => h) (Or.inl ⟨by rfl, ?_⟩) ?_ ?_; rotate_left
      ·intro w'; go_simp; with_reducible rfl
      rotate_left
      ·simp only [Act.put, List.setIfInBounds_toArray, List.set_cons_zero, List.set_cons_succ, i64_w, i32_w]; rfl
      refine take_ (i := 10) (N := some 35) (v := ?_) (a' := ?_) #[true, true, true, true, true, true, true, true, true, true, true, false, false, false, false, false, false] rfl rfl (take_ofW HT_.out HW_.out (by kernel_rfl)) (fun _ _ _ h => h) (Or.inl ⟨by rfl, ?_⟩) hHeld ?_ ?_; rotate_left
      ·rintro w' ⟨s0, s1, s2, s3, s4, s5⟩; go_simp; with_reducible rfl
      rotate_left
      ·simp only [Act.put, List.setIfInBounds_toArray, List.set_cons_zero, List.set_cons_succ, i64_w, i32_w]; rfl
      refine take_ (i := 12) (N := some 37) (v := ?_) (a' := ?_) #[true, true, true, true, true, true, true, true, true, true, true, false, true, false, false, false, false] rfl rfl (take_ofW HT_.out HW_.out (by kernel_rfl)) (fun _ _ _ h => h) (Or.inl ⟨by rfl, ?_⟩) hHeld ?_ ?_; rotate_left
      ·rintro w' ⟨s0, s1, s2, s3, s4, s5⟩; go_simp; with_reducible rfl
      rotate_left
      ·simp only [Act.put, List.setIfInBounds_toArray, List.set_cons_zero, List.set_cons_succ, i64_w, i32_w]; rfl
      refine one_ (i := 11) (N := some 36) #[true, true, true, true, true, true, true, true, true, true, true, true, true, false, false, false, false] rfl rfl (one_of HT_.out (by kernel_rfl)) (by decide) (fun K hK => ?_); refine goes_ Tryd.func7 (by kernel_rfl) rfl #[.agg #[.string a0_0, .slice A0_1 l0_1.length c0_1, .slice A0_2 l0_2.length c0_2]] (by rfl) rfl rfl zA ?_
      with_reducible refine (trystlaw11_Theirs.calls kj3 a0_0 _ _ l0_1 _ _ l0_2 t250 t251 t254 _ zG ?side1 ?side2 ?side3 ?side4 A41.out).mono ?_
      (case side1 => exact Kd.C_below (Kd.C_below HR0_1.out HB.out) zX)
      (case side2 => exact HC0_1.out)
      (case side3 => exact Kd.C_below (Kd.C_below HR0_2.out HB.out) zX)
      (case side4 => exact HC0_2.out)
      rintro e w53 ⟨v252, v255, rfl, ho0, ho1, hb⟩; refine ⟨_, rfl, ?_⟩; have n0_ := Aside0.mk (Kd.N_mono (Kd.N_told (Kd.N_told (Kd.N_old (Kd.N_below HO237.out zX) hb) (Kd.N_base (Kd.R_N ho0))) (Kd.N_base (Kd.R_N ho1))) (fun _ h_ => h_.1)); have n1_ := Aside0.mk (Kd.N_mono (Kd.N_told (Kd.N_told (Kd.N_old (Kd.N_below HO240.out zX) hb) (Kd.N_base (Kd.R_N ho0))) (Kd.N_base (Kd.R_N ho1))) (fun _ h_ => h_.1)); have n2_ := Aside0.mk (Kd.N_mono (Kd.N_told (Kd.N_told (Kd.N_old (Kd.N_below HO244.out zX) hb) (Kd.N_base (Kd.R_N ho0))) (Kd.N_base (Kd.R_N ho1))) (fun _ h_ => h_.1)); have n3_ := Aside0.mk (Kd.N_mono (Kd.N_told (Kd.N_told (Kd.N_old (Kd.N_below HO247.out zX) hb) (Kd.N_base (Kd.R_N ho0))) (Kd.N_base (Kd.R_N ho1))) (fun _ h_ => h_.1))
      have n4_ := Aside0.mk (Kd.N_lower (Kd.N_mono (ok' := fun k_ => some k_ ≠ (v255 : Value).ownBlock ∧ some k_ ≠ (.slice Ao47 t235.length co47 : Value).ownBlock ∧ some k_ ≠ (.slice Ao48 t238.length co48 : Value).ownBlock ∧ some k_ ≠ (.slice Ao49 t242.length co49 : Value).ownBlock ∧ some k_ ≠ (.slice Ao50 t245.length co50 : Value).ownBlock ∧ k_ ≠ gb228 ∧ k_ ≠ gb229) (Kd.R_N (Kd.R_bound (Kd.R_apart' ho0 (Kd.R_typed ho1) (by decide)))) (fun k_ hk_ => ⟨hk_.1.2, (Kd.fresh' (Kd.N_lt (Kd.N_below HO237.out zX)) k_ hk_.2.1), (Kd.fresh' (Kd.N_lt (Kd.N_below HO240.out zX)) k_ hk_.2.1), (Kd.fresh' (Kd.N_lt (Kd.N_below HO244.out zX)) k_ hk_.2.1), (Kd.fresh' (Kd.N_lt (Kd.N_below HO247.out zX)) k_ hk_.2.1), (Kd.freshB (g := gb228) (o := .cells #[.string a0_0, .slice A0_1 l0_1.length c0_1, .slice A0_2 l0_2.length c0_2] 25 (0, 0)) (blk_below BK228.out zX) k_ hk_.2.1), (Kd.freshB (g := gb229) (o := .cells #[.string a1_0, .slice A1_1 l1_1.length c1_1, .slice A1_2 l1_2.length c1_2] 25 (0, 0)) (blk_below BK229.out zX) k_ hk_.2.1)⟩)) (below_size zB))
      have n5_ := Aside0.mk (Kd.N_lower (Kd.N_mono (ok' := fun k_ => some k_ ≠ (v252 : Value).ownBlock ∧ some k_ ≠ (.slice Ao47 t235.length co47 : Value).ownBlock ∧ some k_ ≠ (.slice Ao48 t238.length co48 : Value).ownBlock ∧ some k_ ≠ (.slice Ao49 t242.length co49 : Value).ownBlock ∧ some k_ ≠ (.slice Ao50 t245.length co50 : Value).ownBlock ∧ k_ ≠ gb228 ∧ k_ ≠ gb229) (Kd.R_N (Kd.R_bound ho1)) (fun k_ hk_ => ⟨hk_.1, (Kd.fresh' (Kd.N_lt (Kd.N_below HO237.out zX)) k_ hk_.2.1), (Kd.fresh' (Kd.N_lt (Kd.N_below HO240.out zX)) k_ hk_.2.1), (Kd.fresh' (Kd.N_lt (Kd.N_below HO244.out zX)) k_ hk_.2.1), (Kd.fresh' (Kd.N_lt (Kd.N_below HO247.out zX)) k_ hk_.2.1), (Kd.freshB (g := gb228) (o := .cells #[.string a0_0, .slice A0_1 l0_1.length c0_1, .slice A0_2 l0_2.length c0_2] 25 (0, 0)) (blk_below BK228.out zX) k_ hk_.2.1), (Kd.freshB (g := gb229) (o := .cells #[.string a1_0, .slice A1_1 l1_1.length c1_1, .slice A1_2 l1_2.length c1_2] 25 (0, 0)) (blk_below BK229.out zX) k_ hk_.2.1)⟩)) (below_size zB))
      have n6_ := zb BK228 hb; have n7_ := zb BK229 hb; have n8_ := zw hb; clear HO237; clear HO240; clear HO244; clear HO247; clear BK228; clear BK229; clear HB; have HO237 := n0_; have HO240 := n1_; have HO244 := n2_; have HO247 := n3_; have HO253 := n4_; have HO256 := n5_; have BK228 := n6_; have BK229 := n7_; have HB := n8_; clear n0_ n1_ n2_ n3_ n4_ n5_ n6_ n7_ n8_; (try clear hb); (try clear hb2); (try clear hk); (try clear hi); (try clear ho0); (try clear ho1); refine hK.out _ _ ⟨(blk_cell BK228.out 0).trans rfl, (blk_cell BK228.out 1).trans rfl, (blk_cell BK228.out 2).trans rfl, (blk_cell BK229.out 0).trans rfl, (blk_cell BK229.out 1).trans rfl, (blk_cell BK229.out 2).trans rfl⟩ (fun hHeld => ?_); clear hK K; refine norm_ (a' := ?_) ?_ ?_; rotate_left
      ·show Act.put _ (some 36) _ = _
       simp only [Act.put, List.setIfInBounds_toArray, List.set_cons_zero, List.set_cons_succ, i64_w, i32_w]; rfl
      refine one_ (i := 13) (N := some 38) #[true, true, true, true, true, true, true, true, true, true, true, true, true, true, false, false, false] rfl rfl (one_of HT_.out (by kernel_rfl)) (by decide) (fun K hK => ?_); refine goes_ Tryd.func7 (by kernel_rfl) rfl #[.agg #[.string a0_0, .slice A0_1 l0_1.length c0_1, .slice A0_2 l0_2.length c0_2]] (by rfl) rfl rfl zA ?_
      with_reducible refine (trystlaw11_Theirs.calls kj3 a0_0 _ _ l0_1 _ _ l0_2 t257 t258 t261 _ zG ?side1 ?side2 ?side3 ?side4 A42.out).mono ?_
      (case side1 => exact Kd.C_below (Kd.C_below HR0_1.out HB.out) zX)
      (case side2 => exact HC0_1.out)
      (case side3 => exact Kd.C_below (Kd.C_below HR0_2.out HB.out) zX)
      (case side4 => exact HC0_2.out)
      rintro e w54 ⟨v259, v262, rfl, ho0, ho1, hb⟩; refine ⟨_, rfl, ?_⟩; have n0_ := Aside0.mk (Kd.N_mono (Kd.N_told (Kd.N_told (Kd.N_old (Kd.N_below HO237.out zX) hb) (Kd.N_base (Kd.R_N ho0))) (Kd.N_base (Kd.R_N ho1))) (fun _ h_ => h_.1)); have n1_ := Aside0.mk (Kd.N_mono (Kd.N_told (Kd.N_told (Kd.N_old (Kd.N_below HO240.out zX) hb) (Kd.N_base (Kd.R_N ho0))) (Kd.N_base (Kd.R_N ho1))) (fun _ h_ => h_.1)); have n2_ := Aside0.mk (Kd.N_mono (Kd.N_told (Kd.N_told (Kd.N_old (Kd.N_below HO244.out zX) hb) (Kd.N_base (Kd.R_N ho0))) (Kd.N_base (Kd.R_N ho1))) (fun _ h_ => h_.1)); have n3_ := Aside0.mk (Kd.N_mono (Kd.N_told (Kd.N_told (Kd.N_old (Kd.N_below HO247.out zX) hb) (Kd.N_base (Kd.R_N ho0))) (Kd.N_base (Kd.R_N ho1))) (fun _ h_ => h_.1))
      have n4_ := Aside0.mk (Kd.N_mono (Kd.N_told (Kd.N_told (Kd.N_old (Kd.N_below HO253.out zX) hb) (Kd.N_base (Kd.R_N ho0))) (Kd.N_base (Kd.R_N ho1))) (fun _ h_ => h_.1)); have n5_ := Aside0.mk (Kd.N_mono (Kd.N_told (Kd.N_told (Kd.N_old (Kd.N_below HO256.out zX) hb) (Kd.N_base (Kd.R_N ho0))) (Kd.N_base (Kd.R_N ho1))) (fun _ h_ => h_.1))
      have n6_ := Aside0.mk (Kd.N_lower (Kd.N_mono (ok' := fun k_ => some k_ ≠ (v262 : Value).ownBlock ∧ some k_ ≠ (.slice Ao47 t235.length co47 : Value).ownBlock ∧ some k_ ≠ (.slice Ao48 t238.length co48 : Value).ownBlock ∧ some k_ ≠ (.slice Ao49 t242.length co49 : Value).ownBlock ∧ some k_ ≠ (.slice Ao50 t245.length co50 : Value).ownBlock ∧ some k_ ≠ (v252 : Value).ownBlock ∧ some k_ ≠ (v255 : Value).ownBlock ∧ k_ ≠ gb228 ∧ k_ ≠ gb229) (Kd.R_N (Kd.R_bound (Kd.R_apart' ho0 (Kd.R_typed ho1) (by decide)))) (fun k_ hk_ => ⟨hk_.1.2, (Kd.fresh' (Kd.N_lt (Kd.N_below HO237.out zX)) k_ hk_.2.1), (Kd.fresh' (Kd.N_lt (Kd.N_below HO240.out zX)) k_ hk_.2.1), (Kd.fresh' (Kd.N_lt (Kd.N_below HO244.out zX)) k_ hk_.2.1), (Kd.fresh' (Kd.N_lt (Kd.N_below HO247.out zX)) k_ hk_.2.1), (Kd.fresh' (Kd.N_lt (Kd.N_below HO253.out zX)) k_ hk_.2.1), (Kd.fresh' (Kd.N_lt (Kd.N_below HO256.out zX)) k_ hk_.2.1), (Kd.freshB (g := gb228) (o := .cells #[.string a0_0, .slice A0_1 l0_1.length c0_1, .slice A0_2 l0_2.length c0_2] 25 (0, 0)) (blk_below BK228.out zX) k_ hk_.2.1), (Kd.freshB (g := gb229) (o := .cells #[.string a1_0, .slice A1_1 l1_1.length c1_1, .slice A1_2 l1_2.length c1_2] 25 (0, 0)) (blk_below BK229.out zX) k_ hk_.2.1)⟩)) (below_size zB))
      have n7_ := Aside0.mk (Kd.N_lower (Kd.N_mono (ok' := fun k_ => some k_ ≠ (v259 : Value).ownBlock ∧ some k_ ≠ (.slice Ao47 t235.length co47 : Value).ownBlock ∧ some k_ ≠ (.slice Ao48 t238.length co48 : Value).ownBlock ∧ some k_ ≠ (.slice Ao49 t242.length co49 : Value).ownBlock ∧ some k_ ≠ (.slice Ao50 t245.length co50 : Value).ownBlock ∧ some k_ ≠ (v252 : Value).ownBlock ∧ some k_ ≠ (v255 : Value).ownBlock ∧ k_ ≠ gb228 ∧ k_ ≠ gb229) (Kd.R_N (Kd.R_bound ho1)) (fun k_ hk_ => ⟨hk_.1, (Kd.fresh' (Kd.N_lt (Kd.N_below HO237.out zX)) k_ hk_.2.1), (Kd.fresh' (Kd.N_lt (Kd.N_below HO240.out zX)) k_ hk_.2.1), (Kd.fresh' (Kd.N_lt (Kd.N_below HO244.out zX)) k_ hk_.2.1), (Kd.fresh' (Kd.N_lt (Kd.N_below HO247.out zX)) k_ hk_.2.1), (Kd.fresh' (Kd.N_lt (Kd.N_below HO253.out zX)) k_ hk_.2.1), (Kd.fresh' (Kd.N_lt (Kd.N_below HO256.out zX)) k_ hk_.2.1), (Kd.freshB (g := gb228) (o := .cells #[.string a0_0, .slice A0_1 l0_1.length c0_1, .slice A0_2 l0_2.length c0_2] 25 (0, 0)) (blk_below BK228.out zX) k_ hk_.2.1), (Kd.freshB (g := gb229) (o := .cells #[.string a1_0, .slice A1_1 l1_1.length c1_1, .slice A1_2 l1_2.length c1_2] 25 (0, 0)) (blk_below BK229.out zX) k_ hk_.2.1)⟩)) (below_size zB))
      have n8_ := zb BK228 hb; have n9_ := zb BK229 hb; have n10_ := zw hb; clear HO237; clear HO240; clear HO244; clear HO247; clear HO253; clear HO256; clear BK228; clear BK229; clear HB; have HO237 := n0_; have HO240 := n1_; have HO244 := n2_; have HO247 := n3_; have HO253 := n4_; have HO256 := n5_; have HO260 := n6_; have HO263 := n7_; have BK228 := n8_; have BK229 := n9_; have HB := n10_; clear n0_ n1_ n2_ n3_ n4_ n5_ n6_ n7_ n8_ n9_ n10_; (try clear hb); (try clear hb2); (try clear hk); (try clear hi); (try clear ho0); (try clear ho1); obtain ⟨Ao55, co55, eo55⟩ := Kd.N_slice HO253.out
      (first | subst eo55 | (injection eo55 with f1_ f2_ f3_; have f4_ := f1_.symm; have f5_ := f3_.symm; clear f1_ f2_ f3_; subst f4_; subst f5_))
      obtain ⟨Ao56, co56, eo56⟩ := Kd.N_slice HO256.out
      (first | subst eo56 | (injection eo56 with f1_ f2_ f3_; have f4_ := f1_.symm; have f5_ := f3_.symm; clear f1_ f2_ f3_; subst f4_; subst f5_))
      obtain ⟨Ao57, co57, eo57⟩ := Kd.N_slice HO260.out
      (first | subst eo57 | (injection eo57 with f1_ f2_ f3_; have f4_ := f1_.symm; have f5_ := f3_.symm; clear f1_ f2_ f3_; subst f4_; subst f5_))
      obtain ⟨Ao58, co58, eo58⟩ := Kd.N_slice HO263.out
      (first | subst eo58 | (injection eo58 with f1_ f2_ f3_; have f4_ := f1_.symm; have f5_ := f3_.symm; clear f1_ f2_ f3_; subst f4_; subst f5_))
      refine hK.out _ _ ⟨(blk_cell BK228.out 0).trans rfl, (blk_cell BK228.out 1).trans rfl, (blk_cell BK228.out 2).trans rfl, (blk_cell BK229.out 0).trans rfl, (blk_cell BK229.out 1).trans rfl, (blk_cell BK229.out 2).trans rfl⟩ (fun hHeld => ?_); clear hK K; refine norm_ (a' := ?_) ?_ ?_; rotate_left
      ·show Act.put _ (some 38) _ = _
       simp only [Act.put, List.setIfInBounds_toArray, List.set_cons_zero, List.set_cons_succ, i64_w, i32_w]; rfl
      refine one_ (i := 14) (N := some 39) #[true, true, true, true, true, true, true, true, true, true, true, true, true, true, true, false, false] rfl rfl (one_of HT_.out (by kernel_rfl)) (by decide) (fun K hK => ?_); refine goes_ Tryd.func6 (by kernel_rfl) rfl #[.agg #[.string t250, .slice Ao55 t251.length co55, .slice Ao56 t254.length co56], .agg #[.string t257, .slice Ao57 t258.length co57, .slice Ao58 t261.length co58]] (by rfl) rfl rfl zA ?_
      with_reducible refine (tree_Equal.calls t250 _ _ t251 _ _ t254 t257 _ _ t258 _ _ t261 t264 _ zG ?side1 ?side2 ?side3 ?side4 ?side5 ?side6 ?side7 ?side8 A43.out).mono ?_
      (case side1 => exact Kd.C_below (Kd.N_reads' HO253.out).2.2 zX)
      (case side2 => exact (Kd.N_reads' HO253.out).2.1)
      (case side3 => exact Kd.C_below (Kd.N_reads' HO256.out).2.2 zX)
      (case side4 => exact (Kd.N_reads' HO256.out).2.1)
      (case side5 => exact Kd.C_below (Kd.N_reads' HO260.out).2.2 zX)
      (case side6 => exact (Kd.N_reads' HO260.out).2.1)
      (case side7 => exact Kd.C_below (Kd.N_reads' HO263.out).2.2 zX)
      (case side8 => exact (Kd.N_reads' HO263.out).2.1)
      rintro e w59 ⟨rfl, hb⟩; refine ⟨_, rfl, ?_⟩; have n0_ := Aside0.mk (Kd.N_below (Kd.N_below HO237.out zX) hb); have n1_ := Aside0.mk (Kd.N_below (Kd.N_below HO240.out zX) hb); have n2_ := Aside0.mk (Kd.N_below (Kd.N_below HO244.out zX) hb); have n3_ := Aside0.mk (Kd.N_below (Kd.N_below HO247.out zX) hb); have n4_ := Aside0.mk (Kd.N_below (Kd.N_below HO253.out zX) hb); have n5_ := Aside0.mk (Kd.N_below (Kd.N_below HO256.out zX) hb); have n6_ := Aside0.mk (Kd.N_below (Kd.N_below HO260.out zX) hb); have n7_ := Aside0.mk (Kd.N_below (Kd.N_below HO263.out zX) hb); have n8_ := zb BK228 hb; have n9_ := zb BK229 hb; have n10_ := zw hb; clear HO237; clear HO240; clear HO244; clear HO247; clear HO253; clear HO256; clear HO260; clear HO263; clear BK228; clear BK229; clear HB
      have HO237 := n0_; have HO240 := n1_; have HO244 := n2_; have HO247 := n3_; have HO253 := n4_; have HO256 := n5_; have HO260 := n6_; have HO263 := n7_; have BK228 := n8_; have BK229 := n9_; have HB := n10_; clear n0_ n1_ n2_ n3_ n4_ n5_ n6_ n7_ n8_ n9_ n10_; (try clear hb); (try clear hb2); (try clear hk); (try clear hi); refine hK.out _ _ ⟨(blk_cell BK228.out 0).trans rfl, (blk_cell BK228.out 1).trans rfl, (blk_cell BK228.out 2).trans rfl, (blk_cell BK229.out 0).trans rfl, (blk_cell BK229.out 1).trans rfl, (blk_cell BK229.out 2).trans rfl⟩ (fun hHeld => ?_); clear hK K; refine norm_ (a' := ?_) ?_ ?_; rotate_left
      ·show Act.put _ (some 39) _ = _
       simp only [Act.put, List.setIfInBounds_toArray, List.set_cons_zero, List.set_cons_succ, i64_w, i32_w]; rfl
      refine pure_ (i := 15) (N := some 40) (v := ?_) (a' := ?_) #[true, true, true, true, true, true, true, true, true, true, true, true, true, true, true, true, false] rfl rfl (any_of HT_.out (by kernel_rfl)) (fun _ _ _ h => h) (Or.inl ⟨by rfl, ?_⟩) ?_ ?_; rotate_left
      ·intro w'; go_simp; with_reducible rfl
      rotate_left
      ·simp only [Act.put, List.setIfInBounds_toArray, List.set_cons_zero, List.set_cons_succ, i64_w, i32_w]; rfl
      refine pure_ (i := 16) (N := some 41) (v := ?_) (a' := ?_) #[true, true, true, true, true, true, true, true, true, true, true, true, true, true, true, true, true] rfl rfl (any_of HT_.out (by kernel_rfl)) (fun _ _ _ h => h) (Or.inl ⟨by rfl, ?_⟩) ?_ ?_; rotate_left
      ·intro w'; go_simp; with_reducible rfl
      rotate_left
      ·simp only [Act.put, List.setIfInBounds_toArray, List.set_cons_zero, List.set_cons_succ, i64_w, i32_w]; rfl
      refine done_ (done_of HT_.out (by kernel_rfl)) ?_
      try go_wp2
      go_meet
      case rel => exact ⟨_, (!t264), zS, H', ⟨by have := HJ3.out; first | omega | exact Nat.le_refl _⟩, ⟨blk_below BK228.out zX⟩, ⟨blk_below BK229.out zX⟩, ⟨zB⟩⟩
    case rest =>
     clear HC26; obtain ⟨kq, x41_25, rfl, HA, HJ25, BK228, BK229, HB⟩ := hcut
     cases kq with
     | zero => exact absurd HA.out (by simp [trystlaw11_TreeFinds.j1])
     | succ kj25 =>
      have H := HA.out; clear HA; simp only [trystlaw11_TreeFinds.j1] at H; replace H := zIb H; rcases H with ⟨rfl, H⟩ | ⟨rfl, H⟩
      ·obtain rfl := Option.some.inj H; go_wp2; go_ret; exact ⟨zE, zB⟩
      ·replace H := Option.bind_eq_some_iff.mp H; obtain ⟨⟨t265, t266, t269⟩, A610, H⟩ := H; replace H : ((tree_Find.f kj25 t265 t266 t269 a2).bind fun bt272 => (trystlaw11_TreeFinds.l0 kj25 a2 bt272.2.2.2 0 (-1) (l0_1.length : Int) 0 a0_0 l0_1 l0_2 bt272.1 bt272.2.1 bt272.2.2.1)) = some r := H; have A61 := Aside0.mk A610; clear A610; replace H := Option.bind_eq_some_iff.mp H; obtain ⟨⟨t272, t273, t276, t277⟩, A620, H⟩ := H; replace H : (trystlaw11_TreeFinds.l0 kj25 a2 t277 0 (-1) (l0_1.length : Int) 0 a0_0 l0_1 l0_2 t272 t273 t276) = some r := H; have A62 := Aside0.mk A620; clear A620; have H' := Aside0.mk H; clear H; have hnb63 := NB228_229.out; have hnc63 := NB229_228.out; have hcz64_0 := zc0 BK228
       have hcz64_1 := zc1 BK228; have hcz64_2 := zc2 BK228; have hfz64_0 := zf BK228 0; have hfz64_1 := zf BK228 1; have hfz64_2 := zf BK228 2
       go_wp2_with (first | ((with_reducible refine gate_callee (f := 7) rfl ?_); refine goesL_ (some 44) rfl rfl Tryd.func7 (by kernel_rfl) rfl #[.agg #[.string a0_0, .slice A0_1 l0_1.length c0_1, .slice A0_2 l0_2.length c0_2]] rfl zA ?_; (with_reducible refine (trystlaw11_Theirs.calls kj25 a0_0 _ _ l0_1 _ _ l0_2 t265 t266 t269 _ zG ?side1 ?side2 ?side3 ?side4 A61.out).mono ?_); (case side1 => exact Kd.C_below (Kd.C_below HR0_1.out HB.out) zX); (case side2 => exact HC0_1.out); (case side3 => exact Kd.C_below (Kd.C_below HR0_2.out HB.out) zX); (case side4 => exact HC0_2.out); rintro e w65 ⟨v267, v270, rfl, ho0, ho1, hb⟩; refine ⟨_, rfl, ?_⟩; replace HO268 := Aside0.mk (Kd.N_lower (Kd.N_mono (ok' := fun k_ => some k_ ≠ (v270 : Value).ownBlock ∧ k_ ≠ gb228 ∧ k_ ≠ gb229) (Kd.R_N (Kd.R_bound (Kd.R_apart' ho0 (Kd.R_typed ho1) (by decide)))) (fun k_ hk_ => ⟨hk_.1.2, (Kd.freshB (g := gb228) (o := .cells #[.string a0_0, .slice A0_1 l0_1.length c0_1, .slice A0_2 l0_2.length c0_2] 25 (0, 0)) (blk_below BK228.out zX) k_ hk_.2.1), (Kd.freshB (g := gb229) (o := .cells #[.string a1_0, .slice A1_1 l1_1.length c1_1, .slice A1_2 l1_2.length c1_2] 25 (0, 0)) (blk_below BK229.out zX) k_ hk_.2.1)⟩)) (below_size zB)); replace HO271 := Aside0.mk (Kd.N_lower (Kd.N_mono (ok' := fun k_ => some k_ ≠ (v267 : Value).ownBlock ∧ k_ ≠ gb228 ∧ k_ ≠ gb229) (Kd.R_N (Kd.R_bound ho1)) (fun k_ hk_ => ⟨hk_.1, (Kd.freshB (g := gb228) (o := .cells #[.string a0_0, .slice A0_1 l0_1.length c0_1, .slice A0_2 l0_2.length c0_2] 25 (0, 0)) (blk_below BK228.out zX) k_ hk_.2.1), (Kd.freshB (g := gb229) (o := .cells #[.string a1_0, .slice A1_1 l1_1.length c1_1, .slice A1_2 l1_2.length c1_2] 25 (0, 0)) (blk_below BK229.out zX) k_ hk_.2.1)⟩)) (below_size zB)); replace BK228 := zb BK228 hb; replace BK229 := zb BK229 hb; replace HB := zw hb; (try clear hb); (try clear ho0); (try clear ho1); obtain ⟨Ao66, co66, eo66⟩ := Kd.N_slice HO268.out; subst eo66; obtain ⟨Ao67, co67, eo67⟩ := Kd.N_slice HO271.out; subst eo67) | ((with_reducible refine gate_callee (f := 9) rfl ?_); refine goesL_ (some 46) rfl rfl Tryd.func9 (by kernel_rfl) rfl #[.agg #[.string t265, .slice Ao66 t266.length co66, .slice Ao67 t269.length co67], .string a2] rfl zA ?_; (with_reducible refine (tree_Find.calls kj25 t265 _ _ t266 _ _ t269 a2 t272 t273 t276 t277 _ zG ?side1 ?side2 ?side3 ?side4 A62.out).mono ?_); (case side1 => exact Kd.C_below (Kd.N_reads' HO268.out).2.2 zX); (case side2 => exact (Kd.N_reads' HO268.out).2.1); (case side3 => exact Kd.C_below (Kd.N_reads' HO271.out).2.2 zX); (case side4 => exact (Kd.N_reads' HO271.out).2.1); rintro e w68 ⟨v274, rfl, ho0, hb⟩; refine ⟨_, rfl, ?_⟩; replace HO275 := Aside0.mk (Kd.N_lower (Kd.N_mono (ok' := fun k_ => some k_ ≠ (.slice Ao66 t266.length co66 : Value).ownBlock ∧ some k_ ≠ (.slice Ao67 t269.length co67 : Value).ownBlock ∧ k_ ≠ gb228 ∧ k_ ≠ gb229) (Kd.S_N (Kd.S_bound ho0)) (fun k_ hk_ => ⟨(Kd.fresh' (Kd.N_lt (Kd.N_below HO268.out zX)) k_ hk_.2.1), (Kd.fresh' (Kd.N_lt (Kd.N_below HO271.out zX)) k_ hk_.2.1), (Kd.freshB (g := gb228) (o := .cells #[.string a0_0, .slice A0_1 l0_1.length c0_1, .slice A0_2 l0_2.length c0_2] 25 (0, 0)) (blk_below BK228.out zX) k_ hk_.2.1), (Kd.freshB (g := gb229) (o := .cells #[.string a1_0, .slice A1_1 l1_1.length c1_1, .slice A1_2 l1_2.length c1_2] 25 (0, 0)) (blk_below BK229.out zX) k_ hk_.2.1)⟩)) (below_size zB)); replace HO268 := Aside0.mk (Kd.N_elder' (Kd.N_below HO268.out zX) (Kd.N_base (Kd.S_N (Kd.S_bound ho0))) hb); replace HO271 := Aside0.mk (Kd.N_elder' (Kd.N_below HO271.out zX) (Kd.N_base (Kd.S_N (Kd.S_bound ho0))) hb); replace BK228 := zb BK228 hb; replace BK229 := zb BK229 hb; replace HB := zw hb; (try clear hb); (try clear ho0)) | ((with_reducible refine gate_dst (N := 7) rfl ?_); refine zbox (N := 7) #[.string (⟨#[]⟩ : ByteArray), .slice none 0 0, .string (⟨#[]⟩ : ByteArray)] 37 (fun gb278 hg w69 hbox hb => ?_); replace HO268 := Aside0.mk (Kd.N_below (Kd.N_elderB (Kd.N_below HO268.out zX) gb278 (Nat.le_of_eq hg.symm)) hb); replace HO271 := Aside0.mk (Kd.N_below (Kd.N_elderB (Kd.N_below HO271.out zX) gb278 (Nat.le_of_eq hg.symm)) hb); replace HO275 := Aside0.mk (Kd.N_below (Kd.N_elderB (Kd.N_below HO275.out zX) gb278 (Nat.le_of_eq hg.symm)) hb); replace BK278 := Aside0.mk hbox; replace GW278 := zg w hg; replace GE278 := zg w hg; replace HB := zw hb; replace NB228_278 := zn BK228 hg; replace NB278_228 := zm BK228 hg; replace BK228 := zb BK228 hb; replace NB229_278 := zn BK229 hg; replace NB278_229 := zm BK229 hg; replace BK229 := zb BK229 hb; clear hb hbox hg; have hnb70 := NB278_228.out; have hnc70 := NB228_278.out; have hnb71 := NB278_229.out; have hnc71 := NB229_278.out; have hcz72_0 := zc0 BK278; have hcz72_1 := zc1 BK278; have hcz72_2 := zc2 BK278; have hfz72_0 := zf BK278 0; have hfz72_1 := zf BK278 1; have hfz72_2 := zf BK278 2; obtain ⟨Ao73, co73, eo73⟩ := Kd.N_slice HO275.out; subst eo73; have hcz74_0 := zc0 BK228; have hcz74_1 := zc1 BK228; have hcz74_2 := zc2 BK228; have hfz74_0 := zf BK228 0; have hfz74_1 := zf BK228 1; have hfz74_2 := zf BK228 2))
       go_loopg [9, 10, 52] kj25 (fun kq v9 v10 v52 w' => ∃ (x9_3 : Int) (x10_3 : Int) (x52_3 : Int), v9 = .int .i64 x9_3 ∧ v10 = .int .i64 x10_3 ∧ v52 = .int .i64 x52_3 ∧ Aside0 (trystlaw11_TreeFinds.l0 kq a2 t277 x9_3 x10_3 (l0_1.length : Int) x52_3 a0_0 l0_1 l0_2 t272 t273 t276 = some r) ∧ Aside0 (kq ≤ kj25) ∧ Aside0 (Kd.N k59 59 w' w.heap.size (fun k_ => k_ ≠ gb228 ∧ k_ ≠ gb229 ∧ k_ ≠ gb278) (.slice Ao73 t273.length co73) t273) ∧ Aside0 (w'.heap[gb228]? = some (.cells #[.string a0_0, (.slice A0_1 l0_1.length c0_1), (.slice A0_2 l0_2.length c0_2)] 25 (0, 0))) ∧ Aside0 (w'.heap[gb229]? = some (.cells #[.string a1_0, (.slice A1_1 l1_1.length c1_1), (.slice A1_2 l1_2.length c1_2)] 25 (0, 0))) ∧ Aside0 (w'.heap[gb278]? = some (.cells #[.string t272, (.slice Ao73 t273.length co73), .string t276] 37 (0, 0))) ∧ Aside0 (Below w.heap.size w w'))
       case atStart => exact ⟨(0), ((-1)), (0), zS, zS, zS, H', ⟨Nat.le_refl _⟩, ⟨by (with_reducible repeat (first | apply Kd.N_alloc | apply Kd.N_drewN | apply Kd.N_drew)); exact Kd.N_mono (Kd.N_far (p := ⟨gb278, 2, none⟩) (Kd.N_far (p := ⟨gb278, 1, none⟩) (Kd.N_far (p := ⟨gb278, 0, none⟩) (Kd.N_mono HO275.out (fun k_ hk => (⟨hk, hk.2⟩ : _ ∧ k_ ≠ gb278))) (fun _ hk => hk.2) (.string t272)) (fun _ hk => hk.2) (.slice Ao73 t273.length co73)) (fun _ hk => hk.2) (.string t276)) (fun _ hk => ⟨hk.1.1.2.2.1, ⟨hk.1.1.2.2.2, hk.1.2⟩⟩)⟩, ⟨by (with_reducible repeat (first | refine blk_drewN ?_ _ | refine blk_drew ?_ | refine blk_alloc ?_ _)); refine blk_far ?_ NB228_278.out _; (with_reducible repeat (first | refine blk_drewN ?_ _ | refine blk_drew ?_ | refine blk_alloc ?_ _)); refine blk_far ?_ NB228_278.out _; (with_reducible repeat (first | refine blk_drewN ?_ _ | refine blk_drew ?_ | refine blk_alloc ?_ _)); refine blk_far ?_ NB228_278.out _; (with_reducible repeat (first | refine blk_drewN ?_ _ | refine blk_drew ?_ | refine blk_alloc ?_ _)); exact BK228.out⟩, ⟨by (with_reducible repeat (first | refine blk_drewN ?_ _ | refine blk_drew ?_ | refine blk_alloc ?_ _)); refine blk_far ?_ NB229_278.out _; (with_reducible repeat (first | refine blk_drewN ?_ _ | refine blk_drew ?_ | refine blk_alloc ?_ _)); refine blk_far ?_ NB229_278.out _; (with_reducible repeat (first | refine blk_drewN ?_ _ | refine blk_drew ?_ | refine blk_alloc ?_ _)); refine blk_far ?_ NB229_278.out _; (with_reducible repeat (first | refine blk_drewN ?_ _ | refine blk_drew ?_ | refine blk_alloc ?_ _)); exact BK229.out⟩, ⟨by (with_reducible repeat (first | refine blk_drewN ?_ _ | refine blk_drew ?_ | refine blk_alloc ?_ _)); refine blk_put (cs := #[.string t272, .slice Ao73 t273.length co73, .string (⟨#[]⟩ : ByteArray)]) ?_ 2 _ rfl; (with_reducible repeat (first | refine blk_drewN ?_ _ | refine blk_drew ?_ | refine blk_alloc ?_ _)); refine blk_put (cs := #[.string t272, .slice none 0 0, .string (⟨#[]⟩ : ByteArray)]) ?_ 1 _ rfl; (with_reducible repeat (first | refine blk_drewN ?_ _ | refine blk_drew ?_ | refine blk_alloc ?_ _)); refine blk_put (cs := #[.string (⟨#[]⟩ : ByteArray), .slice none 0 0, .string (⟨#[]⟩ : ByteArray)]) ?_ 0 _ rfl; (with_reducible repeat (first | refine blk_drewN ?_ _ | refine blk_drew ?_ | refine blk_alloc ?_ _)); exact BK278.out⟩, ⟨zB⟩⟩
       case round =>
        clear H'; clear hcz64_0 hcz64_1 hcz64_2 hcz72_0 hcz72_1 hcz72_2 hcz74_0 hcz74_1 hcz74_2 hfz64_0 hfz64_1 hfz64_2 hfz72_0 hfz72_1 hfz72_2 hfz74_0 hfz74_1 hfz74_2; obtain ⟨x9_3, x10_3, x52_3, rfl, rfl, rfl, HA, HK3, HO_279001, BK228, BK229, BK278, HB⟩ := hrel
        cases gk with
        | zero => exact absurd HA.out (by simp [trystlaw11_TreeFinds.l0])
        | succ k3 =>
         have H := HA.out; clear HA; simp only [trystlaw11_TreeFinds.l0] at H; replace H := zId H; rcases H with ⟨-, c75b0, H⟩ | ⟨-, c75b0, H⟩
         ·replace H := zJd H; obtain ⟨-, c76b0, H⟩ := H; replace H := zJd H; obtain ⟨-, c77b0, H⟩ := H; replace H := zIe H; rcases H with ⟨-, c78b0, c78b1, H⟩ | ⟨c78, c78b0, c78b1, H⟩
          ·replace H := zIe H; rcases H with ⟨-, c79b0, c79b1, H⟩ | ⟨c79, c79b0, c79b1, H⟩
           ·have H' := Aside0.mk H; clear H; have hnb80 := NB228_229.out; have hnc80 := NB229_228.out; have hnb81 := NB228_278.out; have hnc81 := NB278_228.out; have hcz82_0 := zc0 BK228; have hcz82_1 := zc1 BK228; have hcz82_2 := zc2 BK228; have hfz82_0 := zf BK228 0; have hfz82_1 := zf BK228 1; have hfz82_2 := zf BK228 2; have p279 := zQ (0 ≤ (x52_3 : Int)); have q279 := zQ (x52_3 < (l0_1.length : Int)); obtain ⟨ad279, A279_1, c279_1, e279, hx279_0, hx279_1, hx279_2, hl279_1, hi279_1⟩ := at_T42 HR0_1.out x52_3 p279 q279
            cases e279
            replace hx279_0 := zx HB hx279_0; replace hx279_1 := zx HB hx279_1; replace hx279_2 := zx HB hx279_2; have HR279_1 := Aside0.mk hi279_1; have HC279_1 := Aside0.mk hl279_1; clear hi279_1 hl279_1; replace p279 := eq_true p279; replace q279 := eq_true q279; go_wp2
            go_roundg k3
            case measure => have := HJ3.out; have := HJ25.out; have := HK3.out; omega
            case rel => exact ⟨(wrap64 (x9_3 + 1)), (x52_3), (wrap64 (x52_3 + 1)), zS, zS, zS, H', ⟨by have := HJ3.out; have := HJ25.out; have := HK3.out; omega⟩, ⟨Kd.N_below HO_279001.out zX⟩, ⟨blk_below BK228.out zX⟩, ⟨blk_below BK229.out zX⟩, ⟨blk_below BK278.out zX⟩, ⟨zB⟩⟩
           ·have H' := Aside0.mk H; clear H; have hnb83 := NB228_229.out; have hnc83 := NB229_228.out; have hnb84 := NB228_278.out; have hnc84 := NB278_228.out; have hcz85_0 := zc0 BK228; have hcz85_1 := zc1 BK228; have hcz85_2 := zc2 BK228; have hfz85_0 := zf BK228 0; have hfz85_1 := zf BK228 1; have hfz85_2 := zf BK228 2; have p279 := zQ (0 ≤ (x52_3 : Int)); have q279 := zQ (x52_3 < (l0_1.length : Int)); obtain ⟨ad279, A279_1, c279_1, e279, hx279_0, hx279_1, hx279_2, hl279_1, hi279_1⟩ := at_T42 HR0_1.out x52_3 p279 q279
            cases e279
            replace hx279_0 := zx HB hx279_0; replace hx279_1 := zx HB hx279_1; replace hx279_2 := zx HB hx279_2; have HR279_1 := Aside0.mk hi279_1; have HC279_1 := Aside0.mk hl279_1; clear hi279_1 hl279_1; replace p279 := eq_true p279; replace q279 := eq_true q279; go_wp2
            go_roundg k3
            case measure => have := HJ3.out; have := HJ25.out; have := HK3.out; omega
            case rel => exact ⟨(wrap64 (x9_3 + 1)), (x10_3), (wrap64 (x52_3 + 1)), zS, zS, zS, H', ⟨by have := HJ3.out; have := HJ25.out; have := HK3.out; omega⟩, ⟨Kd.N_below HO_279001.out zX⟩, ⟨blk_below BK228.out zX⟩, ⟨blk_below BK229.out zX⟩, ⟨blk_below BK278.out zX⟩, ⟨zB⟩⟩
          ·have H' := Aside0.mk H; clear H; have hnb86 := NB228_229.out; have hnc86 := NB229_228.out; have hnb87 := NB228_278.out; have hnc87 := NB278_228.out; have hcz88_0 := zc0 BK228; have hcz88_1 := zc1 BK228; have hcz88_2 := zc2 BK228; have hfz88_0 := zf BK228 0; have hfz88_1 := zf BK228 1; have hfz88_2 := zf BK228 2; have p279 := zQ (0 ≤ (x52_3 : Int)); have q279 := zQ (x52_3 < (l0_1.length : Int)); obtain ⟨ad279, A279_1, c279_1, e279, hx279_0, hx279_1, hx279_2, hl279_1, hi279_1⟩ := at_T42 HR0_1.out x52_3 p279 q279
           cases e279
           replace hx279_0 := zx HB hx279_0; replace hx279_1 := zx HB hx279_1; replace hx279_2 := zx HB hx279_2; have HR279_1 := Aside0.mk hi279_1; have HC279_1 := Aside0.mk hl279_1; clear hi279_1 hl279_1; replace p279 := eq_true p279; replace q279 := eq_true q279; go_wp2
           go_roundg k3
           case measure => have := HJ3.out; have := HJ25.out; have := HK3.out; omega
           case rel => exact ⟨(x9_3), (x10_3), (wrap64 (x52_3 + 1)), zS, zS, zS, H', ⟨by have := HJ3.out; have := HJ25.out; have := HK3.out; omega⟩, ⟨Kd.N_below HO_279001.out zX⟩, ⟨blk_below BK228.out zX⟩, ⟨blk_below BK229.out zX⟩, ⟨blk_below BK278.out zX⟩, ⟨zB⟩⟩
         ·replace H := zIe H; rcases H with ⟨-, c89b0, c89b1, H⟩ | ⟨c89, c89b0, c89b1, H⟩
          ·replace H := zIe H; rcases H with ⟨-, c90b0, c90b1, H⟩ | ⟨c90, c90b0, c90b1, H⟩
           ·replace H := Option.bind_eq_some_iff.mp H; obtain ⟨t280, A910, H⟩ := H; replace H : (some t280) = some r := H; have A91 := Aside0.mk A910; clear A910; obtain rfl := Option.some.inj H; have hnb92 := NB278_228.out; have hnc92 := NB228_278.out; have hnb93 := NB278_229.out; have hnc93 := NB229_278.out; have hcz94_0 := zc0 BK278; have hcz94_1 := zc1 BK278; have hcz94_2 := zc2 BK278; have hfz94_0 := zf BK278 0; have hfz94_1 := zf BK278 1; have hfz94_2 := zf BK278 2
            go_wp2_with (first | (go_at_call 10; (refine (line_Equal.calls t272 _ _ t273 t276 (⟨#[]⟩ : ByteArray) _ _ ([] : List (S59)) (⟨#[]⟩ : ByteArray) t280 _ zG ?side1 ?side2 ?side3 ?side4 A91.out).mono ?_); (case side1 => exact Kd.C_below (Kd.N_reads' HO_279001.out).2.2 zX); (case side2 => exact (Kd.N_reads' HO_279001.out).2.1); (case side3 => exact Kd.C_nil _ _); (case side4 => exact Nat.le_refl _); rintro e w95 ⟨rfl, hb⟩; replace HO_279001 := Aside0.mk (Kd.N_below (Kd.N_below HO_279001.out zX) hb); replace BK228 := zb BK228 hb; replace BK229 := zb BK229 hb; replace BK278 := zb BK278 hb; replace HB := zw hb; (try clear hb)))
            go_ret; exact ⟨zE, zB⟩
           ·obtain rfl := Option.some.inj H; go_wp2; go_ret; exact ⟨zE, zB⟩
          ·replace H := zIe H; rcases H with ⟨-, c96b0, c96b1, H⟩ | ⟨c96, c96b0, c96b1, H⟩
           ·replace H := Option.bind_eq_some_iff.mp H; obtain ⟨⟨t281, t282, t285⟩, A970, H⟩ := H; replace H : (if 0 ≤ x10_3 then (if x10_3 < (l0_1.length : Int) then ((trystlaw10_Same.f k3 t281 t282 t285 ((rd_T42 l0_1 x10_3).f0) ((rd_T42 l0_1 x10_3).f1) ((rd_T42 l0_1 x10_3).f2)).bind fun t287 => (some t287)) else (none)) else (none)) = some r := H; have A97 := Aside0.mk A970; clear A970; replace H := zJd H; obtain ⟨-, c98b0, H⟩ := H; replace H := zJd H; obtain ⟨-, c99b0, H⟩ := H; replace H := Option.bind_eq_some_iff.mp H; obtain ⟨t287, A1000, H⟩ := H; replace H : (some t287) = some r := H; have A100 := Aside0.mk A1000; clear A1000; obtain rfl := Option.some.inj H
            try go_wp2
            replace HO_279001 := Aside0.mk (Kd.N_drew HO_279001.out); replace BK228 := Aside0.mk (blk_drew BK228.out); replace BK229 := Aside0.mk (blk_drew BK229.out); replace BK278 := Aside0.mk (blk_drew BK278.out); replace HB := Aside0.mk (below_drew1 HB.out); have p286 := zQ (0 ≤ (x10_3 : Int)); have q286 := zQ (x10_3 < (l0_1.length : Int)); obtain ⟨ad286, A286_1, c286_1, e286, hx286_0, hx286_1, hx286_2, hl286_1, hi286_1⟩ := at_T42 HR0_1.out x10_3 p286 q286; have hw286_2 := hx286_2; have hw286_1 := hx286_1; have hw286_0 := hx286_0
            cases e286
            replace hx286_0 := zx HB hx286_0; replace hx286_1 := zx HB hx286_1; replace hx286_2 := zx HB hx286_2; have HR286_1 := Aside0.mk hi286_1; have HC286_1 := Aside0.mk hl286_1; clear hi286_1 hl286_1; replace p286 := eq_true p286; replace q286 := eq_true q286
            refine start_ (n := 14) (S := fun w' => w'.cell? ⟨gb278, 0, none⟩ = some (.string t272) ∧ w'.cell? ⟨gb278, 1, none⟩ = some (.slice Ao73 t273.length co73) ∧ w'.cell? ⟨gb278, 2, none⟩ = some (.string t276) ∧ w'.cell? ⟨gb228, 0, none⟩ = some (.string a0_0) ∧ w'.cell? ⟨gb228, 1, none⟩ = some (.slice (some ad286) l0_1.length c0_1) ∧ w'.cell? ⟨gb228, 2, none⟩ = some (.slice A0_2 l0_2.length c0_2) ∧ w'.cell? (ad286.add ((x10_3).toNat * 3)) = some (.string ((rd_T42 l0_1 x10_3).f0)) ∧ w'.cell? ⟨(ad286.add ((x10_3).toNat * 3)).block, (ad286.add ((x10_3).toNat * 3)).off + 1, none⟩ = some (.slice A286_1 ((rd_T42 l0_1 x10_3).f1).length c286_1) ∧ w'.cell? ⟨(ad286.add ((x10_3).toNat * 3)).block, (ad286.add ((x10_3).toNat * 3)).off + 2, none⟩ = some (.string ((rd_T42 l0_1 x10_3).f2))) (ds := []) #[false, false, false, false, false, false, false, false, false, false, false, false, false, false] (by kernel_rfl) rfl rfl ⟨(blk_cell BK278.out 0).trans rfl, (blk_cell BK278.out 1).trans rfl, (blk_cell BK278.out 2).trans rfl, (blk_cell BK228.out 0).trans rfl, (blk_cell BK228.out 1).trans rfl, (blk_cell BK228.out 2).trans rfl, (zx HB hw286_0), (zx HB hw286_1), (zx HB hw286_2)⟩ (fun hHeld => ?_); refine with_tabW trystlaw11_TreeFinds.tab17 trystlaw11_TreeFinds.bits17 (fun HT_ HW_ => ?_)
            generalize wr.drew = w101 at HO_279001 BK228 BK229 BK278 HB HR286_1 hx286_0 hx286_1 hx286_2 hHeld ⊢; refine pure_ (i := 0) (N := some 78) (v := ?_) (a' := ?_) #[true, false, false, false, false, false, false, false, false, false, false, false, false, false] rfl rfl (any_of HT_.out (by kernel_rfl)) (fun _ _ _ h => h) (Or.inl ⟨by rfl, ?_⟩) ?_ ?_; rotate_left
            ·intro w'; go_simp; with_reducible rfl
            rotate_left
            ·simp only [Act.put, List.setIfInBounds_toArray, List.set_cons_zero, List.set_cons_succ, i64_w, i32_w]; rfl
            refine pure_ (i := 1) (N := some 79) (v := ?_) (a' := ?_) #[true, true, false, false, false, false, false, false, false, false, false, false, false, false] rfl rfl (any_of HT_.out (by kernel_rfl)) (fun _ _ _ h => h) (Or.inl ⟨by rfl, ?_⟩) ?_ ?_; rotate_left
            ·intro w'; go_simp; with_reducible rfl
            rotate_left
            ·simp only [Act.put, List.setIfInBounds_toArray, List.set_cons_zero, List.set_cons_succ, i64_w, i32_w]; rfl
            refine pure_ (i := 2) (N := some 80) (v := ?_) (a' := ?_) #[true, true, true, false, false, false, false, false, false, false, false, false, false, false] rfl rfl (any_of HT_.out (by kernel_rfl)) (fun _ _ _ h => h) (Or.inl ⟨by rfl, ?_⟩) ?_ ?_; rotate_left
            ·intro w'; go_simp; with_reducible rfl
            rotate_left
            ·simp only [Act.put, List.setIfInBounds_toArray, List.set_cons_zero, List.set_cons_succ, i64_w, i32_w]; rfl
            refine pure_ (i := 3) (N := some 81) (v := ?_) (a' := ?_) #[true, true, true, true, false, false, false, false, false, false, false, false, false, false] rfl rfl (any_of HT_.out (by kernel_rfl)) (fun _ _ _ h => h) (Or.inl ⟨by rfl, ?_⟩) ?_ ?_; rotate_left
            ·intro w'; go_simp; with_reducible rfl
            rotate_left
            ·simp only [Act.put, List.setIfInBounds_toArray, List.set_cons_zero, List.set_cons_succ, i64_w, i32_w]; rfl
            refine pure_ (i := 6) (N := some 84) (v := ?_) (a' := ?_) #[true, true, true, true, false, false, true, false, false, false, false, false, false, false] rfl rfl (any_of HT_.out (by kernel_rfl)) (fun _ _ _ h => h) (Or.inl ⟨by rfl, ?_⟩) ?_ ?_; rotate_left
            ·intro w'; go_simp; with_reducible rfl
            rotate_left
            ·simp only [Act.put, List.setIfInBounds_toArray, List.set_cons_zero, List.set_cons_succ, i64_w, i32_w]; rfl
            refine pure_ (i := 8) (N := some 86) (v := ?_) (a' := ?_) #[true, true, true, true, false, false, true, false, true, false, false, false, false, false] rfl rfl (any_of HT_.out (by kernel_rfl)) (fun _ _ _ h => h) (Or.inl ⟨by rfl, ?_⟩) ?_ ?_; rotate_left
            ·intro w'; go_simp; with_reducible rfl
            rotate_left
            ·simp only [Act.put, List.setIfInBounds_toArray, List.set_cons_zero, List.set_cons_succ, i64_w, i32_w]; rfl
            refine take_ (i := 4) (N := some 82) (v := ?_) (a' := ?_) #[true, true, true, true, true, false, true, false, true, false, false, false, false, false] rfl rfl (take_ofW HT_.out HW_.out (by kernel_rfl)) (fun _ _ _ h => h) (Or.inl ⟨by rfl, ?_⟩) hHeld ?_ ?_; rotate_left
            ·rintro w' ⟨s0, s1, s2, s3, s4, s5, s6, s7, s8⟩; go_simp; with_reducible rfl
            rotate_left
            ·simp only [Act.put, List.setIfInBounds_toArray, List.set_cons_zero, List.set_cons_succ, i64_w, i32_w]; rfl
            refine take_ (i := 7) (N := some 85) (v := ?_) (a' := ?_) #[true, true, true, true, true, false, true, true, true, false, false, false, false, false] rfl rfl (take_ofW HT_.out HW_.out (by kernel_rfl)) (fun _ _ _ h => h) (Or.inl ⟨by rfl, ?_⟩) hHeld ?_ ?_; rotate_left
            ·rintro w' ⟨s0, s1, s2, s3, s4, s5, s6, s7, s8⟩; go_simp; with_reducible rfl
            rotate_left
            ·simp only [Act.put, List.setIfInBounds_toArray, List.set_cons_zero, List.set_cons_succ, i64_w, i32_w]; rfl
            refine pure_ (i := 9) (N := some 87) (v := ?_) (a' := ?_) #[true, true, true, true, true, false, true, true, true, true, false, false, false, false] rfl rfl (any_of HT_.out (by kernel_rfl)) (fun _ _ _ h => h) (Or.inl ⟨by rfl, ?_⟩) ?_ ?_; rotate_left
            ·intro w'; go_simp; with_reducible rfl
            rotate_left
            ·simp only [Act.put, List.setIfInBounds_toArray, List.set_cons_zero, List.set_cons_succ, i64_w, i32_w]; rfl
            refine take_ (i := 10) (N := some 88) (v := ?_) (a' := ?_) #[true, true, true, true, true, false, true, true, true, true, true, false, false, false] rfl rfl (take_ofW HT_.out HW_.out (by kernel_rfl)) (fun _ _ _ h => h) (Or.inl ⟨by rfl, ?_⟩) hHeld ?_ ?_; rotate_left
            ·rintro w' ⟨s0, s1, s2, s3, s4, s5, s6, s7, s8⟩; go_simp; with_reducible rfl
            rotate_left
            ·simp only [Act.put, List.setIfInBounds_toArray, List.set_cons_zero, List.set_cons_succ, i64_w, i32_w]; rfl
            refine one_ (i := 5) (N := some 83) #[true, true, true, true, true, true, true, true, true, true, true, false, false, false] rfl rfl (one_of HT_.out (by kernel_rfl)) (by decide) (fun K hK => ?_); refine goes_ Tryd.func12 (by kernel_rfl) rfl #[.agg #[.string t272, .slice Ao73 t273.length co73, .string t276]] (by rfl) rfl rfl zA ?_
            with_reducible refine (trystlaw10_Ours.calls k3 t272 (fun k_ => (k_ ≠ gb228 ∧ (k_ ≠ gb229 ∧ k_ ≠ gb278))) _ _ t273 t276 t281 t282 t285 _ zG ?side1 A97.out).mono ?_
            (case side1 => exact Kd.N_V (HO_279001.out))
            rintro e w102 ⟨v283, rfl, ho0, hb⟩; refine ⟨_, rfl, ?_⟩; have n0_ := Aside0.mk (Kd.N_elder' (Kd.N_below HO_279001.out zX) (Kd.N_base ho0) hb)
            have n1_ := Aside0.mk (Kd.N_lower (Kd.N_mono (ok' := fun k_ => k_ ≠ gb228 ∧ k_ ≠ gb229 ∧ k_ ≠ gb278) ho0 (fun k_ hk_ => ⟨Or.elim hk_ (fun hs_ => hs_.1) (fun hn_ => (Kd.freshB (g := gb228) (o := .cells #[.string a0_0, .slice (some ad286) l0_1.length c0_1, .slice A0_2 l0_2.length c0_2] 25 (0, 0)) (blk_below BK228.out zX) k_ hn_)), Or.elim hk_ (fun hs_ => hs_.2.1) (fun hn_ => (Kd.freshB (g := gb229) (o := .cells #[.string a1_0, .slice A1_1 l1_1.length c1_1, .slice A1_2 l1_2.length c1_2] 25 (0, 0)) (blk_below BK229.out zX) k_ hn_)), Or.elim hk_ (fun hs_ => hs_.2.2) (fun hn_ => (Kd.freshB (g := gb278) (o := .cells #[.string t272, .slice Ao73 t273.length co73, .string t276] 37 (0, 0)) (blk_below BK278.out zX) k_ hn_))⟩)) (below_size zB)); have n2_ := zb BK228 hb; have n3_ := zb BK229 hb
            have n4_ := zb BK278 hb; have n5_ := zw hb; clear HO_279001; clear BK228; clear BK229; clear BK278; clear HB; have HO_279001 := n0_; have HO284 := n1_; have BK228 := n2_; have BK229 := n3_; have BK278 := n4_; have HB := n5_; clear n0_ n1_ n2_ n3_ n4_ n5_; (try clear hb); (try clear hb2); (try clear hk); (try clear hi); (try clear ho0); obtain ⟨Ao103, co103, eo103⟩ := Kd.N_slice HO284.out
            (first | subst eo103 | (injection eo103 with f1_ f2_ f3_; have f4_ := f1_.symm; have f5_ := f3_.symm; clear f1_ f2_ f3_; subst f4_; subst f5_))
            refine hK.out _ _ ⟨(blk_cell BK278.out 0).trans rfl, (blk_cell BK278.out 1).trans rfl, (blk_cell BK278.out 2).trans rfl, (blk_cell BK228.out 0).trans rfl, (blk_cell BK228.out 1).trans rfl, (blk_cell BK228.out 2).trans rfl, (zx HB hw286_0), (zx HB hw286_1), (zx HB hw286_2)⟩ (fun hHeld => ?_); clear hK K; refine norm_ (a' := ?_) ?_ ?_; rotate_left
            ·show Act.put _ (some 83) _ = _
             simp only [Act.put, List.setIfInBounds_toArray, List.set_cons_zero, List.set_cons_succ, i64_w, i32_w]; rfl
            refine one_ (i := 11) (N := some 89) #[true, true, true, true, true, true, true, true, true, true, true, true, false, false] rfl rfl (one_of HT_.out (by kernel_rfl)) (by decide) (fun K hK => ?_); refine goes_ Tryd.func11 (by kernel_rfl) rfl #[.agg #[.string t281, .slice Ao103 t282.length co103, .string t285], .agg #[.string ((rd_T42 l0_1 x10_3).f0), .slice A286_1 ((rd_T42 l0_1 x10_3).f1).length c286_1, .string ((rd_T42 l0_1 x10_3).f2)]] (by rfl) rfl rfl zA ?_
            with_reducible refine (trystlaw10_Same.calls k3 t281 _ _ t282 t285 ((rd_T42 l0_1 x10_3).f0) _ _ ((rd_T42 l0_1 x10_3).f1) ((rd_T42 l0_1 x10_3).f2) t287 _ zG ?side1 ?side2 ?side3 ?side4 A100.out).mono ?_
            (case side1 => exact Kd.C_below (Kd.N_reads' HO284.out).2.2 zX)
            (case side2 => exact (Kd.N_reads' HO284.out).2.1)
            (case side3 => exact Kd.C_below (Kd.C_below HR286_1.out HB.out) zX)
            (case side4 => exact HC286_1.out)
            rintro e w104 ⟨rfl, hb⟩; refine ⟨_, rfl, ?_⟩; replace HO_279001 := Aside0.mk (Kd.N_below (Kd.N_below HO_279001.out zX) hb); replace HO284 := Aside0.mk (Kd.N_below (Kd.N_below HO284.out zX) hb); replace BK228 := zb BK228 hb; replace BK229 := zb BK229 hb; replace BK278 := zb BK278 hb; replace HB := zw hb; (try clear hb); (try clear hb2); (try clear hk); (try clear hi)
            refine hK.out _ _ ⟨(blk_cell BK278.out 0).trans rfl, (blk_cell BK278.out 1).trans rfl, (blk_cell BK278.out 2).trans rfl, (blk_cell BK228.out 0).trans rfl, (blk_cell BK228.out 1).trans rfl, (blk_cell BK228.out 2).trans rfl, (zx HB hw286_0), (zx HB hw286_1), (zx HB hw286_2)⟩ (fun hHeld => ?_); clear hK K; refine norm_ (a' := ?_) ?_ ?_; rotate_left
            ·show Act.put _ (some 89) _ = _
             simp only [Act.put, List.setIfInBounds_toArray, List.set_cons_zero, List.set_cons_succ, i64_w, i32_w]; rfl
            refine pure_ (i := 12) (N := some 90) (v := ?_) (a' := ?_) #[true, true, true, true, true, true, true, true, true, true, true, true, true, false] rfl rfl (any_of HT_.out (by kernel_rfl)) (fun _ _ _ h => h) (Or.inl ⟨by rfl, ?_⟩) ?_ ?_; rotate_left
            ·intro w'; go_simp; with_reducible rfl
            rotate_left
            ·simp only [Act.put, List.setIfInBounds_toArray, List.set_cons_zero, List.set_cons_succ, i64_w, i32_w]; rfl
            refine pure_ (i := 13) (N := some 6) (v := ?_) (a' := ?_) #[true, true, true, true, true, true, true, true, true, true, true, true, true, true] rfl rfl (any_of HT_.out (by kernel_rfl)) (fun _ _ _ h => h) (Or.inl ⟨by rfl, ?_⟩) ?_ ?_; rotate_left
            ·intro w'; go_simp; with_reducible rfl
            rotate_left
            ·simp only [Act.put, List.setIfInBounds_toArray, List.set_cons_zero, List.set_cons_succ, i64_w, i32_w]; rfl
            refine done_ (done_of HT_.out (by kernel_rfl)) ?_
            try go_wp2
            go_ret; exact ⟨zE, zB⟩
           ·obtain rfl := Option.some.inj H
            try go_wp2
            replace HO_279001 := Aside0.mk (Kd.N_drew HO_279001.out); replace BK228 := Aside0.mk (blk_drew BK228.out); replace BK229 := Aside0.mk (blk_drew BK229.out); replace BK278 := Aside0.mk (blk_drew BK278.out); replace HB := Aside0.mk (below_drew1 HB.out); refine start_ (n := 14) (S := fun w' => True) (ds := []) #[false, false, false, false, false, false, false, false, false, false, false, false, false, false] (by kernel_rfl) rfl rfl trivial (fun hHeld => ?_); refine with_tabW trystlaw11_TreeFinds.tab17 trystlaw11_TreeFinds.bits17 (fun HT_ HW_ => ?_); generalize wr.drew = w105 at HO_279001 BK228 BK229 BK278 HB hHeld ⊢
            refine pure_ (i := 0) (N := some 78) (v := ?_) (a' := ?_) #[true, false, false, false, false, false, false, false, false, false, false, false, false, false] rfl rfl (any_of HT_.out (by kernel_rfl)) (fun _ _ _ h => h) (Or.inl ⟨by rfl, ?_⟩) ?_ ?_; rotate_left
            ·intro w'; go_simp; with_reducible rfl
            rotate_left
            ·simp only [Act.put, List.setIfInBounds_toArray, List.set_cons_zero, List.set_cons_succ, i64_w, i32_w]; rfl
            refine pure_ (i := 1) (N := some 79) (v := ?_) (a' := ?_) #[true, true, false, false, false, false, false, false, false, false, false, false, false, false] rfl rfl (any_of HT_.out (by kernel_rfl)) (fun _ _ _ h => h) (Or.inl ⟨by rfl, ?_⟩) ?_ ?_; rotate_left
            ·intro w'; go_simp; with_reducible rfl
            rotate_left
            ·simp only [Act.put, List.setIfInBounds_toArray, List.set_cons_zero, List.set_cons_succ, i64_w, i32_w]; rfl
            refine pure_ (i := 2) (N := some 80) (v := ?_) (a' := ?_) #[true, true, true, false, false, false, false, false, false, false, false, false, false, false] rfl rfl (any_of HT_.out (by kernel_rfl)) (fun _ _ _ h => h) (Or.inl ⟨by rfl, ?_⟩) ?_ ?_; rotate_left
            ·intro w'; go_simp; with_reducible rfl
            rotate_left
            ·simp only [Act.put, List.setIfInBounds_toArray, List.set_cons_zero, List.set_cons_succ, i64_w, i32_w]; rfl
            refine pure_ (i := 3) (N := some 81) (v := ?_) (a' := ?_) #[true, true, true, true, false, false, false, false, false, false, false, false, false, false] rfl rfl (any_of HT_.out (by kernel_rfl)) (fun _ _ _ h => h) (Or.inl ⟨by rfl, ?_⟩) ?_ ?_; rotate_left
            ·intro w'; go_simp; with_reducible rfl
            rotate_left
            ·simp only [Act.put, List.setIfInBounds_toArray, List.set_cons_zero, List.set_cons_succ, i64_w, i32_w]; rfl
            refine pure_ (i := 4) (N := some 82) (v := undef) (a' := ?_) #[true, true, true, true, true, false, false, false, false, false, false, false, false, false] rfl rfl (any_of HT_.out (by kernel_rfl)) (fun _ _ _ h => h) (Or.inr ⟨by rfl, rfl⟩) ?_ ?_; rotate_left
            ·simp only [Act.put, List.setIfInBounds_toArray, List.set_cons_zero, List.set_cons_succ, i64_w, i32_w]; rfl
            refine pure_ (i := 5) (N := some 83) (v := undef) (a' := ?_) #[true, true, true, true, true, true, false, false, false, false, false, false, false, false] rfl rfl (any_of HT_.out (by kernel_rfl)) (fun _ _ _ h => h) (Or.inr ⟨by rfl, rfl⟩) ?_ ?_; rotate_left
            ·simp only [Act.put, List.setIfInBounds_toArray, List.set_cons_zero, List.set_cons_succ, i64_w, i32_w]; rfl
            refine pure_ (i := 6) (N := some 84) (v := undef) (a' := ?_) #[true, true, true, true, true, true, true, false, false, false, false, false, false, false] rfl rfl (any_of HT_.out (by kernel_rfl)) (fun _ _ _ h => h) (Or.inr ⟨by rfl, rfl⟩) ?_ ?_; rotate_left
            ·simp only [Act.put, List.setIfInBounds_toArray, List.set_cons_zero, List.set_cons_succ, i64_w, i32_w]; rfl
            refine pure_ (i := 7) (N := some 85) (v := undef) (a' := ?_) #[true, true, true, true, true, true, true, true, false, false, false, false, false, false] rfl rfl (any_of HT_.out (by kernel_rfl)) (fun _ _ _ h => h) (Or.inr ⟨by rfl, rfl⟩) ?_ ?_; rotate_left
            ·simp only [Act.put, List.setIfInBounds_toArray, List.set_cons_zero, List.set_cons_succ, i64_w, i32_w]; rfl
            refine pure_ (i := 8) (N := some 86) (v := undef) (a' := ?_) #[true, true, true, true, true, true, true, true, true, false, false, false, false, false] rfl rfl (any_of HT_.out (by kernel_rfl)) (fun _ _ _ h => h) (Or.inr ⟨by rfl, rfl⟩) ?_ ?_; rotate_left
            ·simp only [Act.put, List.setIfInBounds_toArray, List.set_cons_zero, List.set_cons_succ, i64_w, i32_w]; rfl
            refine pure_ (i := 9) (N := some 87) (v := undef) (a' := ?_) #[true, true, true, true, true, true, true, true, true, true, false, false, false, false] rfl rfl (any_of HT_.out (by kernel_rfl)) (fun _ _ _ h => h) (Or.inr ⟨by rfl, rfl⟩) ?_ ?_; rotate_left
            ·simp only [Act.put, List.setIfInBounds_toArray, List.set_cons_zero, List.set_cons_succ, i64_w, i32_w]; rfl
            refine pure_ (i := 10) (N := some 88) (v := undef) (a' := ?_) #[true, true, true, true, true, true, true, true, true, true, true, false, false, false] rfl rfl (any_of HT_.out (by kernel_rfl)) (fun _ _ _ h => h) (Or.inr ⟨by rfl, rfl⟩) ?_ ?_; rotate_left
            ·simp only [Act.put, List.setIfInBounds_toArray, List.set_cons_zero, List.set_cons_succ, i64_w, i32_w]; rfl
            refine pure_ (i := 11) (N := some 89) (v := undef) (a' := ?_) #[true, true, true, true, true, true, true, true, true, true, true, true, false, false] rfl rfl (any_of HT_.out (by kernel_rfl)) (fun _ _ _ h => h) (Or.inr ⟨by rfl, rfl⟩) ?_ ?_; rotate_left
            ·simp only [Act.put, List.setIfInBounds_toArray, List.set_cons_zero, List.set_cons_succ, i64_w, i32_w]; rfl
            refine pure_ (i := 12) (N := some 90) (v := ?_) (a' := ?_) #[true, true, true, true, true, true, true, true, true, true, true, true, true, false] rfl rfl (any_of HT_.out (by kernel_rfl)) (fun _ _ _ h => h) (Or.inl ⟨by rfl, ?_⟩) ?_ ?_; rotate_left
            ·intro w'; go_simp; with_reducible rfl
            rotate_left
            ·simp only [Act.put, List.setIfInBounds_toArray, List.set_cons_zero, List.set_cons_succ, i64_w, i32_w]; rfl
            refine pure_ (i := 13) (N := some 6) (v := ?_) (a' := ?_) #[true, true, true, true, true, true, true, true, true, true, true, true, true, true] rfl rfl (any_of HT_.out (by kernel_rfl)) (fun _ _ _ h => h) (Or.inl ⟨by rfl, ?_⟩) ?_ ?_; rotate_left
            ·intro w'; go_simp; with_reducible rfl
            rotate_left
            ·simp only [Act.put, List.setIfInBounds_toArray, List.set_cons_zero, List.set_cons_succ, i64_w, i32_w]; rfl
            refine done_ (done_of HT_.out (by kernel_rfl)) ?_
            try go_wp2
            go_ret; exact ⟨zE, zB⟩
end Go.Proofs.YtdojmdbaiddkgaaDoor.Print
end
section
set_option linter.unusedVariables false
set_option linter.unusedSimpArgs false
set_option linter.unusedSectionVars false
namespace Go.Proofs.YtdojmdbaiddkgaaDoor.Pure
open Go.RowKit Go.Proofs.YtdojmdbaiddkgaaDoor.Print Go.Proofs.YtdojmdbaiddkgaaDoorW.PrintWords Go.Proofs.YtdojmdbaiddkgaaDoorW.PrintLast Go.Proofs.YtdojmdbaiddkgaaDoorW.PrintMore
def ofP (x : LP) : RP := ⟨x.f0, x.f1⟩
theorem ofP_toP : ∀ l : List RP, (l.map toP).map ofP = l
  | [] => rfl
  | p :: t => by rw [List.map_cons, List.map_cons, ofP_toP t]; rfl
theorem rdP9 (l : List LP) (i : Nat) (h : i < l.length) : rd_T59 l (i : Int) = l[i] := by
  unfold rd_T59
  rw [Int.toNat_natCast, List.getD_eq_getElem?_getD, List.getElem?_eq_getElem h]; rfl
theorem ours_ev (nm v : ByteArray) (l : List LP) (hl : l.length < 3518437208883) :
    ∀ (d i : Nat) (acc : List RP), i + d = l.length → acc.length = i → Ev (fun k => trystlaw10_Ours.l0 k (l.length : Int) (i : Int) nm l v nm acc v) (nm, acc ++ (l.drop i).map ofP, v) := by
  intro d
  induction d with
  | zero =>
    intro i acc hi ha
    rw [List.drop_eq_nil_of_le (by omega), List.map_nil, List.append_nil]
    exact Ev.step (f := fun _ => some (nm, acc, v)) (fun k => by simp only [trystlaw10_Ours.l0]; rw [if_neg (by omega)]) (Ev.now _)
  | succ d ih =>
    intro i acc hi ha
    have hil : i < l.length := by omega
    have := ih (i + 1) (acc ++ [ofP l[i]]) (by omega) (by simp [ha])
    rw [List.drop_eq_getElem_cons hil, List.map_cons, List.append_cons]
    refine Ev.step (fun k => ?_) this
    simp only [trystlaw10_Ours.l0]
    rw [if_pos (by omega), if_pos (by omega), if_pos (by omega), rdP9 l i hil, if_pos (by omega), wrapS i _ hil (by omega)]
    rfl
theorem ours (nm v : ByteArray) (l : List LP) (hl : l.length < 3518437208883) : Ev (fun k => trystlaw10_Ours.f k nm l v) (nm, l.map ofP, v) := by
  have := ours_ev nm v l hl l.length 0 [] (by omega) rfl
  rw [List.nil_append, List.drop_zero] at this
  exact this
def noL : PL := ⟨⟨#[]⟩, [], ⟨#[]⟩⟩
/-- The law's own count of the lines of a name, beside what Find answered. -/
theorem law_l0 (nm a : ByteArray) (l : List RL) (ks : List RT) (hl : l.length < 2513169434916) (hb : ∀ x ∈ l, LB x) (y : PL) (m : Nat) :
    ∀ (d i n : Nat) (c : PL) (at_ : Int), i + d = l.length → n ≤ i → findR nm ((l.drop i).map toL) n c = (y, m) →
      ((n = 0 ∧ c = noL) ∨ (0 < n ∧ ∃ (j : Nat) (h : j < l.length), at_ = (j : Int) ∧ c = toL l[j])) →
      Ev (fun k => trystlaw11_TreeFinds.l0 k nm (m : Int) (n : Int) at_ (l.length : Int) (i : Int) a l ks y.f0 y.f1 y.f2) true := by
  intro d
  induction d with
  | zero =>
    intro i n c at_ hi hn hF hc
    rw [List.drop_eq_nil_of_le (by omega), List.map_nil] at hF
    simp only [findR, Prod.mk.injEq] at hF
    obtain ⟨rfl, rfl⟩ := hF
    rcases hc with ⟨rfl, rfl⟩ | ⟨h0, j, hj, rfl, rfl⟩
    · refine Ev.step (f := fun _ => some true) (fun k => ?_) (Ev.now _)
      simp only [trystlaw11_TreeFinds.l0]
      rw [if_neg (by omega), if_pos (by omega), if_pos (by omega)]
      rfl
    · have hbx := hb _ (List.getElem_mem hj)
      refine Ev.step (f := fun k => (trystlaw10_Ours.f k (toL l[j]).f0 (toL l[j]).f1 (toL l[j]).f2).bind fun b => (trystlaw10_Same.f k b.1 b.2.1 b.2.2 l[j].f0 l[j].f1 l[j].f2).bind fun t => some t) (fun k => ?_) ?_
      · simp only [trystlaw11_TreeFinds.l0]
        rw [if_neg (by omega), if_neg (by omega), if_pos trivial]
        simp only [if_pos (show (0 : Int) ≤ (j : Int) by omega), if_pos (show (j : Int) < (l.length : Int) by omega), rdRL l j hj]
      · refine Ev.bind (ours l[j].f0 l[j].f2 (l[j].f1.map toP) (by rw [List.length_map]; exact hbx.1)) ?_
        have h1 := same10 l[j].f0 l[j].f2 l[j].f0 l[j].f2 l[j].f1 l[j].f1 (by have := hbx.1; omega) (fun p hp => by have := hbx.2 p hp; omega)
        have h2 : eqL l[j].f0 (l[j].f1.map toP) l[j].f2 l[j].f0 (l[j].f1.map toP) l[j].f2 = true := by
          unfold eqL; rw [eqPs_self, decide_eq_true rfl, decide_eq_true rfl]; rfl
        rw [h2] at h1
        show Ev (fun k => (trystlaw10_Same.f k l[j].f0 ((l[j].f1.map toP).map ofP) l[j].f2 l[j].f0 l[j].f1 l[j].f2).bind fun t => some t) true
        rw [ofP_toP]
        exact Ev.bind h1 (Ev.now _)
  | succ d ihd =>
    intro i n c at_ hi hn hF hc
    have hil : i < l.length := by omega
    rw [List.drop_eq_getElem_cons hil, List.map_cons] at hF
    by_cases he : l[i].f0 = nm
    · simp only [findR, if_pos (show (toL l[i]).f0 = nm from he)] at hF
      by_cases hz : n = 0
      · subst hz
        rw [if_pos rfl] at hF
        have h1 := ihd (i + 1) 1 _ (i : Int) (by omega) (by omega) hF (.inr ⟨by omega, i, hil, rfl, rfl⟩)
        refine Ev.step (fun k => ?_) h1
        simp only [trystlaw11_TreeFinds.l0]
        rw [if_pos (by omega), if_pos (by omega), if_pos (by omega), rdRL l i hil, if_pos (by rw [he]), if_pos (by omega), wrapS i _ hil (by omega), wrapS 0 1 (by omega) (by omega)]
      · rw [if_neg hz] at hF
        have h1 := ihd (i + 1) (n + 1) c at_ (by omega) (by omega) hF (by
          rcases hc with ⟨h, _⟩ | ⟨_, h⟩
          · exact absurd h hz
          · exact .inr ⟨by omega, h⟩)
        refine Ev.step (fun k => ?_) h1
        simp only [trystlaw11_TreeFinds.l0]
        rw [if_pos (by omega), if_pos (by omega), if_pos (by omega), rdRL l i hil, if_pos (by rw [he]), if_neg (by omega), wrapS i _ hil (by omega), wrapS n (n + 1) (by omega) (by omega)]
    · simp only [findR, if_neg (show ¬(toL l[i]).f0 = nm from he)] at hF
      have h1 := ihd (i + 1) n c at_ (by omega) (by omega) hF hc
      refine Ev.step (fun k => ?_) h1
      simp only [trystlaw11_TreeFinds.l0]
      rw [if_pos (by omega), if_pos (by omega), if_pos (by omega), rdRL l i hil, if_neg (fun h => he (toList_ba.1 h)), wrapS i _ hil (by omega)]
theorem treeFinds_pure (x y : RT) (nm : ByteArray) (hx : TB x) (hy : TB y) : ∃ k, trystlaw11_TreeFinds.f k x.f0 x.f1 x.f2 y.f0 y.f1 y.f2 nm = some true := by
  have hT := theirsT _ x (Nat.lt_succ_self _) hx
  have hTy := theirsT _ y (Nat.lt_succ_self _) hy
  obtain ⟨⟨h1, h2⟩, h3, h4⟩ := TB_of hx
  have hno : Ev (fun k => trystlaw11_TreeFinds.j0 k nm true x.f0 x.f1 x.f2 y.f0 y.f1 y.f2) true :=
    Ev.step (f := fun k => (trystlaw11_awake.f k).bind fun t => some t) (fun k => by simp only [trystlaw11_TreeFinds.j0]; rw [if_pos trivial]) (Ev.bind awake11 (Ev.now _))
  have hj1 : Ev (fun k => trystlaw11_TreeFinds.j1 k nm false x.f0 x.f1 x.f2) true := by
    refine Ev.step (f := fun k => (trystlaw11_Theirs.f k x.f0 x.f1 x.f2).bind fun b => (tree_Find.f k b.1 b.2.1 b.2.2 nm).bind fun c => trystlaw11_TreeFinds.l0 k nm c.2.2.2 0 (-1) (x.f1.length : Int) 0 x.f0 x.f1 x.f2 c.1 c.2.1 c.2.2.1) (fun k => by simp only [trystlaw11_TreeFinds.j1]; rw [if_neg (by simp)]) ?_
    refine Ev.bind hT ?_
    have hg : ∀ z ∈ x.f1.map toL, z.f1.length < 3518437208883 ∧ ∀ p ∈ z.f1, p.f1.length < 8796093022208 := fun z hz => by
      obtain ⟨q, hq, rfl⟩ := List.mem_map.1 hz
      refine ⟨?_, fun p hp => ?_⟩
      · show (q.f1.map toP).length < _
        rw [List.length_map]; exact (h2 q hq).1
      · obtain ⟨r, hr, rfl⟩ := List.mem_map.1 (show p ∈ q.f1.map toP from hp)
        exact (h2 q hq).2 r hr
    have hf := find_l0 nm (x.f1.map toL) (by rw [List.length_map]; omega) hg (x.f1.map toL).length 0 0 noL (by omega) (by omega)
    rw [List.drop_zero] at hf
    refine Ev.bind (f := fun k c => trystlaw11_TreeFinds.l0 k nm c.2.2.2 0 (-1) (x.f1.length : Int) 0 x.f0 x.f1 x.f2 c.1 c.2.1 c.2.2.1) hf ?_
    exact law_l0 nm x.f0 x.f1 x.f2 h1 h2 (findR nm (x.f1.map toL) 0 noL).1 (findR nm (x.f1.map toL) 0 noL).2 x.f1.length 0 0 noL (-1) (by omega) (by omega) (by rw [List.drop_zero]) (.inl ⟨rfl, rfl⟩)
  have hyes : Ev (fun k => trystlaw11_TreeFinds.j0 k nm false x.f0 x.f1 x.f2 y.f0 y.f1 y.f2) true := by
    refine Ev.step (f := fun k => (trystlaw11_Theirs.f k x.f0 x.f1 x.f2).bind fun p => (trystlaw11_Theirs.f k y.f0 y.f1 y.f2).bind fun q => (tree_Equal.f p.1 p.2.1 p.2.2 q.1 q.2.1 q.2.2).bind fun t => (trystlaw11_Same.f k x.f0 x.f1 x.f2 y.f0 y.f1 y.f2).bind fun u => if (t != u) = true then trystlaw11_TreeFinds.j1 k nm true x.f0 x.f1 x.f2 else (trystlaw11_Theirs.f k x.f0 x.f1 x.f2).bind fun p => (trystlaw11_Theirs.f k x.f0 x.f1 x.f2).bind fun q => (tree_Equal.f p.1 p.2.1 p.2.2 q.1 q.2.1 q.2.2).bind fun t => trystlaw11_TreeFinds.j1 k nm (!t) x.f0 x.f1 x.f2) (fun k => by simp only [trystlaw11_TreeFinds.j0]; rw [if_neg (by simp)]) ?_
    refine Ev.bind hT (Ev.bind hTy ?_)
    refine Ev.bind (g := fun _ => some (eqT ⟨x.f0, x.f1.map toL, x.f2.map toT⟩ ⟨y.f0, y.f1.map toL, y.f2.map toT⟩)) (Ev.now _) (Ev.bind (sameT _ x y (Nat.lt_succ_self _) hx) ?_)
    rw [← toT_f, ← toT_f]
    refine Ev.congr (fun k => by rw [if_neg (by simp)]) ?_
    refine Ev.bind hT (Ev.bind hT ?_)
    refine Ev.bind (g := fun _ => some (eqT ⟨x.f0, x.f1.map toL, x.f2.map toT⟩ ⟨x.f0, x.f1.map toL, x.f2.map toT⟩)) (Ev.now _) ?_
    rw [← toT_f, eqT_self _ _ (Nat.lt_succ_self _)]
    exact hj1
  obtain ⟨bx, hbx⟩ := fewT x hx
  obtain ⟨bY, hbY⟩ := fewT y hy
  refine Ev.rounds (r := true) ?_
  refine Ev.bind awake11 ?_
  refine Ev.congr (fun k => by rw [if_pos rfl]) (Ev.bind hbx ?_)
  cases bx with
  | false => exact Ev.congr (fun k => by rw [if_neg (by simp)]) hno
  | true =>
    refine Ev.congr (fun k => by rw [if_pos rfl]) (Ev.bind hbY ?_)
    cases bY with
    | false => exact hno
    | true => exact hyes
end Go.Proofs.YtdojmdbaiddkgaaDoor.Pure
end
section
set_option linter.unusedVariables false
namespace Go.Proofs.YtdojmdbaiddkgaaDoor.Tabs
open Go Go.RowKit Go.Lib Go.Proofs.YtdojmdbaiddkgaaDoor.Args
theorem tabsTreeF {W : World} (h : laidMetH Tryd.prog Rows.treeFindsRow.laid W) : Print.GG W := by
  rw [MakeChecks.laidMetH_plain _ _ _ (by kernel_rfl)] at h
  exact gg_of_laid h
theorem walkTreeF (v0 : Value) (z0 : RTree) (v1 : Value) (z1 : RTree) (s : ByteArray) (w : World) (hG : Print.GG w) (w0 : IsTree w v0 z0) (w1 : IsTree w v1 z1) (hs : s.size ≤ 140737488351232) :
    Calls Tryd.prog 3 #[v0, v1, .string s] w fun e w' => e = .returned (.bool true) ∧ Below w.heap.size w w' := by
  obtain ⟨b0, A0, c0, B0, d0, rfl, l0, h0, m0, g0⟩ := w0
  obtain ⟨b1, A1, c1, B1, d1, rfl, l1, h1, m1, g1⟩ := w1
  obtain ⟨k, hk⟩ := Pure.treeFinds_pure z0 z1 s b0 b1
  refine Print.trystlaw11_TreeFinds.calls k z0.f0 A0 c0 z0.f1 B0 d0 z0.f2 z1.f0 A1 c1 z1.f1 B1 d1 z1.f2 s true w hG h0 l0 g0 m0 h1 l1 g1 m1 hk
end Go.Proofs.YtdojmdbaiddkgaaDoor.Tabs
end

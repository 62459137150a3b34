/- line.Parse: walked by hand over the contracts of the reader's methods. -/
import Derived.Test.YtknmbalhbecdhaaDoorPrint3
import Derived.Deep.RegionHeld3
import Derived.Outline
set_option linter.unusedVariables false
set_option linter.unusedSimpArgs false
namespace Go.Proofs.YtknmbalhbecdhaaDoor.Print
open Go.RowKit Go.Proofs.YtknmbalhbecdhaaDoorW.PrintWords Go.Proofs.YtknmbalhbecdhaaDoorW.PrintLast Go.Proofs.YtknmbalhbecdhaaDoorW.PrintMore

abbrev LineR := ByteArray × List S83 × ByteArray × Int × Int
def noLine (a e : Int) : LineR := (⟨#[]⟩, [], ⟨#[]⟩, a, e)
/-- The parameters: the list, the state's text, where it stands, what is wrong. -/
def line_Parse.l0 : Nat → ByteArray → Int → Int → List S83 → Option (List S83 × ByteArray × Int × Int)
  | 0, _, _, _, _ => none
  | k + 1, s, a, fl, l => (line_reader_peek.f s a fl).bind fun p =>
      if p.1 = 59 then (if l.length < 3000000000000 ∧ a < 4611686018427387904 then (line_reader_param.f k s (a + 1) fl l).bind fun q => line_Parse.l0 k q.2.2.1 q.2.2.2.1 q.2.2.2.2 (l ++ [⟨q.1, q.2.1⟩]) else none)
      else some (l, s, a, fl)
/-- What follows behind the parameters. -/
def line_Parse.g (k : Nat) (a0 nm : ByteArray) (l : List S83) (s : ByteArray) (a fl : Int) : Option LineR :=
  if fl = 0 then (line_reader_peek.f s a fl).bind fun p =>
    if p.1 = 58 then (if 0 ≤ a ∧ a < (a0.size : Int) then (escape_Clean.f k (a0.extract (a.toNat + 1) a0.size) false).bind fun z => if z = 0 then some (nm, l, a0.extract (a.toNat + 1) a0.size, 0, 0) else some (noLine (a + 1) 7) else none)
    else some (noLine a 5)
  else some (noLine a fl)
def line_Parse.f (k : Nat) (a0 : ByteArray) : Option LineR :=
  if a0.size > 2000 then some (noLine 0 4)
  else (utf8_ValidString.f a0).bind fun ok => if ok = true then (line_reader_name.f a0 0 0).bind fun n => (line_Parse.l0 k n.2.1 n.2.2.1 n.2.2.2 []).bind fun q => line_Parse.g k a0 n.1 q.1 q.2.1 q.2.2.1 q.2.2.2 else some (noLine 0 3)
def ParseP (w : World) (r : LineR) (e : Ending) (w' : World) : Prop := ∃ v1_ : Value, e = .returned (.tuple #[.agg #[.string r.1, v1_, .string r.2.2.1], .int .i64 r.2.2.2.1, .int .i64 r.2.2.2.2]) ∧ Kd.S k83 83 w' w.heap.size (fun _ => True) v1_ r.2.1 ∧ Below w.heap.size w w'
theorem pblk_cell {w : World} {g : Nat} {cs : Array Value} {t : TypeId} {fr : Nat × Nat} (h : w.heap[g]? = some (.cells cs t fr)) (j : Nat) : w.cell? ⟨g, j, none⟩ = cs[j]? := by simp [World.cell?, h]
theorem pblk_froz {w : World} {g : Nat} {cs : Array Value} {t : TypeId} (h : w.heap[g]? = some (.cells cs t (0, 0))) (j : Nat) : w.frozen? ⟨g, j, none⟩ = false := by simp [World.frozen?, h]
theorem blkA {w : World} {g : Nat} {x : Obj} (hx : w.heap[g]? = some x) (o : Obj) : (w.alloc o).heap[g]? = some x := by
  rw [Below.heap_alloc _ _ _ (Array.getElem?_eq_some_iff.1 hx).1]; exact hx
theorem parse_long (s : ByteArray) (w : World) (hs : s.size > 2000) : Calls Tryd.prog 57 #[.string s] w (ParseP w (noLine 0 4)) := by
  have d1 : decide ((s.size : Int) > 2000) = true := decide_eq_true (by omega)
  go_enter Tryd.func57, Tryd.ntmps57
  go_wp2
  refine bodyPost_ret (v := .tuple #[.agg #[.string ⟨#[]⟩, .slice none 0 0, .string ⟨#[]⟩], .int .i64 0, .int .i64 4]) (by simp [results, Tryd.results57, go_sem]) rfl ⟨.slice none 0 0, rfl, Kd.S_nil _ _ _ _ _, (Below.refl _ _).alloc (Nat.le_refl _) _⟩
theorem parse_bad (s : ByteArray) (w : World) (hs : ¬ s.size > 2000) (hG : GG w) (hv : utf8_ValidString.f s = some false) : Calls Tryd.prog 57 #[.string s] w (ParseP w (noLine 0 3)) := by
  have d1 : decide ((s.size : Int) > 2000) = false := decide_eq_false (by omega)
  have HV := Aside0.mk hv
  have hnot : ∀ (x : Bool) (w : World), (Op.unary .not (.bool x)).run Tryd.prog w = .ok (.bool (!x)) w := fun _ _ => rfl
  clear hv hs
  go_enter Tryd.func57, Tryd.ntmps57
  go_wp2_with fail
  go_at_call 55
  refine (utf8_ValidString.calls s false _ (hG.alloc _) HV.out).mono ?_
  rintro e w2 ⟨rfl, hB⟩
  have HB := Aside0.mk (((below_alloc (Below.refl w.heap.size w) _).trans (hB.mono (by simp))))
  have hblk := (hB.block w.heap.size (by simp)).trans (heap_alloc_new w _)
  obtain ⟨R0, hR0⟩ : ∃ R0, R0 = w.heap.size := ⟨_, rfl⟩
  rw [← hR0] at hblk ⊢
  have HR0 := Aside0.mk hR0
  have c0 := pblk_cell hblk 0
  have c1 := pblk_cell hblk 1
  have c2 := pblk_cell hblk 2
  have f0 := pblk_froz hblk 0
  have f1 := pblk_froz hblk 1
  have f2 := pblk_froz hblk 2
  clear hB hblk hR0
  go_wp2_with fail
  refine bodyPost_ret (v := .tuple #[.agg #[.string ⟨#[]⟩, .slice none 0 0, .string ⟨#[]⟩], .int .i64 0, .int .i64 3]) (by simp [results, Tryd.results57, go_sem, c0, c1, c2]) rfl ⟨.slice none 0 0, rfl, Kd.S_nil _ _ _ _ _, ?_⟩
  repeat (first | exact HB.out | refine Below.setCell ?_ (by have := HR0.out; show w.heap.size ≤ R0; omega) _)
/-- A block that was there stays under what changes a state alone. -/
theorem keepBlk {w w' : World} {g b : Nat} {o : Obj} (hk : KeepBut w w' g none) (h : w.heap[b]? = some o) (hne : b ≠ g) : w'.heap[b]? = some o := (hk.2 b (Array.getElem?_eq_some_iff.1 h).1 hne (by simp)).trans h
theorem peek_same {s : ByteArray} {a fl : Int} {p : Int × ByteArray × Int × Int} (h : line_reader_peek.f s a fl = some p) : p = (p.1, s, a, fl) := by
  unfold line_reader_peek.f at h
  split at h
  · split at h
    · obtain rfl := Option.some.inj h; rfl
    · split at h
      · split at h
        · obtain rfl := Option.some.inj h; rfl
        · cases h
      · cases h
  · obtain rfl := Option.some.inj h; rfl
theorem peek_in {s : ByteArray} {a fl c : Int} (h : line_reader_peek.f s a fl = some (c, s, a, fl)) (hc : c ≠ 0) : fl = 0 ∧ 0 ≤ a ∧ a < (s.size : Int) := by
  unfold line_reader_peek.f at h
  split at h
  · rename_i h0
    split at h
    · simp only [Option.some.injEq, Prod.mk.injEq] at h; exact absurd h.1.symm hc
    · split at h
      · exact ⟨h0, by assumption, by omega⟩
      · cases h
  · simp only [Option.some.injEq, Prod.mk.injEq] at h; exact absurd h.1.symm hc
/-- Where the reading of parameters stands. -/
structure PSt (w : World) (g L R0 : Nat) (nm vl : ByteArray) (l : List S83) (s1 : ByteArray) (a fl : Int) (v : Value) (wr : World) : Prop where
  st : IsS121 w wr g s1 a fl
  bel : Below w.heap.size w wr
  res : wr.heap[R0]? = some (.cells #[.string ⟨#[]⟩, .slice none 0 0, .string ⟨#[]⟩] 46 (0, 0))
  loc : wr.heap[L]? = some (.cells #[.string nm, v, .string vl] 46 (0, 0))
  row : Kd.S k83 83 wr w.heap.size (fun _ => True) v l
  hL : w.heap.size ≤ L
  hR : w.heap.size ≤ R0
  ne : L ≠ g ∧ R0 ≠ g ∧ R0 ≠ L
theorem typesB : ∀ q, q ∈ 83 :: k83.E → q ≠ 121 := by decide
theorem typesL : ∀ q, q ∈ 83 :: k83.E → q ≠ 46 := by decide
theorem PSt.set_at {w : World} {g L R0 : Nat} {nm vl : ByteArray} {l : List S83} {s1 : ByteArray} {a fl : Int} {v : Value} {wr : World} (h : PSt w g L R0 nm vl l s1 a fl v wr) (b : Int) : PSt w g L R0 nm vl l s1 b fl v (wr.setCell ⟨g, 1, none⟩ (.int .i64 b)) :=
  ⟨h.st.set_1 b, below_set h.bel h.st.ge, by rw [Below.heap_setCell _ _ _ _ (by show R0 ≠ g; exact h.ne.2.1)]; exact h.res, by rw [Below.heap_setCell _ _ _ _ (by show L ≠ g; exact h.ne.1)]; exact h.loc, Kd.S_set h.row h.st.1 typesB 1 _, h.hL, h.hR, h.ne⟩
theorem PSt.drewN {w : World} {g L R0 : Nat} {nm vl : ByteArray} {l : List S83} {s1 : ByteArray} {a fl : Int} {v : Value} {wr : World} (h : PSt w g L R0 nm vl l s1 a fl v wr) (m : Nat) : PSt w g L R0 nm vl l s1 a fl v (wr.drewN m) :=
  ⟨h.st.drewN m, pw_below_drewN h.bel m, h.res, h.loc, Kd.S_drewN h.row m, h.hL, h.hR, h.ne⟩
theorem PSt.keep {w : World} {g L R0 : Nat} {nm vl : ByteArray} {l : List S83} {s1 s2 : ByteArray} {a fl a2 fl2 : Int} {v : Value} {wr w2 : World} (h : PSt w g L R0 nm vl l s1 a fl v wr) (hI : IsS121 w w2 g s2 a2 fl2) (hB : Below w.heap.size w w2) (hK : KeepBut wr w2 g none) : PSt w g L R0 nm vl l s2 a2 fl2 v w2 :=
  ⟨hI, hB, keepBlk hK h.res h.ne.2.1, keepBlk hK h.loc h.ne.1, Kd.S_mono (Kd.S_keep (Kd.S_types h.row h.st.1 typesB) hK (fun _ hk => hk.2)) (fun _ _ => trivial), h.hL, h.hR, h.ne⟩
theorem PSt.foot {w : World} {g L R0 : Nat} {nm vl : ByteArray} {l : List S83} {s1 : ByteArray} {a fl : Int} {A : Option Addr} {c : Nat} {wr : World} (h : PSt w g L R0 nm vl l s1 a fl (.slice A l.length c) wr) : ∀ W', KeepBut wr W' g none → Kd.C k83 W' A l.length l :=
  Kd.C_foot_own (Kd.S_R (Kd.S_types h.row h.st.1 typesB)) (fun _ hk => hk.2)
theorem PSt.app {w : World} {g L R0 : Nat} {nm vl : ByteArray} {l : List S83} {s1 : ByteArray} {a fl : Int} {v : Value} {W w5 : World} (h : PSt w g L R0 nm vl l s1 a fl v W) (hK : KeepBut W w5 g none) {v1 : Value} {r1 : ByteArray} {r2 : List ByteArray} (hR : Kd.R Kd.string 9 w5 W.heap.size (fun _ => True) v1 r2) :
    k83.M w5 w.heap.size (fun k => W.heap.size ≤ k) ⟨r1, r2⟩ [.string r1, v1] ∧ (∀ k, W.heap.size ≤ k → True ∧ some k ≠ v.ownBlock) ∧ Kd.S k83 83 w5 w.heap.size (fun k => True ∧ ¬ W.heap.size ≤ k) v l := by
  refine ⟨?_, fun k hk => ⟨trivial, fun e => ?_⟩, ?_⟩
  · exact k83_mkM w5 w.heap.size _ ⟨r1, r2⟩ (Kd.R_lower (Kd.R_mono (Kd.R_bound hR) (fun k hk => hk.2.1)) h.bel.size)
  · have := Kd.S_lt h.row k e.symm; omega
  · have h1 : Kd.S k83 83 W w.heap.size (fun k => True ∧ ¬ W.heap.size ≤ k) v l := Kd.S_mono (Kd.S_bound h.row) (fun k hk => ⟨trivial, by have := hk.2.2.1; omega⟩)
    exact Kd.S_mono (Kd.S_keep (Kd.S_types h1 h.st.1 typesB) hK (fun _ hk => hk.2)) (fun _ hk => hk.1)
theorem PSt.appd {w : World} {g L R0 : Nat} {nm vl : ByteArray} {l : List S83} {s1 : ByteArray} {a fl : Int} {v v2 : Value} {w5 w6 : World} {p : S83} (h : PSt w g L R0 nm vl l s1 a fl v w5) (hS : Kd.S k83 83 w6 w.heap.size (fun _ => True) v2 (l ++ [p])) (hB : Below w.heap.size w w6) (hg : w5.grownBy w6 v.ownBlock) :
    PSt w g L R0 nm vl (l ++ [p]) s1 a fl v2 (w6.setCell ⟨L, 1, none⟩ v2) := by
  have hne := Kd.S_ne h.row h.st.1 (by decide : 83 ≠ 121)
  have hnL := Kd.S_ne h.row h.loc (by decide : 83 ≠ 46)
  have hnR := Kd.S_ne h.row h.res (by decide : 83 ≠ 46)
  have hL6 : w6.heap[L]? = some (.cells #[.string nm, v, .string vl] 46 (0, 0)) := (hg.block L (Array.getElem?_eq_some_iff.1 h.loc).1 hnL).trans h.loc
  have hR6 : w6.heap[R0]? = some (.cells #[.string ⟨#[]⟩, .slice none 0 0, .string ⟨#[]⟩] 46 (0, 0)) := (hg.block R0 (Array.getElem?_eq_some_iff.1 h.res).1 hnR).trans h.res
  refine ⟨(h.st.grown hg hne).far (Ne.symm h.ne.1) _, hB.setCell (p := ⟨L, 1, none⟩) h.hL _, ?_, ?_, Kd.S_set hS hL6 typesL 1 _, h.hL, h.hR, h.ne⟩
  · rw [Below.heap_setCell _ _ _ _ (by show R0 ≠ L; exact h.ne.2.2)]; exact hR6
  · have : (w6.setCell ⟨L, 1, none⟩ v2).heap[L]? = some (.cells (#[.string nm, v, .string vl].setIfInBounds 1 v2) 46 (0, 0)) := by
      simp [World.setCell, Array.getElem?_modify, hL6]
    rw [this]; rfl
theorem PSt.below {w : World} {g L R0 : Nat} {nm vl : ByteArray} {l : List S83} {s1 : ByteArray} {a fl : Int} {v : Value} {wr w2 : World} (h : PSt w g L R0 nm vl l s1 a fl v wr) (hb : Below wr.heap.size wr w2) : PSt w g L R0 nm vl l s1 a fl v w2 :=
  h.keep (h.st.below hb) (h.bel.trans (hb.mono h.bel.size)) (KeepBut.of_below hb g none)
theorem PSt.setVal {w : World} {g L R0 : Nat} {nm vl : ByteArray} {l : List S83} {s1 : ByteArray} {a fl : Int} {v : Value} {wr : World} (h : PSt w g L R0 nm vl l s1 a fl v wr) (u : ByteArray) : PSt w g L R0 nm u l s1 a fl v (wr.setCell ⟨L, 2, none⟩ (.string u)) := by
  refine ⟨h.st.far (Ne.symm h.ne.1) _, h.bel.setCell (p := ⟨L, 2, none⟩) h.hL _, ?_, ?_, Kd.S_set h.row h.loc typesL 2 _, h.hL, h.hR, h.ne⟩
  · rw [Below.heap_setCell _ _ _ _ (by show R0 ≠ L; exact h.ne.2.2)]; exact h.res
  · have : (wr.setCell ⟨L, 2, none⟩ (.string u)).heap[L]? = some (.cells (#[.string nm, v, .string vl].setIfInBounds 2 (.string u)) 46 (0, 0)) := by
      simp [World.setCell, Array.getElem?_modify, h.loc]
    rw [this]; rfl
set_option maxHeartbeats 8000000 in
set_option maxRecDepth 100000 in
theorem parse_walk (k : Nat) (s : ByteArray) (w : World) (hs : ¬ s.size > 2000) (hG : GG w) (hv : utf8_ValidString.f s = some true) (nm s1 : ByteArray) (a1 fl1 : Int) (hn : line_reader_name.f s 0 0 = some (nm, s1, a1, fl1))
    (q : List S83 × ByteArray × Int × Int) (hq : line_Parse.l0 k s1 a1 fl1 [] = some q) (r : LineR) (hr : line_Parse.g k s nm q.1 q.2.1 q.2.2.1 q.2.2.2 = some r) :
    Calls Tryd.prog 57 #[.string s] w (ParseP w r) := by
  have d1 : decide ((s.size : Int) > 2000) = false := decide_eq_false (by omega)
  have HV := Aside0.mk hv
  have HN := Aside0.mk hn
  have HQ := Aside0.mk hq
  have HRR := Aside0.mk hr
  have HGG := Aside0.mk hG
  have hnot : ∀ (x : Bool) (w : World), (Op.unary .not (.bool x)).run Tryd.prog w = .ok (.bool (!x)) w := fun _ _ => rfl
  clear hv hn hq hr hG
  go_enter Tryd.func57, Tryd.ntmps57
  go_wp2_with fail
  go_at_call 55
  refine (utf8_ValidString.calls s true _ (HGG.out.alloc _) HV.out).mono ?_
  rintro e w2 ⟨rfl, hB⟩
  have HB := Aside0.mk (((below_alloc (Below.refl w.heap.size w) _).trans (hB.mono (by simp))))
  have hblk := (hB.block w.heap.size (by simp)).trans (heap_alloc_new w _)
  obtain ⟨R0, hR0⟩ : ∃ R0, R0 = w.heap.size := ⟨_, rfl⟩
  rw [← hR0] at hblk ⊢
  have HR0 := Aside0.mk hR0
  have HRB := Aside0.mk hblk
  have hlt2 : R0 < w2.heap.size := (Array.getElem?_eq_some_iff.1 hblk).1
  clear hB hblk hR0
  go_wp2_with fail
  go_at_call 75
  obtain ⟨g, hg⟩ : ∃ g, g = w2.heap.size := ⟨_, rfl⟩
  have hI0 := IsS121.new w w2 s 0 0 HB.out
  have hB0 := HB.out.alloc HB.out.size (.cells #[.string s, .int .i64 0, .int .i64 0] 121)
  have hRB0 := blkA HRB.out (.cells #[.string s, .int .i64 0, .int .i64 0] 121)
  rw [← hg] at hI0 ⊢
  have HGs := Aside0.mk hg
  refine (line_reader_name.calls g s 0 0 nm s1 a1 fl1 w _ HGG.out hI0 hB0 HN.out).mono ?_
  rintro e w3 ⟨rfl, hI3, hB3, hK3⟩
  have HI3 := Aside0.mk hI3
  have HB3 := Aside0.mk hB3
  have HRB3 := Aside0.mk (keepBlk hK3 hRB0 (by omega))
  have hlt3 : g < w3.heap.size := hI3.lt
  clear hI0 hB0 hRB0 hI3 hB3 hK3 hg
  go_wp2_with fail
  obtain ⟨L, hL⟩ : ∃ L, L = w3.heap.size := ⟨_, rfl⟩
  have HP0 : Aside0 (PSt w g L R0 nm ⟨#[]⟩ [] s1 a1 fl1 (.slice none 0 0) (w3.alloc (.cells #[.string nm, .slice none 0 0, .string ⟨#[]⟩] 46))) := ⟨by
    have hsz := HB3.out.size
    refine ⟨HI3.out.alloc _, HB3.out.alloc hsz _, blkA HRB3.out _, by rw [hL]; exact heap_alloc_new _ _, Kd.S_nil _ _ _ _ _, by omega, by have := HR0.out; omega, by omega, by have := HGs.out; omega, by have := HGs.out; omega⟩⟩
  rw [← hL] at ⊢
  clear hL
  go_loopg [25] k (fun kk v25 wr => ∃ (l : List S83) (s2 : ByteArray) (a fl : Int) (v : Value), Aside0 (PSt w g L R0 nm ⟨#[]⟩ l s2 a fl v wr) ∧ Aside0 (line_Parse.l0 kk s2 a fl l = some q))
  case atStart => exact ⟨[], s1, a1, fl1, _, HP0, HQ⟩
  case round =>
    obtain ⟨l, s2, a, fl, v, HP, HQr⟩ := hrel
    clear HP0 HQ
    have hst := HP.out.st
    cases gk with
    | zero => exact absurd HQr.out (by simp [line_Parse.l0])
    | succ kk =>
    obtain ⟨p, hp, hqr⟩ := Option.bind_eq_some_iff.1 (show (line_reader_peek.f s2 a fl).bind _ = some q from HQr.out)
    have hps := peek_same hp
    obtain ⟨pk, rfl⟩ : ∃ pk, p = (pk, s2, a, fl) := ⟨p.1, hps⟩
    dsimp only at hqr
    clear hps
    have HPK := Aside0.mk hp
    clear hp HQr
    by_cases h59 : pk = 59
    · rw [if_pos h59] at hqr
      subst h59
      by_cases hgd : l.length < 3000000000000 ∧ a < 4611686018427387904
      · rw [if_pos hgd] at hqr
        obtain ⟨x, hx, hqr⟩ := Option.bind_eq_some_iff.1 hqr
        have HX := Aside0.mk hx
        have HQ2 := Aside0.mk hqr
        obtain ⟨hgl, hga⟩ := hgd
        have hgl2 := Aside0.mk hgl
        have ha0 : 0 ≤ a := (peek_in HPK.out (by decide)).2.1
        clear hx hqr hgl hst
        go_wp2_with fail
        go_at_call 76
        refine (line_reader_peek.calls g s2 a fl 59 s2 a fl w _ HGG.out HP.out.st HP.out.bel HPK.out).mono ?_
        rintro e w4 ⟨rfl, hI4, hB4, hK4⟩
        have HP4 := Aside0.mk (HP.out.keep hI4 hB4 hK4)
        have hcz1 := cellS121_1 hI4.1
        have hfz1 := blk_frozen hI4.1 1
        clear hI4 hB4 hK4
        go_wp2_with fail
        have HPW := Aside0.mk (HP4.out.set_at (a + 1))
        obtain ⟨W, hW⟩ : ∃ W, W = w4.setCell ⟨g, 1, none⟩ (.int .i64 (a + 1)) := ⟨_, rfl⟩
        rw [← hW] at HPW ⊢
        clear hW hcz1 hfz1
        obtain ⟨A, c, rfl, hcl, hC⟩ := Kd.S_reads HPW.out.row
        have hLc : W.cell? ⟨L, 1, none⟩ = some (.slice A l.length c) := by rw [pblk_cell HPW.out.loc]; rfl
        have hLl : L < W.heap.size := (Array.getElem?_eq_some_iff.1 HPW.out.loc).1
        have HCL := Aside0.mk hcl
        clear hcl hC
        go_region_law (first | (refine Kd.S_append_step k83 (w0 := w) (W := w5) w.heap.size (by rfl) (.tmp 34) (.tmp 39) 44 83 (.agg #[.string ⟨#[]⟩, .slice none 0 0]) 40 (by rfl) Tryd.underlying44 info83 (by rfl) (by decide) (by decide) (.slice A l.length c) l ⟨x.1, x.2.1⟩ [.string x.1, v1] (fun _ => True) (fun k => W.heap.size ≤ k) (by rfl) (by rfl) HAp.out.1 HAp.out.2.1 (fun _ _ => trivial) HAp.out.2.2 H5.out.bel H5.out.bel.size (by have := hgl2.out; omega) ?_; intro v2 w6 hS6 hB6 hg6 hat6; obtain ⟨A6, c7, rfl, _, _⟩ := Kd.S_reads hS6; have hL6 := (hg6.block L (Array.getElem?_eq_some_iff.1 H5.out.loc).1 (Kd.S_ne H5.out.row H5.out.loc (by decide : 83 ≠ 46))).trans H5.out.loc; have c6 : w6.cell? ⟨L, 1, none⟩ = some (.slice A l.length c) := (pblk_cell hL6 1).trans rfl; have f6 := pblk_froz hL6 1; have H6 := Aside0.mk (H5.out.appd hS6 hB6 hg6); clear hL6 hS6 hB6 hg6 hat6) | (go_simp; go_at_call 77; refine (line_reader_param.calls kk g s2 (a + 1) fl A c l x.1 x.2.1 x.2.2.1 x.2.2.2.1 x.2.2.2.2 w _ HGG.out (HPW.out.drewN _).st (HPW.out.drewN _).bel (HPW.out.drewN _).foot HCL.out HX.out).mono ?_; rintro e w5 ⟨v1, rfl, hR1, hI5, hB5, hK5⟩; have H5 := Aside0.mk ((HPW.out.drewN _).keep hI5 hB5 hK5); have HAp := Aside0.mk (HPW.out.app (r1 := x.1) hK5 hR1); clear hI5 hB5 hK5 hR1; have c5 : w5.cell? ⟨L, 1, none⟩ = some (.slice A l.length c) := (pblk_cell H5.out.loc 1).trans rfl; have hl5 : L < w5.heap.size := (Array.getElem?_eq_some_iff.1 H5.out.loc).1))
        all_goals
          go_wp2_with fail
          go_roundg kk
          case measure => omega
          case rel => exact ⟨l ++ [⟨x.1, x.2.1⟩], _, _, _, .slice A6 (l.length + 1) c7, ⟨by have h := H6.out; rw [List.length_append] at h; exact h⟩, HQ2⟩
      · rw [if_neg hgd] at hqr; cases hqr
    · rw [if_neg h59] at hqr
      obtain rfl := Option.some.inj hqr
      have h59b : (pk == 59) = false := beq_eq_false_iff_ne.2 h59
      clear hqr h59 hst
      go_wp2_with fail
      go_at_call 76
      refine (line_reader_peek.calls g s2 a fl pk s2 a fl w _ HGG.out HP.out.st HP.out.bel HPK.out).mono ?_
      rintro e w4 ⟨rfl, hI4, hB4, hK4⟩
      have HP4 := Aside0.mk (HP.out.keep hI4 hB4 hK4)
      have hcz1 := cellS121_1 hI4.1
      have hcz2 := cellS121_2 hI4.1
      have hfz1 := blk_frozen hI4.1 1
      clear hI4 hB4 hK4
      have hrr := HRR.out
      unfold line_Parse.g at hrr
      by_cases hf : fl = 0
      · subst hf
        rw [if_pos rfl] at hrr
        obtain ⟨p, hp, hrr⟩ := Option.bind_eq_some_iff.1 hrr
        obtain rfl : p = (pk, s2, a, 0) := Option.some.inj (hp.symm.trans HPK.out)
        clear hp
        dsimp only at hrr
        by_cases h58 : pk = 58
        · rw [if_pos h58] at hrr
          subst h58
          by_cases hgd : 0 ≤ a ∧ a < (s.size : Int)
          · rw [if_pos hgd] at hrr
            obtain ⟨z, hz, hrr⟩ := Option.bind_eq_some_iff.1 hrr
            obtain ⟨b, rfl⟩ : ∃ b : Nat, a = (b : Int) := ⟨a.toNat, by omega⟩
            rw [Int.toNat_natCast] at hz hrr
            have hbs : b < s.size := by omega
            have HZ := Aside0.mk hz
            have HRZ := Aside0.mk hrr
            have hs2 : s.size ≤ 2000 := by omega
            have hLc := pblk_cell HP4.out.loc 2
            clear hz hrr hgd
            go_wp2_with (go_at_call 76; refine (line_reader_peek.calls g s2 b 0 58 s2 b 0 w _ HGG.out HP4.out.st HP4.out.bel HPK.out).mono ?_; rintro e w5 ⟨rfl, hI5, hB5, hK5⟩; have HP5 := Aside0.mk (HP4.out.keep hI5 hB5 hK5); have k1 := cellS121_1 hI5.1; have k2 := cellS121_2 hI5.1; have kf := blk_frozen hI5.1 1; have l2 := pblk_cell HP5.out.loc 2; have lf := pblk_froz HP5.out.loc 2; have hLg := HP5.out.ne.1; clear hI5 hB5 hK5)
            have HP7 := Aside0.mk ((HP5.out.set_at ((b : Int) + 1)).setVal (s.extract (b + 1) s.size))
            obtain ⟨W7, hW7⟩ : ∃ W7, W7 = (w5.setCell ⟨g, 1, none⟩ (.int .i64 ((b : Int) + 1))).setCell ⟨L, 2, none⟩ (.string (s.extract (b + 1) s.size)) := ⟨_, rfl⟩
            rw [← hW7] at HP7 ⊢
            clear hW7 k1 k2 kf l2 lf
            go_at_call 40
            refine (escape_Clean.calls k _ false z W7 (HGG.out.below HP7.out.bel) HZ.out).mono ?_
            rintro e w8 ⟨rfl, hB8⟩
            have HP8 := Aside0.mk (HP7.out.below hB8)
            clear hB8
            have k1 := cellS121_1 HP8.out.st.1
            have k2 := cellS121_2 HP8.out.st.1
            have l0 := pblk_cell HP8.out.loc 0
            have l1 := pblk_cell HP8.out.loc 1
            have l2 := pblk_cell HP8.out.loc 2
            by_cases hz0 : z = 0
            · subst hz0
              rw [if_pos rfl] at HRZ
              obtain rfl := Option.some.inj HRZ.out
              obtain ⟨A, c, rfl, hcl, hC⟩ := Kd.S_reads HP8.out.row
              have r0 := pblk_cell HP8.out.res 0
              have r1 := pblk_cell HP8.out.res 1
              have r2 := pblk_cell HP8.out.res 2
              have z0 := pblk_froz HP8.out.res 0
              have z1 := pblk_froz HP8.out.res 1
              have z2 := pblk_froz HP8.out.res 2
              clear hcl hC
              go_wp2_with fail
              refine bodyPost_ret (v := .tuple #[.agg #[.string nm, .slice A l.length c, .string (s.extract (b + 1) s.size)], .int .i64 0, .int .i64 0]) (by simp [results, Tryd.results57, go_sem, r0, r1, r2]) rfl ⟨_, rfl, ?_, ?_⟩
              · have hrow := Kd.S_types HP8.out.row HP8.out.res typesL
                refine Kd.S_mono (ok := fun k => True ∧ k ≠ R0) ?_ (fun _ _ => trivial)
                repeat (first | exact hrow | refine Kd.S_far ?_ (fun _ hk => hk.2) _)
              · repeat (first | exact HP8.out.bel | refine Below.setCell ?_ (by exact HP8.out.hR) _)
            · rw [if_neg hz0] at HRZ
              obtain rfl := Option.some.inj HRZ.out
              have hz1 : (z != 0) = true := bne_iff_ne.2 hz0
              clear hz0
              go_wp2_with (go_at_call 78; refine (line_reader_wrong.calls g s2 (b + 1) 0 7 (b + 1) s2 (b + 1) 7 w _ HGG.out HP8.out.st HP8.out.bel rfl).mono ?_; rintro e w6 ⟨rfl, hI6, hB6, hK6⟩; have HPF := Aside0.mk (HP8.out.keep hI6 hB6 hK6); have m2 := cellS121_2 hI6.1; clear hI6 hB6 hK6)
              have fc1 := cellS121_1 HPF.out.st.1
              have fc2 := cellS121_2 HPF.out.st.1
              have r0 := pblk_cell HPF.out.res 0
              have r1 := pblk_cell HPF.out.res 1
              have r2 := pblk_cell HPF.out.res 2
              have z0 := pblk_froz HPF.out.res 0
              have z1 := pblk_froz HPF.out.res 1
              have z2 := pblk_froz HPF.out.res 2
              have hgl := HPF.out.st.lt
              have nRg := HPF.out.ne.2.1
              go_wp2_with fail
              go_region
              all_goals
                go_wp2_with fail
                refine bodyPost_ret (v := .tuple #[.agg #[.string ⟨#[]⟩, .slice none 0 0, .string ⟨#[]⟩], .int .i64 ((b : Int) + 1), .int .i64 (7)]) (by simp [results, Tryd.results57, go_sem, r0, r1, r2]) rfl ⟨.slice none 0 0, rfl, Kd.S_nil _ _ _ _ _, ?_⟩
                repeat (first | exact HPF.out.bel | exact below_drew HPF.out.bel | refine below_drew ?_ | refine Below.setCell ?_ (by exact HPF.out.hR) _)
          · rw [if_neg hgd] at hrr; cases hrr
        · rw [if_neg h58] at hrr
          obtain rfl := Option.some.inj hrr
          have h58b : (pk != 58) = true := bne_iff_ne.2 h58
          clear hrr h58
          go_wp2_with (first
            | (go_at_call 76; refine (line_reader_peek.calls g s2 a 0 pk s2 a 0 w _ HGG.out HP4.out.st HP4.out.bel HPK.out).mono ?_; rintro e w5 ⟨rfl, hI5, hB5, hK5⟩; have HP5 := Aside0.mk (HP4.out.keep hI5 hB5 hK5); have k1 := cellS121_1 hI5.1; have k2 := cellS121_2 hI5.1; clear hI5 hB5 hK5)
            | (go_at_call 78; refine (line_reader_wrong.calls g s2 a 0 5 a s2 a 5 w _ HGG.out HP5.out.st HP5.out.bel rfl).mono ?_; rintro e w6 ⟨rfl, hI6, hB6, hK6⟩; have HPF := Aside0.mk (HP5.out.keep hI6 hB6 hK6); have m2 := cellS121_2 hI6.1; clear hI6 hB6 hK6))
          have fc1 := cellS121_1 HPF.out.st.1
          have fc2 := cellS121_2 HPF.out.st.1
          have r0 := pblk_cell HPF.out.res 0
          have r1 := pblk_cell HPF.out.res 1
          have r2 := pblk_cell HPF.out.res 2
          have z0 := pblk_froz HPF.out.res 0
          have z1 := pblk_froz HPF.out.res 1
          have z2 := pblk_froz HPF.out.res 2
          have hgl := HPF.out.st.lt
          have nRg := HPF.out.ne.2.1
          go_wp2_with fail
          go_region
          all_goals
            go_wp2_with fail
            refine bodyPost_ret (v := .tuple #[.agg #[.string ⟨#[]⟩, .slice none 0 0, .string ⟨#[]⟩], .int .i64 (a), .int .i64 (5)]) (by simp [results, Tryd.results57, go_sem, r0, r1, r2]) rfl ⟨.slice none 0 0, rfl, Kd.S_nil _ _ _ _ _, ?_⟩
            repeat (first | exact HPF.out.bel | exact below_drew HPF.out.bel | refine below_drew ?_ | refine Below.setCell ?_ (by exact HPF.out.hR) _)
      · obtain rfl := Option.some.inj (show some (noLine a fl) = some r by rw [if_neg hf] at hrr; exact hrr)
        have hf1 : (fl == 0) = false := beq_eq_false_iff_ne.2 hf
        have hf2 : (fl != 0) = true := bne_iff_ne.2 hf
        have HPF := HP4
        clear hrr hf
        have fc1 := cellS121_1 HPF.out.st.1
        have fc2 := cellS121_2 HPF.out.st.1
        have r0 := pblk_cell HPF.out.res 0
        have r1 := pblk_cell HPF.out.res 1
        have r2 := pblk_cell HPF.out.res 2
        have z0 := pblk_froz HPF.out.res 0
        have z1 := pblk_froz HPF.out.res 1
        have z2 := pblk_froz HPF.out.res 2
        have hgl := HPF.out.st.lt
        have nRg := HPF.out.ne.2.1
        go_wp2_with fail
        go_region
        all_goals
          go_wp2_with fail
          refine bodyPost_ret (v := .tuple #[.agg #[.string ⟨#[]⟩, .slice none 0 0, .string ⟨#[]⟩], .int .i64 (a), .int .i64 (fl)]) (by simp [results, Tryd.results57, go_sem, r0, r1, r2]) rfl ⟨.slice none 0 0, rfl, Kd.S_nil _ _ _ _ _, ?_⟩
          repeat (first | exact HPF.out.bel | exact below_drew HPF.out.bel | refine below_drew ?_ | refine Below.setCell ?_ (by exact HPF.out.hR) _)
theorem line_Parse.calls (k : Nat) (a0 : ByteArray) (r1 : ByteArray) (r2 : List S83) (r3 : ByteArray) (r4 : Int) (r5 : Int) (w : World) (hG : GG w) (h : line_Parse.f k a0 = some (r1, r2, r3, r4, r5)) :
    Calls Tryd.prog 57 #[.string a0] w fun e w' => ∃ v1_ : Value, e = .returned (.tuple #[.agg #[.string r1, v1_, .string r3], .int .i64 r4, .int .i64 r5]) ∧ Kd.S k83 83 w' w.heap.size (fun _ => True) v1_ r2 ∧ Below w.heap.size w w' := by
  unfold line_Parse.f at h
  by_cases hs : a0.size > 2000
  · rw [if_pos hs] at h
    have e := Option.some.inj h
    have hp := parse_long a0 w hs
    rw [e] at hp
    exact hp
  · rw [if_neg hs] at h
    obtain ⟨ok, hok, h⟩ := Option.bind_eq_some_iff.1 h
    cases ok with
    | false =>
      have e := Option.some.inj (show some (noLine 0 3) = some (r1, r2, r3, r4, r5) from h)
      have hp := parse_bad a0 w hs hG hok
      rw [e] at hp
      exact hp
    | true =>
      rw [if_pos rfl] at h
      obtain ⟨n, hn, h⟩ := Option.bind_eq_some_iff.1 h
      obtain ⟨q, hq, h⟩ := Option.bind_eq_some_iff.1 h
      exact parse_walk k a0 w hs hG hok n.1 n.2.1 n.2.2.1 n.2.2.2 hn q hq _ h
theorem line_Parse.mono_l : ∀ k s a fl l, LeO (line_Parse.l0 k s a fl l) (line_Parse.l0 (k + 1) s a fl l)
  | 0, _, _, _, _ => fun r h => by simp [line_Parse.l0] at h
  | k + 1, s, a, fl, l => by
    unfold line_Parse.l0
    refine LeO.bind (LeO.refl _) (fun p => ?_)
    refine LeO.ite ?_ (LeO.refl _)
    refine LeO.ite ?_ (LeO.refl _)
    exact LeO.bind (line_reader_param.mono _ _ _ _ _) (fun _ => line_Parse.mono_l k _ _ _ _)
theorem line_Parse.mono : ∀ a0 k, LeO (line_Parse.f k a0) (line_Parse.f (k + 1) a0) := by
  intro a0 k
  unfold line_Parse.f
  refine LeO.ite (LeO.refl _) ?_
  refine LeO.bind (LeO.refl _) (fun ok => ?_)
  refine LeO.ite ?_ (LeO.refl _)
  refine LeO.bind (LeO.refl _) (fun n => ?_)
  refine LeO.bind (line_Parse.mono_l _ _ _ _ _) (fun q => ?_)
  unfold line_Parse.g
  refine LeO.ite ?_ (LeO.refl _)
  refine LeO.bind (LeO.refl _) (fun p => ?_)
  refine LeO.ite ?_ (LeO.refl _)
  refine LeO.ite ?_ (LeO.refl _)
  exact LeO.bind (escape_Clean.mono _ _ _) (fun _ => LeO.refl _)
end Go.Proofs.YtknmbalhbecdhaaDoor.Print

/- escape.items: what it reads; the walk over a strings.Builder and a list of the call's own. -/
import Derived.Test.YtknmbalhbecdhaaDoorPrint1
import Derived.Test.YtknmbalhbecdhaaDoorPrint5
import Derived.Test.YtknmbalhbecdhaaDoorBld
import Derived.Lib.Hide
set_option linter.unusedVariables false
set_option linter.unusedSimpArgs false
namespace Go.Proofs.YtknmbalhbecdhaaDoor.Bld
open Go.RowKit Go.Proofs.YtknmbalhbecdhaaDoorW.PrintWords Go.Proofs.YtknmbalhbecdhaaDoorW.PrintLast Go.Proofs.YtknmbalhbecdhaaDoorW.PrintMore
/-- A list of texts of the call's own stays while a builder is written. -/
theorem R_others {w w' : World} {base B b : Nat} {ok : Nat → Prop} {v : Value} {xs : List ByteArray} {l : List UInt8} (h : Kd.R Kd.string 9 w base ok v xs) (hb : Has B b l w) (hk : Lib.OthersKept 5 (some b) w w') : Kd.R Kd.string 9 w' base ok v xs := by
  have hbc : ∃ cs, w.heap[b]? = some (.cells cs 61 (0, 0)) := by
    rcases hb.out with ⟨_, v, h2, _⟩ | ⟨_, v, h2, _⟩
    · exact ⟨_, h2⟩
    · exact ⟨_, h2⟩
  obtain ⟨cs, hbc⟩ := hbc
  refine Kd.R_mono (Kd.R_move (Kd.R_bound h) (fun k hk' => ?_)) (fun _ hk => hk.1)
  obtain ⟨_, _, hlt, q, hq, cells, hc⟩ := hk'
  have hq9 : q = 9 := by
    simp only [List.mem_cons] at hq
    rcases hq with rfl | hq
    · rfl
    · cases hq
  subst hq9
  rw [hc]
  refine hk k _ hc (fun e => ?_) (fun c fz e => ?_)
  · have e1 : k = b := by simpa using e
    rw [e1, hbc] at hc
    injection hc with hc
    injection hc with _ ht
    exact absurd ht (by decide)
  · injection e with _ ht
    exact absurd ht (by decide)
/-- A builder stays while another row, of texts, is appended to. -/
theorem Has.grown {B b : Nat} {l : List UInt8} {w w1 : World} {row : Option Nat} (h : Has B b l w) (hg : w.grownBy w1 row) (ht : ∀ k, row = some k → ∃ cs fz, w.heap[k]? = some (.cells cs 9 fz)) : Has B b l w1 := by
  have key : ∀ p, Lib.BuilderAtF 61 5 B b p (Lib.byteCells l) w → Lib.BuilderAtF 61 5 B b p (Lib.byteCells l) w1 := by
    rintro p ⟨h1, v, h2, h3, h4⟩
    refine ⟨h1, v, (hg.block b (Array.getElem?_eq_some_iff.1 h2).1 (fun e => ?_)).trans h2, h3.kept hg ?_, h4⟩
    · obtain ⟨cs, fz, hc⟩ := ht b e.symm
      rw [h2] at hc
      injection hc with hc
      injection hc with _ ht
      exact absurd ht (by decide)
    · cases hv : v.ownBlock with
      | none => exact .inl rfl
      | some g =>
        refine .inr (fun e => ?_)
        obtain ⟨cs, fz, hc⟩ := ht g e.symm
        obtain ⟨c, fz', hg'⟩ := Lib.ownsRowF_kind h3 g hv
        rw [hg'] at hc
        injection hc with hc
        injection hc with _ ht
        exact absurd ht (by decide)
  rcases h.out with h | h
  · exact ⟨.inl (key _ h)⟩
  · exact ⟨.inr (key _ h)⟩
end Go.Proofs.YtknmbalhbecdhaaDoor.Bld
namespace Go.Proofs.YtknmbalhbecdhaaDoor.Print
open Go.RowKit Go.Proofs.YtknmbalhbecdhaaDoorW.PrintWords Go.Proofs.YtknmbalhbecdhaaDoorW.PrintLast Go.Proofs.YtknmbalhbecdhaaDoorW.PrintMore
theorem infoStr_ : (Tryd.prog.info? 9).map (fun i => (i.zero, i.size, i.bytes)) = some (some (.string ⟨#[]⟩), 1, 16) := by kernel_rfl

theorem drop_one' (s : ByteArray) (k : Nat) (h : k < s.size) : s.data.toList.drop k = s[k] :: s.data.toList.drop (k + 1) := by
  rw [List.drop_eq_getElem_cons (by simpa using h)]; rfl
theorem u8_ne' (x : UInt8) (n : Nat) (hn : n < 256) (h : x ≠ n.toUInt8) : ((x.toNat : Int) == (n : Int)) = false :=
  beq_eq_false_iff_ne.2 (fun e => h (by apply UInt8.toNat_inj.1; have : x.toNat = n := by omega
                                        rw [this]; simp; omega))
/-- What stands behind a backslash. -/
def signL (d : UInt8) : Option UInt8 := if d = 110 ∨ d = 78 then some 10 else if d = 92 ∨ d = 59 ∨ d = 44 then some d else none
/-- Texts with commas between, of which the one that is begun reads cur. -/
def itemsGo : List UInt8 → List UInt8 → Option (List (List UInt8))
  | [], cur => some [cur]
  | [c], cur => if c = 44 then some [cur, []] else if c = 59 then none else if c = 92 then none else some [cur ++ [c]]
  | c :: d :: t, cur => if c = 44 then (itemsGo (d :: t) []).map (cur :: ·) else if c = 59 then none else if c = 92 then (match signL d with | none => none | some x => itemsGo t (cur ++ [x])) else itemsGo (d :: t) (cur ++ [c])
theorem go_comma (t cur : List UInt8) : itemsGo (44 :: t) cur = (itemsGo t []).map (cur :: ·) := by
  cases t with
  | nil => rfl
  | cons d t => simp [itemsGo]
theorem go_semi (t cur : List UInt8) : itemsGo (59 :: t) cur = none := by
  cases t with
  | nil => rfl
  | cons d t => simp [itemsGo]
theorem go_plain (c : UInt8) (t cur : List UInt8) (h1 : c ≠ 44) (h2 : c ≠ 59) (h3 : c ≠ 92) : itemsGo (c :: t) cur = itemsGo t (cur ++ [c]) := by
  cases t with
  | nil => simp only [itemsGo]; rw [if_neg h1, if_neg h2, if_neg h3]
  | cons d t => simp only [itemsGo]; rw [if_neg h1, if_neg h2, if_neg h3]
theorem go_back (d : UInt8) (t cur : List UInt8) : itemsGo (92 :: d :: t) cur = match signL d with | none => none | some x => itemsGo t (cur ++ [x]) := by
  simp [itemsGo]
def strs (l : List (List UInt8)) : List ByteArray := l.map fun x => ⟨x.toArray⟩
def itemsR (a0 : ByteArray) : List ByteArray × Int := match itemsGo a0.data.toList [] with | none => ([], 7) | some L => (strs L, 0)
def escape_items.f (k : Nat) (a0 : ByteArray) : Option (List ByteArray × Int) := (escape_Clean.f k a0 false).bind fun e => if e = 0 then (if a0.size ≤ 4294967296 then some (itemsR a0) else none) else some ([], e)
theorem escape_items.mono : ∀ a0 k, LeO (escape_items.f k a0) (escape_items.f (k + 1) a0) := by
  intro a0 k
  unfold escape_items.f
  exact LeO.bind (escape_Clean.mono _ _ _) (fun _ => LeO.refl _)
theorem special_idx' (x : UInt8) : Lib.indexByte [92, 59, 44] x = if x = 92 then 0 else if x = 59 then 1 else if x = 44 then 2 else -1 := by
  unfold Lib.indexByte
  by_cases h1 : x = 92
  · subst h1; rfl
  · have e1 : ((92 : UInt8) == x) = false := beq_eq_false_iff_ne.2 (fun h => h1 h.symm)
    rw [e1, if_neg h1]
    unfold Lib.indexByte
    by_cases h2 : x = 59
    · subst h2; rfl
    · have e2 : ((59 : UInt8) == x) = false := beq_eq_false_iff_ne.2 (fun h => h2 h.symm)
      rw [e2, if_neg h2]
      unfold Lib.indexByte
      by_cases h3 : x = 44
      · subst h3; rfl
      · have e3 : ((44 : UInt8) == x) = false := beq_eq_false_iff_ne.2 (fun h => h3 h.symm)
        rw [e3, if_neg h3]
        unfold Lib.indexByte
        rfl
theorem toNat_eq_iff (d : UInt8) (n : Nat) (hn : n < 256) : ((d.toNat : Int) = (n : Int)) ↔ d = n.toUInt8 := by
  constructor
  · intro h; apply UInt8.toNat_inj.1; have : d.toNat = n := by omega
    rw [this]; simp; omega
  · intro h; subst h; simp; omega
theorem sign_some (d : UInt8) : escape_sign.f 5 d.toNat = some (match signL d with | some x => ((x.toNat : Int), true) | none => (0, false)) := by
  have a1 : ((d.toNat : Int) = 110) ↔ d = 110 := toNat_eq_iff d 110 (by omega)
  have a2 : ((d.toNat : Int) = 78) ↔ d = 78 := toNat_eq_iff d 78 (by omega)
  have hb : ((d.toNat : Int)).toNat.toUInt8 = d := by simp
  have hx := special_idx' d
  have hl : (⟨#[92, 59, 44]⟩ : ByteArray).data.toList = [92, 59, 44] := rfl
  simp only [escape_sign.f, escape_sign.j0, strings_IndexByte.f, hl, hb, hx, Option.bind_some, signL]
  by_cases h1 : d = 110
  · subst h1; rfl
  · rw [if_neg (fun h => h1 (a1.1 h))]
    by_cases h2 : d = 78
    · subst h2; rfl
    · have e2 : ((d.toNat : Int) == 78) = false := beq_eq_false_iff_ne.2 (fun h => h2 (a2.1 h))
      rw [e2, if_neg (show ¬ (d = 110 ∨ d = 78) by simp [h1, h2])]
      by_cases h3 : d = 92
      · subst h3; rfl
      · by_cases h4 : d = 59
        · subst h4; rfl
        · by_cases h5 : d = 44
          · subst h5; rfl
          · rw [if_neg h3, if_neg h4, if_neg h5, if_neg (show ¬ (d = 92 ∨ d = 59 ∨ d = 44) by simp [h3, h4, h5])]
            rfl
set_option maxHeartbeats 400000 in
set_option maxRecDepth 100000 in
theorem items_bad (k : Nat) (s : ByteArray) (z : Int) (hz : z ≠ 0) (w : World) (hG : GG w) (hC : Aside0 (escape_Clean.f k s false = some z)) :
    Calls Tryd.prog 39 #[.string s] w fun e w' => ∃ v0_ : Value, e = .returned (.tuple #[v0_, .int .i64 z]) ∧ Kd.R Kd.string 9 w' w.heap.size (fun _ => True) v0_ [] ∧ Below w.heap.size w w' := by
  have hz1 : (z == 0) = false := beq_eq_false_iff_ne.2 hz
  have hz2 : (z != 0) = true := bne_iff_ne.2 hz
  clear hz
  go_enter Tryd.func39, Tryd.ntmps39
  go_wp2_with (go_at_call 40; refine (escape_Clean.calls k s false z _ hG hC.out).mono ?_; rintro e w1 ⟨rfl, hb1⟩)
  go_ret2
  exact ⟨_, rfl, Kd.R_nil _ _ _ _ _, hb1⟩
set_option maxHeartbeats 4000000 in
set_option maxRecDepth 100000 in
theorem items_ok (k : Nat) (s : ByteArray) (r1 : List ByteArray) (r2 : Int) (w : World) (hG : GG w) (hs : s.size ≤ 4294967296) (hC : Aside0 (escape_Clean.f k s false = some 0)) (hR : itemsR s = (r1, r2)) :
    Calls Tryd.prog 39 #[.string s] w fun e w' => ∃ v0_ : Value, e = .returned (.tuple #[v0_, .int .i64 r2]) ∧ Kd.R Kd.string 9 w' w.heap.size (fun _ => True) v0_ r1 ∧ Below w.heap.size w w' := by
  have HR := Aside0.mk hR
  clear hR
  go_enter Tryd.func39, Tryd.ntmps39
  go_wp2_with (go_at_call 40; refine (escape_Clean.calls k s false 0 _ hG hC.out).mono ?_; rintro e w1 ⟨rfl, hb1⟩)
  have HB1 := Aside0.mk hb1
  have hz1 := hb1.size
  clear hb1
  go_loopg [5, 7] s.size (fun g v5 v7 wr => ∃ (i : Nat) (D : List (List UInt8)) (L : List UInt8), i ≤ s.size ∧ Aside0 (s.size ≤ i + g) ∧ v7 = .int .i64 i ∧ L.length ≤ i ∧ D.length ≤ i ∧ Aside0 (itemsGo s.data.toList [] = (itemsGo (s.data.toList.drop i) L).map (D ++ ·)) ∧ Aside0 (Bld.Has w.heap.size w1.heap.size L wr) ∧ Aside0 (Kd.R Kd.string 9 wr w.heap.size (fun _ => True) v5 (strs D)) ∧ Aside0 (Below w.heap.size w wr))
  case atStart => exact ⟨0, [], [], by omega, ⟨by omega⟩, rfl, by simp, by simp, ⟨by simp⟩, ⟨Bld.Has.new _ _ hz1⟩, ⟨Kd.R_nil _ _ _ _ _⟩, ⟨HB1.out.alloc hz1 _⟩⟩
  case round =>
    obtain ⟨i, D, L, hi, HG, rfl, hL, hD, HE, HH, HO, HB⟩ := hrel
    have hsz := HB.out.size
    by_cases hlt : i < s.size
    case neg =>
      obtain rfl : i = s.size := by omega
      have hd : decide (s.size < s.size) = false := by simp
      go_wp2_with fail
      refine (Bld.str _ _ _ _ HH.out hsz).mono ?_
      rintro e w3 ⟨rfl, h1, h2, h3⟩
      have HO3 := Aside0.mk (Bld.R_others HO.out HH.out h3)
      have HB3 := Aside0.mk (HB.out.trans h2)
      have HE2 : Aside0 (itemsGo s.data.toList [] = some (D ++ [L])) := ⟨by have := HE.out; rw [List.drop_of_length_le (by simp)] at this; simpa [itemsGo] using this⟩
      clear h1 h2 h3 HO HB HE HH
      go_wp2_with ((with_reducible refine gate_builtin (b := .append) (xs := #[.tmp 56, .tmp 58]) rfl ?_); at_builtin; refine Kd.R_append Kd.string (w0 := w) w.heap.size rfl (.tmp 56) (.tmp 58) 22 9 (.string ⟨#[]⟩) 16 rfl Tryd.underlying22 infoStr_ rfl (by decide) (by omega) u5 (strs D) ⟨L.toArray⟩ [.string ⟨L.toArray⟩] (fun _ => True) (fun _ => False) rfl rfl ?aP (fun _ hk => hk.elim) (fun _ _ => trivial) ?aO ?aB ?aS ?aL ?_; (case aP => exact rfl); (case aO => exact HO3.out); (case aB => exact HB3.out); (case aS => exact HB3.out.size); (case aL => have h_ : (strs D).length = D.length := List.length_map ..; omega); intro v1 w4 ho hb hg hat)
      go_ret2
      refine ⟨v1, ?_, ?_, ?_⟩
      · have := HR.out; unfold itemsR at this; rw [HE2.out] at this; simp only [Prod.mk.injEq] at this; rw [← this.2]; rfl
      · have := HR.out; unfold itemsR at this; rw [HE2.out] at this; simp only [Prod.mk.injEq] at this; rw [← this.1]; simpa [strs] using ho
      · exact hb
    cases gk with
    | zero => have := HG.out; omega
    | succ g =>
      have hd : decide (i < s.size) = true := by simp; omega
      have hdr := drop_one' s i hlt
      obtain ⟨x, hx⟩ : ∃ x : UInt8, s[i] = x := ⟨_, rfl⟩
      rw [hx] at hdr
      have hb0 := x.toNat_lt
      have HD := Aside0.mk hdr
      clear hdr
      by_cases hx44 : x = 44
      case pos =>
        have e1 : ((x.toNat : Int) == 44) = true := by subst hx44; rfl
        have HE2 : Aside0 (itemsGo s.data.toList [] = (itemsGo (s.data.toList.drop (i + 1)) []).map ((D ++ [L]) ++ ·)) := ⟨by rw [HE.out, HD.out, hx44, go_comma, Option.map_map]; congr 1; funext z; simp⟩
        clear hx44
        go_wp2_with fail
        refine (Bld.str _ _ _ _ HH.out hsz).mono ?_
        rintro e w3 ⟨rfl, h1, h2, h3⟩
        have HO3 := Aside0.mk (Bld.R_others HO.out HH.out h3)
        have HB3 := Aside0.mk (HB.out.trans h2)
        have HH3 := Aside0.mk h1
        clear h1 h2 h3 HO HB HE HH
        go_wp2_with (first | ((with_reducible refine gate_builtin (b := .append) (xs := #[.tmp 30, .tmp 32]) rfl ?_); at_builtin; refine Kd.R_append Kd.string (w0 := w) w.heap.size rfl (.tmp 30) (.tmp 32) 22 9 (.string ⟨#[]⟩) 16 rfl Tryd.underlying22 infoStr_ rfl (by decide) (by omega) u5 (strs D) ⟨L.toArray⟩ [.string ⟨L.toArray⟩] (fun _ => True) (fun _ => False) rfl rfl ?aP (fun _ hk => hk.elim) (fun _ _ => trivial) ?aO ?aB ?aS ?aL ?_; (case aP => exact rfl); (case aO => exact HO3.out); (case aB => exact HB3.out); (case aS => exact HB3.out.size); (case aL => have h_ : (strs D).length = D.length := List.length_map ..; omega); intro v1 w4 ho hb hg hat; have HH4 := Aside0.mk (HH3.out.grown hg (fun k_ hk_ => (Kd.R_typed HO3.out k_ hk_).elim fun c hc => ⟨c, (0, 0), hc⟩)); have HO4 := Aside0.mk ho; have HB4 := Aside0.mk hb; clear ho hb hg hat HO3 HB3 HH3) | (go_at_call 63; refine (Bld.reset _ _ _ _ HH4.out).mono ?_; rintro e w5 ⟨rfl, k1, k2, k3⟩))
        go_roundg g
        case measure => have := HG.out; omega
        case rel => exact ⟨i + 1, D ++ [L], [], by omega, ⟨by have := HG.out; omega⟩, by go_num, by simp, by simp; omega, HE2, ⟨k1⟩, ⟨by have := Bld.R_others HO4.out HH4.out k3; simpa [strs] using this⟩, ⟨HB4.out.trans k2⟩⟩
      have e1 : ((x.toNat : Int) == 44) = false := u8_ne' x 44 (by omega) hx44
      by_cases hx59 : x = 59
      case pos =>
        have e2 : ((x.toNat : Int) == 59) = true := by subst hx59; rfl
        have HN : Aside0 (itemsGo s.data.toList [] = none) := ⟨by rw [HE.out, HD.out, hx59, go_semi]; rfl⟩
        clear hx44 hx59
        go_wp2
        go_ret2
        refine ⟨_, by have := HR.out; unfold itemsR at this; rw [HN.out] at this; simp only [Prod.mk.injEq] at this; rw [← this.2]; rfl, by have := HR.out; unfold itemsR at this; rw [HN.out] at this; simp only [Prod.mk.injEq] at this; rw [← this.1]; exact Kd.R_nil _ _ _ _ _, HB.out⟩
      have e2 : ((x.toNat : Int) == 59) = false := u8_ne' x 59 (by omega) hx59
      by_cases hx92 : x = 92
      case neg =>
        have e3 : ((x.toNat : Int) == 92) = false := u8_ne' x 92 (by omega) hx92
        have HN : Aside0 (itemsGo s.data.toList [] = (itemsGo (s.data.toList.drop (i + 1)) (L ++ [x])).map (D ++ ·)) := ⟨by rw [HE.out, HD.out, go_plain _ _ _ hx44 hx59 hx92]⟩
        clear hx44 hx59 hx92
        go_wp2_with fail
        refine (Bld.wb _ _ _ _ x rfl _ HH.out (by omega) hsz).mono ?_
        rintro e w4 ⟨rfl, k1, k2, k3⟩
        have HO4 := Aside0.mk (Bld.R_others HO.out HH.out k3)
        go_wp2
        go_roundg g
        case measure => have := HG.out; omega
        case rel => exact ⟨i + 1, D, L ++ [x], by omega, ⟨by have := HG.out; omega⟩, by go_num, by simp; omega, by omega, HN, ⟨k1⟩, HO4, ⟨HB.out.trans k2⟩⟩
      have e3 : ((x.toNat : Int) == 92) = true := by subst hx92; rfl
      by_cases hl2 : i + 1 < s.size
      case neg =>
        have hsi : s.size = i + 1 := by omega
        have hq : ((i : Int) + 1 == (s.size : Int)) = true := by rw [hsi]; simp
        have HN : Aside0 (itemsGo s.data.toList [] = none) := ⟨by rw [HE.out, HD.out, hx92, List.drop_of_length_le (by simp; omega)]; rfl⟩
        clear hx44 hx59 hx92 hsi
        go_wp2
        go_ret2
        refine ⟨_, by have := HR.out; unfold itemsR at this; rw [HN.out] at this; simp only [Prod.mk.injEq] at this; rw [← this.2]; rfl, by have := HR.out; unfold itemsR at this; rw [HN.out] at this; simp only [Prod.mk.injEq] at this; rw [← this.1]; exact Kd.R_nil _ _ _ _ _, HB.out⟩
      have hq : ((i : Int) + 1 == (s.size : Int)) = false := beq_eq_false_iff_ne.2 (by omega)
      have hdr := drop_one' s (i + 1) hl2
      obtain ⟨y, hy⟩ : ∃ y : UInt8, s[i + 1] = y := ⟨_, rfl⟩
      rw [hy] at hdr
      have hb1 := y.toNat_lt
      have HD2 := Aside0.mk hdr
      clear hdr
      have hn : ((i : Int) + 1).toNat = i + 1 := by omega
      have h01 : (0 : Int) ≤ (i : Int) + 1 := by omega
      have hGr := hG.below HB.out
      have HGo : Aside0 (itemsGo s.data.toList [] = (match signL y with | none => none | some x => itemsGo (s.data.toList.drop (i + 2)) (L ++ [x])).map (D ++ ·)) := ⟨by rw [HE.out, HD.out, HD2.out, hx92, go_back]⟩
      have HS := Aside0.mk (sign_some y)
      clear hx44 hx59 hx92
      cases hsg : signL y with
      | none =>
        rw [hsg] at HS HGo
        have HN : Aside0 (itemsGo s.data.toList [] = none) := ⟨by rw [HGo.out]; rfl⟩
        clear hsg
        go_wp2_with (go_at_call 64; (refine (escape_sign.calls 5 _ 0 false _ hGr HS.out).mono ?_); rintro e w' ⟨rfl, ⟨nd, rfl⟩⟩)
        go_ret2
        refine ⟨_, by have := HR.out; unfold itemsR at this; rw [HN.out] at this; simp only [Prod.mk.injEq] at this; rw [← this.2]; rfl, by have := HR.out; unfold itemsR at this; rw [HN.out] at this; simp only [Prod.mk.injEq] at this; rw [← this.1]; exact Kd.R_nil _ _ _ _ _, pw_below_drewN HB.out _⟩
      | some z =>
        rw [hsg] at HS HGo
        clear hsg
        have hb2 := z.toNat_lt
        go_wp2_with (go_at_call 64; (refine (escape_sign.calls 5 _ _ true _ hGr HS.out).mono ?_); rintro e w' ⟨rfl, ⟨nd, rfl⟩⟩)
        refine (Bld.wb _ _ _ _ z rfl _ (HH.out.drewN nd) (by omega) (by have := (pw_below_drewN HB.out nd).size; exact this)).mono ?_
        rintro e w4 ⟨rfl, k1, k2, k3⟩
        have HO4 := Aside0.mk (Bld.R_others (Kd.R_drewN HO.out nd) (HH.out.drewN nd) k3)
        go_wp2
        go_roundg g
        case measure => have := HG.out; omega
        case rel => exact ⟨i + 2, D, L ++ [z], by omega, ⟨by have := HG.out; omega⟩, by go_num, by simp; omega, by omega, HGo, ⟨k1⟩, HO4, ⟨(pw_below_drewN HB.out nd).trans k2⟩⟩
theorem escape_items.calls (k : Nat) (a0 : ByteArray) (r1 : List ByteArray) (r2 : Int) (w : World) (hG : GG w) (h : escape_items.f k a0 = some (r1, r2)) :
    Calls Tryd.prog 39 #[.string a0] w fun e w' => ∃ v0_ : Value, e = .returned (.tuple #[v0_, .int .i64 r2]) ∧ Kd.R Kd.string 9 w' w.heap.size (fun _ => True) v0_ r1 ∧ Below w.heap.size w w' := by
  unfold escape_items.f at h
  obtain ⟨z, hz, h⟩ := Option.bind_eq_some_iff.mp h
  by_cases h0 : z = 0
  · subst h0
    rw [if_pos rfl] at h
    by_cases hs : a0.size ≤ 4294967296
    · rw [if_pos hs] at h
      exact items_ok k a0 r1 r2 w hG hs ⟨hz⟩ (Option.some.inj h)
    · rw [if_neg hs] at h; cases h
  · rw [if_neg h0] at h
    simp only [Option.some.injEq, Prod.mk.injEq] at h
    obtain ⟨rfl, rfl⟩ := h
    exact items_bad k a0 z h0 w hG ⟨hz⟩
end Go.Proofs.YtknmbalhbecdhaaDoor.Print

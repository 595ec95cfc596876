/- Parts of the proof, one behind the other: RR2, RR3, RW1, RG4, RF1, RR1, RR4. -/
import Derived.Test.YtmhgbocejjnoaaaDoorQ2
import Derived.Laws.Cover1
import Derived.Lib.SlTrimSet
import Derived.Laws.BytesArg
import Derived.Deep.RegionWith
/- Walks: the reference of prop: Key, Val, Check. -/
namespace Go.Proofs.YtmhgbocejjnoaaaDoor
open Go.RowKit Go.Redl
set_option linter.unusedVariables false

theorem all_upto {α : Type} {p : α → Bool} {l : List α} (h : Upto (fun c => !p c) l l.length) : l.all p = true := by
  rw [List.all_eq_true]
  intro x hx
  have := h x (by simpa using hx)
  simpa using this
theorem all_not {α : Type} {p : α → Bool} {l : List α} {k : Nat} (hk : k < l.length) (h : p l[k] = false) : l.all p = false := by
  rw [List.all_eq_false]
  exact ⟨l[k], List.getElem_mem hk, by simp [h]⟩

set_option maxRecDepth 100000 in
set_option maxHeartbeats 1000000 in
theorem rkey_c (s : List UInt8) (w : World) (hn : s.length ≤ 1000000000) :
    Calls Tryd.prog 77 #[.string ⟨s.toArray⟩] w fun e w' => e = .returned (.bool (keyB s)) ∧ w = w' := by
  have Hall : Hid (∀ (k : Nat) (x : UInt8), s[k]? = some x → ∀ h, (⟨s.toArray⟩ : ByteArray)[k]'h = x) := by
    show ∀ (k : Nat) (x : UInt8), s[k]? = some x → ∀ h, (⟨s.toArray⟩ : ByteArray)[k]'h = x
    intro k x hx h
    exact Option.some.inj ((List.getElem?_eq_getElem (l := s) h).symm.trans hx)
  have hsz : (⟨s.toArray⟩ : ByteArray).size = s.length := rfl
  generalize (⟨s.toArray⟩ : ByteArray) = S at Hall hsz ⊢
  go_enter Tryd.func77, Tryd.ntmps77
  go_wp2_with fail
  go_loop [6] (fun i => ∃ k : Nat, k ≤ s.length ∧ i = .int .i64 k ∧ Upto (fun c => !lowB c) s k) (fun i => s.length - (intOf i).toNat)
  case atStart => exact ⟨0, Nat.zero_le _, rfl, upto_zero _ s⟩
  case round =>
    obtain ⟨k, hk, rfl, hp⟩ := hrel
    have Hp := Lib.hid hp; clear hp
    by_cases hlt : k < s.length
    · have hg := Hall.out k s[k] (List.getElem?_eq_getElem hlt)
      have hx := s[k].toNat_lt
      have Hn1 : Hid (lowB s[k] = decide (97 ≤ s[k].toNat ∧ s[k].toNat ≤ 122)) := rfl
      have Hno := Lib.hid (fun h => all_not (p := lowB) (l := s) hlt h)
      have Hok := Lib.hid (fun (h : lowB s[k] = true) => upto_succ Hp.out hlt (show (!lowB s[k]) = false by rw [h]; rfl))
      generalize s[k] = x at hg hx Hn1 Hno Hok
      by_cases h1 : x.toNat < 97
      · go_wp2_with fail
        go_ret
        exact ⟨ret_bool (by unfold keyB; rw [Hno.out (by rw [Hn1.out]; simp; omega)]; simp), rfl⟩
      · by_cases h2 : 122 < x.toNat
        · go_wp2_with fail
          go_ret
          exact ⟨ret_bool (by unfold keyB; rw [Hno.out (by rw [Hn1.out]; simp; omega)]; simp), rfl⟩
        · go_wp2_with fail
          go_round
          case rel => exact ⟨k + 1, by omega, by go_num, Hok.out (by rw [Hn1.out]; simp; omega)⟩
          case measure => simp [intOf]; omega
    · obtain rfl : k = s.length := by omega
      have Ha := Lib.hid (all_upto Hp.out)
      have Hk : Hid (keyB s = (decide (1 ≤ s.length ∧ s.length ≤ 16) && s.all lowB)) := rfl
      have Hs := Lib.hid hsz
      by_cases h1 : 1 ≤ s.length
      · have H1 := Lib.hid h1
        by_cases h2 : s.length ≤ 16
        · go_wp2_with fail
          go_ret
          exact ⟨ret_bool (by rw [Hk.out, Ha.out, Bool.and_true]; first | exact decide_eq_decide.2 (by omega) | exact (decide_eq_false (by omega)).symm), rfl⟩
        · go_wp2_with fail
          go_ret
          exact ⟨ret_bool (by rw [Hk.out, Ha.out, Bool.and_true]; first | exact decide_eq_decide.2 (by omega) | exact (decide_eq_false (by omega)).symm), rfl⟩
      · go_wp2_with fail
        go_ret
        exact ⟨ret_bool (by rw [Hk.out, Ha.out, Bool.and_true]; first | exact decide_eq_decide.2 (by omega) | exact (decide_eq_false (by omega)).symm), rfl⟩

set_option maxRecDepth 100000 in
set_option maxHeartbeats 1000000 in
theorem rval_c (s : List UInt8) (w : World) (hn : s.length ≤ 1000000000) :
    Calls Tryd.prog 78 #[.string ⟨s.toArray⟩] w fun e w' => e = .returned (.bool (valB s)) ∧ w = w' := by
  have Hall : Hid (∀ (k : Nat) (x : UInt8), s[k]? = some x → ∀ h, (⟨s.toArray⟩ : ByteArray)[k]'h = x) := by
    show ∀ (k : Nat) (x : UInt8), s[k]? = some x → ∀ h, (⟨s.toArray⟩ : ByteArray)[k]'h = x
    intro k x hx h
    exact Option.some.inj ((List.getElem?_eq_getElem (l := s) h).symm.trans hx)
  have hsz : (⟨s.toArray⟩ : ByteArray).size = s.length := rfl
  generalize (⟨s.toArray⟩ : ByteArray) = S at Hall hsz ⊢
  go_enter Tryd.func78, Tryd.ntmps78
  go_wp2_with fail
  go_loop [7] (fun i => ∃ k : Nat, k ≤ s.length ∧ i = .int .i64 k ∧ Upto (fun c => !valcB c) s k) (fun i => s.length - (intOf i).toNat)
  case atStart => exact ⟨0, Nat.zero_le _, rfl, upto_zero _ s⟩
  case round =>
    obtain ⟨k, hk, rfl, hp⟩ := hrel
    have Hp := Lib.hid hp; clear hp
    by_cases hlt : k < s.length
    · have hg := Hall.out k s[k] (List.getElem?_eq_getElem hlt)
      have hx := s[k].toNat_lt
      have Hn1 : Hid (valcB s[k] = (decide (97 ≤ s[k].toNat ∧ s[k].toNat ≤ 122) || decide (48 ≤ s[k].toNat ∧ s[k].toNat ≤ 57) || s[k] == 45)) := rfl
      have Hno := Lib.hid (fun h => all_not (p := valcB) (l := s) hlt h)
      have Hok := Lib.hid (fun (h : valcB s[k] = true) => upto_succ Hp.out hlt (show (!valcB s[k]) = false by rw [h]; rfl))
      generalize s[k] = x at hg hx Hn1 Hno Hok
      have H45 : Hid ((x == 45) = decide (x.toNat = 45)) := by
        show (x == 45) = decide (x.toNat = 45)
        rw [Bool.eq_iff_iff]; simp [← UInt8.toNat_inj]
      have Hbad : Hid (valcB x = false → valB s = false) := by
        show valcB x = false → valB s = false
        intro h; unfold valB; rw [Hno.out h]; simp
      by_cases hv : valcB x = true
      · have HV := Lib.hid (Hok.out hv)
        rw [Hn1.out, H45.out] at hv
        simp only [Bool.or_eq_true, decide_eq_true_eq] at hv
        rcases hv with (h | h) | h
        · obtain ⟨ha, hb⟩ := h
          go_wp2_with fail
          go_round
          case rel => exact ⟨k + 1, by omega, by go_num, HV.out⟩
          case measure => simp [intOf]; omega
        · obtain ⟨ha, hb⟩ := h
          have hc : x.toNat < 97 := by omega
          go_wp2_with fail
          go_round
          case rel => exact ⟨k + 1, by omega, by go_num, HV.out⟩
          case measure => simp [intOf]; omega
        · have hd : (x.toNat : Int) = 45 := by omega
          clear h hx
          go_wp2_with fail
          go_round
          case rel => exact ⟨k + 1, by omega, by go_num, HV.out⟩
          case measure => simp [intOf]; omega
      · have Hv2 := Lib.hid (Hbad.out (by simpa using hv))
        rw [Hn1.out, H45.out] at hv
        simp only [Bool.or_eq_true, decide_eq_true_eq, not_or] at hv
        obtain ⟨⟨h1, h2⟩, h3⟩ := hv
        have h45 : ((x.toNat : Int) == 45) = false := by simp only [beq_eq_false_iff_ne, ne_eq]; omega
        clear h3
        by_cases ha : 97 ≤ x.toNat
        · have hb : decide ((x.toNat : Int) ≤ 122) = false := decide_eq_false (by omega)
          clear h1
          by_cases hc : 48 ≤ x.toNat
          · have hd : decide ((x.toNat : Int) ≤ 57) = false := decide_eq_false (by omega)
            clear h2
            go_wp2_with fail
            go_ret
            exact ⟨ret_bool Hv2.out.symm, rfl⟩
          · omega
        · clear h1
          have ha2 : x.toNat < 97 := by omega
          by_cases hc : 48 ≤ x.toNat
          · have hd : decide ((x.toNat : Int) ≤ 57) = false := decide_eq_false (by omega)
            clear h2
            go_wp2_with fail
            go_ret
            exact ⟨ret_bool Hv2.out.symm, rfl⟩
          · clear h2
            have hc2 : x.toNat < 48 := by omega
            clear hc ha
            go_wp2_with fail
            go_ret
            exact ⟨ret_bool Hv2.out.symm, rfl⟩
    · obtain rfl : k = s.length := by omega
      have Ha := Lib.hid (all_upto Hp.out)
      have Hk : Hid (valB s = (decide (s.length ≤ 32) && s.all valcB)) := rfl
      go_wp2_with fail
      go_ret
      exact ⟨ret_bool (by rw [Hk.out, Ha.out]; simp <;> omega), rfl⟩

end Go.Proofs.YtmhgbocejjnoaaaDoor
/- Walks: the reference of prop: Check. -/
namespace Go.Proofs.YtmhgbocejjnoaaaDoor
open Go.RowKit Go.Redl
set_option linter.unusedVariables false

theorem props_len {w : World} {B cap n : Nat} {a : Option Addr} {cs : List Value} {sz : Nat} (h : RowA w B sz a n cap cs) : n ≤ 9223372036854775807 := by
  have h1 := h.le; have h2 := h.max; unfold maxLen at h2; omega
theorem str_le (a b : List UInt8) : (Op.bytesLess (⟨a.toArray⟩ : ByteArray).toList (⟨b.toArray⟩ : ByteArray).toList || (⟨a.toArray⟩ : ByteArray).toList == (⟨b.toArray⟩ : ByteArray).toList) = leB a b := by
  rw [ByteArray.toList_mk, ByteArray.toList_mk]; rfl
theorem leB_nil {p : List UInt8} (h : keyB p = true) : leB p [] = false := by
  unfold keyB at h
  cases p with
  | nil => simp at h
  | cons c p => simp [leB, Op.bytesLess]

set_option maxRecDepth 100000 in
set_option maxHeartbeats 1000000 in
theorem rpcheck_c (v : Value) (B : Nat) (ps : List PropD) (w : World) (hv : ∃ a cap, v = .slice a ps.length cap ∧ RowA w B 2 a ps.length cap (propCells ps)) (hB : B ≤ w.heap.size) (hn : propsWt ps ≤ 1000000000) :
    Calls Tryd.prog 63 #[v] w fun e w' => e = .returned (.int .i64 (propsE ps)) ∧ Below w.heap.size w w' := by
  obtain ⟨a, cap, rfl, hr⟩ := hv
  have hm := props_len hr
  by_cases h16 : 16 < ps.length
  · have He : Hid (propsE ps = if 16 < ps.length then 2 else propsGo [] ps) := rfl
    go_enter Tryd.func63, Tryd.ntmps63
    go_wp2_with fail
    go_ret
    exact ⟨ret_int (by rw [He.out, if_pos h16]), Below.refl _ _⟩
  · have He : Hid (propsE ps = propsGo [] ps) := by
      show propsE ps = _
      unfold propsE; rw [if_neg h16]
    go_enter Tryd.func63, Tryd.ntmps63
    go_wp2_with fail
    go_loopw [10] (fun i wr => ∃ k : Nat, k ≤ ps.length ∧ i = .int .i64 k ∧ propsGo (lastK ps k) (ps.drop k) = propsE ps ∧ Below w.heap.size w wr) (fun i _ => ps.length - (intOf i).toNat)
    case atStart => exact ⟨0, Nat.zero_le _, rfl, by rw [He.out]; rfl, Below.refl _ _⟩
    case round =>
      obtain ⟨k, hk, rfl, hp, hbel⟩ := hrel
      have hr2 := hr.keep (hbel.mono hB) (Nat.le_refl _)
      have Hp := Lib.hid hp
      have Hb := Lib.hid hbel
      clear hp hbel
      by_cases hlt : k < ps.length
      · have Hstep := Lib.hid (propsGo_step hlt)
        obtain ⟨b, off, rfl, hb, hc0, hc1⟩ := hr2.prop_at k hlt
        have hmem := propsWt_mem (List.getElem_mem hlt)
        have HK := Lib.hid (rkey_c ps[k].1)
        have HV := Lib.hid (rval_c ps[k].2)
        have hin := Lib.hid (List.getElem_mem hlt)
        generalize ps[k] = p at hc0 hc1 hmem HK HV Hstep
        obtain ⟨p1, p2⟩ := p
        simp only at hc0 hc1 hmem HK HV Hstep
        have hl1 : p1.length ≤ 1000000000 := by omega
        have hl2 : p2.length ≤ 1000000000 := by omega
        have HK1 := fun W => Lib.hid (HK.out W hl1)
        have HV1 := fun W => Lib.hid (HV.out W hl2)
        clear HK HV hmem
        cases hkey : keyB p1
        · simp only [hkey] at HK1
          go_wp2_with fail
          refine (HK1 _).out.mono ?_
          rintro e w1 ⟨rfl, rfl⟩
          go_wp2_with fail
          go_ret
          exact ⟨ret_int (by rw [← Hp.out, Hstep.out, hkey]; simp), Hb.out.alloc Hb.out.size _⟩
        · simp only [hkey] at HK1
          cases hval : valB p2
          · simp only [hval] at HV1
            go_wp2_with fail
            refine (HK1 _).out.mono ?_
            rintro e w1 ⟨rfl, rfl⟩
            go_wp2_with fail
            refine (HV1 _).out.mono ?_
            rintro e w1 ⟨rfl, rfl⟩
            go_wp2_with fail
            go_ret
            exact ⟨ret_int (by rw [← Hp.out, Hstep.out, hkey, hval]; simp), Hb.out.alloc Hb.out.size _⟩
          · simp only [hval] at HV1
            have Hkv : Hid (propsE ps = if leB p1 (lastK ps k) = true then 1 else propsGo (lastK ps (k + 1)) (ps.drop (k + 1))) := by
              show propsE ps = _
              rw [← Hp.out, Hstep.out, hkey, hval]; simp
            have Hkey := Lib.hid hkey
            clear hkey hval
            cases k with
            | zero =>
              rw [Nat.zero_mul, Nat.add_zero] at hc0 hc1
              go_wp2_with fail
              refine (HK1 _).out.mono ?_
              rintro e w1 ⟨rfl, rfl⟩
              go_wp2_with fail
              refine (HV1 _).out.mono ?_
              rintro e w1 ⟨rfl, rfl⟩
              go_wp2_with fail
              go_quiet (fail)
              go_wp2_with fail
              go_roundw
              case rel => exact ⟨1, by omega, by go_num, by rw [Hkv.out, show lastK ps 0 = [] from rfl, leB_nil Hkey.out]; simp, below_drewN (Hb.out.alloc Hb.out.size _) _⟩
              case measure => simp [intOf]; omega
            | succ j =>
              obtain ⟨b', off', hbb, hb2, hd0, hd1⟩ := hr2.prop_at j (by omega)
              simp only [Option.some.injEq, Addr.mk.injEq, and_true] at hbb
              obtain ⟨rfl, rfl⟩ := hbb
              have hla : Hid (lastK ps (j + 1) = ps[j].1) := by show (ps.getD j ([], [])).1 = _; rw [getD_of_lt (by omega)]
              generalize ps[j] = q at hd0 hd1 hla
              obtain ⟨q1, q2⟩ := q
              simp only at hd0 hd1 hla
              have Hle : Hid (leB p1 q1 = (Op.bytesLess p1 q1 || p1 == q1)) := rfl
              have hw1 : IntKind.i64.wrap ((j : Int) + 1 - 1) = j := by rw [IntWalk.i64_in _ (by omega)]; omega
              have hw2 : IntKind.i64.wrap (j : Int) = j := IntWalk.i64_in _ (by omega)
              have hblt : b < wr.heap.size := Nat.lt_of_lt_of_le hb2 (Nat.le_trans hB Hb.out.size)
              have hd2 : (wr.alloc (Obj.cells #[Value.string { data := p1.toArray }, Value.string { data := p2.toArray }] 47)).cell? ⟨b, off + j * 2, none⟩ = some (.string ⟨q1.toArray⟩) := by rw [World.cell?_alloc_lt _ _ _ hblt]; exact hd0
              have hjl : (j : Int) < (ps.length : Int) := by omega
              have hjl2 : j < ps.length := by omega
              have hgd : decide ((0 : Int) < (j : Int) + 1) = true := decide_eq_true (by omega)
              cases hx : Op.bytesLess p1 q1
              · cases hy : (p1 == q1)
                · have Hlb : Hid (leB p1 q1 = false) := by show leB p1 q1 = false; rw [Hle.out, hx, hy]; rfl
                  go_wp2_with fail
                  refine (HK1 _).out.mono ?_
                  rintro e w1 ⟨rfl, rfl⟩
                  go_wp2_with fail
                  refine (HV1 _).out.mono ?_
                  rintro e w1 ⟨rfl, rfl⟩
                  go_wp2_with fail
                  go_quiet (fail)
                  go_wp2_with fail
                  go_roundw
                  case rel => exact ⟨j + 1 + 1, by omega, by go_num, by rw [Hkv.out, hla.out, Hlb.out]; simp, below_drewN (Hb.out.alloc Hb.out.size _) _⟩
                  case measure => simp [intOf]; omega
                · have Hlb : Hid (leB p1 q1 = true) := by show leB p1 q1 = true; rw [Hle.out, hx, hy]; rfl
                  go_wp2_with fail
                  refine (HK1 _).out.mono ?_
                  rintro e w1 ⟨rfl, rfl⟩
                  go_wp2_with fail
                  refine (HV1 _).out.mono ?_
                  rintro e w1 ⟨rfl, rfl⟩
                  go_wp2_with fail
                  go_quiet (fail)
                  go_wp2_with fail
                  go_ret
                  exact ⟨ret_int (by rw [Hkv.out, hla.out, Hlb.out]; simp), below_drewN (Hb.out.alloc Hb.out.size _) _⟩
              · have Hlb : Hid (leB p1 q1 = true) := by show leB p1 q1 = true; rw [Hle.out, hx]; rfl
                go_wp2_with fail
                refine (HK1 _).out.mono ?_
                rintro e w1 ⟨rfl, rfl⟩
                go_wp2_with fail
                refine (HV1 _).out.mono ?_
                rintro e w1 ⟨rfl, rfl⟩
                go_wp2_with fail
                go_quiet (fail)
                go_wp2_with fail
                go_ret
                exact ⟨ret_int (by rw [Hkv.out, hla.out, Hlb.out]; simp), below_drewN (Hb.out.alloc Hb.out.size _) _⟩
      · obtain rfl : k = ps.length := by omega
        go_wp2_with fail
        go_ret
        exact ⟨ret_int (by rw [← Hp.out, propsGo_end]), Hb.out⟩

end Go.Proofs.YtmhgbocejjnoaaaDoor
/- Walks: prop's key, val. -/
namespace Go.Proofs.YtmhgbocejjnoaaaDoor
open Go.RowKit Go.Redl
set_option linter.unusedVariables false

theorem dropWhile_all {α : Type} {p : α → Bool} : ∀ {l : List α}, (∀ x ∈ l.dropWhile p, p x = true) → ∀ x ∈ l, p x = true
  | [], _ => by simp
  | a :: l, h => by
    cases ha : p a with
    | true =>
      rw [List.dropWhile_cons_of_pos ha] at h
      intro x hx
      rcases List.mem_cons.1 hx with rfl | hx
      · exact ha
      · exact dropWhile_all h x hx
    | false =>
      rw [List.dropWhile_cons_of_neg (by simp [ha])] at h
      have := h a (by simp)
      rw [ha] at this; cases this
theorem dropWhile_none {α : Type} {p : α → Bool} : ∀ {l : List α}, (∀ x ∈ l, p x = true) → l.dropWhile p = []
  | [], _ => rfl
  | a :: l, h => by
    rw [List.dropWhile_cons_of_pos (h a (by simp))]
    exact dropWhile_none fun x hx => h x (by simp [hx])
theorem trim_nil (l cs : List UInt8) : Lib.trimS l cs = [] ↔ l.all (cs.contains ·) = true := by
  unfold Lib.trimS Lib.trimLeftS Lib.trimRightS
  rw [List.all_eq_true]
  constructor
  · intro h
    have h1 : ∀ x ∈ (l.reverse.dropWhile (cs.contains ·)).reverse, cs.contains x = true := dropWhile_all (by rw [h]; simp)
    have h2 : ∀ x ∈ l.reverse, cs.contains x = true := dropWhile_all fun x hx => h1 x (List.mem_reverse.2 hx)
    exact fun x hx => h2 x (by simpa using hx)
  · intro h
    rw [dropWhile_none (l := l.reverse) fun x hx => h x (by simpa using hx)]
    rfl
def lowSet : List UInt8 := [97, 98, 99, 100, 101, 102, 103, 104, 105, 106, 107, 108, 109, 110, 111, 112, 113, 114, 115, 116, 117, 118, 119, 120, 121, 122]
def valSet : List UInt8 := [97, 98, 99, 100, 101, 102, 103, 104, 105, 106, 107, 108, 109, 110, 111, 112, 113, 114, 115, 116, 117, 118, 119, 120, 121, 122, 48, 49, 50, 51, 52, 53, 54, 55, 56, 57, 45]
theorem low_set (c : UInt8) : lowSet.contains c = lowB c := by
  have h : ∀ n : Fin 256, lowSet.contains (UInt8.ofNat n.1) = lowB (UInt8.ofNat n.1) := by decide +kernel
  have := h ⟨c.toNat, c.toNat_lt⟩
  simpa using this
theorem val_set (c : UInt8) : valSet.contains c = valcB c := by
  have h : ∀ n : Fin 256, valSet.contains (UInt8.ofNat n.1) = valcB (UInt8.ofNat n.1) := by decide +kernel
  have := h ⟨c.toNat, c.toNat_lt⟩
  simpa using this
theorem all_set {s cs : List UInt8} {p : UInt8 → Bool} (h : ∀ c, cs.contains c = p c) : s.all (cs.contains ·) = s.all p := by
  congr 1; funext c; exact h c
/-- strings.Trim, at such a set: is nothing left? -/
theorem trim_c (s cs : List UInt8) (p : UInt8 → Bool) (hp : ∀ c, cs.contains c = p c) (hc : cs.length ≤ 1000) (ha : cs.all (fun b => decide (b.toNat < 128)) = true) (w : World) (hn : s.length ≤ 1000000000) :
    (s.all p = true → Calls Tryd.prog 86 #[.string ⟨s.toArray⟩, .string ⟨cs.toArray⟩] w fun e w' => e = .returned (.string ⟨#[]⟩) ∧ Below w.heap.size w w') ∧
    (s.all p = false → ∃ y ys, Calls Tryd.prog 86 #[.string ⟨s.toArray⟩, .string ⟨cs.toArray⟩] w fun e w' => e = .returned (.string ⟨(y :: ys).toArray⟩) ∧ Below w.heap.size w w') := by
  have h := Tryd.strings_Trim_set ⟨s.toArray⟩ ⟨cs.toArray⟩ w (by show s.length ≤ _; omega) (by show cs.length < _; omega) (fun j b hj => by
    rw [List.all_eq_true] at ha
    have : b ∈ cs := List.mem_of_getElem? (by simpa using hj)
    simpa using ha b this)
  have h0 := trim_nil s cs
  rw [all_set hp] at h0
  constructor
  · intro hs
    have : Lib.trimS (⟨s.toArray⟩ : ByteArray).data.toList (⟨cs.toArray⟩ : ByteArray).data.toList = [] := by simpa using h0.2 hs
    rw [this] at h
    exact h
  · intro hs
    have hne : Lib.trimS (⟨s.toArray⟩ : ByteArray).data.toList (⟨cs.toArray⟩ : ByteArray).data.toList ≠ [] := by
      intro he
      have := h0.1 (by simpa using he)
      rw [hs] at this; cases this
    obtain ⟨y, ys, hy⟩ := List.exists_cons_of_ne_nil hne
    rw [hy] at h
    exact ⟨y, ys, h⟩

set_option maxRecDepth 100000 in
set_option maxHeartbeats 1000000 in
theorem key_c (s : List UInt8) (w : World) (hn : s.length ≤ 1000000000) :
    Calls Tryd.prog 75 #[.string ⟨s.toArray⟩] w fun e w' => e = .returned (.bool (keyB s)) ∧ Below w.heap.size w w' := by
  have Hk : Hid (keyB s = (decide (1 ≤ s.length ∧ s.length ≤ 16) && s.all lowB)) := rfl
  obtain ⟨hT, hF⟩ := trim_c s lowSet lowB low_set (by decide) (by decide +kernel) w hn
  have HT := Lib.hid hT; have HF := Lib.hid hF
  clear hT hF
  cases s with
  | nil =>
    go_enter Tryd.func75, Tryd.ntmps75
    go_wp2_with fail
    go_ret
    exact ⟨ret_bool (by rw [Hk.out]; rfl), Below.refl _ _⟩
  | cons c r =>
    have hsz : (⟨(c :: r).toArray⟩ : ByteArray).size = r.length + 1 := rfl
    have hne : ((⟨(c :: r).toArray⟩ : ByteArray).toList.isEmpty) = false := by rw [ByteArray.toList_mk]; rfl
    have hne2 : (!(⟨(c :: r).toArray⟩ : ByteArray).toList.isEmpty) = true := by rw [ByteArray.toList_mk]; rfl
    obtain ⟨S, hS⟩ : ∃ S, S = (⟨(c :: r).toArray⟩ : ByteArray) := ⟨_, rfl⟩
    rw [← hS] at hsz hne hne2 HT HF ⊢
    by_cases h16 : 16 < r.length + 1
    · have Hz : Hid (keyB (c :: r) = false) := by
        show keyB _ = false
        rw [Hk.out, decide_eq_false (by simp only [List.length_cons]; omega)]; rfl
      clear hS HT HF
      go_enter Tryd.func75, Tryd.ntmps75
      go_wp2_with fail
      go_ret
      exact ⟨ret_bool Hz.out.symm, Below.refl _ _⟩
    · have Hk2 : Hid (keyB (c :: r) = (c :: r).all lowB) := by
        show keyB _ = _
        rw [Hk.out, decide_eq_true (by simp only [List.length_cons]; omega)]; simp
      cases hall : (c :: r).all lowB with
      | true =>
        have HC := Lib.hid (HT.out hall)
        rw [hall] at Hk2
        clear hS HT HF hall
        go_enter Tryd.func75, Tryd.ntmps75
        go_wp2_with fail
        refine HC.out.mono ?_
        rintro e w1 ⟨rfl, hb⟩
        have Hb := Lib.hid hb
        clear hb
        go_wp2_with fail
        go_ret
        exact ⟨ret_bool Hk2.out.symm, Hb.out⟩
      | false =>
        obtain ⟨y, ys, hC⟩ := HF.out hall
        have HC := Lib.hid hC
        rw [hall] at Hk2
        have hn2 : ((⟨(y :: ys).toArray⟩ : ByteArray).toList.isEmpty) = false := by rw [ByteArray.toList_mk]; rfl
        clear hS HT HF hall hC
        go_enter Tryd.func75, Tryd.ntmps75
        go_wp2_with fail
        refine HC.out.mono ?_
        rintro e w1 ⟨rfl, hb⟩
        have Hb := Lib.hid hb
        clear hb
        go_wp2_with fail
        go_ret
        exact ⟨ret_bool Hk2.out.symm, Hb.out⟩

set_option maxRecDepth 100000 in
set_option maxHeartbeats 1000000 in
theorem val_c (s : List UInt8) (w : World) (hn : s.length ≤ 1000000000) :
    Calls Tryd.prog 76 #[.string ⟨s.toArray⟩] w fun e w' => e = .returned (.bool (valB s)) ∧ Below w.heap.size w w' := by
  have Hk : Hid (valB s = (decide (s.length ≤ 32) && s.all valcB)) := rfl
  obtain ⟨hT, hF⟩ := trim_c s valSet valcB val_set (by decide) (by decide +kernel) w hn
  have HT := Lib.hid hT; have HF := Lib.hid hF
  have hsz : (⟨s.toArray⟩ : ByteArray).size = s.length := rfl
  clear hT hF
  obtain ⟨S, hS⟩ : ∃ S, S = (⟨s.toArray⟩ : ByteArray) := ⟨_, rfl⟩
  rw [← hS] at hsz HT HF ⊢
  clear hS
  by_cases h32 : 32 < s.length
  · have Hz : Hid (valB s = false) := by
      show valB _ = false
      rw [Hk.out, decide_eq_false (by omega)]; rfl
    clear HT HF
    go_enter Tryd.func76, Tryd.ntmps76
    go_wp2_with fail
    go_ret
    exact ⟨ret_bool Hz.out.symm, Below.refl _ _⟩
  · have Hk2 : Hid (valB s = s.all valcB) := by
      show valB _ = _
      rw [Hk.out, decide_eq_true (by omega)]; simp
    cases hall : s.all valcB with
    | true =>
      have HC := Lib.hid (HT.out hall)
      rw [hall] at Hk2
      clear HT HF hall
      go_enter Tryd.func76, Tryd.ntmps76
      go_wp2_with fail
      refine HC.out.mono ?_
      rintro e w1 ⟨rfl, hb⟩
      have Hb := Lib.hid hb
      clear hb
      go_wp2_with fail
      go_ret
      exact ⟨ret_bool Hk2.out.symm, Hb.out⟩
    | false =>
      obtain ⟨y, ys, hC⟩ := HF.out hall
      have HC := Lib.hid hC
      rw [hall] at Hk2
      have hn2 : ((⟨(y :: ys).toArray⟩ : ByteArray).toList.isEmpty) = false := by rw [ByteArray.toList_mk]; rfl
      clear HT HF hall hC
      go_enter Tryd.func76, Tryd.ntmps76
      go_wp2_with fail
      refine HC.out.mono ?_
      rintro e w1 ⟨rfl, hb⟩
      have Hb := Lib.hid hb
      clear hb
      go_wp2_with fail
      go_ret
      exact ⟨ret_bool Hk2.out.symm, Hb.out⟩

end Go.Proofs.YtmhgbocejjnoaaaDoor
/- Walks: the reference of glyph, but for its quoting. -/
namespace Go.Proofs.YtmhgbocejjnoaaaDoor
open Go.RowKit Go.Redl
set_option linter.unusedVariables false

set_option maxHeartbeats 400000 in
theorem rsame_c (v1 v2 : Value) (B : Nat) (xs ys : List Int) (w : World) (h1 : Ints .i32 w B v1 xs) (h2 : Ints .i32 w B v2 ys) :
    Calls Tryd.prog 36 #[v1, v2] w fun e w' => e = .returned (.bool (decide (xs = ys))) ∧ Drawn w w' := by
  obtain ⟨⟨a, cap, rfl, hr⟩, -⟩ := h1
  obtain ⟨⟨a', cap', rfl, hr'⟩, -⟩ := h2
  have hm : xs.length ≤ 9223372036854775807 := by have h1 := hr.le; have h2 := hr.max; unfold maxLen at h2; omega
  have hm' : ys.length ≤ 9223372036854775807 := by have h1 := hr'.le; have h2 := hr'.max; unfold maxLen at h2; omega
  by_cases hl : xs.length = ys.length
  · go_enter Tryd.func36, Tryd.ntmps36
    have hle : ys.length ≤ xs.length := by omega
    have hle' : xs.length ≤ ys.length := by omega
    have hne : (((xs.length : Nat) : Int) != (ys.length : Int)) = false := by simp [hl]
    have Hl := Lib.hid hl; clear hl
    go_wp2_with fail
    go_loopw [13] (fun i wr => ∃ k : Nat, k ≤ xs.length ∧ i = .int .i64 k ∧ SameTo xs ys k ∧ Drawn w wr) (fun i _ => xs.length - (intOf i).toNat)
    case atStart => exact ⟨0, Nat.zero_le _, rfl, sameTo_zero _ _, ⟨0, rfl⟩⟩
    case round =>
      obtain ⟨k, hk, rfl, hp, q, rfl⟩ := hrel
      have Hp := Lib.hid hp; clear hp
      by_cases hlt : k < xs.length
      · obtain ⟨b, off, rfl, hb, hcell⟩ := hr.int_at k hlt
        obtain ⟨b', off', rfl, hb', hcell'⟩ := hr'.int_at k (by omega)
        have hcell := hcell k hlt
        have hcell' := hcell' k (by omega)
        have hlt' : k < ys.length := by omega
        rw [getD_of_lt hlt] at hcell
        rw [getD_of_lt hlt'] at hcell'
        go_wp2_with fail
        by_cases he : xs[k] = ys[k]
        · have hne : (xs[k] != ys[k]) = false := by simp [he]
          have He := Lib.hid he; clear he
          go_quiet (fail)
          go_wp2_with fail
          go_roundw
          case rel => exact ⟨k + 1, by omega, by go_num, sameTo_succ Hp.out hlt hlt' He.out, by first | exact drawn_one _ _ | exact drawn_two _ _ _⟩
          case measure => simp [intOf]; omega
        · have hne : (xs[k] != ys[k]) = true := by simp [he]
          have He := Lib.hid he; clear he
          go_quiet (fail)
          go_wp2_with fail
          go_ret
          exact ⟨ret_bool (by simp [same_not hlt hlt' He.out]), drawn_two _ _ _⟩
      · go_wp2_with fail
        go_ret
        obtain rfl : k = xs.length := by omega
        exact ⟨ret_bool (by simp [sameTo_all Hp.out Hl.out]), drawn_one _ _⟩
  · have hne : (((xs.length : Nat) : Int) != (ys.length : Int)) = true := by simp; omega
    have Hl := Lib.hid hl; clear hl
    go_enter Tryd.func36, Tryd.ntmps36
    go_wp2_with fail
    go_ret
    exact ⟨ret_bool (by simp [show xs ≠ ys from fun h => Hl.out (by rw [h])]), drawn_zero _⟩



set_option maxRecDepth 100000 in
set_option maxHeartbeats 400000 in
theorem ris_c (c : Int) (w : World) :
    Calls Tryd.prog 79 #[.int .i32 c] w fun e w' => e = .returned (.bool (validB c)) ∧ w = w' := by
  by_cases h0 : 0 ≤ c
  · by_cases h1 : c ≤ 55295
    · go_enter Tryd.func79, Tryd.ntmps79
      go_wp2
      go_ret
      exact ⟨ret_bool (by unfold validB; simp; omega), rfl⟩
    · by_cases h2 : 57344 ≤ c
      · by_cases h3 : c ≤ 1114111
        · go_enter Tryd.func79, Tryd.ntmps79
          go_wp2
          go_ret
          exact ⟨ret_bool (by unfold validB; simp; omega), rfl⟩
        · go_enter Tryd.func79, Tryd.ntmps79
          go_wp2
          go_ret
          exact ⟨ret_bool (by unfold validB; simp; omega), rfl⟩
      · go_enter Tryd.func79, Tryd.ntmps79
        go_wp2
        go_ret
        exact ⟨ret_bool (by unfold validB; simp; omega), rfl⟩
  · by_cases h2 : 57344 ≤ c
    · omega
    · go_enter Tryd.func79, Tryd.ntmps79
      go_wp2
      go_ret
      exact ⟨ret_bool (by unfold validB; simp; omega), rfl⟩

set_option maxRecDepth 100000 in
set_option maxHeartbeats 400000 in
theorem rcheck_c (v : Value) (B : Nat) (zs : List Int) (w : World) (hv : Ints .i32 w B v zs) :
    Calls Tryd.prog 64 #[v] w fun e w' => e = .returned (.int .i64 (checkE zs)) ∧ w = w' := by
  obtain ⟨⟨a, cap, rfl, hr⟩, -⟩ := hv
  have hm : zs.length ≤ 9223372036854775807 := by have h1 := hr.le; have h2 := hr.max; unfold maxLen at h2; omega
  have Hx : Hid (checkE zs = if zs.any (fun c => !validB c) then 4 else 0) := rfl
  go_enter Tryd.func64, Tryd.ntmps64
  go_wp2_with fail
  go_loop [7] (fun i => ∃ k : Nat, k ≤ zs.length ∧ i = .int .i64 k ∧ Upto (fun c => !validB c) zs k) (fun i => zs.length - (intOf i).toNat)
  case atStart => exact ⟨0, Nat.zero_le _, rfl, upto_zero _ zs⟩
  case round =>
    obtain ⟨k, hk, rfl, hp⟩ := hrel
    have Hp := Lib.hid hp; clear hp
    by_cases hlt : k < zs.length
    · obtain ⟨b, off, rfl, hb, hcell⟩ := hr.int_at k hlt
      have hcell := hcell k hlt
      rw [getD_of_lt hlt] at hcell
      cases hpk : validB zs[k]
      · go_wp2_with fail
        refine (ris_c _ _).mono ?_
        rintro e w' ⟨rfl, rfl⟩
        go_wp2_with fail
        go_ret
        exact ⟨ret_int (by rw [Hx.out, any_at hlt (by simp [hpk])]; rfl), rfl⟩
      · go_wp2_with fail
        refine (ris_c _ _).mono ?_
        rintro e w' ⟨rfl, rfl⟩
        go_wp2_with fail
        go_round
        case rel => exact ⟨k + 1, by omega, by go_num, upto_succ Hp.out hlt (by simp [hpk])⟩
        case measure => simp [intOf]; omega
    · go_wp2_with fail
      go_ret
      obtain rfl : k = zs.length := by omega
      exact ⟨ret_int (by rw [Hx.out, any_none Hp.out]; rfl), rfl⟩

end Go.Proofs.YtmhgbocejjnoaaaDoor
/- Walks: strconv.FormatInt at base 16; glyph.plain, glyph.escaped. -/
namespace Go.Proofs.YtmhgbocejjnoaaaDoor
open Go.RowKit Go.Redl
set_option linter.unusedVariables false

/-- The one cell of the library's table that is read. -/
def TabAt (w : World) : Prop := w.cell? ⟨3, 15, none⟩ = some (.int .u8 4)

set_option maxRecDepth 100000 in
set_option maxHeartbeats 400000 in
theorem tz64_16 (w : World) (h : w.cell? ⟨3, 15, none⟩ = some (.int .u8 4)) :
    Calls Tryd.prog 102 #[.int .u64 16] w fun e w' => e = .returned (.int .i64 4) ∧ w = w' := by
  have hoff : (IntKind.u64.wrap (bits BinOp.and IntKind.u64 16 (IntKind.u64.wrap (-16)) * 285870213051353865) / 288230376151711744).toNat = 15 := by decide +kernel
  have h' : w.cell? ⟨3, (IntKind.u64.wrap (bits BinOp.and IntKind.u64 16 (IntKind.u64.wrap (-16)) * 285870213051353865) / 288230376151711744).toNat, none⟩ = some (.int .u8 4) := by rw [hoff]; exact h
  clear hoff h
  go_enter Tryd.func102, Tryd.ntmps102
  go_wp2_with fail
  go_ret
  exact ⟨rfl, rfl⟩

set_option maxRecDepth 100000 in
set_option maxHeartbeats 400000 in
theorem tz_16 (w : World) (h : w.cell? ⟨3, 15, none⟩ = some (.int .u8 4)) :
    Calls Tryd.prog 91 #[.int .u64 16] w fun e w' => e = .returned (.int .i64 4) ∧ w = w' := by
  have H := Lib.hid (tz64_16 w h)
  clear h
  go_enter Tryd.func91, Tryd.ntmps91
  go_wp2_with fail
  refine H.out.mono ?_
  rintro e w' ⟨rfl, rfl⟩
  go_wp2_with fail
  go_ret
  exact ⟨rfl, rfl⟩

set_option maxRecDepth 100000 in
set_option maxHeartbeats 400000 in
theorem pow2_16 (w : World) :
    Calls Tryd.prog 90 #[.int .i64 16] w fun e w' => e = .returned (.bool true) ∧ w = w' := by
  go_enter Tryd.func90, Tryd.ntmps90
  go_wp2_with fail
  go_ret
  exact ⟨rfl, rfl⟩

set_option maxRecDepth 100000 in
set_option maxHeartbeats 1000000 in
theorem formatBits_16 (n : Nat) (w : World) (hn : n ≤ 2000000000) (h : TabAt w) (hg : 3 < w.heap.size) :
    Calls Tryd.prog 83 #[.slice none 0 0, .int .u64 n, .int .i64 16, .bool false, .bool false] w fun e w' => e = .returned (.tuple #[.slice none 0 0, .string ⟨(hexL n).toArray⟩]) ∧ Below w.heap.size w w' := by
  go_enter Tryd.func83, Tryd.ntmps83
  go_wp2_with fail
  refine (pow2_16 _).mono ?_
  rintro e w' ⟨rfl, rfl⟩
  go_wp2_with fail
  refine (tz_16 _ ?_).mono ?_
  · rw [← h]; exact World.cell?_of_block (Below.heap_alloc _ _ _ hg)
  rintro e w' ⟨rfl, rfl⟩
  go_wp2_with fail
  have hT : TailAt (w.alloc (Obj.cells Tryd.zeroCells119 119)) w.heap.size 119 65 [] := ⟨⟨_, heap_alloc_new w _, by kernel_rfl, by kernel_rfl⟩⟩
  have HT := Lib.hid hT
  have HB := Lib.hid ((Below.refl w.heap.size w).alloc (Nat.le_refl _) (Obj.cells Tryd.zeroCells119 119))
  have HI := Lib.hid (hinv_start hn)
  clear hT h
  go_loopw [1, 13] (fun x y wr => ∃ (u i : Nat) (L : List UInt8), x = .int .u64 u ∧ y = .int .i64 i ∧ HInv n u L i ∧ TailAt wr w.heap.size 119 i L ∧ Below w.heap.size w wr ∧ u ≤ 2000000000) (fun x _ _ => (intOf x).toNat)
  case atStart => exact ⟨n, 65, [], rfl, rfl, HI.out, HT.out, HB.out, hn⟩
  case round =>
    obtain ⟨u, i, L, rfl, rfl, hI, hT, hB, hu⟩ := hrel
    clear HI HT HB
    obtain ⟨hi1, hi2⟩ := hinv_pos hI
    obtain ⟨x, hc, hf⟩ := hT.cell (i - 1) (by omega)
    by_cases h16 : 16 ≤ u
    · obtain ⟨m, hm⟩ : ∃ m, m = u % 16 := ⟨_, rfl⟩
      have hstep := hinv_step hI h16
      rw [← hm] at hstep
      have HI := Lib.hid hstep
      have HT := Lib.hid (hT.put (by omega) hi2 (dig m))
      have hand : bits BinOp.and IntKind.u64 (u : Int) 15 = (m : Int) := by rw [hm]; exact and15 u hu
      have hm16 : m < 16 := by omega
      clear hm hstep
      have HB := Lib.hid hB
      clear hI hT hB
      go_wp2_with fail
      go_roundw
      case rel =>
        rw [dig_byte m hm16]
        exact ⟨u / 16, i - 1, dig m :: L, by go_num, by go_num, HI.out, HT.out, HB.out.setCell (Nat.le_refl _) _, by omega⟩
      case measure => simp [intOf]; omega
    · have HI := Lib.hid (hinv_end hI (by omega))
      have HT := Lib.hid (hT.put (by omega) hi2 (dig u))
      have HB := Lib.hid hB
      have hu16 : u < 16 := by omega
      have hlen := hinv_len hI (by omega)
      clear hI hT hB
      have hdb := dig_byte u hu16
      have hsl : ∀ W, (Instr.sliceAt 119 (.pointer (some ⟨w.heap.size, 0, none⟩)) (some (.int .i64 ((i : Int) - 1))) none none).run Tryd.prog W = .ok (.slice (some ⟨w.heap.size, i - 1, none⟩) (65 - (i - 1)) (65 - (i - 1))) W := by
        intro W
        rw [run_sliceAt_array_l W 119 ⟨w.heap.size, 0, none⟩ (by kernel_rfl) .i64 ((i : Int) - 1) (by omega) (by rw [show Tryd.prog.arrayLen 119 = 65 by kernel_rfl]; omega)]
        rw [show Tryd.prog.arrayLen 119 = 65 by kernel_rfl, show (sizeOf (Tryd.prog.elem 119)).run Tryd.prog W = .ok 1 W by kernel_rfl]
        simp only [Result.andThen, slicedAt]
        rw [show ((i : Int) - 1).toNat = i - 1 by omega, if_neg (by omega), addr_add]
        simp
      have hcv := HT.out.string (P := Tryd.prog) Tryd.underlying41 Tryd.underlying5 Tryd.underlying9 (65 - (i - 1)) (65 - (i - 1)) hlen
      go_wp2_with fail
      go_ret2
      exact ⟨by rw [HI.out]; rfl, HB.out.setCell (Nat.le_refl _) _⟩

set_option maxRecDepth 100000 in
set_option maxHeartbeats 1000000 in
theorem iformatInt_16 (n : Nat) (w : World) (hn : n ≤ 2000000000) (h : TabAt w) (hg : 3 < w.heap.size) :
    Calls Tryd.prog 70 #[.int .i64 n, .int .i64 16] w fun e w' => e = .returned (.string ⟨(hexL n).toArray⟩) ∧ Below w.heap.size w w' := by
  have H := Lib.hid (formatBits_16 n w hn h hg)
  clear h
  go_enter Tryd.func70, Tryd.ntmps70
  go_wp2_with fail
  refine H.out.mono ?_
  rintro e w1 ⟨rfl, hb⟩
  have Hb := Lib.hid hb
  clear hb
  go_wp2_with fail
  go_ret
  exact ⟨rfl, Hb.out⟩

set_option maxRecDepth 100000 in
set_option maxHeartbeats 1000000 in
theorem formatInt_16 (n : Nat) (w : World) (hn : n ≤ 2000000000) (h : TabAt w) (hg : 3 < w.heap.size) :
    Calls Tryd.prog 54 #[.int .i64 n, .int .i64 16] w fun e w' => e = .returned (.string ⟨(hexL n).toArray⟩) ∧ Below w.heap.size w w' := by
  have H := Lib.hid (iformatInt_16 n w hn h hg)
  clear h
  go_enter Tryd.func54, Tryd.ntmps54
  go_wp2_with fail
  refine H.out.mono ?_
  rintro e w1 ⟨rfl, hb⟩
  have Hb := Lib.hid hb
  clear hb
  go_wp2_with fail
  go_ret
  exact ⟨rfl, Hb.out⟩

set_option maxRecDepth 100000 in
set_option maxHeartbeats 1000000 in
theorem escaped_c (n : Nat) (w : World) (hn : n ≤ 2000000000) (h : TabAt w) (hg : 3 < w.heap.size) :
    Calls Tryd.prog 32 #[.int .i32 n] w fun e w' => e = .returned (.string ⟨(escL n).toArray⟩) ∧ Below w.heap.size w w' := by
  have H := Lib.hid (formatInt_16 n w hn h hg)
  clear h
  have hl : (hexL n).length ≤ 20 := hexL_len n
  go_enter Tryd.func32, Tryd.ntmps32
  go_wp2_with fail
  refine H.out.mono ?_
  rintro e w1 ⟨rfl, hb⟩
  have Hb := Lib.hid hb
  clear hb
  go_wp2_with fail
  rw [esc_string n]
  go_ret
  exact ⟨rfl, Hb.out⟩

set_option maxRecDepth 100000 in
set_option maxHeartbeats 400000 in
theorem plain_c (c : Int) (w : World) :
    Calls Tryd.prog 29 #[.int .i32 c] w fun e w' => e = .returned (.bool (plainB c)) ∧ w = w' := by
  by_cases h1 : 32 ≤ c
  · by_cases h2 : c ≤ 126
    · by_cases h3 : c = 34
      · subst h3
        go_enter Tryd.func29, Tryd.ntmps29
        go_wp2_with fail
        go_ret
        exact ⟨ret_bool (by decide), rfl⟩
      · have b3 : (c != 34) = true := by simp [h3]
        by_cases h4 : c = 92
        · subst h4
          go_enter Tryd.func29, Tryd.ntmps29
          go_wp2_with fail
          go_ret
          exact ⟨ret_bool (by decide), rfl⟩
        · have b4 : (c != 92) = true := by simp [h4]
          have Hp : Hid (plainB c = true) := by show plainB c = true; unfold plainB; simp; omega
          clear h3 h4
          go_enter Tryd.func29, Tryd.ntmps29
          go_wp2_with fail
          go_ret
          exact ⟨ret_bool Hp.out.symm, rfl⟩
    · have Hp : Hid (plainB c = false) := by show plainB c = false; unfold plainB; simp; omega
      go_enter Tryd.func29, Tryd.ntmps29
      go_wp2_with fail
      go_ret
      exact ⟨ret_bool Hp.out.symm, rfl⟩
  · have Hp : Hid (plainB c = false) := by show plainB c = false; unfold plainB; simp; omega
    go_enter Tryd.func29, Tryd.ntmps29
    go_wp2_with fail
    go_ret
    exact ⟨ret_bool Hp.out.symm, rfl⟩

end Go.Proofs.YtmhgbocejjnoaaaDoor
/- Walks: the reference of glyph: how a text is written. -/
namespace Go.Proofs.YtmhgbocejjnoaaaDoor
open Go.RowKit Go.Redl
set_option linter.unusedVariables false

theorem check_valid' {zs : List Int} (h : checkE zs = 0) : ∀ c ∈ zs, validB c = true := by
  intro c hc
  unfold checkE at h
  cases hv : validB c with
  | true => rfl
  | false =>
    have : (zs.any fun c => !validB c) = true := List.any_eq_true.2 ⟨c, hc, by simp [hv]⟩
    rw [this] at h
    cases h

set_option maxRecDepth 100000 in
set_option maxHeartbeats 400000 in
theorem rplain_c (c : Int) (w : World) :
    Calls Tryd.prog 65 #[.int .i32 c] w fun e w' => e = .returned (.bool (plainB c)) ∧ w = w' := by
  by_cases h1 : 32 ≤ c
  · by_cases h2 : c ≤ 126
    · by_cases h3 : c = 34
      · subst h3
        go_enter Tryd.func65, Tryd.ntmps65
        go_wp2_with fail
        go_ret
        exact ⟨ret_bool (by decide), rfl⟩
      · have b3 : (c != 34) = true := by simp [h3]
        by_cases h4 : c = 92
        · subst h4
          go_enter Tryd.func65, Tryd.ntmps65
          go_wp2_with fail
          go_ret
          exact ⟨ret_bool (by decide), rfl⟩
        · have b4 : (c != 92) = true := by simp [h4]
          have Hp : Hid (plainB c = true) := by show plainB c = true; unfold plainB; simp; omega
          clear h3 h4
          go_enter Tryd.func65, Tryd.ntmps65
          go_wp2_with fail
          go_ret
          exact ⟨ret_bool Hp.out.symm, rfl⟩
    · have Hp : Hid (plainB c = false) := by show plainB c = false; unfold plainB; simp; omega
      go_enter Tryd.func65, Tryd.ntmps65
      go_wp2_with fail
      go_ret
      exact ⟨ret_bool Hp.out.symm, rfl⟩
  · have Hp : Hid (plainB c = false) := by show plainB c = false; unfold plainB; simp; omega
    go_enter Tryd.func65, Tryd.ntmps65
    go_wp2_with fail
    go_ret
    exact ⟨ret_bool Hp.out.symm, rfl⟩


theorem dig16 (m : Nat) (hm : m < 16) : (⟨#[48, 49, 50, 51, 52, 53, 54, 55, 56, 57, 97, 98, 99, 100, 101, 102]⟩ : ByteArray).extract m (m + 1) = ⟨[dig m].toArray⟩ := by
  have : m = 0 ∨ m = 1 ∨ m = 2 ∨ m = 3 ∨ m = 4 ∨ m = 5 ∨ m = 6 ∨ m = 7 ∨ m = 8 ∨ m = 9 ∨ m = 10 ∨ m = 11 ∨ m = 12 ∨ m = 13 ∨ m = 14 ∨ m = 15 := by omega
  rcases this with rfl | rfl | rfl | rfl | rfl | rfl | rfl | rfl | rfl | rfl | rfl | rfl | rfl | rfl | rfl | rfl <;> rfl

set_option maxRecDepth 100000 in
set_option maxHeartbeats 1000000 in
theorem rhexF_c (f : Nat) : ∀ (n : Nat) (w : World), n < 16 ^ f → n ≤ 2000000000 → 1 ≤ f → f ≤ 100 →
    Calls Tryd.prog 66 #[.int .i32 n] w fun e w' => e = .returned (.string ⟨(hexF f n).toArray⟩) ∧ w = w' := by
  induction f with
  | zero => intro n w _ _ h _; omega
  | succ f ih =>
    intro n w hn hm _ hf100
    have hd := dig16 (n % 16) (Nat.mod_lt _ (by decide))
    have hlt16 : n % 16 < 16 := Nat.mod_lt _ (by decide)
    have Hh : Hid (hexF (f + 1) n = if n < 16 then [dig n] else hexF f (n / 16) ++ [dig (n % 16)]) := rfl
    by_cases hs : n < 16
    · have Hd := Lib.hid hd
      clear hd ih
      go_enter Tryd.func66, Tryd.ntmps66
      go_wp2_with fail
      go_ret
      refine ⟨congrArg (fun s => Ending.returned (Value.string s)) ?_, rfl⟩
      rw [Hd.out, Hh.out, if_pos hs, Nat.mod_eq_of_lt hs]
    · have hf : 1 ≤ f := by
        rcases Nat.eq_zero_or_pos f with rfl | h
        · simp at hn; omega
        · exact h
      have HI := Lib.hid (ih (n / 16) w (by rw [Nat.pow_succ] at hn; omega) (by omega) hf (by omega))
      have hlen := hexF_len f (n / 16)
      have hq : (n : Int) / 16 = ((n / 16 : Nat) : Int) := by omega
      have Hq := Lib.hid hq
      have Hd := Lib.hid hd
      clear hd ih hq hn hf
      go_enter Tryd.func66, Tryd.ntmps66
      go_wp2_with fail
      rw [Hq.out]
      refine HI.out.mono ?_
      rintro e w1 ⟨rfl, rfl⟩
      go_wp2_with fail
      go_ret
      refine ⟨congrArg (fun s => Ending.returned (Value.string s)) ?_, rfl⟩
      rw [Hd.out, Hh.out, if_neg hs, bytes_append]

theorem rhex_c (n : Nat) (w : World) (h : n ≤ 2000000000) : Calls Tryd.prog 66 #[.int .i32 n] w fun e w' => e = .returned (.string ⟨(hexL n).toArray⟩) ∧ w = w' :=
  rhexF_c 20 n w (Nat.lt_of_le_of_lt h (by decide)) h (by decide) (by decide)

set_option maxRecDepth 100000 in
set_option maxHeartbeats 1000000 in
theorem rquote_no (v : Value) (B : Nat) (zs : List Int) (w : World) (hv : Ints .i32 w B v zs) (he : checkE zs ≠ 0) :
    Calls Tryd.prog 43 #[v] w fun e w' => e = .returned (.tuple #[.string ⟨#[]⟩, .int .i64 4]) ∧ w = w' := by
  have H := rcheck_c v B zs w hv
  have h4 : checkE zs = 4 := by unfold checkE at *; split <;> simp_all
  rw [h4] at H
  have H := Lib.hid H
  clear he h4 hv
  go_enter Tryd.func43, Tryd.ntmps43
  go_wp2_with fail
  refine H.out.mono ?_
  rintro e w' ⟨rfl, rfl⟩
  go_wp2_with fail
  go_ret2
  exact ⟨rfl, rfl⟩

theorem one_byte8 (w : World) (b : Nat) (hb : b < 256) : (convert 41 9 (.slice (some ⟨w.heap.size, 0, none⟩) 1 1)).run Tryd.prog (w.alloc (.cells #[.int .u8 b] 5)) = .ok (.string ⟨[UInt8.ofNat b].toArray⟩) (w.alloc (.cells #[.int .u8 b] 5)) := by
  refine bytes_string Tryd.underlying41 Tryd.underlying5 Tryd.underlying9 w.heap.size 0 1 1 [UInt8.ofNat b] rfl fun j hj => ?_
  have : j = 0 := by simpa using hj
  subst this
  simp only [World.cell?, World.alloc, Array.getElem?_push_size]
  simp [Nat.mod_eq_of_lt hb]

set_option maxRecDepth 100000 in
set_option maxHeartbeats 2000000 in
theorem rquote_ok (v : Value) (B : Nat) (zs : List Int) (w : World) (hv : Ints .i32 w B v zs) (hB : B ≤ w.heap.size) (he : checkE zs = 0) (hn : zs.length ≤ 2000000) :
    Calls Tryd.prog 43 #[v] w fun e w' => e = .returned (.tuple #[.string ⟨(quoteL zs).toArray⟩, .int .i64 0]) ∧ Below w.heap.size w w' := by
  have H := rcheck_c v B zs w hv
  rw [he] at H
  have Hc := Lib.hid H
  have Hval := Lib.hid (check_valid' he)
  obtain ⟨⟨a, cap, rfl, hr⟩, -⟩ := hv
  clear H he
  go_enter Tryd.func43, Tryd.ntmps43
  go_wp2_with fail
  refine Hc.out.mono ?_
  rintro e w' ⟨rfl, rfl⟩
  go_wp2_with fail
  go_loopw [5, 15] (fun s i wr => ∃ k : Nat, k ≤ zs.length ∧ i = .int .i64 k ∧ s = .string ⟨(34 :: bodyL (zs.take k)).toArray⟩ ∧ Below w.heap.size w wr) (fun _ i _ => zs.length - (intOf i).toNat)
  case atStart => exact ⟨0, Nat.zero_le _, rfl, by simp [bodyL], Below.refl _ _⟩
  case round =>
    obtain ⟨k, hk, rfl, rfl, hbel⟩ := hrel
    have hr2 := hr.keep (hbel.mono hB) (Nat.le_refl _)
    have Hb := Lib.hid hbel
    clear hbel
    by_cases hlt : k < zs.length
    · have hsucc := Lib.hid (body_succ zs k hlt)
      have hval := Hval.out zs[k] (List.getElem_mem hlt)
      obtain ⟨b, off, rfl, hb, hall⟩ := hr2.int_at k hlt
      have hcell := hall k hlt
      clear hall
      rw [getD_of_lt hlt] at hcell
      obtain ⟨c, hc⟩ : ∃ c, zs[k] = c := ⟨_, rfl⟩
      rw [hc] at hcell hval hsucc
      clear hc
      have HP := rplain_c c wr
      obtain ⟨T, hT⟩ : ∃ T, T = 34 :: bodyL (zs.take k) := ⟨_, rfl⟩
      rw [← hT]
      have HT := Lib.hid hT
      have hTl : T.length ≤ 46000000 := by
        have := body_len (zs.take k)
        rw [hT]
        simp only [List.length_cons, List.length_take] at *
        omega
      clear hT
      cases hp : plainB c
      · rw [hp] at HP
        obtain ⟨hv0, hv1⟩ := valid_bound hval
        obtain ⟨n, rfl⟩ := Int.eq_ofNat_of_zero_le hv0
        have hq : qb (n : Int) = escL n := by unfold qb; rw [if_neg (by simp [hp])]; simp
        rw [hq] at hsucc
        have HP1 := Lib.hid HP
        have HE := Lib.hid (rhex_c n wr (by omega))
        have hXl := hexL_len n
        have Hs := Lib.hid hsucc
        clear hval hp hq hsucc HP hv0
        go_wp2_with fail
        refine HP1.out.mono ?_
        rintro e w' ⟨rfl, rfl⟩
        go_wp2_with fail
        refine HE.out.mono ?_
        rintro e w2 ⟨rfl, rfl⟩
        go_wp2_with fail
        go_roundw
        case rel => exact ⟨k + 1, by omega, by go_num, by rw [Hs.out, ← List.cons_append, ← HT.out, esc_string, bytes_append], Hb.out⟩
        case measure => simp [intOf]; omega
      · rw [hp] at HP
        have hq : qb c = [UInt8.ofNat c.toNat] := by unfold qb; rw [if_pos hp]
        rw [hq] at hsucc
        obtain ⟨hp0, hp1⟩ := plain_bound hp
        obtain ⟨n, rfl⟩ := Int.eq_ofNat_of_zero_le hp0
        have HP1 := Lib.hid HP
        have hw8 : IntKind.u8.wrap (n : Int) = n := IntWalk.u8_in _ (by omega)
        have hcv := one_byte8 wr n (by omega)
        have Hs := Lib.hid hsucc
        clear hval hp hq hsucc HP
        go_wp2_with fail
        refine HP1.out.mono ?_
        rintro e w' ⟨rfl, rfl⟩
        go_wp2_with fail
        go_roundw
        case rel => exact ⟨k + 1, by omega, by go_num, by rw [Hs.out, ← List.cons_append, ← HT.out, bytes_append]; rfl, (Hb.out.alloc Hb.out.size _)⟩
        case measure => simp [intOf]; omega
    · have : k = zs.length := by omega
      subst this
      have hTl : (34 :: bodyL (zs.take zs.length)).length ≤ 46000000 := by
        have := body_len (zs.take zs.length)
        simp only [List.length_cons, List.length_take] at *
        omega
      obtain ⟨T, hT⟩ : ∃ T, T = 34 :: bodyL (zs.take zs.length) := ⟨_, rfl⟩
      rw [← hT] at hTl ⊢
      have HT := Lib.hid hT
      clear hT
      go_wp2_with fail
      go_ret2
      refine ⟨?_, Hb.out⟩
      refine congrArg (fun s => Ending.returned (Value.tuple #[Value.string s, Value.int .i64 0])) ?_
      rw [quoteL_eq, ← HT.out, show (⟨#[34]⟩ : ByteArray) = ⟨[34].toArray⟩ from rfl, bytes_append]

end Go.Proofs.YtmhgbocejjnoaaaDoor
/- Walks: the reference of node: Size. -/
namespace Go.Proofs.YtmhgbocejjnoaaaDoor
open Go.RowKit Go.Redl
set_option linter.unusedVariables false

set_option maxRecDepth 100000 in
set_option maxHeartbeats 1000000 in
theorem rsize_c (m : Nat) : ∀ (n : NodeD) (v : Value) (w : World), n.wt ≤ m → n.wt ≤ 100000000 → NodeV w w.heap.size n v →
    Calls Tryd.prog 41 #[v] w fun e w' => e = .returned (.int .i64 (sizeN n)) ∧ Below w.heap.size w w' := by
  induction m with
  | zero => intro n v w hm; have := wt_pos n; omega
  | succ m ih =>
    intro n v w hm hn hv
    obtain ⟨l, ps, t, ks⟩ := n
    obtain ⟨ap, cp, at_, ct, ak, ck, css, rfl, hp, ht, hk, hc⟩ := hv.open
    have IH := Lib.hid ih
    have hwt : 1 + propsWt ps + t.length + wtAll ks = (NodeD.mk l ps t ks).wt := rfl
    have hw1 : t.length ≤ 100000000 := by omega
    have hw2 : wtAll ks ≤ 100000000 := by omega
    have hw3 : wtAll ks ≤ m := by omega
    have hkl := wtAll_len ks
    have hs0 : sizeK ks ≤ wtAll ks := sizeK_le ks
    have Hsz : Hid (sizeN (.mk l ps t ks) = 1 + t.length + sizeK ks) := rfl
    clear ih hv hp ht hwt hm hn
    go_enter Tryd.func41, Tryd.ntmps41
    go_wp2_with fail
    go_loopw [3, 13] (fun s i wr => ∃ k : Nat, k ≤ ks.length ∧ i = .int .i64 k ∧ s = .int .i64 ((1 + t.length + sizeK (ks.take k) : Nat) : Int) ∧ Below w.heap.size w wr) (fun _ i _ => ks.length - (intOf i).toNat)
    case atStart => exact ⟨0, Nat.zero_le _, rfl, by simp [sizeK], (Below.refl _ _).alloc (Nat.le_refl _) _⟩
    case round =>
      obtain ⟨k, hkn, rfl, rfl, hbel⟩ := hrel
      have hr2 := hk.keep hbel hbel.size
      have hc2 := KidsC.keep hbel hbel.size ks css hc
      have Hb := Lib.hid hbel
      clear hbel
      by_cases hlt : k < ks.length
      · have Hss := Lib.hid (sizeK_succ hlt)
        have hkw := wtAll_mem (List.getElem_mem hlt)
        obtain ⟨b, off, l', a1, n1, c1, a2, n2, c2, a3, n3, c3, rfl, hb, hnc, g0, g1, g2, g3⟩ := hr2.kid_at hc2 k hlt
        have hsl : sizeK (ks.take (k + 1)) ≤ 100000000 := by
          have := sizeK_le (ks.take (k + 1)); have := wtAll_take ks (k + 1); omega
        generalize ks[k] = q at hnc hkw Hss
        rw [Hss.out] at hsl
        have hB := (((Below.refl wr.heap.size wr).alloc (Nat.le_refl _) (Obj.cells #[.bool l', .slice a1 n1 c1, .slice a2 n2 c2, .slice a3 n3 c3] 26)))
        have HC := Lib.hid (IH.out q (.agg #[.bool l', .slice a1 n1 c1, .slice a2 n2 c2, .slice a3 n3 c3]) _ (by omega) (by omega) ⟨_, rfl, NodeC.keep hB hB.size _ _ hnc⟩)
        go_wp2_with fail
        refine HC.out.mono ?_
        rintro e w2 ⟨rfl, hbel⟩
        have Hb2 := Lib.hid ((Hb.out.alloc Hb.out.size _).trans (hbel.mono (by simp; have := Hb.out.size; omega)))
        clear hbel
        go_wp2_with fail
        go_roundw
        case rel => exact ⟨k + 1, by omega, by go_num, by rw [Hss.out]; go_num, Hb2.out⟩
        case measure => simp [intOf]; omega
      · obtain rfl : k = ks.length := by omega
        go_wp2_with fail
        go_ret
        exact ⟨ret_int (by rw [Hsz.out, List.take_length]), Hb.out⟩

end Go.Proofs.YtmhgbocejjnoaaaDoor

/- Walks: xpath's small, Move at no operation; dirty's marks at none. -/
import Derived.Test.YtiinmgccjlmoaaaRKI
import Derived.Test.YtiinmgccjlmoaaaRCR
namespace Go.Proofs.Ytiinmgccjlmoaaa
open Go.RowKit Go.Redl
set_option linter.unusedVariables false
set_option linter.unusedSimpArgs false

def bigB (z : Int) : Bool := decide (z < 0) || decide (1048576 < z)
/-- All numbers are 0 to the greatest one. -/
def smallB1 (l : List Int) : Bool := l.all fun z => !bigB z
set_option maxRecDepth 100000 in
set_option maxHeartbeats 1000000 in
theorem idx_int (n : Nat) (a : Option Addr) (cap cb : Nat) (caps : Array Value) (pred : Nat → Bool) (W : World) (hn : n ≤ 100000000) (hcb : ∀ args w, (callFunc cb args).run Try.prog w = .ok (.enter cb args) w)
    (H : ∀ (k : Nat) (W' : World), k < n → Below W.heap.size W W' → ∃ b off c0, a = some ⟨b, off, none⟩ ∧ W'.cell? ⟨b, off + k, none⟩ = some c0 ∧ Calls Try.prog cb (#[c0] ++ caps) W' fun e w' => e = .returned (.bool (pred k)) ∧ Below W'.heap.size W' w') :
    Calls Try.prog 139 #[.slice a n cap, .func (.func cb) #[] caps] W fun e w' => e = .returned (.int .i64 (idxP pred n)) ∧ Below W.heap.size W w' := by
  have HH := Lib.hid H
  clear H
  go_enter Try.func139, Try.ntmps139
  go_wp2_with fail
  go_loopg [8] n (fun g i wr => ∃ k : Nat, k + g = n ∧ i = .int .i64 k ∧ (∀ j, j < k → pred j = false) ∧ Below W.heap.size W wr)
  case atStart => exact ⟨0, by omega, rfl, by intro j hj; omega, Below.refl _ _⟩
  case round =>
    obtain ⟨k, hg, rfl, hb, hbr⟩ := hrel
    have Hbr := Lib.hid hbr; have Hb := Lib.hid hb
    by_cases hlt : k < n
    · obtain ⟨b, off, c0, rfl, h0, hC⟩ := HH.out k wr hlt hbr
      have hlti : (k : Int) < n := by omega
      clear hb hbr HH
      cases hp : pred k with
      | true =>
        rw [hp] at hC
        have HC := Lib.hid hC
        have Hr := Lib.hid (idxP_some hlt hp Hb.out)
        clear hC hp
        go_wp2_with fail
        refine HC.out.mono ?_
        rintro e w1 ⟨rfl, hbel⟩
        have Hb1 := Lib.hid (Hbr.out.trans (hbel.mono Hbr.out.size))
        clear hbel HC
        go_wp2_with fail
        go_ret
        exact ⟨ret_int Hr.out.symm, Hb1.out⟩
      | false =>
        rw [hp] at hC
        have HC := Lib.hid hC
        have Hr := Lib.hid (show ∀ j, j < k + 1 → pred j = false from fun j hj => by
          rcases Nat.lt_or_ge j k with h | h
          · exact Hb.out j h
          · obtain rfl : j = k := by omega
            exact hp)
        clear hC hp
        go_wp2_with fail
        refine HC.out.mono ?_
        rintro e w1 ⟨rfl, hbel⟩
        have Hb1 := Lib.hid (Hbr.out.trans (hbel.mono Hbr.out.size))
        clear hbel HC
        go_wp2_with fail
        go_roundg (gk - 1)
        case measure => omega
        case rel => exact ⟨k + 1, by omega, by go_num, Hr.out, Hb1.out⟩
    · obtain rfl : k = n := by omega
      have Hr := Lib.hid (idxP_none hb)
      clear hb hbr HH
      go_wp2_with fail
      go_ret
      exact ⟨ret_int Hr.out.symm, Hbr.out⟩

theorem small1_ent : ∀ args w, (callFunc 125 args).run Try.prog w = .ok (.enter 125 args) w := by intro args w; kernel_rfl
set_option maxRecDepth 100000 in
theorem small1_c (z : Int) (W : World) : Calls Try.prog 125 #[.int .i64 z] W fun e w' => e = .returned (.bool (bigB z)) ∧ Below W.heap.size W w' := by
  unfold bigB
  by_cases h : z < 0
  · have H := Lib.hid h
    go_enter Try.func125, Try.ntmps125
    go_wp2_with fail
    go_ret
    exact ⟨ret_bool (by simp [H.out]), Below.refl _ _⟩
  · have H := Lib.hid h
    have hd : decide (z < 0) = false := decide_eq_false h
    go_enter Try.func125, Try.ntmps125
    go_wp2_with fail
    go_ret
    exact ⟨ret_bool (by simp [H.out]), Below.refl _ _⟩
theorem cfint_ent : ∀ args w, (callFunc 124 args).run Try.prog w = .ok (.enter 124 args) w := by intro args w; kernel_rfl
theorem small_ent : ∀ args w, (callFunc 106 args).run Try.prog w = .ok (.enter 106 args) w := by intro args w; kernel_rfl
theorem smallB1_idx (l : List Int) : decide (0 ≤ idxP (fun k => bigB (l.getD k 0)) l.length) = !smallB1 l := by
  unfold smallB1
  rcases idxP_cases (fun k => bigB (l.getD k 0)) l.length with ⟨k, hk, h1, -, he⟩ | ⟨h1, he⟩
  · rw [he]
    have : l.all (fun z => !bigB z) = false := by
      rw [List.all_eq_false]
      refine ⟨l[k], List.getElem_mem hk, ?_⟩
      rw [getD_of_lt hk] at h1
      simp [h1]
    rw [this]; simp
  · rw [he]
    have : l.all (fun z => !bigB z) = true := by
      rw [List.all_eq_true]
      intro z hz
      obtain ⟨k, hk, rfl⟩ := List.mem_iff_getElem.1 hz
      have := h1 k hk
      rw [getD_of_lt hk] at this
      simp [this]
    rw [this]; rfl
set_option maxRecDepth 100000 in
theorem cfint_c (xs : List Int) (a : Option Addr) (cap B : Nat) (W : World) (hr : RowA W B 1 a xs.length cap (xs.map (Value.int .i64))) (hB : B ≤ W.heap.size) (hn : xs.length ≤ 100000000) :
    Calls Try.prog 124 #[.slice a xs.length cap, .func (.func 125) #[] #[]] W fun e w' => e = .returned (.bool (!smallB1 xs)) ∧ Below W.heap.size W w' := by
  have HI := Lib.hid (idx_int xs.length a cap 125 #[] (fun k => bigB (xs.getD k 0)) W hn small1_ent fun k W' hk hb => by
    obtain ⟨b, off, rfl, hlt, hc⟩ := hr.int_at k hk
    exact ⟨b, off, .int .i64 (xs.getD k 0), rfl, (hb.cell (by exact Nat.lt_of_lt_of_le hlt hB)).trans (hc k hk), small1_c _ W'⟩)
  have Hd := Lib.hid (smallB1_idx xs)
  generalize idxP (fun k => bigB (xs.getD k 0)) xs.length = z at HI Hd
  clear hr
  go_enter Try.func124, Try.ntmps124
  go_wp2_with fail
  refine HI.out.mono ?_
  rintro e w1 ⟨rfl, hbel⟩
  have Hb := Lib.hid hbel
  clear hbel HI
  go_wp2_with fail
  go_ret
  exact ⟨ret_bool Hd.out, Hb.out⟩
set_option maxRecDepth 100000 in
theorem small_c (xs : List Int) (a : Option Addr) (cap B : Nat) (W : World) (hr : RowA W B 1 a xs.length cap (xs.map (Value.int .i64))) (hB : B ≤ W.heap.size) (hn : xs.length ≤ 100000000) :
    Calls Try.prog 106 #[.slice a xs.length cap] W fun e w' => e = .returned (.bool (smallB1 xs)) ∧ Below W.heap.size W w' := by
  have HI := Lib.hid (cfint_c xs a cap B W hr hB hn)
  clear hr
  generalize smallB1 xs = z at HI ⊢
  go_enter Try.func106, Try.ntmps106
  go_wp2_with fail
  refine HI.out.mono ?_
  rintro e w1 ⟨rfl, hbel⟩
  have Hb := Lib.hid hbel
  clear hbel HI
  go_wp2_with fail
  go_ret
  exact ⟨ret_bool (by simp), Hb.out⟩
theorem stands_ent : ∀ args w, (callFunc 107 args).run Try.prog w = .ok (.enter 107 args) w := by intro args w; kernel_rfl
set_option maxRecDepth 100000 in
theorem stands0_c (v : Value) (W : World) : Calls Try.prog 107 #[.slice none 0 0, v] W fun e w' => e = .returned (.int .i64 0) ∧ w' = W := by
  go_enter Try.func107, Try.ntmps107
  go_wp2_with fail
  go_ret
  exact ⟨rfl, rfl⟩

theorem move_ent : ∀ args w, (callFunc 74 args).run Try.prog w = .ok (.enter 74 args) w := by intro args w; kernel_rfl
/-- Where a path goes when nothing is done. -/
def MoveP (W : World) (p : List Int) (e : Ending) (w' : World) : Prop :=
  Below W.heap.size W w' ∧ if smallB1 p then ∃ v, e = .returned (.tuple #[v, .bool true]) ∧ w'.ownsRow W.heap.size 3 1 v p.length (p.map (Value.int .i64)) else e = .returned (.tuple #[.slice none 0 0, .bool false])
set_option maxRecDepth 100000 in
set_option maxHeartbeats 1000000 in
theorem move0_c (xs : List Int) (a : Option Addr) (cap B : Nat) (W : World) (hr : RowA W B 1 a xs.length cap (xs.map (Value.int .i64))) (hB : B ≤ W.heap.size) (hn : xs.length ≤ 100000000) :
    Calls Try.prog 74 #[.slice a xs.length cap, .agg #[.int .i64 0, .slice none 0 0, .slice none 0 0, .int .i64 0, .bool false, .slice none 0 0, .slice none 0 0, .slice none 0 0, .slice none 0 0, .slice none 0 0, .slice none 0 0, .bool false, .slice none 0 0, .int .i64 0, .slice none 0 0, .int .i64 0, .bool false, .slice none 0 0, .int .i64 0, .slice none 0 0, .int .i64 0]] W (MoveP W xs) := by
  obtain ⟨w0, hw0⟩ : ∃ w0, w0 = W.alloc (Obj.cells #[.int .i64 0, .slice none 0 0, .slice none 0 0, .int .i64 0, .bool false, .slice none 0 0, .slice none 0 0, .slice none 0 0, .slice none 0 0, .slice none 0 0, .slice none 0 0, .bool false, .slice none 0 0, .int .i64 0, .slice none 0 0, .int .i64 0, .bool false, .slice none 0 0, .int .i64 0, .slice none 0 0, .int .i64 0] 62) := ⟨_, rfl⟩
  have hb0 : Below W.heap.size W w0 := by rw [hw0]; exact one_below _ _
  have hA : At w0 W.heap.size [.int .i64 0, .slice none 0 0, .slice none 0 0, .int .i64 0, .bool false, .slice none 0 0, .slice none 0 0, .slice none 0 0, .slice none 0 0, .slice none 0 0, .slice none 0 0, .bool false, .slice none 0 0, .int .i64 0, .slice none 0 0, .int .i64 0, .bool false, .slice none 0 0, .int .i64 0, .slice none 0 0, .int .i64 0] 62 := by rw [hw0]; exact At.fresh W _ _
  have HS := Lib.hid (small_c xs a cap B w0 (hr.keep (hb0.mono hB) (Nat.le_refl _)) (Nat.le_trans hB hb0.size) hn)
  have HN := Lib.hid (fun (w1 : World) => small_c [] none 0 0 w1 (RowA.empty _ _ _) (Nat.zero_le _) (by simp))
  have HZ := Lib.hid (fun (w1 : World) (p : Option Addr) (hp : RowA w1 w1.heap.size 1 p 1 1 [.int .i64 0]) => small_c [0] p 1 w1.heap.size w1 hp (Nat.le_refl _) (by simp))
  have HT := Lib.hid (fun (w1 : World) => stands0_c (.slice a xs.length cap) w1)
  have HC := Lib.hid (fun (w1 : World) (hb : Below w0.heap.size w0 w1) => clone_int B xs.length a cap (xs.map (Value.int .i64)) w1 (hr.keep ((hb0.trans (hb.mono hb0.size)).mono hB) (Nat.le_refl _)) (Nat.le_trans hB (hb0.trans (hb.mono hb0.size)).size) hn)
  have e0 : smallB1 [] = true := rfl
  have e1 : smallB1 [0] = true := by decide
  rw [e0] at HN; rw [e1] at HZ
  have HA := Lib.hid hA; have Hb0 := Lib.hid hb0; have Hw0 := Lib.hid hw0
  unfold MoveP
  cases hsm : smallB1 xs with
  | false =>
    rw [hsm] at HS
    clear hr hb0 hA hw0 hsm e0 e1
    go_enter Try.func74, Try.ntmps74
    go_upto_region 1 with fail
    rw [← Hw0.out]
    clear Hw0
    go_wp2_with fail
    refine HS.out.mono ?_
    rintro e w1 ⟨rfl, hbel⟩
    have Hb1 := Lib.hid (Hb0.out.trans (hbel.mono Hb0.out.size))
    clear hbel HS HN HZ HT HC HA
    go_wp2_with fail
    go_ret2
    exact ⟨Hb1.out, rfl⟩
  | true =>
    rw [hsm] at HS
    have c0 := hA.cell 0 rfl; have c1 := hA.cell 1 rfl; have c2 := hA.cell 2 rfl; have c3 := hA.cell 3 rfl
    have cl := hA.lt
    clear hr hb0 hA hw0 hsm e0 e1
    go_enter Try.func74, Try.ntmps74
    go_upto_region 1 with fail
    rw [← Hw0.out]
    clear Hw0
    go_wp2_with fail
    refine HS.out.mono ?_
    rintro e w1 ⟨rfl, hbel⟩
    have hA1 := HA.out.kept hbel
    have d1 := hA1.cell 1 rfl; have dl := hA1.lt
    have Hb1 := Lib.hid hbel
    clear hbel HS hA1 c0 c1 c2 c3 cl
    go_wp2_with fail
    refine (HN.out w1).mono ?_
    rintro e w2 ⟨rfl, hbel⟩
    have Hb2 := Lib.hid (below_and Hb1.out hbel)
    have hA2 := HA.out.kept Hb2.out
    have f2 := hA2.cell 2 rfl; have fl := hA2.lt
    clear hbel hA2 d1 dl
    go_wp2_with fail
    refine (HN.out w2).mono ?_
    rintro e w3 ⟨rfl, hbel⟩
    have Hb3 := Lib.hid (below_and Hb2.out hbel)
    have hA3 := HA.out.kept Hb3.out
    have g3 := hA3.cell 3 rfl; have gl := hA3.lt
    clear hbel hA3 f2 fl HN
    go_wp2_with fail
    refine (HZ.out _ _ (row_one w3 (.int .i64 0) 3 _ rfl (by simp))).mono ?_
    rintro e w4 ⟨rfl, hbel⟩
    have Hb4 := Lib.hid (below_and (Hb3.out.trans ((one_below w3 (Obj.cells #[Value.int .i64 0] 3)).mono Hb3.out.size)) hbel)
    have hA4 := HA.out.kept Hb4.out
    have k1 := hA4.cell 1 rfl; have kl := hA4.lt
    clear hbel hA4 g3 gl HZ
    go_wp2_with fail
    refine (HT.out w4).mono ?_
    rintro e w5 ⟨rfl, rfl⟩
    clear HT k1 kl
    go_wp2_with fail
    refine (HC.out w5 Hb4.out).mono ?_
    rintro e w6 ⟨v, rfl, hown, hbel⟩
    obtain ⟨va, vc, hv, -⟩ := rowq_own hown (ints_one .i64 xs)
    subst hv
    have Hown := Lib.hid hown; have Hb6 := Lib.hid (Hb0.out.trans ((below_and Hb4.out hbel).mono Hb0.out.size))
    have Hs4 := Lib.hid (Hb0.out.trans (Hb4.out.mono Hb0.out.size)).size
    clear hown hbel HC
    go_wp2_with fail
    go_ret2
    exact ⟨Hb6.out, _, rfl, own_from Hown.out Hs4.out⟩

end Go.Proofs.Ytiinmgccjlmoaaa

/- Parts of the proof, one behind the other: RKF, RKG, RKH, RCX, RCY, RKI, RKJ, RTrim, RN3, RR2, RR3, RW1, RF1, RR1, RR4, RR5, RW2, RW3, RW4. -/
import Derived.Test.YtaopoincbigjhaaGreatDoorFC7
import Derived.Test.YtaopoincbigjhaaGreatDoorFC3
import Derived.Test.YtaopoincbigjhaaGreatDoorFC4
import Derived.Shelf.Strings.SlTrimAscii
import Derived.Test.YtaopoincbigjhaaGreatDoorProg
import Derived.Test.YtaopoincbigjhaaGreatDoorFC1
import Derived.Test.YtaopoincbigjhaaGreatDoorFC2
import Derived.Laws.Cover1
import Derived.Lib.SlTrimSet
import Derived.Laws.BytesArg
import Derived.Deep.RegionWith
import Derived.Test.YtaopoincbigjhaaGreatDoorFC5
/- Walks: slices.SortFunc at rows of paths. -/
namespace Go.Proofs.YtaopoincbigjhaaGreatDoor
open Go.RowKit Go.Redl Go.Sort Go.Shelf
set_option linter.unusedVariables false

section
variable {α : Type} [Inhabited α]
end

end Go.Proofs.YtaopoincbigjhaaGreatDoor
/- Plain words: lists of paths in order, none twice; walk: dirty's set. -/
namespace Go.Proofs.YtaopoincbigjhaaGreatDoor
open Go.RowKit Go.Redl
set_option linter.unusedVariables false

end Go.Proofs.YtaopoincbigjhaaGreatDoor
/- Walks: dirty's set, elements; a row of paths copied. -/
namespace Go.Proofs.YtaopoincbigjhaaGreatDoor
open Go.RowKit Go.Redl
set_option linter.unusedVariables false

theorem PxQ.own {w w' : World} {r : Option Nat} {L : Nat} {x : PX} (h : PxQ w (fun k => L ≤ k ∧ r ≠ some k) x) (hg : w.grownBy w' r) : PxQ w' (fun k => L ≤ k ∧ r ≠ some k) x :=
  RowQ.keep h hg.size (fun k hk hlt => hg.block k hlt (fun e => hk.2 e.symm)) (fun _ h _ => h)
end Go.Proofs.YtaopoincbigjhaaGreatDoor
/- Walks: tree's paths: the function that calls itself. -/
namespace Go.Proofs.YtaopoincbigjhaaGreatDoor
open Go.RowKit Go.Redl
set_option linter.unusedVariables false

section
variable {tb ob eb cb B MX M : Nat} {caps : Array Value} {want : NodeD → Bool}

end

end Go.Proofs.YtaopoincbigjhaaGreatDoor
/- Walks: tree's paths, Paths. -/
namespace Go.Proofs.YtaopoincbigjhaaGreatDoor
open Go.RowKit Go.Redl
set_option linter.unusedVariables false

/-- A list of paths, made by the call. -/
def ListP (W : World) (L : List (List Int)) (e : Ending) (w' : World) : Prop :=
  ∃ a c cs, e = .returned (.slice a L.length c) ∧ RowQ w' (fun b => W.heap.size ≤ b) 1 a L.length c cs ∧ PathsQ w' (fun b => W.heap.size ≤ b) L cs ∧ Below W.heap.size W w'
/-- The same, its row its own. -/
def ListO (W : World) (L : List (List Int)) (e : Ending) (w' : World) : Prop :=
  ∃ v cs, e = .returned v ∧ w'.ownsRow W.heap.size 36 1 v L.length cs ∧ PathsQ w' (fun b => W.heap.size ≤ b ∧ v.ownBlock ≠ some b) L cs ∧ Below W.heap.size W w'
theorem ListO.p {W : World} {L : List (List Int)} {e : Ending} {w' : World} (h : ListO W L e w') : ListP W L e w' := by
  obtain ⟨v, cs, rfl, h1, h2, h3⟩ := h
  obtain ⟨a, c, rfl, hq⟩ := rowq_own h1 h2.one
  exact ⟨a, c, cs, rfl, hq, h2.keep (Nat.le_refl _) (fun _ _ _ => rfl) (fun b hb _ => hb.1), h3⟩
end Go.Proofs.YtaopoincbigjhaaGreatDoor
/- Walks: dirty's elements; rows of paths that are read, and copied; a path put behind a row. -/
namespace Go.Proofs.YtaopoincbigjhaaGreatDoor
open Go.RowKit Go.Redl
set_option linter.unusedVariables false

end Go.Proofs.YtaopoincbigjhaaGreatDoor
/- Walks: xpath's small, Move at no operation; dirty's marks at none. -/
namespace Go.Proofs.YtaopoincbigjhaaGreatDoor
open Go.RowKit Go.Redl
set_option linter.unusedVariables false
set_option linter.unusedSimpArgs false

def bigB (z : Int) : Bool := decide (z < 0) || decide (1048576 < z)
/-- All numbers are 0 to the greatest one. -/
def smallB1 (l : List Int) : Bool := l.all fun z => !bigB z
set_option maxRecDepth 100000 in
set_option maxHeartbeats 1000000 in
theorem idx_int (n : Nat) (a : Option Addr) (cap cb : Nat) (caps : Array Value) (pred : Nat → Bool) (W : World) (hn : n ≤ 100000000) (hcb : ∀ args w, (callFunc cb args).run Tryz.prog w = .ok (.enter cb args) w)
    (H : ∀ (k : Nat) (W' : World), k < n → Below W.heap.size W W' → ∃ b off c0, a = some ⟨b, off, none⟩ ∧ W'.cell? ⟨b, off + k, none⟩ = some c0 ∧ Calls Tryz.prog cb (#[c0] ++ caps) W' fun e w' => e = .returned (.bool (pred k)) ∧ Below W'.heap.size W' w') :
    Calls Tryz.prog 230 #[.slice a n cap, .func (.func cb) #[] caps] W fun e w' => e = .returned (.int .i64 (idxP pred n)) ∧ Below W.heap.size W w' := by
  have HH := Lib.hid H
  clear H
  go_enter Tryz.func230, Tryz.ntmps230
  go_wp2_with fail
  go_loopg [8] n (fun g i wr => ∃ k : Nat, k + g = n ∧ i = .int .i64 k ∧ (∀ j, j < k → pred j = false) ∧ Below W.heap.size W wr)
  case atStart => exact ⟨0, by omega, rfl, by intro j hj; omega, Below.refl _ _⟩
  case round =>
    obtain ⟨k, hg, rfl, hb, hbr⟩ := hrel
    have Hbr := Lib.hid hbr; have Hb := Lib.hid hb
    by_cases hlt : k < n
    · obtain ⟨b, off, c0, rfl, h0, hC⟩ := HH.out k wr hlt hbr
      have hlti : (k : Int) < n := by omega
      clear hb hbr HH
      cases hp : pred k with
      | true =>
        rw [hp] at hC
        have HC := Lib.hid hC
        have Hr := Lib.hid (idxP_some hlt hp Hb.out)
        clear hC hp
        go_wp2_with fail
        refine HC.out.mono ?_
        rintro e w1 ⟨rfl, hbel⟩
        have Hb1 := Lib.hid (Hbr.out.trans (hbel.mono Hbr.out.size))
        clear hbel HC
        go_wp2_with fail
        go_ret
        exact ⟨ret_int Hr.out.symm, Hb1.out⟩
      | false =>
        rw [hp] at hC
        have HC := Lib.hid hC
        have Hr := Lib.hid (show ∀ j, j < k + 1 → pred j = false from fun j hj => by
          rcases Nat.lt_or_ge j k with h | h
          · exact Hb.out j h
          · obtain rfl : j = k := by omega
            exact hp)
        clear hC hp
        go_wp2_with fail
        refine HC.out.mono ?_
        rintro e w1 ⟨rfl, hbel⟩
        have Hb1 := Lib.hid (Hbr.out.trans (hbel.mono Hbr.out.size))
        clear hbel HC
        go_wp2_with fail
        go_roundg (gk - 1)
        case measure => omega
        case rel => exact ⟨k + 1, by omega, by go_num, Hr.out, Hb1.out⟩
    · obtain rfl : k = n := by omega
      have Hr := Lib.hid (idxP_none hb)
      clear hb hbr HH
      go_wp2_with fail
      go_ret
      exact ⟨ret_int Hr.out.symm, Hbr.out⟩
theorem small1_ent : ∀ args w, (callFunc 183 args).run Tryz.prog w = .ok (.enter 183 args) w := by intro args w; kernel_rfl
set_option maxRecDepth 100000 in
theorem small1_c (z : Int) (W : World) : Calls Tryz.prog 183 #[.int .i64 z] W fun e w' => e = .returned (.bool (bigB z)) ∧ Below W.heap.size W w' := by
  unfold bigB
  by_cases h : z < 0
  · have H := Lib.hid h
    go_enter Tryz.func183, Tryz.ntmps183
    go_wp2_with fail
    go_ret
    exact ⟨ret_bool (by simp [H.out]), Below.refl _ _⟩
  · have H := Lib.hid h
    have hd : decide (z < 0) = false := decide_eq_false h
    go_enter Tryz.func183, Tryz.ntmps183
    go_wp2_with fail
    go_ret
    exact ⟨ret_bool (by simp [H.out]), Below.refl _ _⟩
theorem smallB1_idx (l : List Int) : decide (0 ≤ idxP (fun k => bigB (l.getD k 0)) l.length) = !smallB1 l := by
  unfold smallB1
  rcases idxP_cases (fun k => bigB (l.getD k 0)) l.length with ⟨k, hk, h1, -, he⟩ | ⟨h1, he⟩
  · rw [he]
    have : l.all (fun z => !bigB z) = false := by
      rw [List.all_eq_false]
      refine ⟨l[k], List.getElem_mem hk, ?_⟩
      rw [getD_of_lt hk] at h1
      simp [h1]
    rw [this]; simp
  · rw [he]
    have : l.all (fun z => !bigB z) = true := by
      rw [List.all_eq_true]
      intro z hz
      obtain ⟨k, hk, rfl⟩ := List.mem_iff_getElem.1 hz
      have := h1 k hk
      rw [getD_of_lt hk] at this
      simp [this]
    rw [this]; rfl
set_option maxRecDepth 100000 in
theorem cfint_c (xs : List Int) (a : Option Addr) (cap B : Nat) (W : World) (hr : RowA W B 1 a xs.length cap (xs.map (Value.int .i64))) (hB : B ≤ W.heap.size) (hn : xs.length ≤ 100000000) :
    Calls Tryz.prog 182 #[.slice a xs.length cap, .func (.func 183) #[] #[]] W fun e w' => e = .returned (.bool (!smallB1 xs)) ∧ Below W.heap.size W w' := by
  have HI := Lib.hid (idx_int xs.length a cap 183 #[] (fun k => bigB (xs.getD k 0)) W hn small1_ent fun k W' hk hb => by
    obtain ⟨b, off, rfl, hlt, hc⟩ := hr.int_at k hk
    exact ⟨b, off, .int .i64 (xs.getD k 0), rfl, (hb.cell (by exact Nat.lt_of_lt_of_le hlt hB)).trans (hc k hk), small1_c _ W'⟩)
  have Hd := Lib.hid (smallB1_idx xs)
  generalize idxP (fun k => bigB (xs.getD k 0)) xs.length = z at HI Hd
  clear hr
  go_enter Tryz.func182, Tryz.ntmps182
  go_wp2_with fail
  refine HI.out.mono ?_
  rintro e w1 ⟨rfl, hbel⟩
  have Hb := Lib.hid hbel
  clear hbel HI
  go_wp2_with fail
  go_ret
  exact ⟨ret_bool Hd.out, Hb.out⟩
set_option maxRecDepth 100000 in
theorem small_c (xs : List Int) (a : Option Addr) (cap B : Nat) (W : World) (hr : RowA W B 1 a xs.length cap (xs.map (Value.int .i64))) (hB : B ≤ W.heap.size) (hn : xs.length ≤ 100000000) :
    Calls Tryz.prog 137 #[.slice a xs.length cap] W fun e w' => e = .returned (.bool (smallB1 xs)) ∧ Below W.heap.size W w' := by
  have HI := Lib.hid (cfint_c xs a cap B W hr hB hn)
  clear hr
  generalize smallB1 xs = z at HI ⊢
  go_enter Tryz.func137, Tryz.ntmps137
  go_wp2_with fail
  refine HI.out.mono ?_
  rintro e w1 ⟨rfl, hbel⟩
  have Hb := Lib.hid hbel
  clear hbel HI
  go_wp2_with fail
  go_ret
  exact ⟨ret_bool (by simp), Hb.out⟩
end Go.Proofs.YtaopoincbigjhaaGreatDoor
/- strings.Trim at a set of ASCII bytes: its contract, laid by the kit (its shelf) at this program, in plain words. -/
namespace Go.Proofs
open Go.Shelf
def Tryz.lays160_ren : Go.Shelf.Ren := ⟨fun | 160 => 147 | 232 => 201 | 231 => 200 | 227 => 202 | 234 => 204 | 233 => 203 | 236 => 206 | 235 => 205 | 228 => 239 | 271 => 242 | 151 => 241 | 197 => 240 | 120 => 261 | 152 => 260 | 260 => 259 | 137 => 275 | 119 => 156 | 224 => 276 | 225 => 277 | 217 => 282 | 266 => 284 | n => n, fun | 9 => 9 | 4 => 4 | 3 => 3 | 5 => 5 | 117 => 238 | 116 => 237 | 0 => 0 | 124 => 241 | 21 => 21 | 105 => 275 | 46 => 185 | 119 => 301 | 139 => 304 | 138 => 303 | n => n, fun | 3 => 0 | 4 => 1 | n => n⟩
theorem Tryz.lays160 : Go.Proofs.Lays.n160 Tryz.prog Tryz.lays160_ren := {
  mixed := by kernel_rfl
  f119 := Tryz.func156.trans (congrArg some (by kernel_rfl))
  f120 := Tryz.func261.trans (congrArg some (by kernel_rfl))
  f137 := Tryz.func275.trans (congrArg some (by kernel_rfl))
  f151 := Tryz.func241.trans (congrArg some (by kernel_rfl))
  f152 := Tryz.func260.trans (congrArg some (by kernel_rfl))
  f160 := Tryz.func147.trans (congrArg some (by kernel_rfl))
  f197 := Tryz.func240.trans (congrArg some (by kernel_rfl))
  f217 := Tryz.func282.trans (congrArg some (by kernel_rfl))
  f224 := Tryz.func276.trans (congrArg some (by kernel_rfl))
  f225 := Tryz.func277.trans (congrArg some (by kernel_rfl))
  f227 := Tryz.func202.trans (congrArg some (by kernel_rfl))
  f228 := Tryz.func239.trans (congrArg some (by kernel_rfl))
  f231 := Tryz.func200.trans (congrArg some (by kernel_rfl))
  f232 := Tryz.func201.trans (congrArg some (by kernel_rfl))
  f233 := Tryz.func203.trans (congrArg some (by kernel_rfl))
  f234 := Tryz.func204.trans (congrArg some (by kernel_rfl))
  f235 := Tryz.func205.trans (congrArg some (by kernel_rfl))
  f236 := Tryz.func206.trans (congrArg some (by kernel_rfl))
  f260 := Tryz.func259.trans (congrArg some (by kernel_rfl))
  f266 := Tryz.func284.trans (congrArg some (by kernel_rfl))
  f271 := Tryz.func242.trans (congrArg some (by kernel_rfl))
  t0 := Tryz.underlying0
  a0 := Tryz.isAgg0
  z0 := Tryz.sizeOf0
  v0 := Tryz.zeroValue0
  t3 := Tryz.underlying3
  a3 := Tryz.isAgg3
  z3 := Tryz.sizeOf3
  v3 := Tryz.zeroValue3
  t4 := Tryz.underlying4
  a4 := Tryz.isAgg4
  z4 := Tryz.sizeOf4
  v4 := Tryz.zeroValue4
  t5 := Tryz.underlying5
  a5 := Tryz.isAgg5
  z5 := Tryz.sizeOf5
  v5 := Tryz.zeroValue5
  t9 := Tryz.underlying9
  a9 := Tryz.isAgg9
  z9 := Tryz.sizeOf9
  v9 := Tryz.zeroValue9
  t21 := Tryz.underlying21
  a21 := Tryz.isAgg21
  z21 := Tryz.sizeOf21
  v21 := Tryz.zeroValue21
  t46 := Tryz.underlying185
  a46 := Tryz.isAgg185
  z46 := Tryz.sizeOf185
  v46 := Tryz.zeroValue185
  t105 := Tryz.underlying275
  a105 := Tryz.isAgg275
  z105 := Tryz.sizeOf275
  v105 := Tryz.zeroValue275
  t116 := Tryz.underlying237
  a116 := Tryz.isAgg237
  z116 := Tryz.sizeOf237
  t117 := Tryz.underlying238
  a117 := Tryz.isAgg238
  z117 := Tryz.sizeOf238
  v117 := Tryz.zeroValue238
  t119 := Tryz.underlying301
  a119 := Tryz.isAgg301
  z119 := Tryz.sizeOf301
  t124 := Tryz.underlying241
  a124 := Tryz.isAgg241
  z124 := Tryz.sizeOf241
  v124 := Tryz.zeroValue241
  t138 := Tryz.underlying303
  a138 := Tryz.isAgg303
  z138 := Tryz.sizeOf303
  v138 := Tryz.zeroValue303
  t139 := Tryz.underlying304
  a139 := Tryz.isAgg304
  z139 := Tryz.sizeOf304
  v139 := Tryz.zeroValue304
  g3 := by kernel_rfl
  g4 := by kernel_rfl }
open Go.RowKit in
theorem Tryz.strings_Trim_set (s cutset : ByteArray) (w : World) (hs : s.size ≤ 9223372036854775807) (hcs : cutset.size < 4294967281) (hascii : ∀ (j : Nat) b, cutset.data.toList[j]? = some b → b.toNat < 128) :
    Calls Tryz.prog 147 #[.string s, .string cutset] w fun e w' => e = .returned (.string ⟨(Lib.trimS s.data.toList cutset.data.toList).toArray⟩) ∧ Below w.heap.size w w' := Any.strings_Trim_laid Tryz.lays160 (by kernel_rfl) s cutset w hs hcs hascii
end Go.Proofs
/- What is asked of trees: may one be, how it is written. Plain functions and their laws. -/
namespace Go.Proofs.YtaopoincbigjhaaGreatDoor
open Go.RowKit Go.Redl
set_option linter.unusedVariables false

def lowB (c : UInt8) : Bool := decide (97 ≤ c.toNat ∧ c.toNat ≤ 122)
def valcB (c : UInt8) : Bool := lowB c || decide (48 ≤ c.toNat ∧ c.toNat ≤ 57) || c == 45
def keyB (s : List UInt8) : Bool := decide (1 ≤ s.length ∧ s.length ≤ 16) && s.all lowB
def valB (s : List UInt8) : Bool := decide (s.length ≤ 32) && s.all valcB
def leB (a b : List UInt8) : Bool := Op.bytesLess a b || a == b
/-- The first thing wrong with properties, behind a key. -/
def propsGo : List UInt8 → List PropD → Int
  | _, [] => 0
  | last, p :: ps => if keyB p.1 && valB p.2 then (if leB p.1 last then 1 else propsGo p.1 ps) else 3
def propsE (ps : List PropD) : Int := if 16 < ps.length then 2 else propsGo [] ps
/-- The key ahead of the k-th. -/
def lastK (ps : List PropD) (k : Nat) : List UInt8 := match k with | 0 => [] | k + 1 => (ps.getD k ([], [])).1
theorem propsGo_step {ps : List PropD} {k : Nat} (h : k < ps.length) : propsGo (lastK ps k) (ps.drop k) = if keyB ps[k].1 && valB ps[k].2 then (if leB ps[k].1 (lastK ps k) then 1 else propsGo (lastK ps (k + 1)) (ps.drop (k + 1))) else 3 := by
  conv => lhs; rw [List.drop_eq_getElem_cons h]
  simp only [propsGo]
  rw [show lastK ps (k + 1) = ps[k].1 by show (ps.getD k ([], [])).1 = _; rw [getD_of_lt h]]
theorem propsGo_end {ps : List PropD} {l : List UInt8} : propsGo l (ps.drop ps.length) = 0 := by simp [propsGo]
/-- What is wrong with a node by itself. -/
def ownE (l : Bool) (ps : List PropD) (t : List Int) (m : Nat) : Int := if propsE ps ≠ 0 then propsE ps else if (l && decide (0 < m)) || (!l && decide (0 < t.length)) then 7 else checkE t
mutual
/-- The first thing wrong with a tree. -/
def nodeE : NodeD → Int
  | .mk l ps t ks => if ownE l ps t ks.length ≠ 0 then ownE l ps t ks.length else kidsE ks
def kidsE : List NodeD → Int
  | [] => 0
  | k :: ks => if nodeE k ≠ 0 then nodeE k else kidsE ks
end
mutual
def sizeN : NodeD → Nat
  | .mk _ _ t ks => 1 + t.length + sizeK ks
def sizeK : List NodeD → Nat
  | [] => 0
  | k :: ks => sizeN k + sizeK ks
end
mutual
theorem sizeN_le : ∀ n : NodeD, sizeN n ≤ n.wt
  | .mk l ps t ks => by have := sizeK_le ks; simp only [sizeN, NodeD.wt]; omega
theorem sizeK_le : ∀ ks : List NodeD, sizeK ks ≤ wtAll ks
  | [] => by simp [sizeK, wtAll]
  | k :: ks => by have := sizeN_le k; have := sizeK_le ks; simp only [sizeK, wtAll]; omega
end
theorem sizeK_append (a b : List NodeD) : sizeK (a ++ b) = sizeK a + sizeK b := by
  induction a with
  | nil => simp [sizeK]
  | cons k ks ih => simp only [List.cons_append, sizeK, ih]; omega
theorem propsWt_take (ps : List PropD) (k : Nat) : propsWt (ps.take k) ≤ propsWt ps := by
  induction ps generalizing k with
  | nil => simp
  | cons p ps ih =>
    cases k with
    | zero => simp [propsWt]
    | succ k => have := ih k; simp only [List.take_succ_cons, propsWt]; omega
end Go.Proofs.YtaopoincbigjhaaGreatDoor
/- Walks: the reference of prop: Key, Val, Check. -/
namespace Go.Proofs.YtaopoincbigjhaaGreatDoor
open Go.RowKit Go.Redl
set_option linter.unusedVariables false

end Go.Proofs.YtaopoincbigjhaaGreatDoor
/- Walks: the reference of prop: Check. -/
namespace Go.Proofs.YtaopoincbigjhaaGreatDoor
open Go.RowKit Go.Redl
set_option linter.unusedVariables false

end Go.Proofs.YtaopoincbigjhaaGreatDoor
/- Walks: prop's key, val. -/
namespace Go.Proofs.YtaopoincbigjhaaGreatDoor
open Go.RowKit Go.Redl
set_option linter.unusedVariables false

theorem dropWhile_all {α : Type} {p : α → Bool} : ∀ {l : List α}, (∀ x ∈ l.dropWhile p, p x = true) → ∀ x ∈ l, p x = true
  | [], _ => by simp
  | a :: l, h => by
    cases ha : p a with
    | true =>
      rw [List.dropWhile_cons_of_pos ha] at h
      intro x hx
      rcases List.mem_cons.1 hx with rfl | hx
      · exact ha
      · exact dropWhile_all h x hx
    | false =>
      rw [List.dropWhile_cons_of_neg (by simp [ha])] at h
      have := h a (by simp)
      rw [ha] at this; cases this
theorem dropWhile_none {α : Type} {p : α → Bool} : ∀ {l : List α}, (∀ x ∈ l, p x = true) → l.dropWhile p = []
  | [], _ => rfl
  | a :: l, h => by
    rw [List.dropWhile_cons_of_pos (h a (by simp))]
    exact dropWhile_none fun x hx => h x (by simp [hx])
theorem trim_nil (l cs : List UInt8) : Lib.trimS l cs = [] ↔ l.all (cs.contains ·) = true := by
  unfold Lib.trimS Lib.trimLeftS Lib.trimRightS
  rw [List.all_eq_true]
  constructor
  · intro h
    have h1 : ∀ x ∈ (l.reverse.dropWhile (cs.contains ·)).reverse, cs.contains x = true := dropWhile_all (by rw [h]; simp)
    have h2 : ∀ x ∈ l.reverse, cs.contains x = true := dropWhile_all fun x hx => h1 x (List.mem_reverse.2 hx)
    exact fun x hx => h2 x (by simpa using hx)
  · intro h
    rw [dropWhile_none (l := l.reverse) fun x hx => h x (by simpa using hx)]
    rfl
def lowSet : List UInt8 := [97, 98, 99, 100, 101, 102, 103, 104, 105, 106, 107, 108, 109, 110, 111, 112, 113, 114, 115, 116, 117, 118, 119, 120, 121, 122]
def valSet : List UInt8 := [97, 98, 99, 100, 101, 102, 103, 104, 105, 106, 107, 108, 109, 110, 111, 112, 113, 114, 115, 116, 117, 118, 119, 120, 121, 122, 48, 49, 50, 51, 52, 53, 54, 55, 56, 57, 45]
theorem low_set (c : UInt8) : lowSet.contains c = lowB c := by
  have h : ∀ n : Fin 256, lowSet.contains (UInt8.ofNat n.1) = lowB (UInt8.ofNat n.1) := by decide +kernel
  have := h ⟨c.toNat, c.toNat_lt⟩
  simpa using this
theorem val_set (c : UInt8) : valSet.contains c = valcB c := by
  have h : ∀ n : Fin 256, valSet.contains (UInt8.ofNat n.1) = valcB (UInt8.ofNat n.1) := by decide +kernel
  have := h ⟨c.toNat, c.toNat_lt⟩
  simpa using this
theorem all_set {s cs : List UInt8} {p : UInt8 → Bool} (h : ∀ c, cs.contains c = p c) : s.all (cs.contains ·) = s.all p := by
  congr 1; funext c; exact h c
/-- strings.Trim, at such a set: is nothing left? -/
theorem trim_c (s cs : List UInt8) (p : UInt8 → Bool) (hp : ∀ c, cs.contains c = p c) (hc : cs.length ≤ 1000) (ha : cs.all (fun b => decide (b.toNat < 128)) = true) (w : World) (hn : s.length ≤ 1000000000) :
    (s.all p = true → Calls Tryz.prog 147 #[.string ⟨s.toArray⟩, .string ⟨cs.toArray⟩] w fun e w' => e = .returned (.string ⟨#[]⟩) ∧ Below w.heap.size w w') ∧
    (s.all p = false → ∃ y ys, Calls Tryz.prog 147 #[.string ⟨s.toArray⟩, .string ⟨cs.toArray⟩] w fun e w' => e = .returned (.string ⟨(y :: ys).toArray⟩) ∧ Below w.heap.size w w') := by
  have h := Tryz.strings_Trim_set ⟨s.toArray⟩ ⟨cs.toArray⟩ w (by show s.length ≤ _; omega) (by show cs.length < _; omega) (fun j b hj => by
    rw [List.all_eq_true] at ha
    have : b ∈ cs := List.mem_of_getElem? (by simpa using hj)
    simpa using ha b this)
  have h0 := trim_nil s cs
  rw [all_set hp] at h0
  constructor
  · intro hs
    have : Lib.trimS (⟨s.toArray⟩ : ByteArray).data.toList (⟨cs.toArray⟩ : ByteArray).data.toList = [] := by simpa using h0.2 hs
    rw [this] at h
    exact h
  · intro hs
    have hne : Lib.trimS (⟨s.toArray⟩ : ByteArray).data.toList (⟨cs.toArray⟩ : ByteArray).data.toList ≠ [] := by
      intro he
      have := h0.1 (by simpa using he)
      rw [hs] at this; cases this
    obtain ⟨y, ys, hy⟩ := List.exists_cons_of_ne_nil hne
    rw [hy] at h
    exact ⟨y, ys, h⟩
set_option maxRecDepth 100000 in
set_option maxHeartbeats 1000000 in
theorem key_c (s : List UInt8) (w : World) (hn : s.length ≤ 1000000000) :
    Calls Tryz.prog 152 #[.string ⟨s.toArray⟩] w fun e w' => e = .returned (.bool (keyB s)) ∧ Below w.heap.size w w' := by
  have Hk : Hid (keyB s = (decide (1 ≤ s.length ∧ s.length ≤ 16) && s.all lowB)) := rfl
  obtain ⟨hT, hF⟩ := trim_c s lowSet lowB low_set (by decide) (by decide +kernel) w hn
  have HT := Lib.hid hT; have HF := Lib.hid hF
  clear hT hF
  cases s with
  | nil =>
    go_enter Tryz.func152, Tryz.ntmps152
    go_wp2_with fail
    go_ret
    exact ⟨ret_bool (by rw [Hk.out]; rfl), Below.refl _ _⟩
  | cons c r =>
    have hsz : (⟨(c :: r).toArray⟩ : ByteArray).size = r.length + 1 := rfl
    have hne : ((⟨(c :: r).toArray⟩ : ByteArray).toList.isEmpty) = false := by rw [ByteArray.toList_mk]; rfl
    have hne2 : (!(⟨(c :: r).toArray⟩ : ByteArray).toList.isEmpty) = true := by rw [ByteArray.toList_mk]; rfl
    obtain ⟨S, hS⟩ : ∃ S, S = (⟨(c :: r).toArray⟩ : ByteArray) := ⟨_, rfl⟩
    rw [← hS] at hsz hne hne2 HT HF ⊢
    by_cases h16 : 16 < r.length + 1
    · have Hz : Hid (keyB (c :: r) = false) := by
        show keyB _ = false
        rw [Hk.out, decide_eq_false (by simp only [List.length_cons]; omega)]; rfl
      clear hS HT HF
      go_enter Tryz.func152, Tryz.ntmps152
      go_wp2_with fail
      go_ret
      exact ⟨ret_bool Hz.out.symm, Below.refl _ _⟩
    · have Hk2 : Hid (keyB (c :: r) = (c :: r).all lowB) := by
        show keyB _ = _
        rw [Hk.out, decide_eq_true (by simp only [List.length_cons]; omega)]; simp
      cases hall : (c :: r).all lowB with
      | true =>
        have HC := Lib.hid (HT.out hall)
        rw [hall] at Hk2
        clear hS HT HF hall
        go_enter Tryz.func152, Tryz.ntmps152
        go_wp2_with fail
        refine HC.out.mono ?_
        rintro e w1 ⟨rfl, hb⟩
        have Hb := Lib.hid hb
        clear hb
        go_wp2_with fail
        go_ret
        exact ⟨ret_bool Hk2.out.symm, Hb.out⟩
      | false =>
        obtain ⟨y, ys, hC⟩ := HF.out hall
        have HC := Lib.hid hC
        rw [hall] at Hk2
        have hn2 : ((⟨(y :: ys).toArray⟩ : ByteArray).toList.isEmpty) = false := by rw [ByteArray.toList_mk]; rfl
        clear hS HT HF hall hC
        go_enter Tryz.func152, Tryz.ntmps152
        go_wp2_with fail
        refine HC.out.mono ?_
        rintro e w1 ⟨rfl, hb⟩
        have Hb := Lib.hid hb
        clear hb
        go_wp2_with fail
        go_ret
        exact ⟨ret_bool Hk2.out.symm, Hb.out⟩
set_option maxRecDepth 100000 in
set_option maxHeartbeats 1000000 in
theorem val_c (s : List UInt8) (w : World) (hn : s.length ≤ 1000000000) :
    Calls Tryz.prog 153 #[.string ⟨s.toArray⟩] w fun e w' => e = .returned (.bool (valB s)) ∧ Below w.heap.size w w' := by
  have Hk : Hid (valB s = (decide (s.length ≤ 32) && s.all valcB)) := rfl
  obtain ⟨hT, hF⟩ := trim_c s valSet valcB val_set (by decide) (by decide +kernel) w hn
  have HT := Lib.hid hT; have HF := Lib.hid hF
  have hsz : (⟨s.toArray⟩ : ByteArray).size = s.length := rfl
  clear hT hF
  obtain ⟨S, hS⟩ : ∃ S, S = (⟨s.toArray⟩ : ByteArray) := ⟨_, rfl⟩
  rw [← hS] at hsz HT HF ⊢
  clear hS
  by_cases h32 : 32 < s.length
  · have Hz : Hid (valB s = false) := by
      show valB _ = false
      rw [Hk.out, decide_eq_false (by omega)]; rfl
    clear HT HF
    go_enter Tryz.func153, Tryz.ntmps153
    go_wp2_with fail
    go_ret
    exact ⟨ret_bool Hz.out.symm, Below.refl _ _⟩
  · have Hk2 : Hid (valB s = s.all valcB) := by
      show valB _ = _
      rw [Hk.out, decide_eq_true (by omega)]; simp
    cases hall : s.all valcB with
    | true =>
      have HC := Lib.hid (HT.out hall)
      rw [hall] at Hk2
      clear HT HF hall
      go_enter Tryz.func153, Tryz.ntmps153
      go_wp2_with fail
      refine HC.out.mono ?_
      rintro e w1 ⟨rfl, hb⟩
      have Hb := Lib.hid hb
      clear hb
      go_wp2_with fail
      go_ret
      exact ⟨ret_bool Hk2.out.symm, Hb.out⟩
    | false =>
      obtain ⟨y, ys, hC⟩ := HF.out hall
      have HC := Lib.hid hC
      rw [hall] at Hk2
      have hn2 : ((⟨(y :: ys).toArray⟩ : ByteArray).toList.isEmpty) = false := by rw [ByteArray.toList_mk]; rfl
      clear HT HF hall hC
      go_enter Tryz.func153, Tryz.ntmps153
      go_wp2_with fail
      refine HC.out.mono ?_
      rintro e w1 ⟨rfl, hb⟩
      have Hb := Lib.hid hb
      clear hb
      go_wp2_with fail
      go_ret
      exact ⟨ret_bool Hk2.out.symm, Hb.out⟩
end Go.Proofs.YtaopoincbigjhaaGreatDoor
/- Walks: strconv.FormatInt at base 16; glyph.plain, glyph.escaped. -/
namespace Go.Proofs.YtaopoincbigjhaaGreatDoor
open Go.RowKit Go.Redl
set_option linter.unusedVariables false

end Go.Proofs.YtaopoincbigjhaaGreatDoor
/- Walks: the reference of glyph: how a text is written. -/
namespace Go.Proofs.YtaopoincbigjhaaGreatDoor
open Go.RowKit Go.Redl
set_option linter.unusedVariables false

end Go.Proofs.YtaopoincbigjhaaGreatDoor
/- Walks: the reference of node: Size. -/
namespace Go.Proofs.YtaopoincbigjhaaGreatDoor
open Go.RowKit Go.Redl
set_option linter.unusedVariables false

end Go.Proofs.YtaopoincbigjhaaGreatDoor
/- Walks: the reference of node: check, Check. -/
namespace Go.Proofs.YtaopoincbigjhaaGreatDoor
open Go.RowKit Go.Redl
set_option linter.unusedVariables false

theorem ownE_cases (l : Bool) (ps : List PropD) (t : List Int) (m : Nat) : ownE l ps t m = if propsE ps ≠ 0 then propsE ps else if (l && decide (0 < m)) || (!l && decide (0 < t.length)) then 7 else checkE t := rfl
end Go.Proofs.YtaopoincbigjhaaGreatDoor
/- Walks: prop.Check. -/
namespace Go.Proofs.YtaopoincbigjhaaGreatDoor
open Go.RowKit Go.Redl
set_option linter.unusedVariables false

set_option maxRecDepth 100000 in
set_option maxHeartbeats 2000000 in
theorem pcheck_c (v : Value) (B : Nat) (ps : List PropD) (w : World) (hv : ∃ a cap, v = .slice a ps.length cap ∧ RowA w B 2 a ps.length cap (propCells ps)) (hB : B ≤ w.heap.size) (hn : propsWt ps ≤ 1000000000) :
    Calls Tryz.prog 93 #[v] w fun e w' => e = .returned (.int .i64 (propsE ps)) ∧ Below w.heap.size w w' := by
  obtain ⟨a, cap, rfl, hr⟩ := hv
  have hm := props_len hr
  by_cases h16 : 16 < ps.length
  · have He : Hid (propsE ps = if 16 < ps.length then 2 else propsGo [] ps) := rfl
    go_enter Tryz.func93, Tryz.ntmps93
    go_wp2_with fail
    go_ret
    exact ⟨ret_int (by rw [He.out, if_pos h16]), Below.refl _ _⟩
  · have He : Hid (propsE ps = propsGo [] ps) := by
      show propsE ps = _
      unfold propsE; rw [if_neg h16]
    go_enter Tryz.func93, Tryz.ntmps93
    go_wp2_with fail
    go_loopw [3, 11] (fun s i wr => ∃ (k : Nat) (q : List UInt8), k ≤ ps.length ∧ i = .int .i64 k ∧ s = .string ⟨q.toArray⟩ ∧ q = lastK ps k ∧ propsGo q (ps.drop k) = propsE ps ∧ Below w.heap.size w wr) (fun _ i _ => ps.length - (intOf i).toNat)
    case atStart => exact ⟨0, [], Nat.zero_le _, rfl, rfl, rfl, by rw [He.out]; rfl, Below.refl _ _⟩
    case round =>
      obtain ⟨k, q, hk, rfl, rfl, hq, hp, hbel⟩ := hrel
      have hr2 := hr.keep (hbel.mono hB) (Nat.le_refl _)
      have Hp := Lib.hid hp
      have Hb := Lib.hid hbel
      have Hq := Lib.hid hq
      clear hp hbel hq
      by_cases hlt : k < ps.length
      · have Hstep := Lib.hid (propsGo_step hlt)
        rw [← Hq.out] at Hstep
        obtain ⟨b, off, rfl, hb, hc0, hc1⟩ := hr2.prop_at k hlt
        have hmem := propsWt_mem (List.getElem_mem hlt)
        have HK := Lib.hid (key_c ps[k].1)
        have HV := Lib.hid (val_c ps[k].2)
        have hla : Hid (lastK ps (k + 1) = ps[k].1) := by show (ps.getD k ([], [])).1 = _; rw [getD_of_lt hlt]
        generalize ps[k] = p at hc0 hc1 hmem HK HV Hstep hla
        obtain ⟨p1, p2⟩ := p
        simp only at hc0 hc1 hmem HK HV Hstep hla
        have hl1 : p1.length ≤ 1000000000 := by omega
        have hl2 : p2.length ≤ 1000000000 := by omega
        have HK1 := fun W => Lib.hid (HK.out W hl1)
        have HV1 := fun W => Lib.hid (HV.out W hl2)
        clear HK HV hmem
        cases hkey : keyB p1
        · simp only [hkey] at HK1
          go_wp2_with fail
          refine (HK1 _).out.mono ?_
          rintro e w1 ⟨rfl, hbel⟩
          have Hb1 := Lib.hid (below_then Hb.out (below_unbox (below_box hbel)) (Nat.le_refl _))
          clear hbel
          go_wp2_with fail
          go_ret
          exact ⟨ret_int (by rw [← Hp.out, Hstep.out, hkey]; simp), Hb1.out⟩
        · simp only [hkey] at HK1
          cases hval : valB p2
          · simp only [hval] at HV1
            go_wp2_with fail
            refine (HK1 _).out.mono ?_
            rintro e w1 ⟨rfl, hbel⟩
            obtain ⟨x0, x1⟩ := box2_keep (below_box hbel)
            have Hb1 := Lib.hid (below_then Hb.out (below_unbox (below_box hbel)) (Nat.le_refl _))
            clear hbel
            go_wp2_with fail
            refine (HV1 _).out.mono ?_
            rintro e w2 ⟨rfl, hbel⟩
            have Hb2 := Lib.hid (below_then Hb1.out hbel (Nat.le_refl _))
            clear hbel x0 x1
            go_wp2_with fail
            go_ret
            exact ⟨ret_int (by rw [← Hp.out, Hstep.out, hkey, hval]; simp), Hb2.out⟩
          · simp only [hval] at HV1
            have Hkv : Hid (propsE ps = if leB p1 q = true then 1 else propsGo (lastK ps (k + 1)) (ps.drop (k + 1))) := by
              show propsE ps = _
              rw [← Hp.out, Hstep.out, hkey, hval]; simp
            have Hle : Hid (leB p1 q = (Op.bytesLess p1 q || p1 == q)) := rfl
            clear hkey hval
            cases hx : Op.bytesLess p1 q
            · cases hy : (p1 == q)
              · have Hlb : Hid (leB p1 q = false) := by show leB p1 q = false; rw [Hle.out, hx, hy]; rfl
                go_wp2_with fail
                refine (HK1 _).out.mono ?_
                rintro e w1 ⟨rfl, hbel⟩
                obtain ⟨x0, x1⟩ := box2_keep (below_box hbel)
                have Hb1 := Lib.hid (below_then Hb.out (below_unbox (below_box hbel)) (Nat.le_refl _))
                have Hbx := Lib.hid (below_box hbel)
                clear hbel
                go_wp2_with fail
                refine (HV1 _).out.mono ?_
                rintro e w2 ⟨rfl, hbel⟩
                obtain ⟨y0, y1⟩ := box2_keep (below_then Hbx.out hbel (by simp))
                have Hb2 := Lib.hid (below_then Hb1.out hbel (Nat.le_refl _))
                clear hbel x0 x1
                go_wp2_with fail
                go_roundw
                case rel => exact ⟨k + 1, p1, by omega, by go_num, rfl, hla.out.symm, by rw [Hkv.out, hla.out, Hlb.out]; simp, Hb2.out⟩
                case measure => simp [intOf]; omega
              · have Hlb : Hid (leB p1 q = true) := by show leB p1 q = true; rw [Hle.out, hx, hy]; rfl
                go_wp2_with fail
                refine (HK1 _).out.mono ?_
                rintro e w1 ⟨rfl, hbel⟩
                obtain ⟨x0, x1⟩ := box2_keep (below_box hbel)
                have Hb1 := Lib.hid (below_then Hb.out (below_unbox (below_box hbel)) (Nat.le_refl _))
                have Hbx := Lib.hid (below_box hbel)
                clear hbel
                go_wp2_with fail
                refine (HV1 _).out.mono ?_
                rintro e w2 ⟨rfl, hbel⟩
                obtain ⟨y0, y1⟩ := box2_keep (below_then Hbx.out hbel (by simp))
                have Hb2 := Lib.hid (below_then Hb1.out hbel (Nat.le_refl _))
                clear hbel x0 x1
                go_wp2_with fail
                go_ret
                exact ⟨ret_int (by rw [Hkv.out, Hlb.out]; simp), Hb2.out⟩
            · have Hlb : Hid (leB p1 q = true) := by show leB p1 q = true; rw [Hle.out, hx]; rfl
              go_wp2_with fail
              refine (HK1 _).out.mono ?_
              rintro e w1 ⟨rfl, hbel⟩
              obtain ⟨x0, x1⟩ := box2_keep (below_box hbel)
              have Hb1 := Lib.hid (below_then Hb.out (below_unbox (below_box hbel)) (Nat.le_refl _))
              have Hbx := Lib.hid (below_box hbel)
              clear hbel
              go_wp2_with fail
              refine (HV1 _).out.mono ?_
              rintro e w2 ⟨rfl, hbel⟩
              obtain ⟨y0, y1⟩ := box2_keep (below_then Hbx.out hbel (by simp))
              have Hb2 := Lib.hid (below_then Hb1.out hbel (Nat.le_refl _))
              clear hbel x0 x1
              go_wp2_with fail
              go_ret
              exact ⟨ret_int (by rw [Hkv.out, Hlb.out]; simp), Hb2.out⟩
      · obtain rfl : k = ps.length := by omega
        go_wp2_with fail
        go_ret
        exact ⟨ret_int (by rw [← Hp.out, propsGo_end]), Hb.out⟩
end Go.Proofs.YtaopoincbigjhaaGreatDoor
/- Walks: node's own. -/
namespace Go.Proofs.YtaopoincbigjhaaGreatDoor
open Go.RowKit Go.Redl
set_option linter.unusedVariables false

set_option maxRecDepth 100000 in
set_option maxHeartbeats 2000000 in
theorem own_c (l : Bool) (ps : List PropD) (t : List Int) (ks : List NodeD) (v : Value) (B : Nat) (w : World) (hB : B ≤ w.heap.size) (hn : (NodeD.mk l ps t ks).wt ≤ 100000000) (hv : NodeV w B (.mk l ps t ks) v) :
    Calls Tryz.prog 47 #[v] w fun e w' => e = .returned (.int .i64 (ownE l ps t ks.length)) ∧ Below w.heap.size w w' := by
  obtain ⟨ap, cp, at_, ct, ak, ck, css, rfl, hp, ht, hk, hc⟩ := hv.open
  have hwt : 1 + propsWt ps + t.length + wtAll ks = (NodeD.mk l ps t ks).wt := rfl
  have hw4 : propsWt ps ≤ 1000000000 := by omega
  have hkl := wtAll_len ks
  have htl : t.length ≤ 100000000 := by omega
  have hkl2 : ks.length ≤ 100000000 := by omega
  have hB0 := ((Below.refl w.heap.size w).alloc (Nat.le_refl _) (Obj.cells #[.bool l, .slice ap ps.length cp, .slice at_ t.length ct, .slice ak ks.length ck] 35))
  have HP := Lib.hid (pcheck_c (.slice ap ps.length cp) w.heap.size ps (w.alloc (Obj.cells #[.bool l, .slice ap ps.length cp, .slice at_ t.length ct, .slice ak ks.length ck] 35)) ⟨ap, cp, rfl, hp.keep (hB0.mono hB) hB⟩ (by simp) hw4)
  have HT := fun W (hW : Below w.heap.size w W) => Lib.hid (check_c _ _ t W (ht.keep (hW.mono hB) (Nat.le_refl _)))
  have Ho := Lib.hid (ownE_cases l ps t ks.length)
  clear hv hp ht hwt hn hB0 hk hc
  by_cases hpe : propsE ps ≠ 0
  · have Hr : Hid (ownE l ps t ks.length = propsE ps) := by
      show ownE l ps t ks.length = _
      rw [Ho.out, if_pos hpe]
    have hne : (propsE ps != 0) = true := by simpa using hpe
    clear hpe
    go_enter Tryz.func47, Tryz.ntmps47
    go_wp2_with fail
    refine HP.out.mono ?_
    rintro e w1 ⟨rfl, hbel⟩
    have Hb := Lib.hid (below_unbox (below_box hbel))
    clear hbel HP
    go_wp2_with fail
    go_ret
    exact ⟨ret_int Hr.out.symm, Hb.out⟩
  · have hpe : propsE ps = 0 := by simpa using hpe
    rw [hpe] at HP
    cases hbad : (l && decide (0 < ks.length)) || (!l && decide (0 < t.length)) with
    | true =>
      have Hr : Hid (ownE l ps t ks.length = 7) := by
        show ownE l ps t ks.length = _
        rw [Ho.out, hpe, hbad]; rfl
      clear hpe
      cases l with
      | true =>
        have hb2 : 0 < ks.length := by simpa using hbad
        clear hbad
        go_enter Tryz.func47, Tryz.ntmps47
        go_wp2_with fail
        refine HP.out.mono ?_
        rintro e w1 ⟨rfl, hbel⟩
        obtain ⟨x0, x1, x2, x3⟩ := box_keep (below_box hbel)
        have Hb := Lib.hid (below_unbox (below_box hbel))
        clear hbel HP
        go_wp2_with fail
        go_ret
        exact ⟨ret_int Hr.out.symm, Hb.out⟩
      | false =>
        have hb2 : 0 < t.length := by simpa using hbad
        clear hbad
        go_enter Tryz.func47, Tryz.ntmps47
        go_wp2_with fail
        refine HP.out.mono ?_
        rintro e w1 ⟨rfl, hbel⟩
        obtain ⟨x0, x1, x2, x3⟩ := box_keep (below_box hbel)
        have Hb := Lib.hid (below_unbox (below_box hbel))
        clear hbel HP
        go_wp2_with fail
        go_ret
        exact ⟨ret_int Hr.out.symm, Hb.out⟩
    | false =>
      have Hr : Hid (ownE l ps t ks.length = checkE t) := by
        show ownE l ps t ks.length = _
        rw [Ho.out, hpe, hbad]; rfl
      clear hpe
      cases l with
      | true =>
        have hb2 : ks.length ≤ 0 := by simp at hbad; simp [hbad]
        clear hbad
        go_enter Tryz.func47, Tryz.ntmps47
        go_wp2_with fail
        refine HP.out.mono ?_
        rintro e w1 ⟨rfl, hbel⟩
        obtain ⟨x0, x1, x2, x3⟩ := box_keep (below_box hbel)
        have Hb := Lib.hid (below_unbox (below_box hbel))
        clear hbel HP
        go_wp2_with fail
        refine (HT _ Hb.out).out.mono ?_
        rintro e w2 ⟨rfl, rfl⟩
        go_wp2_with fail
        go_ret
        exact ⟨ret_int Hr.out.symm, Hb.out⟩
      | false =>
        have hb2 : t.length ≤ 0 := by simp at hbad; simp [hbad]
        clear hbad
        go_enter Tryz.func47, Tryz.ntmps47
        go_wp2_with fail
        refine HP.out.mono ?_
        rintro e w1 ⟨rfl, hbel⟩
        obtain ⟨x0, x1, x2, x3⟩ := box_keep (below_box hbel)
        have Hb := Lib.hid (below_unbox (below_box hbel))
        clear hbel HP
        go_wp2_with fail
        refine (HT _ Hb.out).out.mono ?_
        rintro e w2 ⟨rfl, rfl⟩
        go_wp2_with fail
        go_ret
        exact ⟨ret_int Hr.out.symm, Hb.out⟩
end Go.Proofs.YtaopoincbigjhaaGreatDoor
/- Walks: node's walk: a function asked at each node, in order, till it says no. -/
namespace Go.Proofs.YtaopoincbigjhaaGreatDoor
open Go.RowKit Go.Redl
set_option linter.unusedVariables false

section
variable {S : Type} (go : NodeD → Bool) (st : NodeD → S → S)
mutual
/-- What such a walk answers, and the state that it leaves. -/
def eachS : NodeD → S → Bool × S
  | .mk l ps t ks, s => if go (.mk l ps t ks) then kidsS ks (st (.mk l ps t ks) s) else (false, st (.mk l ps t ks) s)
def kidsS : List NodeD → S → Bool × S
  | [], s => (true, s)
  | k :: ks, s => if (eachS k s).1 then kidsS ks (eachS k s).2 else (false, (eachS k s).2)
end
theorem kidsS_step {ks : List NodeD} {k : Nat} {s : S} (h : k < ks.length) : kidsS go st (ks.drop k) s = if (eachS go st ks[k] s).1 then kidsS go st (ks.drop (k + 1)) (eachS go st ks[k] s).2 else (false, (eachS go st ks[k] s).2) := by
  conv => lhs; rw [List.drop_eq_getElem_cons h]
  simp only [kidsS]
end

/-- The asked function's contract. -/
def AskC {S : Type} (Φ : S → World → Prop) (bad : TypeId → Bool) (B cb : Nat) (caps : Array Value) (go : NodeD → Bool) (st : NodeD → S → S) (M : Nat) : Prop :=
  ∀ (n : NodeD) (v : Value) (s : S) (W : World), n.wt ≤ M → NodeV W B n v → B ≤ W.heap.size → Φ s W →
    Calls Tryz.prog cb (#[v] ++ caps) W fun e w' => e = .returned (.bool (go n)) ∧ Φ (st n s) w' ∧ Spares bad B W w'
/-- The walk's two variables. -/
def EnvAt (W : World) (tb eb cb : Nat) (caps : Array Value) : Prop :=
  W.heap[tb]? = some (Obj.cells #[.func (.func cb) #[] caps] 91 (0, 0)) ∧ W.heap[eb]? = some (Obj.cells #[.func (.func 90) #[] #[.pointer (some ⟨tb, 0, none⟩), .pointer (some ⟨eb, 0, none⟩)]] 91 (0, 0))
theorem EnvAt.keep {W W' : World} {tb eb cb B : Nat} {caps : Array Value} {bad : TypeId → Bool} (h : EnvAt W tb eb cb caps) (hs : Spares bad B W W') (hb : bad 91 = false) : EnvAt W' tb eb cb caps :=
  ⟨hs.block _ _ _ _ h.1 hb, hs.block _ _ _ _ h.2 hb⟩
theorem EnvAt.cells {W : World} {tb eb cb : Nat} {caps : Array Value} (h : EnvAt W tb eb cb caps) :
    W.cell? ⟨tb, 0, none⟩ = some (.func (.func cb) #[] caps) ∧ W.cell? ⟨eb, 0, none⟩ = some (.func (.func 90) #[] #[.pointer (some ⟨tb, 0, none⟩), .pointer (some ⟨eb, 0, none⟩)]) ∧ tb < W.heap.size ∧ eb < W.heap.size :=
  ⟨by rw [cell_of_row _ _ _ _ _ _ h.1]; rfl, by rw [cell_of_row _ _ _ _ _ _ h.2]; rfl, (Array.getElem?_eq_some_iff.1 h.1).1, (Array.getElem?_eq_some_iff.1 h.2).1⟩
/-- What a call of the walk's own function leaves. -/
def EachP {S : Type} (Φ : S → World → Prop) (bad : TypeId → Bool) (B : Nat) (W : World) (b : Bool) (s : S) (e : Ending) (w' : World) : Prop := e = .returned (.bool b) ∧ Φ s w' ∧ Spares bad B W w'
/-- What IndexFunc leaves there. -/
def IdxP {S : Type} (Φ : S → World → Prop) (bad : TypeId → Bool) (B : Nat) (W : World) (b : Bool) (s : S) (e : Ending) (w' : World) : Prop := ∃ i : Int, e = .returned (.int .i64 i) ∧ decide (0 ≤ i) = !b ∧ Φ s w' ∧ Spares bad B W w'
section
variable {S : Type} {Φ : S → World → Prop} {bad : TypeId → Bool} {B tb eb cb : Nat} {caps : Array Value} {go : NodeD → Bool} {st : NodeD → S → S} {M : Nat}

set_option maxRecDepth 100000 in
set_option maxHeartbeats 1000000 in
theorem kid_c (hΦ : ∀ s W W', Φ s W → Below W.heap.size W W' → Φ s W') (hbad : bad 91 = false) (q : NodeD) (v : Value) (s : S) (W : World) (hE : EnvAt W tb eb cb caps) (hv : NodeV W B q v) (hB : B ≤ W.heap.size) (hs : Φ s W)
    (hC : ∀ W', NodeV W' B q v → B ≤ W'.heap.size → EnvAt W' tb eb cb caps → Φ s W' → Calls Tryz.prog 90 #[v, .pointer (some ⟨tb, 0, none⟩), .pointer (some ⟨eb, 0, none⟩)] W' (EachP Φ bad B W' (eachS go st q s).1 (eachS go st q s).2)) :
    Calls Tryz.prog 92 #[v, .pointer (some ⟨eb, 0, none⟩)] W (EachP Φ bad B W (!(eachS go st q s).1) (eachS go st q s).2) := by
  have hv0 := hv
  obtain ⟨l, ps, t, ks⟩ := q
  obtain ⟨ap, cp, at_, ct, ak, ck, css, rfl, -, -, -, -⟩ := hv0.open
  generalize NodeD.mk l ps t ks = q at hv hC ⊢
  generalize eachS go st q s = r at hC ⊢
  obtain ⟨b, s'⟩ := r
  have hS0 : Spares bad B W (W.alloc (Obj.cells #[.bool l, .slice ap ps.length cp, .slice at_ t.length ct, .slice ak ks.length ck] 35)) := (Spares.refl hB).alloc hB _
  have HC := Lib.hid (hC _ (hv.keep hS0.below (Nat.le_refl _)) (Nat.le_trans hB hS0.size) (hE.keep hS0 hbad) (hΦ _ _ _ hs ((Below.refl _ _).alloc (Nat.le_refl _) _)))
  obtain ⟨e1, e2, l1, l2⟩ := hE.cells
  have HS0 := Lib.hid hS0
  clear hC hv0 hv hE hs hS0 e1
  go_enter Tryz.func92, Tryz.ntmps92
  go_wp2_with fail
  refine HC.out.mono ?_
  rintro e w1 ⟨rfl, hφ, hsp⟩
  have Hφ := Lib.hid hφ
  have HS := Lib.hid (HS0.out.trans hsp)
  clear hφ hsp HC
  go_wp2_with fail
  go_ret
  exact ⟨rfl, Hφ.out, HS.out⟩
set_option maxRecDepth 100000 in
set_option maxHeartbeats 1000000 in
theorem idxKids_c (ks : List NodeD) (a : Option Addr) (cap : Nat) (css : List Value) (s : S) (W : World) (hE : EnvAt W tb eb cb caps) (hbad : bad 91 = false) (hr : RowA W B 4 a ks.length cap css) (hk : KidsC W B ks css) (hB : B ≤ W.heap.size) (hs : Φ s W)
    (hC : ∀ (q : NodeD) (v : Value) (s : S) (W' : World), q ∈ ks → NodeV W' B q v → B ≤ W'.heap.size → EnvAt W' tb eb cb caps → Φ s W' → Calls Tryz.prog 92 #[v, .pointer (some ⟨eb, 0, none⟩)] W' (EachP Φ bad B W' (!(eachS go st q s).1) (eachS go st q s).2)) :
    Calls Tryz.prog 151 #[.slice a ks.length cap, .func (.func 92) #[] #[.pointer (some ⟨eb, 0, none⟩)]] W (IdxP Φ bad B W (kidsS go st ks s).1 (kidsS go st ks s).2) := by
  have HC := Lib.hid hC; have HE := Lib.hid hE
  have hm := props_len hr
  have Hst := fun (s' : S) (W' : World) (h : Φ s' W') => h
  have Hs := Lib.hid hs
  obtain ⟨R, hR⟩ : ∃ R, R = kidsS go st ks s := ⟨_, rfl⟩
  rw [← hR]
  have HR := Lib.hid hR
  clear hC hE hs Hst hR
  go_enter Tryz.func151, Tryz.ntmps151
  go_wp2_with fail
  go_loopw [8] (fun i wr => ∃ (k : Nat) (s' : S), k ≤ ks.length ∧ i = .int .i64 k ∧ kidsS go st (ks.drop k) s' = R ∧ Φ s' wr ∧ Spares bad B W wr) (fun i _ => ks.length - (intOf i).toNat)
  case atStart => exact ⟨0, s, Nat.zero_le _, rfl, HR.out.symm, Hs.out, Spares.refl hB⟩
  case round =>
    obtain ⟨k, s', hkn, rfl, hke, hφ, hsp⟩ := hrel
    have hr2 := hr.keep hsp.below (Nat.le_refl _)
    have hc2 := KidsC.keep hsp.below (Nat.le_refl _) ks css hk
    have Hke := Lib.hid hke; have Hφ := Lib.hid hφ; have Hsp := Lib.hid hsp
    clear hke hφ hsp
    by_cases hlt : k < ks.length
    · have Hss := Lib.hid (kidsS_step go st (s := s') hlt)
      have hmem := List.getElem_mem hlt
      obtain ⟨b, off, l', a1, n1, c1, a2, n2, c2, a3, n3, c3, rfl, hb, hnc, g0, g1, g2, g3⟩ := hr2.kid_at hc2 k hlt
      generalize ks[k] = q at hnc hmem Hss
      have HC1 := Lib.hid (HC.out q (.agg #[.bool l', .slice a1 n1 c1, .slice a2 n2 c2, .slice a3 n3 c3]) s' wr hmem ⟨_, rfl, hnc⟩ (Nat.le_trans hB Hsp.out.size) (HE.out.keep Hsp.out hbad) Hφ.out)
      have he : ∀ args w, (callFunc 92 args).run Tryz.prog w = .ok (.enter 92 args) w := by intro args w; kernel_rfl
      generalize eachS go st q s' = r at HC1 Hss
      obtain ⟨b', s2⟩ := r
      clear hmem hnc hr2 hc2
      cases b' with
      | true =>
        have HR2 : Hid (kidsS go st (ks.drop (k + 1)) s2 = R) := by
          show kidsS go st _ _ = R
          rw [← Hke.out, Hss.out]; rfl
        go_wp2_with fail
        refine HC1.out.mono ?_
        rintro e w1 ⟨rfl, hφ, hsp⟩
        have Hφ2 := Lib.hid hφ; have Hsp2 := Lib.hid (Hsp.out.trans hsp)
        clear hφ hsp
        go_wp2_with fail
        go_roundw
        case rel => exact ⟨k + 1, s2, by omega, by go_num, HR2.out, Hφ2.out, Hsp2.out⟩
        case measure => simp [intOf]; omega
      | false =>
        have HR2 : Hid ((false, s2) = R) := by
          show _ = R
          rw [← Hke.out, Hss.out]; rfl
        go_wp2_with fail
        refine HC1.out.mono ?_
        rintro e w1 ⟨rfl, hφ, hsp⟩
        have Hφ2 := Lib.hid hφ; have Hsp2 := Lib.hid (Hsp.out.trans hsp)
        clear hφ hsp
        go_wp2_with fail
        go_ret
        refine ⟨(k : Int), rfl, ?_, ?_, Hsp2.out⟩
        · rw [← HR2.out]; simp
        · rw [← HR2.out]; exact Hφ2.out
    · obtain rfl : k = ks.length := by omega
      have HR2 : Hid ((true, s') = R) := by
        show _ = R
        rw [← Hke.out, List.drop_length]; rfl
      go_wp2_with fail
      go_ret
      refine ⟨-1, rfl, ?_, ?_, Hsp.out⟩
      · rw [← HR2.out]; rfl
      · rw [← HR2.out]; exact Hφ.out
set_option maxRecDepth 100000 in
set_option maxHeartbeats 1000000 in
theorem hasKids_c (a : Option Addr) (n cap : Nat) (b : Bool) (s' : S) (W : World) (f : Value)
    (hC : Calls Tryz.prog 151 #[.slice a n cap, f] W (IdxP Φ bad B W b s')) :
    Calls Tryz.prog 91 #[.slice a n cap, f] W (EachP Φ bad B W (!b) s') := by
  have HC := Lib.hid hC
  clear hC
  go_enter Tryz.func91, Tryz.ntmps91
  go_wp2_with fail
  refine HC.out.mono ?_
  rintro e w1 ⟨i, rfl, hi, hφ, hsp⟩
  have Hφ := Lib.hid hφ; have Hsp := Lib.hid hsp; have Hi := Lib.hid hi
  clear hφ hsp hi HC
  go_wp2_with fail
  go_ret
  exact ⟨ret_bool Hi.out, Hφ.out, Hsp.out⟩
set_option maxRecDepth 100000 in
set_option maxHeartbeats 2000000 in
theorem each_c (hΦ : ∀ s W W', Φ s W → Below W.heap.size W W' → Φ s W') (hb1 : bad 91 = false) (hb2 : bad 35 = false) (hcb : ∀ args w, (callFunc cb args).run Tryz.prog w = .ok (.enter cb args) w) (hA : AskC Φ bad B cb caps go st M) (m : Nat) :
    ∀ (n : NodeD) (v : Value) (s : S) (W : World), n.wt ≤ m → n.wt ≤ M → NodeV W B n v → B ≤ W.heap.size → EnvAt W tb eb cb caps → Φ s W →
      Calls Tryz.prog 90 #[v, .pointer (some ⟨tb, 0, none⟩), .pointer (some ⟨eb, 0, none⟩)] W (EachP Φ bad B W (eachS go st n s).1 (eachS go st n s).2) := by
  induction m with
  | zero => intro n v s W hm; have := wt_pos n; omega
  | succ m ih =>
    intro n v s W hm hM hv hB hE hs
    have IH := Lib.hid ih
    have hv0 := hv
    obtain ⟨l, ps, t, ks⟩ := n
    obtain ⟨ap, cp, at_, ct, ak, ck, css, rfl, hp, ht, hk, hc⟩ := hv0.open
    have hwt : 1 + propsWt ps + t.length + wtAll ks = (NodeD.mk l ps t ks).wt := rfl
    have hw3 : ∀ q ∈ ks, q.wt ≤ m ∧ q.wt ≤ M := fun q hq => by have := wtAll_mem hq; omega
    have Hw3 := Lib.hid hw3
    have hR : Hid (eachS go st (.mk l ps t ks) s = if go (.mk l ps t ks) then kidsS go st ks (st (.mk l ps t ks) s) else (false, st (.mk l ps t ks) s)) := rfl
    have hS0 : Spares bad B W (W.alloc (Obj.cells #[.bool l, .slice ap ps.length cp, .slice at_ t.length ct, .slice ak ks.length ck] 35)) := (Spares.refl hB).alloc hB _
    have HA := Lib.hid (hA (.mk l ps t ks) _ s _ hM (hv.keep hS0.below (Nat.le_refl _)) (Nat.le_trans hB hS0.size) (hΦ _ _ _ hs ((Below.refl _ _).alloc (Nat.le_refl _) _)))
    obtain ⟨e1, e2, l1, l2⟩ := hE.cells
    have HS0 := Lib.hid hS0; have HE := Lib.hid hE
    have Hk := Lib.hid hk; have Hc := Lib.hid hc
    generalize st (.mk l ps t ks) s = s1 at HA hR
    obtain ⟨R, hRR⟩ : ∃ R, R = eachS go st (.mk l ps t ks) s := ⟨_, rfl⟩
    rw [← hRR]
    have HR : Hid (R = if go (.mk l ps t ks) then kidsS go st ks s1 else (false, s1)) := by
      show R = _
      rw [hRR, hR.out]
    clear hv0 hv hE hs hS0 hp ht hk hc hwt hw3 hm hM hR hRR ih hA
    cases hgo : go (.mk l ps t ks) with
    | false =>
      rw [hgo] at HA HR
      go_enter Tryz.func90, Tryz.ntmps90
      go_wp2_with fail
      refine HA.out.mono ?_
      rintro e w1 ⟨rfl, hφ, hsp⟩
      have Hφ := Lib.hid hφ; have HS := Lib.hid (HS0.out.trans hsp)
      clear hφ hsp HA
      go_wp2_with fail
      go_ret
      refine ⟨?_, ?_, HS.out⟩
      · rw [HR.out]; rfl
      · rw [HR.out]; exact Hφ.out
    | true =>
      rw [hgo] at HA HR
      have HK := fun (w1 : World) (hφ : Φ s1 w1) (hs : Spares bad B W w1) => Lib.hid (hasKids_c _ _ _ _ _ _ _ (idxKids_c (go := go) (st := st) ks ak ck css s1 w1 (HE.out.keep hs hb1) hb1 (Hk.out.keep hs.below (Nat.le_refl _)) (KidsC.keep hs.below (Nat.le_refl _) ks css Hc.out) (Nat.le_trans hB hs.size) hφ
        (fun q v s W' hq hv hB' hE' hφ' => kid_c hΦ hb1 q v s W' hE' hv hB' hφ' (fun W2 hv2 hB2 hE2 hφ2 => IH.out q v s W2 (Hw3.out q hq).1 (Hw3.out q hq).2 hv2 hB2 hE2 hφ2))))
      have HR2 : Hid (R = kidsS go st ks s1) := by
        show R = _
        rw [HR.out]; rfl
      generalize kidsS go st ks s1 = r at HK HR2
      obtain ⟨b, s2⟩ := r
      clear HR Hw3 IH Hk Hc HE
      have hmf : ∀ (fn : Fn) (first cap : Array Value) (w : World), (Instr.makeFunc fn first cap).run Tryz.prog w = .ok (.func fn first cap) w := fun _ _ _ _ => rfl
      go_enter Tryz.func90, Tryz.ntmps90
      go_wp2_with fail
      refine HA.out.mono ?_
      rintro e w1 ⟨rfl, hφ, hsp⟩
      obtain ⟨x0, x1, x2, x3⟩ := hsp.box4 hb2
      have HS := Lib.hid (HS0.out.trans hsp)
      have HK1 := HK w1 hφ HS.out
      clear hφ hsp HA HK
      go_wp2_with fail
      refine HK1.out.mono ?_
      rintro e w2 ⟨rfl, hφ, hsp⟩
      have Hφ := Lib.hid hφ; have HS2 := Lib.hid (HS.out.trans hsp)
      clear hφ hsp HK1 x0 x1 x2 x3
      cases b <;> (
        go_wp2_with fail
        go_ret
        refine ⟨?_, ?_, HS2.out⟩
        · rw [HR2.out]; rfl
        · rw [HR2.out]; exact Hφ.out)
end

end Go.Proofs.YtaopoincbigjhaaGreatDoor

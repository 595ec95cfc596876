/- Parts of the proof: 24. -/
import Derived.RangeFuncBox
import Derived.RangeFuncNested
import Derived.RangeFuncBound
import Derived.RangeFuncCalls
import Derived.RangeFuncLeaves
import Derived.Shelf.Abstract
import Derived.Shelf.RegionOpen
import Derived.WalkKit
import Derived.OwnWalkIn
import Derived.TacticsInMore
import Derived.LoopNIn
import Derived.LoopIn
import Derived.Maps.AppendAt
import Derived.Test.YtmadpclcmjahoaaGreatDoorFN23
import Derived.Sort.OwnSorted
import Derived.Sort.OwnSortedInts
import Derived.Test.YtmadpclcmjahoaaGreatDoorFN20
import Derived.Test.YtmadpclcmjahoaaGreatDoorFN11
import Derived.StringKeys
import Derived.Maps.Own
import Derived.Maps.OwnSet
import Derived.Maps.Views
import Derived.Sort.KeysCollected
import Derived.Test.YtmadpclcmjahoaaGreatDoorFN1
import Derived.Test.YtmadpclcmjahoaaGreatDoorFN4
import Derived.Deep.RegionHeld3
set_option linter.unusedVariables false
set_option linter.unusedSimpArgs false
set_option maxHeartbeats 8000000
set_option maxRecDepth 100000
namespace Go.Proofs.YtmadpclcmjahoaaGreatDoor
open Go.RowKit Go.Redl Go.Shelf
attribute [local go_sem] Oper.semAt_some
def b_E (f:Nat ->Int) (k:Nat):List Int:=(List.range k).map f
theorem d_N (f:Nat ->Int) (k:Nat):b_E f (k+1)=b_E f k ++ [f k]:=by simp [b_E,List.range_succ]
theorem f_J (f:Nat ->Int) (k:Nat):(b_E f k).length=k:=by simp [b_E]
theorem d_O (zs:List Int) {k:Nat} (hk:k <= zs.length):b_E (fun j=>zs[j]?.getD 0) k=zs.take k:=by
 apply List.ext_getElem
 . simp [b_E,hk]
 . intro i h1 h2
   have:i < zs.length:=by simp [b_E]at h1;omega
   simp [b_E,this]
theorem h_6 (F:Fence) (n:Nat) (h7:F.fn 92) (hro:F.round=none) (hn:1 <= n) (l Bs n₀ b off len cap:Nat) (zs:List Int) (hreach:len * 8 <= 140737488351232) (hb:b < n₀) (J Jx:List Int ->World ->Prop)
 (hY:∀pre x W,J pre W ->pre.length < len ->YieldAt F (n - 1) Tryz.prog l #[.int .i64 x] W fun e W'=>
   (e= .returned (.bool true)/\J (pre ++ [x]) W'/\Below n₀ W W')∨ (e= .returned (.bool false)/\Jx (pre ++ [x]) W'))
 (W:World) (hBs:W.cell? ⟨Bs,0,none⟩=some (.slice (some ⟨b,off,none⟩) len cap)) (hc:∀j,j < len ->W.cell? ⟨b,off+j,none⟩=some (.int .i64 (zs[j]?.getD 0))) (h0:J [] W):
 CallsIn F n Tryz.prog 92 #[.func (.yield l) #[] #[], .pointer (some ⟨Bs,0,none⟩)] W fun e W'=>(∃v,e= .returned v)/\
  ((∃ys,ys=b_E (fun j=>zs[j]?.getD 0) len/\J ys W')∨ (∃pre,(∃k,k <= len/\pre=b_E (fun j=>zs[j]?.getD 0) k)/\Jx pre W')):=by
 refine callsIn_of_wp Tryz.func92 rfl h7 ?_ hro
 simp only [Tryz.ntmps92,List.size_toArray,List.length_cons,List.length_nil,Nat.reduceAdd,Nat.reduceSub,Array.replicate_succ,Array.replicate_zero,List.push_toArray,List.append_toArray,List.nil_append,List.cons_append]
 gi_wp2
 gi_loopw [7] (fun i wr=>∃k:Nat,k <= len/\i= .int .i64 k/\J (b_E (fun j=>zs[j]?.getD 0) k) wr/\Below n₀ W wr)
  (fun i _=>len - (intOf i).toNat)
 case atStart=>exact⟨0,Nat.zero_le _,rfl,h0,a7⟩
 case round=>
  obtain⟨k,hk,rfl,hJs,hnx⟩:=hrel
  have hcx:k < len ->wr.cell? ⟨b,off+k,none⟩=some (.int .i64 (zs[k]?.getD 0)):=fun h=>(hnx.cell (p:=⟨b,off+k,none⟩) hb).trans (hc k h)
  by_cases hlt:k < len
  . obtain ⟨fn,tmps,assign,body,hy,hR⟩:=hY _ (zs[k]?.getD 0) wr hJs (by rw [f_J];exact hlt)
    have hcx':=hcx hlt
    gi_wp2
    refine hR.mono ?_
    rintro e W3 (⟨rfl,hJ3,hk3⟩ | ⟨rfl,hJx3⟩)
    . gi_wp2
      go_roundw
      case rel=>exact⟨k+1,by omega,by simp,by rw [d_N];exact hJ3,hnx.trans hk3⟩
      case measure=>simp [intOf];omega
    . gi_wp2
      refine bodyPost_ret (results_none rfl _ _ _) rfl ?_
      exact⟨⟨_,rfl⟩, .inr ⟨_,⟨k+1,by omega,(d_N _ _).symm⟩,hJx3⟩⟩
  . obtain rfl:k=len:=by omega
    gi_wp2
    go_end0
    exact⟨⟨_,rfl⟩, .inl ⟨_,rfl,hJs⟩⟩
theorem k_S (a:Option Addr) (len cap:Nat) (w:World):
 Calls Tryz.prog 37 #[.slice a len cap] w fun e w'=>e= .returned (.func (.func 92) #[] #[.pointer (some ⟨w.heap.size,0,none⟩)])/\w'=w.alloc (.cells #[.slice a len cap] 36):=by
 go_enter Tryz.func37,Tryz.ntmps37
 go_wp2
 go_ret
 exact⟨rfl,rfl⟩
theorem e_x (F:Fence) (n:Nat) (h7:F.fn 92) (hro:F.round=none) (hn:1 <= n) (Bs n₀ b off cap:Nat) (zs:List Int) (hreach:zs.length * 8 <= 140737488351232) (w:World) (hBs:Bs < w.heap.size) (hn₀ :n₀ <= w.heap.size) (hb:b < n₀)
 (hc:w.cell? ⟨Bs,0,none⟩=some (.slice (some ⟨b,off,none⟩) zs.length cap)) (hI:∀j,j < zs.length ->w.cell? ⟨b,off+j,none⟩=some (.int .i64 (zs[j]?.getD 0))):
 SeqStopsK F n Tryz.prog 92 #[.pointer (some ⟨Bs,0,none⟩)] (fun x:Int=> #[Value.int .i64 x]) (Below n₀) (fun ys=>ys=zs) (fun pre=>pre <+:zs) zs.length w:=fun l J Jx W hW _ _ hY h0=>by
 have hc':=(hW.cell (p:=⟨Bs,0,none⟩) hBs).trans hc
 refine(h_6 F n h7 hro hn l Bs n₀ b off zs.length cap zs hreach hb J Jx hY W hc' (fun j hj=>(hW.cell (p:=⟨b,off+j,none⟩) (Nat.lt_of_lt_of_le hb hn₀)).trans (hI j hj)) h0).mono ?_
 rintro e W' ⟨he,⟨ys,rfl,hj⟩ | ⟨pre,⟨k,hk,rfl⟩,hj⟩⟩
 . exact⟨he, .inl ⟨_,by rw [d_O zs (a8),List.take_length],hj⟩⟩
 . exact⟨he, .inr ⟨_,by rw [d_O zs hk];exact List.take_prefix _ _,hj⟩⟩
theorem i_X:(Tryz.prog.info? 3).map (fun i=>(i.zero,i.size,i.bytes))=some (some (.int .i64 0),1,8):=by kernel_rfl
theorem i_Y (F:Fence) (n:Nat) (hF:F.fn 161) (h7:F.fn 92) (hro:F.round=none) (hn:3 <= n) (Bs b off cap:Nat) (zs:List Int) (hreach:zs.length <= 1000000) (w:World) (hBs:Bs < w.heap.size) (hb:b < w.heap.size)
 (hc:w.cell? ⟨Bs,0,none⟩=some (.slice (some ⟨b,off,none⟩) zs.length cap)) (hI:∀j,j < zs.length ->w.cell? ⟨b,off+j,none⟩=some (.int .i64 (zs[j]?.getD 0))):
 CallsIn F n Tryz.prog 161 #[.slice none 0 0, .func (.func 92) #[] #[.pointer (some ⟨Bs,0,none⟩)]] w fun e W'=>∃v,e= .returned v/\W'.ownsRow w.heap.size 3 1 v zs.length (zs.map (Value.int .i64))/\(v= .slice none 0 0 ↔ zs= [])/\Below w.heap.size w W':=by
 have h1:1 <= n:=by omega
 obtain⟨i0,hi,hz0,hz1,hz2⟩:=info_parts i_X
 refine callsIn_of_wp_marks Tryz.func161 rfl hF ?_ hro
 simp only [Tryz.ntmps161,List.size_toArray,List.length_cons,List.length_nil,Nat.reduceAdd,Nat.reduceSub,Array.replicate_succ,Array.replicate_zero,List.push_toArray,List.append_toArray,List.nil_append,List.cons_append]
 gi_wp2
 have bO:=Boxed.new w 36 (.slice none 0 0)
 have hB0:Below w.heap.size w (w.alloc (.cells #[.slice none 0 0] 36)):=(Below.refl _ w).alloc (a8) _
 refine wpIn_rangeFunc_ownG hro h1 (gf:=92) (lb:= #[.pointer (some ⟨Bs,0,none⟩)]) rfl h7 (enters_of Tryz.func92 (by kernel_rfl) rfl)
  (e_x F (n - 1) h7 hro (by omega) Bs w.heap.size b off cap zs (by omega) _ (by simp;omega) (by simp) hb ((hB0.cell (p:=⟨Bs,0,none⟩) hBs).trans hc) (fun j hj=>(hB0.cell (p:=⟨b,off+j,none⟩) hb).trans (hI j hj))) belowK_t (belowK_b (by simp)) (a7) (fun _=>rfl)
  (fun pre W=>(∃v,Boxed W w.heap.size 36 v/\W.ownsRow w.heap.size 3 1 v pre.length (pre.map (Value.int .i64))/\(v= .slice none 0 0 ↔ pre= []))/\Below w.heap.size w W)
  (fun _ _ _=>False)
  (OwnFrom.and (Own.from (holdsRow_own w.heap.size w.heap.size 36 3 1 (fun pre=>pre.length) (fun pre=>pre.map (Value.int .i64)) (fun pre v=>v= .slice none 0 0 ↔ pre= [])) _) (ownFrom_below (a8) (by simp)))
  (fun _ _ _ _ _ hs _ _=>hs)
  ⟨⟨_,bO,World.ownsRow_nil _ _ _ _,by simp⟩,hB0⟩
  (fun x=>{ tmps:= #[.slice none 0 0, .func (.func 92) #[] #[.pointer (some ⟨Bs,0,none⟩)], .pointer (some ⟨w.heap.size,0,none⟩),undef, .slice none 0 0, .int .i64 x, .func (.func 92) #[] #[.pointer (some ⟨Bs,0,none⟩)], .int .i64 x,undef,undef,undef,undef,undef],defers:= [] }) ?assign ?body ?done ?stop
 case assign=>
  intro l x W K hK
  gi_wp2
  exact hK
 case body=>
  rintro l pre x W ⟨⟨v,hv,hrow,hnil⟩,hB⟩ hlt
  have hc:=hv.cell
  gi_wp2_with (gi_at_builtin;refine wpListIn_append_own _ rfl _ _ 36 rfl w.heap.size 3 i0 (.int .i64 0) 1 8 Tryz.underlying36 hi hz0 hz1 hz2 rfl (by decide) _ _ _ rfl (hrow.alloc _) ⟨W.heap.size,0,none⟩ 1 1 [.int .i64 x] rfl rfl (cell_one_new _ _ _) (by simp [Value.oneCell']) (by unfold maxLen;omega) (by omega) (by have:=hB.size;simp;omega) ?_;intro v' w1 hown' hgrow _;obtain⟨g',cap',rfl⟩:=ownsRow_succ hown';obtain⟨hv1,hv2,hr2,hk2,hb2⟩:=hv.appended (by decide) hrow hB.size (a8) hown' hgrow;have hc1:=hv1.cell;have hf1:=hv1.frozen)
  exact⟨hk2.from _,hb2,⟨_,hv2,by simpa using hr2,by simp⟩,hB.trans hb2⟩
 case done=>
  rintro D ys W hD rfl ⟨⟨v,hv,hrow,hnil⟩,hB⟩ hK
  have hc:=hv.cell
  gi_wp2
  refine⟨by simp, .inl ⟨_,_,rfl,run_takeDeferred hK, ?_⟩⟩
  exact⟨_,results_tmp rfl _ _ _,v,rfl,ownsRow_putObj hrow _ hK rfl,hnil,hB.trans (belowK_b (w:=w) (a8) W D _ _ (by simp at hD;omega) hK rfl rfl)⟩
 case stop=>
  rintro D c pre W _ _ h _
  exact h.elim
theorem h_7:∀args w,(callFunc 161 args).run Tryz.prog w= .ok (.enter 161 args) w:=by intro args w;kernel_rfl
theorem i_Z (Bs b off cap:Nat) (zs:List Int) (hreach:zs.length <= 1000000) (w:World) (hBs:Bs < w.heap.size) (hb:b < w.heap.size)
 (hc:w.cell? ⟨Bs,0,none⟩=some (.slice (some ⟨b,off,none⟩) zs.length cap)) (hI:∀j,j < zs.length ->w.cell? ⟨b,off+j,none⟩=some (.int .i64 (zs[j]?.getD 0))):
 Calls Tryz.prog 90 #[.func (.func 92) #[] #[.pointer (some ⟨Bs,0,none⟩)]] w fun e W'=>∃v,e= .returned v/\W'.ownsRow w.heap.size 3 1 v zs.length (zs.map (Value.int .i64))/\(v= .slice none 0 0 ↔ zs= [])/\Below w.heap.size w W':=by
 have HC:=a6 ((callsIn_wide (n:=3)).1 (i_Y Fence.wide 3 trivial trivial rfl (by omega) Bs b off cap zs hreach w hBs hb hc hI))
 have HE:=h_7
 clear hc hI hBs hb
 go_enter Tryz.func90,Tryz.ntmps90
 go_wp2_with fail
 refine HC.o.mono ?_
 rintro e w' ⟨v,rfl,hrow,hnil,hbel⟩
 have Hrow:=a6 hrow;have Hnil:=a6 hnil;have Hbel:=a6 hbel
 clear hrow hnil hbel
 go_wp2_with fail
 go_ret
 exact⟨v,rfl,Hrow.o,Hnil.o,Hbel.o⟩
open Go.Sort
abbrev e_y (l:List Int):List Int:=l.mergeSort fun x y=>decide (x <= y)
abbrev m_h (l:List (List UInt8)):List (List UInt8):=l.mergeSort fun x y=>decide (x <= y)
theorem j_0:∀args w,(callFunc 91 args).run Tryz.prog w= .ok (.enter 91 args) w:=by intro args w;kernel_rfl
theorem j_1:∀args w,(callFunc 99 args).run Tryz.prog w= .ok (.enter 99 args) w:=by intro args w;kernel_rfl
theorem m_i (l:List Int) (v:Value) (base:Nat) (w:World) (hown:w.ownsRow base 3 1 v l.length (l.map (Value.int .i64))) (hn:l.length <= 100000000):
 Calls Tryz.prog 91 #[v] w fun e w'=>e= .returned (.tuple #[])/\w'.ownsRow base 3 1 v l.length ((e_y l).map (Value.int .i64))/\w.grownBy w' v.ownBlock:=by
 have h0:=hown
 rcases hown.2 with⟨rfl,hz⟩ | ⟨g,cap,cur,rfl,hbase,hb,h1,h2,h3,h4⟩
 . have hl:l= []:=List.eq_nil_of_length_eq_zero hz
   subst hl
   refine(AnyM.slices_Sort_int_none Tryz.sortI none 0 w).mono ?_
   rintro e w' ⟨rfl,rfl⟩
   exact⟨rfl,by simpa [e_y]using h0,World.grownBy.refl _ _⟩
 . have hH:Holds (Value.int .i64) w g 0 l.toArray:=holds_of_blockI hb (by simpa using h4)
   refine(AnyM.slices_Sort_int Tryz.sortI g 0 cap l w hH (Array.getElem?_eq_some_iff.1 hb).1 (by omega)).mono ?_
   rintro e w' ⟨rfl,n,os,rfl⟩
   exact⟨rfl,ownsRow_sortedI (by simp) hbase hb h1 h2 h3,grownBy_sortedI _⟩
theorem m_j (l:List (List UInt8)) (v:Value) (base:Nat) (w:World) (hown:w.ownsRow base 9 1 v l.length (l.map aV)) (hn:l.length <= 100000000):
 Calls Tryz.prog 99 #[v] w fun e w'=>e= .returned (.tuple #[])/\w'.ownsRow base 9 1 v l.length ((m_h l).map aV)/\w.grownBy w' v.ownBlock:=by
 have h0:=hown
 rcases hown.2 with⟨rfl,hz⟩ | ⟨g,cap,cur,rfl,hbase,hb,h1,h2,h3,h4⟩
 . have hl:l= []:=List.eq_nil_of_length_eq_zero hz
   subst hl
   refine(AnyM.slices_Sort_string_none Tryz.sortS none 0 w).mono ?_
   rintro e w' ⟨rfl,rfl⟩
   exact⟨rfl,by simpa [m_h]using h0,World.grownBy.refl _ _⟩
 . have hH:Holds encStr w g 0 l.toArray:=holds_of_block hb (by simpa using h4)
   refine(AnyM.slices_Sort_string Tryz.sortS g 0 cap l w hH (Array.getElem?_eq_some_iff.1 hb).1 (by omega)).mono ?_
   rintro e w' ⟨rfl,n,os,rfl⟩
   exact⟨rfl,ownsRow_sorted (by simp) hbase hb h1 h2 h3,grownBy_sorted _⟩
theorem f_K:∀args w,(callFunc 90 args).run Tryz.prog w= .ok (.enter 90 args) w:=by intro args w;kernel_rfl
theorem h_8:∀args w,(callFunc 36 args).run Tryz.prog w= .ok (.enter 36 args) w:=by intro args w;kernel_rfl
theorem k_T (Bs b off cap:Nat) (zs:List Int) (hreach:zs.length <= 1000000) (w:World) (hBs:Bs < w.heap.size) (hb:b < w.heap.size)
 (hc:w.cell? ⟨Bs,0,none⟩=some (.slice (some ⟨b,off,none⟩) zs.length cap)) (hI:∀j,j < zs.length ->w.cell? ⟨b,off+j,none⟩=some (.int .i64 (zs[j]?.getD 0))):
 Calls Tryz.prog 36 #[.func (.func 92) #[] #[.pointer (some ⟨Bs,0,none⟩)]] w fun e w'=>∃a c,e= .returned (.slice a zs.length c)/\RowA w' w'.heap.size 1 a zs.length c ((e_y zs).map (Value.int .i64))/\Below w.heap.size w w':=by
 have HC:=a6 (i_Z Bs b off cap zs hreach w hBs hb hc hI)
 have HE:=f_K;have HE2:=j_0
 clear hc hI hBs hb
 go_enter Tryz.func36,Tryz.ntmps36
 go_wp2_with fail
 refine HC.o.mono ?_
 rintro e w1 ⟨v,rfl,hown,hnil,hbel⟩
 have HS:=a6 (m_i zs v w.heap.size w1 hown (by omega))
 have Hown:=a6 hown
 have Hb1:=a6 hbel
 clear hown hnil hbel HC
 go_wp2_with fail
 refine HS.o.mono ?_
 rintro e w2 ⟨rfl,hown2,hgrow⟩
 have Hb2:=a6 (Hb1.o.grown hgrow Hb1.o.size (fun k hk=>(Hown.o.lt k hk).1))
 have Ho2:=a6 hown2
 clear hown2 hgrow HS
 go_wp2_with fail
 go_ret
 obtain⟨a,c,rfl,hr⟩:=cK Ho2.o (by simp [Value.oneCell'])
 exact⟨a,c,rfl,hr,Hb2.o⟩
theorem f_L {α :Type} [DecidableEq α]:∀ (l m:List α),l.Nodup ->(∀x∈l,x∈m) ->l.length <= m.length
 | [],m,_,_=>Nat.zero_le _
 | x::l,m,h,hs=>by
   have hx:x∈m:=hs x (by simp)
   have hn:=List.nodup_cons.1 h
   have h1:=f_L l (m.erase x) hn.2 (fun y hy=>(List.mem_erase_of_ne (show y≠x from fun e=>hn.1 (by rw [<- e];exact hy))).2 (hs y (by simp [hy])))
   rw [List.length_erase_of_mem hx]at h1
   have h2:=List.length_pos_of_mem hx
   simp only [List.length_cons]
   omega
theorem m_k {α :Type} {p:List α ->Prop} (h0:p []) (h1:∀l x,p l ->p (l ++ [x])):∀l,p l:=fun l=>by
 have h:∀m:List α,p m.reverse:=by
  intro m
  induction m with
  | nil=>exact h0
  | cons x m ih=>rw [List.reverse_cons];exact h1 _ _ ih
 simpa using h l.reverse
theorem h_9 (s:b8) (k:List UInt8):bV s k∈qK s:=by
 rcases GY s k with h | h
 . exact List.mem_append_left _ h
 . rw [h];exact List.mem_append_right _ (by simp)
theorem b_M {s:b8} {r:bJ} (h:r∈qK s):r.wt <= s.wt:=by
 unfold b8.wt
 rcases List.mem_append.1 h with h | h
 . have:=DX h;omega
 . simp at h;subst h;omega
theorem b_N (s:b8):(qK s).length=s.rules.length+1:=by simp
theorem n_l {s:b8} {met:List (List UInt8)} (h:met.Nodup) (hs:∀x∈met,x∈ (qK s).map (·.type)):met.length <= s.rules.length+1:=by
 have h1:=f_L met _ h hs
 rw [List.length_map,b_N]at h1
 exact h1
theorem h_a (s:b8) (f:Nat) (met:List (List UInt8)) (r:bJ) (n:Nat):
 a_0 s (f+1) met r n=if r.fill=0 then (n:Int) else if r.fill=1 then (n:Int)+1 else if r.type∈met then -1 else a_0 s f (r.type::met) (bV s r.fillT) (n+1):=rfl
def B2 (s:b8) (r:bJ) (l:List (List UInt8)):Bool:=
 !(decide (r.text.1=4) && (decide ((j8 r r.text.2).1≠1) || decide ((bV s r.text.2).text.1≠1))) && (l.all (tK s r) &&
   (if r.fill=1 then decide (r.text.1=1) else if r.fill=2 then decide ((j8 r r.fillT).1=1) else true))
theorem c_M (s:b8) (r:bJ):B2 s r (H7 s)=xJ s r:=rfl
theorem k_U {α :Type} {p: α ->Bool} {l m:List α} (h:∀x,x∈l ↔ x∈m):l.all p=m.all p:=by
 rw [Bool.eq_iff_iff,List.all_eq_true,List.all_eq_true]
 exact⟨fun g x hx=>g x ((h x).2 hx),fun g x hx=>g x ((h x).1 hx)⟩
theorem d_e {s:b8} {r:bJ} {l m:List (List UInt8)} (h:∀x,x∈l ↔ x∈m):B2 s r l=B2 s r m:=by
 unfold B2
 rw [k_U h]
abbrev E8 (s:b8):List (List UInt8):=(qK s).flatMap gQ
theorem h_b {s:b8} {out:List (List UInt8)} (h:∀x,x∈out ↔ x∈E8 s/\x≠ []):∀x,x∈out ++ [[]] ↔ x∈H7 s:=by
 intro x
 unfold H7
 rw [List.mem_append,List.mem_append,h x]
 by_cases hx:x= []
 . subst hx;simp
 . simp [hx]
theorem h_c {s:b8} {r:bJ} {out:List (List UInt8)} (h:∀x,x∈out ↔ x∈E8 s/\x≠ []):B2 s r (out ++ [[]])=xJ s r:=by
 rw [<- c_M,d_e (h_b h)]
theorem m_l {r:bJ} {x:List UInt8} (h:x∈gQ r):x.length <= r.wt:=by
 unfold gQ at h
 unfold bJ.wt
 rcases List.mem_append.1 h with h | h
 . simp at h
   rcases h with rfl | rfl | rfl | rfl <;> omega
 . obtain ⟨p,hp,hx⟩:=List.mem_flatMap.1 h
   have:=b_e hp
   simp at hx
   rcases hx with rfl | rfl <;> omega
theorem e_z {s:b8} {x:List UInt8} (h:x∈E8 s):x.length <= s.wt:=by
 obtain⟨r,hr,hx⟩:=List.mem_flatMap.1 h
 exact aJ (m_l hx) (b_M hr)
theorem d_P (r:bJ):(gQ r).length <= r.wt:=by
 have:∀l:List vQ,(l.flatMap (fun p=> [p.1,p.2.2])).length=2 * l.length:=by
  intro l
  induction l with
  | nil=>rfl
  | cons p l ih=>rw [List.flatMap_cons,List.length_append,ih];simp;omega
 have h1:=b_d r.kids
 unfold gQ bJ.wt
 rw [List.length_append,this]
 simp
 omega
theorem f_M (s:b8):(E8 s).length <= s.wt:=by
 have h:∀l:List bJ,(l.flatMap gQ).length <= sQ l:=by
  intro l
  induction l with
  | nil=>simp [sQ]
  | cons r l ih=>have:=d_P r;simp only [sQ,List.flatMap_cons,List.length_append];omega
 have h1:=h s.rules
 have h2:=d_P s.els
 unfold b8.wt
 simp only [E8,qK,List.flatMap_append,List.length_append,List.flatMap_cons,List.flatMap_nil,List.append_nil]
 omega
open Go.Maps
def e_A (acc:List (List UInt8)):DataW Unit:=Maps.setOf (.lit (.bool true)) (acc.map Lit.string)
theorem d_Q (acc:List (List UInt8)) (k:List UInt8):e_A (acc ++ [k])=(e_A acc).put (.string k) (.lit (.bool true)):=by
 unfold e_A
 rw [List.map_append,List.map_cons,List.map_nil,Maps.setOf_snoc]
theorem k_V (acc:List (List UInt8)):Maps.IsMap (e_A acc):=(Maps.tidy_setOf _ _ (fun x hx=>by obtain⟨s, -,rfl⟩:=List.mem_map.1 hx;trivial)).isMap
theorem k_W (acc:List (List UInt8)) (k:List UInt8):Maps.has (e_A acc) (.string k)=decide (k∈acc):=by
 unfold e_A
 rw [Maps.has_setOf _ _ _ (fun x hx=>by obtain⟨s, -,rfl⟩:=List.mem_map.1 hx;trivial),List.any_map]
 by_cases h:k∈acc
 . rw [decide_eq_true h,List.any_eq_true]
   exact⟨k,h,by simp [Lit.sameKey]⟩
 . rw [decide_eq_false h,List.any_eq_false]
   intro x hx
   have:x≠k:=fun e=>h (e ▸ hx)
   simp [Lit.sameKey,this]
theorem m_m (acc:List (List UInt8)) (k:List UInt8):(e_A acc).atKey (.string k) (.lit (.bool false))= .lit (.bool (decide (k∈acc))):=by
 induction acc using m_k with
 | h0=>rfl
 | h1 acc x ih=>
   rw [d_Q]
   by_cases h:k=x
   . subst h
     rw [Maps.atKey_put_same (k:= .string k) (k_V acc) trivial]
     simp
   . rw [Maps.atKey_put_other (by simpa using h),ih]
     simp [h]
abbrev e_B:Maps.Keyed Tryz.prog 9:=Maps.string_keyed Tryz.underlying9
def oJ (w:World) (b n:Nat) (acc:List (List UInt8)):Prop:=w.ownsMap Tryz.prog 9 (plainElem (H:=Unit) Tryz.prog 4) b n (e_A acc)
theorem oJ.fresh (w:World):oJ (w.alloc (.map #[] 0)) w.heap.size 0 []:=World.ownsMap_made w _ _ _
theorem oJ.lt {w:World} {b n:Nat} {acc:List (List UInt8)} (h:oJ w b n acc):b < w.heap.size:=World.ownsMap.lt h
theorem oJ.kept {w w':World} {b n:Nat} {acc:List (List UInt8)} (h:oJ w b n acc) (hb:Below w.heap.size w w'):oJ w' b n acc:=World.ownsMap.kept h (EZ hb) (by simp)
theorem oJ.setCell {w:World} {b n:Nat} {acc:List (List UInt8)} (h:oJ w b n acc) {a:Addr} (ha:b≠a.block) (u:Value):oJ (w.setCell a u) b n acc:=World.ownsMap.setCell h ha u
theorem n_S (w:World):(zeroValue 4).run Tryz.prog w= .ok (.bool false) w:=by kernel_rfl
theorem oJ.ask {w:World} {b n:Nat} {acc:List (List UInt8)} (h:oJ w b n acc) (k:List UInt8) (hk:k.length <= maxLen):
 (Instr.lookup 150 (.map (some b)) (aV k) false).run Tryz.prog w= .ok (.bool (decide (k∈acc))) w:=by
 obtain⟨v,ps,hrun,hv⟩:=World.ownsMap.lookup h e_B Tryz.underlying150 (n_S w) (plainElem_bool Tryz.underlying4 false) (WideMaps.keyOf_string_mk Tryz.underlying9 (s:=⟨k.toArray⟩) hk)
 rw [m_m]at hv
 have hvv:v= .bool (decide (k∈acc)):=by
  unfold plainElem at hv
  rw [Tryz.underlying4]at hv
  cases v with
  | bool b=>
    simp only [Option.some.injEq,Prod.mk.injEq]at hv
    have h1:=hv.1
    injection h1 with h1
    injection h1 with h1
    rw [h1]
  | _=>cases hv
 rw [hrun,hvv]
theorem oJ.put {w:World} {b n:Nat} {acc:List (List UInt8)} (h:oJ w b n acc) (hn:n < maxLen) (k:List UInt8) (hk:k.length <= maxLen):
 ∃w',(Instr.mapUpdate 150 (.map (some b)) (aV k) (.bool true)).run Tryz.prog w= .ok () w'/\oJ w' b (n+1) (acc ++ [k])/\w.grownBy w' (some b):=by
 obtain⟨w',hrun,h1,h2⟩:=World.ownsMap.update h e_B Tryz.underlying150 hn (WideMaps.keyOf_string_mk Tryz.underlying9 (s:=⟨k.toArray⟩) hk) (plainElem_bool Tryz.underlying4 true)
 exact⟨w',hrun,by unfold oJ;rw [d_Q];exact h1,h2⟩
theorem f_N {ops:Array Oper} {rest:List Oper} {o:Oper} {a:Act} {w:World} {Q:Exit ->Act ->World ->Prop} (hg:o.guard=none) (m x v:Operand) (ho:o.op= .mapUpdate 150 m x v)
 (b n:Nat) (acc:List (List UInt8)) (k:List UInt8) (hm:a.eval m= .map (some b)) (hx:a.eval x=aV k) (hv:a.eval v= .bool true) (h:oJ w b n acc) (hn:n < maxLen) (hk:k.length <= maxLen)
 (hK:∀w',oJ w' b (n+1) (acc ++ [k]) ->w.grownBy w' (some b) ->wpList Tryz.prog ops Q rest (a.put o.dst undef) w'):wpList Tryz.prog ops Q (o::rest) a w:=by
 obtain⟨w',hrun,r1,r2⟩:=h.put hn k hk
 refine wpList_plain hg fun K' hK'=> ?_
 unfold Oper.wp
 simp [execOp,ho,hm,hx,hv,hrun,Result.andThen]
 exact hK' _ _ (hK w' r1 r2)
theorem a_9:(Tryz.prog.info? 27).map (fun i=>(i.zero,i.size,i.bytes))=some (some (.agg #[.string ⟨#[]⟩, .int .i64 0, .string ⟨#[]⟩, .int .i64 0, .string ⟨#[]⟩, .slice none 0 0, .int .i64 0, .string ⟨#[]⟩]),8,112):=by kernel_rfl
theorem h_d (B n:Nat) (a:Option Addr) (cap:Nat) (cs:List Value) (w:World) (hr:RowA w B 8 a n cap cs) (hB:B <= w.heap.size) (hn:n <= 100000000):
 Calls Tryz.prog 95 #[.slice a n cap] w (rK w 27 8 n cs):=by
 have hel:=fun(w:World)=>Lib.run_eql_slice_nil w (P:=Tryz.prog) 22 27 a n cap 0 0 Tryz.underlying22
 cases ha:a with
 | none=>
   subst ha
   obtain rfl:=hr.nil rfl
   obtain rfl:n=0:=by have:=hr.le;omega
   have hcs:cs= []:=List.eq_nil_of_length_eq_zero (by simpa using hr.len)
   subst hcs
   go_enter Tryz.func95,Tryz.ntmps95
   go_wp2_with fail
   go_ret
   exact⟨_,rfl,World.ownsRow_nil _ _ _ _,a7⟩
 | some ad=>
   subst ha
   go_enter Tryz.func95,Tryz.ntmps95
   go_wp2_with (at_builtin;refine nY rfl _ _ 22 rfl w.heap.size 27 (.agg #[.string ⟨#[]⟩, .int .i64 0, .string ⟨#[]⟩, .int .i64 0, .string ⟨#[]⟩, .slice none 0 0, .int .i64 0, .string ⟨#[]⟩]) 8 112 Tryz.underlying22 a_9 rfl (by decide) _ 0 [] rfl ?hown _ n cap B cs rfl ?hr ?h63 ?hb ?hbase ?_)
   case hown=>exact World.ownsRow_lit w #[] 0 (a8) (Nat.zero_le _) rfl
   case hr=>exact hr.keep ((a7).alloc hB _) (a8)
   case h63=>unfold maxLen;omega
   case hb=>omega
   case hbase=>simp
   intro v' w1 hown hgrow
   have Ho:=a6 hown;have Hg:=a6 hgrow;clear hown hgrow hel hr
   go_wp2_with fail
   go_ret
   refine⟨v',rfl,by simpa using Ho.o,((a7).alloc (a8) _).grown Hg.o (by simp) ?_⟩
   simp [Value.ownBlock]
theorem c_N:∀args w,(callFunc 95 args).run Tryz.prog w= .ok (.enter 95 args) w:=by intro args w;kernel_rfl
theorem g8.push_ {w:World} {B:Nat} {x:bJ} {cx:List Value} (hx:DV w B x cx):∀ {rs:List bJ} {css:List Value},g8 w B rs css ->g8 w B (rs ++ [x]) (css ++ cx)
 | [],css,h=>by rw [show css= []from h];exact⟨cx, [],by simp,hx,rfl⟩
 | r::rs,css,h=>by
   obtain⟨c1,c2,rfl,h2,h3⟩:=h
   exact⟨c1,c2 ++ cx,by rw [List.append_assoc],h2,g8.push_ hx h3⟩
theorem h_e {w:World} {N:Nat} {cs:List Value} {T:TypeId} (h:At w N cs T) (n sz:Nat) (hl:cs.length=n * sz) (hn:n <= 100000000) (h1:∀u∈cs,u.oneCell'=true):RowA w (N+1) sz (some ⟨N,0,none⟩) n n cs:=
 ⟨hl,a8,by unfold maxLen;omega,h1,(fun e=>by cases e),fun _=>⟨N,0,rfl,by omega,fun j u hj=>by rw [Nat.zero_add];exact h.cell j hj⟩⟩
theorem At.drw {w:World} {N:Nat} {cs:List Value} {T:TypeId} (h:At w N cs T):At w.drew N cs T:=h
abbrev m_B (s:b8) (B:Nat) (W:World) (e:Ending) (w':World):Prop:=
 ∃a c css,e= .returned (.slice a (qK s).length c)/\RowQ w' (fun b=>W.heap.size <= b) 8 a (qK s).length c css/\g8 w' B (qK s) css/\Below W.heap.size W w'
theorem c_O (s:b8) (v:Value) (B:Nat) (W:World) (hw:s.wt <= 100000000) (hv:SchemaV W B s v) (hB:B <= W.heap.size):Calls Tryz.prog 43 #[v] W (m_B s B W):=by
 have hrl:s.rules.length <= 100000000:=by have:=pJ s.rules;unfold b8.wt at hw;omega
 obtain⟨a,c,css,ea,ec,o0,o1,o2,o3,o4,o5,rfl,h1,h2,h3, -⟩:=hv.open
 obtain⟨rs,⟨ty,⟨td,tt⟩,⟨od,ot⟩,kids,fill,ft⟩,order,scap⟩:=s
 simp only at hrl h1 h2 h3⊢
 have HF:=a6 (show ∀ (w':World) (v':Value) (e:Ending),e= .returned v' ->w'.ownsRow W.heap.size 27 8 v' (rs.length+1) (css ++ [aV ty, .int .i64 td,aV tt, .int .i64 od,aV ot, .slice ea kids.length ec, .int .i64 fill,aV ft]) ->Below W.heap.size W w' ->m_B ⟨rs,⟨ty,(td,tt),(od,ot),kids,fill,ft⟩,order,scap⟩ B W e w' from by
  rintro w' v' e rfl hown hb
  have h2':=g8.keep (hb.mono hB) (a8) h2
  have hx:DV w' B ⟨ty,(td,tt),(od,ot),kids,fill,ft⟩ [aV ty, .int .i64 td,aV tt, .int .i64 od,aV ot, .slice ea kids.length ec, .int .i64 fill,aV ft]:=⟨ea,ec,rfl,h3.keep (hb.mono hB) (a8)⟩
  have h4:=g8.push_ hx h2'
  obtain⟨a',c',rfl,hr⟩:=oK hown (h4.one)
  refine⟨a',c',_, ?_, ?_,h4,hb⟩
  . simp
  . simpa using hr)
 obtain⟨w0,hw0⟩:∃w0,w0=W.alloc (Obj.cells #[.slice a rs.length c,aV ty, .int .i64 td,aV tt, .int .i64 od,aV ot, .slice ea kids.length ec, .int .i64 fill,aV ft, .int .i64 o0, .int .i64 o1, .int .i64 o2, .int .i64 o3, .int .i64 o4, .int .i64 o5, .int .i64 scap] 30):=⟨_,rfl⟩
 have hb0:Below W.heap.size W w0:=by rw [hw0];exact aX _ _
 have hA:At w0 W.heap.size [.slice a rs.length c,aV ty, .int .i64 td,aV tt, .int .i64 od,aV ot, .slice ea kids.length ec, .int .i64 fill,aV ft, .int .i64 o0, .int .i64 o1, .int .i64 o2, .int .i64 o3, .int .i64 o4, .int .i64 o5, .int .i64 scap] 30:=by rw [hw0];exact At.fresh W _ _
 have Hw0:=a6 hw0
 have Hb0:=a6 hb0
 have HS0:=a6 (fun(w':World) (hb:Below w0.heap.size w0 w')=>have h:=hA.kept hb;(⟨h.cell 0 rfl,h.cell 1 rfl,h.cell 2 rfl,h.cell 3 rfl,h.cell 4 rfl,h.cell 5 rfl,h.cell 6 rfl,h.cell 7 rfl,h.cell 8 rfl⟩:w'.cell? ⟨W.heap.size,0,none⟩=some (.slice a rs.length c)/\w'.cell? ⟨W.heap.size,1,none⟩=some (aV ty)/\w'.cell? ⟨W.heap.size,2,none⟩=some (.int .i64 td)/\w'.cell? ⟨W.heap.size,3,none⟩=some (aV tt)/\w'.cell? ⟨W.heap.size,4,none⟩=some (.int .i64 od)/\w'.cell? ⟨W.heap.size,5,none⟩=some (aV ot)/\w'.cell? ⟨W.heap.size,6,none⟩=some (.slice ea kids.length ec)/\w'.cell? ⟨W.heap.size,7,none⟩=some (.int .i64 fill)/\w'.cell? ⟨W.heap.size,8,none⟩=some (aV ft)))
 have HC:=a6 (fun(w':World) (hb:Below w0.heap.size w0 w')=>h_d w'.heap.size rs.length a c css w' (h1.keep ((hb0.trans (hb.mono hb0.size)).mono hB) (aJ hB (aJ hb0.size hb.size))) (a8) hrl)
 have HE:=a6 (show ∀ (u:Value),u∈ [aV ty, .int .i64 td,aV tt, .int .i64 od,aV ot, .slice ea kids.length ec, .int .i64 fill,aV ft] ->u.oneCell'=true from fun u hu=>by simp at hu;rcases hu with rfl | rfl | rfl | rfl | rfl | rfl | rfl | rfl <;> rfl)
 have Hcl:=a6 h1.len
 clear hv hb0 hA hw0 h1 h2 h3 hw hB
 go_enter Tryz.func43,Tryz.ntmps43
 go_upto_region 1 with fail
 rw [<- Hw0.o]
 clear Hw0
 go_region_held3 (fun w'=>w'.cell? ⟨W.heap.size,0,none⟩=some (.slice a rs.length c)/\w'.cell? ⟨W.heap.size,1,none⟩=some (aV ty)/\w'.cell? ⟨W.heap.size,2,none⟩=some (.int .i64 td)/\w'.cell? ⟨W.heap.size,3,none⟩=some (aV tt)/\w'.cell? ⟨W.heap.size,4,none⟩=some (.int .i64 od)/\w'.cell? ⟨W.heap.size,5,none⟩=some (aV ot)/\w'.cell? ⟨W.heap.size,6,none⟩=some (.slice ea kids.length ec)/\w'.cell? ⟨W.heap.size,7,none⟩=some (.int .i64 fill)/\w'.cell? ⟨W.heap.size,8,none⟩=some (aV ft)) (refine HS0.o _ (by((repeat (first | with_reducible exact Hb2.o | with_reducible exact Hb1.o | with_reducible exact a7 | with_reducible refine Below.drew ?_ | with_reducible refine Below.alloc ?_ ?_ _ | with_reducible refine Below.setCell ?_ ?_ _)) <;> (first | with_reducible exact a8 | with_reducible exact Hb2.o.size | with_reducible exact Hb1.o.size | (have hsz:=Hb2.o.size;simp [World.setCell];omega) | (have hsz:=Hb1.o.size;simp [World.setCell];omega) | (simp;done) | (simp;omega) | omega))))
  (first
  | (refine b9 rfl 95 _ _ rfl c_N [.slice a rs.length c] ?_ _ (HC.o _ (by((repeat (first | with_reducible exact a7 | with_reducible refine Below.drew ?_ | with_reducible refine Below.alloc ?_ ?_ _ | with_reducible refine Below.setCell ?_ ?_ _)) <;> (first | with_reducible exact a8 | (simp;done) | (simp;omega) | omega)))) ?_
     . go_simp
     rintro e w1 ⟨v1,rfl,hown,hbel⟩
     refine⟨_,rfl, ?_⟩
     have Hb1:=a6 (b5 (w0:=w0) (by((repeat (first | with_reducible exact a7 | with_reducible refine Below.drew ?_ | with_reducible refine Below.alloc ?_ ?_ _ | with_reducible refine Below.setCell ?_ ?_ _)) <;> (first | with_reducible exact a8 | (simp;done) | (simp;omega) | omega))) hbel)
     have Hown:=a6 (lK hown ((Below.size (w:=w0) (B:=w0.heap.size) (by((repeat (first | with_reducible exact a7 | with_reducible refine Below.drew ?_ | with_reducible refine Below.alloc ?_ ?_ _ | with_reducible refine Below.setCell ?_ ?_ _)) <;> (first | with_reducible exact a8 | (simp;done) | (simp;omega) | omega))))))
     first
      | (have h9:=At.kept (w:=World.drew _) (At.drw (At.fresh _ [aV ty, .int .i64 td,aV tt, .int .i64 od,aV ot, .slice ea kids.length ec, .int .i64 fill,aV ft] 27)) hbel
         have HA9:=a6 (show At w1 w0.heap.size [aV ty, .int .i64 td,aV tt, .int .i64 od,aV ot, .slice ea kids.length ec, .int .i64 fill,aV ft] 27 from h9)
         clear h9)
      | skip
     clear hown hbel)
  | (refine IV (w:=w1.alloc (Obj.cells #[aV ty, .int .i64 td,aV tt, .int .i64 od,aV ot, .slice ea kids.length ec, .int .i64 fill,aV ft] 27)) rfl _ _ _ rfl w0.heap.size 27 _ 8 112 Tryz.underlying22 a_9 rfl (by decide) v1 rs.length css ?_ (j4 Hown.o (aX w1 _)) (some ⟨w1.heap.size,0,none⟩) 1 1 (w1.heap.size+1) [aV ty, .int .i64 td,aV tt, .int .i64 od,aV ot, .slice ea kids.length ec, .int .i64 fill,aV ft] ?_ (h_e (At.fresh w1 [aV ty, .int .i64 td,aV tt, .int .i64 od,aV ot, .slice ea kids.length ec, .int .i64 fill,aV ft] 27) 1 8 rfl (by omega) HE.o) ?_ ?_ ?_ ?_
     . go_simp
     . go_simp
     . unfold maxLen;omega
     . omega
     . exact(aJ Hb1.o.size (aX w1 _).size)
     intro v2 w2 hown2 hgrow
     have Hb2:=a6 ((b5 Hb1.o (aX w1 _)).grown hgrow (aJ Hb1.o.size (aX w1 _).size) (fun k hk=>(Hown.o.lt k hk).1))
     have HZ:=a6 (HF.o w2 v2 _ rfl (lK hown2 Hb0.o.size) (Hb0.o.trans (Hb2.o.mono Hb0.o.size)))
     clear hown2 hgrow)
  | (refine IV (w:=w1) rfl _ _ _ rfl w0.heap.size 27 _ 8 112 Tryz.underlying22 a_9 rfl (by decide) v1 rs.length css ?_ (Hown.o) (some ⟨w0.heap.size,0,none⟩) 1 1 (w0.heap.size+1) [aV ty, .int .i64 td,aV tt, .int .i64 od,aV ot, .slice ea kids.length ec, .int .i64 fill,aV ft] ?_ (h_e HA9.o 1 8 rfl (by omega) HE.o) ?_ ?_ ?_ ?_
     . go_simp
     . go_simp
     . unfold maxLen;omega
     . omega
     . exact(Hb1.o.size)
     intro v2 w2 hown2 hgrow
     have Hb2:=a6 (Hb1.o.grown hgrow Hb1.o.size (fun k hk=>(Hown.o.lt k hk).1))
     have HZ:=a6 (HF.o w2 v2 _ rfl (lK hown2 Hb0.o.size) (Hb0.o.trans (Hb2.o.mono Hb0.o.size)))
     clear hown2 hgrow)
 )
 all_goals
  go_wp2_with fail
  go_ret
  exact HZ.o
theorem I7 {P:Program} {w:World} {N:Nat} {cs:List Value} {T:TypeId} {d:TypeDesc} (h:At w N cs T) (hu:P.underlying T=some d) (hd:d.isRow=true) (hi:(P.info? T).map (·.size)=some cs.length):(Instr.loadAt T (.pointer (some ⟨N,0,none⟩))).run P w= .ok (.agg cs.toArray) w:=
 run_loadAt_mid w N 0 T cs d (fun j v hj=>by rw [Nat.zero_add];exact h.cell j hj) hu hd hi
theorem oJ.s8 {w:World} {b n N:Nat} {acc:List (List UInt8)} (h:oJ w b n acc) (hne:b≠N) (d0 d1 d2 d3 d4 d5 d6 d7:Value):
 oJ ((((((((w.setCell ⟨N,0,none⟩ d0).setCell ⟨N,1,none⟩ d1).setCell ⟨N,2,none⟩ d2).setCell ⟨N,3,none⟩ d3).setCell ⟨N,4,none⟩ d4).setCell ⟨N,5,none⟩ d5).setCell ⟨N,6,none⟩ d6).setCell ⟨N,7,none⟩ d7) b n acc:=
 (((((((h.setCell (a:=⟨N,0,none⟩) hne d0).setCell (a:=⟨N,1,none⟩) hne d1).setCell (a:=⟨N,2,none⟩) hne d2).setCell (a:=⟨N,3,none⟩) hne d3).setCell (a:=⟨N,4,none⟩) hne d4).setCell (a:=⟨N,5,none⟩) hne d5).setCell (a:=⟨N,6,none⟩) hne d6).setCell (a:=⟨N,7,none⟩) hne d7
theorem m_n (s:b8) (v:Value) (r:bJ) (a:Option Addr) (c:Nat) (W:World) (hw:s.wt <= 100000000) (hv:SchemaV W W.heap.size s v) (hr:r∈qK s):
 Calls Tryz.prog 48 #[v, .agg #[aV r.type, .int .i64 r.text.1,aV r.text.2, .int .i64 r.other.1,aV r.other.2, .slice a r.kids.length c, .int .i64 r.fill,aV r.fillT]] W fun e w'=>e= .returned (.int .i64 (a_1 s r))/\Below W.heap.size W w':=by
 have hrl:s.rules.length <= 100000000:=by have:=pJ s.rules;unfold b8.wt at hw;omega
 have Hv:=a6 (fun(w':World) (hb:Below W.heap.size W w')=>hv.keep hb hb.size)
 obtain⟨sa,sc,css,ea,ec,o0,o1,o2,o3,o4,o5,rfl, -, -, -, -⟩:=hv.open
 obtain⟨R,hR⟩:∃R,R=a_1 s r:=⟨_,rfl⟩
 have HR:=a6 (show a_0 s (s.rules.length+2) [] r 0=R from hR.symm)
 rw [<- hR]
 have Hrr:=a6 hr
 obtain⟨w0,hw0⟩:∃w0,w0=(W.alloc (Obj.cells #[.slice sa s.rules.length sc,aV s.els.type, .int .i64 s.els.text.1,aV s.els.text.2, .int .i64 s.els.other.1,aV s.els.other.2, .slice ea s.els.kids.length ec, .int .i64 s.els.fill,aV s.els.fillT, .int .i64 o0, .int .i64 o1, .int .i64 o2, .int .i64 o3, .int .i64 o4, .int .i64 o5, .int .i64 s.cap] 30)).alloc (Obj.cells #[aV r.type, .int .i64 r.text.1,aV r.text.2, .int .i64 r.other.1,aV r.other.2, .slice a r.kids.length c, .int .i64 r.fill,aV r.fillT] 27):=⟨_,rfl⟩
 have hb0:Below W.heap.size W w0:=by rw [hw0];exact i8 _ _ _
 have hA:At w0 W.heap.size [.slice sa s.rules.length sc,aV s.els.type, .int .i64 s.els.text.1,aV s.els.text.2, .int .i64 s.els.other.1,aV s.els.other.2, .slice ea s.els.kids.length ec, .int .i64 s.els.fill,aV s.els.fillT, .int .i64 o0, .int .i64 o1, .int .i64 o2, .int .i64 o3, .int .i64 o4, .int .i64 o5, .int .i64 s.cap] 30:=by rw [hw0];exact(At.fresh W _ _).alloc _
 have hX:At w0 (W.heap.size+1) [aV r.type, .int .i64 r.text.1,aV r.text.2, .int .i64 r.other.1,aV r.other.2, .slice a r.kids.length c, .int .i64 r.fill,aV r.fillT] 27:=by rw [hw0];exact At.second W _ _ _
 have hld:=fun(w':World) (h:At w' W.heap.size [.slice sa s.rules.length sc,aV s.els.type, .int .i64 s.els.text.1,aV s.els.text.2, .int .i64 s.els.other.1,aV s.els.other.2, .slice ea s.els.kids.length ec, .int .i64 s.els.fill,aV s.els.fillT, .int .i64 o0, .int .i64 o1, .int .i64 o2, .int .i64 o3, .int .i64 o4, .int .i64 o5, .int .i64 s.cap] 30)=>I7 (P:=Tryz.prog) h Tryz.underlying30 rfl (by kernel_rfl)
 simp [go_sem]at hld
 have HLD:=a6 hld
 have hmm:= @run_makeMap Tryz.prog
 have hM0:=hX.lt
 have Hw0:=a6 hw0
 have Hwt:=a6 hw
 obtain⟨M,hM⟩:∃M,M=w0.heap.size:=⟨_,rfl⟩
 obtain⟨w1,hw1⟩:∃w1,w1=w0.alloc (.map #[] 0):=⟨_,rfl⟩
 have HS1:=a6 (show oJ w1 M 0 ([]:List (List UInt8)).reverse by rw [hw1,hM];exact oJ.fresh w0)
 have hb1:Below W.heap.size W w1:=by rw [hw1];exact hb0.alloc hb0.size _
 have HA1:=a6 (show At w1 W.heap.size _ _ by rw [hw1];exact hA.alloc _)
 have HX1:=a6 (show At w1 (W.heap.size+1) _ _ by rw [hw1];exact hX.alloc _)
 have Hb1:=a6 hb1
 have Hw1:=a6 hw1
 have HM:=a6 hM
 have hMW:W.heap.size+1 < M:=by rw [hM];exact hM0
 clear hv hw hw0 hb0 hA hX hld hR hr hM hw1 hb1 hM0
 go_enter Tryz.func48,Tryz.ntmps48
 go_upto_region 1 with fail
 rw [<- Hw0.o]
 clear Hw0
 go_upto_region 2 with fail
 rw [<- Hw1.o, <- HM.o]
 clear Hw1 HM hmm
 go_wp2_with fail
 go_loopg [6] (s.rules.length+2) (fun g i wr=>∃ (n:Nat) (met:List (List UInt8)) (q:bJ) (qa:Option Addr) (qc:Nat),i= .int .i64 n/\met.length=n/\n+g=s.rules.length+2/\Hid (met.Nodup)/\Hid (∀x∈met,x∈ (qK s).map (·.type))/\Hid (q∈qK s)/\Hid (a_0 s g met q n=R)/\
  Hid (At wr (W.heap.size+1) [aV q.type, .int .i64 q.text.1,aV q.text.2, .int .i64 q.other.1,aV q.other.2, .slice qa q.kids.length qc, .int .i64 q.fill,aV q.fillT] 27)/\
  Hid (At wr W.heap.size [.slice sa s.rules.length sc,aV s.els.type, .int .i64 s.els.text.1,aV s.els.text.2, .int .i64 s.els.other.1,aV s.els.other.2, .slice ea s.els.kids.length ec, .int .i64 s.els.fill,aV s.els.fillT, .int .i64 o0, .int .i64 o1, .int .i64 o2, .int .i64 o3, .int .i64 o4, .int .i64 o5, .int .i64 s.cap] 30)/\
  Hid (oJ wr M n met.reverse)/\Hid (Below W.heap.size W wr))
 case atStart=>exact⟨0, [],r,a,c,rfl,rfl,by omega,(show List.Nodup []from List.nodup_nil),(show ∀x∈ [],_ from by simp),Hrr,HR,HX1,HA1,HS1,Hb1⟩
 case round=>
  obtain⟨n,met,q,qa,qc,rfl,hml,hg,hnd,hin,hq,hdp,hx,ha,hs,hbr⟩:=hrel
  have hle:=n_l hnd.o hin.o
  obtain⟨g',hg'⟩:∃g',gk=g'+1:=⟨gk - 1,by omega⟩
  have hql:q.type.length <= maxLen:=by have h1:=b_M hq.o;have h2:=Hwt.o;unfold bJ.wt at h1;unfold maxLen;omega
  have hdp2:=hdp.o
  rw [hg',h_a]at hdp2
  have Hgg:=a6 (show n+1+g'=s.rules.length+2/\g' < gk from by omega)
  obtain⟨⟨x0,x1,x2,x3,x4,x5,x6,x7⟩,xf,xl⟩:=hx.o.f8
  have Hql:=a6 hql
  clear hdp hle hql hg'
  by_cases h0:q.fill=0
  . have Hz:=a6 (show (n:Int)=R by rw [if_pos h0]at hdp2;exact hdp2)
    rw [h0]at x6
    clear hdp2 h0
    go_wp2_with fail
    go_ret
    exact⟨cY Hz.o,hbr.o⟩
  . by_cases h1:q.fill=1
    . have Hz:=a6 (show (n:Int)+1=R by rw [if_neg h0,if_pos h1]at hdp2;exact hdp2)
      rw [h1]at x6
      clear hdp2 h0 h1
      go_wp2_with fail
      go_ret
      exact⟨cY Hz.o,hbr.o⟩
    . have h0b:(q.fill == 0)=false:=beq_eq_false_iff_ne.2 h0
      have h1b:(q.fill == 1)=false:=beq_eq_false_iff_ne.2 h1
      rw [if_neg h0,if_neg h1]at hdp2
      have hask:=hs.o.ask q.type Hql.o
      by_cases hmem:q.type∈met
      . have Hz:=a6 (show (-1:Int)=R by rw [if_pos hmem]at hdp2;exact hdp2)
        rw [decide_eq_true (List.mem_reverse.2 hmem)]at hask
        clear hdp2 h0 h1 hmem
        go_wp2_with fail
        go_ret
        exact⟨cY Hz.o,hbr.o⟩
      . have Hdp:=a6 (show a_0 s g' (q.type::met) (bV s q.fillT) (n+1)=R by rw [if_neg hmem]at hdp2;exact hdp2)
        have Hmem:=a6 hmem
        rw [decide_eq_false (fun h=>hmem (List.mem_reverse.1 h))]at hask
        clear hdp2 h0 h1 hmem
        go_upto_region 10 with fail
        go_wp2_with (at_mapUpdate;refine f_N rfl _ _ _ rfl M n met.reverse q.type rfl rfl rfl hs.o ?hn Hql.o ?_)
        case hn=>have h9:=Hgg.o.1;unfold maxLen;omega
        intro w2 hs2 hgrow
        have hne1:(some M:Option Nat)≠some (W.heap.size+1):=by intro e;injection e with e;omega
        have hne0:(some M:Option Nat)≠some W.heap.size:=by intro e;injection e with e;omega
        have HX2:=a6 (hx.o.grown hgrow hne1)
        have HA2:=a6 (ha.o.grown hgrow hne0)
        have HS2:=a6 (show oJ w2 M (n+1) (q.type::met).reverse by rw [List.reverse_cons];exact hs2)
        have Hb2:=a6 (hbr.o.grown hgrow hbr.o.size (fun k e=>by cases e;omega))
        have hC:=a_t s _ q.fillT w2 Hwt.o (Hv.o w2 Hb2.o)
        have HC:=a6 hC
        have hld:=HLD.o w2 HA2.o
        clear hs2 hgrow hne1 hne0 x0 x1 x2 x3 x4 x5 x6 x7 xf hx ha hs hask hC
        obtain⟨⟨x0,x1,x2,x3,x4,x5,x6,x7⟩,xf,xl2⟩:=HX2.o.f8
        go_wp2_with fail
        refine HC.o.mono ?_
        rintro e w3 ⟨ka,kc,rfl, -,hbel⟩
        have Hb3:=a6 (Hb2.o.trans (hbel.mono Hb2.o.size))
        have HX3:=a6 (HX2.o.kept hbel)
        have HA3:=a6 (HA2.o.kept hbel)
        have HS3:=a6 (HS2.o.kept hbel)
        clear hbel HC x0 x1 x2 x3 x4 x5 x6 x7 xf hld HX2 HA2 HS2 xl xl2
        obtain⟨⟨x0,x1,x2,x3,x4,x5,x6,x7⟩,xf,xl⟩:=HX3.o.f8
        obtain⟨Q,hQ⟩:∃Q,Q=bV s q.fillT:=⟨_,rfl⟩
        have HQ:=a6 hQ
        rw [<- hQ]at Hdp⊢
        clear hQ
        go_wp2_with fail
        go_roundg g'
        case measure=>exact Hgg.o.2
        case rel=>
         have h9:=Hgg.o.1
         refine⟨n+1,q.type::met,Q,ka,kc,by go_num,by simp;omega,by omega,(show List.Nodup _ from List.nodup_cons.2 ⟨Hmem.o,hnd.o⟩),(show ∀x∈q.type::met,_ from fun x hx=>by rcases List.mem_cons.1 hx with rfl | hx;exact List.mem_map.2 ⟨q,hq.o,rfl⟩;exact hin.o x hx),(show Q∈qK s by rw [HQ.o];exact h_9 s _),Hdp,(show At _ _ _ _ from HX3.o.s8 _ _ _ _ _ _ _ _),(show At _ _ _ _ from HA3.o.n8 (by omega) _ _ _ _ _ _ _ _),(show oJ _ _ _ _ from HS3.o.s8 (by omega) _ _ _ _ _ _ _ _),(show Below _ _ _ from a_h Hb3.o (by omega) _ _ _ _ _ _ _ _)⟩
end Go.Proofs.YtmadpclcmjahoaaGreatDoor

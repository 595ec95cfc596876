/- Parts of the proof: 5. -/
import Derived.Test.YtmadpclcmjahoaaGreatDoorFN1
import Derived.Test.YtmadpclcmjahoaaGreatDoorFN3
import Derived.Test.YtmadpclcmjahoaaGreatDoorFN4
import Derived.Laws.IdiomCopy
import Derived.Lib.AppendZerosOnto
import Derived.Lib.Overlaps
import Derived.Laws.Externs
import Derived.Deep.AppendSrc
import Derived.Test.YtmadpclcmjahoaaGreatDoorFN2
set_option linter.unusedVariables false
set_option linter.unusedSimpArgs false
set_option maxHeartbeats 8000000
set_option maxRecDepth 100000
namespace Go.Proofs.YtmadpclcmjahoaaGreatDoor
open Go.RowKit Go.Redl Go.Lib
theorem G8 {P:Program} (w:World) (dT sT ty elem:TypeId) (k b o dLen dCap:Nat) (a:Addr) (sLen sCap:Nat) (cs:List Value)
 (hu:P.underlying dT=some (.slice elem)) (hs:(P.info? elem).map (·.size)=some k) (hn:cs.length=Nat.min sLen dLen * k)
 (hsrc:∀j v,cs[j]? =some v ->w.cell? (a.add j)=some v) (hc:∀j,j < cs.length ->(w.cell? ⟨b,o+j,none⟩).isSome=true) (hf:∀j,j < cs.length ->w.frozen? ⟨b,o+j,none⟩=false) (h1:∀v∈cs,v.oneCell'=true):
 (Builtin.copy_ #[dT,sT] ty #[.slice (some ⟨b,o,none⟩) dLen dCap, .slice (some a) sLen sCap]).run P w= .ok (goInt (Nat.min sLen dLen)) (w.setCells b o cs):=by
 have hl:=run_loadCells_list (P:=P) w a cs hsrc
 have hst:=run_storeCells_cells (P:=P) b o cs 0 w (by simpa using hc) (by simpa using hf) h1
 cases hq:P.info? elem with
 | none=>simp [hq]at hs
 | some i=>
   have hi:i.size=k:=by simpa [hq]using hs
   simp [Builtin.copy_,run_underlying hu,Builtin.lenOf,Builtin.firstCells,sizeOf,typeInfo,hq,hi, <- hn,hl,hst]
theorem b_i {P:Program} {ops:Array Oper} {o:Oper} {a:Act} {w:World} {K:Act ->World ->Prop} {Q:Exit ->Act ->World ->Prop} {E:Prop}
 (hg:o.guard=none) (d x:Operand) (dT sT:TypeId) (hop:o.op=Op.call { callee:=Callee.builtin Builtin.copy,args:= #[d,x],argTypes:= #[dT,sT] })
 (v u:Value) (hd:a.eval d=v) (hx:a.eval x=u) {v':Value} {w':World} (hr:(Builtin.copy_ #[dT,sT] o.type #[v,u]).run P w= .ok v' w') (hK:K (a.put o.dst v') w'):
 if Region.wanted o (yielded ops a.tmps)=true then Oper.wp P o a w K Q else E:=by
 have hw:Region.wanted o (yielded ops a.tmps)=true:=by simp [Region.wanted,hg]
 rw [if_pos hw]
 unfold Oper.wp
 simp [execOp,hop,resolve,invoke,builtin,hd,hx,hr,Result.andThen]
 exact hK
theorem B3 (b:Nat) (vs:List Value) (o:Nat) (w:World) (h:∀j,j < vs.length ->(w.cell? ⟨b,o+j,none⟩).isSome=true) (k:Nat) (hk:(w.cell? ⟨b,k,none⟩).isSome=true):((w.setCells b o vs).cell? ⟨b,k,none⟩).isSome=true:=by
 by_cases hin:o <= k/\k < o+vs.length
 . have:=World.cell?_setCells_in b vs o w h (k - o) (by omega)
   rw [show o+(k - o)=k by omega]at this
   rw [this];rfl
 . rw [World.cell?_setCells_out b vs o w ⟨b,k,none⟩ (fun _ _=>by show k < o∨o+vs.length <= k;omega)]
   exact hk
theorem l9 (b:Nat):∀ (vs:List Value) (o:Nat) (w:World) (cur:Array Value) (e:TypeId) (f:Nat×Nat),w.heap[b]? =some (.cells cur e f) ->o+vs.length <= cur.size ->
 ∃cur',(w.setCells b o vs).heap[b]? =some (.cells cur' e f)/\cur'.size=cur.size/\cur'.toList=cur.toList.take o ++ vs ++ cur.toList.drop (o+vs.length)
 | [],o,w,cur,e,f,h,hl=>⟨cur,h,rfl,by simp⟩
 | v::vs,o,w,cur,e,f,h,hl=>by
   simp only [List.length_cons]at hl
   have h1:(w.setCell ⟨b,o,none⟩ v).heap[b]? =some (.cells (cur.setIfInBounds o v) e f):=by
    simp [World.setCell,Array.getElem?_modify,h]
   obtain⟨cur',g1,g2,g3⟩:=l9 b vs (o+1) (w.setCell ⟨b,o,none⟩ v) (cur.setIfInBounds o v) e f h1 (by simp;omega)
   refine⟨cur',g1,by rw [g2];simp, ?_⟩
   have ho:o < cur.toList.length:=by simp;omega
   rw [g3,Array.toList_setIfInBounds,List.take_succ_eq_append_getElem (by simpa using ho),List.getElem_set_self,List.take_set_of_le (a8),List.drop_set_of_lt (by omega)]
   simp
   omega
theorem gK {b:Nat}:∀ (vs:List Value) (o:Nat) (w:World),w.grownBy (w.setCells b o vs) (some b)
 | [],o,w=>World.grownBy.refl _ _
 | v::vs,o,w=>((World.grownBy.refl w (some b)).set o v).trans (gK vs (o+1) _)
theorem j_j {w:World} {N:Nat} {cs:List Value} {T:TypeId} (h:At w N cs T) (n sz:Nat) (hl:cs.length=n * sz) (hn:n <= 100000000) (h1:∀u∈cs,u.oneCell'=true):RowA w w.heap.size sz (some ⟨N,0,none⟩) n n cs:=
 ⟨hl,a8,by unfold maxLen;omega,h1,(fun e=>by cases e),fun _=>⟨N,0,rfl,h.lt,fun j u hj=>by rw [Nat.zero_add];exact h.cell j hj⟩⟩
theorem j_k:∀args w,(callFunc 183 args).run Tryz.prog w= .ok (.enter 183 args) w:=by intro args w;kernel_rfl
def m_H (W:World) (M:Nat) (v:Value) (n:Nat) (css:List Value) (e:Ending) (w':World):Prop:=
 ∃v',e= .returned v'/\w'.ownsRow M 35 4 v' n css/\W.grownBy w' v.ownBlock/\(v'.ownBlock=v.ownBlock∨ ∀k,v'.ownBlock=some k ->W.heap.size <= k)
theorem j_l (M:Nat) (v:Value) (n:Nat) (css:List Value) (vb:Nat) (c:List Value) (w:World) (hown:w.ownsRow M 35 4 v n css) (hn:n <= 100000000) (hM:M <= w.heap.size) (hv:At w vb c 35) (hc:c.length=4) (h1:∀u∈c,u.oneCell'=true):
 Calls Tryz.prog 183 #[v, .int .i64 n, .slice (some ⟨vb,0,none⟩) 1 1] w (m_H w M v (n+1) (css ++ c)):=by
 have hr:RowA w w.heap.size 4 (some ⟨vb,0,none⟩) 1 1 c:=j_j hv 1 4 (by rw [hc]) (by omega) h1
 have Hown:=a6 hown;have Hr:=a6 hr
 rcases hown.2 with⟨rfl,rfl⟩ | ⟨g,cap,cur,rfl,hb,hg,hnc,hcm,hcs,htake⟩
 . clear hown hr
   go_enter Tryz.func183,Tryz.ntmps183
   go_wp2_with (at_builtin;refine DJ rfl _ _ 33 rfl M 35 _ 4 80 Tryz.underlying33 uJ rfl (by decide) _ 0 css rfl Hown.o _ 1 1 w.heap.size c rfl Hr.o (by unfold maxLen;omega) (by omega) hM ?_;intro v' w' ho hgr hw;have Ho:=a6 (show w'.ownsRow M 35 4 v' (0+1) (css ++ c)/\_/\_ from⟨ho,hgr,hw⟩);clear ho hgr hw)
   go_ret
   exact⟨_,rfl,Ho.o.1,Ho.o.2.1,Ho.o.2.2⟩
 . unfold maxLen at hcm
   clear hown hr hb hg hcs htake
   go_enter Tryz.func183,Tryz.ntmps183
   go_wp2_with (at_builtin;refine DJ rfl _ _ 33 rfl M 35 _ 4 80 Tryz.underlying33 uJ rfl (by decide) _ n css rfl Hown.o _ 1 1 w.heap.size c rfl Hr.o (by unfold maxLen;omega) (by omega) hM ?_;intro v' w' ho hgr hw;have Ho:=a6 (show w'.ownsRow M 35 4 v' (n+1) (css ++ c)/\_/\_ from⟨ho,hgr,hw⟩);clear ho hgr hw)
   all_goals go_ret
   all_goals exact⟨_,rfl,Ho.o.1,Ho.o.2.1,Ho.o.2.2⟩
theorem KQ:(Tryz.prog.info? 35).map (·.size)=some 4:=by kernel_rfl
theorem j_m {w:World} {N:Nat} {cs:List Value} {T:TypeId} (h:At w N cs T):w.shape? N=some (T,cs.length):=by
 unfold At at h
 simp [World.shape?,h]
theorem m_I (vb g off lb cb:Nat) (c:List Value) (cur:Array Value) (w:World) (hv:At w vb c 35) (hc:c.length=4) (hg:w.heap[g]? =some (.cells cur 35 (0,0))) (hcs:cur.size≠0) (hne:vb≠g):
 (callFunc 236 #[.slice (some ⟨vb,0,none⟩) 1 1, .slice (some ⟨g,off,none⟩) lb cb]).run Tryz.prog w= .ok (.value (.bool false)) w:=by
 rw [run_callFunc_extern Tryz.func236 (by kernel_rfl) (by kernel_rfl) (by kernel_rfl) (e:=Extern.SlicesOverlaps.overlaps #[33,33] #[4]) (by kernel_rfl),
  Lib.run_overlaps_apart w 33 4 35 Tryz.underlying33 4 (by intro w;kernel_rfl) ⟨vb,0,none⟩ ⟨g,off,none⟩ 1 1 lb cb hne 35 35 4 cur.size (by rw [j_m hv,hc]) (by simp [World.shape?,hg]) hcs (Lib.frozen_of_heap hv _) (Lib.frozen_of_heap hv _)]
 rfl
theorem g_8 (M g n cap i:Nat) (cur:Array Value) (vb:Nat) (c:List Value) (w:World) (hM:M <= g) (hg:w.heap[g]? =some (.cells cur 35 (0,0))) (hroom:n+1 <= cap) (hcm:cap <= maxLen) (hcs:cur.size=cap * 4) (h1c:∀u∈cur.toList.take (n * 4),u.oneCell'=true)
 (hi:i < n) (hn:n <= 100000000) (hv:At w vb c 35) (hc:c.length=4) (h1:∀u∈c,u.oneCell'=true) (hne:vb≠g):
 Calls Tryz.prog 183 #[.slice (some ⟨g,0,none⟩) n cap, .int .i64 i, .slice (some ⟨vb,0,none⟩) 1 1] w fun e w'=>e= .returned (.slice (some ⟨g,0,none⟩) (n+1) cap)/\w'=(w.drew.setCells g ((i+1) * 4) ((cur.toList.take (n * 4)).drop (i * 4))).setCells g (i * 4) c:=by
 unfold maxLen at hcm
 have hz2:¬ ((i:Int)=(n:Int)):=by omega
 have hov:=fun lb cb=>m_I vb g ((i+1) * 4) lb cb c cur w hv hc hg (by omega) hne
 have hcell:∀j u,cur[j]? =some u ->w.cell? ⟨g,j,none⟩=some u:=fun j u hj=>by rw [cell_of_row _ _ _ _ _ _ hg];exact hj
 have hsome:∀j,j < cap * 4 ->(w.cell? ⟨g,j,none⟩).isSome=true:=fun j hj=>by rw [cell_of_row _ _ _ _ _ _ hg,Array.getElem?_eq_getElem (by omega)];rfl
 have hfz:∀j,w.frozen? ⟨g,j,none⟩=false:=fun j=>Lib.frozen_of_heap hg _
 obtain⟨D,hD⟩:∃D,D=(cur.toList.take (n * 4)).drop (i * 4):=⟨_,rfl⟩
 have hdl:D.length=(n - i) * 4:=by rw [hD];simp;omega
 have hDat:∀j u,D[j]? =some u ->cur[i * 4+j]? =some u:=fun j u hj=>by
  rw [hD,List.getElem?_drop]at hj
  rw [List.getElem?_take]at hj
  split at hj
  . simpa using hj
  . cases hj
 have hD1:∀u∈D,u.oneCell'=true:=fun u hu=>h1c u (by rw [hD]at hu;exact List.mem_of_mem_drop hu)
 rw [<- hD]
 have hcp1:∀ty dc sc,(Builtin.copy_ #[33,33] ty #[.slice (some ⟨g,(i+1) * 4,none⟩) (n - i) dc, .slice (some ⟨g,i * 4,none⟩) (n+1 - i) sc]).run Tryz.prog w.drew= .ok (goInt (Nat.min (n+1 - i) (n - i))) (w.drew.setCells g ((i+1) * 4) D):=fun ty dc sc=>
  G8 w.drew _ _ ty 35 4 g ((i+1) * 4) (n - i) dc ⟨g,i * 4,none⟩ (n+1 - i) sc D Tryz.underlying33 KQ (by rw [hdl];simp only [Nat.min_def];split <;> omega)
   (fun j u hj=>by rw [Addr.add_lit];exact hcell _ _ (hDat j u hj)) (fun j hj=>hsome _ (by rw [hdl]at hj;omega)) (fun j hj=>hfz _) hD1
 obtain⟨W1,hW1⟩:∃W1,W1=w.drew.setCells g ((i+1) * 4) D:=⟨_,rfl⟩
 have hsp1:∀k,k < cap * 4 ->(W1.cell? ⟨g,k,none⟩).isSome=true:=fun k hk=>by
  rw [hW1]
  exact B3 g D _ w.drew (fun j hj=>hsome ((i+1) * 4+j) (by rw [hdl]at hj;omega)) _ (hsome k hk)
 have hcp2:∀ (W:World),(∀x,W.cell? x=W1.cell? x) ->(∀x,W.frozen? x=W1.frozen? x) ->∀ty dc,(Builtin.copy_ #[33,33] ty #[.slice (some ⟨g,i * 4,none⟩) (n+1 - i) dc, .slice (some ⟨vb,0,none⟩) 1 1]).run Tryz.prog W= .ok (goInt (Nat.min 1 (n+1 - i))) (W.setCells g (i * 4) c):=fun W hWc hWf ty dc=>
  G8 W _ _ ty 35 4 g (i * 4) (n+1 - i) dc ⟨vb,0,none⟩ 1 1 c Tryz.underlying33 KQ (by rw [hc];simp only [Nat.min_def];split <;> omega)
   (fun j u hj=>by
     rw [Addr.add_lit,hWc,hW1,World.cell?_setCells_out g _ _ _ _ (fun h _=>absurd h hne),Nat.zero_add]
     exact hv.cell j hj)
   (fun j hj=>by rw [hWc];exact hsp1 _ (by rw [hc]at hj;omega)) (fun j hj=>by rw [hWf,hW1,World.frozen?_setCells];exact hfz _) h1
 rw [<- hW1]at hcp1
 have hw1:IntKind.i64.wrap ((i:Int)+1)=(i:Int)+1:=by rw [IntKind.wrap_i64];omega
 have hw2:IntKind.i64.wrap ((n:Int)+1)=(n:Int)+1:=by rw [IntKind.wrap_i64];omega
 have hb1:(0:Int) <= (i:Int)+1:=by omega
 have hin:i <= n:=by omega
 have htn:((i:Int)+1).toNat=i+1:=by omega
 have htn2:((n:Int)+1).toNat=n+1:=by omega
 have hb2:¬ (cap=i+1):=by omega
 have hb3:(i:Int) <= (n:Int)+1:=by omega
 have hb4:¬ (cap=i):=by omega
 have Hcp1:=a6 hcp1;have Hcp2:=a6 hcp2;have HW1:=a6 hW1;have Hov:=a6 hov
 clear hcell hsome hfz hdl hDat hD1 hsp1 hcp1 hcp2 hv hg hcs h1c h1 hD hW1 hM hov
 go_enter Tryz.func183,Tryz.ntmps183
 go_wp2_with (simp only [Hov.o])
 go_region_law
  (refine b_i rfl _ _ 33 33 rfl (.slice (some ⟨g,(i+1) * 4,none⟩) (n - i) (cap - (i+1))) (.slice (some ⟨g,i * 4,none⟩) (n+1 - i) (cap - i)) ?_ ?_ (Hcp1.o _ _ _) ?_
   . go_simp
   . go_simp)
 have hcp2:=fun ty dc=>Hcp2.o W1 (fun _=>rfl) (fun _=>rfl) ty dc
 go_wp2_with fail
 go_ret
 first | exact⟨rfl,rfl⟩ | exact⟨rfl,by rw [HW1.o]⟩
theorem i_4 (g n cap i:Nat) (cur:Array Value) (vb:Nat) (c:List Value) (w:World) (hg:w.heap[g]? =some (.cells cur 35 (0,0))) (hnc:n <= cap) (hroom:cap < n+1) (hcs:cur.size=cap * 4) (h1c:∀u∈cur.toList.take (n * 4),u.oneCell'=true)
 (hi:i < n) (hn:n <= 100000000) (hv:At w vb c 35) (hc:c.length=4) (h1:∀u∈c,u.oneCell'=true):
 Calls Tryz.prog 183 #[.slice (some ⟨g,0,none⟩) n cap, .int .i64 i, .slice (some ⟨vb,0,none⟩) 1 1] w fun e w'=>∃G T,e= .returned (.slice (some ⟨w.heap.size,0,none⟩) (n+1) G)/\n+1 <= G/\G <= maxLen/\T.length=(G - i) * 4/\
  w'=(((w.drew.alloc (.cells (cur.toList.take (i * 4) ++ T).toArray 35)).setCells w.heap.size (i * 4) c).drew).setCells w.heap.size ((i+1) * 4) ((cur.toList.take (n * 4)).drop (i * 4)):=by
 obtain⟨i0,hi0,hz0,hzs,hzb⟩:=info_parts uJ
 have hz2:¬ ((i:Int)=(n:Int)):=by omega
 have hz3:(cap:Int) < (n:Int)+1:=by omega
 have hgw:g < w.heap.size:=(Array.getElem?_eq_some_iff.1 hg).1
 have hvw:vb < w.heap.size:=At.lt hv
 have hkk:(n:Int)+1 - (i:Int)=((n+1 - i:Nat):Int):=by omega
 have hik:i+(n+1 - i)=n+1:=by omega
 have hcell:∀j u,cur[j]? =some u ->w.cell? ⟨g,j,none⟩=some u:=fun j u hj=>by rw [cell_of_row _ _ _ _ _ _ hg];exact hj
 have hold:(Builtin.firstCells i0.size i (.slice (some ⟨g,0,none⟩) i cap)).run Tryz.prog w.drew= .ok (cur.toList.take (i * 4)).toArray w.drew:=by
  rw [hzs]
  exact run_firstCells_some w.drew 4 i ⟨g,0,none⟩ i cap (cur.toList.take (i * 4)) (by rw [List.length_take,Array.length_toList];omega) (fun j u hj=>by
   rw [Addr.add_lit,Nat.zero_add]
   rw [List.getElem?_take]at hj
   split at hj
   . exact hcell j u (by simpa using hj)
   . cases hj)
 obtain⟨Z,hZ⟩:∃Z,Z=(Value.agg #[.bool false, .slice none 0 0, .slice none 0 0, .slice none 0 0]).cells:=⟨_,rfl⟩
 have hZ4:Z.size=4:=by rw [hZ];rfl
 have hrz:∀ty,(Builtin.append_ #[33,3] ty #[.slice (some ⟨g,0,none⟩) i cap, .int .i64 ((n:Int)+1 - (i:Int))]).run Tryz.prog w= .ok (.slice (some ⟨w.heap.size,0,none⟩) (n+1) (grownCap w (n+1) cap 35))
  (w.drew.alloc (.cells ((cur.toList.take (i * 4)).toArray ++ Builtin.zeroCells Z (n+1 - i) ++ Builtin.zeroCells Z (grownCap w (n+1) cap 35 - (n+1))) 35)):=fun ty=>by
  have h:=Lib.run_append_grow_zeros w 33 3 ty 35 i0 _ .i64 .i64 Tryz.underlying33 Tryz.underlying3 hi0 hz0 (some ⟨g,0,none⟩) i cap (cur.toList.take (i * 4)) hold (n+1 - i) (by omega) (by omega) (by omega) (by omega) (by rw [hzb];omega) (by rw [hzb,hik];exact growslice_fits (by omega) (by omega))
  rw [hik, <- hZ]at h
  rw [hkk]
  exact h
 obtain⟨G,hG⟩:∃G,G=grownCap w (n+1) cap 35:=⟨_,rfl⟩
 have hGn:n+1 <= G:=by rw [hG];exact grownCap_ge w _ _ _
 have hG63:G <= maxLen:=by rw [hG];exact grownCap_le_maxLen w (n+1) cap 35 (by unfold maxLen;omega)
 rw [<- hG]at hrz
 obtain⟨T,hT,hTl⟩:∃T:List Value,(cur.toList.take (i * 4)).toArray ++ Builtin.zeroCells Z (n+1 - i) ++ Builtin.zeroCells Z (G - (n+1))=(cur.toList.take (i * 4) ++ T).toArray/\T.length=(G - i) * 4:=by
  refine⟨(Builtin.zeroCells Z (n+1 - i)).toList ++ (Builtin.zeroCells Z (G - (n+1))).toList, ?_, ?_⟩
  . apply Array.toList_inj.1;simp
  . simp [Builtin.zeroCells,hZ4];omega
 rw [hT]at hrz
 obtain⟨ROW,hROW⟩:∃ROW,ROW=(cur.toList.take (i * 4) ++ T).toArray:=⟨_,rfl⟩
 have hRl:ROW.size=G * 4:=by rw [hROW];simp [hTl];omega
 rw [<- hROW]at hrz
 obtain⟨D,hD⟩:∃D,D=(cur.toList.take (n * 4)).drop (i * 4):=⟨_,rfl⟩
 have hdl:D.length=(n - i) * 4:=by rw [hD];simp;omega
 have hDat:∀j u,D[j]? =some u ->cur[i * 4+j]? =some u:=fun j u hj=>by
  rw [hD,List.getElem?_drop]at hj
  rw [List.getElem?_take]at hj
  split at hj
  . simpa using hj
  . cases hj
 have hD1:∀u∈D,u.oneCell'=true:=fun u hu=>h1c u (by rw [hD]at hu;exact List.mem_of_mem_drop hu)
 obtain⟨W1,hW1⟩:∃W1,W1=w.drew.alloc (.cells ROW 35):=⟨_,rfl⟩
 have hN:∀j,j < G * 4 ->(W1.cell? ⟨w.heap.size,j,none⟩).isSome=true:=fun j hj=>by
  rw [hW1,World.cell?_alloc_at (w:=w.drew) ROW _ w.heap.size j rfl,Array.getElem?_eq_getElem (by omega)];rfl
 have hNf:∀j,W1.frozen? ⟨w.heap.size,j,none⟩=false:=fun j=>by rw [hW1];exact World.frozen?_alloc_at (w:=w.drew) ROW _ w.heap.size j rfl
 have hOb:∀j v,w.cell? ⟨g,j,none⟩=some v ->W1.cell? ⟨g,j,none⟩=some v:=fun j v h=>by rw [hW1,World.cell?_alloc_past (w:=w.drew) _ g j hgw];exact h
 have hOv:∀j v,w.cell? ⟨vb,j,none⟩=some v ->W1.cell? ⟨vb,j,none⟩=some v:=fun j v h=>by rw [hW1,World.cell?_alloc_past (w:=w.drew) _ vb j hvw];exact h
 have hcpA:∀ty dc,(Builtin.copy_ #[33,33] ty #[.slice (some ⟨w.heap.size,i * 4,none⟩) (n+1 - i) dc, .slice (some ⟨vb,0,none⟩) 1 1]).run Tryz.prog W1= .ok (goInt (Nat.min 1 (n+1 - i))) (W1.setCells w.heap.size (i * 4) c):=fun ty dc=>
  G8 W1 _ _ ty 35 4 w.heap.size (i * 4) (n+1 - i) dc ⟨vb,0,none⟩ 1 1 c Tryz.underlying33 KQ (by rw [hc];simp only [Nat.min_def];split <;> omega)
   (fun j u hj=>by rw [Addr.add_lit,Nat.zero_add];exact hOv _ u (hv.cell j hj))
   (fun j hj=>hN _ (by rw [hc]at hj;omega)) (fun j hj=>hNf _) h1
 have hgi:¬ (G=i):=by omega
 have hgim:¬ (G=i+1):=by omega
 have hci:¬ (cap=i):=by omega
 have hbN:g≠w.heap.size:=by omega
 obtain⟨W2,hW2⟩:∃W2,W2=W1.setCells w.heap.size (i * 4) c:=⟨_,rfl⟩
 have hcpB:∀ (W:World),(∀x,W.cell? x=W2.cell? x) ->(∀x,W.frozen? x=W2.frozen? x) ->∀ty dc sc,(Builtin.copy_ #[33,33] ty #[.slice (some ⟨w.heap.size,(i+1) * 4,none⟩) (n - i) dc, .slice (some ⟨g,i * 4,none⟩) (n - i) sc]).run Tryz.prog W= .ok (goInt (Nat.min (n - i) (n - i))) (W.setCells w.heap.size ((i+1) * 4) D):=fun W hWc hWf ty dc sc=>
  G8 W _ _ ty 35 4 w.heap.size ((i+1) * 4) (n - i) dc ⟨g,i * 4,none⟩ (n - i) sc D Tryz.underlying33 KQ (by rw [hdl];simp only [Nat.min_def];split <;> omega)
   (fun j u hj=>by
     rw [Addr.add_lit,hWc,hW2,World.cell?_setCells_out _ _ _ _ _ (fun h _=>absurd h hbN)]
     exact hOb _ u (hcell _ _ (hDat j u hj)))
   (fun j hj=>by rw [hWc,hW2];exact B3 _ c _ W1 (fun t ht=>hN (i * 4+t) (by rw [hc]at ht;omega)) _ (hN _ (by rw [hdl]at hj;omega)))
   (fun j hj=>by rw [hWf,hW2,World.frozen?_setCells];exact hNf _) hD1
 rw [<- hW1]at hrz
 rw [<- hW2]at hcpA
 have hw1:IntKind.i64.wrap ((i:Int)+1)=(i:Int)+1:=by rw [IntKind.wrap_i64];omega
 have hw2:IntKind.i64.wrap ((n:Int)+1)=(n:Int)+1:=by rw [IntKind.wrap_i64];omega
 have hw3:IntKind.i64.wrap ((n:Int)+1 - (i:Int))=(n:Int)+1 - (i:Int):=by rw [IntKind.wrap_i64];omega
 have hb1:(0:Int) <= (i:Int)+1:=by omega
 have hin:i <= n:=by omega
 have htn:((i:Int)+1).toNat=i+1:=by omega
 have hb3:(i:Int) <= (n:Int):=by omega
 have hb5:(i:Int) <= (n:Int)+1:=by omega
 have Hrz:=a6 hrz;have HcpA:=a6 hcpA;have HcpB:=a6 hcpB;have HW1:=a6 hW1;have HW2:=a6 hW2;have HROW:=a6 hROW;have HG63:=a6 hG63;have HTl:=a6 hTl
 unfold maxLen at hG63
 clear hkk hik hold hROW hG hRl hcell hrz hT hZ hZ4 hdl hDat hD1 hN hNf hOb hOv hcpA hcpB hW1 hW2 hTl hg hcs h1c hv h1 hz0 hzs hzb hi0
 rw [<- hD]
 have HD:=a6 hD
 clear hD
 go_enter Tryz.func183,Tryz.ntmps183
 have hcpA:=HcpA.o
 go_wp2_with (at_builtin;refine Lib.wpList_append_run _ rfl _ _ _ _ rfl _ _ rfl rfl _ _ (Hrz.o _) ?_)
 go_region_law
  (refine b_i rfl _ _ 33 33 rfl (.slice (some ⟨w.heap.size,(i+1) * 4,none⟩) (n - i) (G - (i+1))) (.slice (some ⟨g,i * 4,none⟩) (n - i) (cap - i)) ?_ ?_ (HcpB.o W2.drew (fun _=>rfl) (fun _=>rfl) _ _ _) ?_
   . go_simp
   . go_simp)
 go_wp2_with fail
 go_ret
 refine⟨G,T,rfl,hGn,HG63.o,HTl.o, ?_⟩
 rw [HW2.o,HW1.o,HROW.o]
theorem G9 {w:World} {M g n cap:Nat} {cur:Array Value} {T:TypeId} {xs:List Value} (hM:M <= g) (hg:w.heap[g]? =some (.cells cur T (0,0))) (hnc:n <= cap) (hcm:cap <= maxLen) (hcs:cur.size=cap * 4) (ht:cur.toList.take (n * 4)=xs) (hl:xs.length=n * 4):w.ownsRow M T 4 (.slice (some ⟨g,0,none⟩) n cap) n xs:=
 ⟨hl, .inr ⟨g,cap,cur,rfl,hM,hg,hnc,hcm,hcs,ht⟩⟩
theorem i_5 {α :Type} (L c D R:List α) (a k:Nat) (hc:c.length=k) (ha:a+k <= L.length):((L.take (a+k) ++ D ++ R).take a ++ c ++ (L.take (a+k) ++ D ++ R).drop (a+k)).take (a+k+D.length)=L.take a ++ (c ++ D):=by
 have h1:(L.take (a+k)).length=a+k:=by simp;omega
 have h2:(L.take (a+k) ++ D ++ R).take a=L.take a:=by rw [List.append_assoc,List.take_append_of_le_length (by omega),List.take_take,Nat.min_eq_left (by omega)]
 have h3:(L.take (a+k) ++ D ++ R).drop (a+k)=D ++ R:=by rw [List.append_assoc,List.drop_left' h1]
 have h4:(L.take a ++ (c ++ D)).length=a+k+D.length:=by simp;omega
 rw [h2,h3,show L.take a ++ c ++ (D ++ R)=(L.take a ++ (c ++ D)) ++ R by simp,List.take_left' h4]
theorem l_l {α :Type} (P T c D S S2:List α) (a k:Nat) (hP:P.length=a) (hc:c.length=k):((((P ++ T).take a ++ c ++ S).take (a+k)) ++ D ++ S2).take (a+k+D.length)=P ++ (c ++ D):=by
 have h1:(P ++ T).take a=P:=List.take_left' hP
 have h2:(P ++ c).length=a+k:=by simp;omega
 have h4:(P ++ (c ++ D)).length=a+k+D.length:=by simp;omega
 rw [h1,List.take_left' h2,show P ++ c ++ D ++ S2=(P ++ (c ++ D)) ++ S2 by simp,List.take_left' h4]
theorem M6 {w:World} {r:Option Nat}:w.grownBy w.drew r:=cZ (a7).drew
theorem m_J (M:Nat) (v:Value) (n i:Nat) (css:List Value) (vb:Nat) (c:List Value) (w:World) (hown:w.ownsRow M 35 4 v n css) (h1c:∀u∈css,u.oneCell'=true) (hi:i <= n) (hn:n <= 100000000) (hM:M <= w.heap.size)
 (hv:At w vb c 35) (hc:c.length=4) (h1:∀u∈c,u.oneCell'=true) (hne:v.ownBlock≠some vb):
 Calls Tryz.prog 183 #[v, .int .i64 i, .slice (some ⟨vb,0,none⟩) 1 1] w (m_H w M v (n+1) (css.take (i * 4) ++ (c ++ css.drop (i * 4)))):=by
 have hcl:=hown.1
 by_cases hin:i=n
 . subst hin
   rw [List.take_of_length_le (by omega),List.drop_eq_nil_of_le (by omega),List.append_nil]
   exact j_l M v i css vb c w hown hn hM hv hc h1
 . have hlt:i < n:=by omega
   rcases hown.2 with⟨rfl,rfl⟩ | ⟨g,cap,cur,rfl,hb,hg,hnc,hcm,hcs,htake⟩
   . omega
   have hob:(Value.slice (some ⟨g,0,none⟩) n cap).ownBlock=some g:=rfl
   have hD:(css.drop (i * 4)).length=(n - i) * 4:=by rw [List.length_drop,hcl, <- Nat.sub_mul]
   have e1:cur.toList.take (i * 4)=css.take (i * 4):=by rw [<- htake,List.take_take,Nat.min_eq_left (by omega)]
   by_cases hroom:n+1 <= cap
   . refine (g_8 M g n cap i cur vb c w hb hg hroom hcm hcs (by rw [htake];exact h1c) hlt hn hv hc h1 (fun e=>hne (by rw [e];rfl))).mono ?_
     rintro e w' ⟨rfl,rfl⟩
     rw [htake]
     obtain⟨c1,g1,g2,g3⟩:=l9 g (css.drop (i * 4)) ((i+1) * 4) w.drew cur _ _ (show w.drew.heap[g]? =_ from hg) (by rw [hD];omega)
     obtain⟨c2,k1,k2,k3⟩:=l9 g c (i * 4) _ c1 _ _ g1 (by rw [hc];omega)
     refine⟨_,rfl,G9 hb k1 hroom hcm (by omega) ?_ ?_,(show w.grownBy ((w.drew.setCells g ((i+1) * 4) (css.drop (i * 4))).setCells g (i * 4) c) (some g)from(M6.trans (gK _ _ _)).trans (gK _ _ _)), .inl rfl⟩
     . rw [k3,g3, <- e1,hc]
       have h:=i_5 cur.toList c (css.drop (i * 4)) (cur.toList.drop ((i+1) * 4+(css.drop (i * 4)).length)) (i * 4) 4 hc (by rw [Array.length_toList];omega)
       rw [hD]at h⊢
       rw [show i * 4+4+(n - i) * 4=(n+1) * 4 by omega,show i * 4+4=(i+1) * 4 by omega]at h
       rw [show i * 4+4=(i+1) * 4 by omega]
       exact h
     . simp only [List.length_append,hc,hD,List.length_take,hcl];omega
   . refine (i_4 g n cap i cur vb c w hg hnc (by omega) hcs (by rw [htake];exact h1c) hlt hn hv hc h1).mono ?_
     rintro e w' ⟨G,T,rfl,hG,hGm,hT,rfl⟩
     rw [htake,e1]
     have htl:(css.take (i * 4)).length=i * 4:=by rw [List.length_take];omega
     obtain⟨c1,g1,g2,g3⟩:=l9 w.heap.size c (i * 4) (w.drew.alloc (.cells (css.take (i * 4) ++ T).toArray 35)) (css.take (i * 4) ++ T).toArray _ _ (heap_alloc_new w.drew _) (by simp [htl,hT,hc];omega)
     have hcz:c1.size=G * 4:=by rw [g2];simp [htl,hT];omega
     obtain⟨c2,k1,k2,k3⟩:=l9 w.heap.size (css.drop (i * 4)) ((i+1) * 4) ((w.drew.alloc (.cells (css.take (i * 4) ++ T).toArray 35)).setCells w.heap.size (i * 4) c).drew c1 _ _ g1 (by rw [hD,hcz];omega)
     refine⟨_,rfl,G9 hM k1 hG hGm (by omega) ?_ ?_, ?_, .inr fun k hk=> ?_⟩
     . rw [k3,g3,List.toList_toArray]
       have h:=l_l (css.take (i * 4)) T c (css.drop (i * 4)) ((css.take (i * 4) ++ T).drop (i * 4+c.length)) (c1.toList.drop ((i+1) * 4+(css.drop (i * 4)).length)) (i * 4) 4 htl hc
       rw [g3,List.toList_toArray]at h
       rw [hD]at h⊢
       rw [show i * 4+4+(n - i) * 4=(n+1) * 4 by omega,show i * 4+4=(i+1) * 4 by omega]at h
       exact h
     . simp only [List.length_append,hc,hD,List.length_take,hcl];omega
     . refine cZ ?_
       have hb1:Below w.heap.size w (w.drew.alloc (.cells (css.take (i * 4) ++ T).toArray 35)):=(a7).drew.alloc (a8) _
       have hb2:=hb1.grown (gK c (i * 4) _) hb1.size (fun k e=>by cases e;exact a8)
       exact(hb2.drew).grown (gK _ _ _) hb2.size (fun k e=>by cases e;exact a8)
     . simp [Value.ownBlock]at hk;omega
theorem j_n:∀args w,(callFunc 181 args).run Tryz.prog w= .ok (.enter 181 args) w:=by intro args w;kernel_rfl
theorem I9 {P:Program} {ops:Array Oper} {o:Oper} {a:Act} {w:World} {K:Act ->World ->Prop} {Q:Exit ->Act ->World ->Prop} {E:Prop}
 (hg:o.guard=none) (d x:Operand) (dT sT:TypeId) (hop:o.op=Op.call { callee:=Callee.builtin Builtin.append,args:= #[d,x],argTypes:= #[dT,sT] })
 (v u:Value) (hd:a.eval d=v) (hx:a.eval x=u) {v':Value} {w':World} (hr:(Builtin.append_ #[dT,sT] o.type #[v,u]).run P w= .ok v' w') (hK:K (a.put o.dst v') w'):
 if Region.wanted o (yielded ops a.tmps)=true then Oper.wp P o a w K Q else E:=by
 have hw:Region.wanted o (yielded ops a.tmps)=true:=by simp [Region.wanted,hg]
 rw [if_pos hw]
 unfold Oper.wp
 simp [execOp,hop,resolve,invoke,builtin,hd,hx,hr,Result.andThen]
 exact hK
theorem e_O {P:Program} (w:World) (t e ty:TypeId) (z:Value) (Z:List Value) (ht:P.underlying t=some (.slice e)) (hv:∀w,(zeroValue e).run P w= .ok z w) (hZ:(Builtin.zeroCells z.cells 1).toList=Z) (h1:∀u∈Z,u.oneCell'=true) (b o c:Nat)
 (hc:∀j,j < Z.length ->(w.cell? ⟨b,o+j,none⟩).isSome=true) (hf:∀j,j < Z.length ->w.frozen? ⟨b,o+j,none⟩=false):
 (Builtin.clear_ #[t] ty #[.slice (some ⟨b,o,none⟩) 1 c]).run P w= .ok (.tuple #[]) (w.setCells b o Z):=by
 have hst:=run_storeCells_cells (P:=P) b o Z 0 w (by simpa using hc) (by simpa using hf) h1
 simp only [Nat.add_zero]at hst
 simp [Builtin.clear_,run_underlying ht,hv,hZ,hst]
abbrev e_P:List Value:= [.bool false, .slice none 0 0, .slice none 0 0, .slice none 0 0]
theorem i_6:∀w:World,(zeroValue 35).run Tryz.prog w= .ok (.agg #[.bool false, .slice none 0 0, .slice none 0 0, .slice none 0 0]) w:=fun w=>by kernel_rfl
theorem j_o (M g n cap i:Nat) (cur:Array Value) (w:World) (hM:M <= g) (hg:w.heap[g]? =some (.cells cur 35 (0,0))) (hnc:n <= cap) (hcm:cap <= maxLen) (hcs:cur.size=cap * 4) (h1c:∀u∈cur.toList.take (n * 4),u.oneCell'=true)
 (hi:i+1 <= n) (hn:n <= 100000000):
 Calls Tryz.prog 181 #[.slice (some ⟨g,0,none⟩) n cap, .int .i64 i, .int .i64 ((i+1:Nat):Int)] w fun e w'=>e= .returned (.slice (some ⟨g,0,none⟩) (n - 1) cap)/\w'=(w.drew.setCells g (i * 4) ((cur.toList.take (n * 4)).drop ((i+1) * 4))).setCells g ((n - 1) * 4) e_P:=by
 unfold maxLen at hcm
 obtain⟨i0,hi0,hz0,hzs,hzb⟩:=info_parts uJ
 have hcell:∀j u,cur[j]? =some u ->w.cell? ⟨g,j,none⟩=some u:=fun j u hj=>by rw [cell_of_row _ _ _ _ _ _ hg];exact hj
 have hsome:∀j,j < cap * 4 ->(w.cell? ⟨g,j,none⟩).isSome=true:=fun j hj=>by rw [cell_of_row _ _ _ _ _ _ hg,Array.getElem?_eq_getElem (by omega)];rfl
 have hfz:∀j,w.frozen? ⟨g,j,none⟩=false:=fun j=>Lib.frozen_of_heap hg _
 obtain⟨D,hD⟩:∃D,D=(cur.toList.take (n * 4)).drop ((i+1) * 4):=⟨_,rfl⟩
 have hdl:D.length=(n - (i+1)) * 4:=by rw [hD];simp;omega
 have hDat:∀j u,D[j]? =some u ->cur[(i+1) * 4+j]? =some u:=fun j u hj=>by
  rw [hD,List.getElem?_drop]at hj
  rw [List.getElem?_take]at hj
  split at hj
  . simpa using hj
  . cases hj
 have hD1:∀u∈D,u.oneCell'=true:=fun u hu=>h1c u (by rw [hD]at hu;exact List.mem_of_mem_drop hu)
 rw [<- hD]
 have hap:∀ (ty:TypeId) (a:Option Addr) (c:Nat),(n - (i+1)≠0 ->a=some ⟨g,(i+1) * 4,none⟩) ->(a=none ->c=0) ->(Builtin.append_ #[33,33] ty #[.slice (some ⟨g,0,none⟩) i cap, .slice a (n - (i+1)) c]).run Tryz.prog w.drew= .ok (.slice (some ⟨g,0,none⟩) (n - 1) cap) (w.drew.setCells g (i * 4) D):=fun ty a c ha ha2=>by
  have hs:Src Tryz.prog i0.size 33 (.slice a (n - (i+1)) c) (n - (i+1)) D w.drew:=by
   rw [hzs]
   cases a with
   | none=>
     have h0:n - (i+1)=0:=Classical.byContradiction fun h=>by cases ha h
     have hd0:D= []:=List.eq_nil_of_length_eq_zero (by rw [hdl,h0])
     rw [h0,hd0]
     exact Src.ofNil _ Tryz.underlying33 c
   | some a=>
     refine Src.ofSlice _ Tryz.underlying33 a _ c D hdl (fun j u hj=> ?_) hD1
     have hne:n - (i+1)≠0:=fun h0=>by
      have hd0:D= []:=List.eq_nil_of_length_eq_zero (by rw [hdl,h0])
      rw [hd0]at hj;cases hj
     obtain rfl:=Option.some.inj (ha hne)
     rw [Addr.add_lit]
     exact hcell _ _ (hDat j u hj)
  have h:=run_append_room_src w.drew 33 33 ty 35 i0 Tryz.underlying33 hi0 g 0 i cap _ (n - (i+1)) D hs (by omega) (fun j hj=>by rw [hzs,Nat.zero_add];exact hsome _ (by rw [hdl]at hj;omega)) (fun j hj=>by rw [hzs,Nat.zero_add];exact hfz _)
  rw [hzs,Nat.zero_add,show i+(n - (i+1))=n - 1 by omega]at h
  exact h
 obtain⟨W1,hW1⟩:∃W1,W1=w.drew.setCells g (i * 4) D:=⟨_,rfl⟩
 have hcl:∀ty c,(Builtin.clear_ #[33] ty #[.slice (some ⟨g,(n - 1) * 4,none⟩) 1 c]).run Tryz.prog W1= .ok (.tuple #[]) (W1.setCells g ((n - 1) * 4) e_P):=fun ty c=>
  e_O W1 33 35 ty _ e_P Tryz.underlying33 i_6 (by kernel_rfl) (by intro u hu;simp only [List.mem_cons,List.not_mem_nil,or_false]at hu;rcases hu with rfl | rfl | rfl | rfl <;> rfl) g ((n - 1) * 4) c
   (fun j hj=>by rw [hW1];exact B3 g D _ w.drew (fun t ht=>hsome (i * 4+t) (by rw [hdl]at ht;omega)) _ (hsome ((n - 1) * 4+j) (by simp at hj;omega))) (fun j hj=>by rw [hW1,World.frozen?_setCells];exact hfz _)
 rw [<- hW1]at hap
 have h0:(0:Int) <= (i:Int)+1:=by omega
 have h1:¬ ((i:Int)=(i:Int)+1):=by omega
 have h2:(i:Int) <= (i:Int)+1:=by omega
 have h3:(i:Int)+1 <= (n:Int):=by omega
 have h4:((n:Int) - 1)=((n - 1:Nat):Int):=by omega
 have h5:((n - 1:Nat):Int) <= (n:Int):=by omega
 have h6:n - (n - 1)=1:=by omega
 have h7:(i:Int) <= (cap:Int):=by omega
 have h8:(n:Int) <= (cap:Int):=by omega
 have h9:¬ (cap=n - 1):=by omega
 have Hap:=a6 hap;have Hcl:=a6 hcl;have HW1:=a6 hW1
 clear hcell hsome hfz hdl hDat hD1 hap hg hcs h1c hW1 hD hM hi0 hz0 hzs hzb
 by_cases hce:cap=i+1
 . obtain rfl:n=i+1:=by omega
   subst hce
   have hap0:=fun ty=>Hap.o ty (some ⟨g,0,none⟩) 0 (fun h=>by omega) (fun h=>by cases h)
   simp only [Nat.sub_self,Nat.add_sub_cancel]at hap0
   go_enter Tryz.func181,Tryz.ntmps181
   go_wp2_with fail
   go_region_law
    (refine I9 rfl _ _ 33 33 rfl (.slice (some ⟨g,0,none⟩) i (i+1)) (.slice (some ⟨g,0,none⟩) 0 0) ?_ ?_ (hap0 _) ?_
     . go_simp
     . go_simp)
   have hcl:=Hcl.o
   simp only [Nat.add_sub_cancel]at hcl
   go_wp2_with fail
   go_ret
   exact⟨rfl,by rw [HW1.o];rfl⟩
 . have hce2:¬ (cap=i+1):=hce
   go_enter Tryz.func181,Tryz.ntmps181
   go_wp2_with fail
   go_region_law
    (refine I9 rfl _ _ 33 33 rfl (.slice (some ⟨g,0,none⟩) i cap) (.slice (some ⟨g,(i+1) * 4,none⟩) (n - (i+1)) (cap - (i+1))) ?_ ?_ (Hap.o _ _ _ (fun _=>rfl) (fun h=>by cases h)) ?_
     . go_simp
     . go_simp)
   have hcl:=Hcl.o
   go_wp2_with fail
   go_ret
   exact⟨rfl,by rw [HW1.o]⟩
theorem l_m {α :Type} (P D R S:List α) (a k:Nat) (hP:P.length=a) (hk:a+D.length=k):(((P ++ D ++ R).take k) ++ S).take k=P ++ D:=by
 have h1:(P ++ D).length=k:=by simp;omega
 rw [List.take_left' h1,List.take_left' h1]
theorem m_K (M:Nat) (v:Value) (n i:Nat) (css:List Value) (w:World) (hown:w.ownsRow M 35 4 v n css) (h1c:∀u∈css,u.oneCell'=true) (hi:i < n) (hn:n <= 100000000):
 Calls Tryz.prog 181 #[v, .int .i64 i, .int .i64 ((i+1:Nat):Int)] w (m_H w M v (n - 1) (css.take (i * 4) ++ css.drop ((i+1) * 4))):=by
 have hcl:=hown.1
 rcases hown.2 with⟨rfl,rfl⟩ | ⟨g,cap,cur,rfl,hb,hg,hnc,hcm,hcs,htake⟩
 . omega
 have hD:(css.drop ((i+1) * 4)).length=(n - (i+1)) * 4:=by rw [List.length_drop,hcl, <- Nat.sub_mul]
 have e1:cur.toList.take (i * 4)=css.take (i * 4):=by rw [<- htake,List.take_take,Nat.min_eq_left (by omega)]
 have htl:(css.take (i * 4)).length=i * 4:=by rw [List.length_take];omega
 refine(j_o M g n cap i cur w hb hg hnc hcm hcs (by rw [htake];exact h1c) hi hn).mono ?_
 rintro e w' ⟨rfl,rfl⟩
 rw [htake]
 obtain⟨c1,g1,g2,g3⟩:=l9 g (css.drop ((i+1) * 4)) (i * 4) w.drew cur _ _ (show w.drew.heap[g]? =_ from hg) (by rw [hD];omega)
 obtain⟨c2,k1,k2,k3⟩:=l9 g e_P ((n - 1) * 4) _ c1 _ _ g1 (by simp;omega)
 refine⟨_,rfl,G9 hb k1 (by omega) hcm (by omega) ?_ ?_,(show w.grownBy ((w.drew.setCells g (i * 4) (css.drop ((i+1) * 4))).setCells g ((n - 1) * 4) e_P) (some g)from(M6.trans (gK _ _ _)).trans (gK _ _ _)), .inl rfl⟩
 . rw [k3,g3,e1,List.append_assoc]
   exact l_m _ _ _ _ (i * 4) _ htl (by rw [hD];omega)
 . rw [List.length_append,htl,hD];omega
theorem At.second (W:World) (o:Obj) (cs:List Value) (T:TypeId):At ((W.alloc o).alloc (.cells cs.toArray T)) (W.heap.size+1) cs T:=by
 have h:=At.fresh (W.alloc o) cs T
 rwa [show (W.alloc o).heap.size=W.heap.size+1 by simp]at h
theorem At.third (W:World) (o o':Obj) (cs:List Value) (T:TypeId):At (((W.alloc o).alloc o').alloc (.cells cs.toArray T)) (W.heap.size+1+1) cs T:=by
 have h:=At.second (W.alloc o) o' cs T
 rwa [show (W.alloc o).heap.size=W.heap.size+1 by simp]at h
theorem At.fourth (W:World) (o o' o'':Obj) (cs:List Value) (T:TypeId):At ((((W.alloc o).alloc o').alloc o'').alloc (.cells cs.toArray T)) (W.heap.size+1+1+1) cs T:=by
 have h:=At.third (W.alloc o) o' o'' cs T
 rwa [show (W.alloc o).heap.size=W.heap.size+1 by simp]at h
theorem i8 (W:World) (o o':Obj):Below W.heap.size W ((W.alloc o).alloc o'):=((a7).alloc (a8) o).alloc (by simp) o'
theorem iX (W:World) (o o' o'':Obj):Below W.heap.size W (((W.alloc o).alloc o').alloc o''):=(i8 W o o').alloc (by simp;omega) o''
theorem g_9 (W:World) (o o' o'' o3:Obj):Below W.heap.size W ((((W.alloc o).alloc o').alloc o'').alloc o3):=(iX W o o' o'').alloc (by simp;omega) o3
theorem g_a (n:aK) (v:Value) (W:World) (hn:n.wt <= 100000000) (hv:bY W W.heap.size n v):Calls Tryz.prog 54 #[v] W fun e w'=>e= .returned (aV (dZ n))/\Below W.heap.size W w':=by
 have hv0:=hv
 obtain⟨lf,ps,t,ks⟩:=n
 obtain⟨ap,cp,at_,ct,ak,ck,css,rfl,hp, -, -, -⟩:=hv0.open
 have hpl:ps.length <= 100000000:=by have:=rV ps;simp only [aK.wt]at hn;omega
 have hb0:=aX W (Obj.cells #[.bool lf, .slice ap ps.length cp, .slice at_ t.length ct, .slice ak ks.length ck] 35)
 have HG:=a6 (m_G ps ap cp F6 _ (hp.keep hb0 hb0.size) hpl)
 have Hb0:=a6 hb0
 cases lf with
 | true=>
   have HT:Hid (dZ (.mk true ps t ks)= []):=rfl
   clear hv hv0 hp hb0 hn HG
   go_enter Tryz.func54,Tryz.ntmps54
   go_wp2_with fail
   go_ret
   rw [HT.o]
   exact⟨rfl,Hb0.o⟩
 | false=>
   have HT:Hid (dZ (.mk false ps t ks)=(d_6 ps F6).getD []):=rfl
   clear hv hv0 hp hb0 hn
   go_enter Tryz.func54,Tryz.ntmps54
   go_wp2_with fail
   refine HG.o.mono ?_
   rintro e w1 ⟨rfl,hbel⟩
   have Hb1:=a6 (Hb0.o.trans (hbel.mono Hb0.o.size))
   clear hbel HG
   go_wp2_with fail
   go_ret
   rw [HT.o]
   exact⟨rfl,Hb1.o⟩
theorem c_0:∀args w,(callFunc 54 args).run Tryz.prog w= .ok (.enter 54 args) w:=by intro args w;kernel_rfl
theorem g_b {r:bJ} {k:List UInt8} {j:Nat} (hj:j < r.kids.length) (h:r.kids[j].1=k) (hb:∀i (hi:i < j),(r.kids[i]'(by omega)).1≠k):j8 r k=r.kids[j].2:=by
 unfold j8
 rw [b_X (q:=fun p=>decide (p.1=k)) hj (by simpa using h) (fun i hi=>by simpa using hb i hi)]
 rfl
theorem g_c {r:bJ} {k:List UInt8} (hb:∀i (hi:i < r.kids.length),r.kids[i].1≠k):j8 r k=r.other:=by
 unfold j8
 rw [a_O (fun i hi=>by simpa using hb i hi)]
 rfl
theorem j_p (K:List UInt8) (d:Int) (t k:List UInt8) (N:Nat) (W:World) (hN:W.cell? ⟨N,0,none⟩=some (aV k)):
 Calls Tryz.prog 167 #[.agg #[aV K, .int .i64 d,aV t], .pointer (some ⟨N,0,none⟩)] W fun e w'=>e= .returned (.bool (decide (K=k)))/\Below W.heap.size W w':=by
 have hlt:=World.block_lt_of_cell? W _ hN
 have Hb:=a6 (aX W (Obj.cells #[aV K, .int .i64 d,aV t] 140))
 go_enter Tryz.func167,Tryz.ntmps167
 go_wp2_with fail
 go_ret
 exact⟨b7 (e_4 _ _),Hb.o⟩
theorem g_d:∀args w,(callFunc 167 args).run Tryz.prog w= .ok (.enter 167 args) w:=by intro args w;kernel_rfl
theorem i_7:∀args w,(callFunc 100 args).run Tryz.prog w= .ok (.enter 100 args) w:=by intro args w;kernel_rfl
abbrev l_n (W:World) (a:A7) (e:Ending) (w':World):Prop:=e= .returned (.agg #[.int .i64 a.1,aV a.2])/\Below W.heap.size W w'
theorem h_x (r:bJ) (a:Option Addr) (c:Nat) (k:List UInt8) (W:World) (hr:RowA W W.heap.size 3 a r.kids.length c (dY r.kids)) (hn:r.kids.length <= 100000000):
 Calls Tryz.prog 100 #[.agg (mZ r a c).toArray,aV k] W (l_n W (j8 r k)):=by
 have hs1:=fun(j:Nat) (hj:j < r.kids.length) h hb=>g_b (r:=r) (k:=k) (j:=j) hj h hb
 have hs2:=fun hb=>g_c (r:=r) (k:=k) hb
 obtain⟨R,hR⟩:∃R,R=j8 r k:=⟨_,rfl⟩
 rw [<- hR]
 rw [<- hR]at hs1 hs2
 obtain⟨ty,⟨td,tt⟩,⟨od,ot⟩,kids,fill,ft⟩:=r
 simp only at hr hn hs1 hs2
 have hcells:(mZ ⟨ty,(td,tt),(od,ot),kids,fill,ft⟩ a c).toArray= #[aV ty, .int .i64 td,aV tt, .int .i64 od,aV ot, .slice a kids.length c, .int .i64 fill,aV ft]:=rfl
 rw [hcells]
 obtain⟨w0,hw0⟩:∃w0,w0=(((W.alloc (Obj.cells #[aV ty, .int .i64 td,aV tt, .int .i64 od,aV ot, .slice a kids.length c, .int .i64 fill,aV ft] 27)).alloc (Obj.cells #[aV k] 9)).alloc (Obj.cells #[.int .i64 0,aV []] 24)):=⟨_,rfl⟩
 have hb0:Below W.heap.size W w0:=by rw [hw0];exact iX _ _ _ _
 have hA:At w0 W.heap.size [aV ty, .int .i64 td,aV tt, .int .i64 od,aV ot, .slice a kids.length c, .int .i64 fill,aV ft] 27:=by rw [hw0];exact((At.fresh W _ _).alloc _).alloc _
 have hK:At w0 (W.heap.size+1) [aV k] 9:=by rw [hw0];exact(At.second W _ _ _).alloc _
 have hX:At w0 (W.heap.size+1+1) [.int .i64 0,aV []] 24:=by rw [hw0];exact At.third W _ _ _ _
 have hr0:=hr.keep hb0 hb0.size
 have hgd:∀j (hj:j < kids.length),kids.getD j ([],0, [])=kids[j]:=fun j hj=>by simp [List.getD,List.getElem?_eq_getElem hj]
 have HI:=a6 (j_f kids.length a c 167 #[.pointer (some ⟨W.heap.size+1,0,none⟩)] (fun j=>decide ((kids.getD j ([],0, [])).1=k)) w0 hn g_d (fun j W' hj hb=>by
  obtain⟨b,off,ha, -,h0,h1,h2⟩:=(hr0.keep hb hb.size).pair_at j hj
  refine⟨b,off,_,_,_,ha,h0,h1,h2, ?_⟩
  rw [hgd j hj]
  exact j_p kids[j].1 kids[j].2.1 kids[j].2.2 k _ W' ((hK.kept hb).cell 0 rfl)))
 have Hr:=a6 hr0;have Hb0:=a6 hb0;have HA:=a6 hA;have HX:=a6 hX
 obtain⟨⟨x0,x1,x2,x3,x4,x5,x6,x7⟩, -,xl⟩:=hA.f8
 have Hw0:=a6 hw0
 have hcl:W.heap.size <= W.heap.size+1+1:=by omega
 rcases kQ (fun j=>decide ((kids.getD j ([],0, [])).1=k)) kids.length with⟨j,hj,hp,hmin,he⟩ | ⟨hall,he⟩
 . rw [he]at HI
   have HG:=a6 (hs1 j hj (by have h:=of_decide_eq_true hp;rw [hgd j hj]at h;exact h) (fun i hi=>by have h:=of_decide_eq_false (hmin i hi);rw [hgd i (by omega)]at h;exact h))
   have hji:(j:Int) < kids.length:=by omega
   clear he hmin hp hr hr0 hb0 hK hA hX hs1 hs2 hR hcells hw0
   go_enter Tryz.func100,Tryz.ntmps100
   go_upto_region 1 with fail
   rw [<- Hw0.o]
   clear Hw0
   go_wp2_with fail
   refine HI.o.mono ?_
   rintro e w1 ⟨rfl,hbel⟩
   obtain⟨b,off,rfl, -,h0,h1,h2⟩:=(Hr.o.keep hbel hbel.size).pair_at j hj
   have Hb1:=a6 (Hb0.o.trans (hbel.mono Hb0.o.size))
   obtain⟨⟨y0,y1,y2,y3,y4,y5,y6,y7⟩, -,yl⟩:=(HA.o.kept hbel).f8
   obtain⟨⟨z0,z1⟩,zf,zl⟩:=(HX.o.kept hbel).f2
   generalize kids[j]=q at h0 h1 h2 HG
   obtain⟨q0,q1,q2⟩:=q
   clear hbel HI x0 x1 x2 x3 x4 x5 x6 x7
   go_wp2_with fail
   refine bodyPost_ret (v:= .agg #[.int .i64 q1,aV q2]) (by simp [results,Tryz.results100,go_sem,z0,z1]) rfl ?_
   rw [HG.o]
   exact⟨rfl,F9 Hb1.o hcl _ _⟩
 . rw [he]at HI
   have HG:=a6 (hs2 (fun i hi=>by have h:=of_decide_eq_false (hall i hi);rw [hgd i hi]at h;exact h))
   clear he hall hr hr0 hb0 hK hA hX hs1 hs2 hR hcells hw0
   go_enter Tryz.func100,Tryz.ntmps100
   go_upto_region 1 with fail
   rw [<- Hw0.o]
   clear Hw0
   go_wp2_with fail
   refine HI.o.mono ?_
   rintro e w1 ⟨rfl,hbel⟩
   have Hb1:=a6 (Hb0.o.trans (hbel.mono Hb0.o.size))
   obtain⟨⟨y0,y1,y2,y3,y4,y5,y6,y7⟩, -,yl⟩:=(HA.o.kept hbel).f8
   obtain⟨⟨z0,z1⟩,zf,zl⟩:=(HX.o.kept hbel).f2
   clear hbel HI x0 x1 x2 x3 x4 x5 x6 x7
   go_wp2_with fail
   refine bodyPost_ret (v:= .agg #[.int .i64 od,aV ot]) (by simp [results,Tryz.results100,go_sem,z0,z1]) rfl ?_
   rw [HG.o]
   exact⟨rfl,F9 Hb1.o hcl _ _⟩
theorem h_y (r:bJ) (a:Option Addr) (c:Nat) (n:aK) (v:Value) (W:World) (hr:RowA W W.heap.size 3 a r.kids.length c (dY r.kids)) (hn:r.kids.length <= 100000000) (hv:bY W W.heap.size n v) (hw:n.wt <= 100000000):
 Calls Tryz.prog 71 #[.agg (mZ r a c).toArray,v] W (l_n W (eY r n)):=by
 have hv0:=hv
 obtain⟨lf,ps,t,ks⟩:=n
 obtain⟨ap,cp,at_,ct,ak,ck,css,rfl, -, -, -, -⟩:=hv0.open
 have hl:aZ (.mk lf ps t ks)=lf:=rfl
 generalize aK.mk lf ps t ks=n at hv hw hl⊢
 have hR:eY r n=if lf then r.text else j8 r (dZ n):=by unfold eY;rw [hl]
 rw [hR]
 have hY:=fun(w1:World) (hr:RowA w1 w1.heap.size 3 a r.kids.length c (dY r.kids))=>h_x r a c (dZ n) w1 hr hn
 obtain⟨R,hR2⟩:∃R,R=j8 r (dZ n):=⟨_,rfl⟩
 rw [<- hR2]at hY⊢
 obtain⟨ty,⟨td,tt⟩,⟨od,ot⟩,kids,fill,ft⟩:=r
 simp only [mZ]at hr hn hY⊢
 obtain⟨w0,hw0⟩:∃w0,w0=(((W.alloc (Obj.cells #[aV ty, .int .i64 td,aV tt, .int .i64 od,aV ot, .slice a kids.length c, .int .i64 fill,aV ft] 27)).alloc (Obj.cells #[.bool lf, .slice ap ps.length cp, .slice at_ t.length ct, .slice ak ks.length ck] 35)).alloc (Obj.cells #[.int .i64 0,aV []] 24)):=⟨_,rfl⟩
 have hb0:Below W.heap.size W w0:=by rw [hw0];exact iX _ _ _ _
 have hA:At w0 W.heap.size [aV ty, .int .i64 td,aV tt, .int .i64 od,aV ot, .slice a kids.length c, .int .i64 fill,aV ft] 27:=by rw [hw0];exact((At.fresh W _ _).alloc _).alloc _
 have hK:At w0 (W.heap.size+1) [.bool lf, .slice ap ps.length cp, .slice at_ t.length ct, .slice ak ks.length ck] 35:=by rw [hw0];exact(At.second W _ _ _).alloc _
 have hX:At w0 (W.heap.size+1+1) [.int .i64 0,aV []] 24:=by rw [hw0];exact At.third W _ _ _ _
 have HT:=a6 (g_a n _ w0.drew hw (hv.keep (hb0.drew) hb0.size))
 have HY:=a6 (fun(w1:World) (hb:Below w0.heap.size w0 w1)=>hY w1 (hr.keep (hb0.trans (hb.mono hb0.size)) (aJ hb0.size hb.size)))
 have hcl:W.heap.size <= W.heap.size+1+1:=by omega
 have Hw0:=a6 hw0;have Hb0:=a6 hb0;have HA:=a6 hA;have HK:=a6 hK;have HX:=a6 hX
 obtain⟨⟨x0,x1,x2,x3,x4,x5,x6,x7⟩, -,xl⟩:=hA.f8
 obtain⟨⟨y0,y1,y2,y3⟩, -,yl⟩:=hK.f4
 obtain⟨⟨z0,z1⟩,zf,zl⟩:=hX.f2
 clear hw0 hb0 hA hK hX hv hv0 hr hY hR hR2 hl
 cases lf with
 | true=>
   clear HT HY
   go_enter Tryz.func71,Tryz.ntmps71
   go_upto_region 1 with fail
   rw [<- Hw0.o]
   clear Hw0
   go_wp2_with fail
   refine bodyPost_ret (v:= .agg #[.int .i64 td,aV tt]) (by simp [results,Tryz.results71,go_sem,z0,z1]) rfl ?_
   exact⟨rfl,F9 Hb0.o hcl _ _⟩
 | false=>
   go_enter Tryz.func71,Tryz.ntmps71
   go_upto_region 1 with fail
   rw [<- Hw0.o]
   clear Hw0
   go_wp2_with fail
   go_region_law (first
    | (refine b9 rfl 54 _ _ rfl c_0 [.agg #[.bool false, .slice ap ps.length cp, .slice at_ t.length ct, .slice ak ks.length ck]] ?_ _ HT.o ?_
       . go_simp
       rintro e w1 ⟨rfl,hbel⟩
       refine⟨_,rfl, ?_⟩
       have hb1:Below w0.heap.size w0 w1:=((Below.refl w0.heap.size w0).drew).trans hbel
       have Hb1:=a6 hb1
       have HY1:=a6 (HY.o w1 hb1)
       obtain⟨⟨p0,p1,p2,p3,p4,p5,p6,p7⟩, -,pl⟩:=(HA.o.kept hb1).f8
       obtain⟨⟨q0,q1,q2,q3⟩, -,ql⟩:=(HK.o.kept hb1).f4
       clear hbel hb1)
    | (refine b9 rfl 100 _ _ rfl i_7 [.agg #[aV ty, .int .i64 td,aV tt, .int .i64 od,aV ot, .slice a kids.length c, .int .i64 fill,aV ft],aV (dZ n)] ?_ _ HY1.o ?_
       . go_simp
       rintro e w2 ⟨rfl,hbel⟩
       refine⟨_,rfl, ?_⟩
       have hb2:Below w0.heap.size w0 w2:=Hb1.o.trans (hbel.mono Hb1.o.size)
       have Hb2:=a6 (Hb0.o.trans (hb2.mono Hb0.o.size))
       obtain⟨⟨r0,r1⟩,rf,rl⟩:=(HX.o.kept hb2).f2
       clear hbel hb2))
   all_goals
    go_wp2_with fail
    refine bodyPost_ret (v:= .agg #[.int .i64 R.1,aV R.2]) (by simp [results,Tryz.results71,go_sem,r0,r1]) rfl ?_
    exact⟨rfl,F9 Hb2.o hcl _ _⟩
theorem j_q {w:World}:∀ (p:List Int) (n m:aK) (lo hi b off:Nat) (cs:List Value),jY w n lo hi cs ->yZ w b off cs ->(∃cur e,w.heap[b]? =some (.cells cur e (0,0))) ->kK n p=some m ->
 ∃cur e,w.heap[(oQ w p b off).1]? =some (.cells cur e (0,0))
 | [],n,m,lo,hi,b,off,cs,h,hc,hb,hat=>hb
 | i :: p, .mk l ps t ks,m,lo,hi,b,off,cs,h,hc,hb,hat=>by
   unfold jY at h
   obtain⟨mid,ap,cp,at_,ct,ak,ck,css,h1,rfl,h3,h4,h5,h6,h7,h8⟩:=h
   simp only [kK,aQ]at hat
   split at hat
   . obtain ⟨j,rfl⟩:∃j:Nat,i=j:=⟨i.toNat,by omega⟩
     rw [Int.toNat_natCast]at hat
     by_cases hj:j < ks.length
     . rw [List.getElem?_eq_getElem hj]at hat
       simp only at hat
       obtain⟨m1,m2,c,g1,g2,g3,g4,g5⟩:=eX.at_ h8 j hj
       have hcl:=h6.1
       obtain⟨K,rfl,hK⟩:=A6 h6 (by intro e;rw [e]at hcl;simp at hcl;omega)
       have hcK:yZ w K (j * 4) c:=by
        refine⟨g3.four,fun q u hq=> ?_⟩
        have hq4:q < 4:=by
         rcases Nat.lt_or_ge q c.length with h | h
         . rw [g3.four]at h;exact h
         . rw [List.getElem?_eq_none h]at hq;cases hq
        exact pV h6 _ _ (by rw [g4 q hq4];exact hq)
       rw [b_V (hc.2 3 _ rfl),Int.toNat_natCast,Nat.zero_add]
       refine j_q p ks[j] m m1 m2 K (j * 4) c g3 hcK ?_ hat
       rcases h6.2 with⟨hn, -⟩ | ⟨g,cap,cur,hv, -,hg, -⟩
       . cases hn
       . injection hv with e1
         injection e1 with e2
         injection e2 with e3
         subst e3
         exact⟨cur,_,hg⟩
     . rw [List.getElem?_eq_none (by omega)]at hat
       cases hat
   . cases hat
structure h_z (w w':World) (B b off lo hi:Nat):Prop where
 below:Below B w w'
 block:∀x,x < w.heap.size ->x≠b ->¬ (lo <= x/\x < hi) ->w'.heap[x]? =w.heap[x]?
 cell:∀o,¬ (off <= o/\o < off+4) ->w'.cell? ⟨b,o,none⟩=w.cell? ⟨b,o,none⟩
def m_L (B:Nat) (w:World) (b off lo hi:Nat) (R:aK×Int) (e:Ending) (w':World):Prop:=
 e= .returned (.int .i64 R.2)/\h_z w w' B b off lo hi/\(R.2=0 ->∃cm',yZ w' b off cm'/\NodeQ w' (fun x=>lo <= x/\x < hi∨w.heap.size <= x) R.1 cm')
def i_8 (g:Nat) (lb:Array Value) (W:World) (m:aK) (R:aK×Int):Prop:=
 ∀ (w:World) (b off lo hi:Nat) (cm:List Value),Below W.heap.size W w ->W.heap.size <= b ->W.heap.size <= lo ->hi <= w.heap.size ->jY w m lo hi cm ->yZ w b off cm ->¬ (lo <= b/\b < hi) ->(∀j,w.frozen? ⟨b,j,none⟩=false) ->
   Calls Tryz.prog g (#[.pointer (some ⟨b,off,none⟩)] ++ lb) w (m_L W.heap.size w b off lo hi R)
def e_Q (W:World) (n:aK) (p:List Int) (R:aK ->aK×Int) (e:Ending) (w':World):Prop:=
 Below W.heap.size W w'/\match kK n p with
 | none=>e= .returned (.tuple #[.agg #[.bool false, .slice none 0 0, .slice none 0 0, .slice none 0 0], .int .i64 5])
 | some m=>if (R m).2=0 then ∃cs,e= .returned (.tuple #[.agg cs.toArray, .int .i64 0])/\NodeQ w' (fun b=>W.heap.size <= b) (gY n p (R m).1) cs
   else e= .returned (.tuple #[.agg #[.bool false, .slice none 0 0, .slice none 0 0, .slice none 0 0], .int .i64 (R m).2])
theorem a_Q (g:Nat) (lb:Array Value) (hgc:∀args w,(callFunc g args).run Tryz.prog w= .ok (.enter g args) w) (n:aK) (p:List Int) (v:Value) (pa:Option Addr) (pc:Nat) (R:aK ->aK×Int) (W:World) (hbig:n.wt <= 100000000) (hv:bY W W.heap.size n v) (hp:RowA W W.heap.size 1 pa p.length pc (p.map (Value.int .i64)))
 (hR:∀m,kK n p=some m ->i_8 g lb W m (R m)):
 Calls Tryz.prog 179 #[v, .slice pa p.length pc, .func (.func g) #[] lb] W (e_Q W n p R):=by
 obtain⟨csn,rfl,hc⟩:=hv
 obtain⟨l,a1,n1,c1,a2,n2,c2,a3,n3,c3,rfl⟩:=hc.form
 obtain⟨w0,hw0⟩:∃w0,w0=(W.alloc (Obj.cells #[.bool l, .slice a1 n1 c1, .slice a2 n2 c2, .slice a3 n3 c3] 35)).alloc (Obj.cells #[.bool false, .slice none 0 0, .slice none 0 0, .slice none 0 0] 35):=⟨_,rfl⟩
 have hA:b6 w0 W.heap.size (.bool l) (.slice a1 n1 c1) (.slice a2 n2 c2) (.slice a3 n3 c3):=by rw [hw0];exact(b6.fresh W (.bool l) (.slice a1 n1 c1) (.slice a2 n2 c2) (.slice a3 n3 c3)).alloc _
 have hB:b6 w0 (W.heap.size+1) (.bool false) (.slice none 0 0) (.slice none 0 0) (.slice none 0 0):=by rw [hw0];exact m8 W _ (.bool false) (.slice none 0 0) (.slice none 0 0) (.slice none 0 0)
 have hb0:Below W.heap.size W w0:=by rw [hw0];exact i8 _ _ _
 have hs0:w0.heap.size=W.heap.size+2:=by rw [hw0];simp
 obtain⟨y0,y1,y2,y3, -, -⟩:=hA.facts
 have HC:=a6 (h_v n.wt n (.agg #[.bool l, .slice a1 n1 c1, .slice a2 n2 c2, .slice a3 n3 c3]) w0 (a8) hbig ⟨_,rfl,dJ.keep hb0 hb0.size _ _ hc⟩)
 have HB:=a6 hB;have Hb0:=a6 hb0;have Hs0:=a6 hs0;have Hw0:=a6 hw0;have HR:=a6 hR;have Hp:=a6 hp
 clear hc hA hB hb0 hs0 hw0 hR hp
 go_enter Tryz.func179,Tryz.ntmps179
 go_upto_region 1 with fail
 rw [<- Hw0.o]
 clear Hw0
 go_wp2_with fail
 refine HC.o.mono ?_
 rintro e w1 ⟨cs,rfl,hI,hbel⟩
 obtain⟨m1,p1,q1,r1,p2,q2,r2,p3,q3,r3,rfl⟩:=hI.form
 have Hb1:=a6 (Hb0.o.trans (hbel.mono Hb0.o.size));have HB1:=a6 (HB.o.keep (hbel.mono (by rw [Hs0.o];omega)))
 have HI:=a6 hI;have Hbel:=a6 hbel
 clear HC hI hbel y0 y1 y2 y3
 go_upto_region 2 with fail
 obtain⟨w2,hw2⟩:∃w2,w2=w1.alloc (Obj.cells #[.bool m1, .slice p1 q1 r1, .slice p2 q2 r2, .slice p3 q3 r3] 35):=⟨_,rfl⟩
 rw [<- hw2]
 have hA2:b6 w2 w1.heap.size (.bool m1) (.slice p1 q1 r1) (.slice p2 q2 r2) (.slice p3 q3 r3):=by rw [hw2];exact b6.fresh w1 _ _ _ _
 have hB2:Below w1.heap.size w1 w2:=by rw [hw2];exact aX _ _
 have hI2:jY w2 n w0.heap.size w1.heap.size [.bool m1, .slice p1 q1 r1, .slice p2 q2 r2, .slice p3 q3 r3]:=jY.keep hB2.size (fun b _ _ hlt=>hB2.block b hlt) HI.o
 obtain⟨x0,x1,x2,x3,⟨k0,k1,k2,k3⟩,hA4⟩:=hA2.facts
 have hc4:yZ w2 w1.heap.size 0 [.bool m1, .slice p1 q1 r1, .slice p2 q2 r2, .slice p3 q3 r3]:=by
  refine⟨rfl,fun j u hj=> ?_⟩
  match j with
  | 0=>simp at hj;subst hj;exact x0
  | 1=>simp at hj;subst hj;exact x1
  | 2=>simp at hj;subst hj;exact x2
  | 3=>simp at hj;subst hj;exact x3
  | j+4=>simp at hj
 have hnp:b_b w2 w2.heap.size w1.heap.size 0 n:=⟨m1,p1,q1,r1,p2,q2,r2,p3,q3,r3,NodeQ.node _ _ (jY.q (ok:=fun _=>True) (fun _ _ _=>trivial) hI2),x0,x1,x2,x3⟩
 have Hb2:=a6 (Hb1.o.trans (hB2.mono Hb1.o.size))
 have HBB:=a6 (HB1.o.keep (hB2.mono (by have:=Hb1.o.size;have:=Hs0.o;have:=Hbel.o.size;omega)))
 have Hp2:=a6 (Hp.o.keep Hb2.o Hb2.o.size)
 have HAt:=a6 (m_F n p pa pc w1.heap.size 0 w2.heap.size w2 hnp Hp2.o)
 have Hsz:=a6 (show W.heap.size+2 <= w1.heap.size by have:=Hbel.o.size;have:=Hs0.o;omega)
 have HA2:=a6 hA2;have HI2:=a6 hI2;have Hc4:=a6 hc4;have Hnp:=a6 hnp
 clear hw2 hA2 hB2 hI2 hc4 hnp HI HB HB1 x0 x1 x2 x3 k0 k1 k2 k3 hA4
 cases hat:kK n p with
 | none=>
   rw [hat]at HAt
   have Hat:=a6 hat
   clear hat
   go_wp2_with fail
   refine HAt.o.mono ?_
   rintro e w3 ⟨rfl,rfl⟩
   obtain⟨g0,g1,g2,g3,⟨j0,j1,j2,j3⟩,hB4⟩:=HBB.o.facts
   clear HAt
   go_wp2_with fail
   refine bodyPost_ret (v:= .tuple #[.agg #[.bool false, .slice none 0 0, .slice none 0 0, .slice none 0 0], .int .i64 5]) (by simp [results,Tryz.results179,go_sem,g0,g1,g2,g3,j0,j1,j2,j3]) rfl ?_
   refine⟨by with_reducible exact iQ Hb2.o (Nat.le_succ _) _ _ _ _, ?_⟩
   rw [Hat.o]
 | some m=>
   have HA3:=a6 (n_s n m p pa pc w1.heap.size 0 w2.heap.size w2 Hnp.o Hp2.o hat)
   have hno:¬ (w0.heap.size <= w1.heap.size/\w1.heap.size < w1.heap.size):=fun h=>by omega
   have hpl:=j_d p n m w0.heap.size w1.heap.size w1.heap.size 0 _ HI2.o Hc4.o hno hat
   have hfz:=j_q p n m w0.heap.size w1.heap.size w1.heap.size 0 _ HI2.o Hc4.o ⟨_,_,HA2.o⟩ hat
   generalize oQ w2 p w1.heap.size 0=A at hpl hfz HA3
   obtain⟨A1,A2⟩:=A
   simp only at hpl hfz HA3
   obtain⟨lo',hi',cm,k1,k2,k3,k4,k5,k6,k7⟩:=hpl
   have hA1:W.heap.size+2 <= A1:=by
    have:=Hsz.o;have:=Hs0.o
    rcases k6 with e | e
    . injection e with e1 e2;omega
    . omega
   have hlo:W.heap.size+2 <= lo':=by have:=Hs0.o;omega
   have hsz:=Hsz.o
   have hz2:w1.heap.size+1 <= w2.heap.size:=(Array.getElem?_eq_some_iff.1 HA2.o).1
   obtain⟨cur,e0,hcur⟩:=hfz
   have HHow:=a6 (HR.o m hat w2 A1 A2 lo' hi' cm Hb2.o (by omega) (by omega) (by omega) k3 k4 k5 (fun j=>Lib.frozen_of_heap hcur _))
   have Hat:=a6 hat
   have K7:=a6 k7
   generalize hr:R m=r at HHow
   have Hr:=a6 hr
   obtain⟨r1',r2'⟩:=r
   clear hat hcur k1 k2 k3 k4 k5 k6 k7 HAt HR hr
   go_wp2_with fail
   refine HA3.o.mono ?_
   rintro e w3 ⟨rfl,rfl⟩
   clear HA3
   go_wp2_with fail
   refine HHow.o.mono ?_
   rintro e w4 ⟨rfl,hkeep,hres⟩
   have Hkeep:=a6 hkeep;have Hres:=a6 hres
   have hB4:b6 w4 (W.heap.size+1) (.bool false) (.slice none 0 0) (.slice none 0 0) (.slice none 0 0):=by
    unfold b6
    rw [hkeep.block (W.heap.size+1) (by omega) (by omega) (by omega)]
    exact HBB.o
   obtain⟨g0,g1,g2,g3,⟨j0,j1,j2,j3⟩,hB5⟩:=hB4.facts
   have Hb4:=a6 (Hb2.o.trans hkeep.below)
   clear HHow hkeep hres hB4
   by_cases hz:r2'=0
   . subst hz
     obtain⟨cm',hc',hq'⟩:=Hres.o rfl
     obtain⟨cs',hcs',hqs⟩:=K7.o w4 (fun x=>W.heap.size+2 <= x) r1' cm' Hkeep.o.below.size (fun x hx hx2=>by have:=Hs0.o;omega) (fun x o hx hin hno2 hno3=>by
      by_cases hxa:x=A1
      . subst hxa
        exact Hkeep.o.cell o (fun h=>hno2 ⟨rfl,h.1,h.2⟩)
      . exact World.cell?_of_block (a:=⟨x,o,none⟩) (Hkeep.o.block x hx hxa hno3)) (NodeQ.keep (a8) (fun _ _ _=>rfl) (fun x hx _=>by omega) _ _ hq') hc'
     have Hqs:=a6 hqs
     obtain⟨l',b1,o1,d1,b2,o2,d2,b3,o3,d3,rfl⟩:=hqs.form
     have x0:=hcs'.2 0 _ rfl;have x1:=hcs'.2 1 _ rfl;have x2:=hcs'.2 2 _ rfl;have x3:=hcs'.2 3 _ rfl
     simp only [Nat.zero_add]at x0 x1 x2 x3
     clear hqs hcs' hc' hq'
     go_wp2_with fail
     refine bodyPost_ret (v:= .tuple #[.agg #[.bool l', .slice b1 o1 d1, .slice b2 o2 d2, .slice b3 o3 d3], .int .i64 0]) (by simp [results,Tryz.results179,go_sem,g0,g1,g2,g3,j0,j1,j2,j3]) rfl ?_
     refine⟨by with_reducible exact iQ Hb4.o (Nat.le_succ _) _ _ _ _, ?_⟩
     rw [Hat.o]
     simp only
     rw [Hr.o,if_pos rfl]
     have hne:¬ (W.heap.size+2 <= W.heap.size+1):=by omega
     have hq:=cQ (N:=W.heap.size+1) (o:=3) (u:= .slice b3 o3 d3) (cQ (N:=W.heap.size+1) (o:=2) (u:= .slice b2 o2 d2) (cQ (N:=W.heap.size+1) (o:=1) (u:= .slice b1 o1 d1) (cQ (N:=W.heap.size+1) (o:=0) (u:= .bool l') Hqs.o hne) hne) hne) hne
     exact⟨_,rfl,NodeQ.keep (a8) (fun _ _ _=>rfl) (fun b hb _=>by omega) _ _ hq⟩
   . have hne:(r2' != 0)=true:=by simpa using hz
     have hne2:(r2' == 0)=false:=by simpa using hz
     have Hz:=a6 hz
     clear hz
     go_wp2_with fail
     refine bodyPost_ret (v:= .tuple #[.agg #[.bool false, .slice none 0 0, .slice none 0 0, .slice none 0 0], .int .i64 r2']) (by simp [results,Tryz.results179,go_sem,g0,g1,g2,g3,j0,j1,j2,j3]) rfl ?_
     refine⟨by with_reducible exact iQ Hb4.o (Nat.le_succ _) _ _ _ _, ?_⟩
     rw [Hat.o]
     simp only
     rw [Hr.o,if_neg Hz.o]
end Go.Proofs.YtmadpclcmjahoaaGreatDoor

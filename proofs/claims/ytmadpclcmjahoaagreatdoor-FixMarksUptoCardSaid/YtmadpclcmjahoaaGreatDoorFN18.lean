/- Parts of the proof: 18. -/
import Derived.Test.YtmadpclcmjahoaaGreatDoorFN1
import Derived.Test.YtmadpclcmjahoaaGreatDoorFN17
import Derived.Test.YtmadpclcmjahoaaGreatDoorFN16
set_option linter.unusedVariables false
set_option linter.unusedSimpArgs false
set_option maxHeartbeats 8000000
set_option maxRecDepth 100000
namespace Go.Proofs.YtmadpclcmjahoaaGreatDoor
open Go.RowKit Go.Redl
theorem k_q {P:Program} {w:World} {b T K E:Nat} {l:List (Int×Value)} (h:tJ w b l) (hT:P.underlying T=some (.map K E)) (hK:P.underlying K=some (.int .i64)) (z:Value) (hz:∀w:World,(zeroValue E).run P w= .ok z w) (k:Int)
 (hnd:(l.map (·.1)).Nodup):
 (Instr.lookup T (.map (some b)) (.int .i64 k) false).run P w= .ok (JV l k z).1 w:=by
 obtain⟨es,ck,hb,he⟩:=h
 have hkey:MapKept.IsKey (.int .i64) (.int .i64 k):=rfl
 have hks:=tJ.keys (w:=w) (b:=b) he
 rcases MapKept.findNow_spec hkey es.toList 0 hks with⟨h1,h2⟩ | ⟨j,e0,h1,h2,h3⟩
 . have hn:JV l k z=(z,false):=by
    unfold JV
    rw [List.find?_eq_none.2 ?_]
    intro p hp
    have hm:((Value.int .i64 p.1),p.2)∈l.map (fun p=>(Value.int .i64 p.1,p.2)):=List.mem_map.2 ⟨p,hp,rfl⟩
    rw [<- he]at hm
    obtain⟨x,hx,hxe⟩:=List.mem_map.1 hm
    injection hxe with e1 e2
    have:=h2 x hx
    rw [e1]at this
    simpa using fun e=>this (by rw [e])
   rw [hn]
   simp [Instr.lookup,run_underlying hT,MapKept.run_getObj_map hb,MapKept.run_checkKey hK hkey,MapKept.run_findKey hK h1,Result.andThen,hz]
 . have hj:(es.toList.map (fun e=>(e.key,e.val)))[j]? =some (e0.key,e0.val):=by rw [List.getElem?_map,h2];rfl
   rw [he,List.getElem?_map]at hj
   obtain⟨p,hp,hpe⟩:=Option.map_eq_some_iff.1 hj
   injection hpe with e1 e2
   rw [h3]at e1
   injection e1 with e3 e4
   have hf:l.find? (fun p=>decide (p.1=k))=some p:=by
    obtain⟨hjl,hpj⟩:=List.getElem?_eq_some_iff.1 hp
    rw [List.find?_eq_some_iff_getElem]
    refine⟨by simpa using e4,j,hjl,hpj,fun i hi=> ?_⟩
    have hne:=List.pairwise_iff_getElem.1 hnd i j (by simp;omega) (by simpa using hjl) hi
    simp only [List.getElem_map,hpj,e4]at hne
    simpa using hne
   have hn:JV l k z=(p.2,true):=by unfold JV;rw [hf]
   rw [hn,e2]
   simp [Instr.lookup,run_underlying hT,MapKept.run_getObj_map hb,MapKept.run_checkKey hK hkey,MapKept.run_findKey hK h1,Result.andThen]
abbrev k_r:List (Int×Value):= [(1, .int .i64 2),(2, .int .i64 1),(3, .int .i64 4),(4, .int .i64 3),(7, .int .i64 8),(8, .int .i64 7),(5, .int .i64 5),(6, .int .i64 6),(9, .int .i64 9)]
theorem m_0:∀args w,(callFunc 190 args).run Tryz.prog w= .ok (.enter 190 args) w:=by intro args w;kernel_rfl
theorem n_d {kd:Int} (hk:E3 kd):∃k2:Int,JV k_r kd (.int .i64 0)=(.int .i64 k2,true)/\(k2=1∨k2=2∨k2=3∨k2=4∨k2=5):=by
 rcases hk with rfl | rfl | rfl | rfl
 . exact⟨2,rfl,by omega⟩
 . exact⟨1,rfl,by omega⟩
 . exact⟨4,rfl,by omega⟩
 . exact⟨5,rfl,by omega⟩
theorem At.setAll {w:World} {N:Nat} {cs cs':List Value} {T:TypeId} (h:At w N cs T) (hl:cs'.length=cs.length):At (w.setCells N 0 cs') N cs' T:=by
 obtain⟨cur',g1,g2,g3⟩:=l9 N cs' 0 w cs.toArray T (0,0) h (by simp [hl])
 unfold At
 rw [g1]
 have:cur'=cs'.toArray:=by
  apply Array.toList_inj.1
  rw [g3]
  simp [<- hl]
 rw [this]
theorem dK {P:Program} {ops:Array Oper} {rest:List Oper} {o:Oper} {a:Act} {w:World} {Q:Exit ->Act ->World ->Prop} (hg:o.guard=none) (ty:TypeId) (x:Operand) (ho:o.op= .load ty x)
 (N:Nat) (vs:Array Value) (hx:a.eval x= .pointer (some ⟨N,0,none⟩)) (h:At w N vs.toList ty) (d:TypeDesc) (hu:P.underlying ty=some d) (hd:d.isRow=true) (hi:(P.info? ty).map (·.size)=some vs.size)
 (hk:wpList P ops Q rest (a.put o.dst (.agg vs)) w):wpList P ops Q (o::rest) a w:=
 wpList_load_mid hg ty x ho N 0 hx vs.toList d (fun j v hj=>by rw [Nat.zero_add];exact h.cell j hj) hu hd (by simpa using hi) (by simpa using hk)
theorem jQ {P:Program} {ops:Array Oper} {rest:List Oper} {o:Oper} {a:Act} {w:World} {Q:Exit ->Act ->World ->Prop} (hg:o.guard=none) (ty:TypeId) (x y:Operand) (ho:o.op= .store ty x y) (hdst:o.dst=none)
 (N:Nat) (cs:List Value) (vs:Array Value) (hx:a.eval x= .pointer (some ⟨N,0,none⟩)) (hy:a.eval y= .agg vs) (h:At w N cs ty) (hl:vs.size=cs.length) (h1:vs.toList.all (·.oneCell')=true) (hi:(P.info? ty).map (·.size)=some vs.size)
 (hk:∀w',At w' N vs.toList ty ->w.grownBy w' (some N) ->wpList P ops Q rest a w'):wpList P ops Q (o::rest) a w:=by
 refine wpList_store_mid hg ty x y ho N 0 vs hx hy (fun j hj=>⟨?_, ?_⟩) hi (by simpa using h1) ?_
 . rw [Nat.zero_add,h.cell j (List.getElem?_eq_getElem (by omega))];rfl
 . rw [Nat.zero_add];exact Lib.frozen_of_heap h j
 . rw [hdst];exact hk _ (At.setAll h (by simpa using hl)) (gK vs.toList 0 w)
def n_N (W:World) (e:Ending) (w':World):Prop:=Below W.heap.size W w'/\∃ (kd2:Int) (q r:List Int) (pos2:Int) (qa:Option Addr) (qc:Nat) (ra:Option Addr) (rc:Nat) (v4 v5 v6 v7 v8 v9 v10 v11 v12 v13 v14 v15 v16 v17 v18 v19 v20:Value),
 e= .returned (.tuple #[.agg #[.int .i64 kd2, .slice qa q.length qc, .slice ra r.length rc, .int .i64 pos2,v4,v5,v6,v7,v8,v9,v10,v11,v12,v13,v14,v15,v16,v17,v18,v19,v20], .int .i64 0])/\(kd2=1∨kd2=2∨kd2=3∨kd2=4∨kd2=5)/\q≠ []/\q.length <= 1000000/\r.length <= 1000000/\RowQ w' (fun _=>True) 1 qa q.length qc (q.map (Value.int .i64))/\RowQ w' (fun _=>True) 1 ra r.length rc (r.map (Value.int .i64))/\ [.int .i64 kd2, .slice qa q.length qc, .slice ra r.length rc, .int .i64 pos2,v4,v5,v6,v7,v8,v9,v10,v11,v12,v13,v14,v15,v16,v17,v18,v19,v20].all (·.oneCell')=true
theorem n_e (p d:List Int) (kd pos:Int) (nd:aK) (ol:List eK) (pa ta oa:Option Addr) (pc tc oc:Nat) (l0:Bool) (a1 a2 a3:Option Addr) (m1 m2 m3 c1 c2 c3:Nat) (W:World)
 (hbig:nd.wt <= 100000000) (hn:bY W W.heap.size nd (.agg #[.bool l0, .slice a1 m1 c1, .slice a2 m2 c2, .slice a3 m3 c3])) (hne:p≠ [])
 (fs:List UInt8) (hfs:JV b_3 kd (.string ⟨#[]⟩)=(.string ⟨fs.toArray⟩,true)) (hfl:fs.length <= 1000) (hall:∀c∈onB (AQ p d pos nd ol),c∈fs)
 (hp:RowA W W.heap.size 1 pa p.length pc (p.map (Value.int .i64))) (hpl:p.length <= 1000000) (hd:RowA W W.heap.size 1 ta d.length tc (d.map (Value.int .i64))) (hdl:d.length <= 1000000) (ho:RowA W W.heap.size 2 oa ol.length oc (bK ol)) (hol:ol.length <= 100000000)
 (hk:E3 kd) (h3:kd=3 ->0 < iJ p) (h5:kd=5 ->d≠ []) (hpw:∀z∈p, -9223372036854775807 <= z/\z <= 9223372036854775807):
 Calls Tryz.prog 125 #[.agg #[.int .i64 kd, .slice pa p.length pc, .slice ta d.length tc, .int .i64 pos, .bool l0, .slice a1 m1 c1, .slice a2 m2 c2, .slice a3 m3 c3, .slice oa ol.length oc, .slice none 0 0, .slice none 0 0, .bool false, .slice none 0 0, .int .i64 0, .slice none 0 0, .int .i64 0, .bool false, .slice none 0 0, .int .i64 0, .slice none 0 0, .int .i64 0]] W (n_N W):=by
 obtain⟨w0,hw0⟩:∃w0,w0=(W.alloc (Obj.cells #[.int .i64 kd, .slice pa p.length pc, .slice ta d.length tc, .int .i64 pos, .bool l0, .slice a1 m1 c1, .slice a2 m2 c2, .slice a3 m3 c3, .slice oa ol.length oc, .slice none 0 0, .slice none 0 0, .bool false, .slice none 0 0, .int .i64 0, .slice none 0 0, .int .i64 0, .bool false, .slice none 0 0, .int .i64 0, .slice none 0 0, .int .i64 0] 55)).alloc (Obj.cells #[.int .i64 0, .slice none 0 0, .slice none 0 0, .int .i64 0, .bool false, .slice none 0 0, .slice none 0 0, .slice none 0 0, .slice none 0 0, .slice none 0 0, .slice none 0 0, .bool false, .slice none 0 0, .int .i64 0, .slice none 0 0, .int .i64 0, .bool false, .slice none 0 0, .int .i64 0, .slice none 0 0, .int .i64 0] 55):=⟨_,rfl⟩
 have hb0:Below W.heap.size W w0:=by rw [hw0];exact(aX _ _).alloc (by simp) _
 have hs0:w0.heap.size=W.heap.size+2:=by rw [hw0];simp
 have hA:At w0 W.heap.size [.int .i64 kd, .slice pa p.length pc, .slice ta d.length tc, .int .i64 pos, .bool l0, .slice a1 m1 c1, .slice a2 m2 c2, .slice a3 m3 c3, .slice oa ol.length oc, .slice none 0 0, .slice none 0 0, .bool false, .slice none 0 0, .int .i64 0, .slice none 0 0, .int .i64 0, .bool false, .slice none 0 0, .int .i64 0, .slice none 0 0, .int .i64 0] 55:=by rw [hw0];exact(At.fresh W _ _).alloc _
 have hB:At w0 (W.heap.size+1) [.int .i64 0, .slice none 0 0, .slice none 0 0, .int .i64 0, .bool false, .slice none 0 0, .slice none 0 0, .slice none 0 0, .slice none 0 0, .slice none 0 0, .slice none 0 0, .bool false, .slice none 0 0, .int .i64 0, .slice none 0 0, .int .i64 0, .bool false, .slice none 0 0, .int .i64 0, .slice none 0 0, .int .i64 0] 55:=by rw [hw0];exact At.second W _ _ _
 have hnk:∀w',Below w0.heap.size w0 w' ->bY w' w'.heap.size nd (.agg #[.bool l0, .slice a1 m1 c1, .slice a2 m2 c2, .slice a3 m3 c3]):=fun w' hb=>by
  obtain⟨cs,he,hc⟩:=hn
  exact⟨cs,he,dJ.keep (hb0.trans (hb.mono hb0.size)) (hb0.trans (hb.mono hb0.size)).size _ _ hc⟩
 have hrk:∀ {sz:Nat} {a:Option Addr} {n c:Nat} {cs:List Value} (w':World),Below w0.heap.size w0 w' ->RowA W W.heap.size sz a n c cs ->RowA w' w'.heap.size sz a n c cs:=fun w' hb hr=>hr.keep (hb0.trans (hb.mono hb0.size)) (hb0.trans (hb.mono hb0.size)).size
 have HF:=a6 (h_L p d kd pos nd ol pa ta oa pc tc oc l0 a1 a2 a3 m1 m2 m3 c1 c2 c3 w0 hbig (hnk w0 (a7)) hne fs hfs hfl hall)
 have HO:=a6 (fun(w':World) (hb:Below w0.heap.size w0 w')=>n_c p d kd pos nd ol pa ta oa pc tc oc l0 a1 a2 a3 m1 m2 m3 c1 c2 c3 w' hbig (hnk w' hb) (hrk w' hb hp) hpl (hrk w' hb hd) hdl (hrk w' hb ho) hol)
 have HK:=a6 (fun(w':World) (hb:Below W.heap.size W w')=>g_A p pa pc w'.heap.size w' (hp.keep hb hb.size) (a8) hpl hpw)
 obtain⟨kd2,hu,hk2⟩:=n_d hk
 have HU:=a6 (fun(w:World) (b:Nat) (hm:tJ w b k_r)=>k_q (P:=Tryz.prog) (K:=3) hm Tryz.underlying219 Tryz.underlying3 (.int .i64 0) (fun w=>by kernel_rfl) kd (by decide))
 rw [hu]at HU
 have HK2:=a6 hk2
 have HA:=a6 hA;have HB:=a6 hB;have Hb0:=a6 hb0;have Hs0:=a6 hs0;have Hw0:=a6 hw0
 have H3:=a6 h3;have H5:=a6 h5;have Hne:=a6 hne;have Hpl:=a6 hpl;have Hdl:=a6 hdl
 clear hA hB hb0 hs0 hw0 hn hp hd ho hnk hrk hfs hall h3 h5 hne hk2 hu hpw
 go_enter Tryz.func125,Tryz.ntmps125
 go_upto_region 1 with fail
 rw [<- Hw0.o]
 clear Hw0
 go_wp2_with (refine dK rfl _ _ rfl W.heap.size #[.int .i64 kd, .slice pa p.length pc, .slice ta d.length tc, .int .i64 pos, .bool l0, .slice a1 m1 c1, .slice a2 m2 c2, .slice a3 m3 c3, .slice oa ol.length oc, .slice none 0 0, .slice none 0 0, .bool false, .slice none 0 0, .int .i64 0, .slice none 0 0, .int .i64 0, .bool false, .slice none 0 0, .int .i64 0, .slice none 0 0, .int .i64 0] rfl HA.o _ Tryz.underlying55 rfl (by kernel_rfl) ?_)
 refine HF.o.mono ?_
 rintro e w1 ⟨rfl,hbel⟩
 have Hb1:=a6 hbel
 have HA1:=a6 (HA.o.kept hbel)
 clear HF hbel
 go_wp2_with (refine dK rfl _ _ rfl W.heap.size #[.int .i64 kd, .slice pa p.length pc, .slice ta d.length tc, .int .i64 pos, .bool l0, .slice a1 m1 c1, .slice a2 m2 c2, .slice a3 m3 c3, .slice oa ol.length oc, .slice none 0 0, .slice none 0 0, .bool false, .slice none 0 0, .int .i64 0, .slice none 0 0, .int .i64 0, .bool false, .slice none 0 0, .int .i64 0, .slice none 0 0, .int .i64 0] rfl HA1.o _ Tryz.underlying55 rfl (by kernel_rfl) ?_)
 refine(HO.o w1 Hb1.o).mono ?_
 rintro e w2 ⟨⟨qa,qc,ra,rc,xa,xc,v4,v5,v6,v7,v8,v9,g1,g2,g3,g4,h1,h2,h3,h4,rfl,hq,hr,hone,⟨s8,n8,k8,rfl⟩,⟨s9,n9,k9,rfl⟩⟩,hbel⟩
 have Hb2:=a6 (b5 Hb1.o hbel)
 have Hone8:Hid ([.int .i64 kd, .slice qa p.length qc, .slice ra d.length rc, .int .i64 pos,v4,v5,v6,v7, .slice s8 n8 k8, .slice s9 n9 k9, .slice xa 0 xc, .bool false, .slice g1 0 h1, .int .i64 0, .slice g2 0 h2, .int .i64 0, .bool false, .slice g3 0 h3, .int .i64 0, .slice g4 0 h4, .int .i64 0].all (·.oneCell')=true):=by
  show _=true
  simp only [List.all_cons,List.all_nil,Bool.and_true,Bool.and_eq_true]at hone⊢
  exact⟨rfl,rfl,rfl,rfl,hone.1,hone.2.1,hone.2.2.1,hone.2.2.2.1,rfl,rfl,rfl,rfl,rfl,rfl,rfl,rfl,rfl,rfl,rfl,rfl,rfl⟩
 have Hone:=a6 hone
 have Hs1:=a6 (show W.heap.size+2 <= w1.heap.size by have h1:=Hb1.o.size;have h2:=Hs0.o;omega)
 have Hq:=a6 hq;have Hr:=a6 hr
 clear hbel hone hq hr HO HA1 Hb1
 go_wp2_with (refine jQ rfl _ _ _ rfl rfl w2.heap.size [.int .i64 0, .slice none 0 0, .slice none 0 0, .int .i64 0, .bool false, .slice none 0 0, .slice none 0 0, .slice none 0 0, .slice none 0 0, .slice none 0 0, .slice none 0 0, .bool false, .slice none 0 0, .int .i64 0, .slice none 0 0, .int .i64 0, .bool false, .slice none 0 0, .int .i64 0, .slice none 0 0, .int .i64 0] #[.int .i64 kd, .slice qa p.length qc, .slice ra d.length rc, .int .i64 pos,v4,v5,v6,v7, .slice s8 n8 k8, .slice s9 n9 k9, .slice xa 0 xc, .bool false, .slice g1 0 h1, .int .i64 0, .slice g2 0 h2, .int .i64 0, .bool false, .slice g3 0 h3, .int .i64 0, .slice g4 0 h4, .int .i64 0] rfl rfl (At.fresh w2 _ _) rfl Hone8.o (by kernel_rfl) ?_)
 intro w3 hC3 hg3
 have hg:w2.grownBy w3 (some w2.heap.size):=eV (cZ (aX w2 _)) hg3
 have Hb23:=a6 (hg.old (M:=w2.heap.size) (a8) (fun k hk=>by cases hk;exact a8))
 have Hs23:=a6 (show w2.heap.size+1 <= w3.heap.size by have:=hC3.lt;omega)
 have Hq3:=a6 (show RowQ w3 (fun b=>W.heap.size+2 <= b/\b < w2.heap.size) 1 qa p.length qc (p.map (Value.int .i64))from Hq.o.keep Hb23.o.size (fun b _ hlt=>Hb23.o.block b hlt) (fun b hb hlt=>⟨by have:=Hs1.o;omega,hlt⟩))
 have Hr3:=a6 (show RowQ w3 (fun b=>W.heap.size+2 <= b/\b < w2.heap.size) 1 ra d.length rc (d.map (Value.int .i64))from Hr.o.keep Hb23.o.size (fun b _ hlt=>Hb23.o.block b hlt) (fun b hb hlt=>⟨by have:=Hs1.o;omega,hlt⟩))
 have HC3:=a6 hC3
 have Hb3:=a6 (b5 Hb2.o (Hb23.o))
 clear hC3 hg3 hg Hone8 Hq Hr
 have Hs2:=a6 (show W.heap.size+2 <= w2.heap.size by have h1:=Hb2.o.size;have h2:=Hs0.o;omega)
 have HA3:=a6 (HA.o.kept Hb3.o)
 have HS3:=a6 (fun(w':World) (hb:Below (W.heap.size+1) w3 w')=>(HA3.o.keep hb).cell 0 rfl)
 go_upto_region 5 with fail
 go_cut [] (fun wx=>At wx W.heap.size [.int .i64 kd, .slice pa p.length pc, .slice ta d.length tc, .int .i64 pos, .bool l0, .slice a1 m1 c1, .slice a2 m2 c2, .slice a3 m3 c3, .slice oa ol.length oc, .slice none 0 0, .slice none 0 0, .bool false, .slice none 0 0, .int .i64 0, .slice none 0 0, .int .i64 0, .bool false, .slice none 0 0, .int .i64 0, .slice none 0 0, .int .i64 0] 55/\At wx (W.heap.size+1) [.int .i64 0, .slice none 0 0, .slice none 0 0, .int .i64 0, .bool false, .slice none 0 0, .slice none 0 0, .slice none 0 0, .slice none 0 0, .slice none 0 0, .slice none 0 0, .bool false, .slice none 0 0, .int .i64 0, .slice none 0 0, .int .i64 0, .bool false, .slice none 0 0, .int .i64 0, .slice none 0 0, .int .i64 0] 55/\At wx w2.heap.size [.int .i64 kd2, .slice qa p.length qc, .slice ra d.length rc, .int .i64 pos,v4,v5,v6,v7, .slice s8 n8 k8, .slice s9 n9 k9, .slice xa 0 xc, .bool false, .slice g1 0 h1, .int .i64 0, .slice g2 0 h2, .int .i64 0, .bool false, .slice g3 0 h3, .int .i64 0, .slice g4 0 h4, .int .i64 0] 55/\RowQ wx (fun b=>W.heap.size+2 <= b/\b < w2.heap.size) 1 qa p.length qc (p.map (Value.int .i64))/\RowQ wx (fun b=>W.heap.size+2 <= b/\b < w2.heap.size) 1 ra d.length rc (d.map (Value.int .i64))/\Below W.heap.size W wx)
 case first=>
  have hs2:=Hs2.o
  have hs23:w2.heap.size+1 <= w3.heap.size:=Hs23.o
  go_region_held3 (fun w'=>w'.cell? ⟨W.heap.size,0,none⟩=some (.int .i64 kd)) (refine HS3.o _ (by((repeat (first | with_reducible exact Hb4b.o | with_reducible exact a7 | with_reducible refine Below.drew ?_ | with_reducible refine Below.alloc ?_ ?_ _ | with_reducible refine Below.setCell ?_ ?_ _)) <;> (first | with_reducible exact a8 | with_reducible exact Hb4b.o.size | (have hsz:=Hb4b.o.size;simp [World.setCell];omega) | (simp;done) | (simp;omega) | omega))))
   (first
   | (refine b9 rfl 190 _ _ rfl m_0 [] ?_ _ (k_c _) ?_
      . go_simp
      rintro e w4 ⟨rfl,hm,hbel⟩
      refine⟨_,rfl, ?_⟩
      have ha:(Instr.lookup 219 (.map (some w3.heap.size)) (.int .i64 kd) false).run Tryz.prog w4= .ok (.int .i64 kd2) w4:=HU.o _ _ hm
      have Hb4:=a6 (Below.and (w0:=w3) (by((repeat (first | with_reducible exact a7 | with_reducible refine Below.drew ?_ | with_reducible refine Below.alloc ?_ ?_ _ | with_reducible refine Below.setCell ?_ ?_ _)) <;> (first | with_reducible exact a8 | (simp;done) | (simp;omega) | omega))) hbel)
      have Hb4b:=a6 (Hb4.o.mono (show W.heap.size+1 <= w3.heap.size by omega))
      have HC4:=a6 (HC3.o.kept Hb4.o)
      have t0:=HC4.o.cell 0 rfl;have tl:=HC4.o.lt
      have tf:=fun j=>Lib.frozen_of_heap HC4.o j
      clear hbel hm))
  all_goals
   go_wp2_with fail
   go_meet
   case rel=>
    have hs2:=Hs2.o
    have hne1:W.heap.size≠w2.heap.size:=by omega
    have hne2:W.heap.size+1≠w2.heap.size:=by omega
    have hA4:=HA.o.kept (b5 Hb3.o Hb4.o)
    have hB4:=HB.o.kept (b5 Hb3.o Hb4.o)
    have hlt:¬ (W.heap.size+2 <= w2.heap.size/\w2.heap.size < w2.heap.size):=by omega
    have hb4:=Hb0.o.trans ((b5 Hb3.o Hb4.o).mono Hb0.o.size)
    exact⟨hA4.set_ne hne1 _,hB4.set_ne hne2 _,HC4.o.set 0 _,aY (G7 Hq3.o Hb4.o) hlt,aY (G7 Hr3.o Hb4.o) hlt,hb4.setCell (p:=⟨w2.heap.size,0,none⟩) (by show W.heap.size <= w2.heap.size;omega) _⟩
 case rest=>
 obtain⟨hA,hB,hC,hq,hr,hbel⟩:=hcut
 clear HA HB HC3 Hq3 Hr3 HS3 HU Hb0 Hb3
 have HA:=a6 hA;have HB:=a6 hB;have HC:=a6 hC;have Hq:=a6 hq;have Hr:=a6 hr;have Hbel:=a6 hbel
 have t8:=hC.cell 8 rfl;have t9:=hC.cell 9 rfl;have tl:=hC.lt
 have tf:=fun j=>Lib.frozen_of_heap hC j
 clear hA hB hC hq hr hbel
 go_upto_region 6 with fail
 go_cut [] (fun wx=>At wx W.heap.size [.int .i64 kd, .slice pa p.length pc, .slice ta d.length tc, .int .i64 pos, .bool l0, .slice a1 m1 c1, .slice a2 m2 c2, .slice a3 m3 c3, .slice oa ol.length oc, .slice none 0 0, .slice none 0 0, .bool false, .slice none 0 0, .int .i64 0, .slice none 0 0, .int .i64 0, .bool false, .slice none 0 0, .int .i64 0, .slice none 0 0, .int .i64 0] 55/\At wx (W.heap.size+1) [.int .i64 0, .slice none 0 0, .slice none 0 0, .int .i64 0, .bool false, .slice none 0 0, .slice none 0 0, .slice none 0 0, .slice none 0 0, .slice none 0 0, .slice none 0 0, .bool false, .slice none 0 0, .int .i64 0, .slice none 0 0, .int .i64 0, .bool false, .slice none 0 0, .int .i64 0, .slice none 0 0, .int .i64 0] 55/\At wx w2.heap.size [.int .i64 kd2, .slice qa p.length qc, .slice ra d.length rc, .int .i64 pos,v4,v5,v6,v7, .slice s9 n9 k9, .slice s8 n8 k8, .slice xa 0 xc, .bool false, .slice g1 0 h1, .int .i64 0, .slice g2 0 h2, .int .i64 0, .bool false, .slice g3 0 h3, .int .i64 0, .slice g4 0 h4, .int .i64 0] 55/\RowQ wx (fun b=>W.heap.size+2 <= b/\b < w2.heap.size) 1 qa p.length qc (p.map (Value.int .i64))/\RowQ wx (fun b=>W.heap.size+2 <= b/\b < w2.heap.size) 1 ra d.length rc (d.map (Value.int .i64))/\Below W.heap.size W wx)
 case first=>
  go_wp2_with fail
  go_meet
  case rel=>
   have hs2:=Hs2.o
   have hne1:W.heap.size≠w2.heap.size:=by omega
   have hne2:W.heap.size+1≠w2.heap.size:=by omega
   have hlt:¬ (W.heap.size+2 <= w2.heap.size/\w2.heap.size < w2.heap.size):=by omega
   have hle:W.heap.size <= w2.heap.size:=by omega
   exact⟨(HA.o.set_ne hne1 _).set_ne hne1 _,(HB.o.set_ne hne2 _).set_ne hne2 _,(HC.o.set 8 _).set 9 _,aY (aY Hq.o hlt) hlt,aY (aY Hr.o hlt) hlt,(Hbel.o.setCell (p:=⟨w2.heap.size,8,none⟩) hle _).setCell (p:=⟨w2.heap.size,9,none⟩) hle _⟩
 case rest=>
 obtain⟨hA,hB,hC,hq,hr,hbel⟩:=hcut
 clear HA HB HC Hq Hr Hbel t8 t9 tl tf
 have HA:=a6 hA;have HB:=a6 hB;have HC:=a6 hC;have Hq:=a6 hq;have Hr:=a6 hr;have Hbel:=a6 hbel
 have t11:=hC.cell 11 rfl;have t12:=hC.cell 12 rfl;have t13:=hC.cell 13 rfl;have t14:=hC.cell 14 rfl;have t15:=hC.cell 15 rfl
 have t16:=hC.cell 16 rfl;have t17:=hC.cell 17 rfl;have t18:=hC.cell 18 rfl;have t19:=hC.cell 19 rfl;have t20:=hC.cell 20 rfl;have tl:=hC.lt
 have tf:=fun j=>Lib.frozen_of_heap hC j
 clear hA hB hC hq hr hbel
 go_upto_region 7 with fail
 go_cut [] (fun wx=>At wx W.heap.size [.int .i64 kd, .slice pa p.length pc, .slice ta d.length tc, .int .i64 pos, .bool l0, .slice a1 m1 c1, .slice a2 m2 c2, .slice a3 m3 c3, .slice oa ol.length oc, .slice none 0 0, .slice none 0 0, .bool false, .slice none 0 0, .int .i64 0, .slice none 0 0, .int .i64 0, .bool false, .slice none 0 0, .int .i64 0, .slice none 0 0, .int .i64 0] 55/\At wx (W.heap.size+1) [.int .i64 0, .slice none 0 0, .slice none 0 0, .int .i64 0, .bool false, .slice none 0 0, .slice none 0 0, .slice none 0 0, .slice none 0 0, .slice none 0 0, .slice none 0 0, .bool false, .slice none 0 0, .int .i64 0, .slice none 0 0, .int .i64 0, .bool false, .slice none 0 0, .int .i64 0, .slice none 0 0, .int .i64 0] 55/\At wx w2.heap.size [.int .i64 kd2, .slice qa p.length qc, .slice ra d.length rc, .int .i64 pos,v4,v5,v6,v7, .slice s9 n9 k9, .slice s8 n8 k8, .slice xa 0 xc, .bool false, .slice g3 0 h3, .int .i64 0, .slice g4 0 h4, .int .i64 0, .bool false, .slice g1 0 h1, .int .i64 0, .slice g2 0 h2, .int .i64 0] 55/\RowQ wx (fun b=>W.heap.size+2 <= b/\b < w2.heap.size) 1 qa p.length qc (p.map (Value.int .i64))/\RowQ wx (fun b=>W.heap.size+2 <= b/\b < w2.heap.size) 1 ra d.length rc (d.map (Value.int .i64))/\Below W.heap.size W wx)
 case first=>
  go_wp2_with fail
  go_meet
  case rel=>
   have hs2:=Hs2.o
   have hne1:W.heap.size≠w2.heap.size:=by omega
   have hne2:W.heap.size+1≠w2.heap.size:=by omega
   have hlt:¬ (W.heap.size+2 <= w2.heap.size/\w2.heap.size < w2.heap.size):=by omega
   have hle:W.heap.size <= w2.heap.size:=by omega
   exact⟨((((((((((HA.o.set_ne hne1 _).set_ne hne1 _).set_ne hne1 _).set_ne hne1 _).set_ne hne1 _).set_ne hne1 _).set_ne hne1 _).set_ne hne1 _).set_ne hne1 _).set_ne hne1 _),((((((((((HB.o.set_ne hne2 _).set_ne hne2 _).set_ne hne2 _).set_ne hne2 _).set_ne hne2 _).set_ne hne2 _).set_ne hne2 _).set_ne hne2 _).set_ne hne2 _).set_ne hne2 _),((((((((((HC.o.set 11 _).set 12 _).set 13 _).set 14 _).set 15 _).set 16 _).set 17 _).set 18 _).set 19 _).set 20 _),aY (aY (aY (aY (aY (aY (aY (aY (aY (aY Hq.o hlt) hlt) hlt) hlt) hlt) hlt) hlt) hlt) hlt) hlt,aY (aY (aY (aY (aY (aY (aY (aY (aY (aY Hr.o hlt) hlt) hlt) hlt) hlt) hlt) hlt) hlt) hlt) hlt,(((((((((Hbel.o.setCell (p:=⟨w2.heap.size,11,none⟩) hle _).setCell (p:=⟨w2.heap.size,12,none⟩) hle _).setCell (p:=⟨w2.heap.size,13,none⟩) hle _).setCell (p:=⟨w2.heap.size,14,none⟩) hle _).setCell (p:=⟨w2.heap.size,15,none⟩) hle _).setCell (p:=⟨w2.heap.size,16,none⟩) hle _).setCell (p:=⟨w2.heap.size,17,none⟩) hle _).setCell (p:=⟨w2.heap.size,18,none⟩) hle _).setCell (p:=⟨w2.heap.size,19,none⟩) hle _).setCell (p:=⟨w2.heap.size,20,none⟩) hle _⟩
 case rest=>
 obtain⟨hA,hB,hC,hq,hr,hbel⟩:=hcut
 clear HA HB HC Hq Hr Hbel t11 t12 t13 t14 t15 t16 t17 t18 t19 t20 tl tf
 have HA:=a6 hA;have HB:=a6 hB;have HC:=a6 hC;have Hq:=a6 hq;have Hr:=a6 hr;have Hbel:=a6 hbel
 have y0:=hA.cell 0 rfl;have yl:=hA.lt
 have honeT: [v4,v5,v6,v7].all (·.oneCell')=true:=by
  have h:=Hone.o
  simp only [List.all_cons,List.all_nil,Bool.and_true,Bool.and_eq_true]at h⊢
  exact⟨h.1,h.2.1,h.2.2.1,h.2.2.2.1⟩
 have HoneT:=a6 honeT
 clear hA hB hC hq hr hbel honeT Hone
 go_upto_region 9 with fail
 unfold n_N
 rcases hk with rfl | rfl | rfl | rfl
 ·
   have Hone5:Hid ([.int .i64 kd2, .slice qa p.length qc, .slice ra d.length rc, .int .i64 pos,v4,v5,v6,v7, .slice s9 n9 k9, .slice s8 n8 k8, .slice xa 0 xc, .bool false, .slice g3 0 h3, .int .i64 0, .slice g4 0 h4, .int .i64 0, .bool false, .slice g1 0 h1, .int .i64 0, .slice g2 0 h2, .int .i64 0].all (·.oneCell')=true):=by
    show _=true
    have h:=HoneT.o
    simp only [List.all_cons,List.all_nil,Bool.and_true,Bool.and_eq_true]at h⊢
    exact⟨rfl,rfl,rfl,rfl,h.1,h.2.1,h.2.2.1,h.2.2.2,rfl,rfl,rfl,rfl,rfl,rfl,rfl,rfl,rfl,rfl,rfl,rfl,rfl⟩
   go_wp2_with (first
    | (refine dK rfl _ _ rfl w2.heap.size #[.int .i64 kd2, .slice qa p.length qc, .slice ra d.length rc, .int .i64 pos,v4,v5,v6,v7, .slice s9 n9 k9, .slice s8 n8 k8, .slice xa 0 xc, .bool false, .slice g3 0 h3, .int .i64 0, .slice g4 0 h4, .int .i64 0, .bool false, .slice g1 0 h1, .int .i64 0, .slice g2 0 h2, .int .i64 0] rfl HC.o _ Tryz.underlying55 rfl (by kernel_rfl) ?_)
    | (refine jQ rfl _ _ _ rfl rfl (W.heap.size+1) [.int .i64 0, .slice none 0 0, .slice none 0 0, .int .i64 0, .bool false, .slice none 0 0, .slice none 0 0, .slice none 0 0, .slice none 0 0, .slice none 0 0, .slice none 0 0, .bool false, .slice none 0 0, .int .i64 0, .slice none 0 0, .int .i64 0, .bool false, .slice none 0 0, .int .i64 0, .slice none 0 0, .int .i64 0] #[.int .i64 kd2, .slice qa p.length qc, .slice ra d.length rc, .int .i64 pos,v4,v5,v6,v7, .slice s9 n9 k9, .slice s8 n8 k8, .slice xa 0 xc, .bool false, .slice g3 0 h3, .int .i64 0, .slice g4 0 h4, .int .i64 0, .bool false, .slice g1 0 h1, .int .i64 0, .slice g2 0 h2, .int .i64 0] rfl rfl HB.o rfl Hone5.o (by kernel_rfl) ?_))
   intro w5 hB5 hg5
   have HB5:=a6 hB5;have Hg5:=a6 hg5
   clear hB5 hg5
   go_wp2_with fail
   have hlr:=At.load (P:=Tryz.prog) HB5.o Tryz.underlying55 rfl (by kernel_rfl)
   simp [go_sem]at hlr
   refine bodyPost_ret (v:= .tuple #[.agg #[.int .i64 kd2, .slice qa p.length qc, .slice ra d.length rc, .int .i64 pos,v4,v5,v6,v7, .slice s9 n9 k9, .slice s8 n8 k8, .slice xa 0 xc, .bool false, .slice g3 0 h3, .int .i64 0, .slice g4 0 h4, .int .i64 0, .bool false, .slice g1 0 h1, .int .i64 0, .slice g2 0 h2, .int .i64 0], .int .i64 0]) (by simp [results,Tryz.results125,go_sem,hlr]) rfl ?_
   have hs2:=Hs2.o
   exact⟨(Hbel.o).grown Hg5.o (Hbel.o).size (fun k e=>by cases e;omega),kd2,p,d,pos,_,_,_,_,_,_,_,_,_,_,_,_,_,_,_,_,_,_,_,_,_,rfl,HK2.o,Hne.o,Hpl.o,Hdl.o,(Hq.o).keep Hg5.o.size (fun b hb hlt=>Hg5.o.block b hlt (fun e=>by have e:=Option.some.inj e;omega)) (fun _ _ _=>trivial),(Hr.o).keep Hg5.o.size (fun b hb hlt=>Hg5.o.block b hlt (fun e=>by have e:=Option.some.inj e;omega)) (fun _ _ _=>trivial),Hone5.o⟩
 ·
   have Hone5:Hid ([.int .i64 kd2, .slice qa p.length qc, .slice ra d.length rc, .int .i64 pos,v4,v5,v6,v7, .slice s9 n9 k9, .slice s8 n8 k8, .slice xa 0 xc, .bool false, .slice g3 0 h3, .int .i64 0, .slice g4 0 h4, .int .i64 0, .bool false, .slice g1 0 h1, .int .i64 0, .slice g2 0 h2, .int .i64 0].all (·.oneCell')=true):=by
    show _=true
    have h:=HoneT.o
    simp only [List.all_cons,List.all_nil,Bool.and_true,Bool.and_eq_true]at h⊢
    exact⟨rfl,rfl,rfl,rfl,h.1,h.2.1,h.2.2.1,h.2.2.2,rfl,rfl,rfl,rfl,rfl,rfl,rfl,rfl,rfl,rfl,rfl,rfl,rfl⟩
   go_wp2_with (first
    | (refine dK rfl _ _ rfl w2.heap.size #[.int .i64 kd2, .slice qa p.length qc, .slice ra d.length rc, .int .i64 pos,v4,v5,v6,v7, .slice s9 n9 k9, .slice s8 n8 k8, .slice xa 0 xc, .bool false, .slice g3 0 h3, .int .i64 0, .slice g4 0 h4, .int .i64 0, .bool false, .slice g1 0 h1, .int .i64 0, .slice g2 0 h2, .int .i64 0] rfl HC.o _ Tryz.underlying55 rfl (by kernel_rfl) ?_)
    | (refine jQ rfl _ _ _ rfl rfl (W.heap.size+1) [.int .i64 0, .slice none 0 0, .slice none 0 0, .int .i64 0, .bool false, .slice none 0 0, .slice none 0 0, .slice none 0 0, .slice none 0 0, .slice none 0 0, .slice none 0 0, .bool false, .slice none 0 0, .int .i64 0, .slice none 0 0, .int .i64 0, .bool false, .slice none 0 0, .int .i64 0, .slice none 0 0, .int .i64 0] #[.int .i64 kd2, .slice qa p.length qc, .slice ra d.length rc, .int .i64 pos,v4,v5,v6,v7, .slice s9 n9 k9, .slice s8 n8 k8, .slice xa 0 xc, .bool false, .slice g3 0 h3, .int .i64 0, .slice g4 0 h4, .int .i64 0, .bool false, .slice g1 0 h1, .int .i64 0, .slice g2 0 h2, .int .i64 0] rfl rfl HB.o rfl Hone5.o (by kernel_rfl) ?_))
   intro w5 hB5 hg5
   have HB5:=a6 hB5;have Hg5:=a6 hg5
   clear hB5 hg5
   go_wp2_with fail
   have hlr:=At.load (P:=Tryz.prog) HB5.o Tryz.underlying55 rfl (by kernel_rfl)
   simp [go_sem]at hlr
   refine bodyPost_ret (v:= .tuple #[.agg #[.int .i64 kd2, .slice qa p.length qc, .slice ra d.length rc, .int .i64 pos,v4,v5,v6,v7, .slice s9 n9 k9, .slice s8 n8 k8, .slice xa 0 xc, .bool false, .slice g3 0 h3, .int .i64 0, .slice g4 0 h4, .int .i64 0, .bool false, .slice g1 0 h1, .int .i64 0, .slice g2 0 h2, .int .i64 0], .int .i64 0]) (by simp [results,Tryz.results125,go_sem,hlr]) rfl ?_
   have hs2:=Hs2.o
   exact⟨(Hbel.o).grown Hg5.o (Hbel.o).size (fun k e=>by cases e;omega),kd2,p,d,pos,_,_,_,_,_,_,_,_,_,_,_,_,_,_,_,_,_,_,_,_,_,rfl,HK2.o,Hne.o,Hpl.o,Hdl.o,(Hq.o).keep Hg5.o.size (fun b hb hlt=>Hg5.o.block b hlt (fun e=>by have e:=Option.some.inj e;omega)) (fun _ _ _=>trivial),(Hr.o).keep Hg5.o.size (fun b hb hlt=>Hg5.o.block b hlt (fun e=>by have e:=Option.some.inj e;omega)) (fun _ _ _=>trivial),Hone5.o⟩
 ·
   have hl3:=H3.o rfl
   have Hbn:Hid (sX p (-1)=(j5 p,0)):=by
    show _=_
    unfold sX j5
    rw [if_neg Hne.o,if_neg (by omega)]
    rfl
   have hpx:=HA.o.cell 1 rfl
   have HK3:=a6 (HK.o wc Hbel.o)
   clear HK
   go_wp2_with fail
   refine HK3.o.mono ?_
   rw [Hbn.o]
   rintro e w6 ⟨hbel,v,rfl,hown⟩
   obtain⟨ba,bc,rfl,hqb⟩:=RowQ.of_own hown (by intro u hu;obtain⟨z, -,rfl⟩:=List.mem_map.1 hu;rfl)
   have HC6:=a6 (HC.o.kept hbel);have HB6:=a6 (HB.o.kept hbel)
   have Hqb:=a6 (show RowQ w6 (fun b=>wc.heap.size <= b) 1 ba (j5 p).length bc ((j5 p).map (Value.int .i64))from hqb.keep (a8) (fun _ _ _=>rfl) (fun b hb _=>(hown.lt b hb).1));have Hb6:=a6 (Hbel.o.trans (hbel.mono Hbel.o.size))
   have Hr6:=a6 (G7 Hr.o hbel)
   have tl:=HC6.o.lt;have t1:=HC6.o.cell 1 rfl
   have tf:=fun j=>Lib.frozen_of_heap HC6.o j
   have Hsz6:=a6 (show w2.heap.size+1 <= wc.heap.size from HC.o.lt)
   have Hne1:=a6 (show W.heap.size+1≠w2.heap.size by have h:=Hs2.o;omega)
   have Hnl:Hid (¬wc.heap.size <= w2.heap.size):=by have h:=Hsz6.o;show ¬_;omega
   clear HK3 hbel hown hqb hpx y0 yl
   have Hone5:Hid ([.int .i64 kd2, .slice ba (j5 p).length bc, .slice ra d.length rc, .int .i64 pos,v4,v5,v6,v7, .slice s9 n9 k9, .slice s8 n8 k8, .slice xa 0 xc, .bool false, .slice g3 0 h3, .int .i64 0, .slice g4 0 h4, .int .i64 0, .bool false, .slice g1 0 h1, .int .i64 0, .slice g2 0 h2, .int .i64 0].all (·.oneCell')=true):=by
    show _=true
    have h:=HoneT.o
    simp only [List.all_cons,List.all_nil,Bool.and_true,Bool.and_eq_true]at h⊢
    exact⟨rfl,rfl,rfl,rfl,h.1,h.2.1,h.2.2.1,h.2.2.2,rfl,rfl,rfl,rfl,rfl,rfl,rfl,rfl,rfl,rfl,rfl,rfl,rfl⟩
   go_wp2_with (first
    | (refine dK rfl _ _ rfl w2.heap.size #[.int .i64 kd2, .slice ba (j5 p).length bc, .slice ra d.length rc, .int .i64 pos,v4,v5,v6,v7, .slice s9 n9 k9, .slice s8 n8 k8, .slice xa 0 xc, .bool false, .slice g3 0 h3, .int .i64 0, .slice g4 0 h4, .int .i64 0, .bool false, .slice g1 0 h1, .int .i64 0, .slice g2 0 h2, .int .i64 0] rfl (HC6.o.set 1 (Value.slice ba (j5 p).length bc)) _ Tryz.underlying55 rfl (by kernel_rfl) ?_)
    | (refine jQ rfl _ _ _ rfl rfl (W.heap.size+1) [.int .i64 0, .slice none 0 0, .slice none 0 0, .int .i64 0, .bool false, .slice none 0 0, .slice none 0 0, .slice none 0 0, .slice none 0 0, .slice none 0 0, .slice none 0 0, .bool false, .slice none 0 0, .int .i64 0, .slice none 0 0, .int .i64 0, .bool false, .slice none 0 0, .int .i64 0, .slice none 0 0, .int .i64 0] #[.int .i64 kd2, .slice ba (j5 p).length bc, .slice ra d.length rc, .int .i64 pos,v4,v5,v6,v7, .slice s9 n9 k9, .slice s8 n8 k8, .slice xa 0 xc, .bool false, .slice g3 0 h3, .int .i64 0, .slice g4 0 h4, .int .i64 0, .bool false, .slice g1 0 h1, .int .i64 0, .slice g2 0 h2, .int .i64 0] rfl rfl (HB6.o.set_ne Hne1.o _) rfl Hone5.o (by kernel_rfl) ?_))
   intro w5 hB5 hg5
   have HB5:=a6 hB5;have Hg5:=a6 hg5
   clear hB5 hg5
   go_wp2_with fail
   have hlr:=At.load (P:=Tryz.prog) HB5.o Tryz.underlying55 rfl (by kernel_rfl)
   simp [go_sem]at hlr
   refine bodyPost_ret (v:= .tuple #[.agg #[.int .i64 kd2, .slice ba (j5 p).length bc, .slice ra d.length rc, .int .i64 pos,v4,v5,v6,v7, .slice s9 n9 k9, .slice s8 n8 k8, .slice xa 0 xc, .bool false, .slice g3 0 h3, .int .i64 0, .slice g4 0 h4, .int .i64 0, .bool false, .slice g1 0 h1, .int .i64 0, .slice g2 0 h2, .int .i64 0], .int .i64 0]) (by simp [results,Tryz.results125,go_sem,hlr]) rfl ?_
   have hs2:=Hs2.o
   have hnl:=Hnl.o
   have hb7:=Hb6.o.setCell (p:=⟨w2.heap.size,1,none⟩) (by show W.heap.size <= w2.heap.size;omega) (Value.slice ba (j5 p).length bc)
   have hsz6:=Hsz6.o
   exact⟨(hb7).grown Hg5.o (hb7).size (fun k e=>by cases e;omega),kd2,j5 p,d,pos,_,_,_,_,_,_,_,_,_,_,_,_,_,_,_,_,_,_,_,_,_,rfl,HK2.o,by unfold j5;simp,by unfold j5;have:=Hpl.o;simp;omega,Hdl.o,(aY (u:=Value.slice ba (j5 p).length bc) (o:=1) Hqb.o hnl).keep Hg5.o.size (fun b hb hlt=>Hg5.o.block b hlt (fun e=>by have e:=Option.some.inj e;omega)) (fun _ _ _=>trivial),(aY (u:=Value.slice ba (j5 p).length bc) (o:=1) Hr6.o (by omega)).keep Hg5.o.size (fun b hb hlt=>Hg5.o.block b hlt (fun e=>by have e:=Option.some.inj e;omega)) (fun _ _ _=>trivial),Hone5.o⟩
 ·
   have hd5:=H5.o rfl
   have Hd5:=a6 hd5
   have tl:=HC.o.lt;have t1:=HC.o.cell 1 rfl;have t2:=HC.o.cell 2 rfl
   have tf:=fun j=>Lib.frozen_of_heap HC.o j
   have Hne1:=a6 (show W.heap.size+1≠w2.heap.size by have h:=Hs2.o;omega)
   clear hd5
   have Hone5:Hid ([.int .i64 kd2, .slice ra d.length rc, .slice qa p.length qc, .int .i64 pos,v4,v5,v6,v7, .slice s9 n9 k9, .slice s8 n8 k8, .slice xa 0 xc, .bool false, .slice g3 0 h3, .int .i64 0, .slice g4 0 h4, .int .i64 0, .bool false, .slice g1 0 h1, .int .i64 0, .slice g2 0 h2, .int .i64 0].all (·.oneCell')=true):=by
    show _=true
    have h:=HoneT.o
    simp only [List.all_cons,List.all_nil,Bool.and_true,Bool.and_eq_true]at h⊢
    exact⟨rfl,rfl,rfl,rfl,h.1,h.2.1,h.2.2.1,h.2.2.2,rfl,rfl,rfl,rfl,rfl,rfl,rfl,rfl,rfl,rfl,rfl,rfl,rfl⟩
   go_wp2_with (first
    | (refine dK rfl _ _ rfl w2.heap.size #[.int .i64 kd2, .slice ra d.length rc, .slice qa p.length qc, .int .i64 pos,v4,v5,v6,v7, .slice s9 n9 k9, .slice s8 n8 k8, .slice xa 0 xc, .bool false, .slice g3 0 h3, .int .i64 0, .slice g4 0 h4, .int .i64 0, .bool false, .slice g1 0 h1, .int .i64 0, .slice g2 0 h2, .int .i64 0] rfl ((HC.o.set 1 (Value.slice ra d.length rc)).set 2 (Value.slice qa p.length qc)) _ Tryz.underlying55 rfl (by kernel_rfl) ?_)
    | (refine jQ rfl _ _ _ rfl rfl (W.heap.size+1) [.int .i64 0, .slice none 0 0, .slice none 0 0, .int .i64 0, .bool false, .slice none 0 0, .slice none 0 0, .slice none 0 0, .slice none 0 0, .slice none 0 0, .slice none 0 0, .bool false, .slice none 0 0, .int .i64 0, .slice none 0 0, .int .i64 0, .bool false, .slice none 0 0, .int .i64 0, .slice none 0 0, .int .i64 0] #[.int .i64 kd2, .slice ra d.length rc, .slice qa p.length qc, .int .i64 pos,v4,v5,v6,v7, .slice s9 n9 k9, .slice s8 n8 k8, .slice xa 0 xc, .bool false, .slice g3 0 h3, .int .i64 0, .slice g4 0 h4, .int .i64 0, .bool false, .slice g1 0 h1, .int .i64 0, .slice g2 0 h2, .int .i64 0] rfl rfl ((HB.o.set_ne Hne1.o _).set_ne Hne1.o _) rfl Hone5.o (by kernel_rfl) ?_))
   intro w5 hB5 hg5
   have HB5:=a6 hB5;have Hg5:=a6 hg5
   clear hB5 hg5
   go_wp2_with fail
   have hlr:=At.load (P:=Tryz.prog) HB5.o Tryz.underlying55 rfl (by kernel_rfl)
   simp [go_sem]at hlr
   refine bodyPost_ret (v:= .tuple #[.agg #[.int .i64 kd2, .slice ra d.length rc, .slice qa p.length qc, .int .i64 pos,v4,v5,v6,v7, .slice s9 n9 k9, .slice s8 n8 k8, .slice xa 0 xc, .bool false, .slice g3 0 h3, .int .i64 0, .slice g4 0 h4, .int .i64 0, .bool false, .slice g1 0 h1, .int .i64 0, .slice g2 0 h2, .int .i64 0], .int .i64 0]) (by simp [results,Tryz.results125,go_sem,hlr]) rfl ?_
   have hs2:=Hs2.o
   have hle:W.heap.size <= w2.heap.size:=by omega
   have hb7:=(Hbel.o.setCell (p:=⟨w2.heap.size,1,none⟩) hle (Value.slice ra d.length rc)).setCell (p:=⟨w2.heap.size,2,none⟩) hle (Value.slice qa p.length qc)
   have hlt:¬ (W.heap.size+2 <= w2.heap.size/\w2.heap.size < w2.heap.size):=by omega
   exact⟨(hb7).grown Hg5.o (hb7).size (fun k e=>by cases e;omega),kd2,d,p,pos,_,_,_,_,_,_,_,_,_,_,_,_,_,_,_,_,_,_,_,_,_,rfl,HK2.o,Hd5.o,Hdl.o,Hpl.o,(aY (u:=Value.slice qa p.length qc) (o:=2) (aY (u:=Value.slice ra d.length rc) (o:=1) Hr.o hlt) hlt).keep Hg5.o.size (fun b hb hlt=>Hg5.o.block b hlt (fun e=>by have e:=Option.some.inj e;omega)) (fun _ _ _=>trivial),(aY (u:=Value.slice qa p.length qc) (o:=2) (aY (u:=Value.slice ra d.length rc) (o:=1) Hq.o hlt) hlt).keep Hg5.o.size (fun b hb hlt=>Hg5.o.block b hlt (fun e=>by have e:=Option.some.inj e;omega)) (fun _ _ _=>trivial),Hone5.o⟩
theorem jJ.joinL {M L:Nat} {w w':World} {v v':Value} {xs ys:List PX} {M':Nat} {u:Value} (h:jJ w M L v xs) (hr:jJ w M' L u ys) (hne:∀y∈ys,PxQ w (fun b=>L <= b/\v.ownBlock≠some b) y)
 (hg:w.grownBy w' v.ownBlock) (hown:w'.ownsRow M 36 1 v' (xs.length+ys.length) (xs.map D5 ++ ys.map D5)) (hw:v'.ownBlock=v.ownBlock∨ ∀k,v'.ownBlock=some k ->w.heap.size <= k):jJ w' M L v' (xs ++ ys):=by
 have hs:=hg.size
 have hall:∀x∈xs ++ ys,PxQ w (fun b=>L <= b/\v.ownBlock≠some b) x:=fun x hx=>by
  rcases List.mem_append.1 hx with hx | hx
  . exact h.all x hx
  . exact hne x hx
 refine⟨by rw [List.length_append,List.map_append];exact hown,fun x hx=>(hall x hx).keep hs (fun b hb hlt=>hg.block b hlt (fun e=>hb.2 e.symm)) fun b hb hlt=>⟨hb.1, ?_⟩⟩
 rcases hw with e | e
 . rw [e];exact hb.2
 . intro e2;have:=e b e2;omega
theorem f_B {P:Program} {ops:Array Oper} {rest:List Oper} {o:Oper} {a:Act} {w:World} {Q:Exit ->Act ->World ->Prop}
 (hg:o.guard=none) (s x:Operand) (ho:o.op= .call { callee:= .builtin .append,args:= #[s,x],argTypes:= #[47,47] })
 (ht:P.underlying 47=some (.slice 36)) (hi:(P.info? 36).map (fun i=>(i.zero,i.size,i.bytes))=some (some (.slice none 0 0),1,24))
 (M L:Nat) (v:Value) (xs:List PX) (hs:a.eval s=v) (hO:jJ w M L v xs) (M':Nat) (ys:List PX) (ad:Addr) (yc:Nat) (hx:a.eval x= .slice (some ad) ys.length yc) (hr:jJ w M' L (.slice (some ad) ys.length yc) ys) (hne:∀y∈ys,PxQ w (fun b=>L <= b/\v.ownBlock≠some b) y)
 (hn:xs.length+ys.length <= 100000000) (hM:M <= w.heap.size)
 (h:∀v' w',jJ w' M L v' (xs ++ ys) ->Below M w w' ->wpList P ops Q rest (a.put o.dst v') w'):wpList P ops Q (o::rest) a w:=by
 obtain⟨a',c',hv,hrow⟩:=hr.read.row
 injection hv with e1 e2 e3
 subst e1;subst e3
 refine DJ hg s x 47 ho M 36 (.slice none 0 0) 1 24 ht hi rfl (by decide) v xs.length (xs.map D5) hs hO.own ad ys.length yc w.heap.size (ys.map D5) hx hrow (by unfold maxLen;omega) (by omega) hM fun v' w' hown hgrow hwh=> ?_
 exact h v' w' (jJ.joinL hO hr hne hgrow hown hwh) ((Below.refl M w).grown hgrow hM (fun k hk=>hO.ge k hk))
theorem m_1:∀args w,(callFunc 127 args).run Tryz.prog w= .ok (.enter 127 args) w:=by intro args w;kernel_rfl
theorem h_O:∀args w,(callFunc 128 args).run Tryz.prog w= .ok (.enter 128 args) w:=by intro args w;kernel_rfl
theorem m_2:∀args w,(callFunc 130 args).run Tryz.prog w= .ok (.enter 130 args) w:=by intro args w;kernel_rfl
theorem m_3:∀args w,(callFunc 135 args).run Tryz.prog w= .ok (.enter 135 args) w:=by intro args w;kernel_rfl
theorem m_4:∀args w,(callFunc 138 args).run Tryz.prog w= .ok (.enter 138 args) w:=by intro args w;kernel_rfl
theorem m_5:∀args w,(callFunc 139 args).run Tryz.prog w= .ok (.enter 139 args) w:=by intro args w;kernel_rfl
theorem k_s (p:List Int) (N:Nat) (pa:Option Addr) (pc:Nat) (cs:List Value) (W:World) (hN:At W N cs 55) (hc:cs[1]? =some (.slice pa p.length pc)) (hp:RowA W W.heap.size 1 pa p.length pc (p.map (Value.int .i64))) (hpl:p.length <= 1000000):
 Calls Tryz.prog 127 #[.pointer (some ⟨N,0,none⟩)] W (d_A W (some p)):=by
 have HC:=a6 (qV W.heap.size p.length pa pc _ W hp (a8) (by omega))
 have c1:=hN.cell 1 hc;have cl:=hN.lt
 clear hN hp
 go_enter Tryz.func127,Tryz.ntmps127
 go_wp2_with fail
 refine HC.o.mono ?_
 rintro e w1 ⟨v,rfl,hown,hbel⟩
 have Hb:=a6 hbel;have Ho:=a6 hown
 clear hbel hown HC c1 cl
 go_wp2_with fail
 go_ret2
 exact⟨Hb.o,fun q hq=>by cases hq;exact⟨v,rfl,Ho.o⟩,fun h=>by cases h⟩
theorem n_O (p:List Int) (N:Nat) (pa:Option Addr) (pc:Nat) (cs:List Value) (W:World) (hN:At W N cs 55) (hc:cs[1]? =some (.slice pa p.length pc)) (hp:RowA W W.heap.size 1 pa p.length pc (p.map (Value.int .i64))) (hpl:p.length <= 1000000) (hne:p≠ []):
 Calls Tryz.prog 128 #[.pointer (some ⟨N,0,none⟩)] W (d_A W (some p.dropLast)):=by
 have hC:=f_a p pa pc W.heap.size W hp (a8) hpl
 rw [show E2 p=(p.dropLast,0)by unfold E2;rw [if_neg hne]]at hC
 have HC:=a6 hC
 have c1:=hN.cell 1 hc;have cl:=hN.lt
 clear hN hp hC hne
 generalize p.dropLast=q at HC⊢
 go_enter Tryz.func128,Tryz.ntmps128
 go_wp2_with fail
 refine HC.o.mono ?_
 rintro e w1 ⟨hbel,v,rfl,hown⟩
 have Hb:=a6 hbel;have Ho:=a6 hown
 clear hbel hown HC c1 cl
 go_wp2_with fail
 go_ret2
 exact⟨Hb.o,fun q hq=>by cases hq;exact⟨v,rfl,Ho.o⟩,fun h=>by cases h⟩
theorem n_Y (p:List Int) (N:Nat) (pa:Option Addr) (pc:Nat) (cs:List Value) (W:World) (hN:At W N cs 55) (hc:cs[2]? =some (.slice pa p.length pc)) (hp:RowA W W.heap.size 1 pa p.length pc (p.map (Value.int .i64))) (hpl:p.length <= 1000000) (hne:p≠ []):
 Calls Tryz.prog 138 #[.pointer (some ⟨N,0,none⟩)] W (d_A W (some p.dropLast)):=by
 have hC:=f_a p pa pc W.heap.size W hp (a8) hpl
 rw [show E2 p=(p.dropLast,0)by unfold E2;rw [if_neg hne]]at hC
 have HC:=a6 hC
 have c1:=hN.cell 2 hc;have cl:=hN.lt
 clear hN hp hC hne
 generalize p.dropLast=q at HC⊢
 go_enter Tryz.func138,Tryz.ntmps138
 go_wp2_with fail
 refine HC.o.mono ?_
 rintro e w1 ⟨hbel,v,rfl,hown⟩
 have Hb:=a6 hbel;have Ho:=a6 hown
 clear hbel hown HC c1 cl
 go_wp2_with fail
 go_ret2
 exact⟨Hb.o,fun q hq=>by cases hq;exact⟨v,rfl,Ho.o⟩,fun h=>by cases h⟩
theorem m_6 (p:List Int) (N:Nat) (pa:Option Addr) (pc:Nat) (cs:List Value) (W:World) (hN:At W N cs 55) (hc:cs[1]? =some (.slice pa p.length pc)) (hp:RowA W W.heap.size 1 pa p.length pc (p.map (Value.int .i64))) (hpl:p.length <= 1000000) (hne:p≠ []) (hw:∀z∈p, -9223372036854775807 <= z/\z <= 9223372036854775807):
 Calls Tryz.prog 130 #[.pointer (some ⟨N,0,none⟩)] W (d_A W (if 0 < iJ p then some (j5 p) else none)):=by
 have hC:=g_A p pa pc W.heap.size W hp (a8) hpl hw
 have hR:sX p (-1)=if 0 < iJ p then (j5 p,0) else ([],8):=by
  unfold sX j5
  rw [if_neg hne]
  by_cases h:0 < iJ p
  . rw [if_pos h,if_neg (by omega),Int.sub_eq_add_neg]
  . rw [if_neg h,if_pos (by omega)]
 rw [hR]at hC
 have HC:=a6 hC
 have c1:=hN.cell 1 hc;have cl:=hN.lt
 clear hN hp hC hne hR hw
 by_cases h:0 < iJ p
 . rw [if_pos h]at HC⊢
   clear h
   generalize j5 p=q at HC⊢
   go_enter Tryz.func130,Tryz.ntmps130
   go_wp2_with fail
   refine HC.o.mono ?_
   rintro e w1 ⟨hbel,v,rfl,hown⟩
   have Hb:=a6 hbel;have Ho:=a6 hown
   clear hbel hown HC c1 cl
   go_wp2_with fail
   go_ret2
   exact⟨Hb.o,fun q hq=>by cases hq;exact⟨v,rfl,Ho.o⟩,fun h=>by cases h⟩
 . rw [if_neg h]at HC⊢
   clear h
   go_enter Tryz.func130,Tryz.ntmps130
   go_wp2_with fail
   refine HC.o.mono ?_
   rintro e w1 ⟨hbel,v,rfl,hown⟩
   have Hb:=a6 hbel
   clear hbel hown HC c1 cl
   go_wp2_with fail
   go_ret2
   exact⟨Hb.o,(fun q hq=>by cases hq),fun _=>⟨v,8,rfl,by decide⟩⟩
theorem n_f (p d:List Int) (kd pos:Int) (N U:Nat) (pa ta:Option Addr) (pc tc:Nat) (v4 v5 v6 v7 v8 v9 v10 v11 v12 v13 v14 v15 v16 v17 v18 v19 v20:Value) (T:TypeId) (W:World) (hk:E3 kd) (hN:At W N [.int .i64 kd, .slice pa p.length pc, .slice ta d.length tc, .int .i64 pos,v4,v5,v6,v7,v8,v9,v10,v11,v12,v13,v14,v15,v16,v17,v18,v19,v20] 55) (hU:At W U [.func (.func 128) #[] #[.pointer (some ⟨N,0,none⟩)]] T)
 (hp:RowA W W.heap.size 1 pa p.length pc (p.map (Value.int .i64))) (hd:RowA W W.heap.size 1 ta d.length tc (d.map (Value.int .i64))) (hpl:p.length <= 400000) (hdl:d.length <= 400000) (hne:p≠ []):
 Calls Tryz.prog 139 #[.pointer (some ⟨U,0,none⟩), .pointer (some ⟨N,0,none⟩)] W (d_A W (lY kd p d pos p.dropLast)):=by
 have HC:=a6 (n_O p N pa pc _ W hN rfl hp (by omega) hne)
 have hdl2:p.dropLast.length <= 400000:=by simp;omega
 have HM:=a6 (fun(w1:World) (hb:Below W.heap.size W w1) (va:Option Addr) (vc:Nat) (hv:RowA w1 w1.heap.size 1 va p.dropLast.length vc (p.dropLast.map (Value.int .i64)))=>h_N p.dropLast p d kd pos va pa ta vc pc tc v4 v5 v6 v7 v8 v9 v10 v11 v12 v13 v14 v15 v16 v17 v18 v19 v20 w1 hk hv (hp.keep hb hb.size) (hd.keep hb hb.size) hdl2 hpl hdl hne)
 have HN:=a6 hN
 have u0:=hU.cell 0 rfl;have ul:=hU.lt
 generalize p.dropLast=q at HC HM hdl2⊢
 clear hN hp hd hU hne
 have he:=h_O
 obtain⟨R,hR⟩:∃R,R=lY kd p d pos q:=⟨_,rfl⟩
 simp only [<- hR]at HM⊢
 clear hR
 go_enter Tryz.func139,Tryz.ntmps139
 go_wp2_with fail
 refine HC.o.mono ?_
 rintro e w1 ⟨hbel,hyes, -⟩
 obtain⟨v,rfl,hown⟩:=hyes q rfl
 obtain⟨va,vc,rfl,hq⟩:=cK hown (by intro u hu;obtain⟨z, -,rfl⟩:=List.mem_map.1 hu;rfl)
 have Hb1:=a6 hbel
 have HM1:=a6 (HM.o w1 hbel va vc hq)
 have HN1:=a6 (HN.o.kept hbel)
 clear hbel hyes hown hq HC HM u0 ul
 go_wp2_with (refine dK rfl _ _ rfl N #[.int .i64 kd, .slice pa p.length pc, .slice ta d.length tc, .int .i64 pos,v4,v5,v6,v7,v8,v9,v10,v11,v12,v13,v14,v15,v16,v17,v18,v19,v20] rfl HN1.o _ Tryz.underlying55 rfl (by kernel_rfl) ?_)
 refine HM1.o.mono ?_
 rintro e w2 ⟨hbel,hno,hyes⟩
 have Hb2:=a6 (b5 Hb1.o hbel)
 have Hs1:=a6 Hb1.o.size
 clear hbel HM1 HN1
 cases R with
 | none=>
   obtain rfl:=hno rfl
   clear hno hyes
   go_wp2_with fail
   go_ret2
   exact⟨Hb2.o,(fun q hq=>by cases hq),fun _=>⟨_,5,rfl,by decide⟩⟩
 | some ys=>
   obtain⟨v,rfl,ho⟩:=hyes ys rfl
   have Ho:=a6 (nK ho Hs1.o)
   clear hno hyes ho
   go_wp2_with fail
   go_ret2
   exact⟨Hb2.o,fun q hq=>by cases hq;exact⟨v,rfl,Ho.o⟩,fun h=>by cases h⟩
theorem e_n {p:List Int} {N:Nat} {pa:Option Addr} {pc:Nat} {cs:List Value} {W:World} (hN:At W N cs 55) (hc:cs[1]? =some (.slice pa p.length pc)) (hp:RowA W W.heap.size 1 pa p.length pc (p.map (Value.int .i64))) (hpl:p.length <= 1000000):
 IQ W (some p) (.func (.func 127) #[] #[.pointer (some ⟨N,0,none⟩)]):=⟨_,_,rfl,m_1,fun w' hb=>k_s p N pa pc cs w' (hN.kept hb) hc (hp.keep hb hb.size) hpl⟩
theorem c_x {p:List Int} {N:Nat} {pa:Option Addr} {pc:Nat} {cs:List Value} {W:World} (hN:At W N cs 55) (hc:cs[1]? =some (.slice pa p.length pc)) (hp:RowA W W.heap.size 1 pa p.length pc (p.map (Value.int .i64))) (hpl:p.length <= 1000000) (hne:p≠ []):
 IQ W (some p.dropLast) (.func (.func 128) #[] #[.pointer (some ⟨N,0,none⟩)]):=⟨_,_,rfl,h_O,fun w' hb=>n_O p N pa pc cs w' (hN.kept hb) hc (hp.keep hb hb.size) hpl hne⟩
theorem k_t {p:List Int} {N:Nat} {pa:Option Addr} {pc:Nat} {cs:List Value} {W:World} (hN:At W N cs 55) (hc:cs[2]? =some (.slice pa p.length pc)) (hp:RowA W W.heap.size 1 pa p.length pc (p.map (Value.int .i64))) (hpl:p.length <= 1000000) (hne:p≠ []):
 IQ W (some p.dropLast) (.func (.func 138) #[] #[.pointer (some ⟨N,0,none⟩)]):=⟨_,_,rfl,m_4,fun w' hb=>n_Y p N pa pc cs w' (hN.kept hb) hc (hp.keep hb hb.size) hpl hne⟩
theorem g_R {p:List Int} {N:Nat} {pa:Option Addr} {pc:Nat} {cs:List Value} {W:World} (hN:At W N cs 55) (hc:cs[1]? =some (.slice pa p.length pc)) (hp:RowA W W.heap.size 1 pa p.length pc (p.map (Value.int .i64))) (hpl:p.length <= 1000000) (hne:p≠ []) (hw:∀z∈p, -9223372036854775807 <= z/\z <= 9223372036854775807):
 IQ W (if 0 < iJ p then some (j5 p) else none) (.func (.func 130) #[] #[.pointer (some ⟨N,0,none⟩)]):=⟨_,_,rfl,m_2,fun w' hb=>m_6 p N pa pc cs w' (hN.kept hb) hc (hp.keep hb hb.size) hpl hne hw⟩
theorem i_D (w:World) (x y:Value) (T:TypeId) (hx:x.oneCell'=true) (hy:y.oneCell'=true):RowA (w.alloc (.cells #[x,y] T)) (w.alloc (.cells #[x,y] T)).heap.size 1 (some ⟨w.heap.size,0,none⟩) 2 2 [x,y]:=
 RowQ.row (ok:=fun _=>True) (wZ (T:=T) (At.fresh w [x,y] T) 2 1 rfl (by omega) (by intro u hu;simp at hu;rcases hu with rfl | rfl <;> assumption) trivial)
theorem IQ.keep {W w:World} {r:Option (List Int)} {f:Value} (h:IQ W r f) (hb:Below W.heap.size W w):IQ w r f:=by
 obtain⟨l,caps,rfl,he,hC⟩:=h
 exact⟨l,caps,rfl,he,fun w' hb'=>hC w' (b5 hb hb')⟩
theorem m_7 (f:Value) (r:Option (List Int)) (T:TypeId) (w:World) (h1:f.oneCell'=true) (hf:IQ w r f):Calls Tryz.prog 137 #[.slice (some ⟨w.heap.size,0,none⟩) 1 1] (w.alloc (.cells #[f] T)) (LK w r.toList):=by
 have hb:=aX w (.cells #[f] T)
 have h:=k_l [f] [r] (some ⟨w.heap.size,0,none⟩) 1 (w.alloc (.cells #[f] T)) (BJ w f T _ h1 (by simp)) rfl (by simp) (fun k hk=>by
  obtain rfl:k=0:=by simp at hk;omega
  exact hf.keep hb)
 refine h.mono ?_
 rintro e w' ⟨v,xs,rfl,hx,hp,hbel⟩
 exact⟨v,xs,rfl,hx.from hb.size hb.size,by rw [hp];cases r <;> rfl,b5 hb hbel⟩
theorem e_o (f g:Value) (r q:Option (List Int)) (T:TypeId) (w:World) (h1:f.oneCell'=true) (h2:g.oneCell'=true) (hf:IQ w r f) (hg:IQ w q g):Calls Tryz.prog 137 #[.slice (some ⟨w.heap.size,0,none⟩) 2 2] (w.alloc (.cells #[f,g] T)) (LK w (r.toList ++ q.toList)):=by
 have hb:=aX w (.cells #[f,g] T)
 have h:=k_l [f,g] [r,q] (some ⟨w.heap.size,0,none⟩) 2 (w.alloc (.cells #[f,g] T)) (i_D w f g T h1 h2) rfl (by simp) (fun k hk=>by
  obtain rfl | rfl:k=0∨k=1:=by simp at hk;omega
  . exact hf.keep hb
  . exact hg.keep hb)
 refine h.mono ?_
 rintro e w' ⟨v,xs,rfl,hx,hp,hbel⟩
 exact⟨v,xs,rfl,hx.from hb.size hb.size,by rw [hp];cases r <;> cases q <;> rfl,b5 hb hbel⟩
end Go.Proofs.YtmadpclcmjahoaaGreatDoor

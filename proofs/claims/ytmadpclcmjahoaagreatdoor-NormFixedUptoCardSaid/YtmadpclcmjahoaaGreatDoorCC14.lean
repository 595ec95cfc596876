/- Parts of the proof: CC14. -/
import Derived.Test.YtmadpclcmjahoaaGreatDoorCC13
import Derived.Lib.ConvBytes
set_option linter.unusedVariables false
set_option linter.unusedSimpArgs false
set_option maxHeartbeats 8000000
set_option maxRecDepth 100000
namespace Go.Proofs.YtmadpclcmjahoaaGreatDoor
open Go.RowKit Go.Redl
theorem A8 (w:World):bY w w cV (.agg #[false,(),(),()]):=
 ⟨_,rfl,NodeQ.node (ok:=fun _=>True) cV _ (by
  unfold cV NodeQ;exact⟨none,0,none,0,none,0, [],rfl,RowQ.empty _ _ _,RowQ.empty _ _ _,P6,RowQ.empty _ _ _,by unfold dK;rfl⟩)⟩
theorem o_k:(Tryz.prog.info? 5).map (fun i=>(i.zero,i.size,i.bytes))=some (some (.int .u8 0),1,1):=P3
def onB (L:List (UInt8×Bool)):List UInt8:=(L.filter (·.2)).map (·.1)
theorem o_l {L:List (UInt8×Bool)} {j:Nat} (h:j < L.length):onB (L.take (j+1))=if L[j].2 then onB (L.take j) ++ [L[j].1] else onB (L.take j):=by
 unfold onB;rw [O1 h,List.filter_append,List.map_append];cases hb:L[j].2 <;> simp [hb]
def EJ (p d:List Int) (pos:Int) (nd:aX) (ol:List fQ):List (UInt8×Bool):=
 [(112,decide (0 < p.length)),(116,decide (0 < d.length)),(97,pos != 0),(110, !rK nd cV),(111,decide (0 < ol.length)),(119,false),(120,false),(115,false),(115,false)]
theorem r_T (p d:List Int) (kd pos:Int) (nd:aX) (ol:List fQ) (pa ta oa:Option Addr) (pc tc oc:Nat) (l0:Bool) (a1 a2 a3:Option Addr) (m1 m2 m3 c1 c2 c3:Nat) (W:World) (X:nd.wt <= 100000000) (hn:bY W W nd (.agg #[l0,(a1,m1,c1),(a2,m2,c2),(a3,m3,c3)])) (T:p≠ []):
 Calls Tryz.prog 176 #[.agg #[kd,(pa,p.length,pc),(ta,d.length,tc),pos,l0,(a1,m1,c1),(a2,m2,c2),(a3,m3,c3),(oa,ol.length,oc),(),(),false,(),OY,(),OY,false,(),OY,(),OY]] W (fun e w'=>e= .returned (.string ⟨(onB (EJ p d pos nd ol)).toArray⟩)/\Below W W w'):=by
 obtain⟨w0,B⟩:∃w0,w0=W.alloc (Obj.cells #[kd,(pa,p.length,pc),(ta,d.length,tc),pos,l0,(a1,m1,c1),(a2,m2,c2),(a3,m3,c3),(oa,ol.length,oc),(),(),false,(),OY,(),OY,false,(),OY,(),OY] 55):=⟨_,rfl⟩;have o:Below W W w0:=by rw [B];exact b7 _ _
 have hA:At w0 W [kd,(pa,p.length,pc),(ta,d.length,tc),pos,l0,(a1,m1,c1),(a2,m2,c2),(a3,m3,c3),(oa,ol.length,oc),(),(),false,(),OY,(),OY,false,(),OY,(),OY] 55:=by rw [B];exact At.fresh W _ _
 have O:=a6 (fun(w':World) (hb:Below w0 w0 w')=>(show w'.cell? W=some (.int .i64 kd)/\w'.cell? (P0 W 1)=some (.slice pa p.length pc)/\w'.cell? (P0 W 2)=some (.slice ta d.length tc)/\w'.cell? (P0 W 3)=some (.int .i64 pos)/\w'.cell? (P0 W 4)=some (.bool l0)/\w'.cell? (P0 W 5)=some (.slice a1 m1 c1)/\w'.cell? (P0 W 6)=some (.slice a2 m2 c2)/\w'.cell? (P0 W 7)=some (.slice a3 m3 c3)/\w'.cell? (P0 W 8)=some (.slice oa ol.length oc)/\w'.cell? (P0 W 9)=some (.slice none 0 0)/\w'.cell? (P0 W 10)=some (.slice none 0 0)/\w'.cell? (P0 W 11)=some (.bool false)/\w'.cell? (P0 W 12)=some (.slice none 0 0)/\w'.cell? (P0 W 13)=some (.int .i64 0)/\w'.cell? (P0 W 14)=some (.slice none 0 0)/\w'.cell? (P0 W 15)=some (.int .i64 0)/\w'.cell? (P0 W 16)=some (.bool false)/\w'.cell? (P0 W 17)=some (.slice none 0 0)/\w'.cell? (P0 W 18)=some (.int .i64 0)/\w'.cell? (P0 W 19)=some (.slice none 0 0)/\w'.cell? (P0 W 20)=some (.int .i64 0)from by have h:=hA.kept hb;exact⟨h.cell 0 rfl,h.cell 1 rfl,h.cell 2 rfl,h.cell 3 rfl,h.cell 4 rfl,h.cell 5 rfl,h.cell 6 rfl,h.cell 7 rfl,h.cell 8 rfl,h.cell 9 rfl,h.cell 10 rfl,h.cell 11 rfl,h.cell 12 rfl,h.cell 13 rfl,h.cell 14 rfl,h.cell 15 rfl,h.cell 16 rfl,h.cell 17 rfl,h.cell 18 rfl,h.cell 19 rfl,h.cell 20 rfl⟩));have HN:=a6 (fun(w':World) (hb:Below w0 w0 w')=>d_Z nd.wt nd cV (.agg #[l0,(a1,m1,c1),(a2,m2,c2),(a3,m3,c3)]) (.agg #[false,(),(),()]) w' (a8) (by obtain⟨cs,he,hc⟩:=hn;exact⟨cs,he,dY.keep (o.trans (hb.mono o.size)) (o.trans (hb.mono o.size)).size _ _ hc⟩) (A8 w'));have HZ:=a6 (fun(w':World)=>j_H w');obtain⟨sn,H⟩:∃sn,sn=rK nd cV:=⟨_,rfl⟩;rw [<- H]at HN;have HL:Hid (EJ p d pos nd ol= [(112,decide (0 < p.length)),(116,decide (0 < d.length)),(97,pos != 0),(110, !sn),(111,decide (0 < ol.length)),(119,false),(120,false),(115,false),(115,false)]):=a6 (by unfold EJ;rw [H])
 have D:onB (EJ p d pos nd ol)≠ []:=by
  unfold onB EJ;have:decide (0 < p.length)=true:=by simpa using List.length_pos_iff.2 T
  simp [this]
 have E:=a6 D;generalize EJ p d pos nd ol=L at HL E⊢;have Q:L.length=9:=by rw [HL.o];rfl
 have I:=a6 o;have R:=a6 B
 clear hn hA o B H D;go_enter Tryz.func176,Tryz.ntmps176;go_upto_region 2 with fail;rw [<- R.o];clear R;go_cut [53,54,55] (fun s n i wx=>n= .int .i64 9/\i= .int .i64 0/\∃b,s= .slice (some ⟨b,0,none⟩) 9 9/\b < wx.heap.size/\(∀ (j:Nat) (h:j < L.length),wx.cell? ⟨b,j * 2,none⟩=some (.int .u8 L[j].1.toNat)/\wx.cell? ⟨b,j * 2+1,none⟩=some (.bool L[j].2))/\Below W W wx)
 case first=>
  go_region_held3 (fun w'=>w'.cell? W=some (.int .i64 kd)/\w'.cell? (P0 W 1)=some (.slice pa p.length pc)/\w'.cell? (P0 W 2)=some (.slice ta d.length tc)/\w'.cell? (P0 W 3)=some (.int .i64 pos)/\w'.cell? (P0 W 4)=some (.bool l0)/\w'.cell? (P0 W 5)=some (.slice a1 m1 c1)/\w'.cell? (P0 W 6)=some (.slice a2 m2 c2)/\w'.cell? (P0 W 7)=some (.slice a3 m3 c3)/\w'.cell? (P0 W 8)=some (.slice oa ol.length oc)/\w'.cell? (P0 W 9)=some (.slice none 0 0)/\w'.cell? (P0 W 10)=some (.slice none 0 0)/\w'.cell? (P0 W 11)=some (.bool false)/\w'.cell? (P0 W 12)=some (.slice none 0 0)/\w'.cell? (P0 W 13)=some (.int .i64 0)/\w'.cell? (P0 W 14)=some (.slice none 0 0)/\w'.cell? (P0 W 15)=some (.int .i64 0)/\w'.cell? (P0 W 16)=some (.bool false)/\w'.cell? (P0 W 17)=some (.slice none 0 0)/\w'.cell? (P0 W 18)=some (.int .i64 0)/\w'.cell? (P0 W 19)=some (.slice none 0 0)/\w'.cell? (P0 W 20)=some (.int .i64 0)) (refine O.o _ (by(with_reducible (repeat (first | exact r.o | exact q.o | exact C.o | exact a7 | refine aK ?_ | refine aQ ?_ ?_ _ | refine aV ?_ ?_ _)) <;> (first | exact a8 | exact r.o.size | exact q.o.size | exact C.o.size | (have:=r.o.size;simp [World.setCell];omega) | (have:=q.o.size;simp [World.setCell];omega) | (have:=C.o.size;simp [World.setCell];omega) | (simp <;> omega) | omega))))
   (first
   | (refine bQ rfl 25 _ _ rfl P5 [.agg #[l0,(a1,m1,c1),(a2,m2,c2),(a3,m3,c3)], .agg #[false,(),(),()]] ?_ _ (HN.o _ P1) ?_
      . go_simp
      rintro e w1 ⟨rfl,a⟩;refine⟨_,rfl, ?_⟩;have C:=a6 (Below.and (w0:=w0) P1 a);clear a)
   | (refine bQ rfl 63 _ _ rfl P5 [K9,K9] ?_ _ (HZ.o w1) ?_
      . go_simp
      rintro e w2 ⟨rfl,a⟩;refine⟨_,rfl, ?_⟩;have q:=a6 (Below.and (w0:=w0) C.o a);clear a)
   | (refine bQ rfl 63 _ _ rfl P5 [K9,K9] ?_ _ (HZ.o _) ?_
      . go_simp
      rintro e w3 ⟨rfl,a⟩;refine⟨_,rfl, ?_⟩;have r:=a6 (Below.and (w0:=w0) q.o a);clear a))
  all_goals
   go_wp2_with fail
   go_meet
   case rel=>
    refine⟨rfl,rfl,w3.heap.size,rfl,by simp, ?_,(I.o.trans (r.o.mono I.o.size)).trans ((b7 w3 _).mono ?_)⟩
    . have h:=At.fresh w3 [.int .u8 112,(decide (0 < p.length)), .int .u8 116,(decide (0 < d.length)), .int .u8 97,(pos != 0), .int .u8 110,(!sn), .int .u8 111,(decide (0 < ol.length)), .int .u8 119,false, .int .u8 120,false, .int .u8 115,false, .int .u8 115,false] 259
      have U:=HL.o;clear HL;subst U;intro j hj;have:j=0∨j=1∨j=2∨j=3∨j=4∨j=5∨j=6∨j=7∨j=8:=YK
      rcases this with rfl | rfl | rfl | rfl | rfl | rfl | rfl | rfl | rfl
      . exact⟨h.cell 0 rfl,h.cell 1 rfl⟩
      . exact⟨h.cell 2 rfl,h.cell 3 rfl⟩
      . exact⟨h.cell 4 rfl,h.cell 5 rfl⟩
      . exact⟨h.cell 6 rfl,h.cell 7 rfl⟩
      . exact⟨h.cell 8 rfl,h.cell 9 rfl⟩
      . exact⟨h.cell 10 rfl,h.cell 11 rfl⟩
      . exact⟨h.cell 12 rfl,h.cell 13 rfl⟩
      . exact⟨h.cell 14 rfl,h.cell 15 rfl⟩
      exact⟨h.cell 16 rfl,h.cell 17 rfl⟩
    exact aJ I.o.size r.o.size
 case rest=>
  obtain⟨rfl,rfl,b,rfl,hb,t,a⟩:=hcut;have J:=a6 t;have F:=a6 a;have K:=a6 hb;have M:=a6 Q
  clear t a O HN HZ HL hb Q;go_wp2_with fail
  go_loopg [55,3,5] 9 (fun g i v _ wr=>∃j:Nat,i= .int .i64 j/\j+g=9/\wr.ownsRow wc 5 1 v (onB (L.take j)).length ((onB (L.take j)).map fun c=>Value.int .u8 c.toNat)/\Below wc wc wr)
  case atStart=>exact⟨0,rfl,rfl,World.ownsRow_nil _ _ _ _,a7⟩
  case round=>
   obtain⟨j,rfl,hg,f,l⟩:=hrel
   by_cases Z:j < 9
   . have Y:(j:Int) < 9:=P2
     have S:j < L.length:=by have:=M.o;omega
     obtain⟨h0,h1⟩:=J.o j S;have g0:=(l.cell (p:=(b,j * 2)) K.o).trans h0;have g1:=(l.cell (p:=(b,j * 2+1)) K.o).trans h1;have hT:=o_l S;have H0:b < wr.heap.size:=Nat.lt_of_lt_of_le K.o l.size;generalize L[j].1=c at g0 hT h0;generalize L[j].2=bb at g1 hT h1;have HT:=a6 hT;have x:=a6 f;have m:=a6 l
     clear hT f l h0 h1;cases bb with
     | false=>
       go_wp2_with fail
       go_roundg (9 - (j+1))
       case measure=>omega
       case rel=>
        have h:=HT.o;rw [if_neg P9]at h;exact⟨j+1,by go_num,by omega,by rw [h];exact kQ x.o (b7 _ _),m.o.trans ((b7 _ _).mono m.o.size)⟩
     | true=>
       have H1:(onB (L.take j)).length <= 9:=by
        unfold onB;rw [O6];have h2:=M.o
        exact aJ (List.length_filter_le _ _) s_Y
       go_wp2_with ((at_builtin;refine u_9 rfl _ _ 206 rfl wc.heap.size 5 (.int .u8 0) 1 1 Tryz.underlying206 o_k rfl P9 _ _ _ rfl (kQ (kQ x.o (b7 _ _)) (b7 _ _)) _ 1 1 (wr+2) [.int .u8 c.toNat] rfl ?hr ?h63 ?hb ?hbase ?_))
       case hr=>
        have hsz:(wr.alloc (Obj.cells #[.int .u8 c.toNat,true] 259)).heap.size=wr.heap.size+1:=P6
        have h:=B6 (wr.alloc (Obj.cells #[.int .u8 c.toNat,true] 259)) (.int .u8 c.toNat) 5 (wr+2) rfl (by rw [hsz];omega);rw [hsz]at h;exact h
       case h63=>unfold maxLen;omega
       case hb=>omega
       case hbase=>have:=m.o.size;simp;omega
       intro v' w2 y A;have N:=a6 y
       have q:=a6 (show Below wc wr w2 from(((Below.refl wc wr).alloc m.o.size _).alloc (aJ m.o.size P6) _).grown A (by have:=m.o.size;simp;omega) (fun k hk=>(x.o.lt k hk).1));clear y A;go_wp2_with fail
       go_roundg (9 - (j+1))
       case measure=>omega
       case rel=>
        have h:=HT.o;rw [if_pos trivial]at h;refine⟨j+1,by go_num,by omega, ?_,m.o.trans q.o⟩;rw [h,NZ,List.map_append];exact N.o
   obtain rfl:j=9:=P2
   have ht:L.take 9=L:=List.take_of_length_le (by have:=M.o;omega);rw [ht]at f;have G:((onB L).map fun c=>Value.int .u8 c.toNat)≠ []:=fun e=>E.o (List.map_eq_nil_iff.1 e)
   obtain⟨va,vc,rfl, -⟩:=eK f PJ;obtain⟨g1,rfl, -⟩:=JZ f G;have H2:=g_v (P:=Tryz.prog) (w:=wr) (src:=206) (dst:=9) Tryz.underlying206 Tryz.underlying5 Tryz.underlying9 g1 0 (onB L).length vc (onB L) rfl (fun k hk=>by
    rw [O5];refine G4 f k _ ?_;rw [List.getElem?_map,NV hk,List.getD_eq_getElem?_getD,NV hk];rfl)
   have m:=a6 l;have V:=a6 (F.o.trans (l.mono F.o.size));clear f G l ht;go_wp2_with fail;go_ret;exact⟨rfl,V.o⟩
theorem d_b (s:List UInt8) (w:World):∃cap wb,(convert 9 206 (.string ⟨s.toArray⟩)).run Tryz.prog w= .ok (.slice w s.length cap) wb/\Below w w wb/\w.heap.size < wb.heap.size/\
 ∀j,j < s.length ->wb.cell? ⟨w,j,none⟩=some (.int .u8 (s.getD j 0).toNat):=by
 refine⟨_,_,Lib.run_convert_string_bytes w 9 206 5 ⟨s.toArray⟩ Tryz.underlying9 Tryz.underlying206 Tryz.underlying5, ?_, ?_,fun j hj=> ?_⟩
 . exact⟨rfl,rfl,rfl,by rw [Lib.bytesWorld_size];omega,fun k hk=>Lib.bytesWorld_at_old w _ _ k hk⟩
 . rw [Lib.bytesWorld_size];omega
 have:=Lib.bytesWorld_cell w 5 ⟨s.toArray⟩ j hj
 simpa using this
theorem o_m (L:List UInt8) (c:UInt8) (b cap:Nat) (W:World) (hc:∀j,j < L.length ->W.cell? ⟨b,j,none⟩=some (.int .u8 (L.getD j 0).toNat)) (hn:L.length <= 1000):
 Calls Tryz.prog 233 #[(b,L.length,cap), .int .u8 c.toNat] W (fun e w'=>(∃z:Int,e= .returned z/\decide (0 <= z)=decide (c∈L))/\w'=W):=by
 have Hc:=a6 hc;clear hc;go_enter Tryz.func233,Tryz.ntmps233;go_wp2_with fail
 go_loopg [8,5] L.length (fun g i _ wr=>∃j:Nat,i= .int .i64 j/\j+g=L.length/\Hid (∀k,k < j ->L.getD k 0≠c)/\wr=W)
 case atStart=>exact⟨0,rfl,by omega,a6 (fun k hk=>by omega),rfl⟩
 case round=>
  obtain⟨j,rfl,hg,Hk,rfl⟩:=hrel
  by_cases d:j < L.length
  . have l:(j:Int) < L.length:=P2
    have x0:=Hc.o j d;have a:L.getD j 0∈L:=by rw [List.getD_eq_getElem?_getD,NV d];exact NY d
    have f:Hid (L.getD j 0=L.getD j 0):=a6 rfl;generalize hy:L.getD j 0=y at x0 a;have Hy:=a6 hy;clear hy f;by_cases he:y=c
    . have hb:((c.toNat:Int) == (y.toNat:Int))=true:=by rw [he];simp
      have Hm:=a6 (show c∈L by rw [<- he];exact a);clear he a;go_wp2_with fail;go_ret;exact⟨⟨j,rfl,by rw [decide_eq_true Hm.o];simp⟩,rfl⟩
    have hb:((c.toNat:Int) == (y.toNat:Int))=false:=by
     rw [beq_eq_false_iff_ne];intro e;exact he (UInt8.toNat_inj.1 P2)
    have He:=a6 he;clear he a;go_wp2_with fail
    go_roundg (L.length - (j+1))
    case measure=>omega
    case rel=>exact⟨j+1,by go_num,by omega,a6 (fun k hk=>by
     rcases Nat.lt_or_ge k j with h | h
     . exact Hk.o k h
     obtain rfl:k=j:=P2
     exact fun e=>He.o (Hy.o.symm.trans e)),rfl⟩
  obtain rfl:j=L.length:=P2
  have Hm:=a6 (show c ∉ L from fun h=>by
   obtain⟨k,hk,e⟩:=List.mem_iff_getElem.1 h;exact Hk.o k hk (by rw [List.getD_eq_getElem?_getD,NV hk];exact e))
  go_wp2_with fail;go_ret;exact⟨⟨-1,rfl,by rw [O3 Hm.o];rfl⟩,rfl⟩
theorem q_s (L:List UInt8) (c:UInt8) (b cap:Nat) (W:World) (hc:∀j,j < L.length ->W.cell? ⟨b,j,none⟩=some (.int .u8 (L.getD j 0).toNat)) (hn:L.length <= 1000):
 Calls Tryz.prog 177 #[(b,L.length,cap), .int .u8 c.toNat] W (fun e w'=>e= .returned (decide (c∈L))/\w'=W):=by
 have HI:=a6 (o_m L c b cap W hc hn);generalize decide (c∈L)=r at HI⊢;clear hc;go_enter Tryz.func177,Tryz.ntmps177;go_wp2_with fail;refine HI.o.mono ?_;rintro e w1 ⟨⟨z,rfl,hz⟩,rfl⟩;have Hz:=a6 hz
 clear HI hz;go_wp2_with fail;go_ret;exact⟨bJ Hz.o,rfl⟩
abbrev c_E:List (Int×Value):= [(1, .string ⟨#[112,110]⟩),(2, .string ⟨#[112,110]⟩),(3, .string ⟨#[112,97,111]⟩),(4, .string ⟨#[112,97,119]⟩),(5, .string ⟨#[112,116]⟩),(6, .string ⟨#[112,111,119]⟩),(7, .string ⟨#[112,97,120]⟩),(8, .string ⟨#[112,97,120]⟩),(9, .string ⟨#[115]⟩)]
theorem l_5 (p d:List Int) (kd pos:Int) (nd:aX) (ol:List fQ) (pa ta oa:Option Addr) (pc tc oc:Nat) (l0:Bool) (a1 a2 a3:Option Addr) (m1 m2 m3 c1 c2 c3:Nat) (W:World) (x:nd.wt <= 100000000) (hn:bY W W nd (.agg #[l0,(a1,m1,c1),(a2,m2,c2),(a3,m3,c3)])) (z:p≠ [])
 (fs:List UInt8) (A:a_d c_E kd (.string ⟨#[]⟩)=(.string ⟨fs.toArray⟩,true)) (Q:fs.length <= 1000) (s:∀c∈onB (EJ p d pos nd ol),c∈fs):
 Calls Tryz.prog 116 #[.agg #[kd,(pa,p.length,pc),(ta,d.length,tc),pos,l0,(a1,m1,c1),(a2,m2,c2),(a3,m3,c3),(oa,ol.length,oc),(),(),false,(),OY,(),OY,false,(),OY,(),OY]] W (fun e w'=>e= .returned OY/\Below W W w'):=by
 obtain⟨w0,q⟩:∃w0,w0=W.alloc (Obj.cells #[kd,(pa,p.length,pc),(ta,d.length,tc),pos,l0,(a1,m1,c1),(a2,m2,c2),(a3,m3,c3),(oa,ol.length,oc),(),(),false,(),OY,(),OY,false,(),OY,(),OY] 55):=⟨_,rfl⟩;have m:Below W W w0:=by rw [q];exact b7 _ _
 have hA:At w0 W [kd,(pa,p.length,pc),(ta,d.length,tc),pos,l0,(a1,m1,c1),(a2,m2,c2),(a3,m3,c3),(oa,ol.length,oc),(),(),false,(),OY,(),OY,false,(),OY,(),OY] 55:=by rw [q];exact At.fresh W _ _
 have R:=a6 (fun(w':World) (hb:Below w0 w0 w')=>(hA.kept hb).cell 0 rfl);have HA:=a6 hA;have HB:=a6 (fun(w':World) (hb:Below w0 w0 w')=>r_T p d kd pos nd ol pa ta oa pc tc oc l0 a1 a2 a3 m1 m2 m3 c1 c2 c3 w' x (by obtain⟨cs,he,hc⟩:=hn;exact⟨cs,he,dY.keep (m.trans (hb.mono m.size)) (m.trans (hb.mono m.size)).size _ _ hc⟩) z);have S:(onB (EJ p d pos nd ol)).length <= 9:=by
  unfold onB;rw [O6];exact aJ (List.length_filter_le _ _) (by unfold EJ;simp)
 have t:=a6 s;generalize onB (EJ p d pos nd ol)=L at HB t S;have B:∀w,(zeroValue 9).run Tryz.prog w= .ok (.string ⟨#[]⟩) w:=XX
 have C:=a6 (fun(w:World) (b:Nat) (hm:yZ w b c_E)=>l_4 (P:=Tryz.prog) (K:=3) hm Tryz.underlying204 Tryz.underlying3 (.string ⟨#[]⟩) B kd P9);rw [A]at C;have r:=a6 m;have D:=a6 q
 clear hn hA m q B A s z;go_enter Tryz.func116,Tryz.ntmps116;go_upto_region 1 with fail;rw [<- D.o];clear D;go_cut [3,4] (fun f b wx=>f= .string ⟨fs.toArray⟩/\b= .bool true/\Below w0 w0 wx)
 case first=>
  go_region_held3 (fun w'=>w'.cell? W=some (.int .i64 kd)) (refine R.o _ (by(with_reducible (repeat (first | exact a.o | exact a7 | refine aK ?_ | refine aQ ?_ ?_ _ | refine aV ?_ ?_ _)) <;> (first | exact a8 | exact a.o.size | (have:=a.o.size;simp [World.setCell];omega) | (simp <;> omega) | omega))))
   (first
   | (refine bQ rfl 175 _ _ rfl P5 [] ?_ _ (s_w _) ?_
      . go_simp
      rintro e w1 ⟨rfl,hm,h⟩;refine⟨_,rfl, ?_⟩;have ha:(Instr.lookup 204 (.map (some w0.heap.size)) kd true).run Tryz.prog w1= .ok (.tuple #[.string ⟨fs.toArray⟩,true]) w1:=C.o _ _ hm;have a:=a6 (Below.and (w0:=w0) P1 h);clear h hm))
  all_goals
   go_wp2_with fail
   go_meet
   case rel=>exact⟨rfl,rfl,a.o⟩
 case rest=>
  obtain⟨rfl,rfl,E⟩:=hcut;have a:=a6 E;clear E;go_upto_region 4 with fail
  have hA1:=HA.o.kept a.o;have F:=At.load (P:=Tryz.prog) hA1 Tryz.underlying55 rfl P3
  simp [go_sem]at F
  have G:=a6 (HB.o _ a.o);clear hA1;go_wp2_with fail;refine G.o.mono ?_;rintro e w2 ⟨rfl,h⟩;obtain⟨cap,wb,T,H,I,n⟩:=d_b L w2;have J:=a6 (((r.o.trans (a.o.mono r.o.size)).trans (h.mono (aJ r.o.size a.o.size))).trans (H.mono (aJ (aJ r.o.size a.o.size) h.size)));have v:=a6 n;have M:=a6 I
  clear G h H n I F;go_wp2_with fail;clear T;go_loopg [20,6] L.length (fun g i _ wr=>∃j:Nat,i= .int .i64 j/\j+g=L.length/\Below wb wb wr)
  case atStart=>exact⟨0,rfl,by omega,a7⟩
  case round=>
   obtain⟨j,rfl,hg,k⟩:=hrel
   by_cases hj:j < L.length
   . have X:(j:Int) < L.length:=P2
     have x0:=(k.cell (p:=(w2,j)) M.o).trans (v.o j hj);have o:L.getD j 0∈L:=by rw [List.getD_eq_getElem?_getD,NV hj];exact NY hj
     generalize L.getD j 0=y at x0 o;have hf:=t.o y o;have Y:w2.heap.size < wr.heap.size:=Nat.lt_of_lt_of_le M.o k.size;obtain⟨cap2,wb2,N,u,O,l⟩:=d_b fs wr;have HC:=a6 (q_s fs y wr cap2 wb2 l Q);rw [decide_eq_true hf]at HC;have U:=a6 (k.trans (u.mono k.size))
     clear o hf u O l k;go_wp2_with fail;refine HC.o.mono ?_;rintro e w5 ⟨rfl,rfl⟩;clear HC N;go_wp2_with fail
     go_roundg (L.length - (j+1))
     case measure=>omega
     case rel=>exact⟨j+1,by go_num,by omega,U.o⟩
   obtain rfl:j=L.length:=P2
   have V:=a6 (J.o.trans (k.mono J.o.size));clear k;go_wp2_with fail;go_ret;exact⟨rfl,V.o⟩
theorem r_U (n:aX) (p d:List Int) (kd pos:Int) (nd:aX) (ol:List fQ) (b1 b2 b3:Option Addr) (o1 o2 o3 d1 d2 d3:Nat) (pa ta oa:Option Addr) (pc tc oc:Nat) (l0:Bool) (a1 a2 a3:Option Addr) (m1 m2 m3 c1 c2 c3:Nat) (W:World)
 (w:n.wt <= 1048576) (hv:bY W W n (.agg #[false,(b1,o1,d1),(b2,o2,d2),(b3,o3,d3)])) (hE:dQ n=0)
 (j:nd.wt <= 100000000) (hn:bY W W nd (.agg #[l0,(a1,m1,c1),(a2,m2,c2),(a3,m3,c3)])) (k:p≠ [])
 (fs:List UInt8) (l:a_d c_E kd (.string ⟨#[]⟩)=(.string ⟨fs.toArray⟩,true)) (x:fs.length <= 1000) (h:∀c∈onB (EJ p d pos nd ol),c∈fs):
 Calls Tryz.prog 62 #[.agg #[false,(b1,o1,d1),(b2,o2,d2),(b3,o3,d3)],K9, .agg #[kd,(pa,p.length,pc),(ta,d.length,tc),pos,l0,(a1,m1,c1),(a2,m2,c2),(a3,m3,c3),(oa,ol.length,oc),(),(),false,(),OY,(),OY,false,(),OY,(),OY]] W (fun e w'=>e= .returned OY/\Below W W w'):=by
 obtain⟨w0,f⟩:∃w0,w0=((W.alloc (Obj.cells #[false,(b1,o1,d1),(b2,o2,d2),(b3,o3,d3)] 35)).alloc (Obj.cells #[false,(),OY,(),OY] 53)).alloc (Obj.cells #[kd,(pa,p.length,pc),(ta,d.length,tc),pos,l0,(a1,m1,c1),(a2,m2,c2),(a3,m3,c3),(oa,ol.length,oc),(),(),false,(),OY,(),OY,false,(),OY,(),OY] 55):=⟨_,rfl⟩;have a:Below W W w0:=by rw [f];exact iK _ _ _ _
 have hA:At w0 W [false,(b1,o1,d1),(b2,o2,d2),(b3,o3,d3)] 35:=t_s
 have hB:At w0 (W+1) [false,(),OY,(),OY] 53:=t_U
 have hC:At w0 (W.heap.size+1+1) [kd,(pa,p.length,pc),(ta,d.length,tc),pos,l0,(a1,m1,c1),(a2,m2,c2),(a3,m3,c3),(oa,ol.length,oc),(),(),false,(),OY,(),OY,false,(),OY,(),OY] 55:=by rw [f];exact At.third W _ _ _ _
 have HV:=a6 (fun(w':World) (hb:Below w0 w0 w')=>(show bY w' w' n (.agg #[false,(b1,o1,d1),(b2,o2,d2),(b3,o3,d3)])by obtain⟨cs,he,hc⟩:=hv;exact⟨cs,he,dY.keep (a.trans (hb.mono a.size)) (a.trans (hb.mono a.size)).size _ _ hc⟩));have HF:=a6 (fun(w':World) (hb:Below w0 w0 w')=>l_5 p d kd pos nd ol pa ta oa pc tc oc l0 a1 a2 a3 m1 m2 m3 c1 c2 c3 w' j UX k fs l x h);have i:=e_b n _ w0 w0 w (HV.o w0 (a7)) (a8);rw [hE]at i;have m:=a6 i
 have HA:=a6 hA;have HB:=a6 hB;have HC:=a6 hC
 have o:=a6 a;have q:=a6 f
 obtain⟨y0,y1,y2,y3, -, -⟩:=bV.facts hA;clear hv hn hA hB hC a f l h k i;go_enter Tryz.func62,Tryz.ntmps62;go_upto_region 1 with fail;rw [<- q.o];clear q;go_wp2_with fail;refine m.o.mono ?_;rintro e w1 ⟨rfl,g⟩;have hA1:=HA.o.kept g
 obtain⟨z0,z1,z2,z3, -, -⟩:=bV.facts hA1;obtain⟨⟨s0,s1,s2,s3,s4⟩, -, -⟩:=(HB.o.kept g).f5;have HS:=a6 (h_T _ n w1 (HV.o w1 g));have r:=a6 g;clear m g hA1 y0 y1 y2 y3;go_wp2_with fail;refine HS.o.mono ?_;rintro e w2 ⟨rfl,s⟩;have b:=r.o.trans (s.mono r.o.size)
 have hl:=At.load (P:=Tryz.prog) (HC.o.kept b) Tryz.underlying55 rfl P3
 simp [go_sem]at hl
 have t:=a6 (HF.o w2 b);have u:=a6 (o.o.trans (b.mono o.o.size));clear HS s b z0 z1 z2 z3 s0 s1 s2 s3 s4;go_wp2_with fail;refine t.o.mono ?_;rintro e w3 ⟨rfl,v⟩;have y:=a6 (u.o.trans (v.mono u.o.size))
 clear t v hl;go_wp2_with fail;go_ret;exact⟨rfl,y.o⟩
theorem o_n (n:aX) (v:Value) (W:World) (hv:bY W W n v):
 Calls Tryz.prog 184 #[v] W (fun e w'=>e= .returned (FK n)/\Below W W w'):=by
 obtain⟨l,ps,t,ks⟩:=n;obtain⟨ap,cp,at_,ct,ak,ck,css,rfl,hp,ht,hk,a⟩:=hv.open;clear hv hp ht hk a;have hl:FK (.mk l ps t ks)=if l then t.length else ks.length:=rfl
 rw [hl];cases l
 all_goals
  go_enter Tryz.func184,Tryz.ntmps184
  go_wp2_with fail;go_ret;exact⟨rfl,b7 _ _⟩
def m7 (w:World) (M N:Nat):aX ->List Value ->Prop
 | .mk l ps t ks,cs=>∃ (ap:Option Addr) (cp:Nat) (at_:Option Addr) (ct:Nat) (ak:Option Addr) (ck:Nat) (css:List Value),cs= [.bool l, .slice ap ps.length cp, .slice at_ t.length ct, .slice ak ks.length ck]/\
     RowQ w (fun b=>b≠N/\(Value.slice ak ks.length ck).ownBlock≠some b/\(Value.slice at_ t.length ct).ownBlock≠some b) 2 ap ps.length cp (cK ps)/\w.ownsRow M 21 1 (at_,t.length,ct) t.length (t.map (Value.int .i32))/\(∀z∈t,(Lit.int .i32 z).wf=true)/\
     w.ownsRow M 35 4 (ak,ks.length,ck) ks.length css/\dK w (fun b=>b≠N/\(Value.slice ak ks.length ck).ownBlock≠some b/\(Value.slice at_ t.length ct).ownBlock≠some b) ks css/\(∀b,(Value.slice at_ t.length ct).ownBlock=some b ->b≠N/\(Value.slice ak ks.length ck).ownBlock≠some b)/\(Value.slice ak ks.length ck).ownBlock≠some N
theorem m7.of {w w':World} {M N:Nat} {n:aX} {cs:List Value} (h:uY w M n cs) (hN:w.heap.size <= N) (hb:Below w w w'):m7 w' M N n cs:=by
 obtain⟨l,ps,t,ks⟩:=n;unfold uY at h;unfold m7;obtain⟨ap,cp,at_,ct,ak,ck,css,h1,h2,h3,h4,h5,h6,h7⟩:=h;exact⟨ap,cp,at_,ct,ak,ck,css,h1,h2.keep hb.size (fun b _ a=>hb.block b a) (fun b h a=>⟨by omega,h.2⟩),kQ h3 hb,h4,kQ h5 hb,dK.keep hb.size (fun b _ a=>hb.block b a) (fun b h a=>⟨by omega,h.2⟩) _ _ h6,fun b h=>⟨by have:=(h3.lt b h).2;omega,h7 b h⟩,fun h=>by have:=(h5.lt N h).2;omega⟩
theorem m7.set {w:World} {M N o:Nat} {n:aX} {cs:List Value} {u:Value} (h:m7 w M N n cs):m7 (w.setCell (N,o) u) M N n cs:=by
 obtain⟨l,ps,t,ks⟩:=n;unfold m7 at h⊢;obtain⟨ap,cp,at_,ct,ak,ck,css,h1,h2,h3,h4,h5,h6,h7,h8⟩:=h;have hh:∀b,b≠N ->(w.setCell (N,o) u).heap[b]? =w.heap[b]? :=fun b hb=>Below.heap_setCell w (N,o) u b hb
 exact⟨ap,cp,at_,ct,ak,ck,css,h1,h2.keep R9 (fun b hb _=>hh b hb.1) (fun _ hb _=>hb),CY h3 (fun e=>(h7 N e).1 rfl),h4,CY h5 h8,dK.keep R9 (fun b hb _=>hh b hb.1) (fun _ hb _=>hb) _ _ h6,h7,h8⟩
theorem m7.drew {w:World} {M N:Nat} {n:aX} {cs:List Value} (h:m7 w M N n cs):m7 w.drew M N n cs:=by
 obtain⟨l,ps,t,ks⟩:=n;unfold m7 at h⊢;obtain⟨ap,cp,at_,ct,ak,ck,css,h1,h2,h3,h4,h5,h6,h7,h8⟩:=h;have hb:Below w w w.drew:=(a7).drew;exact⟨ap,cp,at_,ct,ak,ck,css,h1,h2.keep hb.size (fun b _ a=>hb.block b a) (fun _ h _=>h),kQ h3 hb,h4,kQ h5 hb,dK.keep hb.size (fun b _ a=>hb.block b a) (fun _ h _=>h) _ _ h6,h7,h8⟩
theorem m7.q {w:World} {M N:Nat} {n:aX} {cs:List Value} (h:m7 w M N n cs):NodeQ w (fun b=>True) n cs:=by
 obtain⟨l,ps,t,ks⟩:=n;unfold m7 at h;unfold NodeQ;obtain⟨ap,cp,at_,ct,ak,ck,css,h1,h2,h3,h4,h5,h6,h7,h8⟩:=h;obtain⟨a1,c1,a,c⟩:=RowQ.of_own h3 PJ;obtain⟨a2,c2,d,e⟩:=RowQ.of_own h5 h6.onec;injection a with e1 e2 e3
 injection d with g1 g2 g3
 subst e1;subst e3;subst g1;subst g3;exact⟨ap,cp,at_,ct,ak,ck,css,h1,h2.keep (a8) (fun _ _ _=>rfl) (fun b hb _=>trivial),c.keep (a8) (fun _ _ _=>rfl) (fun b hb _=>trivial),h4,e.keep (a8) (fun _ _ _=>rfl) (fun b hb _=>trivial),dK.keep (a8) (fun _ _ _=>rfl) (fun b hb _=>trivial) _ _ h6⟩
theorem b_U {w w':World} {M e sz n:Nat} {v:Value} {cs:List Value} {r:Option Nat} (h:w.ownsRow M e sz v n cs) (hg:w.grownBy w' r) (a:∀b,v.ownBlock=some b ->r≠some b):w'.ownsRow M e sz v n cs:=by
 refine⟨h.1, ?_⟩;rcases h.2 with hn | ⟨k,cap,cur,hv,hb,c,hr⟩
 . exact .inl hn
 refine .inr ⟨k,cap,cur,hv,hb, ?_,hr⟩;have d:=(h.lt k (by rw [hv];rfl)).2;rw [hg.block k d (fun e=>a k (by rw [hv];rfl) e.symm)];exact c
theorem m7.text {w w':World} {M N:Nat} {l:Bool} {ps:List fQ} {t t2:List Int} {ks:List aX} {pv tv kv tv':Value} (h:m7 w M N (.mk l ps t ks) [l,pv,tv,kv]) (hN:N < w.heap.size) (f:∀z∈t2,(Lit.int .i32 z).wf=true)
 (a:w'.ownsRow M 21 1 tv' (t.length+t2.length) (t.map (Value.int .i32) ++ t2.map (Value.int .i32))) (hg:w.grownBy w' tv.ownBlock) (hw:tv'.ownBlock=tv.ownBlock∨ ∀k,tv'.ownBlock=some k ->w.heap.size <= k):
 m7 w' M N (.mk l ps (t ++ t2) ks) [l,pv,tv',kv]:=by
 unfold m7 at h⊢;obtain⟨ap,cp,at_,ct,ak,ck,css,h1,h2,h3,h4,h5,h6,h7,h8⟩:=h;injection h1 with _ h1
 injection h1 with e1 h1
 injection h1 with e2 h1
 injection h1 with e3 h1
 subst e1;subst e2;subst e3;have hs:=hg.size;rw [<- List.length_append, <- List.map_append]at a;obtain⟨a',c',rfl, -⟩:=eK a PJ;have hok:∀b,(b≠N/\(Value.slice ak ks.length ck).ownBlock≠some b/\(Value.slice at_ t.length ct).ownBlock≠some b) ->b < w.heap.size ->(b≠N/\(Value.slice ak ks.length ck).ownBlock≠some b/\(Value.slice a' (t ++ t2).length c').ownBlock≠some b):=fun b hb c=>by
  refine⟨hb.1,hb.2.1, ?_⟩;rcases hw with e | e
  . rw [e];exact hb.2.2
  intro e2;have:=e b e2;omega
 have d:∀b,(b≠N/\(Value.slice ak ks.length ck).ownBlock≠some b/\(Value.slice at_ t.length ct).ownBlock≠some b) ->b < w.heap.size ->w'.heap[b]? =w.heap[b]? :=fun b hb c=>hg.block b c (fun e=>hb.2.2 e.symm)
 refine⟨ap,cp,a',c',ak,ck,css,rfl,h2.keep hs d hok,a,fun z hz=>(OQ hz).elim (h4 z) (f z),b_U h5 hg (fun b hb e=>(h7 b e).2 hb),dK.keep hs d hok _ _ h6,fun b hb=> ?_,h8⟩;rcases hw with e | e
 . exact h7 b (by rw [<- e];exact hb)
 have h9:=e b hb;exact⟨by omega,fun h=>by have:=(h5.lt b h).2;omega⟩
theorem m7.kids {w w':World} {M N:Nat} {l:Bool} {ps:List fQ} {t:List Int} {ks ks2:List aX} {css2:List Value} {pv tv kv kv':Value} (h:m7 w M N (.mk l ps t ks) [l,pv,tv,kv]) (hN:N < w.heap.size) (hM:M <= N) (f:dK w (fun b=>b < M) ks2 css2)
 (a:∀css,css.length=ks.length * 4 ->w.ownsRow M 35 4 kv ks.length css ->w'.ownsRow M 35 4 kv' (ks.length+ks2.length) (css ++ css2)) (hg:w.grownBy w' kv.ownBlock) (hw:kv'.ownBlock=kv.ownBlock∨ ∀k,kv'.ownBlock=some k ->w.heap.size <= k):
 m7 w' M N (.mk l ps t (ks ++ ks2)) [l,pv,tv,kv']:=by
 unfold m7 at h⊢;obtain⟨ap,cp,at_,ct,ak,ck,css,h1,h2,h3,h4,h5,h6,h7,h8⟩:=h;injection h1 with _ h1
 injection h1 with e1 h1
 injection h1 with e2 h1
 injection h1 with e3 h1
 subst e1;subst e2;subst e3;have hs:=hg.size;have a:=a css (dK.len' h6) h5;have n:=h6;have g:∀b,kv'.ownBlock=some b ->M <= b:=fun b hb=>(a.lt b hb).1
 have i:∀b,(Value.slice at_ t.length ct).ownBlock=some b ->M <= b:=fun b hb=>(h3.lt b hb).1
 have d:∀b,(Value.slice ak ks.length ck).ownBlock=some b ->M <= b:=fun b hb=>(h5.lt b hb).1
 have j:∀u∈css ++ css2,u.oneCell'=true:=fun u hu=>(OQ hu).elim (h6.onec u) (f.onec u)
 rw [<- List.length_append]at a;obtain⟨a',c',rfl, -⟩:=eK a j;have hok:∀b,(b≠N/\(Value.slice ak ks.length ck).ownBlock≠some b/\(Value.slice at_ t.length ct).ownBlock≠some b) ->b < w.heap.size ->(b≠N/\(Value.slice a' (ks ++ ks2).length c').ownBlock≠some b/\(Value.slice at_ t.length ct).ownBlock≠some b):=fun b hb c=>by
  refine⟨hb.1, ?_,hb.2.2⟩;rcases hw with e | e
  . rw [e];exact hb.2.1
  intro e2;have:=e b e2;omega
 have m:∀b,(b≠N/\(Value.slice ak ks.length ck).ownBlock≠some b/\(Value.slice at_ t.length ct).ownBlock≠some b) ->b < w.heap.size ->w'.heap[b]? =w.heap[b]? :=fun b hb c=>hg.block b c (fun e=>hb.2.1 e.symm)
 refine⟨ap,cp,at_,ct,a',c',css ++ css2,rfl,h2.keep hs m hok,b_U h3 hg (fun b hb e=>(h7 b hb).2 e),h4,a,dK.append (dK.keep hs m hok _ _ h6) (dK.keep hs (fun b hb c=>hg.block b c (fun e=>by have:=d b e.symm;omega)) (fun b hb c=>⟨by omega,fun e=>by have:=g b e;omega,fun e=>by have:=i b e;omega⟩) _ _ f),fun b hb=>⟨(h7 b hb).1, ?_⟩, ?_⟩
 . rcases hw with e | e
   . rw [e];exact(h7 b hb).2
   intro e2;have:=e b e2;have:=(h3.lt b hb).2;omega
 rcases hw with e | e
 . rw [e];exact h8
 intro e2;have:=e N e2;omega
theorem b_V {M:Nat} {w w':World} {e sz n:Nat} {v:Value} {cs:List Value} (a:w.ownsRow M e sz v n cs) (hg:w.grownBy w' v.ownBlock) (hM:M <= w.heap.size):Below M w w':=(Below.refl M w).grown hg hM (fun k hk=>(a.lt k hk).1)
theorem o_o {w:World} {M e sz n:Nat} {v:Value} {cs cs':List Value} (h:w.ownsRow M e sz v n cs) (h':w.ownsRow M e sz v n cs'):cs=cs':=by
 have hl:=h.1;have j:=h'.1
 rcases h.2 with⟨rfl,rfl⟩ | ⟨g,cap,cur,rfl,hb,hg,k,l,m,c⟩
 . rw [O2 (by omega:cs.length=0),O2 (by omega:cs'.length=0)]
 rcases h'.2 with⟨hv,_⟩ | ⟨g',cap',cur',hv,o,a,d,f,i,b⟩
 . cases hv
 injection hv with e1 e2 e3
 injection e1 with e1
 injection e1 with e1 _ _
 subst e1;rw [hg]at a;injection a with a
 injection a with e4 _ _
 subst e4;rw [<- c, <- b]
theorem m7.owns {w:World} {M N:Nat} {l:Bool} {ps:List fQ} {t:List Int} {ks:List aX} {pv tv kv:Value} (h:m7 w M N (.mk l ps t ks) [l,pv,tv,kv]):w.ownsRow M 21 1 tv t.length (t.map (Value.int .i32))/\(∃css,css.length=ks.length * 4/\w.ownsRow M 35 4 kv ks.length css)/\tv.ownBlock≠some N/\kv.ownBlock≠some N:=by
 unfold m7 at h;obtain⟨ap,cp,at_,ct,ak,ck,css,h1,h2,h3,h4,h5,h6,h7,h8⟩:=h;injection h1 with _ h1
 injection h1 with e1 h1
 injection h1 with e2 h1
 injection h1 with e3 h1
 subst e1;subst e2;subst e3;exact⟨h3,⟨css,dK.len' h6,h5⟩,fun e=>(h7 N e).1 rfl,h8⟩
theorem m7.form {w:World} {M N:Nat} {n:aX} {cs:List Value} (h:m7 w M N n cs):∃l a1 n1 c1 a2 n2 c2 a3 n3 c3,cs= [.bool l, .slice a1 n1 c1, .slice a2 n2 c2, .slice a3 n3 c3]:=h.q.form
theorem m_8 {ops:Array Oper} {o:Oper} {a:Act} {w:World} {K:Act ->World ->Prop} {Q:Exit ->Act ->World ->Prop} {E:Prop}
 (hg:o.guard=none) (s x:Operand) (ho:o.op= .call { callee:= .builtin .append,args:= #[s,x],argTypes:= #[32,32] })
 (M N:Nat) (l:Bool) (ps:List fQ) (t t2:List Int) (ks:List aX) (pv tv kv:Value) (hs:a.eval s=tv) (hX:m7 w M N (.mk l ps t ks) [l,pv,tv,kv]) (hN:N < w.heap.size) (hM:M <= N)
 (ya:Option Addr) (yc B:Nat) (hx:a.eval x= .slice ya t2.length yc) (hr:RowA w B 1 ya t2.length yc (t2.map (Value.int .i32))) (g:∀z∈t2,(Lit.int .i32 z).wf=true) (hn:t.length+t2.length <= 200000000)
 (h:∀a' c' w',m7 w' M N (.mk l ps (t ++ t2) ks) [l,pv, .slice a' (t ++ t2).length c',kv] ->Below M w w' ->w'.heap[N]? =w.heap[N]? ->K (a.put o.dst (.slice a' (t ++ t2).length c')) w'):if Region.wanted o (yielded ops a.tmps)=true then Oper.wp Tryz.prog o a w K Q else E:=by
 obtain⟨d, -,j, -⟩:=hX.owns
 cases ya with
 | none=>
   have k:yc=0:=hr.nil rfl;have m:t2.length=0:=S7
   obtain rfl:t2= []:=O2 m;subst k;have hw:Region.wanted o (yielded ops a.tmps)=true:=S4
   rw [if_pos hw];obtain⟨i,n, -,p, -⟩:=info_parts (P:=Tryz.prog) b_1;have f:=run_append_owned_none (P:=Tryz.prog) (w:=w) M 32 o.type 21 i 1 Tryz.underlying32 n tv t.length (t.map (Value.int .i32)) d;unfold Oper.wp execOp;simp only [ho,resolve,invoke,builtin,Sem.run_bind,Sem.run_pure,Result.andThen_ok,List.map_toArray,List.map_cons,List.map_nil,hs,hx,List.length_nil,f];obtain⟨a',c',rfl, -⟩:=eK d PJ;have:=h a' c' w (by rw [List.append_nil];exact hX) (a7) rfl;rw [List.append_nil]at this;exact this
 | some ad=>
   refine JX hg s x 32 ho M 21 (.int .i32 0) 1 4 Tryz.underlying32 b_1 rfl P9 tv t.length (t.map (Value.int .i32)) hs d ad t2.length yc B (t2.map (Value.int .i32)) hx hr R8 P2 P2 fun v' w' c b q=> ?_
   have r:=hX.text hN g c b q;rw [<- List.length_append, <- List.map_append]at c;obtain⟨a',c',rfl, -⟩:=eK c PJ;exact h a' c' w' r (b_V d b P2) (b.block N hN (fun e=>j e.symm))
theorem m_9 {ops:Array Oper} {o:Oper} {a:Act} {w:World} {K:Act ->World ->Prop} {Q:Exit ->Act ->World ->Prop} {E:Prop}
 (hg:o.guard=none) (s x:Operand) (ho:o.op= .call { callee:= .builtin .append,args:= #[s,x],argTypes:= #[33,33] })
 (M N:Nat) (l:Bool) (ps:List fQ) (t:List Int) (ks ks2:List aX) (pv tv kv:Value) (hs:a.eval s=kv) (hX:m7 w M N (.mk l ps t ks) [l,pv,tv,kv]) (hN:N < w.heap.size) (hM:M <= N)
 (ya:Option Addr) (yc B:Nat) (css2:List Value) (hx:a.eval x= .slice ya ks2.length yc) (hr:RowA w B 4 ya ks2.length yc css2) (m:dK w (fun b=>b < M) ks2 css2) (hn:ks.length+ks2.length <= 200000000)
 (h:∀a' c' w',m7 w' M N (.mk l ps t (ks ++ ks2)) [l,pv,tv, .slice a' (ks ++ ks2).length c'] ->Below M w w' ->w'.heap[N]? =w.heap[N]? ->K (a.put o.dst (.slice a' (ks ++ ks2).length c')) w'):if Region.wanted o (yielded ops a.tmps)=true then Oper.wp Tryz.prog o a w K Q else E:=by
 obtain⟨-,⟨css,y,d⟩, -,n⟩:=hX.owns;obtain⟨l',a1,n1,c1,a2,n2,c2,a3,n3,c3,hf⟩:=hX.form;injection hf with _ hf
 injection hf with _ hf
 injection hf with _ hf
 injection hf with e3 _
 subst e3;obtain rfl:n3=ks.length:=by
  unfold m7 at hX;obtain⟨_,_,_,_,_,_,_,h1,_⟩:=hX;injection h1 with _ h1
  injection h1 with _ h1
  injection h1 with _ h1
  injection h1 with e3 _
  injection e3
 cases ya with
 | none=>
   have p:yc=0:=hr.nil rfl;have q:ks2.length=0:=S7
   obtain rfl:ks2= []:=O2 q;subst p;have hw:Region.wanted o (yielded ops a.tmps)=true:=S4
   rw [if_pos hw];obtain⟨i,r, -,u, -⟩:=info_parts (P:=Tryz.prog) A5;have f:=run_append_owned_none (P:=Tryz.prog) (w:=w) M 33 o.type 35 i 4 Tryz.underlying33 r _ ks.length css d;unfold Oper.wp execOp;simp only [ho,resolve,invoke,builtin,Sem.run_bind,Sem.run_pure,Result.andThen_ok,List.map_toArray,List.map_cons,List.map_nil,hs,hx,List.length_nil,f];have:=h a3 c3 w (by rw [List.append_nil];exact hX) (a7) rfl
   rw [List.append_nil]at this;exact this
 | some ad=>
   refine JX hg s x 33 ho M 35 (.agg #[false,(),(),()]) 4 80 Tryz.underlying33 A5 rfl P9 _ ks.length css hs d ad ks2.length yc B css2 hx hr R8 P2 P2 fun v' w' g c v=> ?_
   have j:=hX.kids (kv':=v') (ks2:=ks2) (css2:=css2) (w':=w') hN hM m (fun css' hl hk=> ?_) c v
   . have k:=j
     unfold m7 at k;obtain⟨_,_,_,_,ak,ck,_,h1,_⟩:=k;injection h1 with _ h1
     injection h1 with _ h1
     injection h1 with _ h1
     injection h1 with e3 _
     subst e3;exact h ak ck w' j (b_V d c P2) (c.block N hN (fun e=>n e.symm))
   obtain rfl:css'=css:=o_o hk d;exact g
theorem i_3 {p:List Int} (a:p≠ []) (hl:0 < jK p):yJ p (-1)=(kX p,0):=by
 unfold yJ kX;rw [if_neg a,if_neg P2]
 rfl
theorem m7.since {w w':World} {M N:Nat} {n:aX} {cs:List Value} (h:m7 w M N n cs) (hb:Below w w w'):m7 w' M N n cs:=by
 obtain⟨l,ps,t,ks⟩:=n;unfold m7 at h⊢;obtain⟨ap,cp,at_,ct,ak,ck,css,h1,h2,h3,h4,h5,h6,h7,h8⟩:=h;exact⟨ap,cp,at_,ct,ak,ck,css,h1,h2.keep hb.size (fun b _ a=>hb.block b a) (fun _ h _=>h),kQ h3 hb,h4,kQ h5 hb,dK.keep hb.size (fun b _ a=>hb.block b a) (fun _ h _=>h) _ _ h6,h7,h8⟩
theorem m_a (rest k into:aX) (p d:List Int) (ol:List fQ) (kd pos:Int) (vr vk n0 n1 n2 n3:Value) (pa ta oa:Option Addr) (pc tc oc:Nat) (W:World)
 (h0:rest.wt <= 100000000) (X8:k.wt <= 100000000) (X:(u_4 into k).wt <= 100000000) (Y:bY W W rest vr) (h2:bY W W k vk)
 (hp:RowA W W 1 pa p.length pc (p.map (Value.int .i64))) (h3:p.length <= 1000000) (h4:∀z∈p, -9223372036854775807 <= z/\z <= 9223372036854775807)
 (ho:RowA W W 2 oa ol.length oc (cK ol)) (k6:p≠ []) (Z:0 < jK p) (H0:l9 rest (kX p)=some into) (h5:b8 into=b8 k) (S:(FK into:Int)=pos) (I:dJ k=ol):
 Calls Tryz.prog 122 #[vr,vk, .agg #[kd,(pa,p.length,pc),(ta,d.length,tc),pos,n0,n1,n2,n3,(oa,ol.length,oc),(),(),false,(),OY,(),OY,false,(),OY,(),OY]] W (AX W (jX rest (kX p) (u_4 into k),0)):=by
 obtain⟨R,hR⟩:∃R,R=jX rest (kX p) (u_4 into k):=⟨_,rfl⟩;rw [<- hR];have k7:=a6 hR
 clear hR;have X9:=zJ _ rest into H0
 obtain⟨csr,rfl,H1⟩:=Y;obtain⟨lr,a1,m1,c1,a2,m2,c2,a3,m3,c3,rfl⟩:=H1.form;obtain⟨l,ps,t,ks⟩:=k;obtain⟨ap,cp,at_,ct,ak,ck,css,rfl,h6,k8,h7,T⟩:=h2.open;clear h2;obtain⟨⟨at2,ct2,k9,h8⟩,h9⟩:=k8;injection k9 with e1 e2 e3
 subst e1;subst e3;obtain⟨w0,c⟩:∃w0,w0=((((W.alloc (Obj.cells #[lr,(a1,m1,c1),(a2,m2,c2),(a3,m3,c3)] 35)).alloc (Obj.cells #[l,(ap,ps.length,cp),(at_,t.length,ct),(ak,ks.length,ck)] 35)).alloc (Obj.cells #[kd,(pa,p.length,pc),(ta,d.length,tc),pos,n0,n1,n2,n3,(oa,ol.length,oc),(),(),false,(),OY,(),OY,false,(),OY,(),OY] 55)).alloc (Obj.cells #[false,(),(),()] 35)):=⟨_,rfl⟩;have J:Below W W w0:=by rw [c];exact(iK _ _ _ _).alloc P8 _
 have J0:w0.heap.size=W.heap.size+4:=by rw [c];simp
 have hA:At w0 W [lr,(a1,m1,c1),(a2,m2,c2),(a3,m3,c3)] 35:=by rw [c];exact(((At.fresh W _ _).alloc _).alloc _).alloc _
 have hK:At w0 (W+1) [l,(ap,ps.length,cp),(at_,t.length,ct),(ak,ks.length,ck)] 35:=by rw [c];exact((At.second W _ _ _).alloc _).alloc _
 have hO:At w0 (W.heap.size+1+1) [kd,(pa,p.length,pc),(ta,d.length,tc),pos,n0,n1,n2,n3,(oa,ol.length,oc),(),(),false,(),OY,(),OY,false,(),OY,(),OY] 55:=by rw [c];exact(At.third W _ _ _ _).alloc _
 have hR:At w0 (W.heap.size+1+1+1) [false,(),(),()] 35:=by rw [c];exact At.fourth W _ _ _ _ _
 have y:=j_F p pa pc W w0 (hp.keep J (a8)) J.size h3 h4;rw [i_3 k6 Z]at y;have J1:=a6 y;have J2:=a6 J;have HA:=a6 hA;have HK:=a6 hK;have HO:=a6 hO;have HR:=a6 hR;have Q0:=a6 J0;have J3:=a6 c
 have J4:=a6 H1;have Q1:=a6 h6;have Q2:=a6 h8;have Q3:=a6 h9;have Q4:=a6 h7;have J5:=a6 T;have Ho:=a6 ho
 have y1:w0.cell? (P0 (W.heap.size+1+1) 1)=some (.slice pa p.length pc):=hO.cell 1 rfl;clear y J hA hK hO hR J0 c H1 h6 h8 h9 h7 T ho hp h3 h4;go_enter Tryz.func122,Tryz.ntmps122;go_upto_region 1 with fail;rw [<- J3.o];clear J3;go_wp2_with fail;refine J1.o.mono ?_;rintro e w1 ⟨K,v,rfl,hv⟩;have Y:=hv
 obtain⟨qa,qc,rfl,hq⟩:=RowQ.of_own hv PJ;have L:=J2.o.trans (K.mono J2.o.size);have hA1:=HA.o.kept K;obtain⟨y0,y2,y3,y4, -, -⟩:=bV.facts hA1;have HG:=a6 (r_M rest into (kX p) (.agg #[lr,(a1,m1,c1),(a2,m2,c2),(a3,m3,c3)]) qa qc w1 h0 ⟨_,rfl,dY.keep L L.size _ _ J4.o⟩ hq.row H0);have j:=a6 K;have A:=a6 L;have Hq:=a6 hq.row
 clear J1 K hv Y hq L hA1 y1;go_wp2_with fail;refine HG.o.mono ?_;rintro e w2 ⟨cs,rfl,B,M⟩;obtain⟨l2,ps2,t2,ks2⟩:=into;obtain⟨l2',b1,o1,d1,b2,o2,d2,b3,o3,d3,rfl⟩:=B.form;obtain rfl:l2'=l2:=by
  unfold uY at B;obtain⟨_,_,_,_,_,_,_,h1,_⟩:=B;injection h1 with h1 _
  injection h1
 have Q5:l=l2':=h5.symm;subst Q5;obtain⟨w3,C⟩:∃w3,w3=w2.alloc (Obj.cells #[l,(b1,o1,d1),(b2,o2,d2),(b3,o3,d3)] 35):=⟨_,rfl⟩;have O:Below w2 w2 w3:=by rw [C];exact b7 _ _
 have J6:w3.heap.size=w2.heap.size+1:=by rw [C];simp
 have J7:At w3 w2 [l,(b1,o1,d1),(b2,o2,d2),(b3,o3,d3)] 35:=by rw [C];exact At.fresh _ _ _
 have m:=M.trans (O.mono M.size);have D:=j.o.trans (m.mono j.o.size);have U:=A.o.trans (m.mono A.o.size);have H2:m7 w3 w1 w2 (.mk l ps2 t2 ks2) [l,(b1,o1,d1),(b2,o2,d2),(b3,o3,d3)]:=m7.of B (a8) O;have J8:=a6 C;have x4:=a6 O;have n:=a6 m;have r:=a6 U;have Q6:=a6 H2;have x5:=a6 J6;have H3:=a6 J7
 have Q7:=a6 M;have H4:=a6 (HK.o.kept D);have J9:=a6 (HO.o.kept D)
 have y5:w3.cell? (P0 (W+1) 0)=some (.bool l):=H4.o.cell 0 rfl;have y6:w3.cell? w2=some (.bool l):=H3.o.cell 0 rfl;have Q8:=a6 (fun(w':World) (hb:Below w3 w3 w')=>(show w'.cell? (P0 (W.heap.size+1+1) 3)=some (.int .i64 pos)/\At w' w2 [l,(b1,o1,d1),(b2,o2,d2),(b3,o3,d3)] 35 from⟨(J9.o.kept hb).cell 3 rfl,H3.o.kept hb⟩));have HL:=a6 (fun(w':World) (hb:Below w3 w3 w')=>o_n (.mk l ps2 t2 ks2) (.agg #[l,(b1,o1,d1),(b2,o2,d2),(b3,o3,d3)]) w' ⟨_,rfl,dY.keep hb hb.size _ _ (NodeQ.node _ _ H2.q)⟩);have j0:=fun(w':World) (h:At w' w2 [l,(b1,o1,d1),(b2,o2,d2),(b3,o3,d3)] 35)=>At.load (P:=Tryz.prog) h Tryz.underlying35 rfl P3
 simp [go_sem]at j0
 have Q9:((FK (.mk l ps2 t2 ks2):Int) != pos)=false:=by rw [S];simp
 generalize q4:(FK (.mk l ps2 t2 ks2):Int)=LN at HL Q9;clear HG B M y0 y2 y3 y4 C O J6 J7 m D U H2 h5 S q4;go_upto_region 5 with fail
 rw [<- J8.o];clear J8;go_upto_region 9 with fail
 go_region_held3 (fun w'=>w'.cell? (P0 (W.heap.size+1+1) 3)=some (.int .i64 pos)/\At w' w2 [l,(b1,o1,d1),(b2,o2,d2),(b3,o3,d3)] 35) (refine Q8.o _ P4)
  (first
  | (refine bQ rfl 184 _ _ rfl P5 [.agg #[l,(b1,o1,d1),(b2,o2,d2),(b3,o3,d3)]] ?_ _ (HL.o _ P1) ?_
     . go_simp
     rintro e w4 ⟨rfl,V⟩;refine⟨_,rfl, ?_⟩;have f:=a6 (Below.and (w0:=w3) P1 V);clear V))
 all_goals
  have E:=r.o.trans (f.o.mono r.o.size);have HP:=a6 (g_C ap oa cp oc W ps ol w4 (Q1.o.keep E (a8)) (Ho.o.keep E (a8)));have j1:decide (ps=ol)=true:=decide_eq_true I;rw [j1]at HP;have y7:w4.cell? (P0 (W+1) 1)=some (.slice ap ps.length cp):=(H4.o.kept f.o).cell 1 rfl
  have y8:w4.cell? (P0 (W.heap.size+1+1) 8)=some (.slice oa ol.length oc):=(J9.o.kept f.o).cell 8 rfl;clear y5 y6 j0 j1 E;go_upto_region 11 with fail
  go_wp2_with fail;refine HP.o.mono ?_;rintro e w5 ⟨rfl,hd⟩;have g:=f.o.trans ((hd.below w4).mono f.o.size)
  have j2:=a6 (H4.o.kept g);have H5:=a6 (H3.o.kept g);have q5:=a6 ((HA.o.kept (j.o.trans (n.o.mono j.o.size))).kept g);have q6:=a6 ((HR.o.kept (j.o.trans (n.o.mono j.o.size))).kept g);have q7:=a6 (Q6.o.since g);have i:=a6 (r.o.trans (g.mono r.o.size));have j3:=a6 g;have j4:=a6 (show w2.heap.size < w5.heap.size from H5.o.lt);have F:=a6 (show w1.heap.size <= w2.heap.size from Q7.o.size);obtain⟨z0,z1,z2,z3,⟨g0,g1,g2,g3⟩, -⟩:=bV.facts H5.o;obtain⟨k0,k1,k2,k3, -, -⟩:=bV.facts j2.o;clear HP hd g y7 y8;go_upto_region 13 with fail
  have H6:Below w5 w5 w5.drew:=(a7).drew;have q8:=a6 ((Q2.o.keep i.o (a8)).keep (H6.mono i.o.size) (a8));have j5:=a6 (Q4.o.keep i.o (a8));have j6:=a6 (show dK w5 (fun b=>b < w1.heap.size) ks css from dK.keep (a8) (fun _ _ _=>rfl) (fun b hb _=>by have:=A.o.size;omega) _ _ (eX.q i.o.size _ _ (eX.keep i.o (a8) _ _ J5.o)));have q9:t2.length+t.length <= 200000000:=by simp only [u_4,aX.wt,NZ]at X;omega
  have X0:ks2.length+ks.length <= 200000000:=by have:=i7 (ks2 ++ ks);simp only [u_4,aX.wt,NZ]at X this;omega
  have Q:=a6 (show W.heap.size+4 <= w1.heap.size by have:=j.o.size;have:=Q0.o;omega)
  go_cut [] (fun wx=>∃ta' tc' ka' kc',m7 wx w1 w2 (.mk l ps2 (t2 ++ t) (ks2 ++ ks)) [l,(b1,o1,d1), .slice ta' (t2 ++ t).length tc', .slice ka' (ks2 ++ ks).length kc']/\At wx w2 [l,(b1,o1,d1), .slice ta' (t2 ++ t).length tc', .slice ka' (ks2 ++ ks).length kc'] 35/\Below w1 w5 wx)
  case first=>
   go_region_law (first
  | (refine m_8 rfl _ _ rfl w1.heap.size w2 l ps2 t2 t ks2 (b1,o1,d1) (b2,o2,d2) (b3,o3,d3) ?_ q7.o.drew j4.o F.o at_ ct W ?_ q8.o Q3.o q9 ?_
     . go_simp
     . go_simp
     intro ta' tc' w6 j7 j8 j9;have X1:=a6 j7
     have a:=(H6.mono (Nat.le_of_lt (Nat.lt_of_le_of_lt F.o j4.o))).trans j8;have H7:=a6 (show At w6 w2 [l,(b1,o1,d1),(b2,o2,d2),(b3,o3,d3)] 35 by unfold At;rw [j9];exact H5.o);have K0:=a6 (j5.o.keep (a.mono t_9) (a8));have K1:=a6 (dK.keep a.size (fun b h _=>a.block b h) (fun _ h _=>h) _ _ j6.o);have K2:=j2.o.keep (a.mono t_9);have X2:=a6 a;obtain⟨p0,p1,p2,p3, -, -⟩:=bV.facts K2;obtain⟨q0,q1,q2,q3,⟨f0,f1,f2,f3⟩, -⟩:=bV.facts H7.o;clear j7 j9 j8 a K2)
  | (refine m_9 rfl _ _ rfl w1.heap.size w2 l ps2 (t2 ++ t) ks2 ks (b1,o1,d1) (ta',(t2 ++ t).length,tc') (b3,o3,d3) ?_ X1.o H7.o.lt F.o ak ck W css ?_ K0.o K1.o X0 ?_
     . go_simp
     . go_simp
     intro ka' kc' w7 K3 K4 K5;have X3:=a6 K3
     have K6:=a6 (show At w7 w2 [l,(b1,o1,d1),(b2,o2,d2),(b3,o3,d3)] 35 by unfold At;rw [K5];exact H7.o);have X4:=a6 (X2.o.trans K4);obtain⟨r0,r1,r2,r3,⟨s0,s1,s2,s3⟩, -⟩:=bV.facts K6.o;clear K3 K5 K4))
   all_goals
    go_wp2_with fail
    go_meet
    case rel=>
     have hx:=(X3.o.set (o:=2) (u:= .slice ta' (t2 ++ t).length tc')).set (o:=3) (u:= .slice ka' (ks2 ++ ks).length kc');have ha:=(K6.o.set 2 (ta',(t2 ++ t).length,tc')).set 3 (ka',(ks2 ++ ks).length,kc');have hb:=(X4.o.setCell (p:=(P0 w2 2)) F.o (ta',(t2 ++ t).length,tc')).setCell (p:=(P0 w2 3)) F.o (ka',(ks2 ++ ks).length,kc');refine⟨ta',tc',ka',kc', ?_⟩;simp only [NZ]at hx ha hb⊢;exact⟨hx,ha,hb⟩
  case rest=>
   obtain⟨ta',tc',ka',kc',hx,ha,hb⟩:=hcut;have s:=(n.o.trans (j3.o.mono n.o.size)).trans hb;have w:=A.o.trans (s.mono A.o.size);have K7:=q5.o.keep (hb.mono t_9);have H8:=q6.o.keep (hb.mono t_9);have x:=s_r rest (.mk l (ps2) (t2 ++ t) (ks2 ++ ks)) (kX p) (.agg #[lr,(a1,m1,c1),(a2,m2,c2),(a3,m3,c3)]) (.agg #[l,(b1,o1,d1),(ta',(t2 ++ t).length,tc'),(ka',(ks2 ++ ks).length,kc')]) qa qc wc h0 X ⟨_,rfl,dY.keep w w.size _ _ J4.o⟩ ⟨_,rfl,NodeQ.node _ _ hx.q⟩ (Hq.o.keep s s.size);have K8:n_T rest (kX p) (.mk l ps2 (t2 ++ t) (ks2 ++ ks))=(jX rest (kX p) (u_4 (.mk l ps2 t2 ks2) (.mk l ps t ks)),0):=by unfold n_T;rw [H0];rfl
   rw [K8]at x;simp only [NZ]at x ha;have G:=a6 x;have X5:=a6 H8;have H:=a6 w
   obtain⟨y0,y1,y2,y3, -, -⟩:=bV.facts K7;obtain⟨z4,z5,z6,z7, -, -⟩:=bV.facts ha;have K9:=a6 (show W.heap.size+1+1+1 < wc.heap.size from H8.lt);rw [<- k7.o]at G;clear x K8 hx ha hb s w K7 H8 H6 z0 z1 z2 z3 g0 g1 g2 g3 k0 k1 k2 k3;go_wp2_with fail;refine G.o.mono ?_;intro e w8 ht;obtain⟨H9,⟨hz,l',k1,o4,r1,k2,o5,r2,k3,o6,r3,rfl,k4⟩ | ⟨hz,rfl⟩⟩:=ht.cases
   . have k5:=X5.o.keep (H9.mono (by have:=K9.o;omega))
     obtain⟨x0,x1,x2,x3,⟨f0,f1,f2,f3⟩, -⟩:=bV.facts k5;have X6:=a6 k4;have X7:=a6 (H.o.trans (H9.mono H.o.size))
     clear G ht H9 k4 k5 y0 y1 y2 y3 z4 z5 z6 z7 hz;go_wp2_with fail;refine bodyPost_ret (v:= .tuple #[.agg #[l',(k1,o4,r1),(k2,o5,r2),(k3,o6,r3)],OY]) (by simp [results,Tryz.results122,go_sem,x0,x1,x2,x3,f0,f1,f2,f3]) rfl ?_;exact LY (N:=W.heap.size+1+1+1) X7.o H.o.size K9.o P2 X6.o
   exact absurd rfl hz
end Go.Proofs.YtmadpclcmjahoaaGreatDoor

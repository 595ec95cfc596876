/- Parts of the proof: 23. -/
import Derived.Test.YtmadpclcmjahoaaGreatDoorFN1
import Derived.Test.YtmadpclcmjahoaaGreatDoorFN22
import Derived.Test.YtmadpclcmjahoaaGreatDoorFN17
import Derived.Test.YtmadpclcmjahoaaGreatDoorFN13
import Derived.Test.YtmadpclcmjahoaaGreatDoorFN16
import Derived.Test.YtmadpclcmjahoaaGreatDoorFN3
import Derived.Deep.MidRow
import Derived.Test.YtmadpclcmjahoaaGreatDoorFN20
import Derived.Test.YtmadpclcmjahoaaGreatDoorFN6
import Derived.Ground.SlgmProg
import Derived.Shelf.SortM.Plain
import Derived.Shelf.SortM.SortNone
import Derived.Test.YtmadpclcmjahoaaGreatDoorProg
import Derived.Test.YtmadpclcmjahoaaGreatDoorFN8
import Derived.Test.YtmadpclcmjahoaaGreatDoorFN4
import Derived.Test.YtmadpclcmjahoaaGreatDoorFN11
set_option linter.unusedVariables false
set_option linter.unusedSimpArgs false
set_option maxHeartbeats 8000000
set_option maxRecDepth 100000
namespace Go.Proofs.YtmadpclcmjahoaaGreatDoor
open Go.RowKit Go.Redl
theorem c_H:∀ (p:List Int) (n k:aK),kK n p=some k ->∀z∈p,0 <= z/\z < n.wt
 | [],n,k,h,z,hz=>by cases hz
 | i ::p,n,k,h,z,hz=>by
   obtain⟨j,rfl,hj,h2⟩:=iV h
   have h3:=fX (aQ n)
   have h4:dX (aQ n) < n.wt:=by cases n;simp only [aK.wt,aQ];omega
   rcases List.mem_cons.1 hz with rfl | hz
   . omega
   . have h5:=c_H p _ k h2 z hz
     have h6:=iK (List.getElem_mem hj)
     omega
theorem c_I:∀ (p:List Int) (n k:aK),kK n p=some k ->p.length < n.wt
 | [],n,k,h=>by have:=G5 n;show 0 < n.wt;omega
 | i::p,n,k,h=>by
   obtain⟨j,rfl,hj,h2⟩:=iV h
   have h4:dX (aQ n) < n.wt:=by cases n;simp only [aK.wt,aQ];omega
   have h5:=c_I p _ k h2
   have h6:=iK (List.getElem_mem hj)
   simp only [List.length_cons]
   omega
theorem k_J {n X m:aK} {p:List Int} (h:FK n p m=(X,0)):(∀z∈p,0 <= z/\z <= n.wt)/\p.length <= n.wt:=by
 unfold FK at h
 split at h
 . simp at h
 . rename_i hp
   split at h
   . simp at h
   . rename_i k hk
     split at h
     . simp at h
     . split at h
       . simp at h
       . rename_i hl
         have h1:=c_H _ _ _ hk
         have h2:=c_I _ _ _ hk
         have h3:=uK _ _ _ hk
         have h4:=fX (aQ k)
         have h5:dX (aQ k) < k.wt:=by cases k;simp only [aK.wt,aQ];omega
         rw [<- d_z hp]
         refine⟨fun z hz=> ?_,by simp at h2⊢;omega⟩
         rcases List.mem_append.1 hz with hz | hz
         . have:=h1 z hz;omega
         . rw [List.mem_singleton.1 hz];omega
theorem c_J {n X:aK} {o:j7} (hk:E3 o.kind) (hw:n.wt <= 100000000) (h:lQ n o.full=(X,0)):(∀z∈o.path,0 <= z/\z <= n.wt)/\o.path.length <= n.wt:=by
 obtain⟨-, -, -, -,⟨-, -,h2⟩ | ⟨-,R,k,h2, -, -, -, -⟩⟩:=AV hk hw h
 . exact k_J h2
 . obtain ⟨hp,h3, -⟩:=b_4 h2
   exact⟨fun z hz=>by have:=c_H _ _ _ h3 z hz;omega,Nat.le_of_lt (c_I _ _ _ h3)⟩
theorem k_K:∀args w,(callFunc 65 args).run Tryz.prog w= .ok (.enter 65 args) w:=by intro args w;kernel_rfl
def k_L (W:World) (X:aK) (e:Ending) (w':World):Prop:=Below W.heap.size W w'/\∃ (x0:Bool) (x1 x2 x3:Option Addr) (y1 y2 y3 z1 z2 z3:Nat) (sa sb:Option Addr) (sc sd:Nat),
 e= .returned (.tuple #[.agg #[.bool x0, .slice x1 y1 z1, .slice x2 y2 z2, .slice x3 y3 z3], .agg #[.bool false, .slice sa 0 sc, .int .i64 0, .slice sb 0 sd, .int .i64 0], .int .i64 0])/\NodeQ w' (fun b=>W.heap.size <= b) X [.bool x0, .slice x1 y1 z1, .slice x2 y2 z2, .slice x3 y3 z3]
theorem m_e (n X:aK) (p d:List Int) (kd pos:Int) (nd:aK) (ol:List eK) (b1 b2 b3:Option Addr) (o1 o2 o3 d1 d2 d3:Nat) (pa ta oa:Option Addr) (pc tc oc:Nat) (l0:Bool) (a1 a2 a3:Option Addr) (m1 m2 m3 c1 c2 c3:Nat) (W:World)
 (hbn:n.wt <= 1000000) (hv:bY W W.heap.size n (.agg #[.bool false, .slice b1 o1 d1, .slice b2 o2 d2, .slice b3 o3 d3])) (hbig:nd.wt <= 1000000) (hn:bY W W.heap.size nd (.agg #[.bool l0, .slice a1 m1 c1, .slice a2 m2 c2, .slice a3 m3 c3]))
 (hp:RowA W W.heap.size 1 pa p.length pc (p.map (Value.int .i64))) (hd:RowA W W.heap.size 1 ta d.length tc (d.map (Value.int .i64))) (hdl:d.length <= 1000000) (ho:RowA W W.heap.size 2 oa ol.length oc (bK ol)) (hol:ol.length <= 100000000)
 (hk:E3 kd) (happ:lQ n (j7.full ⟨kd,p,d,pos,nd,ol⟩)=(X,0)):
 Calls Tryz.prog 14 #[.agg #[.bool false, .slice b1 o1 d1, .slice b2 o2 d2, .slice b3 o3 d3],IK, .agg #[.int .i64 kd, .slice pa p.length pc, .slice ta d.length tc, .int .i64 pos, .bool l0, .slice a1 m1 c1, .slice a2 m2 c2, .slice a3 m3 c3, .slice oa ol.length oc, .slice none 0 0, .slice none 0 0, .bool false, .slice none 0 0, .int .i64 0, .slice none 0 0, .int .i64 0, .bool false, .slice none 0 0, .int .i64 0, .slice none 0 0, .int .i64 0]] W (k_L W X):=by
 obtain⟨hnum,hpl⟩:=c_J (o:=⟨kd,p,d,pos,nd,ol⟩) hk (by omega) happ
 simp only at hnum hpl
 have hpl:p.length <= 1000000:=by omega
 have hpw:∀z∈p, -9223372036854775807 <= z/\z <= 9223372036854775807:=fun z hz=>by have:=hnum z hz;omega
 have hXw:=FZ (o:=⟨kd,p,d,pos,nd,ol⟩) hk (by omega) happ
 obtain⟨hE,hl0,hne,hfo,hpart⟩:=AV (o:=⟨kd,p,d,pos,nd,ol⟩) hk (by omega) happ
 obtain⟨fs,hf1,hfs,hfl⟩:=g_O hk
 have hall:∀c∈onB (AQ p d pos nd ol),c∈fs:=f_r (o:=⟨kd,p,d,pos,nd,ol⟩) hfo hf1
 simp only at hne hpart
 have h3:kd=3 ->0 < iJ p:=by
  rcases hpart with⟨h, -⟩ | ⟨-,R,k, -, -, -,h, -⟩
  . intro e;omega
  . exact h
 have h5:kd=5 ->d≠ []:=by
  rcases hpart with⟨h, -⟩ | ⟨-,R,k, -, -, -, -,h⟩
  . intro e;omega
  . exact h
 obtain⟨w0,hw0⟩:∃w0,w0=((((W.alloc (Obj.cells #[.bool false, .slice b1 o1 d1, .slice b2 o2 d2, .slice b3 o3 d3] 35)).alloc (Obj.cells #[.bool false, .slice none 0 0, .int .i64 0, .slice none 0 0, .int .i64 0] 53)).alloc (Obj.cells #[.int .i64 kd, .slice pa p.length pc, .slice ta d.length tc, .int .i64 pos, .bool l0, .slice a1 m1 c1, .slice a2 m2 c2, .slice a3 m3 c3, .slice oa ol.length oc, .slice none 0 0, .slice none 0 0, .bool false, .slice none 0 0, .int .i64 0, .slice none 0 0, .int .i64 0, .bool false, .slice none 0 0, .int .i64 0, .slice none 0 0, .int .i64 0] 55)).alloc (Obj.cells #[.bool false, .slice none 0 0, .slice none 0 0, .slice none 0 0] 35)).alloc (Obj.cells #[.bool false, .slice none 0 0, .int .i64 0, .slice none 0 0, .int .i64 0] 53):=⟨_,rfl⟩
 have hb0:Below W.heap.size W w0:=by rw [hw0];exact N4 _ _ _ _ _ _
 have hs0:w0.heap.size=W.heap.size+5:=by rw [hw0];simp
 have hA:At w0 W.heap.size [.bool false, .slice b1 o1 d1, .slice b2 o2 d2, .slice b3 o3 d3] 35:=by rw [hw0];exact((((At.fresh W _ _).alloc _).alloc _).alloc _).alloc _
 have hS:At w0 (W.heap.size+1) [.bool false, .slice none 0 0, .int .i64 0, .slice none 0 0, .int .i64 0] 53:=by rw [hw0];exact(((At.second W _ _ _).alloc _).alloc _).alloc _
 have hO:At w0 (W.heap.size+1+1) [.int .i64 kd, .slice pa p.length pc, .slice ta d.length tc, .int .i64 pos, .bool l0, .slice a1 m1 c1, .slice a2 m2 c2, .slice a3 m3 c3, .slice oa ol.length oc, .slice none 0 0, .slice none 0 0, .bool false, .slice none 0 0, .int .i64 0, .slice none 0 0, .int .i64 0, .bool false, .slice none 0 0, .int .i64 0, .slice none 0 0, .int .i64 0] 55:=by rw [hw0];exact((At.third W _ _ _ _).alloc _).alloc _
 have hB:At w0 (W.heap.size+1+1+1) [.bool false, .slice none 0 0, .slice none 0 0, .slice none 0 0] 35:=by rw [hw0];exact(At.fourth W _ _ _ _ _).alloc _
 have hC:At w0 (W.heap.size+1+1+1+1) [.bool false, .slice none 0 0, .int .i64 0, .slice none 0 0, .int .i64 0] 53:=by rw [hw0];exact At.fifth W _ _ _ _ _ _
 have hnk:∀w',Below w0.heap.size w0 w' ->bY w' w'.heap.size nd (.agg #[.bool l0, .slice a1 m1 c1, .slice a2 m2 c2, .slice a3 m3 c3]):=fun w' hb=>by
  obtain⟨cs,he,hc⟩:=hn
  exact⟨cs,he,dJ.keep (hb0.trans (hb.mono hb0.size)) (hb0.trans (hb.mono hb0.size)).size _ _ hc⟩
 have hvk:∀w',Below w0.heap.size w0 w' ->bY w' w'.heap.size n (.agg #[.bool false, .slice b1 o1 d1, .slice b2 o2 d2, .slice b3 o3 d3]):=fun w' hb=>by
  obtain⟨cs,he,hc⟩:=hv
  exact⟨cs,he,dJ.keep (hb0.trans (hb.mono hb0.size)) (hb0.trans (hb.mono hb0.size)).size _ _ hc⟩
 have hrk:∀ {sz:Nat} {a:Option Addr} {n c:Nat} {cs:List Value} (w':World),Below w0.heap.size w0 w' ->RowA W W.heap.size sz a n c cs ->RowA w' w'.heap.size sz a n c cs:=fun w' hb hr=>hr.keep (hb0.trans (hb.mono hb0.size)) (hb0.trans (hb.mono hb0.size)).size
 have HM:=a6 (n_3 n p d kd pos nd ol b1 b2 b3 o1 o2 o3 d1 d2 d3 pa ta oa pc tc oc l0 a1 a2 a3 m1 m2 m3 c1 c2 c3 w0 (by omega) (hvk w0 (a7)) hE (by omega) (hnk w0 (a7)) hne fs hfs hfl hall)
 have HT:=a6 (fun(w':World) (hb:Below w0.heap.size w0 w')=>m_d p d kd pos nd ol pa ta oa pc tc oc l0 a1 a2 a3 m1 m2 m3 c1 c2 c3 w' (by omega) (hnk w' hb) hne fs hfs hfl hall (hrk w' hb hp) hpl (hrk w' hb hd) hdl (hrk w' hb ho) hol hk h3 h5 hpw)
 have HH:Hid (∀w',Below w0.heap.size w0 w' ->Calls Tryz.prog 66 #[.agg #[.bool false, .slice b1 o1 d1, .slice b2 o2 d2, .slice b3 o3 d3], .agg #[.int .i64 kd, .slice pa p.length pc, .slice ta d.length tc, .int .i64 pos, .bool l0, .slice a1 m1 c1, .slice a2 m2 c2, .slice a3 m3 c3, .slice oa ol.length oc, .slice none 0 0, .slice none 0 0, .bool false, .slice none 0 0, .int .i64 0, .slice none 0 0, .int .i64 0, .bool false, .slice none 0 0, .int .i64 0, .slice none 0 0, .int .i64 0]] w' (vX w' (X,0))):=by
  show ∀w',_
  intro w' hb
  rcases hpart with⟨rfl,hE2,hadd⟩ | ⟨-,R,k,hcut,hdo, -, -, -⟩
  . exact g_P n X p d pos nd ol _ pa ta oa pc tc oc l0 a1 a2 a3 m1 m2 m3 c1 c2 c3 w' (by omega) (hvk w' hb) (by omega) (hnk w' hb) (hrk w' hb hp) hpl hE2 hadd
  . have hcw:=k_i hcut
    exact g_M n R k X p d kd pos nd ol _ pa ta oa pc tc oc l0 a1 a2 a3 m1 m2 m3 c1 c2 c3 w' (by omega) (by omega) (by omega) (hvk w' hb) (by omega) (hnk w' hb) hne (hrk w' hb hp) hpl hpw (hrk w' hb hd) hdl (hrk w' hb ho) hcut hdo
 have hk9:((kd:Int) == 9)=false:=by rcases hk with h | h | h | h <;> subst h <;> rfl
 have HA:=a6 hA;have HS:=a6 hS;have HO:=a6 hO;have HB:=a6 hB;have HC:=a6 hC
 have Hb0:=a6 hb0;have Hs0:=a6 hs0;have Hw0:=a6 hw0
 obtain⟨⟨f0,f1,f2,f3⟩, -,fl⟩:=hA.f4
 have s0:=hS.cell 0 rfl;have s1:=hS.cell 1 rfl;have s2:=hS.cell 2 rfl;have s3:=hS.cell 3 rfl;have s4:=hS.cell 4 rfl;have sl:=hS.lt
 clear hA hS hO hB hC hb0 hs0 hw0 hn hv hp hd ho hnk hvk hrk hfs hall h3 h5 hne hpw hk happ hXw hpart hnum hE hl0 hfo hf1
 unfold k_L
 go_enter Tryz.func14,Tryz.ntmps14
 go_upto_region 1 with fail
 rw [<- Hw0.o]
 clear Hw0
 go_wp2_with (refine dK rfl _ _ rfl (W.heap.size+1+1) #[.int .i64 kd, .slice pa p.length pc, .slice ta d.length tc, .int .i64 pos, .bool l0, .slice a1 m1 c1, .slice a2 m2 c2, .slice a3 m3 c3, .slice oa ol.length oc, .slice none 0 0, .slice none 0 0, .bool false, .slice none 0 0, .int .i64 0, .slice none 0 0, .int .i64 0, .bool false, .slice none 0 0, .int .i64 0, .slice none 0 0, .int .i64 0] rfl HO.o _ Tryz.underlying55 rfl (by kernel_rfl) ?_)
 refine HM.o.mono ?_
 rintro e w1 ⟨rfl,hbel⟩
 have Hb1:=a6 hbel
 have HO1:=a6 (HO.o.kept hbel)
 have k0:=HO1.o.cell 0 rfl;have kl:=HO1.o.lt
 clear hbel HM f0 f1 f2 f3 fl s0 s1 s2 s3 s4 sl
 go_upto_region 11 with fail
 clear k0 kl
 obtain⟨⟨f0,f1,f2,f3⟩, -,fl⟩:=(HA.o.kept Hb1.o).f4
 go_wp2_with (refine dK rfl _ _ rfl (W.heap.size+1+1) #[.int .i64 kd, .slice pa p.length pc, .slice ta d.length tc, .int .i64 pos, .bool l0, .slice a1 m1 c1, .slice a2 m2 c2, .slice a3 m3 c3, .slice oa ol.length oc, .slice none 0 0, .slice none 0 0, .bool false, .slice none 0 0, .int .i64 0, .slice none 0 0, .int .i64 0, .bool false, .slice none 0 0, .int .i64 0, .slice none 0 0, .int .i64 0] rfl HO1.o _ Tryz.underlying55 rfl (by kernel_rfl) ?_)
 refine(HH.o w1 Hb1.o).mono ?_
 rintro e w2 htp
 obtain⟨hbel,⟨-,x0,x1,y1,z1,x2,y2,z2,x3,y3,z3,rfl,hX⟩ | ⟨h, -⟩⟩:=htp.cases
 rotate_left
 . exact absurd rfl h
 simp only at hX
 have Hb2:=a6 (b5 Hb1.o hbel)
 have HX2:=a6 hX
 have Hs12p:=a6 hbel.size
 have Hsz1:=a6 (show W.heap.size+5 <= w1.heap.size by have h1:=Hb1.o.size;have h2:=Hs0.o;omega)
 clear htp hbel hX HH HO1 HA f0 f1 f2 f3 fl
 go_upto_region 12 with fail
 obtain⟨w3,hw3⟩:∃w3,w3=w2.alloc (Obj.cells #[.bool x0, .slice x1 y1 z1, .slice x2 y2 z2, .slice x3 y3 z3] 35):=⟨_,rfl⟩
 have hb3:Below w2.heap.size w2 w3:=by rw [hw3];exact aX _ _
 have HN3:=a6 (show At w3 w2.heap.size [.bool x0, .slice x1 y1 z1, .slice x2 y2 z2, .slice x3 y3 z3] 35 by rw [hw3];exact At.fresh _ _ _)
 have Hb3:=a6 (b5 Hb2.o hb3)
 have HX3:=a6 (show NodeQ w3 (fun b=>w1.heap.size <= b/\b≠w2.heap.size) X [.bool x0, .slice x1 y1 z1, .slice x2 y2 z2, .slice x3 y3 z3]from NodeQ.keep hb3.size (fun b _ hlt=>hb3.block b hlt) (fun b hb hlt=>⟨hb,by omega⟩) _ _ HX2.o)
 rw [<- hw3]
 have hl:=At.load (P:=Tryz.prog) (HO.o.kept Hb3.o) Tryz.underlying55 rfl (by kernel_rfl)
 simp [go_sem]at hl
 have HS3:=a6 (HS.o.kept Hb3.o)
 have s0:=HS3.o.cell 0 rfl;have s1:=HS3.o.cell 1 rfl;have s2:=HS3.o.cell 2 rfl;have s3:=HS3.o.cell 3 rfl;have s4:=HS3.o.cell 4 rfl;have sl:=HS3.o.lt
 have HT3:=a6 (HT.o w3 Hb3.o)
 clear hw3 hb3 HT HX2
 go_wp2_with fail
 refine HT3.o.mono ?_
 rintro e w4 ⟨rfl,hbel⟩
 have Hb4:=a6 (b5 Hb3.o hbel)
 have HN4:=a6 (HN3.o.kept hbel);have HS4:=a6 (HS3.o.kept hbel)
 have HX4:=a6 (show NodeQ w4 (fun b=>w1.heap.size <= b/\b≠w2.heap.size) X [.bool x0, .slice x1 y1 z1, .slice x2 y2 z2, .slice x3 y3 z3]from NodeQ.keep hbel.size (fun b _ hlt=>hbel.block b hlt) (fun _ h _=>h) _ _ HX3.o)
 have Hs12:=a6 Hs12p.o
 clear hbel HT3 HX3 hl s0 s1 s2 s3 s4 sl HN3 HS3
 go_upto_region 16 with fail
 have HB4:=a6 (HB.o.kept Hb4.o);have HC4:=a6 (HC.o.kept Hb4.o)
 have hsz1:W.heap.size+5 <= w1.heap.size:=Hsz1.o
 have hsz2:w1.heap.size <= w2.heap.size:=Hs12.o
 have HNS:Hid (∀w',At w' w2.heap.size [.bool x0, .slice x1 y1 z1, .slice x2 y2 z2, .slice x3 y3 z3] 35 ->At w' (W.heap.size+1) [.bool false, .slice none 0 0, .int .i64 0, .slice none 0 0, .int .i64 0] 53 ->w'.cell? ⟨w2.heap.size,0,none⟩=some (.bool x0)/\w'.cell? ⟨w2.heap.size,1,none⟩=some (.slice x1 y1 z1)/\w'.cell? ⟨w2.heap.size,2,none⟩=some (.slice x2 y2 z2)/\w'.cell? ⟨w2.heap.size,3,none⟩=some (.slice x3 y3 z3)/\w'.cell? ⟨W.heap.size+1,0,none⟩=some (.bool false)/\w'.cell? ⟨W.heap.size+1,1,none⟩=some (.slice none 0 0)/\w'.cell? ⟨W.heap.size+1,2,none⟩=some (.int .i64 0)/\w'.cell? ⟨W.heap.size+1,3,none⟩=some (.slice none 0 0)/\w'.cell? ⟨W.heap.size+1,4,none⟩=some (.int .i64 0)):=by
  show ∀w',_
  intro w' h1 h2
  exact⟨h1.cell 0 rfl,h1.cell 1 rfl,h1.cell 2 rfl,h1.cell 3 rfl,h2.cell 0 rfl,h2.cell 1 rfl,h2.cell 2 rfl,h2.cell 3 rfl,h2.cell 4 rfl⟩
 go_cut [8] (fun r wx=>r= .int .i64 0/\(∃ (sa sb:Option Addr) (sc sd:Nat),At wx (W.heap.size+1+1+1+1) [.bool false, .slice sa 0 sc, .int .i64 0, .slice sb 0 sd, .int .i64 0] 53)/\At wx (W.heap.size+1+1+1) [.bool x0, .slice x1 y1 z1, .slice x2 y2 z2, .slice x3 y3 z3] 35/\NodeQ wx (fun b=>w1.heap.size <= b/\b≠w2.heap.size) X [.bool x0, .slice x1 y1 z1, .slice x2 y2 z2, .slice x3 y3 z3]/\Below W.heap.size W wx)
 case first=>
  go_region_held3 (fun w'=>w'.cell? ⟨w2.heap.size,0,none⟩=some (.bool x0)/\w'.cell? ⟨w2.heap.size,1,none⟩=some (.slice x1 y1 z1)/\w'.cell? ⟨w2.heap.size,2,none⟩=some (.slice x2 y2 z2)/\w'.cell? ⟨w2.heap.size,3,none⟩=some (.slice x3 y3 z3)/\w'.cell? ⟨W.heap.size+1,0,none⟩=some (.bool false)/\w'.cell? ⟨W.heap.size+1,1,none⟩=some (.slice none 0 0)/\w'.cell? ⟨W.heap.size+1,2,none⟩=some (.int .i64 0)/\w'.cell? ⟨W.heap.size+1,3,none⟩=some (.slice none 0 0)/\w'.cell? ⟨W.heap.size+1,4,none⟩=some (.int .i64 0)) (refine HNS.o _ (by(repeat (first | with_reducible exact HN4.o | with_reducible exact HN5.o | with_reducible exact At.second _ _ _ _ | with_reducible exact At.fresh _ _ _ | with_reducible refine At.drew ?_ | with_reducible refine At.alloc ?_ _ | (with_reducible refine At.set_ne ?_ ?_ _;rotate_left;omega)))) (by(repeat (first | with_reducible exact HS4.o | with_reducible exact HS5.o | with_reducible exact At.second _ _ _ _ | with_reducible exact At.fresh _ _ _ | with_reducible refine At.drew ?_ | with_reducible refine At.alloc ?_ _ | (with_reducible refine At.set_ne ?_ ?_ _;rotate_left;omega)))))
   (first
   | (refine b9 rfl 65 _ _ rfl k_K [IK] ?_ _ (n_b _) ?_
      . go_simp
      rintro e w5 ⟨⟨sa,sc,sb,sd,rfl⟩,hbel⟩
      refine⟨_,rfl, ?_⟩
      have Hb45:=a6 (Below.and (w0:=w4) (by((repeat (first | with_reducible exact a7 | with_reducible refine Below.drew ?_ | with_reducible refine Below.alloc ?_ ?_ _ | with_reducible refine Below.setCell ?_ ?_ _)) <;> (first | with_reducible exact a8 | (simp;done) | (simp;omega) | omega))) hbel)
      have HN5:=a6 (HN4.o.kept Hb45.o);have HS5:=a6 (HS4.o.kept Hb45.o)
      have HB5:=a6 (HB4.o.kept Hb45.o);have HC5:=a6 (HC4.o.kept Hb45.o)
      obtain⟨⟨f0,f1,f2,f3⟩,ff,fl⟩:=HB5.o.f4
      have g0:=HC5.o.cell 0 rfl;have g1:=HC5.o.cell 1 rfl;have g2:=HC5.o.cell 2 rfl;have g3:=HC5.o.cell 3 rfl;have g4:=HC5.o.cell 4 rfl;have gl:=HC5.o.lt
      have gf:=fun j=>Lib.frozen_of_heap HC5.o j
      clear hbel))
  all_goals
   go_wp2_with fail
   go_meet
   case rel=>
    have n43:W.heap.size+1+1+1+1≠W.heap.size+1+1+1:=by omega
    have n34:W.heap.size+1+1+1≠W.heap.size+1+1+1+1:=by omega
    have q3:¬ (w1.heap.size <= W.heap.size+1+1+1/\W.heap.size+1+1+1≠w2.heap.size):=by omega
    have q4:¬ (w1.heap.size <= W.heap.size+1+1+1+1/\W.heap.size+1+1+1+1≠w2.heap.size):=by omega
    have l3:W.heap.size <= W.heap.size+1+1+1:=by omega
    have l4:W.heap.size <= W.heap.size+1+1+1+1:=by omega
    have hb5:=Hb0.o.trans ((b5 Hb4.o Hb45.o).mono Hb0.o.size)
    have HX5:=a6 (show NodeQ w5 (fun b=>w1.heap.size <= b/\b≠w2.heap.size) X [.bool x0, .slice x1 y1 z1, .slice x2 y2 z2, .slice x3 y3 z3]from NodeQ.keep Hb45.o.size (fun b _ hlt=>Hb45.o.block b hlt) (fun _ h _=>h) _ _ HX4.o)
    refine⟨rfl,⟨sa,sb,sc,sd, ?_⟩, ?_, ?_, ?_⟩
    . exact(((((((((HC5.o.set_ne n43 _).set_ne n43 _).set_ne n43 _).set_ne n43 _).set 0 _).set 1 _).set 2 _).set 3 _).set 4 _)
    . exact(((((((((HB5.o.set 0 _).set 1 _).set 2 _).set 3 _).set_ne n34 _).set_ne n34 _).set_ne n34 _).set_ne n34 _).set_ne n34 _)
    . exact(cQ (cQ (cQ (cQ (cQ (cQ (cQ (cQ (cQ HX5.o q3) q3) q3) q3) q4) q4) q4) q4) q4)
    . exact(((((((((hb5.setCell (p:=⟨W.heap.size+1+1+1,0,none⟩) l3 _).setCell (p:=⟨W.heap.size+1+1+1,1,none⟩) l3 _).setCell (p:=⟨W.heap.size+1+1+1,2,none⟩) l3 _).setCell (p:=⟨W.heap.size+1+1+1,3,none⟩) l3 _).setCell (p:=⟨W.heap.size+1+1+1+1,0,none⟩) l4 _).setCell (p:=⟨W.heap.size+1+1+1+1,1,none⟩) l4 _).setCell (p:=⟨W.heap.size+1+1+1+1,2,none⟩) l4 _).setCell (p:=⟨W.heap.size+1+1+1+1,3,none⟩) l4 _).setCell (p:=⟨W.heap.size+1+1+1+1,4,none⟩) l4 _)
 case rest=>
  obtain⟨rfl,⟨sa,sb,sc,sd,hC⟩,hB,hX,hbel⟩:=hcut
  have HX:=a6 hX;have Hbel:=a6 hbel
  have Hsz:=a6 (aJ (show W.heap.size <= W.heap.size+5 by omega) hsz1)
  obtain⟨⟨f0,f1,f2,f3⟩,ff,fl⟩:=hB.f4
  have g0:=hC.cell 0 rfl;have g1:=hC.cell 1 rfl;have g2:=hC.cell 2 rfl;have g3:=hC.cell 3 rfl;have g4:=hC.cell 4 rfl
  clear hB hC hX hbel hsz1 hsz2
  go_wp2_with fail
  refine bodyPost_ret (v:= .tuple #[.agg #[.bool x0, .slice x1 y1 z1, .slice x2 y2 z2, .slice x3 y3 z3], .agg #[.bool false, .slice sa 0 sc, .int .i64 0, .slice sb 0 sd, .int .i64 0], .int .i64 0]) (by simp [results,Tryz.results14,go_sem,f0,f1,f2,f3,g0,g1,g2,g3,g4]) rfl ?_
  exact⟨Hbel.o,x0,x1,x2,x3,y1,y2,y3,z1,z2,z3,sa,sb,sc,sd,rfl,NodeQ.keep (a8) (fun _ _ _=>rfl) (fun b hb _=>aJ Hsz.o hb.1) _ _ HX.o⟩
theorem e_t {P:Program} {ops:Array Oper} {rest:List Oper} {o:Oper} {a:Act} {w:World} {Q:Exit ->Act ->World ->Prop} (hg:o.guard=none) (ty:TypeId) (x:Operand) (ho:o.op= .load ty x)
 (N off:Nat) (vs:Array Value) (hx:a.eval x= .pointer (some ⟨N,off,none⟩)) (h:w.rangeAt N off vs.toList) (d:TypeDesc) (hu:P.underlying ty=some d) (hd:d.isRow=true) (hi:(P.info? ty).map (·.size)=some vs.size)
 (hk:wpList P ops Q rest (a.put o.dst (.agg vs)) w):wpList P ops Q (o::rest) a w:=
 wpList_load_mid hg ty x ho N off hx vs.toList d h hu hd (by simpa using hi) (by simpa using hk)
theorem c_K {w:World} {ok:Nat ->Prop} {n:aK} {b:Bool} {r:List Value} (h:NodeQ w ok n (.bool b::r)):b=aZ n:=by
 obtain⟨l,ps,t,ks⟩:=n
 unfold NodeQ at h
 obtain⟨_,_,_,_,_,_,_,he, -⟩:=h
 injection he with e1 _
 injection e1
def xV:List j7 ->Nat
 | []=>0
 | o::l=>(if o.kind=1 then o.node.wt else 0)+xV l
theorem b_y {n X:aK} {o:yK} {l:List yK} (h:nV n (o::l)=some X):∃T,lQ n o=(T,0)/\nV T l=some X:=by
 rw [GV]at h
 split at h
 . rename_i h0
   exact⟨(lQ n o).1,by rw [<- h0],h⟩
 . cases h
def b_7:b8:=⟨[⟨[100,111,99],(4, [112]),(1, []), [],0, []⟩],⟨[],(1, []),(1, []), [],0, []⟩, [1,2,3,4,5,6],100⟩
def n_j (W:World) (e:Ending) (w':World):Prop:= ∃v,e= .returned v/\SchemaV w' w'.heap.size b_7 v/\Below W.heap.size W w'
def c_L:List Value:= [.string ⟨#[100,111,99]⟩, .int .i64 4, .string ⟨#[112]⟩, .int .i64 1, .string ⟨#[]⟩, .slice none 0 0, .int .i64 0, .string ⟨#[]⟩]
def a_8 (N:Nat):List Value:= [.slice (some ⟨N,0,none⟩) 1 1, .string ⟨#[]⟩, .int .i64 1, .string ⟨#[]⟩, .int .i64 1, .string ⟨#[]⟩, .slice none 0 0, .int .i64 0, .string ⟨#[]⟩, .int .i64 1, .int .i64 2, .int .i64 3, .int .i64 4, .int .i64 5, .int .i64 6, .int .i64 100]
theorem m_f {w:World} {N:Nat} (h:At w N c_L 27):SchemaV w w.heap.size b_7 (.agg (a_8 N).toArray):=by
 refine⟨_,rfl,some ⟨N,0,none⟩,1,c_L,mZ b_7.els none 0,rfl, ?_,⟨c_L, [],by simp,⟨none,0,rfl,RowA.empty _ _ _⟩,rfl⟩,⟨none,0,rfl,RowA.empty _ _ _⟩,rfl⟩
 refine⟨rfl,a8,by unfold maxLen;decide,by intro u hu;simp [c_L]at hu;rcases hu with rfl | rfl | rfl | rfl | rfl | rfl | rfl | rfl <;> rfl,(fun h=>by cases h),fun _=>⟨N,0,rfl,h.lt,fun j u hj=>by rw [Nat.zero_add];exact h.cell j hj⟩⟩
theorem m_g (W:World):Calls Tryz.prog 30 #[] W (n_j W):=by
 go_enter Tryz.func30,Tryz.ntmps30
 go_wp2_with fail
 obtain⟨w4,hw4⟩:∃w4,w4=(((W.alloc (Obj.cells (a_8 (W.heap.size+1+1+1)).toArray 30)).alloc (Obj.cells #[Value.int IntKind.i64 1,Value.string ⟨#[]⟩] 24)).alloc (Obj.cells c_L.toArray 27)).alloc (Obj.cells c_L.toArray 27):=⟨_,rfl⟩
 have hA:At w4 W.heap.size (a_8 (W.heap.size+1+1+1)) 30:=by rw [hw4];exact(((At.fresh _ _ _).alloc _).alloc _).alloc _
 have hD:At w4 (W.heap.size+1+1+1) c_L 27:=by
  rw [hw4]
  have h:=At.fresh (((W.alloc (Obj.cells (a_8 (W.heap.size+1+1+1)).toArray 30)).alloc (Obj.cells #[Value.int IntKind.i64 1,Value.string ⟨#[]⟩] 24)).alloc (Obj.cells c_L.toArray 27)) c_L 27
  simpa using h
 have hb:Below W.heap.size W w4:=by
  rw [hw4]
  exact(((a7).alloc (a8) _).alloc (by simp) _ |>.alloc (by simp;omega) _).alloc (by simp;omega) _
 have hld:=run_loadVar_mid (P:=Tryz.prog) w4 W.heap.size 0 30 (a_8 (W.heap.size+1+1+1)) _ (fun j v hj=>by rw [Nat.zero_add];exact hA.cell j hj) Tryz.underlying30 rfl (by kernel_rfl)
 show bodyPost _ _ _ _ _ ((((W.alloc (Obj.cells (a_8 (W.heap.size+1+1+1)).toArray 30)).alloc (Obj.cells #[Value.int IntKind.i64 1,Value.string ⟨#[]⟩] 24)).alloc (Obj.cells c_L.toArray 27)).alloc (Obj.cells c_L.toArray 27))
 rw [<- hw4]
 refine bodyPost_ret (v:= .agg (a_8 (W.heap.size+1+1+1)).toArray) (by simp [results,Tryz.results30,asAddr,hld]) rfl ⟨_,rfl,m_f hD,hb⟩
def k_M:aK:= .mk false [(F6, [100,111,99])] [] [.mk true [] [97] []]
def k_N:List j7:= [⟨1, [0], [],0,fQ [112], []⟩,⟨5, [1], [0,0],0,bZ, []⟩]
theorem k_O:D4 b_7 k_M []=(k_N,0):=by kernel_rfl
theorem n_k (W:World):Calls Tryz.prog 8 #[] W fun e w'=>e= .returned (.bool true)/\Below W.heap.size W w':=by
 have HW:=a6 (m_g W)
 have HL:=a6 (fun(w:World)=>n_7 97 rfl [] none 0 w (RowA.empty _ _ _))
 have hE:=fun(w1:World) (cells:List Value) (hc:cells.length=4) (hn:dJ w1 w1.heap.size (.mk true [] [97] []) cells)=>
  a6 (n_8 100 [111,99] (some ⟨w1.heap.size,0,none⟩) 1 [.mk true [] [97] []] cells (w1.alloc (Obj.cells cells.toArray 35)) (L2 4 1 cells hc (by omega) hn.one (a7)) (by
   unfold dQ
   exact⟨cells, [],by simp,dJ.keep (d_i w1 _) (d_i w1 _).size _ _ hn,by unfold dQ;rfl⟩))
 have HE:=a6 hE
 have HO:=a6 (fun(sv v:Value) (w1:World) (hs:SchemaV w1 w1.heap.size b_7 sv) (hv:bY w1 w1.heap.size k_M v)=>by
  have h:=k_x b_7 sv k_M v [] none 0 w1 (by decide) (by decide) hs hv (RowA.empty _ _ _) (by simp)
  rw [k_O]at h
  exact h)
 clear hE
 go_enter Tryz.func8,Tryz.ntmps8
 go_wp2_with fail
 refine HW.o.mono ?_
 rintro e w1 ⟨sv,rfl,hsv,hbel⟩
 have Hb1:=a6 hbel;have Hsv:=a6 hsv
 have HL1:=HL.o w1
 clear hbel hsv HW HL
 go_wp2_with fail
 refine HL1.mono ?_
 rintro e w2 ⟨ap,cp,at_,ct,rfl,hnc,hbel⟩
 have Hb2:=a6 (fV Hb1.o hbel (a8))
 have Hsv2:=a6 (Hsv.o.keep hbel hbel.size)
 have HE1:=HE.o w2 _ rfl hnc
 clear hbel hnc HL1 HE Hsv
 go_wp2_with fail
 refine HE1.o.mono ?_
 rintro e w3 ⟨g,rfl,hnc,hbel⟩
 have Hb3:=a6 (fV (Hb2.o.alloc Hb2.o.size _) hbel (a8))
 have hb23:=(aX w2 (Obj.cells #[Value.bool true,Value.slice ap [].length cp,Value.slice at_ 1 ct,Value.slice none 0 0] 35)).trans (hbel.mono (aX w2 _).size)
 have HO1:=a6 (HO.o sv _ w3 (Hsv2.o.keep hb23 hb23.size) ⟨_,rfl,hnc⟩)
 clear hb23
 clear hbel hnc HE1 Hsv2 HO
 go_wp2_with fail
 refine HO1.o.mono ?_
 rintro e w4 ⟨v,rfl,hv,hbel⟩
 have Hb4:=a6 (fV Hb3.o hbel (a8))
 obtain⟨a,c,css,rfl, -, -⟩:=id hv
 obtain⟨b,off,pa,pc,ta,tc,n0,n1,n2,n3,oa,oc,rfl, -, -, -, -, -,k0⟩:=hv.at_ 0 (by decide)
 obtain⟨b',off',pa',pc',ta',tc',n0',n1',n2',n3',oa',oc',e1,hlt,q1,q2, -, -,k1⟩:=hv.at_ 1 (by decide)
 injection e1 with e1;injection e1 with e1 e2;subst e1;subst e2
 have c0:=k0 0 _ rfl
 have c1:=k1 0 _ rfl
 have c2:=k1 1 _ rfl
 have c3:=k1 2 _ rfl
 simp [k_N]at c0 c1 c2 c3
 have hlen:k_N.length=2:=rfl
 rw [hlen]
 have HQ:=a6 (fun(w:World) (hb:Below w4.heap.size w4 w) (p:Option Addr) (hp:RowA w w.heap.size 1 p 1 1 [.int .i64 1])=>d_m [1] pa' p pc' 1 w (q1.row.keep hb hb.size) hp)
 have HT:=a6 (fun(w:World) (hb:Below w4.heap.size w4 w) (p:Option Addr) (hp:RowA w w.heap.size 1 p 2 2 [.int .i64 0, .int .i64 0])=>d_m [0,0] ta' p tc' 2 w (q2.row.keep hb hb.size) hp)
 have Hlt:=a6 hlt
 clear hv k0 k1 q1 q2 hbel hlen hlt HO1
 go_wp2_with fail
 refine(HQ.o _ (aX w4 _) _ (L2 (E:=3) 1 1 [.int .i64 1] rfl (by omega) (by intro u hu;simp at hu;subst hu;rfl) (a7))).mono ?_
 rintro e w5 ⟨rfl,hbel⟩
 have hb5:=(aX w4 (Obj.cells #[Value.int .i64 1] 3)).trans (hbel.mono (aX w4 _).size)
 have d3:=(hb5.cell (by exact Hlt.o)).trans c3
 have Hb5:=a6 hb5
 clear hbel HQ c0 c1 c2 c3 hb5
 go_wp2_with fail
 refine(HT.o _ (Hb5.o.trans ((aX w5 _).mono Hb5.o.size)) _ (L2 (E:=3) 1 2 [.int .i64 0, .int .i64 0] rfl (by omega) (by intro u hu;simp at hu;subst hu;rfl) (a7))).mono ?_
 rintro e w6 ⟨rfl,hbel⟩
 have Hb6:=a6 (Hb4.o.trans ((Hb5.o.trans (((aX w5 (Obj.cells #[Value.int .i64 0,Value.int .i64 0] 3)).trans (hbel.mono (aX w5 _).size)).mono Hb5.o.size)).mono Hb4.o.size))
 clear hbel HT d3
 go_wp2_with fail
 go_ret
 exact⟨rfl,Hb6.o⟩
end Go.Proofs.YtmadpclcmjahoaaGreatDoor
namespace Go.Proofs
open Go.Shelf
def Tryz.sortI_ren:Go.Shelf.Ren:=⟨fun | 5=>91 | 8=>163 | 7=>162 | 19=>214 | 20=>215 | 10=>205 | 11=>206 | 12=>207 | 13=>208 | 14=>209 | 15=>210 | 16=>211 | 17=>212 | 18=>213 | 30=>248 | 31=>249 | 32=>250 | 33=>251 | 34=>252 | 35=>253 | 40=>273 | n=>n,fun | 23=>36 | 25=>3 | 3=>3 | 32=>195 | 22=>36 | 0=>0 | 44=>242 | 46=>244 | 4=>4 | 36=>234 | 35=>233 | 41=>239 | 5=>5 | 9=>9 | 53=>278 | 57=>275 | 63=>298 | 64=>123 | n=>n,fun | n=>n⟩
theorem Tryz.sortI:Go.Proofs.SlLaysM.n5 Tryz.prog Tryz.sortI_ren:={
 mixed:=by kernel_rfl
 f5:=⟨Tryz.f91.name,by decide,Tryz.func91.trans (congrArg some (by kernel_rfl))⟩
 f7:=⟨Tryz.f162.name,by decide,Tryz.func162.trans (congrArg some (by kernel_rfl))⟩
 f8:=Tryz.func163.trans (congrArg some (by kernel_rfl))
 f10:=⟨Tryz.f205.name,by decide,Tryz.func205.trans (congrArg some (by kernel_rfl))⟩
 f11:=⟨Tryz.f206.name,by decide,Tryz.func206.trans (congrArg some (by kernel_rfl))⟩
 f12:=⟨Tryz.f207.name,by decide,Tryz.func207.trans (congrArg some (by kernel_rfl))⟩
 f13:=⟨Tryz.f208.name,by decide,Tryz.func208.trans (congrArg some (by kernel_rfl))⟩
 f14:=⟨Tryz.f209.name,by decide,Tryz.func209.trans (congrArg some (by kernel_rfl))⟩
 f15:=⟨Tryz.f210.name,by decide,Tryz.func210.trans (congrArg some (by kernel_rfl))⟩
 f16:=⟨Tryz.f211.name,by decide,Tryz.func211.trans (congrArg some (by kernel_rfl))⟩
 f17:=⟨Tryz.f212.name,by decide,Tryz.func212.trans (congrArg some (by kernel_rfl))⟩
 f18:=⟨Tryz.f213.name,by decide,Tryz.func213.trans (congrArg some (by kernel_rfl))⟩
 f19:=Tryz.func214.trans (congrArg some (by kernel_rfl))
 f20:=Tryz.func215.trans (congrArg some (by kernel_rfl))
 f30:=⟨Tryz.f248.name,by decide,Tryz.func248.trans (congrArg some (by kernel_rfl))⟩
 f31:=Tryz.func249.trans (congrArg some (by kernel_rfl))
 f32:=Tryz.func250.trans (congrArg some (by kernel_rfl))
 f33:=⟨Tryz.f251.name,by decide,Tryz.func251.trans (congrArg some (by kernel_rfl))⟩
 f34:=⟨Tryz.f252.name,by decide,Tryz.func252.trans (congrArg some (by kernel_rfl))⟩
 f35:=⟨Tryz.f253.name,by decide,Tryz.func253.trans (congrArg some (by kernel_rfl))⟩
 f40:=⟨Tryz.f273.name,by decide,Tryz.func273.trans (congrArg some (by kernel_rfl))⟩
 t0:=Tryz.underlying0
 a0:=Tryz.isAgg0
 z0:=Tryz.sizeOf0
 v0:=Tryz.zeroValue0
 t3:=Tryz.underlying3
 a3:=Tryz.isAgg3
 z3:=Tryz.sizeOf3
 v3:=Tryz.zeroValue3
 t4:=Tryz.underlying4
 a4:=Tryz.isAgg4
 z4:=Tryz.sizeOf4
 v4:=Tryz.zeroValue4
 t5:=Tryz.underlying5
 a5:=Tryz.isAgg5
 z5:=Tryz.sizeOf5
 v5:=Tryz.zeroValue5
 t9:=Tryz.underlying9
 a9:=Tryz.isAgg9
 z9:=Tryz.sizeOf9
 v9:=Tryz.zeroValue9
 t22:=Tryz.underlying36
 a22:=Tryz.isAgg36
 z22:=Tryz.sizeOf36
 v22:=Tryz.zeroValue36
 t23:=Tryz.underlying36
 a23:=Tryz.isAgg36
 z23:=Tryz.sizeOf36
 v23:=Tryz.zeroValue36
 t25:=Tryz.underlying3
 a25:=Tryz.isAgg3
 z25:=Tryz.sizeOf3
 v25:=Tryz.zeroValue3
 t32:=Tryz.underlying195
 a32:=Tryz.isAgg195
 z32:=Tryz.sizeOf195
 v32:=Tryz.zeroValue195
 t35:=Tryz.underlying233
 a35:=Tryz.isAgg233
 z35:=Tryz.sizeOf233
 v35:=Tryz.zeroValue233
 t36:=Tryz.underlying234
 a36:=Tryz.isAgg234
 z36:=Tryz.sizeOf234
 v36:=Tryz.zeroValue234
 t41:=Tryz.underlying239
 a41:=Tryz.isAgg239
 z41:=Tryz.sizeOf239
 v41:=Tryz.zeroValue239
 t44:=Tryz.underlying242
 a44:=Tryz.isAgg242
 z44:=Tryz.sizeOf242
 v44:=Tryz.zeroValue242
 t46:=Tryz.underlying244
 a46:=Tryz.isAgg244
 z46:=Tryz.sizeOf244
 v46:=Tryz.zeroValue244
 t53:=Tryz.underlying278
 a53:=Tryz.isAgg278
 z53:=Tryz.sizeOf278
 v53:=Tryz.zeroValue278
 t57:=Tryz.underlying275
 a57:=Tryz.isAgg275
 z57:=Tryz.sizeOf275
 v57:=Tryz.zeroValue275
 t63:=Tryz.underlying298
 a63:=Tryz.isAgg298
 z63:=Tryz.sizeOf298
 v63:=Tryz.zeroValue298
 t64:=Tryz.underlying123
 a64:=Tryz.isAgg123
 z64:=Tryz.sizeOf123
 v64:=Tryz.zeroValue123 }
def Tryz.sortS_ren:Go.Shelf.Ren:=⟨fun | 6=>99 | 8=>163 | 9=>165 | 19=>214 | 20=>215 | 21=>223 | 22=>224 | 23=>225 | 24=>226 | 25=>227 | 26=>228 | 27=>229 | 28=>230 | 29=>231 | 36=>258 | 31=>249 | 32=>250 | 37=>259 | 38=>260 | 39=>261 | 41=>277 | n=>n,fun | 27=>83 | 29=>9 | 3=>3 | 32=>195 | 26=>83 | 0=>0 | 44=>242 | 46=>244 | 4=>4 | 36=>234 | 35=>233 | 41=>239 | 5=>5 | 9=>9 | 53=>278 | 57=>275 | 63=>298 | 64=>123 | n=>n,fun | n=>n⟩
theorem Tryz.sortS:Go.Proofs.SlLaysM.n6 Tryz.prog Tryz.sortS_ren:={
 mixed:=by kernel_rfl
 f6:=⟨Tryz.f99.name,by decide,Tryz.func99.trans (congrArg some (by kernel_rfl))⟩
 f8:=Tryz.func163.trans (congrArg some (by kernel_rfl))
 f9:=⟨Tryz.f165.name,by decide,Tryz.func165.trans (congrArg some (by kernel_rfl))⟩
 f19:=Tryz.func214.trans (congrArg some (by kernel_rfl))
 f20:=Tryz.func215.trans (congrArg some (by kernel_rfl))
 f21:=⟨Tryz.f223.name,by decide,Tryz.func223.trans (congrArg some (by kernel_rfl))⟩
 f22:=⟨Tryz.f224.name,by decide,Tryz.func224.trans (congrArg some (by kernel_rfl))⟩
 f23:=⟨Tryz.f225.name,by decide,Tryz.func225.trans (congrArg some (by kernel_rfl))⟩
 f24:=⟨Tryz.f226.name,by decide,Tryz.func226.trans (congrArg some (by kernel_rfl))⟩
 f25:=⟨Tryz.f227.name,by decide,Tryz.func227.trans (congrArg some (by kernel_rfl))⟩
 f26:=⟨Tryz.f228.name,by decide,Tryz.func228.trans (congrArg some (by kernel_rfl))⟩
 f27:=⟨Tryz.f229.name,by decide,Tryz.func229.trans (congrArg some (by kernel_rfl))⟩
 f28:=⟨Tryz.f230.name,by decide,Tryz.func230.trans (congrArg some (by kernel_rfl))⟩
 f29:=⟨Tryz.f231.name,by decide,Tryz.func231.trans (congrArg some (by kernel_rfl))⟩
 f31:=Tryz.func249.trans (congrArg some (by kernel_rfl))
 f32:=Tryz.func250.trans (congrArg some (by kernel_rfl))
 f36:=⟨Tryz.f258.name,by decide,Tryz.func258.trans (congrArg some (by kernel_rfl))⟩
 f37:=⟨Tryz.f259.name,by decide,Tryz.func259.trans (congrArg some (by kernel_rfl))⟩
 f38:=⟨Tryz.f260.name,by decide,Tryz.func260.trans (congrArg some (by kernel_rfl))⟩
 f39:=⟨Tryz.f261.name,by decide,Tryz.func261.trans (congrArg some (by kernel_rfl))⟩
 f41:=⟨Tryz.f277.name,by decide,Tryz.func277.trans (congrArg some (by kernel_rfl))⟩
 t0:=Tryz.underlying0
 a0:=Tryz.isAgg0
 z0:=Tryz.sizeOf0
 v0:=Tryz.zeroValue0
 t3:=Tryz.underlying3
 a3:=Tryz.isAgg3
 z3:=Tryz.sizeOf3
 v3:=Tryz.zeroValue3
 t4:=Tryz.underlying4
 a4:=Tryz.isAgg4
 z4:=Tryz.sizeOf4
 v4:=Tryz.zeroValue4
 t5:=Tryz.underlying5
 a5:=Tryz.isAgg5
 z5:=Tryz.sizeOf5
 v5:=Tryz.zeroValue5
 t9:=Tryz.underlying9
 a9:=Tryz.isAgg9
 z9:=Tryz.sizeOf9
 v9:=Tryz.zeroValue9
 t26:=Tryz.underlying83
 a26:=Tryz.isAgg83
 z26:=Tryz.sizeOf83
 v26:=Tryz.zeroValue83
 t27:=Tryz.underlying83
 a27:=Tryz.isAgg83
 z27:=Tryz.sizeOf83
 v27:=Tryz.zeroValue83
 t29:=Tryz.underlying9
 a29:=Tryz.isAgg9
 z29:=Tryz.sizeOf9
 v29:=Tryz.zeroValue9
 t32:=Tryz.underlying195
 a32:=Tryz.isAgg195
 z32:=Tryz.sizeOf195
 v32:=Tryz.zeroValue195
 t35:=Tryz.underlying233
 a35:=Tryz.isAgg233
 z35:=Tryz.sizeOf233
 v35:=Tryz.zeroValue233
 t36:=Tryz.underlying234
 a36:=Tryz.isAgg234
 z36:=Tryz.sizeOf234
 v36:=Tryz.zeroValue234
 t41:=Tryz.underlying239
 a41:=Tryz.isAgg239
 z41:=Tryz.sizeOf239
 v41:=Tryz.zeroValue239
 t44:=Tryz.underlying242
 a44:=Tryz.isAgg242
 z44:=Tryz.sizeOf242
 v44:=Tryz.zeroValue242
 t46:=Tryz.underlying244
 a46:=Tryz.isAgg244
 z46:=Tryz.sizeOf244
 v46:=Tryz.zeroValue244
 t53:=Tryz.underlying278
 a53:=Tryz.isAgg278
 z53:=Tryz.sizeOf278
 v53:=Tryz.zeroValue278
 t57:=Tryz.underlying275
 a57:=Tryz.isAgg275
 z57:=Tryz.sizeOf275
 v57:=Tryz.zeroValue275
 t63:=Tryz.underlying298
 a63:=Tryz.isAgg298
 z63:=Tryz.sizeOf298
 v63:=Tryz.zeroValue298
 t64:=Tryz.underlying123
 a64:=Tryz.isAgg123
 z64:=Tryz.sizeOf123
 v64:=Tryz.zeroValue123 }
end Go.Proofs
namespace Go.Proofs.YtmadpclcmjahoaaGreatDoor
open Go.RowKit Go.Redl
theorem h_2 (s:List UInt8) (w:World) (hn:s.length <= 1000000000):
 Calls Tryz.prog 93 #[.string ⟨s.toArray⟩] w fun e w'=>e= .returned (.bool (oZ s))/\Below w.heap.size w w':=by
 have Hk:Hid (oZ s=(decide (s≠ []) && (decide (s.length <= 32) && s.all J4))):=rfl
 obtain⟨hT,hF⟩:=g_k s e_a J4 h_E (by decide) (by decide+kernel) w hn
 have HT:=a6 hT;have HF:=a6 hF
 clear hT hF
 cases s with
 | nil=>
   go_enter Tryz.func93,Tryz.ntmps93
   go_wp2_with fail
   go_ret
   exact⟨b7 (by rw [Hk.o];rfl),a7⟩
 | cons c r=>
   have hsz:(⟨(c::r).toArray⟩:ByteArray).size=r.length+1:=rfl
   have hne:((⟨(c::r).toArray⟩:ByteArray).toList.isEmpty)=false:=by rw [ByteArray.toList_mk];rfl
   have hne2:(!(⟨(c::r).toArray⟩:ByteArray).toList.isEmpty)=true:=by rw [ByteArray.toList_mk];rfl
   obtain⟨S,hS⟩:∃S,S=(⟨(c::r).toArray⟩:ByteArray):=⟨_,rfl⟩
   rw [<- hS]at hsz hne hne2 HT HF⊢
   by_cases h32:32 < r.length+1
   . have Hz:Hid (oZ (c::r)=false):=by
      show oZ _=false
      rw [Hk.o,decide_eq_false (show ¬ (c::r).length <= 32 by simp only [List.length_cons];omega)];simp
     clear hS HT HF
     go_enter Tryz.func93,Tryz.ntmps93
     go_wp2_with fail
     go_ret
     exact⟨b7 Hz.o.symm,a7⟩
   . have Hk2:Hid (oZ (c::r)=(c::r).all J4):=by
      show oZ _=_
      rw [Hk.o,decide_eq_true (show (c::r).length <= 32 by simp only [List.length_cons];omega)];simp
     cases hall:(c::r).all J4 with
     | true=>
       have HC:=a6 (HT.o hall)
       rw [hall]at Hk2
       clear hS HT HF hall
       go_enter Tryz.func93,Tryz.ntmps93
       go_wp2_with fail
       refine HC.o.mono ?_
       rintro e w1 ⟨rfl,hb⟩
       have Hb:=a6 hb
       clear hb
       go_wp2_with fail
       go_ret
       exact⟨b7 Hk2.o.symm,Hb.o⟩
     | false=>
       obtain⟨y,ys,hC⟩:=HF.o hall
       have HC:=a6 hC
       rw [hall]at Hk2
       have hn2:((⟨(y::ys).toArray⟩:ByteArray).toList.isEmpty)=false:=by rw [ByteArray.toList_mk];rfl
       clear hS HT HF hall hC
       go_enter Tryz.func93,Tryz.ntmps93
       go_wp2_with fail
       refine HC.o.mono ?_
       rintro e w1 ⟨rfl,hb⟩
       have Hb:=a6 hb
       clear hb
       go_wp2_with fail
       go_ret
       exact⟨b7 Hk2.o.symm,Hb.o⟩
theorem h_3 (x:Int) (t:List UInt8) (lift:Bool) (w:World) (hn:t.length <= 1000000000):
 Calls Tryz.prog 96 #[.agg #[.int .i64 x,aV t], .bool lift] w fun e w'=>e= .returned (.bool (sZ lift (x,t)))/\Below w.heap.size w w':=by
 obtain⟨R,hR⟩:∃R,R=sZ lift (x,t):=⟨_,rfl⟩
 have Hr:=a6 (show R=if x=4 then oZ t else if x=3 then lift && decide (t= []) else if x=1∨x=2 then decide (t= []) else false from hR)
 rw [<- hR]
 obtain⟨w0,hw0⟩:∃w0,w0=w.alloc (Obj.cells #[.int .i64 x,aV t] 24):=⟨_,rfl⟩
 have hb0:Below w.heap.size w w0:=by rw [hw0];exact aX _ _
 have hA:At w0 w.heap.size [.int .i64 x,aV t] 24:=by rw [hw0];exact At.fresh w _ _
 obtain⟨⟨x0,x1⟩, -,xl⟩:=hA.f2
 have HN:=a6 (h_2 t w0 hn)
 have heq:=h_w t []
 have Hb0:=a6 hb0;have Hw0:=a6 hw0
 clear hR hb0 hw0 hA
 by_cases h4:x=4
 . subst h4
   have Hr2:=a6 (show R=oZ t from Hr.o)
   go_enter Tryz.func96,Tryz.ntmps96
   go_upto_region 1 with fail
   rw [<- Hw0.o]
   clear Hw0
   go_wp2_with fail
   refine HN.o.mono ?_
   rintro e w1 ⟨rfl,hbel⟩
   have Hb1:=a6 (Hb0.o.trans (hbel.mono Hb0.o.size))
   clear hbel HN x0 x1 xl
   go_wp2_with fail
   go_ret
   exact⟨b7 Hr2.o.symm,Hb1.o⟩
 . have h4b:(x == 4)=false:=beq_eq_false_iff_ne.2 h4
   by_cases h3:x=3
   . subst h3
     cases lift with
     | false=>
       have Hr2:=a6 (show R=false from Hr.o)
       go_enter Tryz.func96,Tryz.ntmps96
       go_upto_region 1 with fail
       rw [<- Hw0.o]
       clear Hw0
       go_wp2_with fail
       go_ret
       exact⟨b7 Hr2.o.symm,Hb0.o⟩
     | true=>
       have Hr2:=a6 (show R=decide (t= [])from by rw [Hr.o];simp)
       go_enter Tryz.func96,Tryz.ntmps96
       go_upto_region 1 with fail
       rw [<- Hw0.o]
       clear Hw0
       go_wp2_with fail
       go_ret
       exact⟨b7 (by rw [Hr2.o];cases t <;> simp),Hb0.o⟩
   . have h3b:(x == 3)=false:=beq_eq_false_iff_ne.2 h3
     by_cases h12:x=1∨x=2
     . have Hr2:=a6 (show R=decide (t= [])from by rw [Hr.o,if_neg h4,if_neg h3,if_pos h12])
       rcases h12 with rfl | rfl
       . go_enter Tryz.func96,Tryz.ntmps96
         go_upto_region 1 with fail
         rw [<- Hw0.o]
         clear Hw0
         go_wp2_with fail
         go_ret
         exact⟨b7 (by rw [Hr2.o];cases t <;> simp),Hb0.o⟩
       . go_enter Tryz.func96,Tryz.ntmps96
         go_upto_region 1 with fail
         rw [<- Hw0.o]
         clear Hw0
         go_wp2_with fail
         go_ret
         exact⟨b7 (by rw [Hr2.o];cases t <;> simp),Hb0.o⟩
     . have h1b:(x == 1)=false:=beq_eq_false_iff_ne.2 fun h=>h12 (.inl h)
       have h2b:(x == 2)=false:=beq_eq_false_iff_ne.2 fun h=>h12 (.inr h)
       have Hr2:=a6 (show R=false from by rw [Hr.o,if_neg h4,if_neg h3,if_neg h12])
       go_enter Tryz.func96,Tryz.ntmps96
       go_upto_region 1 with fail
       rw [<- Hw0.o]
       clear Hw0
       go_wp2_with fail
       go_ret
       exact⟨b7 Hr2.o.symm,Hb0.o⟩
theorem e_u {w:World} {B:Nat} {a:Option Addr} {n c:Nat} {l:List (List UInt8)} (h:RowA w B 1 a n c (l.map aV)) (k:Nat) (hk:k < l.length):
 ∃b off,a=some ⟨b,off,none⟩/\b < B/\w.cell? ⟨b,off+k,none⟩=some (aV l[k]):=by
 obtain⟨b,off,ha,hb,hc⟩:=h.some_ (by intro e;simp at e;subst e;simp at hk)
 exact⟨b,off,ha,hb,hc k _ (by simp [List.getElem?_eq_getElem hk])⟩
def xX (l:List (List UInt8)):Nat ->Option (List UInt8)
 | 0=>none
 | k+1=>l[k]?
theorem i_V {l:List (List UInt8)} {k:Nat} (hk:k < l.length):qZ (xX l k) (l.drop k)=(oZ l[k] && ((match xX l k with | none=>true | some p=> !leB l[k] p) && qZ (xX l (k+1)) (l.drop (k+1)))):=by
 rw [List.drop_eq_getElem_cons hk,show xX l (k+1)=some l[k]by show l[k]? =_;exact List.getElem?_eq_getElem hk]
 cases xX l k with
 | none=>simp [qZ]
 | some p=>simp [qZ]
theorem k_P (l:List (List UInt8)) (a:Option Addr) (cap:Nat) (W:World) (hr:RowA W W.heap.size 1 a l.length cap (l.map aV)) (hn:l.length <= 100000000) (hb:∀t∈l,t.length <= 1000000000):
 Calls Tryz.prog 39 #[.slice a l.length cap] W fun e w'=>e= .returned (.bool (AX l))/\Below W.heap.size W w':=by
 obtain⟨R,hR⟩:∃R,R=AX l:=⟨_,rfl⟩
 have HR:=a6 (show (qZ (xX l 0) (l.drop 0) && decide (l.length <= 32))=R from hR.symm)
 rw [<- hR]
 have Hr:=a6 hr;have HB:=a6 hb
 clear hR hr hb
 go_enter Tryz.func39,Tryz.ntmps39
 go_wp2_with fail
 go_loopg [7] l.length (fun g i wr=>∃k:Nat,i= .int .i64 k/\k+g=l.length/\Hid ((qZ (xX l k) (l.drop k) && decide (l.length <= 32))=R)/\Below W.heap.size W wr)
 case atStart=>exact⟨0,rfl,by omega,HR,a7⟩
 case round=>
  obtain⟨k,rfl,hg,hst,hbr⟩:=hrel
  have Hbr:=a6 hbr
  by_cases hlt:k < l.length
  . have hlti:(k:Int) < l.length:=by omega
    have hrr:=Hr.o.keep hbr hbr.size
    obtain⟨b,off,rfl,hlb,hc⟩:=e_u hrr k hlt
    have HN:=a6 (h_2 l[k] wr (HB.o _ (List.getElem_mem hlt)))
    have Hst:=a6 ((congrArg (· && decide (l.length <= 32)) (i_V hlt)).symm.trans hst.o)
    cases k with
    | zero=>
      have Hst2:=a6 (show (oZ l[0] && (true && qZ (xX l 1) (l.drop 1)) && decide (l.length <= 32))=R from Hst.o)
      rw [Nat.add_zero]at hc
      generalize l[0]=t at hc HN Hst2
      clear hrr hbr hst Hst
      cases hnm:oZ t with
      | false=>
        have Hz:=a6 (show false=R by have h:=Hst2.o;rw [hnm]at h;exact h)
        rw [hnm]at HN
        clear hnm Hst2
        go_wp2_with fail
        refine HN.o.mono ?_
        rintro e w1 ⟨rfl,hbel⟩
        have Hb1:=a6 (Hbr.o.trans (hbel.mono Hbr.o.size))
        clear hbel HN hc
        go_wp2_with fail
        go_ret
        exact⟨b7 Hz.o,Hb1.o⟩
      | true=>
        have HN2:=a6 (show (qZ (xX l 1) (l.drop 1) && decide (l.length <= 32))=R by have h:=Hst2.o;rw [hnm]at h;simpa using h)
        rw [hnm]at HN
        clear hnm Hst2
        go_wp2_with fail
        refine HN.o.mono ?_
        rintro e w1 ⟨rfl,hbel⟩
        have Hb1:=a6 (Hbr.o.trans (hbel.mono Hbr.o.size))
        clear hbel HN hc
        go_wp2_with fail
        go_roundg (l.length - 1)
        case measure=>omega
        case rel=>exact⟨1,by go_num,by omega,HN2,Hb1.o⟩
    | succ m=>
      have hml:m < l.length:=by omega
      have hmi:(m:Int) < l.length:=by omega
      have hpos:(0:Int) < ((m+1:Nat):Int):=by omega
      have hsub:IntKind.i64.wrap (((m+1:Nat):Int) - 1)=(m:Int):=(IntWalk.i64_in _ (by omega)).trans (by omega)
      obtain⟨b',off',e1, -,hc2⟩:=e_u hrr m hml
      injection e1 with e1;injection e1 with e1 e2;subst e1;subst e2
      have Hst2:=a6 (show (oZ l[m+1] && (!leB l[m+1] l[m] && qZ (xX l (m+2)) (l.drop (m+2))) && decide (l.length <= 32))=R by
       have h:=Hst.o
       rw [show xX l (m+1)=some l[m]by show l[m]? =_;exact List.getElem?_eq_getElem hml]at h
       exact h)
      have Hlb:=a6 hlb
      generalize l[m+1]=t at hc HN Hst2
      generalize l[m]=p at hc2 Hst2
      have Hle:Hid (leB t p=(Op.bytesLess t p || t == p)):=rfl
      clear hrr hbr hst Hst hlb
      cases hnm:oZ t with
      | false=>
        have Hz:=a6 (show false=R by have h:=Hst2.o;rw [hnm]at h;exact h)
        rw [hnm]at HN
        clear hnm Hst2
        go_wp2_with fail
        refine HN.o.mono ?_
        rintro e w1 ⟨rfl,hbel⟩
        have Hb1:=a6 (Hbr.o.trans (hbel.mono Hbr.o.size))
        have d2:=(hbel.cell (by exact Hlb.o)).trans hc2
        clear hbel HN hc hc2
        go_wp2_with fail
        go_ret
        exact⟨b7 Hz.o,Hb1.o⟩
      | true=>
        have Hst3:=a6 (show (!leB t p && qZ (xX l (m+2)) (l.drop (m+2)) && decide (l.length <= 32))=R by have h:=Hst2.o;rw [hnm]at h;simpa using h)
        rw [hnm]at HN
        clear hnm Hst2
        cases hx:Op.bytesLess t p
        . cases hy:(t == p)
          . have HN2:=a6 (show (qZ (xX l (m+1+1)) (l.drop (m+1+1)) && decide (l.length <= 32))=R by have h:=Hst3.o;rw [show leB t p=false by rw [Hle.o,hx,hy];rfl]at h;simpa using h)
            clear Hst3
            go_wp2_with fail
            refine HN.o.mono ?_
            rintro e w1 ⟨rfl,hbel⟩
            have Hb1:=a6 (Hbr.o.trans (hbel.mono Hbr.o.size))
            have d2:=(hbel.cell (by exact Hlb.o)).trans hc2
            clear hbel HN hc hc2
            go_wp2_with fail
            go_roundg (l.length - (m+1+1))
            case measure=>omega
            case rel=>exact⟨m+1+1,by go_num,by omega,HN2,Hb1.o⟩
          . have Hz:=a6 (show false=R by have h:=Hst3.o;rw [show leB t p=true by rw [Hle.o,hx,hy];rfl]at h;simpa using h)
            clear Hst3
            go_wp2_with fail
            refine HN.o.mono ?_
            rintro e w1 ⟨rfl,hbel⟩
            have Hb1:=a6 (Hbr.o.trans (hbel.mono Hbr.o.size))
            have d2:=(hbel.cell (by exact Hlb.o)).trans hc2
            clear hbel HN hc hc2
            go_wp2_with fail
            go_ret
            exact⟨b7 Hz.o,Hb1.o⟩
        . have Hz:=a6 (show false=R by have h:=Hst3.o;rw [show leB t p=true by rw [Hle.o,hx];rfl]at h;simpa using h)
          clear Hst3
          go_wp2_with fail
          refine HN.o.mono ?_
          rintro e w1 ⟨rfl,hbel⟩
          have Hb1:=a6 (Hbr.o.trans (hbel.mono Hbr.o.size))
          have d2:=(hbel.cell (by exact Hlb.o)).trans hc2
          clear hbel HN hc hc2
          go_wp2_with fail
          go_ret
          exact⟨b7 Hz.o,Hb1.o⟩
  . obtain rfl:k=l.length:=by omega
    have Hfin:=a6 (show decide (l.length <= 32)=R by have h:=hst.o;rw [List.drop_length]at h;cases xX l l.length <;> simpa [qZ]using h)
    clear hst hbr
    by_cases h32:l.length <= 32
    . have h32i:(l.length:Int) <= 32:=by omega
      have Hz:=a6 ((decide_eq_true h32).symm.trans Hfin.o)
      clear h32
      go_wp2_with fail
      go_ret
      exact⟨b7 Hz.o,Hbr.o⟩
    . have h32i:¬ (l.length:Int) <= 32:=by omega
      have Hz:=a6 ((decide_eq_false h32).symm.trans Hfin.o)
      clear h32
      go_wp2_with fail
      go_ret
      exact⟨b7 (by rw [<- Hz.o]),Hbr.o⟩
theorem e_v:∀args w,(callFunc 98 args).run Tryz.prog w= .ok (.enter 98 args) w:=by intro args w;kernel_rfl
theorem h_4 (x0:List UInt8) (v1 v2:Value) (W:World):Calls Tryz.prog 98 #[.agg #[aV x0,v1,v2]] W fun e w'=>e= .returned (aV x0)/\Below W.heap.size W w':=by
 have Hb:=a6 (aX W (Obj.cells #[aV x0,v1,v2] 140))
 go_enter Tryz.func98,Tryz.ntmps98
 go_wp2_with fail
 go_ret
 exact⟨rfl,Hb.o⟩
theorem e_w:∀args w,(callFunc 41 args).run Tryz.prog w= .ok (.enter 41 args) w:=by intro args w;kernel_rfl
theorem h_5 (x0:List UInt8) (v1 v2 v3 v4 v5 v6 v7:Value) (W:World):Calls Tryz.prog 41 #[.agg #[aV x0,v1,v2,v3,v4,v5,v6,v7]] W fun e w'=>e= .returned (aV x0)/\Below W.heap.size W w':=by
 have Hb:=a6 (aX W (Obj.cells #[aV x0,v1,v2,v3,v4,v5,v6,v7] 27))
 go_enter Tryz.func41,Tryz.ntmps41
 go_wp2_with fail
 go_ret
 exact⟨rfl,Hb.o⟩
theorem b_8:(Tryz.prog.info? 9).map (fun i=>(i.zero,i.size,i.bytes))=some (some (.string ⟨#[]⟩),1,16):=by kernel_rfl
theorem i_W (n:Nat):madeCells (#[.string ⟨#[]⟩]:Array Value) (n * 1)=(List.replicate n (aV [])).toArray:=by
 apply Array.ext'
 unfold madeCells
 simp only [Array.toList_map,Array.toList_range,Nat.mul_one]
 apply List.ext_getElem
 . simp
 . intro i h1 h2
   simp [Nat.mod_one]
theorem d_M (n:Nat) (hn:n <= 100000000) (w:World):
 (Instr.makeSlice 83 (.int .i64 (n:Int)) (.int .i64 (n:Int))).run Tryz.prog w= .ok (.slice (some ⟨w.heap.size,0,none⟩) n n) (w.alloc (.cells (List.replicate n (aV [])).toArray 9)):=by
 obtain⟨i,hi,hz,hs,hb⟩:∃i,Tryz.prog.info? 9=some i/\i.zero=some (.string ⟨#[]⟩)/\i.size=1/\i.bytes=16:=by
  obtain⟨i,hi,hzz⟩:=Option.map_eq_some_iff.1 b_8
  simp only [Prod.mk.injEq]at hzz
  exact⟨i,hi,hzz⟩
 have hr:=run_make (P:=Tryz.prog) w 83 9 i _ Tryz.underlying83 hi hz .i64 .i64 n n (by omega) (Int.le_refl _) (by rw [hb];omega) (by omega)
 simp only [Int.toNat_natCast,hs,Value.cells]at hr
 rw [hr,i_W]
abbrev wK (l:List vQ):List Value:=l.map fun p=>aV p.1
theorem k_Q (l:List vQ) (a:Option Addr) (cap:Nat) (W:World) (hr:RowA W W.heap.size 3 a l.length cap (dY l)) (hn:l.length <= 100000000):
 Calls Tryz.prog 97 #[.slice a l.length cap, .func (.func 98) #[] #[]] W fun e w'=>e= .returned (.slice (some ⟨W.heap.size,0,none⟩) l.length l.length)/\At w' W.heap.size (wK l) 9/\Below W.heap.size W w':=by
 obtain⟨w0,hw0⟩:∃w0,w0=W.alloc (.cells (List.replicate l.length (aV [])).toArray 9):=⟨_,rfl⟩
 have hb0:Below W.heap.size W w0:=by rw [hw0];exact aX _ _
 have hA:At w0 W.heap.size (List.replicate l.length (aV [])) 9:=by rw [hw0];exact At.fresh W _ _
 have hMk:=d_M l.length hn W
 rw [<- hw0]at hMk
 have Hr:=a6 (fun(w':World) (hb:Below W.heap.size W w')=>hr.keep hb hb.size)
 have HA:=a6 hA;have Hb0:=a6 hb0
 have HE:=e_v
 clear hr hA hb0 hw0
 go_enter Tryz.func97,Tryz.ntmps97
 go_wp2_with fail
 go_loopg [13] l.length (fun g i wr=>∃k:Nat,i= .int .i64 k/\k+g=l.length/\Hid (At wr W.heap.size (wK (l.take k) ++ List.replicate (l.length - k) (aV [])) 9)/\Hid (Below W.heap.size W wr))
 case atStart=>exact⟨0,rfl,by omega,(show At w0 W.heap.size (wK (l.take 0) ++ List.replicate (l.length - 0) (aV [])) 9 by simpa using HA.o),Hb0⟩
 case round=>
  obtain⟨k,rfl,hg,hat,hbr⟩:=hrel
  by_cases hlt:k < l.length
  . have hlti:(k:Int) < l.length:=by omega
    obtain⟨b,off,rfl,hlb,p0,p1,p2⟩:=(Hr.o wr hbr.o).pair_at k hlt
    have Hst:=a6 (show l.take (k+1)=l.take k ++ [l[k]]from List.take_succ_eq_append_getElem hlt)
    generalize l[k]=q at p0 p1 p2 Hst
    obtain⟨q0,q1,q2⟩:=q
    simp only at p0 p1 p2
    have HC:=a6 (fun(w1:World)=>h_4 q0 (.int .i64 q1) (aV q2) w1)
    clear hlb
    go_wp2_with fail
    refine(HC.o _).mono ?_
    rintro e w2 ⟨rfl,hbel⟩
    have hb2:Below wr.heap.size wr w2:=(aX wr (Obj.cells #[aV q0, .int .i64 q1,aV q2] 140)).trans (hbel.mono (aX wr _).size)
    have hA2:=hat.o.kept hb2
    have Hb2:=a6 (hbr.o.trans (hb2.mono hbr.o.size))
    have cf:w2.frozen? ⟨W.heap.size,k,none⟩=false:=Lib.frozen_of_heap hA2 _
    have cc:w2.cell? ⟨W.heap.size,k,none⟩=some (aV []):=hA2.cell k (by
     have hkl:(wK (l.take k)).length=k:=by simp;omega
     rw [List.getElem?_append_right (by omega),List.getElem?_replicate,if_pos (by omega)])
    have HA2:=a6 hA2
    clear hbel hb2 hA2 HC p0 p1 p2
    go_wp2_with fail
    go_roundg (l.length - (k+1))
    case measure=>omega
    case rel=>
     refine⟨k+1,by go_num,by omega, ?_,(show Below _ _ _ from Hb2.o.setCell (p:=⟨W.heap.size,k,none⟩) (a8) _)⟩
     show At _ W.heap.size (wK (l.take (k+1)) ++ List.replicate (l.length - (k+1)) (aV [])) 9
     have h:=HA2.o.set k (aV q0)
     rw [List.set_append_right _ _ (by simp;omega)]at h
     rw [Hst.o]
     have e:l.length - k=(l.length - (k+1))+1:=by omega
     rw [e,List.replicate_succ]at h
     simpa [Nat.min_eq_left (Nat.le_of_lt hlt)]using h
  . obtain rfl:k=l.length:=by omega
    have Hfin:=a6 (show At wr W.heap.size (wK l) 9 by have h:=hat.o;rw [List.take_length,Nat.sub_self]at h;simpa using h)
    have hnl:¬ (l.length:Int) < l.length:=by omega
    clear hat
    go_wp2_with fail
    go_ret
    exact⟨rfl,Hfin.o,hbr.o⟩
abbrev A0 (l:List bJ):List Value:=l.map fun p=>aV p.type
theorem k_R (l:List bJ) (a:Option Addr) (cap:Nat) (css:List Value) (W:World) (hr:RowA W W.heap.size 8 a l.length cap css) (hc:g8 W W.heap.size l css) (hn:l.length <= 100000000):
 Calls Tryz.prog 40 #[.slice a l.length cap, .func (.func 41) #[] #[]] W fun e w'=>e= .returned (.slice (some ⟨W.heap.size,0,none⟩) l.length l.length)/\At w' W.heap.size (A0 l) 9/\Below W.heap.size W w':=by
 obtain⟨w0,hw0⟩:∃w0,w0=W.alloc (.cells (List.replicate l.length (aV [])).toArray 9):=⟨_,rfl⟩
 have hb0:Below W.heap.size W w0:=by rw [hw0];exact aX _ _
 have hA:At w0 W.heap.size (List.replicate l.length (aV [])) 9:=by rw [hw0];exact At.fresh W _ _
 have hMk:=d_M l.length hn W
 rw [<- hw0]at hMk
 have Hr:=a6 (fun(w':World) (hb:Below W.heap.size W w')=>hr.keep hb hb.size)
 have Hc:=a6 (fun(w':World) (hb:Below W.heap.size W w')=>g8.keep hb hb.size hc)
 have HA:=a6 hA;have Hb0:=a6 hb0
 have HE:=e_w
 clear hr hc hA hb0 hw0
 go_enter Tryz.func40,Tryz.ntmps40
 go_wp2_with fail
 go_loopg [13] l.length (fun g i wr=>∃k:Nat,i= .int .i64 k/\k+g=l.length/\Hid (At wr W.heap.size (A0 (l.take k) ++ List.replicate (l.length - k) (aV [])) 9)/\Hid (Below W.heap.size W wr))
 case atStart=>exact⟨0,rfl,by omega,(show At w0 W.heap.size (A0 (l.take 0) ++ List.replicate (l.length - 0) (aV [])) 9 by simpa using HA.o),Hb0⟩
 case round=>
  obtain⟨k,rfl,hg,hat,hbr⟩:=hrel
  by_cases hlt:k < l.length
  . have hlti:(k:Int) < l.length:=by omega
    obtain⟨b,off,ra,rc,rfl,hlb, -,p0,p1,p2,p3,p4,p5,p6,p7⟩:=h_I (Hr.o wr hbr.o) (Hc.o wr hbr.o) k hlt
    have Hst:=a6 (show l.take (k+1)=l.take k ++ [l[k]]from List.take_succ_eq_append_getElem hlt)
    generalize l[k]=q at p0 p1 p2 p3 p4 p5 p6 p7 Hst
    obtain⟨q0,⟨q1,q2⟩,⟨q3,q4⟩,q5,q6,q7⟩:=q
    simp only at p0 p1 p2 p3 p4 p5 p6 p7
    have HC:=a6 (fun(w1:World)=>h_5 q0 (.int .i64 q1) (aV q2) (.int .i64 q3) (aV q4) (.slice ra q5.length rc) (.int .i64 q6) (aV q7) w1)
    clear hlb
    go_wp2_with fail
    refine(HC.o _).mono ?_
    rintro e w2 ⟨rfl,hbel⟩
    have hb2:Below wr.heap.size wr w2:=(aX wr (Obj.cells #[aV q0, .int .i64 q1,aV q2, .int .i64 q3,aV q4, .slice ra q5.length rc, .int .i64 q6,aV q7] 27)).trans (hbel.mono (aX wr _).size)
    have hA2:=hat.o.kept hb2
    have Hb2:=a6 (hbr.o.trans (hb2.mono hbr.o.size))
    have cf:w2.frozen? ⟨W.heap.size,k,none⟩=false:=Lib.frozen_of_heap hA2 _
    have cc:w2.cell? ⟨W.heap.size,k,none⟩=some (aV []):=hA2.cell k (by
     have hkl:(A0 (l.take k)).length=k:=by simp;omega
     rw [List.getElem?_append_right (by omega),List.getElem?_replicate,if_pos (by omega)])
    have HA2:=a6 hA2
    clear hbel hb2 hA2 HC p0 p1 p2 p3 p4 p5 p6 p7
    go_wp2_with fail
    go_roundg (l.length - (k+1))
    case measure=>omega
    case rel=>
     refine⟨k+1,by go_num,by omega, ?_,(show Below _ _ _ from Hb2.o.setCell (p:=⟨W.heap.size,k,none⟩) (a8) _)⟩
     show At _ W.heap.size (A0 (l.take (k+1)) ++ List.replicate (l.length - (k+1)) (aV [])) 9
     have h:=HA2.o.set k (aV q0)
     rw [List.set_append_right _ _ (by simp;omega)]at h
     rw [Hst.o]
     have e:l.length - k=(l.length - (k+1))+1:=by omega
     rw [e,List.replicate_succ]at h
     simpa [Nat.min_eq_left (Nat.le_of_lt hlt)]using h
  . obtain rfl:k=l.length:=by omega
    have Hfin:=a6 (show At wr W.heap.size (A0 l) 9 by have h:=hat.o;rw [List.take_length,Nat.sub_self]at h;simpa using h)
    have hnl:¬ (l.length:Int) < l.length:=by omega
    clear hat
    go_wp2_with fail
    go_ret
    exact⟨rfl,Hfin.o,hbr.o⟩
end Go.Proofs.YtmadpclcmjahoaaGreatDoor

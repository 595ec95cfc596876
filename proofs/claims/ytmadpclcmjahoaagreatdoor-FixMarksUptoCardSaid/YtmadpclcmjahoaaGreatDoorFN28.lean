/- Parts of the proof: 28. -/
import Derived.Test.YtmadpclcmjahoaaGreatDoorFN1
import Derived.Test.YtmadpclcmjahoaaGreatDoorFN22
import Derived.Test.YtmadpclcmjahoaaGreatDoorFN27
import Derived.Test.YtmadpclcmjahoaaGreatDoorFN6
import Derived.Test.YtmadpclcmjahoaaGreatDoorFN3
import Derived.Test.YtmadpclcmjahoaaGreatDoorRows
import Derived.WalkKit
import Derived.ProofKit
import Derived.LaidMore
import Derived.OpenShut
import Derived.ChangeOld
import Derived.Below
import Derived.Stop.Joined
import Derived.Deep.DeepHandedRow
import Derived.Deep.DeepWitnessRowRef
import Derived.JoinedCond
import Derived.Test.YtmadpclcmjahoaaGreatDoorCards
import Derived.Test.YtmadpclcmjahoaaGreatDoorTie
import Derived.ShutString
import Derived.Lib.LaidTab
import Derived.Stop.LaidErr
import Derived.Lay
import Derived.SevenTiedAt
set_option linter.unusedVariables false
set_option linter.unusedSimpArgs false
set_option maxHeartbeats 8000000
set_option maxRecDepth 100000
namespace Go.Proofs.YtmadpclcmjahoaaGreatDoor
open Go.RowKit Go.Redl
theorem BX.keep {B:Nat} {w w':World} {l:List j7} {v:Value} (h:BX B w l v) (hb:Below w.heap.size w w'):BX B w' l v:=by
 obtain⟨a,c,css,rfl,h1,h2⟩:=h
 exact⟨a,c,css,rfl,h1.since hb,h2.stay (M4 hb _)⟩
theorem BX.grown {B N:Nat} {w w':World} {l:List j7} {v:Value} (h:BX B w l v) (hg:w.grownBy w' (some N)) (hN:N < B):BX B w' l v:=by
 obtain⟨a,c,css,rfl,h1,h2⟩:=h
 have hk:∀b,B <= b ->b < w.heap.size ->w'.heap[b]? =w.heap[b]? :=fun b hb hlt=>hg.block b hlt (fun e=>by injection e with e;omega)
 exact⟨a,c,css,rfl,h1.keep hg.size hk (fun _ h _=>h),h2.stay ⟨hg.size,hk,fun _ h _=>h⟩⟩
theorem BX.load2 {B:Nat} {w:World} {l:List j7} {a:Option Addr} {n c:Nat} (h:BX B w l (.slice a n c)) (i:Nat) (hi:i < l.length):
 ∃ b off pa pc ta tc n0 n1 n2 n3 oa oc,a=some ⟨b,off,none⟩/\b < w.heap.size/\b_h w (fun b=>B <= b) pa pc l[i].path/\b_h w (fun b=>B <= b) ta tc l[i].dest/\NodeQ w (fun b=>B <= b) l[i].node [n0,n1,n2,n3]/\RowQ w (fun b=>B <= b) 2 oa l[i].old.length oc (bK l[i].old)/\
   w.rangeAt b (off+i * 21) (BK l[i] pa pc ta tc n0 n1 n2 n3 oa oc):=by
 obtain⟨a',c',css,hv,hr,hq⟩:=h
 injection hv with e1 e2 e3;subst e1;subst e2;subst e3
 obtain⟨cs,hc,hall⟩:=hq.at_ i hi
 obtain⟨pa,pc,ta,tc,n0,n1,n2,n3,oa,oc,rfl,h1,h2,h3,h4⟩:=hc
 obtain⟨b,off,ha,hb,hcell⟩:=hr.row.some_ (by
  intro he
  have:=hq.len
  rw [he]at this
  simp at this;omega)
 refine⟨b,off,pa,pc,ta,tc,n0,n1,n2,n3,oa,oc,ha,hb,h1,h2,h3,h4,fun j u hj=> ?_⟩
 have hj21:j < 21:=by
  have:=(List.getElem?_eq_some_iff.1 hj).1
  simpa [BK]using this
 have:=hcell (i * 21+j) u ((hall j hj21).trans hj)
 rw [<- Nat.add_assoc]at this
 exact this
theorem jJ.set {M L N o:Nat} {w:World} {v:Value} {xs:List PX} (h:jJ w M L v xs) (hN:N < M) (hL:N < L) (u:Value):jJ (w.setCell ⟨N,o,none⟩ u) M L v xs:=
 ⟨ownsRow_setCell_below (a:=⟨N,o,none⟩) h.own hN _,fun x hx=>(h.all x hx).keep (by simp [World.setCell]) (fun b hb _=>Below.heap_setCell w ⟨N,o,none⟩ u b (by show b≠N;have:=hb.1;omega)) (fun _ hb _=>hb)⟩
theorem jJ.set4 {M L N:Nat} {w:World} {v:Value} {xs:List PX} (h:jJ w M L v xs) (hN:N < M) (hL:N < L) (d0 d1 d2 d3:Value):jJ ((((w.setCell ⟨N,0,none⟩ d0).setCell ⟨N,1,none⟩ d1).setCell ⟨N,2,none⟩ d2).setCell ⟨N,3,none⟩ d3) M L v xs:=
 (((h.set hN hL _).set hN hL _).set hN hL _).set hN hL _
theorem At.grow1 {w w':World} {N M:Nat} {cs:List Value} {T:TypeId} (h:At w N cs T) (hg:w.grownBy w' (some M)) (hne:N≠M):At w' N cs T:=h.grown hg (fun e=>hne (by injection e with e;exact e.symm))
theorem h_r {w w':World} {N:Nat} (h:w.grownBy w' (some N)) (d0 d1 d2 d3:Value):w.grownBy ((((w'.setCell ⟨N,0,none⟩ d0).setCell ⟨N,1,none⟩ d1).setCell ⟨N,2,none⟩ d2).setCell ⟨N,3,none⟩ d3) (some N):=
 (((h.set 0 d0).set 1 d1).set 2 d2).set 3 d3
theorem d_U {L:List (List Int)} {n:aK} (hs:tZ L) (he:∀q∈L,jV n q=true):L.length <= n.wt/\∀q∈L,q.length <= n.wt:=by
 have e:L=a_l ((L8 n).filter (fun q=>decide (q∈L))):=EJ hs (A9 _) fun q=>by
  rw [J3,List.mem_filter]
  exact⟨fun h=>⟨f_Z (he q h),by simpa using h⟩,fun h=>by simpa using h.2⟩
 have h1:L.length <= (L8 n).length:=by
  rw [e];exact aJ (k_m _) (List.length_filter_le _ _)
 refine⟨aJ h1 (C8 _ n []),fun q hq=> ?_⟩
 have:=b_B _ n [] q (f_Z (he q hq))
 simpa using this
theorem h_s (n:aK) (L:List (List Int)) (o:yK):tZ (E6 n L o)/\∀q∈E6 n L o,jV n q=true:=
 ⟨A9 _,fun q hq=>(List.mem_filter.1 (J3.1 hq)).2⟩
theorem g_2 {w:World} {B:Nat} {n:aK} {a b c d:Value} (h:bY w B n (.agg #[a,b,c,d])):dJ w B n [a,b,c,d]:=by
 obtain⟨cs,he,hc⟩:=h
 injection he with he
 have:=congrArg Array.toList he
 simp at this
 rwa [this]
theorem h_t {n X:aK} {o:j7} (hk:E3 o.kind) (hw:n.wt <= 100000000) (h:lQ n o.full=(X,0)):o.path≠ []/\(o.kind=5 ->o.dest≠ []):=by
 obtain⟨-, -, -, -,⟨h1, -,h2⟩ | ⟨h1,R,k,h2, -, -, -,h5⟩⟩:=AV hk hw h
 . refine ⟨fun e=> ?_,fun e=>by omega⟩
   unfold FK at h2
   rw [if_pos e]at h2
   simp at h2
 . exact⟨(b_4 h2).1,h5⟩
theorem d_f (s:b8) (n:aK) (u v:Value) (p:List Int) (pa:Option Addr) (pc:Nat) (W:World) (hs:s.wt <= 1048576) (hn:n.wt <= 1048576) (hpl:p.length <= 1048576) (hu:SchemaV W W.heap.size s u) (hv:bY W W.heap.size n v) (hp:RowA W W.heap.size 1 pa p.length pc (p.map (Value.int .i64))):
 Calls Tryz.prog 3 #[u,v, .slice pa p.length pc] W (fun e w'=>e= .returned (.bool true)/\Below W.heap.size W w'):=by
 have Hp0:=a6 hp;have Hu0:=a6 hu;have Hv0:=a6 hv
 have hu0:=hu
 obtain⟨csn,rfl,hc⟩:=hv
 obtain⟨l,b1,m1,d1,b2,m2,d2,b3,m3,d3,rfl⟩:=hc.form
 have hleaf:=c_K (dJ.q (a8) _ _ hc)
 obtain⟨a,c,css,ea,ec,o0,o1,o2,o3,o4,o5,rfl, -, -, -, -⟩:=hu0.open
 obtain⟨w0,hw0⟩:∃w0,w0=(W.alloc (Obj.cells #[.slice a s.rules.length c,aV s.els.type, .int .i64 s.els.text.1,aV s.els.text.2, .int .i64 s.els.other.1,aV s.els.other.2, .slice ea s.els.kids.length ec, .int .i64 s.els.fill,aV s.els.fillT, .int .i64 o0, .int .i64 o1, .int .i64 o2, .int .i64 o3, .int .i64 o4, .int .i64 o5, .int .i64 s.cap] 30)).alloc (Obj.cells #[.bool l, .slice b1 m1 d1, .slice b2 m2 d2, .slice b3 m3 d3] 35):=⟨_,rfl⟩
 have hb0:Below W.heap.size W w0:=by rw [hw0];exact i8 _ _ _
 have HS0:=a6 (show At w0 W.heap.size [.slice a s.rules.length c,aV s.els.type, .int .i64 s.els.text.1,aV s.els.text.2, .int .i64 s.els.other.1,aV s.els.other.2, .slice ea s.els.kids.length ec, .int .i64 s.els.fill,aV s.els.fillT, .int .i64 o0, .int .i64 o1, .int .i64 o2, .int .i64 o3, .int .i64 o4, .int .i64 o5, .int .i64 s.cap] 30 by rw [hw0];exact(At.fresh W _ _).alloc _)
 have HN0:=a6 (show At w0 (W.heap.size+1) [.bool l, .slice b1 m1 d1, .slice b2 m2 d2, .slice b3 m3 d3] 35 by rw [hw0];exact At.second W _ _ _)
 have huk:∀w',Below w0.heap.size w0 w' ->SchemaV w' w'.heap.size s (.agg #[.slice a s.rules.length c,aV s.els.type, .int .i64 s.els.text.1,aV s.els.text.2, .int .i64 s.els.other.1,aV s.els.other.2, .slice ea s.els.kids.length ec, .int .i64 s.els.fill,aV s.els.fillT, .int .i64 o0, .int .i64 o1, .int .i64 o2, .int .i64 o3, .int .i64 o4, .int .i64 o5, .int .i64 s.cap]):=fun w' hb=>hu.keep (hb0.trans (hb.mono hb0.size)) (hb0.trans (hb.mono hb0.size)).size
 have hvk:∀w',Below w0.heap.size w0 w' ->bY w' w'.heap.size n (.agg #[.bool l, .slice b1 m1 d1, .slice b2 m2 d2, .slice b3 m3 d3]):=fun w' hb=>⟨_,rfl,dJ.keep (hb0.trans (hb.mono hb0.size)) (hb0.trans (hb.mono hb0.size)).size _ _ hc⟩
 have hpk:∀w',Below w0.heap.size w0 w' ->RowA w' w'.heap.size 1 pa p.length pc (p.map (Value.int .i64)):=fun w' hb=>hp.keep (hb0.trans (hb.mono hb0.size)) (hb0.trans (hb.mono hb0.size)).size
 have HF:=a6 (fun(w':World) (hb:Below w0.heap.size w0 w')=>k_p s n _ _ p pa pc w' (by omega) (by omega) (by omega) (huk w' hb) (hvk w' hb))
 have HL:=a6 (n_k w0)
 have HT:=a6 (fun(w':World) (hb:Below w0.heap.size w0 w')=>l_1 s _ w' (by omega) (huk w' hb))
 have HK:=a6 (fun(w':World) (hb:Below w0.heap.size w0 w')=>c_d n _ w'.heap.size w' hn (hvk w' hb) (a8))
 have HSN:=a6 hleaf;have Hu:=a6 huk;have Hv:=a6 hvk;have Hp:=a6 hpk
 have Hb0:=a6 hb0;have Hw0:=a6 hw0
 have hld:=fun(w':World) (h:At w' W.heap.size [.slice a s.rules.length c,aV s.els.type, .int .i64 s.els.text.1,aV s.els.text.2, .int .i64 s.els.other.1,aV s.els.other.2, .slice ea s.els.kids.length ec, .int .i64 s.els.fill,aV s.els.fillT, .int .i64 o0, .int .i64 o1, .int .i64 o2, .int .i64 o3, .int .i64 o4, .int .i64 o5, .int .i64 s.cap] 30)=>At.load (P:=Tryz.prog) h Tryz.underlying30 rfl (by kernel_rfl)
 simp [go_sem]at hld
 have Hld:=a6 hld
 have Hsw:=a6 hs;have Hnw:=a6 hn
 clear hu0 hc hw0 hb0 hu hp huk hvk hpk hleaf hld hs hn
 go_enter Tryz.func3,Tryz.ntmps3
 go_upto_region 1 with fail
 rw [<- Hw0.o]
 clear Hw0
 go_wp2_with fail
 refine HL.o.mono ?_
 rintro e w1 ⟨rfl,hbel⟩
 have Hb1:=a6 hbel
 have HF1:=a6 (HF.o w1 hbel)
 have HS1:=a6 (HS0.o.kept hbel);have HN1:=a6 (HN0.o.kept hbel)
 obtain⟨⟨y0,y1,y2,y3⟩, -,yl⟩:=HN1.o.f4
 clear hbel HL HF
 go_upto_region 3 with fail
 go_cut [42] (fun r wx=>∃R:Bool,r= .bool R/\Hid (R=false ->(H0 s n p=true/\uX s=0/\eQ n=0/\l=false))/\Hid (Below w0.heap.size w0 wx))
 case first=>
  --<h1
  obtain⟨B1,hB1⟩:∃B1,B1=H0 s n p:=⟨_,rfl⟩
  have HB1:=a6 hB1
  rw [<- hB1]at HF1
  clear hB1
  go_wp2_with (refine dK rfl _ _ rfl W.heap.size #[.slice a s.rules.length c,aV s.els.type, .int .i64 s.els.text.1,aV s.els.text.2, .int .i64 s.els.other.1,aV s.els.other.2, .slice ea s.els.kids.length ec, .int .i64 s.els.fill,aV s.els.fillT, .int .i64 o0, .int .i64 o1, .int .i64 o2, .int .i64 o3, .int .i64 o4, .int .i64 o5, .int .i64 s.cap] rfl HS1.o _ Tryz.underlying30 rfl (by kernel_rfl) ?_)
  refine HF1.o.mono ?_
  rintro e w2 ⟨rfl,hbel⟩
  have Hb2:=a6 (b5 Hb1.o hbel)
  clear HF1 hbel y0 y1 y2 y3 yl
  cases B1 with
  | false=>
    go_wp2_with fail
    go_meet
    case rel=>exact⟨true,rfl,a6 (fun h=>by cases h),Hb2⟩
  | true=>
    have hS:=Hld.o w2 (HS0.o.kept Hb2.o)
    have HT1:=HT.o w2 Hb2.o
    obtain⟨z1,hz1⟩:∃z1,z1=uX s:=⟨_,rfl⟩
    rw [<- hz1]at HT1
    have HT1:=a6 HT1
    have HZ1:=a6 hz1
    clear hz1
    go_wp2_with fail
    refine HT1.o.mono ?_
    rintro e w3 ⟨rfl,hbel⟩
    have Hb3:=a6 (b5 Hb2.o hbel)
    clear HT1 hbel hS
    by_cases hz:z1=0
    . subst hz
      have HK1:=HK.o w3 Hb3.o
      obtain⟨z2,hz2⟩:∃z2,z2=eQ n:=⟨_,rfl⟩
      rw [<- hz2]at HK1
      have HK1:=a6 HK1
      have HZ2:=a6 hz2
      obtain⟨⟨y0,y1,y2,y3⟩, -,yl⟩:=(HN0.o.kept Hb3.o).f4
      clear hz2
      go_wp2_with fail
      refine HK1.o.mono ?_
      rintro e w4 ⟨rfl,hbel⟩
      have Hb4:=a6 (b5 Hb3.o hbel)
      clear HK1 hbel y0 y1 y2 y3 yl
      by_cases hz:z2=0
      . subst hz
        obtain⟨⟨y0,y1,y2,y3⟩, -,yl⟩:=(HN0.o.kept Hb4.o).f4
        go_wp2_with fail
        go_meet
        case rel=>exact⟨l,rfl,a6 (fun h=>⟨HB1.o.symm,HZ1.o.symm,HZ2.o.symm,h⟩),Hb4⟩
      . have hzb:(z2 != 0)=true:=by simpa using hz
        go_wp2_with fail
        go_meet
        case rel=>exact⟨true,rfl,a6 (fun h=>by cases h),Hb4⟩
    . have hzb:(z1 != 0)=true:=by simpa using hz
      go_wp2_with fail
      go_meet
      case rel=>exact⟨true,rfl,a6 (fun h=>by cases h),Hb3⟩
  -->h1
 case rest=>
 obtain⟨R,rfl,HR,Hbc⟩:=hcut
 clear HF1 HT HK y0 y1 y2 y3 yl Hb1 HS1 HN1
 cases R with
 | true=>
   have HbW:=a6 (Hb0.o.trans (Hbc.o.mono Hb0.o.size))
   go_wp2_with fail
   go_ret
   exact⟨rfl,HbW.o⟩
 | false=>
 obtain⟨hsm,hcs,hE,rfl⟩:=HR.o rfl
 have hlf:=HSN.o.symm
 have hnw:=c_R hsm
 have hpl40:=b_A s n p hsm
 have HSc:=a6 (HS0.o.kept Hbc.o);have HNc:=a6 (HN0.o.kept Hbc.o)
 have HO:=a6 (d_B s _ n _ p pa pc wc (by have:=Hsw.o;omega) (by omega) (Hu.o wc Hbc.o) (Hv.o wc Hbc.o) (Hp.o wc Hbc.o) (by omega))
 have HLen:=a6 (j_5 s n p (by omega))
 obtain⟨⟨y0,y1,y2,y3⟩, -,yl⟩:=HNc.o.f4
 go_wp2_with (refine dK rfl _ _ rfl W.heap.size #[.slice a s.rules.length c,aV s.els.type, .int .i64 s.els.text.1,aV s.els.text.2, .int .i64 s.els.other.1,aV s.els.other.2, .slice ea s.els.kids.length ec, .int .i64 s.els.fill,aV s.els.fillT, .int .i64 o0, .int .i64 o1, .int .i64 o2, .int .i64 o3, .int .i64 o4, .int .i64 o5, .int .i64 s.cap] rfl HSc.o _ Tryz.underlying30 rfl (by kernel_rfl) ?_)
 refine HO.o.mono ?_
 rintro e w5 ⟨lv,rfl,hlv,hbel⟩
 have Hb5:=a6 (b5 Hbc.o hbel)
 have Hc5:=a6 hbel.size
 clear HO hbel y0 y1 y2 y3 yl HSc HNc
 have HGt:=a6 (e_L n p _ pa pc w5 (by omega) (Hv.o w5 Hb5.o) (Hp.o w5 Hb5.o))
 obtain⟨⟨y0,y1,y2,y3⟩, -,yl⟩:=(HN0.o.kept Hb5.o).f4
 have Hlv5:=a6 hlv
 have HEr:=a6 (show ∃z:Int,z=(D4 s n p).2 from⟨_,rfl⟩)
 generalize hLL:(D4 s n p).1=LL at hlv
 obtain⟨la,lc,css2,rfl, -, -⟩:=hlv
 have HLL:=a6 hLL
 clear hLL
 go_wp2_with fail
 refine HGt.o.mono ?_
 intro e w4 hg
 obtain⟨hbel,kx,k1,k2,k3,s1,s2,s3,r1,r2,r3,rfl,hkq⟩:=l_h.alike hg
 have hb54:=hbel
 have Hb54:=a6 hb54
 have HKq:=a6 (show NodeQ w4 (fun b=>w5.heap.size <= b) ((kK n p).getD bZ) [.bool kx, .slice k1 s1 r1, .slice k2 s2 r2, .slice k3 s3 r3]from hkq)
 clear hg hbel hkq HGt y0 y1 y2 y3 yl hb54
 obtain⟨w3,hw3⟩:∃w3,w3=w4.alloc (Obj.cells #[.bool kx, .slice k1 s1 r1, .slice k2 s2 r2, .slice k3 s3 r3] 35):=⟨_,rfl⟩
 have hb43:Below w4.heap.size w4 w3:=by rw [hw3];exact aX _ _
 have HK3:=a6 (show At w3 w4.heap.size [.bool kx, .slice k1 s1 r1, .slice k2 s2 r2, .slice k3 s3 r3] 35 by rw [hw3];exact At.fresh _ _ _)
 have HKq3:=a6 (AK HKq.o hb43)
 have hb53:=b5 Hb54.o hb43
 have Hc3:=a6 (aJ Hc5.o hb53.size)
 have hlv:BX wc.heap.size w3 (D4 s n p).1 (.slice la LL.length lc):=Hlv5.o.keep hb53
 have Hb5o:=a6 Hb5.o
 have Hb53:=a6 (b5 Hb5o.o hb53)
 have Hlt4:=a6 (show W.heap.size+1 < w4.heap.size from Nat.lt_of_lt_of_le (HN0.o.kept Hb5o.o).lt Hb54.o.size)
 have Hw3:=a6 hw3
 clear hw3 hb43 hb53 HKq Hlv5 HEr Hb54 Hb5
 go_upto_region 7 with fail
 rw [<- Hw3.o]
 clear Hw3
 have Hb5:=Hb53
 rw [<- HLL.o]at hlv⊢
 clear HLL Hb53 Hb5o
 rcases l_3 hsm hcs hE hlf with⟨her,hnil⟩ | ⟨k,hat,hkl,hfn,her,hplay,hne,hops,hins,hXE,hXs,hXw,hLeq⟩
 . have hnl0:(D4 s n p).1.length=0:=by rw [hnil];rfl
   skip
   have heb:((D4 s n p).2 != 0)=true:=by simpa using her
   have HbW:=a6 (Hb0.o.trans (Hb5.o.mono Hb0.o.size))
   generalize (D4 s n p).2=er at heb⊢
   clear HLen her hnil
   rw [hnl0]
   go_wp2_with fail
   go_ret
   exact⟨rfl,HbW.o⟩
 rw [her]
 rw [hat]at HKq3⊢
 generalize hL:(D4 s n p).1=L at hlv hplay hne hops hins HLen hLeq⊢
 skip
 have Hlv:=a6 (show BX wc.heap.size w3 L (.slice la L.length lc)from hlv)
 generalize hX:a_a s n k p=X at hplay hXE hXs hXw
 have HX:=a6 hX;have HXE:=a6 hXE;have HXs:=a6 hXs;have HXw:=a6 hXw;have Hne:=a6 hne;have Hfn:=a6 hfn;have Hat:=a6 hat;have Hcs:=a6 hcs;have HE:=a6 hE;have Hkl:=a6 hkl;have Hlf:=a6 hlf;have Hnw2:=a6 hnw;have Hp40:=a6 hpl40;have HLeq:=a6 hLeq
 have Hks:=a6 hops
 have hat4:=uK p n k hat
 have Hins:=a6 (show n.wt+xV L <= 400000 by
  have h:=(h_U (n:=n) (p:=p) hcs (show k.wt <= 900000 by omega) (by omega) hfn).2.1
  rw [<- hLeq]at h;omega)
 have Hdst:=a6 (show ∀o∈L,o.dest.length <= 400000 from fun o ho=>by
  rw [hLeq]at ho
  have:=j_8 _ _ _ _ o ho
  omega)
 have hmk:=j_9 hcs hE hlf (show n.wt <= 900000 by omega) hat hfn
 rw [<- hLeq]at hmk
 obtain⟨RS,hRS⟩:∃RS,RS=mV n [] (L.map j7.full):=⟨_,rfl⟩
 rw [<- hRS]at hmk
 have Hmk:=a6 hmk
 have Hst:=a6 (show nV n ((L.drop 0).map j7.full)=some X/\mV n (C5 []) ((L.drop 0).map j7.full)=RS from⟨by rw [List.drop_zero];exact hplay,by rw [List.drop_zero,hRS];rfl⟩)
 have Hn0:=a6 (show W.heap.size+1 < wc.heap.size from(HN0.o.kept Hbc.o).lt)
 have Hbl:=a6 (show Below W.heap.size W w3 from Hb0.o.trans (Hb5.o.mono Hb0.o.size))
 have HN3:=a6 (HN0.o.kept Hb5.o);have HS3:=a6 (HS0.o.kept Hb5.o)
 have HQ3:=a6 (show NodeQ w3 (fun b=>b≠W.heap.size+1) n [.bool false, .slice b1 m1 d1, .slice b2 m2 d2, .slice b3 m3 d3]from NodeQ.keep Hbl.o.size (fun b hb _=>Hbl.o.block b hb) (fun b hb _=>by omega) _ _ (dJ.q (a8) _ _ (g_2 Hv0.o)))
 have hsw:=Hsw.o
 have hlenb:=HLen.o
 clear hX hXE hXs hXw hne hfn hat hcs hE hkl hlf hnw hpl40 hLeq hL her hins hops hplay hsm HSN HR Hbc hmk hRS hat4
 go_wp2_with fail
 go_loopg [67,13,14,15,16,11] L.length (fun g i _ _ _ _ mv wr=>∃ (z:Nat) (T:aK) (xs:List PX) (t0:Bool) (t1 t2 t3:Option Addr) (u1 u2 u3 q1 q2 q3:Nat),i= .int .i64 z/\z+g=L.length/\Hid (nV T ((L.drop z).map j7.full)=some X/\mV T (C5 xs) ((L.drop z).map j7.full)=RS)/\Hid (T.wt+xV (L.drop z) <= 400000)/\
  Hid (At wr (W.heap.size+1) [.bool t0, .slice t1 u1 q1, .slice t2 u2 q2, .slice t3 u3 q3] 35)/\Hid (NodeQ wr (fun b=>b≠W.heap.size+1) T [.bool t0, .slice t1 u1 q1, .slice t2 u2 q2, .slice t3 u3 q3])/\Hid (jJ wr w3.heap.size w3.heap.size mv xs)/\Hid (tZ (C5 xs)/\∀q∈C5 xs,jV T q=true)/\Hid (w3.grownBy wr (some (W.heap.size+1))))
 case atStart=>exact⟨0,n, [],false,b1,b2,b3,m1,m2,m3,d1,d2,d3,rfl,by omega,Hst,Hins,HN3,HQ3,jJ.nil _ _ _,⟨List.Pairwise.nil,by simp⟩,cZ (a7)⟩
 case round=>
  obtain⟨z,T,xs,t0,t1,t2,t3,u1,u2,u3,q1,q2,q3,rfl,hg,hpl,hw,hA,hQ,hX,hel,hgr⟩:=hrel
  clear HQ3 Hst Hins
  have HbW:=a6 (show Below W.heap.size W wr from Hbl.o.trans (hgr.o.old Hbl.o.size (fun k hk=>by cases hk;omega)))
  obtain⟨ma,mc,hmv⟩:=hX.o.form
  subst hmv
  by_cases hlt:z < L.length
  . --<1
    have hlti:(z:Int) < L.length:=by omega
    have hdr:=List.drop_eq_getElem_cons hlt
    obtain⟨b,off,pa',pc',ta,tc,n0,n1,n2,n3,oa,oc,rfl,hb,h1,h2,h3,h4,h5⟩:=(Hlv.o.grown hgr.o Hn0.o).load2 z hlt
    have hko:=Hks.o L[z] (List.getElem_mem hlt)
    have hdl:=Hdst.o L[z] (List.getElem_mem hlt)
    have hpl2:=hpl.o
    have hw2:=hw.o
    rw [hdr]at hpl2 hw2
    generalize L[z]=o at h1 h2 h3 h4 h5 hko hpl2 hw2 hdl
    clear hdr hpl hw
    obtain⟨kd,p',d,pos,nd,ol⟩:=o
    simp only [List.map_cons]at hpl2
    obtain⟨hpl2,hrs⟩:=hpl2
    obtain⟨T2,hap,hpl3⟩:=b_y hpl2
    rw [lJ hap]at hrs
    obtain⟨l0,a1,m1',c1,a2,m2',c2,a3,m3',c3,hn4⟩:=h3.form
    injection hn4 with e0 hn4;injection hn4 with e1 hn4;injection hn4 with e2 hn4;injection hn4 with e3 hn4
    subst e0;subst e1;subst e2;subst e3
    obtain⟨hk,hnw, -,hol⟩:=hko
    simp only at h1 h2 h3 h4 hk hnw hdl hol
    have hTw:T.wt <= 400000:=by omega
    have hT2:=FZ (o:=⟨kd,p',d,pos,nd,ol⟩) hk (by omega) hap
    have hT2w:T2.wt+xV (L.drop (z+1)) <= 400000:=by
     simp only [xV]at hw2
     simp only at hT2
     omega
    obtain⟨hnum,hpll⟩:=c_J (o:=⟨kd,p',d,pos,nd,ol⟩) hk (by omega) hap
    obtain⟨hpne,hdne⟩:=h_t (o:=⟨kd,p',d,pos,nd,ol⟩) hk (by omega) hap
    simp only at hnum hpll hpne hdne
    have hlf:=(AV (o:=⟨kd,p',d,pos,nd,ol⟩) hk (by omega) hap).2.1
    have hl0:=c_K hQ.o
    rw [hlf]at hl0
    subst hl0
    have HR:=a6 (show wr.rangeAt b (off+z * 21) [.int .i64 kd, .slice pa' p'.length pc', .slice ta d.length tc, .int .i64 pos, .bool l0, .slice a1 m1' c1, .slice a2 m2' c2, .slice a3 m3' c3, .slice oa ol.length oc, .slice none 0 0, .slice none 0 0, .bool false, .slice none 0 0, .int .i64 0, .slice none 0 0, .int .i64 0, .bool false, .slice none 0 0, .int .i64 0, .slice none 0 0, .int .i64 0]from h5)
    have HP:=a6 (fun(w':World) (hb':Below wr.heap.size wr w')=>m_e T T2 p' d kd pos nd ol t1 t2 t3 u1 u2 u3 q1 q2 q3 pa' ta oa pc' tc oc l0 a1 a2 a3 m1' m2' m3' c1 c2 c3 w' (by omega) ⟨_,rfl,dJ.keep hb' hb'.size _ _ (NodeQ.node _ _ hQ.o)⟩ hnw
     ⟨_,rfl,dJ.keep hb' hb'.size _ _ (NodeQ.node _ _ h3)⟩ (h1.row.keep hb' hb'.size) (h2.row.keep hb' hb'.size) (by omega) (h4.row.keep hb' hb'.size) hol hk hap)
    have hel2:=d_U hel.o.1 hel.o.2
    have hxl:xs.length <= 400000:=by have h:=hel2.1;simp at h;omega
    have HT:=a6 (fun(w':World) (X':Value) (hX':bY w' w'.heap.size T2 X') (hsz:wr.heap.size <= w'.heap.size) (hk':∀b,wc.heap.size <= b ->b < wr.heap.size ->w'.heap[b]? =wr.heap[b]?) (hrx:b_q w' w'.heap.size (.slice ma xs.length mc) xs)=>
     n_i T2 nd kd pos p' d ol X' pa' ta pc' tc (.bool l0) (.slice a1 m1' c1) (.slice a2 m2' c2) (.slice a3 m3' c3) (.slice oa ol.length oc) (.slice none 0 0) (.slice none 0 0) (.bool false) (.slice none 0 0) (.int .i64 0) (.slice none 0 0) (.int .i64 0) (.bool false) (.slice none 0 0) (.int .i64 0) (.slice none 0 0) (.int .i64 0) (.slice ma xs.length mc) xs w' hk (by omega) hX' ((h1.keep hsz hk' (fun _ h _=>h)).row) (by omega) hpne (fun z hz=>by have:=hnum z hz;omega) ((h2.keep hsz hk' (fun _ h _=>h)).row) hdl hdne hrx (by omega)
      (fun x hx=>by have:=hel2.2 x.1 (List.mem_map_of_mem hx);omega))
    have HT2w:=a6 hT2w;have Hpl3:=a6 (show nV T2 ((L.drop (z+1)).map j7.full)=some X from hpl3);have Hrs:=a6 hrs
    clear h1 h2 h3 h4 h5 hpl2 hw2 hpl3 hT2w hT2 hTw hap hk hnw hdl hol hlf hrs hnum hpll hpne hdne hel2 hel
    go_wp2_with (first
     | (refine e_t rfl _ _ rfl b (off+z * 21) #[.int .i64 kd, .slice pa' p'.length pc', .slice ta d.length tc, .int .i64 pos, .bool l0, .slice a1 m1' c1, .slice a2 m2' c2, .slice a3 m3' c3, .slice oa ol.length oc, .slice none 0 0, .slice none 0 0, .bool false, .slice none 0 0, .int .i64 0, .slice none 0 0, .int .i64 0, .bool false, .slice none 0 0, .int .i64 0, .slice none 0 0, .int .i64 0] rfl HR.o _ Tryz.underlying55 rfl (by kernel_rfl) ?_)
     | (refine jQ rfl _ _ _ rfl rfl wr.heap.size [.int .i64 0, .slice none 0 0, .slice none 0 0, .int .i64 0, .bool false, .slice none 0 0, .slice none 0 0, .slice none 0 0, .slice none 0 0, .slice none 0 0, .slice none 0 0, .bool false, .slice none 0 0, .int .i64 0, .slice none 0 0, .int .i64 0, .bool false, .slice none 0 0, .int .i64 0, .slice none 0 0, .int .i64 0] #[.int .i64 kd, .slice pa' p'.length pc', .slice ta d.length tc, .int .i64 pos, .bool l0, .slice a1 m1' c1, .slice a2 m2' c2, .slice a3 m3' c3, .slice oa ol.length oc, .slice none 0 0, .slice none 0 0, .bool false, .slice none 0 0, .int .i64 0, .slice none 0 0, .int .i64 0, .bool false, .slice none 0 0, .int .i64 0, .slice none 0 0, .int .i64 0] rfl rfl (At.fresh wr _ _) rfl rfl (by kernel_rfl) ?_))
    intro va h1 g1
    have hgg:=eV (cZ (aX wr (Obj.cells #[.int .i64 0, .slice none 0 0, .slice none 0 0, .int .i64 0, .bool false, .slice none 0 0, .slice none 0 0, .slice none 0 0, .slice none 0 0, .slice none 0 0, .slice none 0 0, .bool false, .slice none 0 0, .int .i64 0, .slice none 0 0, .int .i64 0, .bool false, .slice none 0 0, .int .i64 0, .slice none 0 0, .int .i64 0] 55))) g1
    have Hb1:=a6 (hgg.old (M:=wr.heap.size) (a8) (fun k hk=>by cases hk;exact a8))
    have HO1:=a6 h1
    have HA1:=a6 (hA.o.kept Hb1.o)
    obtain⟨⟨f0,f1,f2,f3⟩, -,fl⟩:=HA1.o.f4
    have HP1:=a6 (HP.o va Hb1.o)
    clear h1 g1 hgg HP HR
    go_wp2_with (refine dK rfl _ _ rfl wr.heap.size #[.int .i64 kd, .slice pa' p'.length pc', .slice ta d.length tc, .int .i64 pos, .bool l0, .slice a1 m1' c1, .slice a2 m2' c2, .slice a3 m3' c3, .slice oa ol.length oc, .slice none 0 0, .slice none 0 0, .bool false, .slice none 0 0, .int .i64 0, .slice none 0 0, .int .i64 0, .bool false, .slice none 0 0, .int .i64 0, .slice none 0 0, .int .i64 0] rfl HO1.o _ Tryz.underlying55 rfl (by kernel_rfl) ?_)
    refine HP1.o.mono ?_
    rintro e vb ⟨hbel,x0,x1,x2,x3,y1,y2,y3,z1,z2,z3,sa,sb,sc,sd,rfl,hX2⟩
    have Hb2:=a6 (b5 Hb1.o hbel)
    have Hva:=a6 Hb1.o.size
    have HX2:=a6 hX2
    have HO2:=a6 (HO1.o.kept hbel)
    clear f0 f1 f2 f3 fl HP1 hX2 hbel HA1 HO1
    obtain⟨vd,hvd⟩:∃vd,vd=(vb.alloc (Obj.cells #[.bool x0, .slice x1 y1 z1, .slice x2 y2 z2, .slice x3 y3 z3] 35)).alloc (Obj.cells #[.bool false, .slice sa 0 sc, .int .i64 0, .slice sb 0 sd, .int .i64 0] 53):=⟨_,rfl⟩
    have hbd:Below vb.heap.size vb vd:=by rw [hvd];exact i8 _ _ _
    have HX4:=a6 (AK HX2.o hbd)
    have Hb4:=a6 (b5 Hb2.o hbd)
    have HA4:=a6 (hA.o.kept Hb4.o)
    have HO4:=a6 (HO2.o.kept hbd)
    have HC4:=a6 (show At vd vb.heap.size [.bool x0, .slice x1 y1 z1, .slice x2 y2 z2, .slice x3 y3 z3] 35 by rw [hvd];exact(At.fresh _ _ _).alloc _)
    have Hvd:=a6 hvd
    have Hvb:=a6 Hb2.o.size
    clear hvd hbd HX2 HO2
    go_upto_region 14 with fail
    rw [<- Hvd.o]
    clear Hvd
    obtain⟨⟨f0,f1,f2,f3⟩,ff,fl⟩:=HA4.o.f4
    obtain⟨⟨e0,e1,e2,e3⟩, -,el⟩:=HC4.o.f4
    go_upto_region 17 with fail
    obtain⟨ve,hve⟩:∃ve,ve=(((vd.setCell ⟨W.heap.size+1,0,none⟩ (.bool x0)).setCell ⟨W.heap.size+1,1,none⟩ (.slice x1 y1 z1)).setCell ⟨W.heap.size+1,2,none⟩ (.slice x2 y2 z2)).setCell ⟨W.heap.size+1,3,none⟩ (.slice x3 y3 z3):=⟨_,rfl⟩
    have hwr1:W.heap.size+1 < wr.heap.size:=hA.o.lt
    have hgde:vd.grownBy ve (some (W.heap.size+1)):=by rw [hve];exact h_r (cZ (a7)) _ _ _ _
    have hse:ve.heap.size=vd.heap.size:=by rw [hve];simp [World.setCell]
    have HA5:=a6 (show At ve (W.heap.size+1) [.bool x0, .slice x1 y1 z1, .slice x2 y2 z2, .slice x3 y3 z3] 35 by rw [hve];exact(((HA4.o.set 0 _).set 1 _).set 2 _).set 3 _)
    have HO5:=a6 (HO4.o.grow1 hgde (by omega))
    have HX5:=a6 (show NodeQ ve (fun b=>va.heap.size <= b) T2 [.bool x0, .slice x1 y1 z1, .slice x2 y2 z2, .slice x3 y3 z3]by rw [hve];exact pZ HX4.o (by have:=Hva.o;omega) _ _ _ _)
    have HXv:=a6 (show bY ve ve.heap.size T2 (.agg #[.bool x0, .slice x1 y1 z1, .slice x2 y2 z2, .slice x3 y3 z3])from⟨_,rfl,NodeQ.node _ _ HX5.o⟩)
    have Hs3r:=a6 hgr.o.size
    have Hn3:=a6 (show W.heap.size+1 < w3.heap.size from HN3.o.lt)
    have HY5:=a6 (show jJ ve w3.heap.size w3.heap.size (.slice ma xs.length mc) xs by rw [hve];exact(hX.o.below Hb4.o).set4 Hn3.o Hn3.o _ _ _ _)
    have HG5:=a6 (show w3.grownBy ve (some (W.heap.size+1))from(hgr.o.then Hb4.o).trans hgde)
    have Hsz5:=a6 (show wr.heap.size <= ve.heap.size by rw [hse];exact Hb4.o.size)
    have HT5:=a6 (HT.o ve _ HXv.o Hsz5.o (fun b hb hlt=>by
     rw [hgde.block b (Nat.lt_of_lt_of_le hlt Hb4.o.size) (fun e=>by injection e with e;have:=Hn0.o;omega)]
     exact Hb4.o.block b hlt) HY5.o.read)
    have Hve:=a6 hve
    rw [<- hve]
    clear hve f0 f1 f2 f3 ff fl e0 e1 e2 e3 el hgde hse HA4 HC4 HO4 HX4 HT
    obtain⟨⟨f0,f1,f2,f3⟩, -,fl⟩:=HA5.o.f4
    go_wp2_with (refine dK rfl _ _ rfl wr.heap.size #[.int .i64 kd, .slice pa' p'.length pc', .slice ta d.length tc, .int .i64 pos, .bool l0, .slice a1 m1' c1, .slice a2 m2' c2, .slice a3 m3' c3, .slice oa ol.length oc, .slice none 0 0, .slice none 0 0, .bool false, .slice none 0 0, .int .i64 0, .slice none 0 0, .int .i64 0, .bool false, .slice none 0 0, .int .i64 0, .slice none 0 0, .int .i64 0] rfl HO5.o _ Tryz.underlying55 rfl (by kernel_rfl) ?_)
    refine HT5.o.mono ?_
    rintro e vf ⟨mv,ys,rfl,hy,hpy,hbel⟩
    obtain⟨ya,yc,hv6⟩:=hy.form
    subst hv6
    have HY6:=a6 (hy.from (M':=w3.heap.size) (L':=w3.heap.size) (aJ Hs3r.o Hsz5.o) (aJ Hs3r.o Hsz5.o))
    have HA6:=a6 (HA5.o.kept hbel)
    have HX6:=a6 (show NodeQ vf (fun b=>b≠W.heap.size+1) T2 [.bool x0, .slice x1 y1 z1, .slice x2 y2 z2, .slice x3 y3 z3]from NodeQ.keep hbel.size (fun b _ hlt=>hbel.block b hlt) (fun b hb _=>by have h1:va.heap.size <= b:=hb;have h2:=Hva.o;omega) _ _ HX5.o)
    have HG6:=a6 (HG5.o.then hbel)
    have Hpy:=a6 hpy
    clear hy hpy hbel HT5 f0 f1 f2 f3 fl HO5 HX5 HXv HY5
    go_wp2_with fail
    go_roundg (L.length - (z+1))
    case measure=>omega
    case rel=>
     refine⟨z+1,T2,ys,x0,x1,x2,x3,y1,y2,y3,z1,z2,z3,by go_num,by omega,⟨Hpl3.o,by rw [Hpy.o];exact Hrs.o⟩,HT2w,HA6,HX6,HY6, ?_,HG6⟩
     show tZ (C5 ys)/\∀q∈C5 ys,jV T2 q=true
     rw [Hpy.o]
     exact h_s _ _ _
  . --<2
    obtain rfl:z=L.length:=by omega
    have hpl2:=hpl.o
    rw [List.drop_length]at hpl2
    obtain⟨hpl3,hrs⟩:=hpl2
    have hXR:C5 xs=RS:=hrs
    have hxl:xs.length <= 400000:=by
     have h1:=(d_U hel.o.1 hel.o.2).1
     have h2:=hw.o
     simp at h1;omega
    have HXR:=a6 hXR
    clear hpl hw hpl3 hrs hXR hel
    have HKr:=a6 (HK3.o.grow1 hgr.o (by have:=Hlt4.o;omega))
    have HSr:=a6 (HS3.o.grow1 hgr.o (by omega))
    have HKvr:=a6 (show bY wr wr.heap.size k (.agg #[.bool kx, .slice k1 s1 r1, .slice k2 s2 r2, .slice k3 s3 r3])from⟨_,rfl,NodeQ.node _ _ (NodeQ.keep hgr.o.size (fun b hb hlt=>hgr.o.block b hlt (fun e=>by injection e with e;have h1:=Hn0.o;have h2:=Hc5.o;omega)) (fun _ h _=>h) _ _ HKq3.o)⟩)
    have hkw:k.wt <= 100000000:=by have h1:=uK p n k Hat.o;have h2:=Hnw2.o;omega
    have HFi1:=a6 (k_9 s _ k (.agg #[.bool kx, .slice k1 s1 r1, .slice k2 s2 r2, .slice k3 s3 r3]) wr (by omega) hkw (Hu0.o.keep HbW.o HbW.o.size) HKvr.o)
    obtain⟨F1,F2,F3,hF⟩:∃F1 F2 F3,g9 s k=(F1,F2,F3):=⟨_,_,_,rfl⟩
    have hmk:=Hmk.o
    rw [hF]at HFi1 hmk
    have Hmk1:=a6 hmk
    have Hpr:=a6 (fun(w':World) (hb:Below W.heap.size W w')=>Hp0.o.keep hb hb.size)
    have Hp40':=Hp40.o
    obtain⟨⟨f0,f1,f2,f3⟩, -,fl⟩:=HKr.o.f4
    clear hF hmk hA hQ
    go_wp2_with (refine dK rfl _ _ rfl W.heap.size #[.slice a s.rules.length c,aV s.els.type, .int .i64 s.els.text.1,aV s.els.text.2, .int .i64 s.els.other.1,aV s.els.other.2, .slice ea s.els.kids.length ec, .int .i64 s.els.fill,aV s.els.fillT, .int .i64 o0, .int .i64 o1, .int .i64 o2, .int .i64 o3, .int .i64 o4, .int .i64 o5, .int .i64 s.cap] rfl HSr.o _ Tryz.underlying30 rfl (by kernel_rfl) ?_)
    refine HFi1.o.mono ?_
    rintro e va ⟨rfl,hbel⟩
    obtain⟨vb,hvb⟩:∃vb,vb=va.alloc (Obj.cells #[.int .i64 F1, .int .i64 F2, .int .i64 F3] 60):=⟨_,rfl⟩
    have hbb:Below va.heap.size va vb:=by rw [hvb];exact aX _ _
    have HTb:=a6 (show At vb va.heap.size [.int .i64 F1, .int .i64 F2, .int .i64 F3] 60 by rw [hvb];exact At.fresh _ _ _)
    have Hrb:=a6 (b5 hbel hbb)
    have Hvb:=a6 hvb
    clear hvb hbb hbel HFi1 f0 f1 f2 f3 fl HSr HKr HKvr
    go_upto_region 20 with fail
    rw [<- Hvb.o]
    clear Hvb
    obtain⟨I,hI⟩:∃I:Bool,I=(decide (F1=3) || decide (F1=6)):=⟨_,rfl⟩
    have HI:=a6 hI
    clear hI
    generalize hwo:wr=wo at *
    clear hwo
    go_cut [18] (fun b wx=>b= .bool I/\Hid (Below vb.heap.size vb wx))
    case first=>
     have g0:=HTb.o.cell 0 rfl;have gl:=HTb.o.lt
     by_cases e3:F1=3
     . subst e3
       go_wp2_with fail
       go_meet
       case rel=>exact⟨by rw [HI.o];rfl,a7⟩
     . have e3b:(F1 == 3)=false:=by simpa using e3
       by_cases e6:F1=6
       . subst e6
         go_wp2_with fail
         go_meet
         case rel=>exact⟨by rw [HI.o];rfl,a7⟩
       . have e6b:(F1 == 6)=false:=by simpa using e6
         have HIf:=a6 (show I=false by rw [HI.o];simp [e3,e6])
         clear e3 e6
         go_wp2_with fail
         go_meet
         case rel=>exact⟨by rw [HIf.o],a7⟩
    case rest=>
    obtain⟨rfl,hbc⟩:=hcut
    have Hbc:=a6 (b5 Hrb.o hbc.o)
    have HTc:=a6 (HTb.o.kept hbc.o)
    have HWc:=a6 (HbW.o.trans (Hbc.o.mono HbW.o.size))
    have HXc:=a6 (hX.o.below Hbc.o)
    clear hbc HTb Hrb hX
    generalize hwd:wc=wd at *
    clear hwd
    go_wp2_with fail
    go_loopg [100,21,19] xs.length (fun g i _ met w2=>∃z2:Nat,i= .int .i64 z2/\z2+g=xs.length/\met= .bool (decide (p∈C5 (xs.take z2)))/\Hid (Below wd.heap.size wd w2))
    case atStart=>exact⟨0,rfl,by omega,by simp,a7⟩
    case round=>
     obtain⟨z2,rfl,hg2,rfl,hb2⟩:=hrel
     by_cases hlt2:z2 < xs.length
     . --<3
       have hlti2:(z2:Int) < xs.length:=by omega
       have Hxr:=a6 (fun(w':World) (hb:Below wd.heap.size wd w')=>(HXc.o.below hb).read)
       have hx0:xs[z2].1∈RS:=by rw [<- HXR.o];exact List.mem_map_of_mem (List.getElem_mem hlt2)
       have hall:=fun(w':World) (hb:Below wd.heap.size wd w')=>(Hxr.o w' hb).all xs[z2] (List.getElem_mem hlt2)
       obtain⟨b,off,rfl,hb,hc⟩:=(Hxr.o wr hb2.o).at_ z2 hlt2
       have Hst:=a6 (show xs.take (z2+1)=xs.take z2 ++ [xs[z2]]from List.take_succ_eq_append_getElem hlt2)
       generalize xs[z2]=x at hx0 hall hc Hst
       obtain⟨x0,xa,xc⟩:=x
       unfold D5 at hc
       simp only at hx0 hall hc
       have Hm:=a6 (Hmk1.o.2 x0 hx0)
       have HSm:=a6 (fun(w':World) (hb:Below wd.heap.size wd w')=>a_i x0 p xa pa xc pc w'.heap.size w' (hall w' hb) (Hpr.o w' (HWc.o.trans (hb.mono HWc.o.size))))
       have Hall:=a6 hall
       obtain⟨M1,hM1⟩:∃M1:Bool,M1=decide (p∈C5 (xs.take z2)):=⟨_,rfl⟩
       rw [<- hM1]
       have HM1:=a6 hM1
       have HM2:=a6 (show decide (p∈C5 (xs.take (z2+1)))=(M1 || decide (x0=p))by rw [hM1,Hst.o,o7,GQ];simp [eq_comm])
       obtain⟨M2,hM2⟩:∃M2:Bool,M2=decide (p∈C5 (xs.take (z2+1))):=⟨_,rfl⟩
       rw [<- hM2]at HM2
       have HMt:=a6 hM2
       clear hM2
       clear hall hx0 hM1
       go_upto_region 25 with fail
       go_cut [19] (fun b wx=>b= .bool M2/\Hid (Below wd.heap.size wd wx))
       case first=>
        cases M1 with
        | true=>
          have HM3:=a6 (show M2=true by rw [HM2.o];rfl)
          go_wp2_with fail
          go_meet
          case rel=>exact⟨by rw [HM3.o],hb2⟩
        | false=>
          have HS1:=a6 (HSm.o wr hb2.o)
          have HM3:=a6 (show M2=decide (x0=p)by rw [HM2.o];rfl)
          generalize decide (x0=p)=D at HS1 HM3
          go_wp2_with fail
          refine HS1.o.mono ?_
          rintro e vg ⟨rfl,hdr⟩
          have Hg:=a6 (b5 hb2.o (hdr.below _))
          clear hdr HS1
          go_wp2_with fail
          go_meet
          case rel=>exact⟨by rw [HM3.o],Hg⟩
       case rest=>
       obtain⟨rfl,hbc2⟩:=hcut
       have HS2:=HSm.o wc hbc2.o
       by_cases hqp:x0=p
       . rw [decide_eq_true hqp]at HS2
         have HS2:=a6 HS2
         clear hqp
         go_wp2_with fail
         refine HS2.o.mono ?_
         rintro e vh ⟨rfl,hdr⟩
         have Hh:=a6 (b5 hbc2.o (hdr.below _))
         clear hdr HS2
         go_wp2_with fail
         go_roundg (xs.length - (z2+1))
         case measure=>omega
         case rel=>exact⟨z2+1,by go_num,by omega,by rw [HMt.o],Hh⟩
       . obtain ⟨hcl,hq⟩:=Hm.o.resolve_left hqp
         obtain rfl:I=true:=by rw [HI.o];rcases hcl with h | h <;> simp [h]
         rw [decide_eq_false hqp]at HS2
         have HS2:=a6 HS2
         have Hq:=a6 hq
         have t1:=(HTc.o.kept hbc2.o).cell 1 rfl;have tl:=(HTc.o.kept hbc2.o).lt
         clear hqp hcl hq
         go_wp2_with fail
         refine HS2.o.mono ?_
         rintro e vh ⟨rfl,hdr⟩
         have Hh:=a6 (b5 hbc2.o (hdr.below _))
         clear hdr HS2 t1 tl
         have t1:=(HTc.o.kept Hh.o).cell 1 rfl;have tl:=(HTc.o.kept Hh.o).lt
         obtain⟨vj,hvj⟩:∃vj,vj=vh.alloc (Obj.cells #[.int .i64 F2] 3):=⟨_,rfl⟩
         have Hj:=a6 (show Below wd.heap.size wd vj by rw [hvj];exact b5 Hh.o (aX _ _))
         have HWi:=a6 (show Calls Tryz.prog 18 #[.slice pa p.length pc, .slice (some ⟨vh.heap.size,0,none⟩) 1 1] (vh.alloc (Obj.cells #[.int .i64 F2] 3)) (a_v vj (p ++ [F2]))by
          rw [<- hvj]
          exact n_q p [F2] pa pc _ 1 vj (Hpr.o vj (HWc.o.trans (Hj.o.mono HWc.o.size))) (by rw [hvj];exact BJ vh (.int .i64 F2) 3 _ rfl (by simp)) (by simp;omega))
         have Hj2:=a6 hvj
         clear hvj
         go_wp2_with fail
         refine HWi.o.mono ?_
         rintro e vk ⟨za,zc,rfl,hzq,hbel⟩
         have Hk:=a6 (b5 Hj.o hbel)
         have hS3:=a_i x0 (p ++ [F2]) xa za xc zc vk.heap.size vk (Hall.o vk Hk.o) hzq.row
         rw [decide_eq_true Hq.o]at hS3
         have HS3':=a6 hS3
         clear hzq hbel HWi hS3 t1 tl
         generalize p ++ [F2]=zs at HS3'
         go_wp2_with fail
         refine HS3'.o.mono ?_
         rintro e vl ⟨rfl,hdr⟩
         have Hl:=a6 (b5 Hk.o (hdr.below _))
         clear hdr HS3'
         go_wp2_with fail
         go_roundg (xs.length - (z2+1))
         case measure=>omega
         case rel=>exact⟨z2+1,by go_num,by omega,by rw [HMt.o],Hl⟩
     . obtain rfl:z2=xs.length:=by omega
       have hd:decide (p∈C5 (xs.take xs.length))=true:=by
        rw [List.take_length,HXR.o]
        exact decide_eq_true Hmk1.o.1
       rw [hd]
       have HbF:=a6 (HWc.o.trans (hb2.o.mono HWc.o.size))
       go_wp2_with fail
       go_ret
       exact⟨rfl,HbF.o⟩
open Go.ChangeShapes Go.WideShapes Go.ChangeAt Go.WideMaps Go.WideElems Go.Deep
theorem own:ownKnob Tryz.prog.godebug=none:=by kernel_rfl
theorem e_G:laidOutB Tryz.prog=true:=by kernel_rfl
def IntΦ {H:Type} (z:Int) (cs:List Value) (d:DataW H):Prop:=cs= [.int .i64 z]/\1 <= Rows.uptoBulk d
theorem d_2 {H:Type}:∀ {l:List Int} {css:List Value} {ds:List (DataW H)},F0 IntΦ l css ds ->css=l.map (Value.int .i64)/\l.length <= Rows.uptoBulkAll ds
 | [],css,ds,h=>by obtain⟨rfl,rfl⟩:=h;exact⟨rfl,by simp⟩
 | z::l,css,ds,h=>by
   obtain⟨c,cs,d,ds',rfl,rfl,⟨rfl,hb⟩,hr⟩:=h
   obtain⟨rfl,h3⟩:=d_2 hr
   exact⟨rfl,by simp only [List.length_cons,Rows.uptoBulkAll];omega⟩
theorem e_H {H:Type} {enc:TypeId×Value ->H} {W:World} {fuel:Nat} {cs:List Value} {x:DataW H×List MemPlace} (h:DataW.trod enc Tryz.prog W 0 (fun _=>true) true fuel 36 cs=some x):
 ∃a cap zs,cs= [.slice a (List.length zs) cap]/\RowA W W.heap.size 1 a (List.length zs) cap (zs.map (Value.int .i64))/\zs.length+1 <= Rows.uptoBulk x.1:=by
 obtain⟨a,cap,ys,css,ds,rfl,hr,hel,hs⟩:=vJ IntΦ Tryz.underlying36 (show Tryz.prog.cellsOf 3=1 by kernel_rfl) (by decide)
  (fun m cs x _ hx=>by
    obtain⟨xv,xp⟩:=x
    obtain⟨z,e0,e1, -⟩:=DataW.trod_int Tryz.underlying3 hx
    have e2:=(Prod.mk.inj e1).1
    subst e2
    exact⟨z,e0,by simp [Rows.uptoBulk]⟩) (fun y c d hh=>by obtain⟨rfl, -⟩:=hh;intro u hu;simp at hu;subst hu;rfl) h
 obtain⟨rfl,hlen⟩:=d_2 hel
 have m0:=yV (n:=0) (hs.imp (fun h=>⟨h.1,rfl,h.2.2⟩) id)
 exact⟨a,cap,ys,rfl,hr,by omega⟩
theorem d_3 (os:Os) {H:Type} (enc:TypeId×Value ->H):∃places,DataW.whole enc Tryz.prog ((World.laidAll Tryz.prog os Rows.fixMarksUptoRow.laid).forCall (fun _ _=>0) ⟨#[], #[.agg #[.slice none 0 0, .string ⟨#[]⟩, .int .i64 0, .string ⟨#[]⟩, .int .i64 0, .string ⟨#[]⟩, .slice none 0 0, .int .i64 0, .string ⟨#[]⟩, .int .i64 0, .int .i64 0, .int .i64 0, .int .i64 0, .int .i64 0, .int .i64 0, .int .i64 0], .agg #[.bool false, .slice none 0 0, .slice none 0 0, .slice none 0 0], .slice none 0 0], []⟩).memory Tryz.f3.params.toList Rows.fixMarksSpec.vars false (#[.agg #[.slice none 0 0, .string ⟨#[]⟩, .int .i64 0, .string ⟨#[]⟩, .int .i64 0, .string ⟨#[]⟩, .slice none 0 0, .int .i64 0, .string ⟨#[]⟩, .int .i64 0, .int .i64 0, .int .i64 0, .int .i64 0, .int .i64 0, .int .i64 0, .int .i64 0], .agg #[.bool false, .slice none 0 0, .slice none 0 0, .slice none 0 0], .slice none 0 0]:Array Value).toList 8=some ([.agg [.nil, .agg [.lit (.string []), .agg [.lit (.int .i64 0), .lit (.string [])], .agg [.lit (.int .i64 0), .lit (.string [])], .nil, .lit (.int .i64 0), .lit (.string [])], .agg [.lit (.int .i64 0), .lit (.int .i64 0), .lit (.int .i64 0), .lit (.int .i64 0), .lit (.int .i64 0), .lit (.int .i64 0)], .lit (.int .i64 0)], .agg [.lit (.bool false), .nil, .nil, .nil], .nil], [],places):=
 ⟨[],by kernel_rfl⟩
theorem a_L (H:Type) (enc:TypeId×Value ->H) (W:World) (base:Nat) (args:Array Value) (ds gs:List (DataW H)) (before:List MemPlace)
 (hval0:∀ (j:Nat) t v,Tryz.f3.params[j]? =some t ->args[j]? =some v ->Value.okWide Tryz.prog W .any base t v)
 (hW:DataW.Whole enc Tryz.prog Tryz.f3.params.toList Rows.fixMarksSpec.vars false W args.toList ds gs before) (hk:Rows.uptoSmall H (ds ++ gs)=true) (hL:laidMetH Tryz.prog Rows.fixMarksUptoRow.laid W):
 Calls Tryz.prog 3 args W fun e W'=>∃v,e= .returned v/\Rows.fixMarksSpec.post enc Tryz.prog Tryz.f3 false true false false W args v W':=by
 have hval:∀ (j:Nat) t v,Tryz.f3.params[j]? =some t ->args[j]? =some v ->Value.okWide Tryz.prog W .any base t v:=hval0
 have hW':=hW
 obtain⟨p,q,hA0,hV,rfl,hfz,hnd⟩:=hW
 have hA:DataW.TrodAll enc Tryz.prog W 0 (fun _=>true) true Tryz.f3.params.toList args.toList ds p:=hA0
 rw [Tryz.params3]at hA hval
 obtain⟨v0,vs0,d0,ds0,p0,q0,hargs,rfl,rfl,h0,r0⟩:=trodAll_cons hA
 obtain⟨v1,vs1,d1,ds1,p1,q1,rfl,rfl,rfl,h1,r1⟩:=trodAll_cons r0
 obtain⟨v2,vs2,d2,ds2,p2,q2,rfl,rfl,rfl,h2,r2⟩:=trodAll_cons r1
 obtain⟨rfl,rfl,rfl⟩:=trodAll_nil r2
 obtain rfl:args= #[v0,v1,v2]:=by cases args;simp_all
 obtain⟨rfl,rfl⟩:=trodVars_none hV
 obtain⟨cs0,rfl,hsz0⟩:=okWide_struct Tryz.underlying30 (hval 0 30 v0 rfl rfl)
 have k0:=h0
 have lt0:∀x∈p0,x.block < W.heap.size:=by obtain⟨m,hm⟩:=k0;exact DataW.trod_lt m _ _ _ hm
 obtain⟨n0,i0,u0⟩:∃n,SchemaV W W.heap.size n (.agg cs0)/\n.wt <= Rows.uptoBulk d0:=by
  obtain⟨fuel,hf⟩:=h0
  obtain⟨n,h1,h2⟩:=b_W hf
  exact⟨n,⟨cs0.toList,by simp,h1⟩,h2⟩
 obtain⟨cs1,rfl,hsz1⟩:=okWide_struct Tryz.underlying35 (hval 1 35 v1 rfl rfl)
 have k1:=h1
 have lt1:∀x∈p1,x.block < W.heap.size:=by obtain⟨m,hm⟩:=k1;exact DataW.trod_lt m _ _ _ hm
 obtain⟨n1,i1,u1⟩:∃n,bY W W.heap.size n (.agg cs1)/\n.wt <= Rows.uptoBulk d1:=by
  obtain⟨fuel,hf⟩:=h1
  obtain⟨n,h1,h2⟩:=d_Y fuel _ _ hf
  exact⟨n,⟨cs1.toList,by simp,h1⟩,h2⟩
 obtain⟨a2,len2,cap2,rfl⟩:=okWide_slice Tryz.underlying36 (hval 2 36 v2 rfl rfl)
 have k2:=h2
 have lt2:∀x∈p2,x.block < W.heap.size:=by obtain⟨m,hm⟩:=k2;exact DataW.trod_lt m _ _ _ hm
 obtain⟨n2,hl2,i2,u2⟩:∃zs:List Int,len2=zs.length/\RowA W W.heap.size 1 a2 zs.length cap2 (zs.map (Value.int .i64))/\zs.length+1 <= Rows.uptoBulk d2:=by
  obtain⟨fuel,hf⟩:=h2
  obtain⟨a,cap,zs,h0,h1,h2⟩:=e_H hf
  simp [Value.cells]at h0
  obtain⟨rfl,rfl,rfl⟩:=h0
  exact⟨zs,rfl,h1,h2⟩
 subst hl2
 have hb:Rows.uptoBulkAll _ <= 1048576:=of_decide_eq_true hk
 simp only [List.append_nil,Rows.uptoBulkAll,Nat.add_zero]at hb
 clear hA0 hval0
 refine(d_f n0 n1 _ _ n2 _ _ W (by omega) (by omega) (by omega) i0 i1 i2).mono fun e W' ⟨he,bel⟩=> ?_
 subst he
 exact⟨_,rfl,_,_,_, [],_, [],hW',trodAll_mk1 (shut_bool Tryz.underlying4 _),(trodAll_cons_mk (Below.trod e_G (by kernel_rfl) (of_decide_eq_true (by kernel_rfl)) k0 bel lt0) (trodAll_cons_mk (Below.trod e_G (by kernel_rfl) (of_decide_eq_true (by kernel_rfl)) k1 bel lt1) (trodAll_cons_mk (Below.trod e_G (by kernel_rfl) (of_decide_eq_true (by kernel_rfl)) k2 bel lt2) trodAll_mk0))),rfl,bel.frame _,fun h=>by cases h⟩
theorem b_F (os:Os) (started:os.Started) (H:Type) (enc:TypeId×Value ->H) (F:Stop.Interp):
 ReturnsInHanded {} Tryz.checked os 3 .any ((Rows.OpenSpec.upto Rows.fixMarksSpec).preRow enc Tryz.prog Tryz.f3 Rows.fixMarksUptoRow.domain false Rows.fixMarksUptoRow.laid) (((Rows.OpenSpec.upto Rows.fixMarksSpec).at F).post enc Tryz.prog Tryz.f3 false true false false):=by
 obtain⟨places,hx⟩:=d_3 os enc
 refine returnsInHanded_of_row (C:=Tryz.checked) (s:=Rows.OpenSpec.upto Rows.fixMarksSpec) own started (by kernel_rfl) Tryz.func3
  (witness_row_atRef (enc:=enc) (C:=Tryz.checked) false (World.laidAll Tryz.prog os Rows.fixMarksUptoRow.laid) #[.agg #[.slice none 0 0, .string ⟨#[]⟩, .int .i64 0, .string ⟨#[]⟩, .int .i64 0, .string ⟨#[]⟩, .slice none 0 0, .int .i64 0, .string ⟨#[]⟩, .int .i64 0, .int .i64 0, .int .i64 0, .int .i64 0, .int .i64 0, .int .i64 0, .int .i64 0], .agg #[.bool false, .slice none 0 0, .slice none 0 0, .slice none 0 0], .slice none 0 0] (World.laidAll_os _ _ _) (by kernel_rfl) (by kernel_rfl) (by kernel_rfl)
    (OpenSpec.preRow_of_cond 8 hx (by kernel_rfl) (fun k hk=>by cases hk;kernel_rfl) (by kernel_rfl) (by rw [MakeChecks.laidMetH_plain _ _ _ (by kernel_rfl)];exact laidMet_laidAll _ (by kernel_rfl) (by kernel_rfl)))) ?_
 intro W base args ds gs before hval hW _ hcond _ hL _ _
 exact a_L H enc W base args ds gs before hval hW (hcond _ rfl) hL
end Go.Proofs.YtmadpclcmjahoaaGreatDoor

/- Parts of the proof: 25. -/
import Derived.Test.YtmadpclcmjahoaaGreatDoorFN1
import Derived.Maps.RangeWalk
import Derived.Deep.RegionHeld3
import Derived.Test.YtmadpclcmjahoaaGreatDoorFN24
import Derived.Test.YtmadpclcmjahoaaGreatDoorFN23
import Derived.Test.YtmadpclcmjahoaaGreatDoorFN6
set_option linter.unusedVariables false
set_option linter.unusedSimpArgs false
set_option maxHeartbeats 8000000
set_option maxRecDepth 100000
namespace Go.Proofs.YtmadpclcmjahoaaGreatDoor
open Go.RowKit Go.Redl Go.Maps
def St (w:World) (M:Nat) (L:List (List UInt8)):Prop:= ∃acc,oJ w M L.length acc/\∀x,x∈acc ↔ x∈L
theorem St.kept {w w':World} {M:Nat} {L:List (List UInt8)} (h:St w M L) (hb:Below w.heap.size w w'):St w' M L:=by
 obtain⟨acc,h1,h2⟩:=h
 exact⟨acc,h1.kept hb,h2⟩
theorem St.lt {w:World} {M:Nat} {L:List (List UInt8)} (h:St w M L):M < w.heap.size:=by
 obtain⟨acc,h1,h2⟩:=h
 exact h1.lt
theorem St.drew {w:World} {M:Nat} {L:List (List UInt8)} (h:St w M L):St w.drew M L:=h
theorem St.put {w:World} {M:Nat} {L:List (List UInt8)} (h:St w M L) (hn:L.length < maxLen) (k:List UInt8) (hk:k.length <= maxLen):
 ∃w',(Instr.mapUpdate 150 (.map (some M)) (aV k) (.bool true)).run Tryz.prog w= .ok () w'/\St w' M (L ++ [k])/\w.grownBy w' (some M):=by
 obtain⟨acc,h1,h2⟩:=h
 obtain⟨w',r1,r2,r3⟩:=h1.put hn k hk
 exact⟨w',r1,⟨acc ++ [k],by simpa using r2,fun x=>by simp [h2 x]⟩,r3⟩
theorem St.same {w:World} {M:Nat} {L L':List (List UInt8)} (h:St w M L) (hl:L.length=L'.length) (hm:∀x,x∈L ↔ x∈L'):St w M L':=by
 obtain⟨acc,h1,h2⟩:=h
 exact⟨acc,by rw [<- hl];exact h1,fun x=>(h2 x).trans (hm x)⟩
theorem f_O {ops:Array Oper} {rest:List Oper} {o:Oper} {a:Act} {w:World} {Q:Exit ->Act ->World ->Prop} (hg:o.guard=none) (m x v:Operand) (ho:o.op= .mapUpdate 150 m x v)
 (b:Nat) (L:List (List UInt8)) (k:List UInt8) (hm:a.eval m= .map (some b)) (hx:a.eval x=aV k) (hv:a.eval v= .bool true) (h:St w b L) (hn:L.length < maxLen) (hk:k.length <= maxLen)
 (hK:∀w',St w' b (L ++ [k]) ->w.grownBy w' (some b) ->wpList Tryz.prog ops Q rest (a.put o.dst undef) w'):wpList Tryz.prog ops Q (o::rest) a w:=by
 obtain⟨w',hrun,r1,r2⟩:=h.put hn k hk
 refine wpList_plain hg fun K' hK'=> ?_
 unfold Oper.wp
 simp [execOp,ho,hm,hx,hv,hrun,Result.andThen]
 exact hK' _ _ (hK w' r1 r2)
abbrev tX (r:bJ):List (List UInt8):= [r.type,r.text.2,r.other.2,r.fillT]
abbrev B8 (l:List vQ):List (List UInt8):=l.flatMap fun p=> [p.1,p.2.2]
theorem K6 {α :Type} {f: α ->List (List UInt8)} {l:List α} {k:Nat} (hk:k < l.length):(l.take (k+1)).flatMap f=(l.take k).flatMap f ++ f l[k]:=by
 rw [List.take_succ_eq_append_getElem hk,List.flatMap_append]
 simp
theorem b_z {α :Type} (f: α ->List (List UInt8)) (l:List α) (k:Nat):(l.take k).flatMap f <+:l.flatMap f:=by
 refine⟨(l.drop k).flatMap f, ?_⟩
 rw [<- List.flatMap_append,List.take_append_drop]
theorem a_I {B M:Nat} {w w':World} (h:w.grownBy w' (some M)) (hB:B <= w.heap.size) (hM:B <= M):Below B w w':=(Below.refl B w).grown h hB (fun k e=>by cases e;exact hM)
theorem h_R {w w':World} {M:Nat} (h:Below w.heap.size w w'):w.grownBy w' (some M):=⟨h.os,h.tape,h.output,h.size,fun k hk _=>h.block k hk⟩
theorem m_o {w w':World} {B M sz n cap:Nat} {a:Option Addr} {cs:List Value} (h:RowQ w (fun b=>B <= b) sz a n cap cs) (hg:w.grownBy w' (some M)) (hM:M < B):RowQ w' (fun b=>B <= b) sz a n cap cs:=
 h.keep hg.size (fun b hb hlt=>hg.block b hlt (fun e=>by injection e with e;omega)) (fun b hb _=>hb)
theorem h_f {w:World} {B B' n cap:Nat} {a:Option Addr} {rs:List bJ} {css:List Value} (h:RowA w B' 8 a n cap css) (hr:g8 w B rs css) (k:Nat) (hk:k < rs.length):
 ∃ b off ra rc,a=some ⟨b,off,none⟩/\b < B'/\RowA w B 3 ra rs[k].kids.length rc (dY rs[k].kids)/\w.cell? ⟨b,off+k * 8,none⟩=some (aV rs[k].type)/\w.cell? ⟨b,off+k * 8+1,none⟩=some (.int .i64 rs[k].text.1)/\
   w.cell? ⟨b,off+k * 8+2,none⟩=some (aV rs[k].text.2)/\w.cell? ⟨b,off+k * 8+3,none⟩=some (.int .i64 rs[k].other.1)/\w.cell? ⟨b,off+k * 8+4,none⟩=some (aV rs[k].other.2)/\w.cell? ⟨b,off+k * 8+5,none⟩=some (.slice ra rs[k].kids.length rc)/\
   w.cell? ⟨b,off+k * 8+6,none⟩=some (.int .i64 rs[k].fill)/\w.cell? ⟨b,off+k * 8+7,none⟩=some (aV rs[k].fillT):=by
 obtain⟨cs,⟨ra,rc,rfl,h2⟩,h3⟩:=hr.at_ k hk
 have h0:=h3 0 _ (show (mZ rs[k] ra rc)[0]? =some (aV rs[k].type)from rfl)
 obtain⟨b,off,ha,hb,hc⟩:=h.some_ (by rintro rfl;simp at h0)
 have h4:∀j u,(mZ rs[k] ra rc)[j]? =some u ->w.cell? ⟨b,off+k * 8+j,none⟩=some u:=fun j u hj=>by
  have:=hc _ u (h3 j u hj)
  rwa [<- Nat.add_assoc]at this
 exact⟨b,off,ra,rc,ha,hb,h2,h4 0 _ rfl,h4 1 _ rfl,h4 2 _ rfl,h4 3 _ rfl,h4 4 _ rfl,h4 5 _ rfl,h4 6 _ rfl,h4 7 _ rfl⟩
theorem h_g {l:List vQ} {j:Nat} (h:j < l.length):B8 (l.take (j+1))=B8 (l.take j) ++ [l[j].1,l[j].2.2]:=K6 h
structure m_C where
 b:Bool
abbrev m_D (c:m_C):Value:= .bool c.b
theorem h_h {v:Value} {y:DataW Unit×List MemPlace} (h:plainElem (H:=Unit) Tryz.prog 4 v=some y):∃c:m_C,v=m_D c:=by
 unfold plainElem at h
 rw [Tryz.underlying4]at h
 cases v with
 | bool b=>exact⟨⟨b⟩,rfl⟩
 | _=>cases h
abbrev B9 (l:List (List UInt8)):List (List UInt8):=l.filter fun x=>decide (x≠ [])
theorem f_P (l:List (List UInt8)):(B9 l).length <= l.length:=List.length_filter_le _ _
abbrev n_m (s:b8) (W:World) (e:Ending) (w':World):Prop:=
 ∃ (v:Value) (out:List (List UInt8)),e= .returned v/\w'.ownsRow W.heap.size 9 1 v out.length (out.map aV)/\(∀x,x∈out ↔ x∈E8 s/\x≠ [])/\out.length <= s.wt/\Below W.heap.size W w'
theorem m_p (s:b8) (v:Value) (W:World) (hw:s.wt <= 100000000) (hv:SchemaV W W.heap.size s v):Calls Tryz.prog 46 #[v] W (n_m s W):=by
 have Hv:=a6 (fun(w':World) (hb:Below W.heap.size W w')=>hv.keep hb hb.size)
 obtain⟨sa,sc,css,ea,ec,o0,o1,o2,o3,o4,o5,rfl, -, -, -, -⟩:=hv.open
 have Hwt:=a6 hw
 have hfl:=f_M s
 have hfl2:(E8 s).length <= 100000000:=aJ hfl hw
 have Hfl:=a6 hfl2
 obtain⟨w0,hw0⟩:∃w0,w0=W.alloc (Obj.cells #[.slice sa s.rules.length sc,aV s.els.type, .int .i64 s.els.text.1,aV s.els.text.2, .int .i64 s.els.other.1,aV s.els.other.2, .slice ea s.els.kids.length ec, .int .i64 s.els.fill,aV s.els.fillT, .int .i64 o0, .int .i64 o1, .int .i64 o2, .int .i64 o3, .int .i64 o4, .int .i64 o5, .int .i64 s.cap] 30):=⟨_,rfl⟩
 have hb0:Below W.heap.size W w0:=by rw [hw0];exact aX _ _
 have hA:At w0 W.heap.size [.slice sa s.rules.length sc,aV s.els.type, .int .i64 s.els.text.1,aV s.els.text.2, .int .i64 s.els.other.1,aV s.els.other.2, .slice ea s.els.kids.length ec, .int .i64 s.els.fill,aV s.els.fillT, .int .i64 o0, .int .i64 o1, .int .i64 o2, .int .i64 o3, .int .i64 o4, .int .i64 o5, .int .i64 s.cap] 30:=by rw [hw0];exact At.fresh W _ _
 have hM0:=hA.lt
 obtain⟨M,hM⟩:∃M,M=w0.heap.size:=⟨_,rfl⟩
 obtain⟨w1,hw1⟩:∃w1,w1=w0.alloc (.map #[] 0):=⟨_,rfl⟩
 have hmm:= @run_makeMap Tryz.prog
 have hb1:Below W.heap.size W w1:=by rw [hw1];exact hb0.alloc hb0.size _
 have HS1:=a6 (show St w1 M []by rw [hw1,hM];exact⟨[],oJ.fresh w0,fun x=>Iff.rfl⟩)
 have hld:=I7 (P:=Tryz.prog) (show At w1 W.heap.size _ _ by rw [hw1];exact hA.alloc _) Tryz.underlying30 rfl (by kernel_rfl)
 simp [go_sem]at hld
 have HC:=a6 (c_O s _ W.heap.size w1 hw (hv.keep hb1 (a8)) hb1.size)
 have Hw0:=a6 hw0;have Hw1:=a6 hw1;have Hb1:=a6 hb1
 have hMW:W.heap.size < M:=by rw [hM];exact hM0
 have HM1:=a6 (show M < w1.heap.size by rw [hw1,hM];simp)
 have HM:=a6 hM
 have h3w:(s.rules.length+1) * 1 <= 100000000 * 1:=by have:=pJ s.rules;unfold b8.wt bJ.wt at hw;omega
 have hrl1:(qK s).length <= 100000000:=by rw [b_N];omega
 clear hv hw hfl hfl2 hw0 hb0 hA hM hw1 hb1 hM0 h3w
 go_enter Tryz.func46,Tryz.ntmps46
 go_upto_region 1 with fail
 rw [<- Hw0.o]
 clear Hw0
 go_upto_region 2 with fail
 rw [<- Hw1.o, <- HM.o]
 clear Hw1 HM hmm
 go_wp2_with fail
 refine HC.o.mono ?_
 rintro e w2 ⟨ra,rc,css2,rfl,hrow,hrcs,hbel⟩
 have HS2:=a6 (HS1.o.kept hbel)
 have Hb2:=a6 (Hb1.o.trans (hbel.mono Hb1.o.size))
 have Hrow:=a6 hrow;have Hrcs:=a6 hrcs;have Hs12:=a6 hbel.size
 obtain⟨rs,hrs⟩:∃rs,rs=qK s:=⟨_,rfl⟩
 have Hrs:=a6 hrs
 rw [<- hrs]at Hrow Hrcs hrl1⊢
 clear hrow hrcs hbel HC HS1 hld hrs
 go_wp2_with fail
 go_loopg [16] rs.length (fun g i wr=>∃k:Nat,i= .int .i64 k/\k+g=rs.length/\Hid (St wr M ((rs.take k).flatMap gQ))/\Hid (w2.grownBy wr (some M)))
 case atStart=>exact⟨0,rfl,by omega,(show St w2 M ((rs.take 0).flatMap gQ)from HS2.o),(show World.grownBy _ _ _ from World.grownBy.refl _ _)⟩
 case round=>
  obtain⟨k,rfl,hg,hst,hbr⟩:=hrel
  obtain⟨wR,rfl⟩:∃z,z=wr:=⟨_,rfl⟩
  obtain⟨G,rfl⟩:∃z,z=gk:=⟨_,rfl⟩
  have Hbr:=a6 (show Below W.heap.size W wR from Hb2.o.trans (a_I hbr.o Hb2.o.size (by omega)))
  have HrowR:=a6 (m_o Hrow.o hbr.o HM1.o)
  have HrcsR:=a6 (g8.keep (a_I hbr.o (aJ Hb1.o.size Hs12.o) (by omega)) (a8) Hrcs.o)
  by_cases hlt:k < rs.length
  ·
    have hlti:(k:Int) < rs.length:=by omega
    obtain⟨b,off,qa,qc,rfl,hlb,hkr,p0,p1,p2,p3,p4,p5,p6,p7⟩:=h_f HrowR.o.row HrcsR.o k hlt
    have Hts:=a6 (K6 (f:=gQ) hlt)
    have Hpre:=a6 (show (rs.take k).flatMap gQ ++ gQ rs[k] <+:E8 s by rw [<- Hts.o,Hrs.o];exact b_z gQ _ _)
    generalize rs[k]=q at hkr p0 p1 p2 p3 p4 p5 p6 p7 Hts Hpre
    obtain⟨PRE,hPRE⟩:∃PRE,PRE=(rs.take k).flatMap gQ:=⟨_,rfl⟩
    rw [<- hPRE]at hst Hts Hpre
    have HPRE:=a6 hPRE
    have Hkr:=a6 hkr
    obtain⟨w3,hw3⟩:∃w3,w3=wR.alloc (Obj.cells #[aV q.type, .int .i64 q.text.1,aV q.text.2, .int .i64 q.other.1,aV q.other.2, .slice qa q.kids.length qc, .int .i64 q.fill,aV q.fillT] 27):=⟨_,rfl⟩
    obtain⟨w4,hw4⟩:∃w4,w4=w3.alloc (Obj.cells #[aV q.type,aV q.text.2,aV q.other.2,aV q.fillT] 9):=⟨_,rfl⟩
    have hX3:At w3 wR.heap.size [aV q.type, .int .i64 q.text.1,aV q.text.2, .int .i64 q.other.1,aV q.other.2, .slice qa q.kids.length qc, .int .i64 q.fill,aV q.fillT] 27:=by rw [hw3];exact At.fresh wR _ _
    have hb3:Below wR.heap.size wR w3:=by rw [hw3];exact aX _ _
    have hb4:Below wR.heap.size wR w4:=by rw [hw4];exact hb3.trans ((aX w3 _).mono hb3.size)
    have HX4:=a6 (show At w4 wR.heap.size [aV q.type, .int .i64 q.text.1,aV q.text.2, .int .i64 q.other.1,aV q.other.2, .slice qa q.kids.length qc, .int .i64 q.fill,aV q.fillT] 27 by rw [hw4];exact hX3.alloc _)
    have HY4:=a6 (show At w4 w3.heap.size ((tX q).map aV) 9 by rw [hw4];exact At.fresh w3 _ _)
    have Hb4:=a6 hb4
    have Hw3:=a6 hw3;have Hw4:=a6 hw4
    have HS4:=a6 (hst.o.kept hb4)
    have HMR:=a6 (show M < wR.heap.size from hst.o.lt)
    have hM3:wR.heap.size < w3.heap.size:=hX3.lt
    obtain⟨⟨x0,x1,x2,x3,x4,x5,x6,x7⟩, -,xl⟩:=hX3.f8
    clear hw3 hw4 hX3 hb3 hb4 hlb hkr hPRE hst
    go_upto_region 5 with fail
    rw [<- Hw3.o]
    clear Hw3 p0 p1 p2 p3 p4 p5 p6 p7
    go_wp2_with fail
    rw [<- Hw4.o]
    clear Hw4 x0 x1 x2 x3 x4 x5 x6 x7
    go_loopg [32] 4 (fun g i wx=>∃j:Nat,i= .int .i64 j/\j+g=4/\Hid (St wx M (PRE ++ (tX q).take j))/\Hid (w4.grownBy wx (some M)))
    case atStart=>exact⟨0,rfl,by omega,(show St w4 M (PRE ++ (tX q).take 0)by simpa using HS4.o),(show World.grownBy _ _ _ from World.grownBy.refl _ _)⟩
    case round=>
     obtain⟨j,rfl,hg2,hst,hbw⟩:=hrel
     obtain⟨wI,rfl⟩:∃z,z=wr:=⟨_,rfl⟩
     have HXI:=a6 (HX4.o.grown hbw.o (by intro e;injection e with e;have:=HMR.o;omega))
     have hYI:=HY4.o.grown hbw.o (by intro e;injection e with e;have:=HMR.o;omega)
     have hfour:(tX q).length=4:=rfl
     by_cases hj:j < 4
     . have hji:(j:Int) < 4:=by omega
       have hjf:j < (tX q).length:=hj
       have hc:=hYI.cell j (v:=aV (tX q)[j]) (by rw [List.getElem?_map,List.getElem?_eq_getElem hjf];rfl)
       have Hts2:=a6 (List.take_succ_eq_append_getElem hjf)
       have Hin:=a6 (show (tX q)[j].length <= maxLen/\(PRE ++ (tX q).take j).length < maxLen from by
        have h1:(tX q)[j]∈E8 s:=Hpre.o.subset (List.mem_append_right _ (List.mem_append_left _ (List.getElem_mem hjf)))
        have h2:=e_z h1
        have h3:=Hwt.o
        have h4:=Hpre.o.length_le
        have h5:(gQ q).length=4+(B8 q.kids).length:=by simp [gQ,B8];omega
        have h6:=Hfl.o
        simp only [List.length_append,List.length_take,hfour]at h4⊢
        unfold maxLen
        refine⟨by omega,by omega⟩)
       generalize (tX q)[j]=t at hc Hts2 Hin
       clear hYI hjf hfour
       go_wp2_with (at_mapUpdate;refine f_O rfl _ _ _ rfl M (PRE ++ (tX q).take j) t rfl rfl rfl hst.o ?hn ?hk ?_)
       case hn=>exact Hin.o.2
       case hk=>exact Hin.o.1
       intro w5 hs5 hg5
       have HS5:=a6 (show St w5 M (PRE ++ (tX q).take (j+1))by rw [Hts2.o];exact hs5)
       have HG5:=a6 (eV hbw.o hg5)
       clear hs5 hg5 hc
       go_wp2_with fail
       go_roundg (4 - (j+1))
       case measure=>omega
       case rel=>exact⟨j+1,by go_num,by omega,HS5,HG5⟩
     . obtain rfl:j=4:=by omega
       have HS5:=a6 (show St wI M (PRE ++ tX q ++ B8 (q.kids.take 0))by have h:=hst.o;rw [show (tX q).take 4=tX q from rfl]at h;simpa [B8]using h)
       obtain⟨⟨x0,x1,x2,x3,x4,x5,x6,x7⟩, -,xl⟩:=HXI.o.f8
       have HbI:=a6 (show Below W.heap.size W wI from(Hbr.o.trans (Hb4.o.mono Hbr.o.size)).trans (a_I hbw.o (aJ Hbr.o.size Hb4.o.size) (by omega)))
       have HGI:=a6 (show w2.grownBy wI (some M)from eV hbr.o (eV (h_R Hb4.o) hbw.o))
       have hqk:q.kids.length <= 100000000:=by
        have h4:=Hpre.o.length_le
        have h5:(gQ q).length=4+2 * q.kids.length:=by
         unfold gQ
         rw [List.length_append,show (q.kids.flatMap (fun p=> [p.1,p.2.2])).length=2 * q.kids.length from by
          generalize q.kids=l
          induction l with
          | nil=>rfl
          | cons p l ih=>rw [List.flatMap_cons,List.length_append,ih];simp;omega]
         rfl
        have h6:=Hfl.o
        rw [List.length_append]at h4
        omega
       have HGR:=a6 (show wR.grownBy wI (some M)from eV (h_R Hb4.o) hbw.o)
       clear hst hYI hfour x0 x1 x2 x3 x4 x6 x7
       go_wp2_with fail
       go_loopg [42] q.kids.length (fun g i wx=>∃j:Nat,i= .int .i64 j/\j+g=q.kids.length/\Hid (St wx M (PRE ++ tX q ++ B8 (q.kids.take j)))/\Hid (wI.grownBy wx (some M)))
       case atStart=>exact⟨0,rfl,by omega,HS5,(show World.grownBy _ _ _ from World.grownBy.refl _ _)⟩
       case round=>
        obtain⟨j,rfl,hg3,hst,hbk⟩:=hrel
        obtain⟨wJ,rfl⟩:∃z,z=wr:=⟨_,rfl⟩
        have HGJ:=a6 (eV HGI.o hbk.o)
        by_cases hj:j < q.kids.length
        . have hji:(j:Int) < q.kids.length:=by omega
          have HbRJ:=a_I (eV HGR.o hbk.o) Hbr.o.size (Nat.le_of_lt hMW)
          obtain⟨pb,po,rfl,hpb,c0,c1,c2⟩:=(Hkr.o.keep HbRJ (a8)).pair_at j hj
          have Hts3:=a6 (h_g hj)
          have Hin:=a6 (show (q.kids[j].1.length <= maxLen/\q.kids[j].2.2.length <= maxLen)/\(PRE ++ tX q ++ B8 (q.kids.take j)).length+1 < maxLen from by
           have hm1:q.kids[j].1∈E8 s:=Hpre.o.subset (List.mem_append_right _ (List.mem_append_right _ (List.mem_flatMap.2 ⟨_,List.getElem_mem hj,by simp⟩)))
           have hm2:q.kids[j].2.2∈E8 s:=Hpre.o.subset (List.mem_append_right _ (List.mem_append_right _ (List.mem_flatMap.2 ⟨_,List.getElem_mem hj,by simp⟩)))
           have h1:=e_z hm1
           have h2:=e_z hm2
           have h3:=Hwt.o
           have h4:=Hpre.o.length_le
           have h5:(gQ q).length=4+(B8 q.kids).length:=by simp [gQ,B8];omega
           have h6:=Hfl.o
           have h7:(B8 (q.kids.take j)).length <= (B8 q.kids).length:=(b_z (fun p:vQ=> [p.1,p.2.2]) q.kids j).length_le
           have h8:(tX q).length=4:=rfl
           rw [List.length_append,h5]at h4
           rw [List.length_append,List.length_append,h8]
           unfold maxLen
           exact⟨⟨by omega,by omega⟩,by omega⟩)
          generalize q.kids[j]=p at c0 c1 c2 Hts3 Hin
          obtain⟨p0,p1,p2⟩:=p
          simp only at c0 c1 c2 Hin
          obtain⟨w6,hw6⟩:∃w6,w6=wJ.alloc (Obj.cells #[aV p0, .int .i64 p1,aV p2] 140):=⟨_,rfl⟩
          have hb6:Below wJ.heap.size wJ w6:=by rw [hw6];exact aX _ _
          have hX6:At w6 wJ.heap.size [aV p0, .int .i64 p1,aV p2] 140:=by rw [hw6];exact At.fresh wJ _ _
          have HMJ:=a6 (show M < wJ.heap.size from hst.o.lt)
          obtain⟨L,hL⟩:∃L,L=PRE ++ tX q ++ B8 (q.kids.take j):=⟨_,rfl⟩
          have hs6:St w6 M L:=by rw [hL];exact hst.o.kept hb6
          have HL:=a6 hL
          have hin:=Hin.o
          rw [<- hL]at hin
          have hne6:(some M:Option Nat)≠some wJ.heap.size:=by intro e;injection e with e;have:=HMJ.o;omega
          obtain⟨wa,ea,sa,ga⟩:=hs6.drew.put (by omega) p0 hin.1.1
          obtain⟨wab,eab,sab,gab⟩:=sa.put (by simp;omega) p2 hin.1.2
          obtain⟨wb,eb,sb,gb⟩:=hs6.drew.put (by omega) p2 hin.1.2
          obtain⟨wba,eba,sba,gba⟩:=sb.put (by simp;omega) p0 hin.1.1
          have X6:=a6 hX6.f3.1
          have XA:=a6 (At.grown (w:=w6.drew) hX6 ga hne6).f3.1
          have XB:=a6 (At.grown (w:=w6.drew) hX6 gb hne6).f3.1
          have XAB:=a6 ((At.grown (w:=w6.drew) hX6 ga hne6).grown gab hne6).f3.1
          have XBA:=a6 ((At.grown (w:=w6.drew) hX6 gb hne6).grown gba hne6).f3.1
          have HGa:=a6 (show wI.grownBy wab (some M)from eV hbk.o (eV (h_R hb6) (eV (show w6.grownBy wa (some M)from⟨ga.os,ga.tape,ga.output,ga.size,ga.block⟩) gab)))
          have HGb:=a6 (show wI.grownBy wba (some M)from eV hbk.o (eV (h_R hb6) (eV (show w6.grownBy wb (some M)from⟨gb.os,gb.tape,gb.output,gb.size,gb.block⟩) gba)))
          have HSa:=a6 (show St wab M (PRE ++ tX q ++ B8 (q.kids.take (j+1)))from sab.same (by rw [Hts3.o,hL];simp) (fun x=>by rw [Hts3.o,hL];simp [or_assoc]))
          have HSb:=a6 (show St wba M (PRE ++ tX q ++ B8 (q.kids.take (j+1)))from sba.same (by rw [Hts3.o,hL];simp) (fun x=>by rw [Hts3.o,hL];simp [or_assoc,or_comm,or_left_comm]))
          have Hw6:=a6 hw6
          clear hw6 hX6 hb6 hs6 hL hin hne6 hpb hst sa sb ga gb gab gba sab sba
          go_upto_region 13 with fail
          rw [<- Hw6.o]
          clear Hw6 c0 c1 c2
          go_region_held3 (fun w'=>w'.cell? ⟨wJ.heap.size,0,none⟩=some (aV p0)/\w'.cell? ⟨wJ.heap.size,1,none⟩=some (.int .i64 p1)/\w'.cell? ⟨wJ.heap.size,2,none⟩=some (aV p2)) (first | exact X6.o | exact XA.o | exact XB.o | exact XAB.o | exact XBA.o)
           (fail)
          all_goals
           go_wp2_with fail
           go_roundg (q.kids.length - (j+1))
           case measure=>omega
           case rel=>first | exact⟨j+1,by go_num,by omega,HSa,HGa⟩ | exact⟨j+1,by go_num,by omega,HSb,HGb⟩
        . obtain rfl:j=q.kids.length:=by omega
          have HSF:=a6 (show St wJ M ((rs.take (k+1)).flatMap gQ)by
           have h:=hst.o
           rw [List.take_length]at h
           rw [Hts.o]
           unfold gQ
           simpa [B8]using h)
          clear hst
          go_wp2_with fail
          go_roundg (rs.length - (k+1))
          case measure=>omega
          case rel=>exact⟨k+1,by go_num,by omega,HSF,HGJ⟩
  . obtain rfl:k=rs.length:=by omega
    obtain⟨acc,hset,hmem⟩:=(show St wR M (E8 s)by have h:=hst.o;rw [List.take_length,Hrs.o]at h;exact h)
    obtain⟨N0,hN0⟩:∃N0,N0=(E8 s).length:=⟨_,rfl⟩
    have hsz:=World.ownsMap.size_le hset
    rw [<- hN0]at hset hsz
    have HN0:=a6 (show N0 <= 100000000/\N0 <= s.wt by rw [hN0];exact⟨Hfl.o,f_M s⟩)
    have Hmem:=a6 hmem
    have Hsz:=a6 hsz
    obtain⟨D0,hD0⟩:∃D0,D0=e_A acc:=⟨_,rfl⟩
    have hown:wR.ownsMap Tryz.prog 9 (plainElem (H:=Unit) Tryz.prog 4) M N0 D0:=by rw [hD0];exact hset
    rw [<- hD0]at Hsz
    have HD0:=a6 hD0
    have hMR:=hset.lt
    obtain⟨i0,hi,hz0,hz1,hz2⟩:=info_parts b_8
    clear hst hset hmem hsz hN0 hD0
    go_wp2_with (first
     | (at_range;refine wpList_range_own _ rfl _ 150 rfl 9 4 e_B Tryz.underlying150 _ M N0 _ rfl hown ?_;intro w7 hrg0 hg0 hs0)
     | go_in)
    go_frame
    go_loopw [10] (fun u wr=>∃ (v:Value) (left:Lit ->Bool) (cnt:Nat) (ss:List (List UInt8)),v=u/\wr.ranges Tryz.prog 9 (plainElem (H:=Unit) Tryz.prog 4) M wR.heap.size N0 D0 left cnt/\ss.length+cnt <= Maps.size D0/\
     wr.ownsRow wR.heap.size 9 1 v (B9 ss).length ((B9 ss).map aV)/\Collected D0 left ss/\Below wR.heap.size wR wr)
     (fun _ wr=>wr.rangeLeft M wR.heap.size)
    case atStart=>
     exact⟨_,_,_, [],rfl,hrg0,by simp,World.ownsRow_nil _ _ _ _,Collected.start D0,(a7).grown hg0 (a8) (fun j hj=>by cases hj)⟩
    case round=>
     obtain⟨v,left,cnt,ss,rfl,hrg,hcs,hrow,hC,hnx⟩:=hrel
     go_wp2_with (first
      | (at_next;refine wpList_next_ranges _ rfl _ rfl 9 e_B (plainElem (H:=Unit) Tryz.prog 4) encStr m_D (fun key kl hk=>by obtain⟨x,hx,_⟩:=Maps.keyOf_str Tryz.underlying9 hk;exact⟨x,hx⟩) (fun v y hv=>h_h hv) M wR.heap.size N0 _ _ _ rfl hrg ?_ ?_)
      | go_in)
     ·
       intro hc0 hl0
       have hlen:(B9 ss).length <= s.wt/\(B9 ss).length <= 100000000:=by have h1:=f_P ss;have h2:=HN0.o;have h3:=Hsz.o;constructor <;> omega
       have HC:=a6 (m_j (B9 ss) v wR.heap.size wr hrow hlen.2)
       have Hmm:=a6 (show ∀x,x∈m_h (B9 ss) ↔ x∈E8 s/\x≠ []from fun x=>by
        rw [List.mem_mergeSort,List.mem_filter,hC.2 x,hl0,HD0.o,k_W, <- Hmem.o x]
        simp)
       have Hlen:=a6 hlen
       have Hrow:=a6 hrow
       have Hnx:=a6 hnx
       have HSE:=j_1
       clear hrow hnx hC hlen hrg hcs hown hc0 hl0
       go_wp2_with fail
       refine HC.o.mono ?_
       rintro e w8 ⟨rfl,hown2,hgrow⟩
       have Ho2:=a6 hown2
       have Hb8:=a6 (Hnx.o.grown hgrow Hnx.o.size (fun k hk=>(Hrow.o.lt k hk).1))
       clear hown2 hgrow HC
       go_wp2_with fail
       go_ret
       refine⟨v,m_h (B9 ss),rfl, ?_,Hmm.o,by rw [List.length_mergeSort];exact Hlen.o.1,Hbr.o.trans (Hb8.o.mono Hbr.o.size)⟩
       rw [List.length_mergeSort]
       exact lK Ho2.o Hbr.o.size
     ·
       intro x c kl yd yp w8 cnt2 hkey hlk hv hat hrg2 hlt hg2 hs2 hen
       obtain⟨x',ex,rfl,hxl⟩:=Maps.keyOf_str Tryz.underlying9 hkey
       obtain rfl:x=x':=encStr_inj ex
       have hrow2:=hrow.kept hg2 (Or.inr (row_ne_iter hrow hrg).symm)
       have hnx2:=hnx.grown hg2 hnx.size (fun j hj=>by cases hj;exact a8)
       have hC2:=hC.step hlk hat
       have hlt2:cnt2 < wr.rangeLeft M wR.heap.size:=by rw [hrg.left_eq];exact hlt
       have hfl:=f_P ss
       have hN:=HN0.o.1
       have hsz:=Hsz.o
       have Hrg2:=a6 hrg2;have Hnx2:=a6 hnx2;have HC2:=a6 hC2;have Hcs2:=a6 (show (ss ++ [x]).length+cnt2 <= Maps.size D0 by simp;omega)
       have Hlt2:=a6 hlt2
       clear hs2 hg2 hat hv hlk hkey hC hrow hrg hnx hC2 hnx2 hlt hlt2 ex hown
       cases x with
       | nil=>
         have Hf:=a6 (show B9 (ss ++ [[]])=B9 ss by simp [B9])
         go_wp2_with fail
         go_roundw
         case rel=>exact⟨v,_,cnt2,ss ++ [[]],rfl,Hrg2.o,Hcs2.o,by rw [Hf.o];exact hrow2,HC2.o,Hnx2.o⟩
         case measure=>rw [Hrg2.o.left_eq];exact Hlt2.o
       | cons x0 xs=>
         have Hf:=a6 (show B9 (ss ++ [x0::xs])=B9 ss ++ [x0::xs]by simp [B9])
         have hne:((⟨(x0::xs).toArray⟩:ByteArray).toList.isEmpty)=false:=by rw [ByteArray.toList_mk];rfl
         go_wp2_with (at_builtin;refine wpList_append_own _ rfl _ _ 83 rfl wR.heap.size 9 i0 (.string ⟨#[]⟩) 1 16 Tryz.underlying83 hi hz0 hz1 hz2 rfl (by decide) _ _ _ rfl (hrow2.alloc _) ⟨w8.heap.size,0,none⟩ 1 1 [aV (x0::xs)] rfl rfl (cell_one_new _ _ _) (by simp [Value.oneCell']) (by unfold maxLen at *;omega) (by omega) (by have:=Hnx2.o.size;simp;omega) ?_;intro v' w9 hown' hg3 hnil3;go_frame)
         have Hs8:=a6 Hnx2.o.size
         have hrg3:=(Hrg2.o.alloc (Obj.cells #[aV (x0::xs)] 9)).kept hg3 (row_ne_low hrow2 hMR) (row_ne_iter hrow2 Hrg2.o)
         have hb9:=(Hnx2.o.alloc Hs8.o (Obj.cells #[aV (x0::xs)] 9)).grown hg3 (aJ Hs8.o (aX w8 _).size) (fun j hj=>(hrow2.lt j hj).1)
         have Hrg3:=a6 hrg3;have Hb9:=a6 hb9
         have Ho9:=a6 (show w9.ownsRow wR.heap.size 9 1 v' (B9 (ss ++ [x0::xs])).length ((B9 (ss ++ [x0::xs])).map aV)by rw [Hf.o];simpa using hown')
         clear hrg3 hb9 hown' hg3 hnil3 hrow2
         go_roundw
         case rel=>exact⟨v',_,cnt2,ss ++ [x0::xs],rfl,Hrg3.o,Hcs2.o,Ho9.o,HC2.o,Hb9.o⟩
         case measure=>rw [Hrg3.o.left_eq];exact Hlt2.o
theorem e_C (l:List vQ):wK l=(l.map (·.1)).map aV:=by simp [wK]
theorem k_X {w:World} {N:Nat} {l:List (List UInt8)} {T:TypeId} (h:At w N (l.map aV) T) (hn:l.length <= 100000000):RowA w (N+1) 1 (some ⟨N,0,none⟩) l.length l.length (l.map aV):=
 ⟨by simp,a8,by unfold maxLen;omega,(fun u hu=>by obtain⟨t, -,rfl⟩:=List.mem_map.1 hu;rfl),(fun e=>by cases e),fun _=>⟨N,0,rfl,by omega,fun j u hj=>by rw [Nat.zero_add];exact h.cell j hj⟩⟩
theorem d_R (l:List (List UInt8)) (n N:Nat) (w:World) (hl:l.length=n) (h:At w N (l.map aV) 9) (hn:n <= 100000000) (hb:∀t∈l,t.length <= 1000000000):
 Calls Tryz.prog 39 #[.slice (some ⟨N,0,none⟩) n n] w fun e w'=>e= .returned (.bool (AX l))/\Below w.heap.size w w':=by
 subst hl
 exact k_P l _ l.length w ((k_X h hn).keep ((a7)) h.lt) hn hb
theorem k_Y (r:bJ) (a:Option Addr) (c:Nat) (W:World) (hr:RowA W W.heap.size 3 a r.kids.length c (dY r.kids)) (hw:r.wt <= 100000000):
 Calls Tryz.prog 45 #[.agg #[aV r.type, .int .i64 r.text.1,aV r.text.2, .int .i64 r.other.1,aV r.other.2, .slice a r.kids.length c, .int .i64 r.fill,aV r.fillT]] W fun e w'=>e= .returned (.bool (lV r))/\Below W.heap.size W w':=by
 have hkl:r.kids.length <= 100000000:=by have:=GZ r;omega
 have hkw:∀p∈r.kids,p.1.length <= 1000000000/\p.2.2.length <= 1000000000:=fun p hp=>by have:=b_e hp;unfold bJ.wt at hw;omega
 have htl:r.text.2.length <= 1000000000:=by unfold bJ.wt at hw;omega
 have hol:r.other.2.length <= 1000000000:=by unfold bJ.wt at hw;omega
 have hfl:r.fillT.length <= 1000000000:=by unfold bJ.wt at hw;omega
 obtain⟨R,hR⟩:∃R,R=lV r:=⟨_,rfl⟩
 have HR:=a6 (show ((r.kids.drop 0).all (fun p=>sZ true p.2) && (a_D r && (sZ false r.text && (sZ true r.other && AX (r.kids.map (·.1))))))=R from hR.symm)
 rw [<- hR]
 obtain⟨ty,⟨td,tt⟩,⟨od,ot⟩,kids,fill,ft⟩:=r
 simp only at hkl hkw htl hol hfl hr HR⊢
 obtain⟨w0,hw0⟩:∃w0,w0=W.alloc (Obj.cells #[aV ty, .int .i64 td,aV tt, .int .i64 od,aV ot, .slice a kids.length c, .int .i64 fill,aV ft] 27):=⟨_,rfl⟩
 have hb0:Below W.heap.size W w0:=by rw [hw0];exact aX _ _
 have hA:At w0 W.heap.size [aV ty, .int .i64 td,aV tt, .int .i64 od,aV ot, .slice a kids.length c, .int .i64 fill,aV ft] 27:=by rw [hw0];exact At.fresh W _ _
 obtain⟨⟨x0,x1,x2,x3,x4,x5,x6,x7⟩, -,xl⟩:=hA.f8
 have Hw0:=a6 hw0;have Hb0:=a6 hb0;have HA:=a6 hA
 have Hr:=a6 (fun(w':World) (hb:Below W.heap.size W w')=>hr.keep hb hb.size)
 have Hkw:=a6 hkw;have Htl:=a6 htl;have Hol:=a6 hol;have Hfl:=a6 hfl
 clear hw0 hb0 hA hr hw hR hkw htl hol hfl
 go_enter Tryz.func45,Tryz.ntmps45
 go_upto_region 1 with fail
 rw [<- Hw0.o]
 clear Hw0
 go_wp2_with fail
 go_loopg [9] kids.length (fun g i wr=>∃k:Nat,i= .int .i64 k/\k+g=kids.length/\Hid (((kids.drop k).all (fun p=>sZ true p.2) && (a_D ⟨ty,(td,tt),(od,ot),kids,fill,ft⟩ && (sZ false (td,tt) && (sZ true (od,ot) && AX (kids.map (·.1))))))=R)/\Hid (Below w0.heap.size w0 wr))
 case atStart=>exact⟨0,rfl,by omega,HR,(show Below _ _ _ from a7)⟩
 case round=>
  obtain⟨k,rfl,hg,hst,hbr⟩:=hrel
  have Hbr:=a6 (Hb0.o.trans (hbr.o.mono Hb0.o.size))
  clear x0 x1 x2 x3 x4 x5 x6 x7
  by_cases hlt:k < kids.length
  . have hlti:(k:Int) < kids.length:=by omega
    obtain⟨b,off,rfl,hlb,p0,p1,p2⟩:=(Hr.o wr Hbr.o).pair_at k hlt
    have Hst:=a6 (show (sZ true kids[k].2 && ((kids.drop (k+1)).all (fun p=>sZ true p.2) && (a_D ⟨ty,(td,tt),(od,ot),kids,fill,ft⟩ && (sZ false (td,tt) && (sZ true (od,ot) && AX (kids.map (·.1)))))))=R by
     have h:=hst.o
     rw [List.drop_eq_getElem_cons hlt,List.all_cons,Bool.and_assoc]at h
     exact h)
    have Hq:=a6 (Hkw.o _ (List.getElem_mem hlt)).2
    generalize kids[k]=q at p0 p1 p2 Hst Hq
    obtain⟨q0,q1,q2⟩:=q
    simp only at p0 p1 p2
    have HC:=a6 (fun(w1:World)=>h_3 q1 q2 true w1 Hq.o)
    clear hlb hst
    cases hact:sZ true (q1,q2)with
    | false=>
      have Hz:=a6 (show false=R by have h:=Hst.o;simp only at h;rw [hact]at h;exact h)
      rw [hact]at HC
      clear Hst hact
      go_wp2_with fail
      refine(HC.o _).mono ?_
      rintro e w2 ⟨rfl,hbel⟩
      have Hb2:=a6 (Hbr.o.trans (((aX wr (Obj.cells #[aV q0, .int .i64 q1,aV q2] 140)).trans (hbel.mono (aX wr _).size)).mono Hbr.o.size))
      clear hbel HC p0 p1 p2
      go_wp2_with fail
      go_ret
      exact⟨b7 Hz.o,Hb2.o⟩
    | true=>
      have HN:=a6 (show ((kids.drop (k+1)).all (fun p=>sZ true p.2) && (a_D ⟨ty,(td,tt),(od,ot),kids,fill,ft⟩ && (sZ false (td,tt) && (sZ true (od,ot) && AX (kids.map (·.1))))))=R by have h:=Hst.o;simp only at h;rw [hact]at h;simpa using h)
      rw [hact]at HC
      clear Hst hact
      go_wp2_with fail
      refine(HC.o _).mono ?_
      rintro e w2 ⟨rfl,hbel⟩
      have Hb2:=a6 (show Below w0.heap.size w0 w2 from hbr.o.trans (((aX wr (Obj.cells #[aV q0, .int .i64 q1,aV q2] 140)).trans (hbel.mono (aX wr _).size)).mono hbr.o.size))
      clear hbel HC p0 p1 p2
      go_wp2_with fail
      go_roundg (kids.length - (k+1))
      case measure=>omega
      case rel=>exact⟨k+1,by go_num,by omega,HN,Hb2⟩
  . obtain rfl:k=kids.length:=by omega
    have Hfin:=a6 (show (a_D ⟨ty,(td,tt),(od,ot),kids,fill,ft⟩ && (sZ false (td,tt) && (sZ true (od,ot) && AX (kids.map (·.1)))))=R by have h:=hst.o;rw [List.drop_length]at h;simpa using h)
    have hnl:¬ (kids.length:Int) < kids.length:=by omega
    obtain⟨F,hF⟩:∃F,F=a_D ⟨ty,(td,tt),(od,ot),kids,fill,ft⟩:=⟨_,rfl⟩
    rw [<- hF]at Hfin
    have HF:=a6 (show F=((decide (fill=0∨fill=1) && decide (ft= [])) || (decide (fill=2) && oZ ft))from hF)
    obtain⟨⟨x0,x1,x2,x3,x4,x5,x6,x7⟩, -,xl⟩:=(HA.o.kept hbr.o).f8
    have HN:=a6 (h_2 ft wr Hfl.o)
    have heq:=h_w ft []
    clear hst hF
    go_upto_region 7 with fail
    go_cut [5] (fun v wx=>v= .bool F/\Hid (Below wr.heap.size wr wx))
    case first=>
     by_cases h0:fill=0
     . subst h0
       cases ft with
       | nil=>
         have Hz:=a6 (show true=F from by rw [HF.o];rfl)
         go_wp2_with fail
         go_meet
         case rel=>exact⟨by rw [<- Hz.o],(show Below _ _ _ from a7)⟩
       | cons f0 fs=>
         have Hz:=a6 (show false=F from by rw [HF.o];rfl)
         go_wp2_with fail
         go_meet
         case rel=>exact⟨by rw [<- Hz.o],(show Below _ _ _ from a7)⟩
     . have h0b:(fill == 0)=false:=beq_eq_false_iff_ne.2 h0
       by_cases h1:fill=1
       . subst h1
         cases ft with
         | nil=>
           have Hz:=a6 (show true=F from by rw [HF.o];rfl)
           go_wp2_with fail
           go_meet
           case rel=>exact⟨by rw [<- Hz.o],(show Below _ _ _ from a7)⟩
         | cons f0 fs=>
           have Hz:=a6 (show false=F from by rw [HF.o];rfl)
           go_wp2_with fail
           go_meet
           case rel=>exact⟨by rw [<- Hz.o],(show Below _ _ _ from a7)⟩
       . have h1b:(fill == 1)=false:=beq_eq_false_iff_ne.2 h1
         by_cases h2:fill=2
         . subst h2
           have Hz:=a6 (show oZ ft=F from by rw [HF.o];simp)
           go_wp2_with fail
           refine HN.o.mono ?_
           rintro e w2 ⟨rfl,hbel⟩
           have Hb2:=a6 hbel
           clear hbel HN
           go_wp2_with fail
           go_meet
           case rel=>exact⟨by rw [Hz.o],Hb2⟩
         . have h2b:(fill == 2)=false:=beq_eq_false_iff_ne.2 h2
           have Hz:=a6 (show false=F from by rw [HF.o];simp [h0,h1,h2])
           go_wp2_with fail
           go_meet
           case rel=>exact⟨by rw [<- Hz.o],(show Below _ _ _ from a7)⟩
    case rest=>
     obtain⟨rfl,hbx⟩:=hcut
     have Hbx:=a6 (Hbr.o.trans (hbx.o.mono Hbr.o.size))
     have HA2:=a6 ((HA.o.kept hbr.o).kept hbx.o)
     have HT1:=a6 (fun(w1:World)=>h_3 td tt false w1 Htl.o)
     have HT2:=a6 (fun(w1:World)=>h_3 od ot true w1 Hol.o)
     clear x0 x1 x2 x3 x4 x5 x6 x7 HN HF hbr hbx
     obtain⟨⟨x0,x1,x2,x3,x4,x5,x6,x7⟩, -,xl⟩:=HA2.o.f8
     cases F with
     | false=>
       have Hz:=a6 (show false=R from Hfin.o)
       go_wp2_with fail
       go_ret
       exact⟨b7 Hz.o,Hbx.o⟩
     | true=>
       cases ht:sZ false (td,tt)with
       | false=>
         have Hz:=a6 (show false=R by have h:=Hfin.o;rw [ht]at h;exact h)
         rw [ht]at HT1
         clear Hfin ht
         go_wp2_with fail
         refine(HT1.o _).mono ?_
         rintro e w2 ⟨rfl,hbel⟩
         have Hb2:=a6 (Hbx.o.trans (hbel.mono Hbx.o.size))
         clear x0 x1 x2 x3 x4 x5 x6 x7 hbel HT1
         go_wp2_with fail
         go_ret
         exact⟨b7 Hz.o,Hb2.o⟩
       | true=>
         have Hfin2:=a6 (show (sZ true (od,ot) && AX (kids.map (·.1)))=R by have h:=Hfin.o;rw [ht]at h;simpa using h)
         rw [ht]at HT1
         clear Hfin ht
         go_wp2_with fail
         refine(HT1.o _).mono ?_
         rintro e w2 ⟨rfl,hbel⟩
         have Hb2:=a6 (Hbx.o.trans (hbel.mono Hbx.o.size))
         have HA3:=a6 (HA2.o.kept hbel)
         clear x0 x1 x2 x3 x4 x5 x6 x7 hbel HT1 HA2
         obtain⟨⟨x0,x1,x2,x3,x4,x5,x6,x7⟩, -,xl⟩:=HA3.o.f8
         cases ho:sZ true (od,ot)with
         | false=>
           have Hz:=a6 (show false=R by have h:=Hfin2.o;rw [ho]at h;exact h)
           rw [ho]at HT2
           clear Hfin2 ho
           go_wp2_with fail
           refine(HT2.o _).mono ?_
           rintro e w3 ⟨rfl,hbel⟩
           have Hb3:=a6 (Hb2.o.trans (hbel.mono Hb2.o.size))
           clear x0 x1 x2 x3 x4 x5 x6 x7 hbel HT2
           go_wp2_with fail
           go_ret
           exact⟨b7 Hz.o,Hb3.o⟩
         | true=>
           have Hz:=a6 (show AX (kids.map (·.1))=R by have h:=Hfin2.o;rw [ho]at h;simpa using h)
           rw [ho]at HT2
           clear Hfin2 ho
           go_wp2_with fail
           refine(HT2.o _).mono ?_
           rintro e w3 ⟨rfl,hbel⟩
           have Hb3:=a6 (Hb2.o.trans (hbel.mono Hb2.o.size))
           have HA4:=a6 (HA3.o.kept hbel)
           have HP:=a6 (k_Q kids a c w3 (Hr.o w3 Hb3.o) hkl)
           clear x0 x1 x2 x3 x4 x5 x6 x7 hbel HT2 HA3
           obtain⟨⟨x0,x1,x2,x3,x4,x5,x6,x7⟩, -,xl⟩:=HA4.o.f8
           go_wp2_with fail
           refine HP.o.mono ?_
           rintro e w4 ⟨rfl,hat,hbel⟩
           have Hb4:=a6 (Hb3.o.trans (hbel.mono Hb3.o.size))
           rw [e_C]at hat
           have HQ:=a6 (d_R (kids.map (·.1)) kids.length _ w4 (by simp) hat hkl (fun t ht=>by obtain⟨p,hp,rfl⟩:=List.mem_map.1 ht;exact(Hkw.o p hp).1))
           clear x0 x1 x2 x3 x4 x5 x6 x7 hbel HP hat
           go_wp2_with fail
           refine HQ.o.mono ?_
           rintro e w5 ⟨rfl,hbel⟩
           have Hb5:=a6 (Hb4.o.trans (hbel.mono Hb4.o.size))
           clear hbel HQ
           go_wp2_with fail
           go_ret
           exact⟨b7 Hz.o,Hb5.o⟩
theorem h_S (r:bJ) (a:Option Addr) (c:Nat) (k:List UInt8) (W:World) (hr:RowA W W.heap.size 3 a r.kids.length c (dY r.kids)) (hn:r.kids.length <= 100000000):
 Calls Tryz.prog 100 #[.agg #[aV r.type, .int .i64 r.text.1,aV r.text.2, .int .i64 r.other.1,aV r.other.2, .slice a r.kids.length c, .int .i64 r.fill,aV r.fillT],aV k] W (l_n W (j8 r k)):=h_x r a c k W hr hn
def E9 (s:b8) (r:bJ):Bool:=decide (r.text.1=4) && (decide ((j8 r r.text.2).1≠1) || decide ((bV s r.text.2).text.1≠1))
def xY (r:bJ):Bool:=if r.fill=1 then decide (r.text.1=1) else if r.fill=2 then decide ((j8 r r.fillT).1=1) else true
theorem h_T (x:Int):(x != 1)=decide (x≠1):=by by_cases h:x=1 <;> simp [h]
theorem c_P (x:Int) (s:List UInt8):∀w:World,(Instr.field 24 (.agg #[.int .i64 x,aV s]) 0).run Tryz.prog w= .ok (.int .i64 x) w:=by intro w;kernel_rfl
theorem c_Q (x0:List UInt8) (x1:Int) (x2:List UInt8) (x3:Int) (x4:List UInt8) (x5:Option Addr) (n c:Nat) (x6:Int) (x7:List UInt8):∀w:World,(Instr.field 27 (.agg #[aV x0, .int .i64 x1,aV x2, .int .i64 x3,aV x4, .slice x5 n c, .int .i64 x6,aV x7]) 1).run Tryz.prog w= .ok (.agg #[.int .i64 x1,aV x2]) w:=by intro w;kernel_rfl
theorem j_2 (s:b8) (v:Value) (r:bJ) (a:Option Addr) (c:Nat) (l:List (List UInt8)) (na:Option Addr) (nc:Nat) (W:World) (hw:s.wt <= 100000000) (hv:SchemaV W W.heap.size s v) (hr:RowA W W.heap.size 3 a r.kids.length c (dY r.kids)) (hk:r.kids.length <= 100000000)
 (hl:RowA W W.heap.size 1 na l.length nc (l.map aV)) (hll:l.length <= 1000000000):
 Calls Tryz.prog 47 #[v, .agg #[aV r.type, .int .i64 r.text.1,aV r.text.2, .int .i64 r.other.1,aV r.other.2, .slice a r.kids.length c, .int .i64 r.fill,aV r.fillT], .slice na l.length nc] W fun e w'=>e= .returned (.bool (B2 s r l))/\Below W.heap.size W w':=by
 have Hv:=a6 (fun(w':World) (hb:Below W.heap.size W w')=>hv.keep hb hb.size)
 have Hr:=a6 (fun(w':World) (hb:Below W.heap.size W w') (k:List UInt8)=>h_S r a c k w' (hr.keep hb hb.size) hk)
 have Hl:=a6 (fun(w':World) (hb:Below W.heap.size W w')=>hl.keep hb hb.size)
 obtain⟨sa,sc,css,ea,ec,o0,o1,o2,o3,o4,o5,rfl, -, -, -, -⟩:=hv.open
 have HO:=a6 (fun(w':World) (hb:Below W.heap.size W w') (k:List UInt8)=>a_t s _ k w' hw (Hv.o w' hb))
 have Hkl:=a6 (fun(k:List UInt8)=>show (bV s k).kids.length <= 100000000 by have:=GZ (bV s k);have:=L0 s k;omega)
 obtain⟨R,hR⟩:∃R,R=B2 s r l:=⟨_,rfl⟩
 have HR:=a6 (show (!E9 s r && ((l.drop 0).all (tK s r) && xY r))=R from hR.symm)
 rw [<- hR]
 obtain⟨w0,hw0⟩:∃w0,w0=((W.alloc (Obj.cells #[.slice sa s.rules.length sc,aV s.els.type, .int .i64 s.els.text.1,aV s.els.text.2, .int .i64 s.els.other.1,aV s.els.other.2, .slice ea s.els.kids.length ec, .int .i64 s.els.fill,aV s.els.fillT, .int .i64 o0, .int .i64 o1, .int .i64 o2, .int .i64 o3, .int .i64 o4, .int .i64 o5, .int .i64 s.cap] 30)).alloc (Obj.cells #[aV r.type, .int .i64 r.text.1,aV r.text.2, .int .i64 r.other.1,aV r.other.2, .slice a r.kids.length c, .int .i64 r.fill,aV r.fillT] 27)).alloc (Obj.cells #[.int .i64 r.text.1,aV r.text.2] 24):=⟨_,rfl⟩
 have hb0:Below W.heap.size W w0:=by rw [hw0];exact iX _ _ _ _
 have hA:At w0 W.heap.size [.slice sa s.rules.length sc,aV s.els.type, .int .i64 s.els.text.1,aV s.els.text.2, .int .i64 s.els.other.1,aV s.els.other.2, .slice ea s.els.kids.length ec, .int .i64 s.els.fill,aV s.els.fillT, .int .i64 o0, .int .i64 o1, .int .i64 o2, .int .i64 o3, .int .i64 o4, .int .i64 o5, .int .i64 s.cap] 30:=by rw [hw0];exact((At.fresh W _ _).alloc _).alloc _
 have hX:At w0 (W.heap.size+1) [aV r.type, .int .i64 r.text.1,aV r.text.2, .int .i64 r.other.1,aV r.other.2, .slice a r.kids.length c, .int .i64 r.fill,aV r.fillT] 27:=by rw [hw0];exact(At.second W _ _ _).alloc _
 have hY:At w0 (W.heap.size+1+1) [.int .i64 r.text.1,aV r.text.2] 24:=by rw [hw0];exact At.third W _ _ _ _
 have hld:=fun(w':World) (h:At w' W.heap.size [.slice sa s.rules.length sc,aV s.els.type, .int .i64 s.els.text.1,aV s.els.text.2, .int .i64 s.els.other.1,aV s.els.other.2, .slice ea s.els.kids.length ec, .int .i64 s.els.fill,aV s.els.fillT, .int .i64 o0, .int .i64 o1, .int .i64 o2, .int .i64 o3, .int .i64 o4, .int .i64 o5, .int .i64 s.cap] 30)=>I7 (P:=Tryz.prog) h Tryz.underlying30 rfl (by kernel_rfl)
 simp [go_sem]at hld
 have HLD:=a6 hld
 have hlr:=fun(w':World) (h:At w' (W.heap.size+1) [aV r.type, .int .i64 r.text.1,aV r.text.2, .int .i64 r.other.1,aV r.other.2, .slice a r.kids.length c, .int .i64 r.fill,aV r.fillT] 27)=>I7 (P:=Tryz.prog) h Tryz.underlying27 rfl (by kernel_rfl)
 simp [go_sem]at hlr
 have HLR:=a6 hlr
 have Hw0:=a6 hw0;have Hb0:=a6 hb0;have HA:=a6 hA;have HX:=a6 hX;have HY:=a6 hY
 have hld0:=hld w0 hA
 have hlr0:=hlr w0 hX
 have xl:=hX.lt
 obtain⟨⟨y0,y1⟩, -,yl⟩:=hY.f2
 have HT:=a6 (Hr.o w0 hb0 r.text.2)
 clear hv hw hr hl hld hlr hw0 hb0 hA hX hY hR
 go_enter Tryz.func47,Tryz.ntmps47
 go_upto_region 2 with fail
 rw [<- Hw0.o]
 clear Hw0
 go_cut [32] (fun b wx=>b= .bool (E9 s r)/\Hid (Below w0.heap.size w0 wx))
 case first=>
  by_cases h4:r.text.1=4
  ·
    obtain⟨A1,hA1⟩:∃A1,A1=j8 r r.text.2:=⟨_,rfl⟩
    obtain⟨D1,hD1⟩:∃D1,D1=(bV s r.text.2).text.1:=⟨_,rfl⟩
    have HB:=a6 (show E9 s r=(decide (A1.1≠1) || decide (D1≠1))by unfold E9;rw [h4, <- hA1, <- hD1];simp)
    rw [<- hA1]at HT
    rw [h4]at y0
    have HD1:=a6 hD1
    obtain⟨a1,t1⟩:=A1
    simp only at HB
    clear hA1 hD1 h4
    have hfa:=c_P
    have hft:=c_Q
    go_wp2_with fail
    refine HT.o.mono ?_
    rintro e w1 ⟨rfl,hbel⟩
    by_cases ha1:a1=1
    ·
      subst ha1
      have HOx:=a6 (HO.o w1 (Hb0.o.trans (hbel.mono Hb0.o.size)) r.text.2)
      have Hb1:=a6 hbel
      have hld1:=HLD.o w1 (HA.o.kept hbel)
      obtain⟨⟨z0,z1⟩, -,zl⟩:=(HY.o.kept hbel).f2
      clear hbel HT hlr0 y0 y1 hld0
      go_wp2_with fail
      refine HOx.o.mono ?_
      rintro e w2 ⟨ka,kc,rfl, -,hbel⟩
      have Hb2:=a6 (Hb1.o.trans (hbel.mono Hb1.o.size))
      clear hbel HOx z0 z1 hld1
      rw [<- HD1.o]
      have hne:=h_T D1
      go_wp2_with fail
      go_meet
      case rel=>exact⟨by rw [HB.o];simp,Hb2⟩
    . have h1b:(a1 == 1)=false:=beq_eq_false_iff_ne.2 ha1
      have Hz:=a6 (show E9 s r=true by rw [HB.o];simp [ha1])
      have hne1:(a1 != 1)=true:=by simp [ha1]
      have Hb1:=a6 hbel
      clear hbel HT hlr0 y0 y1 hld0
      go_wp2_with fail
      go_meet
      case rel=>exact⟨by rw [Hz.o],Hb1⟩
  ·
    have h4b:(r.text.1 == 4)=false:=beq_eq_false_iff_ne.2 h4
    have Hz:=a6 (show E9 s r=false by unfold E9;simp [h4])
    go_wp2_with fail
    go_meet
    case rel=>exact⟨by rw [Hz.o],(show Below _ _ _ from a7)⟩
 case rest=>
  obtain⟨wC,rfl⟩:∃wC,wC=wc:=⟨_,rfl⟩
  obtain⟨rfl,hbx⟩:=hcut
  have HA2:=a6 (HA.o.kept hbx.o)
  have HX2:=a6 (HX.o.kept hbx.o)
  have Hbx:=a6 (Hb0.o.trans (hbx.o.mono Hb0.o.size))
  have hxl2:=HX2.o.lt
  obtain⟨B,hB⟩:∃B,B=E9 s r:=⟨_,rfl⟩
  rw [<- hB]at HR⊢
  clear hB y0 y1 yl hld0 hlr0 HT hbx HA HX HY xl
  cases B with
  | true=>
    have Hz:=a6 (show false=R from HR.o)
    go_wp2_with fail
    go_ret
    exact⟨b7 Hz.o,Hbx.o⟩
  | false =>
    have HR2:=a6 (show ((l.drop 0).all (tK s r) && xY r)=R from HR.o)
    clear HR
    go_wp2_with fail
    go_loopg [35] l.length (fun g i wr=>∃k:Nat,i= .int .i64 k/\k+g=l.length/\Hid (((l.drop k).all (tK s r) && xY r)=R)/\Hid (Below wC.heap.size wC wr))
    case atStart=>exact⟨0,rfl,by omega,HR2,(show Below _ _ _ from a7)⟩
    case round=>
     obtain⟨k,rfl,hg,hst,hbr⟩:=hrel
     have Hbr:=a6 (Hbx.o.trans (hbr.o.mono Hbx.o.size))
     have hHX:=HX2.o.kept hbr.o
     have hHA:=HA2.o.kept hbr.o
     have hxl3:=hHX.lt
     have hlr0:=HLR.o wr hHX
     have HX3:=a6 hHX;have HA3:=a6 hHA
     clear hHX hHA
     by_cases hlt:k < l.length
     . have hlti:(k:Int) < l.length:=by omega
       obtain⟨b,off,rfl,hlb,hc⟩:=e_u (Hl.o wr Hbr.o) k hlt
       have Hst:=a6 (show (tK s r l[k] && ((l.drop (k+1)).all (tK s r) && xY r))=R by
        have h:=hst.o
        rw [List.drop_eq_getElem_cons hlt,List.all_cons,Bool.and_assoc]at h
        exact h)
       generalize l[k]=x at hc Hst
       have HT:=a6 (Hr.o wr Hbr.o x)
       obtain⟨A1,hA1⟩:∃A1,A1=j8 r x:=⟨_,rfl⟩
       rw [<- hA1]at HT
       have HW:=a6 (show tK s r x= !(decide (A1.1=4) && (decide ((j8 r A1.2).1≠1) || decide ((j8 (bV s A1.2) x).1≠1)))by rw [hA1];rfl)
       obtain⟨a1,t1⟩:=A1
       simp only at HW
       clear hA1 hst hlb
       have hfa:=c_P
       go_wp2_with fail
       refine HT.o.mono ?_
       rintro e w1 ⟨rfl,hbel⟩
       have Hb1:=a6 (hbr.o.trans (hbel.mono hbr.o.size))
       clear hbel HT hc hlr0
       obtain⟨w2,hw2⟩:∃w2,w2=w1.alloc (Obj.cells #[.int .i64 a1,aV t1] 24):=⟨_,rfl⟩
       have hb2:Below wC.heap.size wC w2:=by rw [hw2];exact Hb1.o.trans ((aX w1 _).mono Hb1.o.size)
       have hY:At w2 w1.heap.size [.int .i64 a1,aV t1] 24:=by rw [hw2];exact At.fresh w1 _ _
       have Hw2:=a6 hw2;have Hb2:=a6 hb2
       have hb2w:=Hbx.o.trans (hb2.mono Hbx.o.size)
       have Hb2w:=a6 hb2w
       have HY:=a6 hY
       obtain⟨⟨y0,y1⟩, -,yl⟩:=hY.f2
       have hlr0:=HLR.o w2 (HX2.o.kept hb2)
       have HT:=a6 (Hr.o w2 hb2w t1)
       have hxl4:=(HX2.o.kept hb2).lt
       clear hw2 hb2 hY hb2w
       go_upto_region 8 with fail
       rw [<- Hw2.o]
       clear Hw2
       go_cut [62] (fun b wx=>b= .bool (!tK s r x)/\Hid (Below w2.heap.size w2 wx))
       case first=>
        by_cases h4:a1=4
        ·
          subst h4
          obtain⟨A2,hA2⟩:∃A2,A2=j8 r t1:=⟨_,rfl⟩
          obtain⟨Q,hQ⟩:∃Q,Q=bV s t1:=⟨_,rfl⟩
          rw [<- hA2]at HT
          have HB:=a6 (show (!tK s r x)=(decide (A2.1≠1) || decide ((j8 Q x).1≠1))by rw [HW.o, <- hA2, <- hQ];simp)
          have HQ:=a6 hQ
          have Hkq:=a6 (show Q.kids.length <= 100000000 by rw [hQ];exact Hkl.o t1)
          obtain⟨a2,t2⟩:=A2
          simp only at HB
          clear hA2 hQ
          have hft:=c_Q
          go_wp2_with fail
          refine HT.o.mono ?_
          rintro e w3 ⟨rfl,hbel⟩
          by_cases ha2:a2=1
          . subst ha2
            have HOx:=a6 (HO.o w3 (Hb2w.o.trans (hbel.mono Hb2w.o.size)) t1)
            rw [<- HQ.o]at HOx
            have Hb3:=a6 hbel
            have hld1:=HLD.o w3 (HA2.o.kept (Hb2.o.trans (hbel.mono Hb2.o.size)))
            obtain⟨⟨z0,z1⟩, -,zl⟩:=(HY.o.kept hbel).f2
            clear hbel HT y0 y1 hlr0
            go_wp2_with fail
            refine HOx.o.mono ?_
            rintro e w4 ⟨ka,kc,rfl,hq,hbel⟩
            have Hb4:=a6 (Hb3.o.trans (hbel.mono Hb3.o.size))
            have HTQ:=a6 (h_S Q ka kc x w4 hq.row Hkq.o)
            obtain⟨A3,hA3⟩:∃A3,A3=j8 Q x:=⟨_,rfl⟩
            rw [<- hA3]at HTQ HB
            obtain⟨a3,t3⟩:=A3
            simp only at HB
            clear hbel HOx z0 z1 hld1 hq hA3
            go_wp2_with fail
            refine HTQ.o.mono ?_
            rintro e w5 ⟨rfl,hbel⟩
            have Hb5:=a6 (Hb4.o.trans (hbel.mono Hb4.o.size))
            have hne:=h_T a3
            clear hbel HTQ
            go_wp2_with fail
            go_meet
            case rel=>exact⟨by rw [HB.o];simp,Hb5⟩
          . have h1b:(a2 == 1)=false:=beq_eq_false_iff_ne.2 ha2
            have Hz:=a6 (show (!tK s r x)=true by rw [HB.o];simp [ha2])
            have hne1:(a2 != 1)=true:=by simp [ha2]
            have Hb3:=a6 hbel
            clear hbel HT y0 y1 hlr0
            go_wp2_with fail
            go_meet
            case rel=>exact⟨by rw [Hz.o],Hb3⟩
        . have h4b:(a1 == 4)=false:=beq_eq_false_iff_ne.2 h4
          have Hz:=a6 (show (!tK s r x)=false by rw [HW.o];simp [h4])
          go_wp2_with fail
          go_meet
          case rel=>exact⟨by rw [Hz.o],(show Below _ _ _ from a7)⟩
       case rest=>
        obtain⟨rfl,hby⟩:=hcut
        have Hb3:=a6 (show Below wC.heap.size wC _ from Hb2.o.trans (hby.o.mono Hb2.o.size))
        obtain⟨B,hB⟩:∃B,B=tK s r x:=⟨_,rfl⟩
        rw [<- hB]at Hst⊢
        clear hB y0 y1 yl hlr0 HT hby HY HW
        cases B with
        | false=>
          have Hz:=a6 (show false=R from Hst.o)
          go_wp2_with fail
          go_ret
          exact⟨b7 Hz.o,Hbx.o.trans (Hb3.o.mono Hbx.o.size)⟩
        | true=>
          have HN:=a6 (show ((l.drop (k+1)).all (tK s r) && xY r)=R from Hst.o)
          go_wp2_with fail
          go_roundg (l.length - (k+1))
          case measure=>omega
          case rel=>exact⟨k+1,by go_num,by omega,HN,Hb3⟩
     . obtain rfl:k=l.length:=by omega
       have Hfin:=a6 (show xY r=R by have h:=hst.o;rw [List.drop_length]at h;simpa using h)
       have hnl:¬ (l.length:Int) < l.length:=by omega
       have HT:=a6 (Hr.o wr Hbr.o r.fillT)
       obtain⟨⟨x0,x1,x2,x3,x4,x5,x6,x7⟩, -,xl⟩:=HX3.o.f8
       have hfa:=c_P
       clear hst x0 x2 x3 x4 x5
       by_cases h1:r.fill=1
       . have Hz:=a6 (show decide (r.text.1=1)=R by rw [<- Hfin.o];unfold xY;rw [if_pos h1])
         rw [h1]at x6
         have heq1:(r.text.1 == 1)=decide (r.text.1=1):=by by_cases h:r.text.1=1 <;> simp [h]
         clear h1 hlr0
         go_wp2_with fail
         go_ret
         exact⟨b7 (by rw [<- Hz.o]),Hbr.o⟩
       . have h1b:(r.fill == 1)=false:=beq_eq_false_iff_ne.2 h1
         by_cases h2:r.fill=2
         . have Hz:=a6 (show decide ((j8 r r.fillT).1=1)=R by rw [<- Hfin.o];unfold xY;rw [if_neg h1,if_pos h2])
           obtain⟨A1,hA1⟩:∃A1,A1=j8 r r.fillT:=⟨_,rfl⟩
           rw [<- hA1]at HT Hz
           obtain⟨a1,t1⟩:=A1
           simp only at Hz
           rw [h2]at x6
           have heq1:(a1 == 1)=decide (a1=1):=by by_cases h:a1=1 <;> simp [h]
           clear h1 h1b h2 hA1
           go_wp2_with fail
           refine HT.o.mono ?_
           rintro e w1 ⟨rfl,hbel⟩
           have Hb1:=a6 (Hbr.o.trans (hbel.mono Hbr.o.size))
           clear hbel HT hlr0
           go_wp2_with fail
           go_ret
           exact⟨b7 (by rw [<- Hz.o]),Hb1.o⟩
         . have h2b:(r.fill == 2)=false:=beq_eq_false_iff_ne.2 h2
           have Hz:=a6 (show true=R by rw [<- Hfin.o];unfold xY;rw [if_neg h1,if_neg h2])
           clear hlr0
           go_wp2_with fail
           go_ret
           exact⟨b7 Hz.o,Hbr.o⟩
theorem f_Q {α :Type} [DecidableEq α]:∀ (a l:List α),a.Nodup ->(∀x∈a,x∈l) ->l.length <= a.length ->a.Perm l
 | [],l,_,_,hl=>by
   obtain rfl:l= []:=List.eq_nil_of_length_eq_zero (by simpa using hl)
   exact List.Perm.refl _
 | x::a,l,h,hs,hl=>by
   have hx:x∈l:=hs x (by simp)
   have hn:=List.nodup_cons.1 h
   have h1:=List.length_erase_of_mem hx
   have h2:=List.length_pos_of_mem hx
   have h3:=f_Q a (l.erase x) hn.2 (fun y hy=>(List.mem_erase_of_ne (show y≠x from fun e=>hn.1 (by rw [<- e];exact hy))).2 (hs y (by simp [hy]))) (by simp only [List.length_cons]at hl;omega)
   exact(h3.cons x).trans (List.perm_cons_erase hx).symm
abbrev e_D:List Int:= [1,2,3,4,5,6]
theorem m_q {l:List Int} (h:l.Perm e_D):e_y l=e_D:=by
 have tr:∀a b c:Int,decide (a <= b)=true ->decide (b <= c)=true ->decide (a <= c)=true:=fun a b c h1 h2=>by simp only [decide_eq_true_eq]at *;omega
 have tot:∀a b:Int,(decide (a <= b) || decide (b <= a))=true:=fun a b=>by simp only [Bool.or_eq_true,decide_eq_true_eq];omega
 refine List.Perm.eq_of_pairwise (le:=fun a b=>decide (a <= b)=true) (fun a b _ _ h1 h2=> ?_) (List.pairwise_mergeSort tr tot l) (by decide) ((List.mergeSort_perm l _).trans h)
 simp only [decide_eq_true_eq]at h1 h2
 omega
theorem j_3 {s:b8} (h6:s.order.length=6):decide (e_y s.order=e_D)=K0 s:=by
 by_cases h:e_y s.order=e_D
 . rw [decide_eq_true h]
   have hp:s.order.Perm e_D:=by rw [<- h];exact(List.mergeSort_perm _ _).symm
   symm
   unfold K0
   rw [List.all_eq_true]
   intro c hc
   rw [decide_eq_true_eq,(hp.filter _).length_eq]
   revert c
   decide
 . rw [decide_eq_false h]
   symm
   cases ho:K0 s with
   | false=>rfl
   | true=>
     exfalso
     apply h
     apply m_q
     unfold K0 at ho
     rw [List.all_eq_true]at ho
     refine(f_Q e_D s.order (by decide) (fun c hc=> ?_) (by rw [h6];decide)).symm
     have h1:=ho c hc
     rw [decide_eq_true_eq]at h1
     have h2:0 < (s.order.filter (fun x=>decide (x=c))).length:=by omega
     obtain⟨y,hy⟩:=List.exists_mem_of_length_pos h2
     have h3:=List.mem_filter.1 hy
     have h4:y=c:=by simpa using h3.2
     rw [<- h4]
     exact h3.1
theorem k_Z:∀args w,(callFunc 44 args).run Tryz.prog w= .ok (.enter 44 args) w:=by intro args w;kernel_rfl
theorem n_n (r:bJ) (a:Option Addr) (c:Nat) (W:World) (hr:RowA W W.heap.size 3 a r.kids.length c (dY r.kids)) (hw:r.wt <= 100000000):
 Calls Tryz.prog 44 #[.agg #[aV r.type, .int .i64 r.text.1,aV r.text.2, .int .i64 r.other.1,aV r.other.2, .slice a r.kids.length c, .int .i64 r.fill,aV r.fillT]] W fun e w'=>e= .returned (.bool (!lV r))/\Below W.heap.size W w':=by
 obtain⟨w0,hw0⟩:∃w0,w0=W.alloc (Obj.cells #[aV r.type, .int .i64 r.text.1,aV r.text.2, .int .i64 r.other.1,aV r.other.2, .slice a r.kids.length c, .int .i64 r.fill,aV r.fillT] 27):=⟨_,rfl⟩
 have hb0:Below W.heap.size W w0:=by rw [hw0];exact aX _ _
 have hA:At w0 W.heap.size [aV r.type, .int .i64 r.text.1,aV r.text.2, .int .i64 r.other.1,aV r.other.2, .slice a r.kids.length c, .int .i64 r.fill,aV r.fillT] 27:=by rw [hw0];exact At.fresh W _ _
 have hlr:=I7 (P:=Tryz.prog) hA Tryz.underlying27 rfl (by kernel_rfl)
 simp [go_sem]at hlr
 have HC:=a6 (k_Y r a c w0 (hr.keep hb0 hb0.size) hw)
 have Hw0:=a6 hw0;have Hb0:=a6 hb0
 obtain⟨F,hF⟩:∃F,F=lV r:=⟨_,rfl⟩
 rw [<- hF]at HC⊢
 have xl:=hA.lt
 clear hw0 hb0 hA hr hw hF
 go_enter Tryz.func44,Tryz.ntmps44
 go_upto_region 1 with fail
 rw [<- Hw0.o]
 clear Hw0
 go_wp2_with fail
 refine HC.o.mono ?_
 rintro e w1 ⟨rfl,hbel⟩
 have Hb1:=a6 (Hb0.o.trans (hbel.mono Hb0.o.size))
 clear hbel HC hlr
 go_wp2_with fail
 go_ret
 exact⟨rfl,Hb1.o⟩
theorem n_o (rs:List bJ):decide (0 <= rX (fun k=>match rs[k]? with | some r=> !lV r | none=>false) rs.length)= !rs.all lV:=by
 rcases kQ (fun k=>match rs[k]? with | some r=> !lV r | none=>false) rs.length with⟨k,hk,h1, -,he⟩ | ⟨h1,he⟩
 . rw [he]
   simp only [List.getElem?_eq_getElem hk]at h1
   have:rs.all lV=false:=by
    rw [List.all_eq_false]
    exact⟨rs[k],List.getElem_mem hk,by simpa using h1⟩
   rw [this];simp
 . rw [he]
   have:rs.all lV=true:=by
    rw [List.all_eq_true]
    intro r hr
    obtain⟨k,hk,rfl⟩:=List.mem_iff_getElem.1 hr
    have:=h1 k hk
    simp only [List.getElem?_eq_getElem hk]at this
    simpa using this
   rw [this];rfl
theorem l_0 (rs:List bJ) (a:Option Addr) (c:Nat) (css:List Value) (B:Nat) (W:World) (hr:RowA W W.heap.size 8 a rs.length c css) (hc:g8 W B rs css) (hB:B <= W.heap.size) (hn:rs.length <= 100000000) (hw:∀r∈rs,r.wt <= 100000000):
 Calls Tryz.prog 42 #[.slice a rs.length c, .func (.func 44) #[] #[]] W fun e w'=>e= .returned (.bool (!rs.all lV))/\Below W.heap.size W w':=by
 have HI:=a6 (e_N rs.length a c 44 #[] (fun k=>match rs[k]? with | some r=> !lV r | none=>false) W hn k_Z fun k W' hk hb=>by
  obtain⟨b,off,ra,rc,ha, -,hkr,g0,g1,g2,g3,g4,g5,g6,g7⟩:=h_f (hr.keep hb hb.size) (g8.keep (hb.mono hB) (a8) hc) k hk
  refine⟨b,off,_,_,_,_,_,_,_,_,ha,g0,g1,g2,g3,g4,g5,g6,g7, ?_⟩
  simp only [List.getElem?_eq_getElem hk]
  exact n_n rs[k] ra rc W' (hkr.keep (a7) (aJ hB hb.size)) (hw _ (List.getElem_mem hk)))
 have Hd:=a6 (n_o rs)
 generalize rX (fun k=>match rs[k]? with | some r=> !lV r | none=>false) rs.length=z at HI Hd
 clear hr hc hw
 go_enter Tryz.func42,Tryz.ntmps42
 go_wp2_with fail
 refine HI.o.mono ?_
 rintro e w1 ⟨rfl,hbel⟩
 have Hb:=a6 hbel
 clear hbel HI
 go_wp2_with fail
 go_ret
 exact⟨b7 Hd.o,Hb.o⟩
end Go.Proofs.YtmadpclcmjahoaaGreatDoor

/- Parts of the proof: 26. -/
import Derived.Test.YtmadpclcmjahoaaGreatDoorFN1
import Derived.Test.YtmadpclcmjahoaaGreatDoorFN25
import Derived.Test.YtmadpclcmjahoaaGreatDoorFN23
import Derived.Test.YtmadpclcmjahoaaGreatDoorFN20
import Derived.Test.YtmadpclcmjahoaaGreatDoorFN21
import Derived.Test.YtmadpclcmjahoaaGreatDoorFN17
set_option linter.unusedVariables false
set_option linter.unusedSimpArgs false
set_option maxHeartbeats 8000000
set_option maxRecDepth 100000
namespace Go.Proofs.YtmadpclcmjahoaaGreatDoor
open Go.RowKit Go.Redl
def f_R (s:b8):Bool:=K0 s && (decide (1 <= s.cap) && decide (s.cap <= 1048576))
def e_E (s:b8):Bool:=decide (s.els.type= []) && (AX (s.rules.map (·.type)) && (qK s).all lV)
abbrev f_S (s:b8) (r:bJ):Bool:=xJ s r && decide (0 <= a_1 s r)
theorem l_1 (s:b8) (v:Value) (W:World) (hw:s.wt <= 100000000) (hv:SchemaV W W.heap.size s v):
 Calls Tryz.prog 10 #[v] W fun e w'=>e= .returned (.int .i64 (uX s))/\Below W.heap.size W w':=by
 have Hv:=a6 (fun(w':World) (hb:Below W.heap.size W w')=>hv.keep hb hb.size)
 have HvW:=a6 (fun(w':World) (hb:Below W.heap.size W w')=>hv.keep hb (a8))
 obtain⟨sa,sc,css,ea,ec,o0,o1,o2,o3,o4,o5,rfl,h1,h2,h3,h4⟩:=hv.open
 have Hwt:=a6 hw
 have hrl:s.rules.length <= 100000000:=by have:=pJ s.rules;unfold b8.wt at hw;omega
 have h1r:=a6 (fun(w':World) (hb:Below W.heap.size W w')=>h1.keep hb hb.size)
 have h2r:=a6 (fun(w':World) (hb:Below W.heap.size W w')=>g8.keep hb hb.size h2)
 obtain⟨R,hR⟩:∃R,R=uX s:=⟨_,rfl⟩
 have HR:=a6 (show (if f_R s && e_E s && (qK s).all (f_S s) then (0:Int) else 12)=R from hR.symm)
 have Hord:=a6 (show decide (e_y [o0,o1,o2,o3,o4,o5]=e_D)=K0 s by rw [<- j_3 (s:=s) (by rw [h4];rfl),h4])
 rw [<- hR]
 obtain⟨w0,hw0⟩:∃w0,w0=W.alloc (Obj.cells #[.slice sa s.rules.length sc,aV s.els.type, .int .i64 s.els.text.1,aV s.els.text.2, .int .i64 s.els.other.1,aV s.els.other.2, .slice ea s.els.kids.length ec, .int .i64 s.els.fill,aV s.els.fillT, .int .i64 o0, .int .i64 o1, .int .i64 o2, .int .i64 o3, .int .i64 o4, .int .i64 o5, .int .i64 s.cap] 30):=⟨_,rfl⟩
 have hb0:Below W.heap.size W w0:=by rw [hw0];exact aX _ _
 have hA:At w0 W.heap.size [.slice sa s.rules.length sc,aV s.els.type, .int .i64 s.els.text.1,aV s.els.text.2, .int .i64 s.els.other.1,aV s.els.other.2, .slice ea s.els.kids.length ec, .int .i64 s.els.fill,aV s.els.fillT, .int .i64 o0, .int .i64 o1, .int .i64 o2, .int .i64 o3, .int .i64 o4, .int .i64 o5, .int .i64 s.cap] 30:=by rw [hw0];exact At.fresh W _ _
 have hld:=fun(w':World) (h:At w' W.heap.size [.slice sa s.rules.length sc,aV s.els.type, .int .i64 s.els.text.1,aV s.els.text.2, .int .i64 s.els.other.1,aV s.els.other.2, .slice ea s.els.kids.length ec, .int .i64 s.els.fill,aV s.els.fillT, .int .i64 o0, .int .i64 o1, .int .i64 o2, .int .i64 o3, .int .i64 o4, .int .i64 o5, .int .i64 s.cap] 30)=>I7 (P:=Tryz.prog) h Tryz.underlying30 rfl (by kernel_rfl)
 simp [go_sem]at hld
 have HLD:=a6 hld
 have HV:=a6 (k_S (some ⟨W.heap.size,9,none⟩) 6 6 w0)
 obtain⟨w1,hw1⟩:∃w1,w1=w0.alloc (Obj.cells #[.slice (some ⟨W.heap.size,9,none⟩) 6 6] 36):=⟨_,rfl⟩
 have hb1:Below w0.heap.size w0 w1:=by rw [hw1];exact aX _ _
 have hA1:At w1 W.heap.size _ _:=hA.kept hb1
 have hB1:At w1 w0.heap.size [.slice (some ⟨W.heap.size,9,none⟩) 6 6] 36:=by rw [hw1];exact At.fresh w0 _ _
 have HS:=a6 (show Calls Tryz.prog 36 #[.func (.func 92) #[] #[.pointer (some ⟨w0.heap.size,0,none⟩)]] w1 (fun e w'=>∃a c,e= .returned (.slice a 6 c)/\RowA w' w'.heap.size 1 a 6 c ((e_y [o0,o1,o2,o3,o4,o5]).map (Value.int .i64))/\Below w1.heap.size w1 w')from
  k_T w0.heap.size W.heap.size 9 6 [o0,o1,o2,o3,o4,o5] (by simp) w1 hB1.lt hA1.lt (hB1.cell 0 rfl) (fun j hj=>by
   have hj6:j < 6:=hj
   match j,hj6 with
   | 0,_=>exact hA1.cell 9 rfl
   | 1,_=>exact hA1.cell 10 rfl
   | 2,_=>exact hA1.cell 11 rfl
   | 3,_=>exact hA1.cell 12 rfl
   | 4,_=>exact hA1.cell 13 rfl
   | 5,_=>exact hA1.cell 14 rfl))
 have Hw0:=a6 hw0;have Hw1:=a6 hw1;have Hb0:=a6 hb0;have HA:=a6 hA;have Hb01:=a6 (hb0.trans (hb1.mono hb0.size));have Hb1:=a6 hb1
 have hel:=fun(w:World)=>h_8
 have xl:=hA.lt
 clear hv hw h1 h2 h3 h4 hR hw0 hb0 hA hld hw1 hb1 hA1 hB1
 go_enter Tryz.func10,Tryz.ntmps10
 go_upto_region 1 with fail
 rw [<- Hw0.o]
 clear Hw0
 go_wp2_with fail
 refine HV.o.mono ?_
 rintro e wx ⟨rfl,rfl⟩
 rw [<- Hw1.o]
 clear HV Hw1
 go_wp2_with fail
 refine HS.o.mono ?_
 rintro e w2 ⟨oa,oc,rfl,hrow,hbel⟩
 obtain⟨ys,hys⟩:∃ys,ys=e_y [o0,o1,o2,o3,o4,o5]:=⟨_,rfl⟩
 have hyl:ys.length=6:=by rw [hys,List.length_mergeSort];rfl
 rw [<- hys]at hrow Hord
 have hb2:=Hb1.o.trans (hbel.mono Hb1.o.size)
 have HA2:=a6 (HA.o.kept hb2)
 have Hb2:=a6 (Hb0.o.trans (hb2.mono Hb0.o.size))
 obtain⟨w3,hw3⟩:∃w3,w3=w2.alloc (Obj.cells #[.int .i64 1, .int .i64 2, .int .i64 3, .int .i64 4, .int .i64 5, .int .i64 6] 3):=⟨_,rfl⟩
 have hb3:Below w2.heap.size w2 w3:=by rw [hw3];exact aX _ _
 have hS3:At w3 w2.heap.size (e_D.map (Value.int .i64)) 3:=by rw [hw3];exact At.fresh w2 _ _
 have hQ:=h_A oa (some ⟨w2.heap.size,0,none⟩) oc 6 (w2.heap.size+1) ys e_D w3 ((by rw [hyl];exact hrow.keep hb3 (Nat.le_succ _))) (h_e hS3 6 1 rfl (by omega) (fun u hu=>by obtain⟨x, -,rfl⟩:=List.mem_map.1 hu;rfl))
 rw [hyl,Hord.o]at hQ
 have HQ:=a6 hQ
 have Hw3:=a6 hw3;have Hb3:=a6 hb3
 obtain⟨E,hE⟩:∃E,E=K0 s:=⟨_,rfl⟩
 have Hc:=a6 (show f_R s=(E && (decide (1 <= s.cap) && decide (s.cap <= 1048576)))by rw [hE];rfl)
 rw [<- hE]at HQ
 clear hbel HS hys hyl hrow Hord hw3 hb3 hS3 hQ hE hb2 HA
 go_upto_region 2 with fail
 go_cut [24] (fun b wx=>b= .bool (!f_R s)/\Hid (Below w2.heap.size w2 wx))
 case first=>
  go_wp2_with fail
  rw [<- Hw3.o]
  clear Hw3
  refine HQ.o.mono ?_
  rintro e w4 ⟨rfl,hd⟩
  have hb4:=Hb3.o.trans ((hd.below w3.heap.size).mono Hb3.o.size)
  have x15:=(HA2.o.kept hb4).cell 15 (v:= .int .i64 s.cap) rfl
  have Hb4:=a6 hb4
  clear hd hb4 HQ
  cases E with
  | false=>
    have Hz:=a6 (show f_R s=false from Hc.o)
    go_wp2_with fail
    go_meet
    case rel=>exact⟨by rw [Hz.o];rfl,Hb4⟩
  | true=>
    by_cases c1:s.cap < 1
    . have Hz:=a6 (show f_R s=false by rw [Hc.o,decide_eq_false (show ¬1 <= s.cap by omega)];rfl)
      go_wp2_with fail
      go_meet
      case rel=>exact⟨by rw [Hz.o];rfl,Hb4⟩
    . by_cases c2:1048576 < s.cap
      . have Hz:=a6 (show f_R s=false by rw [Hc.o,decide_eq_false (show ¬s.cap <= 1048576 by omega)];simp)
        go_wp2_with fail
        go_meet
        case rel=>exact⟨by rw [Hz.o];rfl,Hb4⟩
      . have Hz:=a6 (show f_R s=true by rw [Hc.o,decide_eq_true (show s.cap <= 1048576 by omega),decide_eq_true (show 1 <= s.cap by omega)];rfl)
        have c1b:=decide_eq_false c1
        have c2b:=decide_eq_false c2
        go_wp2_with fail
        go_meet
        case rel=>exact⟨by rw [Hz.o];first | rfl | (rw [c1b,c2b];rfl),Hb4⟩
 case rest=>
  obtain⟨w5,rfl⟩:∃z,z=wc:=⟨_,rfl⟩
  obtain⟨rfl,hbx⟩:=hcut
  have Hb5:=a6 (Hb2.o.trans (hbx.o.mono Hb2.o.size))
  have HA5:=a6 (HA2.o.kept hbx.o)
  obtain⟨A1,hA1⟩:∃A1,A1=f_R s:=⟨_,rfl⟩
  rw [<- hA1]at HR⊢
  clear hA1 HQ Hc hbx HA2 Hw3
  cases A1 with
  | false=>
    have Hz:=a6 (show (12:Int)=R from HR.o)
    go_wp2_with fail
    go_ret
    exact⟨cY Hz.o,Hb5.o⟩
  | true =>
    have HR2:=a6 (show (if e_E s && (qK s).all (f_S s) then (0:Int) else 12)=R by have h:=HR.o;simpa using h)
    have x0:=HA5.o.cell 0 (v:= .slice sa s.rules.length sc) rfl
    have x1:=HA5.o.cell 1 (v:=aV s.els.type) rfl
    have xl5:=HA5.o.lt
    have HT:=a6 (k_R s.rules sa sc css w5 (h1r.o w5 Hb5.o) (h2r.o w5 Hb5.o) hrl)
    clear HR
    go_upto_region 4 with fail
    go_cut [40] (fun b wx=>b= .bool (!e_E s)/\Hid (Below w5.heap.size w5 wx))
    case first=>
     have Hc:=a6 (show e_E s=(decide (s.els.type= []) && (AX (s.rules.map (·.type)) && (qK s).all lV))from rfl)
     obtain⟨T,hT⟩:∃T,T=s.els.type:=⟨_,rfl⟩
     rw [<- hT]at x1
     cases T with
     | cons t0 ts=>
       have Hz:=a6 (show e_E s=false by rw [Hc.o, <- hT];rfl)
       clear hT
       go_wp2_with fail
       go_meet
       case rel=>exact⟨by rw [Hz.o];rfl,(show Below _ _ _ from a7)⟩
     | nil=>
       have Hc2:=a6 (show e_E s=(AX (s.rules.map (·.type)) && (qK s).all lV)by rw [Hc.o, <- hT];simp)
       clear hT Hc
       go_wp2_with fail
       refine HT.o.mono ?_
       rintro e w6 ⟨rfl,hat,hbel⟩
       have hat2:At w6 w5.heap.size ((s.rules.map (·.type)).map aV) 9:=by have h:=hat;unfold A0 at h;rw [List.map_map];exact h
       have hwt:=Hwt.o
       have HQ:=a6 (d_R (s.rules.map (·.type)) s.rules.length _ w6 (by simp) hat2 hrl (fun t ht=>by obtain⟨r,hr,rfl⟩:=List.mem_map.1 ht;have h1:=DX hr;unfold b8.wt at hwt;unfold bJ.wt at h1;omega))
       have Hb6:=a6 hbel
       clear hbel hat hat2 HT hwt
       obtain⟨F,hF⟩:∃F,F=AX (s.rules.map (·.type)):=⟨_,rfl⟩
       rw [<- hF]at HQ Hc2
       clear hF
       go_wp2_with fail
       refine HQ.o.mono ?_
       rintro e w7 ⟨rfl,hbel⟩
       have hb7:=Hb6.o.trans (hbel.mono Hb6.o.size)
       have Hb7:=a6 hb7
       have hld7:=HLD.o w7 (HA5.o.kept hb7)
       have hbW:=Hb5.o.trans (hb7.mono Hb5.o.size)
       have HRu:=a6 (c_O s _ W.heap.size w7 Hwt.o (HvW.o w7 hbW) hbW.size)
       have HbW:=a6 hbW
       clear hbel hb7 HQ x0 x1 hbW
       cases F with
       | false=>
         have Hz:=a6 (show e_E s=false from Hc2.o)
         go_wp2_with fail
         go_meet
         case rel=>exact⟨by rw [Hz.o];rfl,Hb7⟩
       | true=>
         have Hz:=a6 (show e_E s=(qK s).all lV by rw [Hc2.o];rfl)
         go_wp2_with fail
         refine HRu.o.mono ?_
         rintro e w8 ⟨ra,rc,css2,rfl,hrow,hrcs,hbel⟩
         have hr1:(qK s).length <= 100000000:=by have h1:=pJ s.rules;have h2:=Hwt.o;unfold b8.wt bJ.wt at h2;rw [b_N];omega
         have HCF:=a6 (l_0 (qK s) ra rc css2 W.heap.size w8 hrow.row hrcs (aJ HbW.o.size hbel.size) hr1 (fun r hr=>aJ (b_M hr) Hwt.o))
         have Hb8:=a6 (Hb7.o.trans (hbel.mono Hb7.o.size))
         obtain⟨rs,hrs⟩:∃rs,rs=qK s:=⟨_,rfl⟩
         rw [<- hrs]at HCF Hz⊢
         clear hrow hrcs hbel HRu hld7 hr1 hrs
         go_wp2_with fail
         refine HCF.o.mono ?_
         rintro e w9 ⟨rfl,hbel⟩
         have Hb9:=a6 (Hb8.o.trans (hbel.mono Hb8.o.size))
         clear hbel HCF
         go_wp2_with fail
         go_meet
         case rel=>exact⟨by rw [Hz.o],Hb9⟩
    case rest=>
     obtain⟨w6,rfl⟩:∃z,z=wc:=⟨_,rfl⟩
     obtain⟨rfl,hbx⟩:=hcut
     have Hb6:=a6 (Hb5.o.trans (hbx.o.mono Hb5.o.size))
     have HA6:=a6 (HA5.o.kept hbx.o)
     obtain⟨B1,hB1⟩:∃B1,B1=e_E s:=⟨_,rfl⟩
     rw [<- hB1]at HR2⊢
     clear hB1 HT hbx HA5 x0 x1 xl5
     cases B1 with
     | false=>
       have Hz:=a6 (show (12:Int)=R from HR2.o)
       go_wp2_with fail
       go_ret
       exact⟨cY Hz.o,Hb6.o⟩
     | true=>
       have HR3:=a6 (show (if (qK s).all (f_S s) then (0:Int) else 12)=R by have h:=HR2.o;simpa using h)
       have hld6:=HLD.o w6 HA6.o
       have xl6:=HA6.o.lt
       have HN:=a6 (m_p s _ w6 Hwt.o (Hv.o w6 Hb6.o))
       obtain⟨i0,hi,hz0,hz1,hz2⟩:=info_parts b_8
       clear HR2
       go_wp2_with fail
       refine HN.o.mono ?_
       rintro e w7 ⟨nv,out,rfl,hown,hmem,hlen,hbel⟩
       have hlw:out.length <= 100000000:=aJ hlen Hwt.o
       have Hmem:=a6 hmem
       have Hb7:=a6 hbel
       have hs7:=hbel.size
       clear hmem hlen hbel HN hld6
       go_upto_region 7 with(at_builtin;refine wpList_append_own _ rfl _ _ 83 rfl w6.heap.size 9 i0 (.string ⟨#[]⟩) 1 16 Tryz.underlying83 hi hz0 hz1 hz2 rfl (by decide) _ _ _ rfl (hown.alloc _) ⟨w7.heap.size,0,none⟩ 1 1 [aV []] rfl rfl (cell_one_new _ _ _) (by simp [Value.oneCell']) (by unfold maxLen at *;omega) (by omega) (by simp;omega) ?_;intro nv2 w8 hown2 hg8 hnil8;go_frame)
       have hb8:Below w6.heap.size w6 w8:=(Hb7.o.alloc hs7 (Obj.cells #[aV []] 9)).grown hg8 (aJ hs7 (aX w7 _).size) (fun j hj=>(hown.lt j hj).1)
       obtain⟨l,hl⟩:∃l,l=out ++ [[]]:=⟨_,rfl⟩
       obtain⟨na,nc,hnv,hnr⟩:∃na nc,nv2= .slice na l.length nc/\RowA w8 w8.heap.size 1 na l.length nc (l.map aV):=by
        have h:=hown2
        rw [show out.length+1=l.length by rw [hl];simp,show out.map aV ++ [aV []]=l.map aV by rw [hl];simp]at h
        exact cK h (fun u hu=>by obtain⟨t, -,rfl⟩:=List.mem_map.1 hu;rfl)
       subst hnv
       have Hll:=a6 (show l.length <= 1000000000 by rw [hl];simp;omega)
       have HST:=a6 (fun(r:bJ)=>show B2 s r l=xJ s r by rw [hl];exact h_c Hmem.o)
       have Hnr:=a6 hnr
       have Hb8:=a6 (Hb6.o.trans (hb8.mono Hb6.o.size))
       have HA8:=a6 (HA6.o.kept hb8)
       have hld8:=HLD.o w8 HA8.o
       have HRu:=a6 (c_O s _ W.heap.size w8 Hwt.o (HvW.o w8 Hb8.o) Hb8.o.size)
       clear hown hown2 hg8 hnil8 hb8 hl hnr hi hz0 hz1 hz2 hlw hs7 HA6 xl6
       have xl8:=HA8.o.lt
       go_wp2_with fail
       refine HRu.o.mono ?_
       rintro e w9 ⟨ra,rc,css2,rfl,hrow,hrcs,hbel⟩
       have hr1:(qK s).length <= 100000000:=by have h1:=pJ s.rules;have h2:=Hwt.o;unfold b8.wt bJ.wt at h2;rw [b_N];omega
       have Hb9:=a6 (Hb8.o.trans (hbel.mono Hb8.o.size))
       have HA9:=a6 (HA8.o.kept hbel)
       have Hn9:=a6 (Hnr.o.keep hbel hbel.size)
       have Hrow:=a6 hrow.row;have Hrcs:=a6 hrcs
       obtain⟨rs,hrs⟩:∃rs,rs=qK s:=⟨_,rfl⟩
       have Hrs:=a6 hrs
       rw [<- hrs]at Hrow Hrcs hr1 HR3⊢
       clear hrow hrcs hbel HRu hld8 hrs xl8
       go_wp2_with fail
       go_loopg [48] rs.length (fun g i wr=>∃k:Nat,i= .int .i64 k/\k+g=rs.length/\Hid ((if (rs.drop k).all (f_S s) then (0:Int) else 12)=R)/\Hid (Below w9.heap.size w9 wr))
       case atStart=>exact⟨0,rfl,by omega,HR3,(show Below _ _ _ from a7)⟩
       case round=>
        obtain⟨k,rfl,hg,hst,hbr⟩:=hrel
        have Hbr:=a6 (Hb9.o.trans (hbr.o.mono Hb9.o.size))
        by_cases hlt:k < rs.length
        . have hlti:(k:Int) < rs.length:=by omega
          obtain⟨b,off,qa,qc,rfl,hlb,hkr,p0,p1,p2,p3,p4,p5,p6,p7⟩:=h_f (Hrow.o.keep hbr.o hbr.o.size) (g8.keep (hbr.o.mono Hb9.o.size) (a8) Hrcs.o) k hlt
          have Hqm:=a6 (show rs[k]∈qK s by rw [<- Hrs.o];exact List.getElem_mem hlt)
          have Hst:=a6 (show (if f_S s rs[k] && (rs.drop (k+1)).all (f_S s) then (0:Int) else 12)=R by
           have h:=hst.o
           rw [List.drop_eq_getElem_cons hlt,List.all_cons]at h
           exact h)
          generalize rs[k]=q at hkr p0 p1 p2 p3 p4 p5 p6 p7 Hqm Hst
          obtain⟨w10,hw10⟩:∃w10,w10=wr.alloc (Obj.cells #[aV q.type, .int .i64 q.text.1,aV q.text.2, .int .i64 q.other.1,aV q.other.2, .slice qa q.kids.length qc, .int .i64 q.fill,aV q.fillT] 27):=⟨_,rfl⟩
          have hb10:Below wr.heap.size wr w10:=by rw [hw10];exact aX _ _
          have hX:At w10 wr.heap.size [aV q.type, .int .i64 q.text.1,aV q.text.2, .int .i64 q.other.1,aV q.other.2, .slice qa q.kids.length qc, .int .i64 q.fill,aV q.fillT] 27:=by rw [hw10];exact At.fresh wr _ _
          have hlr:=fun(w':World) (h:At w' wr.heap.size [aV q.type, .int .i64 q.text.1,aV q.text.2, .int .i64 q.other.1,aV q.other.2, .slice qa q.kids.length qc, .int .i64 q.fill,aV q.fillT] 27)=>I7 (P:=Tryz.prog) h Tryz.underlying27 rfl (by kernel_rfl)
          simp [go_sem]at hlr
          have HLR:=a6 hlr
          have hb9x:=hbr.o.trans (hb10.mono hbr.o.size)
          have HA10:=a6 (HA9.o.kept hb9x)
          have HX10:=a6 hX
          have Hw10:=a6 hw10
          have Hb10:=a6 hb9x
          have hbW:=Hb9.o.trans (hb9x.mono Hb9.o.size)
          have HbW:=a6 hbW
          have hql:q.kids.length <= 100000000:=by have h1:=GZ q;have h2:=b_M Hqm.o;have h3:=Hwt.o;omega
          have Hkr:=a6 (fun(w':World) (hb:Below wr.heap.size wr w')=>hkr.keep (hb.mono Hbr.o.size) (aJ Hbr.o.size hb.size))
          have hS:=j_2 s _ q qa qc l na nc w10 Hwt.o (Hv.o w10 hbW) (Hkr.o w10 hb10) hql (Hn9.o.keep hb9x hb9x.size) Hll.o
          rw [HST.o q]at hS
          have HS:=a6 hS
          have hld10:=HLD.o w10 HA10.o
          have hlr10:=HLR.o w10 hX
          have hxl:=hX.lt
          have HB10:=a6 hb10
          clear hw10 hb10 hX hlr hb9x hbW hkr hlb hst hS
          go_upto_region 10 with fail
          rw [<- Hw10.o]
          clear Hw10 p0 p1 p2 p3 p4 p5 p6 p7
          obtain⟨S1,hS1⟩:∃S1,S1=xJ s q:=⟨_,rfl⟩
          have HCk:=a6 (show f_S s q=(S1 && decide (0 <= a_1 s q))by rw [hS1])
          rw [<- hS1]at HS
          clear hS1
          go_wp2_with fail
          refine HS.o.mono ?_
          rintro e w11 ⟨rfl,hbel⟩
          have hb11:=Hb10.o.trans (hbel.mono Hb10.o.size)
          have HbB:=a6 (HB10.o.trans (hbel.mono HB10.o.size))
          have HA11:=a6 (HA9.o.kept hb11)
          have HX11:=a6 (HX10.o.kept hbel)
          have Hb11:=a6 hb11
          have hld11:=HLD.o w11 HA11.o
          have hlr11:=HLR.o w11 HX11.o
          have Hb11W:=a6 (Hb9.o.trans (hb11.mono Hb9.o.size))
          have hxl11:=HX11.o.lt
          clear hbel hb11 HS hld10 hlr10 HA10 HX10 hxl
          cases S1 with
          | false=>
            have Hz:=a6 (show (12:Int)=R by have h:=Hst.o;rw [HCk.o]at h;exact h)
            clear Hst HCk
            go_wp2_with fail
            go_ret
            exact⟨cY Hz.o,Hb11W.o⟩
          | true=>
            have HD:=a6 (m_n s _ q qa qc w11 Hwt.o (Hv.o w11 Hb11W.o) Hqm.o)
            obtain⟨d,hd⟩:∃d,d=a_1 s q:=⟨_,rfl⟩
            rw [<- hd]at HD HCk
            clear hd
            go_wp2_with fail
            refine HD.o.mono ?_
            rintro e w12 ⟨rfl,hbel⟩
            have Hb12:=a6 (Hb11.o.trans (hbel.mono Hb11.o.size))
            clear hbel HD hld11 hlr11
            by_cases hd0:d < 0
            . have Hz:=a6 (show (12:Int)=R by have h:=Hst.o;rw [HCk.o,decide_eq_false (show ¬0 <= d by omega)]at h;exact h)
              clear Hst HCk
              go_wp2_with fail
              go_ret
              exact⟨cY Hz.o,Hb9.o.trans (Hb12.o.mono Hb9.o.size)⟩
            . have HN:=a6 (show (if (rs.drop (k+1)).all (f_S s) then (0:Int) else 12)=R by have h:=Hst.o;rw [HCk.o,decide_eq_true (show 0 <= d by omega)]at h;simpa using h)
              clear Hst HCk
              go_wp2_with fail
              go_roundg (rs.length - (k+1))
              case measure=>omega
              case rel=>exact⟨k+1,by go_num,by omega,HN,Hb12⟩
        . obtain rfl:k=rs.length:=by omega
          have Hz:=a6 (show (0:Int)=R by have h:=hst.o;rw [List.drop_length]at h;exact h)
          clear hst
          go_wp2_with fail
          go_ret
          exact⟨cY Hz.o,Hbr.o⟩
theorem j_4 (r:bJ) (ks:List aK) (p:List Int) (f:qJ) (m:Nat) (h1:dX ks <= m) (h2:f.2.2 <= (m:Int)+1):(lX r ks p f).length <= m+2:=by
 have hk:(aQ (cX ks f.2.1.toNat)).length <= m:=by
  have h3:(cX ks f.2.1.toNat).wt <= m+1:=by
   by_cases hi:f.2.1.toNat < ks.length
   . rw [u_9 hi];have:=iK (List.getElem_mem hi);omega
   . rw [show cX ks f.2.1.toNat= .mk false [] [] []from by simp [cX,List.getD,List.getElem?_eq_none (show ks.length <= f.2.1.toNat by omega)]]
     simp [aK.wt,gX,dX]
  generalize cX ks f.2.1.toNat=q at h3⊢
  obtain⟨l,ps,t,ks'⟩:=q
  have:=fX ks'
  simp only [aK.wt,aQ]at h3⊢
  omega
 unfold lX
 split
 . simp only [List.length_cons,List.length_nil];omega
 split
 . simp only [List.length_append,List.length_map,List.length_range,List.length_cons,List.length_nil];omega
 split
 . simp only [List.length_cons,List.length_map,List.length_range];omega
 split
 . simp only [List.length_cons,List.length_nil];omega
 . simp only [List.length_cons,List.length_nil];omega
theorem j_5 (s:b8) (n:aK) (p:List Int) (hn:n.wt <= 1048576):(D4 s n p).1.length <= 100000000:=by
 have hw:=uK p n
 unfold D4
 cases hat:kK n p with
 | none=>simp
 | some k=>
   have hk:=hw k hat
   simp only
   split
   . simp
   split
   . simp
   . have hks:dX (aQ k) <= 1048576:=by
      obtain⟨l,ps,t,ks'⟩:=k
      simp only [aK.wt,aQ]at hk⊢
      omega
     have hl:=fX (aQ k)
     have hm:(g9 s k).2.2 <= ((1048576:Nat):Int)+1:=by
      rcases o8 s k with hF | ⟨c,j, -, -, -, -,hF, -, -, -⟩
      . rw [hF];simp
      . rw [hF]
        show ((i9 (bV s (dZ k)) (aQ k) c:Nat):Int) <= _
        have:i9 (bV s (dZ k)) (aQ k) c <= 1+(aQ k).length:=by
         unfold i9
         split
         . unfold a_P
           have h1:=List.takeWhile_prefix (l:=((kX (bV s (dZ k)) (aQ k)).drop ((i7 (bV s (dZ k)) (aQ k) c).toNat+1))) (p:=fun a=>decide (a=(kX (bV s (dZ k)) (aQ k)).getD (i7 (bV s (dZ k)) (aQ k) c).toNat (0, [])))
           have h2:=h1.length_le
           have h3:((kX (bV s (dZ k)) (aQ k)).drop ((i7 (bV s (dZ k)) (aQ k) c).toNat+1)).length <= (aQ k).length:=by simp [kX]
           omega
         . omega
        omega
     have:=j_4 (bV s (dZ k)) (aQ k) p (g9 s k) 1048576 hks hm
     exact aJ this (by omega)
theorem b_A (s:b8) (n:aK) (p:List Int) (h:H0 s n p=true):p.length <= 40:=by
 unfold H0 at h
 simp only [Bool.and_eq_true,decide_eq_true_eq]at h
 exact h.2
theorem c_R {s:b8} {n:aK} {p:List Int} (h:H0 s n p=true):n.wt <= 15360:=by
 unfold H0 at h
 simp only [Bool.and_eq_true]at h
 have:=n_5 h.1.2
 omega
theorem e_F (t:List UInt8):(fQ t).wt <= 7+t.length:=by
 unfold fQ
 by_cases h:t= []
 . simp [h,aK.wt,gX,dX]
 . rw [if_neg h]
   simp only [aK.wt,gX,dX,List.length_nil]
   have:F6.length=4:=rfl
   omega
theorem c_S {t:List UInt8} (h:oZ t=true):t.length <= 32:=by
 have:=(c_B h).2
 unfold b_D at this
 simp only [Bool.and_eq_true,decide_eq_true_eq]at this
 exact this.1
theorem l_2 (ks:List aK) (i:Nat):(cX ks i).wt <= dX ks+1:=by
 by_cases hi:i < ks.length
 . rw [u_9 hi];have:=iK (List.getElem_mem hi);omega
 . rw [show cX ks i= .mk false [] [] []from by simp [cX,List.getD,List.getElem?_eq_none (show ks.length <= i by omega)]]
   simp [aK.wt,gX,dX]
theorem j_6 (k:aK):(G6 k).wt <= k.wt:=by
 cases k;simp only [G6,aK.wt,dX];omega
theorem f_T (k:aK):(cV k).length <= k.wt:=by
 obtain⟨l,ps,t,ks⟩:=k
 have:=rV ps
 simp only [cV,aK.wt];omega
theorem K8 (k:aK):dX (aQ k)+1 <= k.wt:=by
 cases k;simp only [aQ,aK.wt];omega
theorem c_T {l:List j7} (h:∀o∈l,o.kind≠1):xV l=0:=by
 induction l with
 | nil=>rfl
 | cons o l ih=>
   simp only [xV]
   rw [if_neg (h o (by simp)),ih (fun o ho=>h o (by simp [ho]))]
def n_p (o:j7):Prop:=E3 o.kind/\o.node.wt <= 1000000/\o.dest.length <= 1000000/\o.old.length <= 100000000
theorem h_U {s:b8} {n k:aK} {p:List Int} (hs:uX s=0) (hk:k.wt <= 900000) (hp:p.length <= 900000) (hf:(g9 s k).1≠0):
 (∀o∈lX (bV s (dZ k)) (aQ k) p (g9 s k),n_p o)/\xV (lX (bV s (dZ k)) (aQ k) p (g9 s k)) <= 100/\lX (bV s (dZ k)) (aQ k) p (g9 s k)≠ []:=by
 have hF:=zY (zX hs _ (L3 s (dZ k))).1
 have hkw:=K8 k
 have hz:bZ.wt=1:=rfl
 rcases o8 s k with h | ⟨c,j,hl,h1,h6,hj,he,hlt,h4,h66⟩
 . rw [h]at hf;exact absurd rfl hf
 rw [he]
 generalize bV s (dZ k)=r at hF hj⊢
 have hkj:=l_2 (aQ k) j
 obtain rfl | rfl | rfl | rfl | rfl | rfl:c=1∨c=2∨c=3∨c=4∨c=5∨c=6:=by omega
 . rw [FX (.inl rfl)]
   refine⟨fun o ho=> ?_,by simp [xV],by simp⟩
   rw [List.mem_singleton.1 ho]
   exact⟨.inr (.inl rfl),(show (cX (aQ k) (((j:Nat):Int)).toNat).wt <= 1000000 by rw [Int.toNat_natCast];omega),by simp,by simp⟩
 . rw [c_k rfl]
   refine⟨fun o ho=> ?_, ?_,by simp⟩
   . rcases List.mem_append.1 ho with ho | ho
     . obtain ⟨i, -,rfl⟩:=List.mem_map.1 ho
       exact⟨.inr (.inr (.inr rfl)),(show bZ.wt <= 1000000 by omega),(show (p ++ [_]).length <= 1000000 by simp;omega),by simp⟩
     . rw [List.mem_singleton.1 ho]
       have:=j_6 (cX (aQ k) j)
       exact⟨.inr (.inl rfl),(show (G6 (cX (aQ k) (((j:Nat):Int)).toNat)).wt <= 1000000 by rw [Int.toNat_natCast];omega),by simp,by simp⟩
   . rw [c_T]
     . omega
     . intro o ho
       rcases List.mem_append.1 ho with ho | ho
       . obtain ⟨i, -,rfl⟩:=List.mem_map.1 ho
         simp
       . rw [List.mem_singleton.1 ho];simp
 . have hjl:=hlt (by omega)
   have h4a:=(c_E hjl hj).1
   have hnm:=c_S (c_A (c_z hF _) h4a)
   have hew:=e_F (eY r (aQ k)[j]).2
   rw [MZ rfl]
   simp only [Int.toNat_natCast]
   rw [kid_at hjl]
   refine⟨fun o ho=> ?_, ?_,by simp⟩
   . rcases List.mem_cons.1 ho with rfl | ho
     . exact⟨.inl rfl,(show (fQ _).wt <= 1000000 by omega),by simp,by simp⟩
     . obtain ⟨i, -,rfl⟩:=List.mem_map.1 ho
       exact⟨.inr (.inr (.inr rfl)),(show bZ.wt <= 1000000 by omega),(show (p ++ [_,_]).length <= 1000000 by simp;omega),by simp⟩
   . rw [xV,c_T (l:=List.map _ _)]
     . rw [if_pos rfl]
       show (fQ _).wt+0 <= 100
       omega
     . intro o ho
       obtain⟨i, -,rfl⟩:=List.mem_map.1 ho
       simp
 . rw [a_Y rfl]
   have hpl:=f_T (cX (aQ k) j)
   refine⟨fun o ho=> ?_,by simp [xV],by simp⟩
   rw [List.mem_singleton.1 ho]
   exact⟨.inr (.inr (.inl rfl)),(show bZ.wt <= 1000000 by omega),by simp,(show (cV (cX (aQ k) (((j:Nat):Int)).toNat)).length <= 100000000 by rw [Int.toNat_natCast];omega)⟩
 . rw [FX (.inr rfl)]
   refine⟨fun o ho=> ?_,by simp [xV],by simp⟩
   rw [List.mem_singleton.1 ho]
   exact⟨.inr (.inl rfl),(show (cX (aQ k) (((j:Nat):Int)).toNat).wt <= 1000000 by rw [Int.toNat_natCast];omega),by simp,by simp⟩
 . rw [c_l rfl]
   have hx:(if r.fill=1 then aK.mk true [] [] [] else fQ r.fillT).wt <= 100:=by
    split
    . simp [aK.wt,gX,dX]
    . rename_i hf1
      have hj6:i7 r (aQ k) 6=j:=hj
      rw [zV]at hj6
      split at hj6
      . rename_i h
        have:=c_S (c_C hF h.2 hf1).2
        have:=e_F r.fillT
        omega
      . omega
   generalize (if r.fill=1 then aK.mk true [] [] [] else fQ r.fillT)=x at hx⊢
   refine⟨fun o ho=> ?_, ?_,by simp⟩
   . rw [List.mem_singleton.1 ho]
     exact⟨.inl rfl,(show x.wt <= 1000000 by omega),by simp,by simp⟩
   . simp only [xV,if_true];omega
theorem m_r:∀ (L:List j7) (m Y:aK),(∀o∈L,n_p o) ->m.wt+xV L <= 100000000 ->nV m (L.map j7.full)=some Y ->Y.wt <= m.wt+xV L:=by
 intro L
 induction L with
 | nil=>intro m Y _ _ h;injection h with h;subst h;exact Nat.le_add_right _ _
 | cons o L ih=>
   intro m Y ho hw h
   obtain⟨T,hT,h5⟩:=b_y h
   have h6:=FZ (ho o (by simp)).1 (by omega) hT
   simp only [xV]at hw⊢
   have h7:=ih T Y (fun o ho'=>ho o (by simp [ho'])) (by omega) h5
   omega
def a_a (s:b8) (n k:aK) (p:List Int):aK:=gY n p (setKids k (MV (bV s (dZ k)) (aQ k) (g9 s k)))
theorem l_3 {s:b8} {n:aK} {p:List Int} (hsm:H0 s n p=true) (hs:uX s=0) (hn:eQ n=0) (hr:aZ n=false):
 ((D4 s n p).2≠0/\(D4 s n p).1= [])∨
 ∃ k,kK n p=some k/\aZ k=false/\(g9 s k).1≠0/\(D4 s n p).2=0/\nV n ((D4 s n p).1.map j7.full)=some (a_a s n k p)/\(D4 s n p).1≠ []/\(∀o∈ (D4 s n p).1,n_p o)/\
   n.wt+xV (D4 s n p).1 <= 1000000/\eQ (a_a s n k p)=0/\iY (a_a s n k p)≠iY n/\(a_a s n k p).wt <= 1000000/\(D4 s n p).1=lX (bV s (dZ k)) (aQ k) p (g9 s k):=by
 have hnw:=c_R hsm
 have hpl:=b_A s n p hsm
 unfold D4
 cases ha:kK n p with
 | none=>exact .inl ⟨by simp,rfl⟩
 | some k =>
   simp only
   by_cases hl:aZ k=true
   . rw [if_pos hl];exact .inl ⟨by simp,rfl⟩
   . rw [if_neg hl]
     by_cases hf:(g9 s k).1=0
     . rw [if_pos hf];exact .inl ⟨by simp,rfl⟩
     . rw [if_neg hf]
       right
       have hkw:=uK _ _ _ ha
       have hE:=CQ p n k hn ha
       obtain⟨h1,h2,h3⟩:=h_U (n:=n) (p:=p) hs (by omega) (by omega) hf
       have hpp:=k_y hn hr ha hf (g_U hs hf)
       have hless:=k_B hs ha hf
       have hx:iY (a_a s n k p)≠iY n:=by
        obtain⟨g1,g2,g3⟩:=hless
        show iY (gY n p _)≠iY n
        by_cases e3:(g9 s k).1=3
        . obtain ⟨w, -, -, -, -,h⟩:=g1 e3
          omega
        . by_cases e6:(g9 s k).1=6
          . have:=(g2 e6).2.2;omega
          . have:=g3 e3 e6;omega
       have hwt:(a_a s n k p).wt <= n.wt+xV (lX (bV s (dZ k)) (aQ k) p (g9 s k)):=m_r _ n _ h1 (by omega) hpp
       exact⟨k,rfl,by simpa using hl,hf,rfl,hpp,h3,h1,(show n.wt+xV (lX _ _ _ _) <= 1000000 by omega),CV hn ha (by simpa using hl) (m_a hs hE hf),hx,by omega,rfl⟩
theorem a_J {j:Nat} {q:List Int} {z:Int} {ol:List eK} (hj:j+1 <= 1048576) (hz:AJ z=false) (hq:bQ q=true):kY q (j7.full ⟨3, [((j+1:Nat):Int)], [],z,bZ,ol⟩)=
 match q with
 | []=>some []
 | c ::r=>if c=(j:Int)+1 then (match r with
     | []=>some [(j:Int)]
     | e::r2=>some ((j:Int)::(e+z)::r2)) else if (j:Int)+1 < c then some ((c - 1)::r) else some (c::r):=by
 rw [f_I (by simp only [xQ,hq,nJ,L6,hz,gV hj];rfl) (by simp) rfl]
 dsimp only [j7.full]
 rw [if_neg (show iJ [((j+1:Nat):Int)]≠0 by show ((j+1:Nat):Int)≠0;omega)]
 cases q with
 | nil=>rw [q8 (by simp)];simp
 | cons c r=>
   have s1:=uY ((j+1:Nat):Int) c r
   dsimp only
   by_cases h1:((j+1:Nat):Int)=c
   . subst h1
     rw [if_pos rfl]at s1
     cases r with
     | nil=>
       rw [if_pos rfl]at s1
       rw [s1,if_neg (by decide),if_pos (.inl rfl),if_pos (by omega)]
       show some (dV [((j+1:Nat):Int)] 0 (-1))=_
       rw [uZ,show ((j+1:Nat):Int)+ -1=(j:Int)by omega]
     | cons e r2=>
       rw [if_neg (by simp)]at s1
       rw [s1,if_pos rfl,if_pos (by omega)]
       show some (dV (dV (((j+1:Nat):Int)::e::r2) 1 z) 0 (-1))=_
       rw [d_L,uZ,show ((j+1:Nat):Int)+ -1=(j:Int)by omega]
   . rw [if_neg h1]at s1
     rw [if_neg (show ¬c=(j:Int)+1 by omega)]
     by_cases h2:((j+1:Nat):Int) < c
     . rw [if_pos h2]at s1
       rw [s1,if_neg (by decide),if_pos (.inr rfl),if_pos (by omega)]
       show some (dV (c::r) 0 (-1))=_
       rw [uZ, <- Int.sub_eq_add_neg]
     . rw [if_neg h2]at s1
       rw [s1,if_neg (by decide),if_neg (by decide),if_neg (by omega)]
theorem l_4 {k m:MT} {j:Nat} {z:Int} {ol:List eK} (hj:j+1 < k.kids.length) (hj2:j+1 <= 1048576) (hz:AJ z=false) (ha:∀x,k.kids[j]? =some x ->∀r,x.mk? r=false) (hb:∀x,k.kids[j+1]? =some x ->∀r,x.mk? r=false) (hm:∀r,m.mk? r=false) (hs:∀q,k.mk? q=true ->bQ q=true):
 i_L k (k.setKids ((k.kids.eraseIdx (j+1)).set j m)) (j7.full ⟨3, [((j+1:Nat):Int)], [],z,bZ,ol⟩):=by
 have hget:∀c:Nat,((k.kids.eraseIdx (j+1)).set j m)[c]? =if c=j then some m else if c < j then k.kids[c]? else k.kids[c+1]? :=by
  intro c
  rw [List.getElem?_set]
  split
  . rename_i h
    subst h
    rw [if_pos (by rw [List.length_eraseIdx];split <;> omega),if_pos rfl]
  . rename_i h
    rw [if_neg (Ne.symm h),List.getElem?_eraseIdx]
    split
    . rename_i h2;rw [if_pos (by omega)]
    . rename_i h2;rw [if_neg (by omega)]
 intro q'
 constructor
 . intro h
   cases q' with
   | nil=>
     have h2:k.mk? []=true:=by rw [MT.mk_nil]at h⊢;rwa [MT.mark_setKids]at h
     exact⟨[],h2,a_J hj2 hz (hs _ h2)⟩
   | cons c r=>
     obtain⟨i,rfl, -, -⟩:=MT.mk_cons_true h
     rw [fZ,MT.kids_setKids,hget]at h
     by_cases h1:i=j
     . rw [if_pos h1]at h
       simp only [hm r]at h
       cases h
     . rw [if_neg h1]at h
       by_cases h2:i < j
       . rw [if_pos h2]at h
         have h3:k.mk? ((i:Int)::r)=true:=by rw [fZ];exact h
         refine⟨_,h3, ?_⟩
         rw [a_J hj2 hz (hs _ h3)]
         simp only
         rw [if_neg (by omega),if_neg (by omega)]
       . rw [if_neg h2]at h
         have h3:k.mk? (((i+1:Nat):Int)::r)=true:=by rw [fZ];exact h
         refine⟨_,h3, ?_⟩
         rw [a_J hj2 hz (hs _ h3)]
         simp only
         rw [if_neg (by omega),if_pos (by omega),show (((i+1:Nat):Int) - 1)=(i:Int)by omega]
 . rintro ⟨q,h1,h2⟩
   rw [a_J hj2 hz (hs _ h1)]at h2
   cases q with
   | nil=>
     have:q'= []:=by simpa using h2.symm
     subst this
     rw [MT.mk_nil]at h1⊢
     rwa [MT.mark_setKids]
   | cons c r=>
     obtain⟨i,rfl,hi, -⟩:=MT.mk_cons_true h1
     rw [fZ]at h1
     simp only at h2
     split at h2
     . obtain rfl:i=j+1:=by omega
       cases hx:k.kids[j+1]? with
       | none=>rw [hx]at h1;cases h1
       | some x=>rw [hx]at h1;simp only [hb x hx r]at h1;cases h1
     . split at h2
       . obtain rfl:((i:Int) - 1)::r=q':=by simpa using h2
         rw [show ((i:Int) - 1)=((i - 1:Nat):Int)by omega,fZ,MT.kids_setKids,hget,if_neg (by omega),if_neg (by omega),show i - 1+1=i by omega]
         exact h1
       . obtain rfl:(i:Int)::r=q':=by simpa using h2
         by_cases hij:i=j
         . subst hij
           cases hx:k.kids[i]? with
           | none=>rw [hx]at h1;cases h1
           | some x=>rw [hx]at h1;simp only [ha x hx r]at h1;cases h1
         . rw [fZ,MT.kids_setKids,hget,if_neg hij,if_pos (by omega)]
           exact h1
theorem l_5 {k x:MT} {a b:List MT} (q:List Int):(k.setKids (a ++ x.markIt::b)).mk? q=true ↔ (k.setKids (a ++ x::b)).mk? q=true∨q= [(a.length:Int)]:=by
 cases q with
 | nil=>rw [MT.mk_nil,MT.mk_nil,MT.mark_setKids,MT.mark_setKids];simp
 | cons c r=>
   by_cases h0:0 <= c
   . obtain ⟨i,rfl⟩:∃i:Nat,c=i:=⟨c.toNat,by omega⟩
     rw [fZ,fZ,MT.kids_setKids,MT.kids_setKids]
     rcases Nat.lt_trichotomy i a.length with h | h | h
     . rw [List.getElem?_append_left h,List.getElem?_append_left h]
       have:¬ (i:Int)::r= [(a.length:Int)]:=fun e=>by injection e with e _;omega
       simp [this]
     . subst h
       rw [List.getElem?_append_right (a8),List.getElem?_append_right (a8),Nat.sub_self,List.getElem?_cons_zero,List.getElem?_cons_zero]
       simp only [MT.mk_markIt,List.cons.injEq,true_and]
     . rw [List.getElem?_append_right (by omega),List.getElem?_append_right (by omega),show i - a.length=(i - a.length - 1)+1 by omega,List.getElem?_cons_succ,List.getElem?_cons_succ]
       have:¬ (i:Int)::r= [(a.length:Int)]:=fun e=>by injection e with e _;omega
       simp [this]
   . have e:∀X:MT,X.mk? (c::r)=false:=fun X=>by unfold MT.mk?;rw [if_neg h0]
     rw [e,e]
     have:¬c::r= [(a.length:Int)]:=fun e=>by injection e with e _;omega
     simp [this]
theorem K9 (n:aK) (r:List Int):(AY false n).mk? r=false:=by
 cases r with
 | nil=>rfl
 | cons c r=>
   unfold MT.mk? AY
   split
   . simp [MT.kids]
   . rfl
theorem f_U (n:aK):AY true n=(AY false n).markIt:=rfl
theorem m_s {n:aK} (h:aZ n=false):(AY true n).Ok:= .mk (fun _=>h) (by simp)
theorem G2 {a b:List MT} (ha:∀x∈a,x.Ok) (hb:∀x∈b,x.Ok):∀x∈a ++ b,x.Ok:=fun x hx=>by
 rcases List.mem_append.1 hx with h | h
 . exact ha x h
 . exact hb x h
theorem b_O {x:MT} {b:List MT} (h:x.Ok) (hb:∀x∈b,x.Ok):∀y∈x::b,y.Ok:=fun y hy=>by
 rcases List.mem_cons.1 hy with rfl | hy
 . exact h
 . exact hb y hy
section
variable {T k : MT} {p : List Int} {L : List (List Int)} (hE : eQ T.bare = 0) (hr : aZ T.bare = false) (hw : T.bare.wt <= 1000000) (hL : D7 L T) (hok : T.Ok) (ha : T.at_ p = some k) (hl : aZ k.bare = false)
include ha in
theorem A4 (k0:MT) (h:k0.bare=k.bare) (M:List MT):(T.put p (k0.setKids M)).bare=gY T.bare p (setKids k.bare (M.map MT.bare)):=by
 rw [MT.bare_put p T k _ ha,MT.bare_setKids,h]
include ha hw in
theorem D2:k.bare.wt <= 1000000/\k.kids.length < 1000000/\∀q,k.mk? q=true ->bQ q=true:=by
 have h1:=uK p T.bare k.bare (by rw [MT.at_bare,ha];rfl)
 have h2:=K8 k.bare
 have h3:=fX (aQ k.bare)
 rw [MT.kids_bare,List.length_map]at h3
 rw [MT.kids_bare]at h2
 exact⟨by omega,by omega,fun q h=>MT.small h (by omega)⟩
include hE hr hw hL hok ha hl
theorem c_U {j:Nat} (hj:j < (aQ k.bare).length):D7 (mV T.bare L [j7.full ⟨2,p ++ [(j:Int)], [],0,(aQ k.bare)[j], []⟩]) (T.put p (k.markIt.setKids (k.kids.eraseIdx j))):=by
 have hat:kK T.bare p=some k.bare:=by rw [MT.at_bare,ha];rfl
 have hk:=MT.Ok.at_ p hok ha
 obtain⟨hkw,hkl,hs⟩:=D2 hw ha
 have hjk:j < k.kids.length:=by rw [MT.kids_bare,List.length_map]at hj;exact hj
 have happ:=b_K hE hr hat hl hj
 rw [show (aQ k.bare).eraseIdx j=(k.kids.eraseIdx j).map MT.bare by rw [I4,MT.kids_bare], <- A4 ha k.markIt (MT.bare_markIt k)]at happ
 rw [lJ happ]
 show D7 (E6 _ L _) _
 have hkO:(k.markIt.setKids (k.kids.eraseIdx j)).Ok:=(hk.markIt hl).setKids (fun x hx=>hk.kids x (List.mem_of_mem_eraseIdx hx))
 have h:=CZ (o:=j7.full ⟨2, [(j:Int)], [],0,(aQ k.bare)[j], []⟩) (ms:= [[]]) hL ha hok (by omega) (by simp only [nJ,gV (show j <= 1048576 by omega)];rfl) rfl e_s (by simp) (by simp) (by simp) (k_D (by omega) hs) hkO
  (fun b h=>by rw [<- MT.markIt_setKids,MT.mk_markIt]at h;simpa using h) (fun b h=>by rw [<- MT.markIt_setKids,MT.mk_markIt];exact .inl h)
  (fun b hb _=>by rw [<- MT.markIt_setKids,MT.mk_markIt];exact .inr (by simpa using hb)) (fun q _=>i_S _ _ p j q)
 exact h
theorem c_V {j:Nat} {x:MT} (hj:j <= k.kids.length) (hx:eQ x.bare=0) (hxk:x.kids= []) (hxn:∀r,x.mk? r=false) (y:MT) (hy:y=x/\aZ x.bare=true∨y=x.markIt/\aZ x.bare=false):D7 (mV T.bare L [j7.full ⟨1,p ++ [(j:Int)], [],0,x.bare, []⟩]) (T.put p (k.markIt.setKids (I5 k.kids j y))):=by
 have hat:kK T.bare p=some k.bare:=by rw [MT.at_bare,ha];rfl
 have hk:=MT.Ok.at_ p hok ha
 obtain⟨hkw,hkl,hs⟩:=D2 hw ha
 have hyb:y.bare=x.bare:=by
  rcases hy with⟨h, -⟩ | ⟨h, -⟩
  . rw [h]
  . rw [h,MT.bare_markIt]
 have hyk:y.kids= []:=by
  rcases hy with⟨h, -⟩ | ⟨h, -⟩
  . rw [h,hxk]
  . rw [h,MT.kids_markIt,hxk]
 have hxO:x.Ok:=by
  cases x with
  | mk m l ps t ks=>
    simp only [MT.kids]at hxk
    subst hxk
    exact .mk (fun hm=>by have:=hxn [];rw [MT.mk_nil]at this;simp only [MT.mark]at this;rw [this]at hm;cases hm) (by simp)
 have hyO:y.Ok:=by
  rcases hy with⟨h, -⟩ | ⟨h,hl⟩
  . rw [h];exact hxO
  . rw [h];exact hxO.markIt hl
 have happ:=b_J hE hr hat hl (m:=x.bare) hx (i:=j) (by rw [MT.kids_bare,List.length_map];exact hj)
 rw [show xZ (aQ k.bare) j x.bare=(I5 k.kids j y).map MT.bare by unfold xZ I5;rw [List.map_append,List.map_cons,List.map_take,List.map_drop,MT.kids_bare,hyb], <- A4 ha k.markIt (MT.bare_markIt k)]at happ
 rw [lJ happ]
 show D7 (E6 _ L _) _
 have hkO:(k.markIt.setKids (I5 k.kids j y)).Ok:=(hk.markIt hl).setKids (by
  unfold I5
  exact G2 (fun x hx=>hk.kids x (List.mem_of_mem_take hx)) (b_O hyO fun x hx=>hk.kids x (List.mem_of_mem_drop hx)))
 have hkid:∀q,(k.setKids (I5 k.kids j x.markIt)).mk? q=true ↔ (k.setKids (I5 k.kids j x)).mk? q=true∨q= [(j:Int)]:=fun q=>by
  have h:=l_5 (k:=k) (x:=x) (a:=k.kids.take j) (b:=k.kids.drop j) q
  rwa [show (k.kids.take j).length=j by simp;omega]at h
 have hget:(I5 k.kids j y)[j]? =some y:=by rw [K4 hj,if_neg (by omega),if_pos rfl]
 have hput:=MT.at_put p T k (k.markIt.setKids (I5 k.kids j y)) ha
 have h :=CZ (o:=j7.full ⟨1, [(j:Int)], [],0,x.bare, []⟩) (ms:= [[], [(j:Int)]]) hL ha hok (by omega) (by simp only [nJ,gV (show j <= 1048576 by omega)];rfl) rfl e_s (by simp) (by simp) (by simp) (k_E (by omega) hj hxn hs) hkO
  (fun b h=>by
    rw [<- MT.markIt_setKids,MT.mk_markIt]at h
    rcases h with h | h
    . rcases hy with⟨e, -⟩ | ⟨e, -⟩
      . rw [e]at h;exact .inl h
      . rw [e,hkid]at h
        rcases h with h | h
        . exact .inl h
        . exact .inr (by simp [h])
    . exact .inr (by simp [h]))
  (fun b h=>by
    rw [<- MT.markIt_setKids,MT.mk_markIt]
    rcases hy with⟨e, -⟩ | ⟨e, -⟩
    . rw [e];exact .inl h
    . rw [e,hkid];exact .inl (.inl h))
  (fun b hb he=>by
    rw [<- MT.markIt_setKids,MT.mk_markIt]
    rcases List.mem_cons.1 hb with rfl | hb
    . exact .inr rfl
    . obtain rfl:=List.mem_singleton.1 hb
      rcases hy with⟨e,hlx⟩ | ⟨e, -⟩
      . exfalso
        unfold jV at he
        rw [MT.at_bare,MT.at_step,if_pos (by omega),MT.kids_setKids,Int.toNat_natCast,hget]at he
        simp only [MT.at_,Option.map,hyb,hlx]at he
        cases he
      . rw [e,hkid];exact .inl (.inr rfl))
  (i_R hput fun z hz=>by rw [MT.kids_setKids,hget]at hz;cases hz;exact hyk)
 exact h
theorem l_6 {j:Nat} (hj:j+1 < (aQ k.bare).length) (h1:aZ (aQ k.bare)[j]=true) (h2:aZ (aQ k.bare)[j+1]=true) (hT:∀q∈aQ k.bare,aZ q=true ->aQ q= []):
 D7 (mV T.bare L [j7.full ⟨3,p ++ [((j+1:Nat):Int)], [],(gJ (aQ k.bare)[j]).length,bZ,cV (aQ k.bare)[j+1]⟩]) (T.put p (k.markIt.setKids ((k.kids.eraseIdx (j+1)).set j (G0 (rJ k.kids j) (rJ k.kids (j+1)))))):=by
 have hat:kK T.bare p=some k.bare:=by rw [MT.at_bare,ha];rfl
 have hk:=MT.Ok.at_ p hok ha
 obtain⟨hkw,hkl,hs⟩:=D2 hw ha
 have hjk:j+1 < k.kids.length:=by rw [MT.kids_bare,List.length_map]at hj;exact hj
 have e1:(aQ k.bare)[j]=(k.kids[j]'(by omega)).bare:=by simp only [MT.kids_bare,List.getElem_map]
 have e2:(aQ k.bare)[j+1]=(k.kids[j+1]'(by omega)).bare:=by simp only [MT.kids_bare,List.getElem_map]
 have m1:rJ k.kids j=k.kids[j]'(by omega):=by simp [rJ,List.getD,List.getElem?_eq_getElem (show j < k.kids.length by omega)]
 have m2:rJ k.kids (j+1)=k.kids[j+1]'(by omega):=by simp [rJ,List.getD,List.getElem?_eq_getElem hjk]
 have hbl:((gJ (aQ k.bare)[j]).length:Nat) <= 1000000:=by
  have g1:=iK (List.getElem_mem (show j < (aQ k.bare).length by omega))
  have g2:=K8 k.bare
  generalize (aQ k.bare)[j]=x at g1⊢
  obtain⟨l,ps,t,ks⟩:=x
  simp only [aK.wt]at g1
  simp only [gJ];omega
 have hn1:∀x∈k.kids,aZ x.bare=true ->x.kids= []/\∀r,x.mk? r=false:=fun x hx hlx=>by
  have hxk:x.kids= []:=by
   have h:=hT x.bare (by rw [MT.kids_bare];exact List.mem_map_of_mem hx) hlx
   rw [MT.kids_bare]at h
   exact List.map_eq_nil_iff.1 h
  refine⟨hxk,fun r=> ?_⟩
  cases r with
  | nil=>
    cases hm:x.mark with
    | false=>rw [MT.mk_nil,hm]
    | true=>have:=(hk.kids x hx).leaf hm;rw [hlx]at this;cases this
  | cons c r=>
    cases hm:x.mk? (c::r)with
    | false=>rfl
    | true=>
      obtain⟨i, -,hi, -⟩:=MT.mk_cons_true hm
      rw [hxk]at hi;simp at hi
 rw [e1]at h1
 rw [e2]at h2
 obtain⟨ka,na⟩:=hn1 _ (List.getElem_mem (show j < k.kids.length by omega)) h1
 obtain⟨kb,nb⟩:=hn1 _ (List.getElem_mem hjk) h2
 have hjn:∀r,(G0 (rJ k.kids j) (rJ k.kids (j+1))).mk? r=false:=by
  rw [m1,m2]
  generalize (k.kids[j]'(by omega))=x at ka na
  generalize (k.kids[j+1]'(by omega))=y at kb nb
  obtain⟨m,l,ps,t,ks⟩:=x
  obtain⟨m',l',ps',t',ks'⟩:=y
  simp only [MT.kids]at ka kb
  subst ka;subst kb
  intro r
  cases r with
  | nil=>have:=na [];exact this
  | cons c r=>
    unfold G0 MT.mk?
    split
    . simp [MT.kids]
    . rfl
 have hjO:(G0 (rJ k.kids j) (rJ k.kids (j+1))).Ok:=by
  have g1:=hk.kids _ (List.getElem_mem (show j < k.kids.length by omega))
  have g2:=hk.kids _ (List.getElem_mem hjk)
  rw [m1,m2]
  generalize (k.kids[j]'(by omega))=x at g1
  generalize (k.kids[j+1]'(by omega))=y at g2
  obtain⟨m,l,ps,t,ks⟩:=x
  obtain⟨m',l',ps',t',ks'⟩:=y
  cases g1;cases g2
  rename_i a1 a2 b1 b2
  exact .mk a1 (G2 a2 b2)
 have happ:=h_G hE hr hat hl hj (by rw [e1];exact h1) (by rw [e2];exact h2)
 rw [show ((aQ k.bare).eraseIdx (j+1)).set j (pQ (aQ k.bare)[j] (aQ k.bare)[j+1])=((k.kids.eraseIdx (j+1)).set j (G0 (rJ k.kids j) (rJ k.kids (j+1)))).map MT.bare by
  rw [List.map_set,I4,d_K,m1,m2,e1,e2,MT.kids_bare], <- A4 ha k.markIt (MT.bare_markIt k)]at happ
 rw [lJ happ]
 show D7 (E6 _ L _) _
 have hkO:(k.markIt.setKids ((k.kids.eraseIdx (j+1)).set j (G0 (rJ k.kids j) (rJ k.kids (j+1))))).Ok:=(hk.markIt hl).setKids (fun x hx=>by
  rcases List.mem_or_eq_of_mem_set hx with hx | rfl
  . exact hk.kids x (List.mem_of_mem_eraseIdx hx)
  . exact hjO)
 have hput:=MT.at_put p T k (k.markIt.setKids ((k.kids.eraseIdx (j+1)).set j (G0 (rJ k.kids j) (rJ k.kids (j+1))))) ha
 have hlj:aZ (G0 (rJ k.kids j) (rJ k.kids (j+1))).bare=true:=by
  rw [d_K,m1,m2]
  generalize (k.kids[j]'(by omega)).bare=x at h1
  generalize (k.kids[j+1]'(by omega)).bare=y
  cases x;cases y;exact h1
 have h:=CZ (o:=j7.full ⟨3, [((j+1:Nat):Int)], [],(gJ (aQ k.bare)[j]).length,bZ,cV (aQ k.bare)[j+1]⟩) (ms:= [[], [(j:Int)]]) hL ha hok (by omega) (by simp only [nJ,gV (show j+1 <= 1048576 by omega)];rfl) rfl (gV (by omega)) (by simp) (by simp)
  (fun _=>by show ((j+1:Nat):Int)≠0;omega) (l_4 hjk (by omega) (gV (by omega)) (fun x hx=>(hn1 x (List.mem_of_getElem? hx) (by rw [List.getElem?_eq_getElem (by omega)]at hx;cases hx;exact h1)).2) (fun x hx=>(hn1 x (List.mem_of_getElem? hx) (by rw [List.getElem?_eq_getElem hjk]at hx;cases hx;exact h2)).2) hjn hs) hkO
  (fun b h=>by rw [<- MT.markIt_setKids,MT.mk_markIt]at h;exact h.imp id fun e=>by simp [e]) (fun b h=>by rw [<- MT.markIt_setKids,MT.mk_markIt];exact .inl h)
  (fun b hb he=>by
    rw [<- MT.markIt_setKids,MT.mk_markIt]
    rcases List.mem_cons.1 hb with rfl | hb
    . exact .inr rfl
    . obtain rfl:=List.mem_singleton.1 hb
      exfalso
      unfold jV at he
      rw [MT.at_bare,MT.at_step,if_pos (by omega),MT.kids_setKids,Int.toNat_natCast,List.getElem?_set_self (by rw [List.length_eraseIdx];split <;> omega)]at he
      simp only [MT.at_,Option.map,hlj]at he
      cases he) (fun q _=>i_T _ p j _ _ q)
 exact h
end
end Go.Proofs.YtmadpclcmjahoaaGreatDoor

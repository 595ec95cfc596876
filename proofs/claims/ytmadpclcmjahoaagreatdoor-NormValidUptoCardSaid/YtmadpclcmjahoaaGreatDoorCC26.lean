/- Parts of the proof: CC26. -/
import Derived.Test.YtmadpclcmjahoaaGreatDoorCC25
import Derived.Test.YtmadpclcmjahoaaGreatDoorCC22
set_option linter.unusedVariables false
set_option linter.unusedSimpArgs false
set_option maxHeartbeats 8000000
set_option maxRecDepth 100000
namespace Go.Proofs.YtmadpclcmjahoaaGreatDoor
open Go.RowKit Go.Redl
theorem i_H {α :Type} [DecidableEq α]:∀ (a l:List α),a.Nodup ->(∀x∈a,x∈l) ->l.length <= a.length ->a.Perm l
 | [],l,_,_,hl=>by
   obtain rfl:l= []:=O2 ZX;exact List.Perm.refl _
 | x::a,l,h,hs,hl=>by
   have hx:x∈l:=hs x P6;have hn:=List.nodup_cons.1 h;have h1:=List.length_erase_of_mem hx;have h2:=List.length_pos_of_mem hx;have h3:=i_H a (l.erase x) hn.2 (fun y hy=>(List.mem_erase_of_ne (show y≠x from fun e=>hn.1 (by rw [<- e];exact hy))).2 (hs y t_t)) (by simp only [O7]at hl;omega);exact(h3.cons x).trans (List.perm_cons_erase hx).symm
abbrev h_f:List Int:= [1,2,3,4,5,6]
theorem q_X {l:List Int} (h:l.Perm h_f):h_9 l=h_f:=by
 have tr:∀a b c:Int,decide (a <= b)=true ->decide (b <= c)=true ->decide (a <= c)=true:=fun a b c h1 h2=>by simp only [decide_eq_true_eq]at *;omega
 have tot:∀a b:Int,(decide (a <= b) || decide (b <= a))=true:=fun a b=>by simp only [Bool.or_eq_true,decide_eq_true_eq];omega
 refine List.Perm.eq_of_pairwise (le:=fun a b=>decide (a <= b)=true) (fun a b _ _ h1 h2=> ?_) (List.pairwise_mergeSort tr tot l) P9 ((List.mergeSort_perm l _).trans h);simp only [decide_eq_true_eq]at h1 h2;omega
theorem m_N {s:b5} (h6:s.order.length=6):decide (h_9 s.order=h_f)=a_k s:=by
 by_cases h:h_9 s.order=h_f
 . rw [decide_eq_true h]
   have hp:s.order.Perm h_f:=by rw [<- h];exact(List.mergeSort_perm _ _).symm
   symm
   unfold a_k;rw [List.all_eq_true];intro c hc;rw [decide_eq_true_eq,(hp.filter _).length_eq];revert c
   decide
 rw [O3 h]
 symm
 cases ho:a_k s with
 | false=>rfl
 | true=>
   exfalso
   apply h
   apply q_X
   unfold a_k at ho;rw [List.all_eq_true]at ho;refine(i_H h_f s.order P9 (fun c hc=> ?_) (by rw [h6];decide)).symm;have h1:=ho c hc;rw [decide_eq_true_eq]at h1;have h2:0 < (s.order.filter (fun x=>decide (x=c))).length:=P2
   obtain⟨y,hy⟩:=List.exists_mem_of_length_pos h2;have h3:=List.mem_filter.1 hy;have h4:y=c:=by simpa using h3.2
   rw [<- h4];exact h3.1
theorem s_9 (r:bK) (a:Option Addr) (c:Nat) (W:World) (hr:RowA W W 3 a r.kids.length c (fV r.kids)) (hw:r.wt <= 100000000):
 Calls Tryz.prog 44 #[.agg #[aZ r.type,r.text.1,aZ r.text.2,r.other.1,aZ r.other.2,(a,r.kids.length,c),r.fill,aZ r.fillT]] W fun e w'=>e= .returned (!oJ r)/\Below W W w':=by
 obtain⟨w0,b⟩:∃w0,w0=W.alloc (Obj.cells #[aZ r.type,r.text.1,aZ r.text.2,r.other.1,aZ r.other.2,(a,r.kids.length,c),r.fill,aZ r.fillT] 27):=⟨_,rfl⟩;have d:Below W W w0:=t_L
 have hA:At w0 W [aZ r.type,r.text.1,aZ r.text.2,r.other.1,aZ r.other.2,(a,r.kids.length,c),r.fill,aZ r.fillT] 27:=by rw [b];exact At.fresh W _ _
 have g:=E1 (P:=Tryz.prog) hA Tryz.underlying27 rfl P3
 simp [go_sem]at g
 have HC:=a6 (p_6 r a c w0 (hr.keep d d.size) hw);have h:=a6 b;have i:=a6 d
 obtain⟨F,hF⟩:∃F,F=oJ r:=⟨_,rfl⟩;rw [<- hF]at HC⊢;have xl:=hA.lt
 clear b d hA hr hw hF;go_enter Tryz.func44,Tryz.ntmps44;go_upto_region 1 with fail;rw [<- h.o];clear h;go_wp2_with fail;refine HC.o.mono ?_;rintro e w1 ⟨rfl,f⟩;have j:=a6 (i.o.trans (f.mono i.o.size))
 clear f HC g;go_wp2_with fail;go_ret;exact⟨rfl,j.o⟩
theorem s_a (rs:List bK):decide (0 <= uZ (fun k=>match rs[k]? with | some r=> !oJ r | none=>false) rs.length)= !rs.all oJ:=by
 rcases jV (fun k=>match rs[k]? with | some r=> !oJ r | none=>false) rs.length with⟨k,hk,h1, -,he⟩ | ⟨h1,he⟩
 . rw [he]
   simp only [NV hk]at h1;have:rs.all oJ=false:=by
    rw [List.all_eq_false];exact⟨rs[k],NY hk,by simpa using h1⟩
   rw [this];simp
 rw [he];have:rs.all oJ=true:=by
  rw [List.all_eq_true];intro r hr;obtain⟨k,hk,rfl⟩:=List.mem_iff_getElem.1 hr;have:=h1 k hk;simp only [NV hk]at this;simpa using this
 rw [this];rfl
theorem p_8 (rs:List bK) (a:Option Addr) (c:Nat) (css:List Value) (B:Nat) (W:World) (hr:RowA W W 8 a rs.length c css) (hc:i9 W B rs css) (hB:B <= W.heap.size) (hn:rs.length <= 100000000) (hw:∀r∈rs,r.wt <= 100000000):
 Calls Tryz.prog 42 #[(a,rs.length,c), .func (.func 44) #[] #[]] W fun e w'=>e= .returned (!rs.all oJ)/\Below W W w':=by
 have HI:=a6 (h_r rs.length a c 44 #[] (fun k=>match rs[k]? with | some r=> !oJ r | none=>false) W hn P5 fun k W' hk hb=>by
  obtain⟨b,off,ra,rc,ha, -,f,g0,g1,g2,g3,g4,g5,g6,g7⟩:=h_d (hr.keep hb hb.size) (i9.keep (hb.mono hB) (a8) hc) k hk;refine⟨b,off,_,_,_,_,_,_,_,_,ha,g0,g1,g2,g3,g4,g5,g6,g7, ?_⟩;simp only [NV hk];exact s_9 rs[k] ra rc W' (f.keep (a7) (aJ hB hb.size)) (hw _ (NY hk)))
 have Hd:=a6 (s_a rs);generalize uZ (fun k=>match rs[k]? with | some r=> !oJ r | none=>false) rs.length=z at HI Hd;clear hr hc hw;go_enter Tryz.func42,Tryz.ntmps42;go_wp2_with fail;refine HI.o.mono ?_;rintro e w1 ⟨rfl,d⟩;have Hb:=a6 d
 clear d HI;go_wp2_with fail;go_ret;exact⟨bJ Hd.o,Hb.o⟩
def i_I (s:b5):Bool:=a_k s && (decide (1 <= s.cap) && decide (s.cap <= 1048576))
def h_g (s:b5):Bool:=decide (s.els.type= []) && (EQ (s.rules.map (·.type)) && (rJ s).all oJ)
abbrev i_J (s:b5) (r:bK):Bool:=BX s r && decide (0 <= mQ s r)
theorem i_K (s:b5) (v:Value) (W:World) (hw:s.wt <= 100000000) (hv:SchemaV W W s v):
 Calls Tryz.prog 10 #[v] W fun e w'=>e= .returned (eJ s)/\Below W W w':=by
 have Hv:=a6 (fun(w':World) (hb:Below W W w')=>hv.keep hb hb.size);have k2:=a6 (fun(w':World) (hb:Below W W w')=>hv.keep hb (a8));obtain⟨sa,sc,css,ea,ec,o0,o1,o2,o3,o4,o5,rfl,h1,h2,h3,h4⟩:=hv.open;have n:=a6 hw;have k3:s.rules.length <= 100000000:=SK
 have q7:=a6 (fun(w':World) (hb:Below W W w')=>h1.keep hb hb.size);have q8:=a6 (fun(w':World) (hb:Below W W w')=>i9.keep hb hb.size h2);obtain⟨R,hR⟩:∃R,R=eJ s:=⟨_,rfl⟩;have HR:=a6 (show (if i_I s && h_g s && (rJ s).all (i_J s) then (0:Int) else 12)=R from hR.symm);have S:=a6 (show decide (h_9 [o0,o1,o2,o3,o4,o5]=h_f)=a_k s by rw [<- m_N (s:=s) (by rw [h4];rfl),h4]);rw [<- hR];obtain⟨w0,H1⟩:∃w0,w0=W.alloc (Obj.cells #[(sa,s.rules.length,sc),aZ s.els.type,s.els.text.1,aZ s.els.text.2,s.els.other.1,aZ s.els.other.2,(ea,s.els.kids.length,ec),s.els.fill,aZ s.els.fillT,o0,o1,o2,o3,o4,o5,s.cap] 30):=⟨_,rfl⟩;have H2:Below W W w0:=t_D
 have hA:At w0 W [(sa,s.rules.length,sc),aZ s.els.type,s.els.text.1,aZ s.els.text.2,s.els.other.1,aZ s.els.other.2,(ea,s.els.kids.length,ec),s.els.fill,aZ s.els.fillT,o0,o1,o2,o3,o4,o5,s.cap] 30:=by rw [H1];exact At.fresh W _ _
 have J8:=fun(w':World) (h:At w' W [(sa,s.rules.length,sc),aZ s.els.type,s.els.text.1,aZ s.els.text.2,s.els.other.1,aZ s.els.other.2,(ea,s.els.kids.length,ec),s.els.fill,aZ s.els.fillT,o0,o1,o2,o3,o4,o5,s.cap] 30)=>E1 (P:=Tryz.prog) h Tryz.underlying30 rfl P3
 simp [go_sem]at J8
 have U:=a6 J8;have HV:=a6 (p_0 (some (P0 W 9)) 6 6 w0);obtain⟨w1,H3⟩:∃w1,w1=w0.alloc (Obj.cells #[.slice (some (P0 W 9)) 6 6] 36):=⟨_,rfl⟩;have H4:Below w0 w0 w1:=by rw [H3];exact b7 _ _
 have hA1:At w1 W _ _:=hA.kept H4;have M:At w1 w0 [.slice (some (P0 W 9)) 6 6] 36:=by rw [H3];exact At.fresh w0 _ _
 have HS:=a6 (show Calls Tryz.prog 36 #[.func (.func 92) #[] #[.pointer w0]] w1 (fun e w'=>∃a c,e= .returned (.slice a 6 c)/\RowA w' w' 1 a 6 c ((h_9 [o0,o1,o2,o3,o4,o5]).map (Value.int .i64))/\Below w1 w1 w')from
  p_1 w0 W 9 6 [o0,o1,o2,o3,o4,o5] P6 w1 M.lt hA1.lt (M.cell 0 rfl) (fun j hj=>by
   have q9:j < 6:=hj
   match j,q9 with
   | 0,_=>exact hA1.cell 9 rfl
   | 1,_=>exact hA1.cell 10 rfl
   | 2,_=>exact hA1.cell 11 rfl
   | 3,_=>exact hA1.cell 12 rfl
   | 4,_=>exact hA1.cell 13 rfl
   | 5,_=>exact hA1.cell 14 rfl))
 have k4:=a6 H1;have k5:=a6 H3;have k6:=a6 H2;have HA:=a6 hA;have x3:=a6 (H2.trans (H4.mono H2.size));have k7:=a6 H4
 have x5:=fun(w:World)=>k_j
 have xl:=hA.lt;clear hv hw h1 h2 h3 h4 hR H1 H2 hA J8 H3 H4 hA1 M;go_enter Tryz.func10,Tryz.ntmps10;go_upto_region 1 with fail;rw [<- k4.o];clear k4;go_wp2_with fail;refine HV.o.mono ?_;rintro e wx ⟨rfl,rfl⟩;rw [<- k5.o];clear HV k5;go_wp2_with fail;refine HS.o.mono ?_;rintro e w2 ⟨oa,oc,rfl,m,f⟩;obtain⟨ys,J9⟩:∃ys,ys=h_9 [o0,o1,o2,o3,o4,o5]:=⟨_,rfl⟩;have j0:ys.length=6:=by rw [J9,List.length_mergeSort];rfl
 rw [<- J9]at m S;have j1:=k7.o.trans (f.mono k7.o.size)
 have j2:=a6 (HA.o.kept j1);have k8:=a6 (k6.o.trans (j1.mono k6.o.size));obtain⟨w3,H5⟩:∃w3,w3=w2.alloc (Obj.cells #[.int .i64 1, .int .i64 2, .int .i64 3, .int .i64 4, .int .i64 5, .int .i64 6] 3):=⟨_,rfl⟩;have j3:Below w2 w2 w3:=by rw [H5];exact b7 _ _
 have k9:At w3 w2 (h_f.map (Value.int .i64)) 3:=by rw [H5];exact At.fresh w2 _ _
 have hQ:=k_U oa w2 oc 6 (w2+1) ys h_f w3 ((by rw [j0];exact m.keep j3 (Nat.le_succ _))) (k_o k9 6 1 rfl P2 (fun u hu=>by obtain⟨x, -,rfl⟩:=OV hu;rfl));rw [j0,S.o]at hQ;have HQ:=a6 hQ
 have j4:=a6 H5;have Q0:=a6 j3
 obtain⟨E,hE⟩:∃E,E=a_k s:=⟨_,rfl⟩;have Hc:=a6 (show i_I s=(E && (decide (1 <= s.cap) && decide (s.cap <= 1048576)))by rw [hE];rfl);rw [<- hE]at HQ;clear f HS J9 j0 m S H5 j3 k9 hQ hE j1 HA;go_upto_region 2 with fail
 go_cut [24] (fun b wx=>b= .bool (!i_I s)/\Hid (Below w2 w2 wx))
 case first=>
  go_wp2_with fail;rw [<- j4.o];clear j4;refine HQ.o.mono ?_;rintro e w4 ⟨rfl,hd⟩;have j5:=Q0.o.trans ((hd.below w3).mono Q0.o.size)
  have x15:=(j2.o.kept j5).cell 15 (v:= .int .i64 s.cap) rfl;have H6:=a6 j5;clear hd j5 HQ;cases E with
  | false=>
    have Hz:=a6 (show i_I s=false from Hc.o);go_wp2_with fail
    go_meet
    case rel=>exact⟨by rw [Hz.o];rfl,H6⟩
  | true=>
    by_cases c1:s.cap < 1
    . have Hz:=a6 (show i_I s=false by rw [Hc.o,O3 (show ¬1 <= s.cap by omega)];rfl)
      go_wp2_with fail
      go_meet
      case rel=>exact⟨by rw [Hz.o];rfl,H6⟩
    by_cases c2:1048576 < s.cap
    . have Hz:=a6 (show i_I s=false by rw [Hc.o,O3 (show ¬s.cap <= 1048576 by omega)];simp)
      go_wp2_with fail
      go_meet
      case rel=>exact⟨by rw [Hz.o];rfl,H6⟩
    have Hz:=a6 (show i_I s=true by rw [Hc.o,decide_eq_true (show s.cap <= 1048576 by omega),decide_eq_true (show 1 <= s.cap by omega)];rfl);have c1b:=O3 c1;have c2b:=O3 c2;go_wp2_with fail
    go_meet
    case rel=>exact⟨by rw [Hz.o];first | rfl | (rw [c1b,c2b];rfl),H6⟩
 case rest =>
  obtain⟨w5,rfl⟩:∃z,z=wc:=⟨_,rfl⟩;obtain⟨rfl,B⟩:=hcut;have C:=a6 (k8.o.trans (B.o.mono k8.o.size));have N:=a6 (j2.o.kept B.o);obtain⟨A1,hA1⟩:∃A1,A1=i_I s:=⟨_,rfl⟩;rw [<- hA1]at HR⊢;clear hA1 HQ Hc B j2 j4;cases A1 with
  | false=>
    have Hz:=a6 (show (12:Int)=R from HR.o);go_wp2_with fail;go_ret;exact⟨dV Hz.o,C.o⟩
  | true =>
    have H7:=a6 (show (if h_g s && (rJ s).all (i_J s) then (0:Int) else 12)=R by have h:=HR.o;simpa using h);have x0:=N.o.cell 0 (v:= .slice sa s.rules.length sc) rfl;have x1:=N.o.cell 1 (v:=aZ s.els.type) rfl;have xl5:=N.o.lt;have HT:=a6 (o_Z s.rules sa sc css w5 (q7.o w5 C.o) (q8.o w5 C.o) k3);clear HR;go_upto_region 4 with fail
    go_cut [40] (fun b wx=>b= .bool (!h_g s)/\Hid (Below w5 w5 wx))
    case first=>
     have Hc:=a6 (show h_g s=(decide (s.els.type= []) && (EQ (s.rules.map (·.type)) && (rJ s).all oJ))from rfl);obtain⟨T,hT⟩:∃T,T=s.els.type:=⟨_,rfl⟩;rw [<- hT]at x1;cases T with
     | cons t0 ts=>
       have Hz:=a6 (show h_g s=false by rw [Hc.o, <- hT];rfl);clear hT;go_wp2_with fail
       go_meet
       case rel=>exact⟨by rw [Hz.o];rfl,(show Below _ _ _ from a7)⟩
     | nil=>
       have j6:=a6 (show h_g s=(EQ (s.rules.map (·.type)) && (rJ s).all oJ)by rw [Hc.o, <- hT];simp);clear hT Hc;go_wp2_with fail;refine HT.o.mono ?_;rintro e w6 ⟨rfl,Q1,f⟩;have h6:At w6 w5 ((s.rules.map (·.type)).map aZ) 9:=by have h:=Q1;unfold DK at h;rw [List.map_map];exact h
       have Q2:=n.o;have HQ:=a6 (g_e (s.rules.map (·.type)) s.rules.length _ w6 P6 h6 k3 (fun t ht=>by obtain⟨r,hr,rfl⟩:=OV ht;have h1:=E7 hr;unfold b5.wt at Q2;unfold bK.wt at h1;omega));have D:=a6 f;clear f Q1 h6 HT Q2;obtain⟨F,hF⟩:∃F,F=EQ (s.rules.map (·.type)):=⟨_,rfl⟩;rw [<- hF]at HQ j6;clear hF;go_wp2_with fail;refine HQ.o.mono ?_;rintro e w7 ⟨rfl,f⟩;have H8:=D.o.trans (f.mono D.o.size)
       have V:=a6 H8;have Q3:=U.o w7 (N.o.kept H8);have y:=C.o.trans (H8.mono C.o.size);have X:=a6 (c_b s _ W w7 n.o (k2.o w7 y) y.size);have Q4:=a6 y;clear f H8 HQ x0 x1 y;cases F with
       | false=>
         have Hz:=a6 (show h_g s=false from j6.o);go_wp2_with fail
         go_meet
         case rel=>exact⟨by rw [Hz.o];rfl,V⟩
       | true=>
         have Hz:=a6 (show h_g s=(rJ s).all oJ by rw [j6.o];rfl);go_wp2_with fail;refine X.o.mono ?_;rintro e w8 ⟨ra,rc,css2,rfl,m,A,f⟩;have H9:(rJ s).length <= 100000000:=YV
         have j7:=a6 (p_8 (rJ s) ra rc css2 W w8 m.row A (aJ Q4.o.size f.size) H9 (fun r hr=>aJ (d_I hr) n.o));have G:=a6 (V.o.trans (f.mono V.o.size));obtain⟨rs,O⟩:∃rs,rs=rJ s:=⟨_,rfl⟩;rw [<- O]at j7 Hz⊢;clear m A f X Q3 H9 O;go_wp2_with fail;refine j7.o.mono ?_;rintro e w9 ⟨rfl,f⟩;have o:=a6 (G.o.trans (f.mono G.o.size))
         clear f j7;go_wp2_with fail
         go_meet
         case rel=>exact⟨by rw [Hz.o],o⟩
    case rest =>
     obtain⟨w6,rfl⟩:∃z,z=wc:=⟨_,rfl⟩;obtain⟨rfl,B⟩:=hcut;have D:=a6 (C.o.trans (B.o.mono C.o.size));have h0:=a6 (N.o.kept B.o);obtain⟨B1,M⟩:∃B1,B1=h_g s:=⟨_,rfl⟩;rw [<- M]at H7⊢;clear M HT B N x0 x1 xl5;cases B1 with
     | false=>
       have Hz:=a6 (show (12:Int)=R from H7.o);go_wp2_with fail;go_ret;exact⟨dV Hz.o,D.o⟩
     | true =>
       have Q5:=a6 (show (if (rJ s).all (i_J s) then (0:Int) else 12)=R by have h:=H7.o;simpa using h);have Q6:=U.o w6 h0.o;have xl6:=h0.o.lt;have HN:=a6 (q_W s _ w6 n.o (Hv.o w6 D.o));obtain⟨i0,hi,Q7,Q8,Q9⟩:=info_parts c_M;clear H7;go_wp2_with fail;refine HN.o.mono ?_;rintro e w7 ⟨nv,out,rfl,Y,h7,hlen,f⟩;have X0:out.length <= 100000000:=aJ hlen n.o
       have q0:=a6 h7;have V:=a6 f;have j8:=f.size;clear h7 hlen f HN Q6;go_upto_region 7 with(at_builtin;refine wpList_append_own _ rfl _ _ 83 rfl w6.heap.size 9 i0 (.string ⟨#[]⟩) 1 16 Tryz.underlying83 hi Q7 Q8 Q9 rfl P9 _ _ _ rfl (Y.alloc _) w7 1 1 [aZ []] rfl rfl (cell_one_new _ _ _) YZ (by unfold maxLen at *;omega) P2 P8 ?_;intro nv2 w8 Z q1 j9;go_frame)
       have K0:Below w6 w6 w8:=(V.o.alloc j8 (Obj.cells #[aZ []] 9)).grown q1 (aJ j8 (b7 w7 _).size) (fun j hj=>(Y.lt j hj).1);obtain⟨l,hl⟩:∃l,l=out ++ [[]]:=⟨_,rfl⟩;obtain⟨na,nc,X1,q2⟩:∃na nc,nv2= .slice na l.length nc/\RowA w8 w8 1 na l.length nc (l.map aZ):=by
        have h:=Z;rw [show out.length+1=l.length by rw [hl];simp,show out.map aZ ++ [aZ []]=l.map aZ by rw [hl];simp]at h;exact eK h (fun u hu=>by obtain⟨t, -,rfl⟩:=OV hu;rfl)
       subst X1;have Hll:=a6 (show l.length <= 1000000000 by rw [hl];simp;omega)
       have X2:=a6 (fun(r:bK)=>show EX s r l=BX s r by rw [hl];exact k_m q0.o);have X3:=a6 q2;have G:=a6 (D.o.trans (K0.mono D.o.size));have K1:=a6 (h0.o.kept K0);have q3:=U.o w8 K1.o;have X:=a6 (c_b s _ W w8 n.o (k2.o w8 G.o) G.o.size);clear Y Z q1 j9 K0 hl q2 hi Q7 Q8 Q9 X0 j8 h0 xl6;have xl8:=K1.o.lt
       go_wp2_with fail;refine X.o.mono ?_;rintro e w9 ⟨ra,rc,css2,rfl,m,A,f⟩;have H9:(rJ s).length <= 100000000:=YV
       have o:=a6 (G.o.trans (f.mono G.o.size));have q4:=a6 (K1.o.kept f);have X4:=a6 (X3.o.keep f f.size);have h8:=a6 m.row;have h9:=a6 A
       obtain⟨rs,O⟩:∃rs,rs=rJ s:=⟨_,rfl⟩;have X5:=a6 O;rw [<- O]at h8 h9 H9 Q5⊢;clear m A f X q3 O xl8;go_wp2_with fail
       go_loopg [48] rs.length (fun g i wr=>∃k:Nat,i= .int .i64 k/\k+g=rs.length/\Hid ((if (rs.drop k).all (i_J s) then (0:Int) else 12)=R)/\Hid (Below w9 w9 wr))
       case atStart=>exact⟨0,rfl,by omega,Q5,(show Below _ _ _ from a7)⟩
       case round=>
        obtain⟨k,rfl,hg,h5,Q⟩:=hrel;have K2:=a6 (o.o.trans (Q.o.mono o.o.size))
        by_cases K3:k < rs.length
        . have x4:(k:Int) < rs.length:=P2
          obtain⟨b,off,qa,qc,rfl,X6,K4,p0,p1,p2,p3,p4,p5,p6,p7⟩:=h_d (h8.o.keep Q.o Q.o.size) (i9.keep (Q.o.mono o.o.size) (a8) h9.o) k K3;have K5:=a6 (show rs[k]∈rJ s by rw [<- X5.o];exact NY K3);have H:=a6 (show (if i_J s rs[k] && (rs.drop (k+1)).all (i_J s) then (0:Int) else 12)=R by
           have h:=h5.o;rw [NX K3,List.all_cons]at h;exact h)
          generalize rs[k]=q at K4 p0 p1 p2 p3 p4 p5 p6 p7 K5 H;obtain⟨w10,J⟩:∃w10,w10=wr.alloc (Obj.cells #[aZ q.type,q.text.1,aZ q.text.2,q.other.1,aZ q.other.2,(qa,q.kids.length,qc),q.fill,aZ q.fillT] 27):=⟨_,rfl⟩;have K:Below wr wr w10:=by rw [J];exact b7 _ _
          have hX:At w10 wr [aZ q.type,q.text.1,aZ q.text.2,q.other.1,aZ q.other.2,(qa,q.kids.length,qc),q.fill,aZ q.fillT] 27:=by rw [J];exact At.fresh wr _ _
          have K6:=fun(w':World) (h:At w' wr [aZ q.type,q.text.1,aZ q.text.2,q.other.1,aZ q.other.2,(qa,q.kids.length,qc),q.fill,aZ q.fillT] 27)=>E1 (P:=Tryz.prog) h Tryz.underlying27 rfl P3
          simp [go_sem]at K6
          have q5:=a6 K6;have p:=Q.o.trans (K.mono Q.o.size);have J0:=a6 (q4.o.kept p);have J1:=a6 hX;have J2:=a6 J;have J3:=a6 p;have y:=o.o.trans (p.mono o.o.size);have Q4:=a6 y;have X7:q.kids.length <= 100000000:=by have h1:=M0 q;have h2:=d_I K5.o;have h3:=n.o;omega
          have X8:=a6 (fun(w':World) (hb:Below wr wr w')=>K4.keep (hb.mono K2.o.size) (aJ K2.o.size hb.size));have hS:=m_M s _ q qa qc l na nc w10 n.o (Hv.o w10 y) (X8.o w10 K) X7 (X4.o.keep p p.size) Hll.o;rw [X2.o q]at hS;have HS:=a6 hS
          have K7:=U.o w10 J0.o;have K8:=q5.o w10 hX;have X9:=hX.lt;have J4:=a6 K;clear J K hX K6 p y K4 X6 h5 hS;go_upto_region 10 with fail
          rw [<- J2.o];clear J2 p0 p1 p2 p3 p4 p5 p6 p7;obtain⟨S1,K9⟩:∃S1,S1=BX s q:=⟨_,rfl⟩;have I:=a6 (show i_J s q=(S1 && decide (0 <= mQ s q))by rw [K9]);rw [<- K9]at HS;clear K9;go_wp2_with fail;refine HS.o.mono ?_;rintro e w11 ⟨rfl,f⟩;have L:=J3.o.trans (f.mono J3.o.size)
          have x6:=a6 (J4.o.trans (f.mono J4.o.size));have q6:=a6 (q4.o.kept L);have J5:=a6 (J1.o.kept f);have J6:=a6 L;have k0:=U.o w11 q6.o;have k1:=q5.o w11 J5.o;have H0:=a6 (o.o.trans (L.mono o.o.size));have x2:=J5.o.lt;clear f L HS K7 K8 J0 J1 X9;cases S1 with
          | false=>
            have Hz:=a6 (show (12:Int)=R by have h:=H.o;rw [I.o]at h;exact h);clear H I;go_wp2_with fail;go_ret;exact⟨dV Hz.o,H0.o⟩
          | true=>
            have HD:=a6 (l_i s _ q qa qc w11 n.o (Hv.o w11 H0.o) K5.o);obtain⟨d,hd⟩:∃d,d=mQ s q:=⟨_,rfl⟩;rw [<- hd]at HD I;clear hd;go_wp2_with fail;refine HD.o.mono ?_;rintro e w12 ⟨rfl,f⟩;have J7:=a6 (J6.o.trans (f.mono J6.o.size))
            clear f HD k0 k1;by_cases x7:d < 0
            . have Hz:=a6 (show (12:Int)=R by have h:=H.o;rw [I.o,O3 (show ¬0 <= d by omega)]at h;exact h)
              clear H I;go_wp2_with fail;go_ret;exact⟨dV Hz.o,o.o.trans (J7.o.mono o.o.size)⟩
            have HN:=a6 (show (if (rs.drop (k+1)).all (i_J s) then (0:Int) else 12)=R by have h:=H.o;rw [I.o,decide_eq_true (show 0 <= d by omega)]at h;simpa using h);clear H I;go_wp2_with fail
            go_roundg (rs.length - (k+1))
            case measure=>omega
            case rel=>exact⟨k+1,by go_num,by omega,HN,J7⟩
        obtain rfl:k=rs.length:=P2
        have Hz:=a6 (show (0:Int)=R by have h:=h5.o;rw [List.drop_length]at h;exact h);clear h5;go_wp2_with fail;go_ret;exact⟨dV Hz.o,K2.o⟩
theorem m_O (r:bK) (ks:List aX) (p:List Int) (f:vJ) (m:Nat) (h1:fY ks <= m) (h2:f.2.2 <= (m:Int)+1):(nX r ks p f).length <= m+2:=by
 have hk:(aY (cY ks f.2.1.toNat)).length <= m:=by
  have h3:(cY ks f.2.1.toNat).wt <= m+1:=by
   by_cases hi:f.2.1.toNat < ks.length
   . rw [A0 hi];have:=jJ (NY hi);omega
   rw [show cY ks f.2.1.toNat= .mk false [] [] []from by simp [cY,List.getD,List.getElem?_eq_none (show ks.length <= f.2.1.toNat by omega)]]
   simp [aX.wt,iQ,fY]
  generalize cY ks f.2.1.toNat=q at h3⊢;obtain⟨l,ps,t,ks'⟩:=q;have:=i7 ks';simp only [aX.wt,aY]at h3⊢;omega
 unfold nX;split
 . simp only [O7,List.length_nil];omega
 split
 . simp only [NZ,O6,List.length_range,O7,List.length_nil];omega
 split
 . simp only [O7,O6,List.length_range];omega
 split
 . simp only [O7,List.length_nil];omega
 simp only [O7,List.length_nil];omega
theorem c_d (t:List UInt8):(gX t).wt <= 7+t.length:=by
 unfold gX;by_cases h:t= []
 . simp [h,aX.wt,iQ,fY]
 rw [if_neg h];simp only [aX.wt,iQ,fY,List.length_nil];have:E8.length=4:=rfl
 omega
theorem a_s {t:List UInt8} (h:tV t=true):t.length <= 32:=by
 have:=(e_B h).2;unfold d_v at this;simp only [Bool.and_eq_true,decide_eq_true_eq]at this;exact this.1
theorem p_9 (ks:List aX) (i:Nat):(cY ks i).wt <= fY ks+1:=by
 by_cases hi:i < ks.length
 . rw [A0 hi];have:=jJ (NY hi);omega
 rw [show cY ks i= .mk false [] [] []from by simp [cY,List.getD,List.getElem?_eq_none (show ks.length <= i by omega)]]
 simp [aX.wt,iQ,fY]
theorem m_P (k:aX):(jY k).wt <= k.wt:=by
 cases k;simp only [jY,aX.wt,fY];omega
theorem i_L (k:aX):(dJ k).length <= k.wt:=by
 obtain⟨l,ps,t,ks⟩:=k;have:=E6 ps;simp only [dJ,aX.wt];omega
theorem L0 (k:aX):fY (aY k)+1 <= k.wt:=by
 cases k;simp only [aY,aX.wt];omega
theorem c_e (a b:List fZ):lK (a ++ b)=lK a+lK b:=by
 induction a with
 | nil=>simp [lK]
 | cons o l ih=>simp only [List.cons_append,lK,ih];omega
theorem MJ {l:List fZ} (h:∀o∈l,o.kind≠1):lK l=0:=by
 induction l with
 | nil=>rfl
 | cons o l ih=>
   simp only [lK];rw [if_neg (h o P6),ih (fun o ho=>h o (by simp [ho]))]
def m_Q (o:fZ):Prop:=IJ o.kind/\o.node.wt <= 1000000/\o.dest.length <= 1000000/\o.old.length <= 100000000
theorem q_Y {s:b5} {n k:aX} {p:List Int} (hs:eJ s=0) (hk:k.wt <= 900000) (hp:p.length <= 900000) (hf:(eV s k).1≠0):
 (∀o∈nX (cJ s (dZ k)) (aY k) p (eV s k),m_Q o)/\lK (nX (cJ s (dZ k)) (aY k) p (eV s k)) <= 100/\nX (cJ s (dZ k)) (aY k) p (eV s k)≠ []:=by
 have hF:=B3 (AZ hs _ (IQ s (dZ k))).1;have g:=L0 k;have hz:cV.wt=1:=rfl;rcases oV s k with h | ⟨c,j,hl,h1,h6,hj,he,d,h4,m⟩
 . rw [h]at hf;exact absurd rfl hf
 rw [he];generalize cJ s (dZ k)=r at hF hj⊢;have q:=p_9 (aY k) j;obtain rfl | rfl | rfl | rfl | rfl | rfl:c=1∨c=2∨c=3∨c=4∨c=5∨c=6:=P2
 . rw [zQ (.inl rfl)]
   refine⟨fun o ho=> ?_,by simp [lK],by simp⟩;rw [O9 ho];exact⟨.inr (.inl rfl),(show (cY (aY k) (((j:Nat):Int)).toNat).wt <= 1000000 by rw [O0];omega),by simp,by simp⟩
 . rw [a_9 rfl]
   refine⟨fun o ho=> ?_, ?_,by simp⟩
   . rcases OQ ho with ho | ho
     . obtain ⟨i, -,rfl⟩:=OV ho
       exact⟨.inr (.inr (.inr rfl)),(show cV.wt <= 1000000 by omega),(show (p ++ [_]).length <= 1000000 by simp;omega),by simp⟩
     rw [O9 ho];have:=m_P (cY (aY k) j);exact⟨.inr (.inl rfl),(show (jY (cY (aY k) (((j:Nat):Int)).toNat)).wt <= 1000000 by rw [O0];omega),by simp,by simp⟩
   rw [MJ]
   . omega
   intro o ho;rcases OQ ho with ho | ho
   . obtain ⟨i, -,rfl⟩:=OV ho
     simp
   rw [O9 ho];simp
 . have a:=d P2
   have e:=(c_1 a hj).1;have t:=a_s (b_Z (b_Y hF _) e);have u:=c_d (eQ r (aY k)[j]).2;rw [GQ rfl];simp only [O0];rw [kid_at a];refine⟨fun o ho=> ?_, ?_,by simp⟩
   . rcases OJ ho with rfl | ho
     . exact⟨.inl rfl,(show (gX _).wt <= 1000000 by omega),by simp,by simp⟩
     obtain⟨i, -,rfl⟩:=OV ho;exact⟨.inr (.inr (.inr rfl)),(show cV.wt <= 1000000 by omega),(show (p ++ [_,_]).length <= 1000000 by simp;omega),by simp⟩
   rw [lK,MJ (l:=List.map _ _)]
   . rw [if_pos rfl]
     show (gX _).wt+0 <= 100
     omega
   intro o ho;obtain⟨i, -,rfl⟩:=OV ho
   simp
 . rw [K8 rfl]
   have v:=i_L (cY (aY k) j);refine⟨fun o ho=> ?_,by simp [lK],by simp⟩;rw [O9 ho];exact⟨.inr (.inr (.inl rfl)),(show cV.wt <= 1000000 by omega),by simp,(show (dJ (cY (aY k) (((j:Nat):Int)).toNat)).length <= 100000000 by rw [O0];omega)⟩
 . rw [zQ (.inr rfl)]
   refine⟨fun o ho=> ?_,by simp [lK],by simp⟩;rw [O9 ho];exact⟨.inr (.inl rfl),(show (cY (aY k) (((j:Nat):Int)).toNat).wt <= 1000000 by rw [O0];omega),by simp,by simp⟩
 rw [a_a rfl];have hx:(if r.fill=1 then aX.mk true [] [] [] else gX r.fillT).wt <= 100:=by
  split
  . simp [aX.wt,iQ,fY]
  rename_i f
  have b:gV r (aY k) 6=j:=hj;rw [AY]at b;split at b
  . rename_i h
    have:=a_s (c_0 hF h.2 f).2;have:=c_d r.fillT
    omega
  omega
 generalize (if r.fill=1 then aX.mk true [] [] [] else gX r.fillT)=x at hx⊢;refine⟨fun o ho=> ?_, ?_,by simp⟩
 . rw [O9 ho]
   exact⟨.inl rfl,(show x.wt <= 1000000 by omega),by simp,by simp⟩
 simp only [lK,if_true];omega
theorem l_m:∀ (L:List fZ) (m Y:aX),(∀o∈L,m_Q o) ->m.wt+lK L <= 100000000 ->oZ m (L.map fZ.full)=some Y ->Y.wt <= m.wt+lK L:=by
 intro L;induction L with
 | nil=>intro m Y _ _ h;injection h with h;subst h;exact Nat.le_add_right _ _
 | cons o L ih=>
   intro m Y ho hw h;obtain⟨T,hT,h5⟩:=d_p h;have h6:=KQ (ho o P6).1 P2 hT;simp only [lK]at hw⊢;have h7:=ih T Y (fun o a=>ho o (by simp [a])) P2 h5
   omega
theorem c_f {j:Nat} {q:List Int} {z:Int} {ol:List fQ} (hj:j+1 <= 1048576) (hz:D3 z=false) (hq:bX q=true):nJ q (fZ.full ⟨3, [((j+1:Nat):Int)], [],z,cV,ol⟩)=
 match q with
 | []=>some []
 | c ::r=>if c=(j:Int)+1 then (match r with
     | []=>some [(j:Int)]
     | e::r2=>some ((j:Int)::(e+z)::r2)) else if (j:Int)+1 < c then some ((c - 1)::r) else some (c::r):=by
 rw [i_y (by simp only [C1,hq,rY,a_H,hz,iZ hj];rfl) P6 rfl]
 dsimp only [fZ.full]
 rw [if_neg (show jK [((j+1:Nat):Int)]≠0 by show ((j+1:Nat):Int)≠0;omega)]
 cases q with
 | nil=>rw [uV P6];simp
 | cons c r=>
   have s1:=AJ ((j+1:Nat):Int) c r
   dsimp only
   by_cases h1:((j+1:Nat):Int)=c
   . subst h1
     rw [if_pos rfl]at s1;cases r with
     | nil=>
       rw [if_pos rfl]at s1;rw [s1,if_neg P9,if_pos (.inl rfl),if_pos P2]
       show some (fJ [((j+1:Nat):Int)] 0 (-1))=_
       rw [AK,show ((j+1:Nat):Int)+ -1=(j:Int)by omega]
     | cons e r2=>
       rw [if_neg P6]at s1;rw [s1,if_pos rfl,if_pos P2]
       show some (fJ (fJ (((j+1:Nat):Int)::e::r2) 1 z) 0 (-1))=_
       rw [g_8,AK,show ((j+1:Nat):Int)+ -1=(j:Int)by omega]
   rw [if_neg h1]at s1;rw [if_neg (show ¬c=(j:Int)+1 by omega)]
   by_cases h2:((j+1:Nat):Int) < c
   . rw [if_pos h2]at s1
     rw [s1,if_neg P9,if_pos (.inr rfl),if_pos P2]
     show some (fJ (c::r) 0 (-1))=_
     rw [AK, <- Int.sub_eq_add_neg]
   rw [if_neg h2]at s1;rw [s1,if_neg P9,if_neg P9,if_neg P2]
theorem p_a {k m:MT} {j:Nat} {z:Int} {ol:List fQ} (hj:j+1 < k.kids.length) (b:j+1 <= 1048576) (hz:D3 z=false) (ha:∀x,k.kids[j]? =some x ->∀r,x.mk? r=false) (hb:∀x,k.kids[j+1]? =some x ->∀r,x.mk? r=false) (hm:∀r,m.mk? r=false) (hs:∀q,k.mk? q=true ->bX q=true):
 m_v k (k.setKids ((k.kids.eraseIdx (j+1)).set j m)) (fZ.full ⟨3, [((j+1:Nat):Int)], [],z,cV,ol⟩):=by
 have a:∀c:Nat,((k.kids.eraseIdx (j+1)).set j m)[c]? =if c=j then some m else if c < j then k.kids[c]? else k.kids[c+1]? :=by
  intro c;rw [List.getElem?_set];split
  . rename_i h
    subst h;rw [if_pos WY,if_pos rfl]
  rename_i h
  rw [if_neg (Ne.symm h),List.getElem?_eraseIdx];split
  . rename_i h2;rw [if_pos P2]
  rename_i h2;rw [if_neg P2]
 intro q';constructor
 . intro h
   cases q' with
   | nil=>
     have h2:k.mk? []=true:=S8
     exact⟨[],h2,c_f b hz (hs _ h2)⟩
   | cons c r=>
     obtain⟨i,rfl, -, -⟩:=MT.mk_cons_true h;rw [gZ,MT.kids_setKids,a]at h;by_cases h1:i=j
     . rw [if_pos h1]at h
       simp only [hm r]at h;cases h
     rw [if_neg h1]at h
     by_cases h2:i < j
     . rw [if_pos h2]at h
       have h3:k.mk? ((i:Int)::r)=true:=W7
       refine⟨_,h3, ?_⟩;rw [c_f b hz (hs _ h3)];simp only;rw [if_neg P2,if_neg P2]
     rw [if_neg h2]at h;have h3:k.mk? (((i+1:Nat):Int)::r)=true:=W7
     refine⟨_,h3, ?_⟩;rw [c_f b hz (hs _ h3)];simp only;rw [if_neg P2,if_pos P2,show (((i+1:Nat):Int) - 1)=(i:Int)by omega]
 rintro⟨q,h1,h2⟩;rw [c_f b hz (hs _ h1)]at h2;cases q with
 | nil=>
   have:q'= []:=WJ
   subst this;rw [MT.mk_nil]at h1⊢;rwa [MT.mark_setKids]
 | cons c r=>
   obtain⟨i,rfl,hi, -⟩:=MT.mk_cons_true h1;rw [gZ]at h1;simp only at h2;split at h2
   . obtain rfl:i=j+1:=P2
     cases hx:k.kids[j+1]? with
     | none=>rw [hx]at h1;cases h1
     | some x=>rw [hx]at h1;simp only [hb x hx r]at h1;cases h1
   split at h2
   . obtain rfl:((i:Int) - 1)::r=q':=R5
     rw [show ((i:Int) - 1)=((i - 1:Nat):Int)by omega,gZ,MT.kids_setKids,a,if_neg P2,if_neg P2,show i - 1+1=i by omega];exact h1
   obtain rfl:(i:Int)::r=q':=R5
   by_cases d:i=j
   . subst d
     cases hx:k.kids[i]? with
     | none=>rw [hx]at h1;cases h1
     | some x=>rw [hx]at h1;simp only [ha x hx r]at h1;cases h1
   rw [gZ,MT.kids_setKids,a,if_neg d,if_pos P2];exact h1
theorem p_b {k x:MT} {a b:List MT} (q:List Int):(k.setKids (a ++ x.markIt::b)).mk? q=true ↔ (k.setKids (a ++ x::b)).mk? q=true∨q= [(a.length:Int)]:=by
 cases q with
 | nil=>rw [MT.mk_nil,MT.mk_nil,MT.mark_setKids,MT.mark_setKids];simp
 | cons c r=>
   by_cases h0:0 <= c
   . obtain ⟨i,rfl⟩:∃i:Nat,c=i:=⟨c.toNat,by omega⟩
     rw [gZ,gZ,MT.kids_setKids,MT.kids_setKids];rcases Nat.lt_trichotomy i a.length with h | h | h
     . rw [List.getElem?_append_left h,List.getElem?_append_left h]
       have:¬ (i:Int)::r= [(a.length:Int)]:=fun e=>by injection e with e _;omega
       simp [this]
     . subst h
       rw [OX (a8),OX (a8),Nat.sub_self,List.getElem?_cons_zero,List.getElem?_cons_zero];simp only [MT.mk_markIt,List.cons.injEq,true_and]
     rw [OX P2,OX P2,show i - a.length=(i - a.length - 1)+1 by omega,List.getElem?_cons_succ,List.getElem?_cons_succ];have:¬ (i:Int)::r= [(a.length:Int)]:=fun e=>by injection e with e _;omega
     simp [this]
   have e:∀X:MT,X.mk? (c::r)=false:=fun X=>by unfold MT.mk?;rw [if_neg h0]
   rw [e,e];have:¬c::r= [(a.length:Int)]:=fun e=>by injection e with e _;omega
   simp [this]
theorem e_T (n:aX) (r:List Int):(EV false n).mk? r=false:=by
 cases r with
 | nil=>rfl
 | cons c r=>
   unfold MT.mk? EV;split
   . simp [MT.kids]
   rfl
theorem i_M (n:aX):EV true n=(EV false n).markIt:=rfl
theorem h_h {n:aX} (h:b8 n=false):(EV true n).Ok:= .mk (fun _=>h) P6
theorem l_n (n:aX):(EV false n).Ok:= .mk P6 P6
theorem yV {a b:List MT} (ha:∀x∈a,x.Ok) (hb:∀x∈b,x.Ok):∀x∈a ++ b,x.Ok:=fun x hx=>by
 rcases OQ hx with h | h
 . exact ha x h
 exact hb x h
theorem c_g {x:MT} {b:List MT} (h:x.Ok) (hb:∀x∈b,x.Ok):∀y∈x::b,y.Ok:=fun y hy=>by
 rcases OJ hy with rfl | hy
 . exact h
 exact hb y hy
section
variable {T k : MT} {p : List Int} {L : List (List Int)} (hE : dQ T.bare = 0) (hr : b8 T.bare = false) (hw : T.bare.wt <= 1000000) (hL : wV L T) (hok : T.Ok) (ha : T.at_ p = some k) (hl : b8 k.bare = false)
include ha in
theorem DQ (k0:MT) (h:k0.bare=k.bare) (M:List MT):(T.put p (k0.setKids M)).bare=jX T.bare p (setKids k.bare (M.map MT.bare)):=by
 rw [MT.bare_put p T k _ ha,MT.bare_setKids,h]
include ha hw in
theorem H7:k.bare.wt <= 1000000/\k.kids.length < 1000000/\∀q,k.mk? q=true ->bX q=true:=by
 have h1:=zJ p T.bare k.bare QK;have h2:=L0 k.bare;have h3:=i7 (aY k.bare);rw [MT.kids_bare,O6]at h3;rw [MT.kids_bare]at h2;exact⟨by omega,by omega,fun q h=>MT.small h P2⟩
include hE hr hw hL hok ha hl
theorem e_U {j:Nat} (hj:j < (aY k.bare).length):wV (mY T.bare L [fZ.full ⟨2,p ++ [(j:Int)], [],0,(aY k.bare)[j], []⟩]) (T.put p (k.markIt.setKids (k.kids.eraseIdx j))):=by
 have c:l9 T.bare p=some k.bare:=QK
 have hk:=MT.Ok.at_ p hok ha;obtain⟨e,f,hs⟩:=H7 hw ha;have g:j < k.kids.length:=by rw [MT.kids_bare,O6]at hj;exact hj
 have a:=d_F hE hr c hl hj;rw [show (aY k.bare).eraseIdx j=(k.kids.eraseIdx j).map MT.bare by rw [BZ,MT.kids_bare], <- DQ ha k.markIt (MT.bare_markIt k)]at a;rw [nQ a];show wV (IY _ L _) _;have d:(k.markIt.setKids (k.kids.eraseIdx j)).Ok:=(hk.markIt hl).setKids (fun x hx=>hk.kids x (List.mem_of_mem_eraseIdx hx));have h:=GZ (o:=fZ.full ⟨2, [(j:Int)], [],0,(aY k.bare)[j], []⟩) (ms:= [[]]) hL ha hok P2 t_e rfl h_3 P6 P6 P6 (o_O P2 hs) d
  (fun b h=>by rw [<- MT.markIt_setKids,MT.mk_markIt]at h;simpa using h) (fun b h=>by rw [<- MT.markIt_setKids,MT.mk_markIt];exact .inl h)
  (fun b hb _=>by rw [<- MT.markIt_setKids,MT.mk_markIt];exact .inr (by simpa using hb)) (fun q _=>m_C _ _ p j q)
 exact h
theorem e_V {j:Nat} {x:MT} (hj:j <= k.kids.length) (hx:dQ x.bare=0) (d:x.kids= []) (n:∀r,x.mk? r=false) (y:MT) (hy:y=x/\b8 x.bare=true∨y=x.markIt/\b8 x.bare=false):wV (mY T.bare L [fZ.full ⟨1,p ++ [(j:Int)], [],0,x.bare, []⟩]) (T.put p (k.markIt.setKids (M8 k.kids j y))):=by
 have w:l9 T.bare p=some k.bare:=QK
 have hk:=MT.Ok.at_ p hok ha;obtain⟨E,F,hs⟩:=H7 hw ha;have s:y.bare=x.bare:=by
  rcases hy with⟨h, -⟩ | ⟨h, -⟩
  . rw [h]
  rw [h,MT.bare_markIt]
 have A:y.kids= []:=by
  rcases hy with⟨h, -⟩ | ⟨h, -⟩
  . rw [h,d]
  rw [h,MT.kids_markIt,d]
 have u:x.Ok:=by
  cases x with
  | mk m l ps t ks=>
    simp only [MT.kids]at d;subst d;exact .mk (fun hm=>by have:=n [];rw [MT.mk_nil]at this;simp only [MT.mark]at this;rw [this]at hm;cases hm) P6
 have B:y.Ok:=by
  rcases hy with⟨h, -⟩ | ⟨h,hl⟩
  . rw [h];exact u
  rw [h];exact u.markIt hl
 have f:=d_E hE hr w hl (m:=x.bare) hx (i:=j) (by rw [MT.kids_bare,O6];exact hj);rw [show C6 (aY k.bare) j x.bare=(M8 k.kids j y).map MT.bare by unfold C6 M8;rw [List.map_append,List.map_cons,List.map_take,List.map_drop,MT.kids_bare,s], <- DQ ha k.markIt (MT.bare_markIt k)]at f;rw [nQ f];show wV (IY _ L _) _;have C:(k.markIt.setKids (M8 k.kids j y)).Ok:=(hk.markIt hl).setKids (by
  unfold M8;exact yV (fun x hx=>hk.kids x (List.mem_of_mem_take hx)) (c_g B fun x hx=>hk.kids x (List.mem_of_mem_drop hx)))
 have c:∀q,(k.setKids (M8 k.kids j x.markIt)).mk? q=true ↔ (k.setKids (M8 k.kids j x)).mk? q=true∨q= [(j:Int)]:=fun q=>by
  have h:=p_b (k:=k) (x:=x) (a:=k.kids.take j) (b:=k.kids.drop j) q
  rwa [show (k.kids.take j).length=j by simp;omega]at h
 have g:(M8 k.kids j y)[j]? =some y:=by rw [a_o hj,if_neg P2,if_pos rfl]
 have v:=MT.at_put p T k (k.markIt.setKids (M8 k.kids j y)) ha;have h:=GZ (o:=fZ.full ⟨1, [(j:Int)], [],0,x.bare, []⟩) (ms:= [[], [(j:Int)]]) hL ha hok P2 t_e rfl h_3 P6 P6 P6 (o_P P2 hj n hs) C
  (fun b h=>by
    rw [<- MT.markIt_setKids,MT.mk_markIt]at h;rcases h with h | h
    . rcases hy with⟨e, -⟩ | ⟨e, -⟩
      . rw [e]at h;exact .inl h
      rw [e,c]at h;rcases h with h | h
      . exact .inl h
      exact .inr t_I
    exact .inr t_I)
  (fun b h=>by
    rw [<- MT.markIt_setKids,MT.mk_markIt];rcases hy with⟨e, -⟩ | ⟨e, -⟩
    . rw [e];exact .inl h
    rw [e,c];exact .inl (.inl h))
  (fun b hb he=>by
    rw [<- MT.markIt_setKids,MT.mk_markIt];rcases OJ hb with rfl | hb
    . exact .inr rfl
    obtain rfl:=O9 hb;rcases hy with⟨e,D⟩ | ⟨e, -⟩
    . exfalso
      unfold dX at he;rw [MT.at_bare,MT.at_step,if_pos P2,MT.kids_setKids,O0,g]at he;simp only [MT.at_,Option.map,s,D]at he
      cases he
    rw [e,c];exact .inl (.inr rfl))
  (m_B v fun z hz=>by rw [MT.kids_setKids,g]at hz;cases hz;exact A)
 exact h
theorem p_c {j:Nat} (hj:j+1 < (aY k.bare).length) (h1:b8 (aY k.bare)[j]=true) (h2:b8 (aY k.bare)[j+1]=true) (hT:∀q∈aY k.bare,b8 q=true ->aY q= []):
 wV (mY T.bare L [fZ.full ⟨3,p ++ [((j+1:Nat):Int)], [],(iJ (aY k.bare)[j]).length,cV,dJ (aY k.bare)[j+1]⟩]) (T.put p (k.markIt.setKids ((k.kids.eraseIdx (j+1)).set j (KX (tY k.kids j) (tY k.kids (j+1)))))):=by
 have s:l9 T.bare p=some k.bare:=QK
 have hk:=MT.Ok.at_ p hok ha;obtain⟨B,C,hs⟩:=H7 hw ha;have a:j+1 < k.kids.length:=by rw [MT.kids_bare,O6]at hj;exact hj
 have e1:(aY k.bare)[j]=(k.kids[j]' P2).bare:=WX
 have e2:(aY k.bare)[j+1]=(k.kids[j+1]' P2).bare:=WX
 have m1:tY k.kids j=k.kids[j]' P2:=by simp [tY,List.getD,NV (show j < k.kids.length by omega)]
 have m2:tY k.kids (j+1)=k.kids[j+1]' P2:=by simp [tY,List.getD,NV a]
 have D:((iJ (aY k.bare)[j]).length:Nat) <= 1000000:=by
  have g1:=jJ (NY (show j < (aY k.bare).length by omega));have g2:=L0 k.bare;generalize (aY k.bare)[j]=x at g1⊢;obtain⟨l,ps,t,ks⟩:=x;simp only [aX.wt]at g1;simp only [iJ];omega
 have d:∀x∈k.kids,b8 x.bare=true ->x.kids= []/\∀r,x.mk? r=false:=fun x hx g=>by
  have n:x.kids= []:=by
   have h:=hT x.bare (by rw [MT.kids_bare];exact List.mem_map_of_mem hx) g;rw [MT.kids_bare]at h;exact List.map_eq_nil_iff.1 h
  refine⟨n,fun r=> ?_⟩
  cases r with
  | nil=>
    cases hm:x.mark with
    | false=>rw [MT.mk_nil,hm]
    | true=>have:=(hk.kids x hx).leaf hm;rw [g]at this;cases this
  | cons c r=>
    cases hm:x.mk? (c::r)with
    | false=>rfl
    | true=>
      obtain⟨i, -,hi, -⟩:=MT.mk_cons_true hm;rw [n]at hi;simp at hi
 rw [e1]at h1;rw [e2]at h2;obtain⟨ka,na⟩:=d _ (NY (show j < k.kids.length by omega)) h1;obtain⟨kb,nb⟩:=d _ (NY a) h2;have u:∀r,(KX (tY k.kids j) (tY k.kids (j+1))).mk? r=false:=by
  rw [m1,m2];generalize (k.kids[j]' P2)=x at ka na;generalize (k.kids[j+1]' P2)=y at kb nb;obtain⟨m,l,ps,t,ks⟩:=x;obtain⟨m',l',ps',t',ks'⟩:=y;simp only [MT.kids]at ka kb;subst ka;subst kb;intro r;cases r with
  | nil=>have:=na [];exact this
  | cons c r=>
    unfold KX MT.mk?;split
    . simp [MT.kids]
    rfl
 have v:(KX (tY k.kids j) (tY k.kids (j+1))).Ok:=by
  have g1:=hk.kids _ (NY (show j < k.kids.length by omega));have g2:=hk.kids _ (NY a);rw [m1,m2];generalize (k.kids[j]' P2)=x at g1;generalize (k.kids[j+1]' P2)=y at g2;obtain⟨m,l,ps,t,ks⟩:=x;obtain⟨m',l',ps',t',ks'⟩:=y
  cases g1;cases g2
  rename_i a1 a2 b1 b2
  exact .mk a1 (yV a2 b2)
 have f:=l_0 hE hr s hl hj (by rw [e1];exact h1) (by rw [e2];exact h2);rw [show ((aY k.bare).eraseIdx (j+1)).set j (u_4 (aY k.bare)[j] (aY k.bare)[j+1])=((k.kids.eraseIdx (j+1)).set j (KX (tY k.kids j) (tY k.kids (j+1)))).map MT.bare by
  rw [List.map_set,BZ,c_L,m1,m2,e1,e2,MT.kids_bare], <- DQ ha k.markIt (MT.bare_markIt k)]at f
 rw [nQ f];show wV (IY _ L _) _;have w:(k.markIt.setKids ((k.kids.eraseIdx (j+1)).set j (KX (tY k.kids j) (tY k.kids (j+1))))).Ok:=(hk.markIt hl).setKids (fun x hx=>by
  rcases List.mem_or_eq_of_mem_set hx with hx | rfl
  . exact hk.kids x (List.mem_of_mem_eraseIdx hx)
  exact v)
 have A:=MT.at_put p T k (k.markIt.setKids ((k.kids.eraseIdx (j+1)).set j (KX (tY k.kids j) (tY k.kids (j+1))))) ha;have z:b8 (KX (tY k.kids j) (tY k.kids (j+1))).bare=true:=by
  rw [c_L,m1,m2];generalize (k.kids[j]' P2).bare=x at h1;generalize (k.kids[j+1]' P2).bare=y
  cases x;cases y;exact h1
 have h:=GZ (o:=fZ.full ⟨3, [((j+1:Nat):Int)], [],(iJ (aY k.bare)[j]).length,cV,dJ (aY k.bare)[j+1]⟩) (ms:= [[], [(j:Int)]]) hL ha hok P2 (by simp only [rY,iZ (show j+1 <= 1048576 by omega)];rfl) rfl (iZ P2) P6 P6
  (fun _=>by show ((j+1:Nat):Int)≠0;omega) (p_a a P2 (iZ P2) (fun x hx=>(d x (List.mem_of_getElem? hx) (by rw [NV P2]at hx;cases hx;exact h1)).2) (fun x hx=>(d x (List.mem_of_getElem? hx) (by rw [NV a]at hx;cases hx;exact h2)).2) u hs) w
  (fun b h=>by rw [<- MT.markIt_setKids,MT.mk_markIt]at h;exact h.imp id fun e=>by simp [e]) (fun b h=>by rw [<- MT.markIt_setKids,MT.mk_markIt];exact .inl h)
  (fun b hb he=>by
    rw [<- MT.markIt_setKids,MT.mk_markIt];rcases OJ hb with rfl | hb
    . exact .inr rfl
    obtain rfl:=O9 hb
    exfalso
    unfold dX at he;rw [MT.at_bare,MT.at_step,if_pos P2,MT.kids_setKids,O0,List.getElem?_set_self WY]at he;simp only [MT.at_,Option.map,z]at he
    cases he) (fun q _=>m_D _ p j _ _ q)
 exact h
end
end Go.Proofs.YtmadpclcmjahoaaGreatDoor

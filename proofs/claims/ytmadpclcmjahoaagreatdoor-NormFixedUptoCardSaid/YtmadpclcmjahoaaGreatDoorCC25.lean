/- Parts of the proof: CC25. -/
import Derived.Test.YtmadpclcmjahoaaGreatDoorCC24
import Derived.Maps.RangeWalk
set_option linter.unusedVariables false
set_option linter.unusedSimpArgs false
set_option maxHeartbeats 8000000
set_option maxRecDepth 100000
namespace Go.Proofs.YtmadpclcmjahoaaGreatDoor
open Go.RowKit Go.Redl
theorem E1 {P:Program} {w:World} {N:Nat} {cs:List Value} {T:TypeId} {d:TypeDesc} (h:At w N cs T) (hu:P.underlying T=some d) (hd:d.isRow=true) (hi:(P.info? T).map (·.size)=some cs.length):(Instr.loadAt T (.pointer N)).run P w= .ok (.agg cs.toArray) w:=
 run_loadAt_mid w N 0 T cs d (fun j v hj=>by rw [O5];exact h.cell j hj) hu hd hi
theorem sX.s8 {w:World} {b n N:Nat} {acc:List (List UInt8)} (h:sX w b n acc) (c:b≠N) (d0 d1 d2 d3 d4 d5 d6 d7:Value):
 sX ((((((((w.setCell N d0).setCell (P0 N 1) d1).setCell (P0 N 2) d2).setCell (P0 N 3) d3).setCell (P0 N 4) d4).setCell (P0 N 5) d5).setCell (P0 N 6) d6).setCell (P0 N 7) d7) b n acc:=
 (((((((h.setCell (a:=N) c d0).setCell (a:=(P0 N 1)) c d1).setCell (a:=(P0 N 2)) c d2).setCell (a:=(P0 N 3)) c d3).setCell (a:=(P0 N 4)) c d4).setCell (a:=(P0 N 5)) c d5).setCell (a:=(P0 N 6)) c d6).setCell (a:=(P0 N 7)) c d7
theorem l_i (s:b5) (v:Value) (r:bK) (a:Option Addr) (c:Nat) (W:World) (hw:s.wt <= 100000000) (hv:SchemaV W W s v) (hr:r∈rJ s):
 Calls Tryz.prog 48 #[v, .agg #[aZ r.type,r.text.1,aZ r.text.2,r.other.1,aZ r.other.2,(a,r.kids.length,c),r.fill,aZ r.fillT]] W fun e w'=>e= .returned (mQ s r)/\Below W W w':=by
 have H9:s.rules.length <= 100000000:=SK
 have Hv:=a6 (fun(w':World) (hb:Below W W w')=>hv.keep hb hb.size);obtain⟨sa,sc,css,ea,ec,o0,o1,o2,o3,o4,o5,rfl, -, -, -, -⟩:=hv.open;obtain⟨R,hR⟩:∃R,R=mQ s r:=⟨_,rfl⟩;have HR:=a6 (show l8 s (s.rules.length+2) [] r 0=R from hR.symm);rw [<- hR];have Y:=a6 hr
 obtain⟨w0,m⟩:∃w0,w0=(W.alloc (Obj.cells #[(sa,s.rules.length,sc),aZ s.els.type,s.els.text.1,aZ s.els.text.2,s.els.other.1,aZ s.els.other.2,(ea,s.els.kids.length,ec),s.els.fill,aZ s.els.fillT,o0,o1,o2,o3,o4,o5,s.cap] 30)).alloc (Obj.cells #[aZ r.type,r.text.1,aZ r.text.2,r.other.1,aZ r.other.2,(a,r.kids.length,c),r.fill,aZ r.fillT] 27):=⟨_,rfl⟩;have y:Below W W w0:=t_z
 have hA:At w0 W [(sa,s.rules.length,sc),aZ s.els.type,s.els.text.1,aZ s.els.text.2,s.els.other.1,aZ s.els.other.2,(ea,s.els.kids.length,ec),s.els.fill,aZ s.els.fillT,o0,o1,o2,o3,o4,o5,s.cap] 30:=XZ
 have hX:At w0 (W+1) [aZ r.type,r.text.1,aZ r.text.2,r.other.1,aZ r.other.2,(a,r.kids.length,c),r.fill,aZ r.fillT] 27:=s_P
 have o:=fun(w':World) (h:At w' W [(sa,s.rules.length,sc),aZ s.els.type,s.els.text.1,aZ s.els.text.2,s.els.other.1,aZ s.els.other.2,(ea,s.els.kids.length,ec),s.els.fill,aZ s.els.fillT,o0,o1,o2,o3,o4,o5,s.cap] 30)=>E1 (P:=Tryz.prog) h Tryz.underlying30 rfl P3
 simp [go_sem]at o
 have Z:=a6 o;have H0:= @run_makeMap Tryz.prog;have D:=hX.lt;have E:=a6 m;have F:=a6 hw;obtain⟨M,hM⟩:∃M,M=w0.heap.size:=⟨_,rfl⟩;obtain⟨w1,l⟩:∃w1,w1=w0.alloc (.map #[] 0):=⟨_,rfl⟩;have H1:=a6 (show sX w1 M 0 ([]:List (List UInt8)).reverse by rw [l,hM];exact sX.fresh w0);have G:Below W W w1:=by rw [l];exact y.alloc y.size _
 have H2:=a6 (show At w1 W _ _ by rw [l];exact hA.alloc _);have H3:=a6 (show At w1 (W+1) _ _ by rw [l];exact hX.alloc _);have H4:=a6 G;have H:=a6 l;have HM:=a6 hM;have h3:W.heap.size+1 < M:=by rw [hM];exact D
 clear hv hw m y hA hX o hR hr hM l G D;go_enter Tryz.func48,Tryz.ntmps48;go_upto_region 1 with fail;rw [<- E.o];clear E;go_upto_region 2 with fail
 rw [<- H.o, <- HM.o];clear H HM H0;go_wp2_with fail
 go_loopg [6] (s.rules.length+2) (fun g i wr=>∃ (n:Nat) (met:List (List UInt8)) (q:bK) (qa:Option Addr) (qc:Nat),i= .int .i64 n/\met.length=n/\n+g=s.rules.length+2/\Hid (met.Nodup)/\Hid (∀x∈met,x∈ (rJ s).map (·.type))/\Hid (q∈rJ s)/\Hid (l8 s g met q n=R)/\
  Hid (At wr (W+1) [aZ q.type,q.text.1,aZ q.text.2,q.other.1,aZ q.other.2,(qa,q.kids.length,qc),q.fill,aZ q.fillT] 27)/\
  Hid (At wr W [(sa,s.rules.length,sc),aZ s.els.type,s.els.text.1,aZ s.els.text.2,s.els.other.1,aZ s.els.other.2,(ea,s.els.kids.length,ec),s.els.fill,aZ s.els.fillT,o0,o1,o2,o3,o4,o5,s.cap] 30)/\
  Hid (sX wr M n met.reverse)/\Hid (Below W W wr))
 case atStart=>exact⟨0, [],r,a,c,rfl,rfl,by omega,(show List.Nodup []from List.nodup_nil),(show ∀x∈ [],_ from by simp),Y,HR,H3,H2,H1,H4⟩
 case round=>
  obtain⟨n,met,q,qa,qc,rfl,h4,hg,I,J,hq,K,hx,ha,hs,p⟩:=hrel;have H5:=s_7 I.o J.o;obtain⟨g',L⟩:∃g',gk=g'+1:=⟨gk - 1,by omega⟩;have N:q.type.length <= maxLen:=by have h1:=d_I hq.o;have h2:=F.o;unfold bK.wt at h1;unfold maxLen;omega
  have b:=K.o;rw [L,e_O]at b;have z:=a6 (show n+1+g'=s.rules.length+2/\g' < gk from by omega)
  obtain⟨⟨x0,x1,x2,x3,x4,x5,x6,x7⟩,xf,xl⟩:=hx.o.f8;have O:=a6 N;clear K H5 N L;by_cases h0:q.fill=0
  . have Hz:=a6 (show (n:Int)=R by rw [if_pos h0]at b;exact b)
    rw [h0]at x6;clear b h0;go_wp2_with fail;go_ret;exact⟨dV Hz.o,p.o⟩
  by_cases h1:q.fill=1
  . have Hz:=a6 (show (n:Int)+1=R by rw [if_neg h0,if_pos h1]at b;exact b)
    rw [h1]at x6;clear b h0 h1;go_wp2_with fail;go_ret;exact⟨dV Hz.o,p.o⟩
  have h5:(q.fill == 0)=false:=beq_eq_false_iff_ne.2 h0;have h6:(q.fill == 1)=false:=beq_eq_false_iff_ne.2 h1;rw [if_neg h0,if_neg h1]at b;have t:=hs.o.ask q.type O.o
  by_cases d:q.type∈met
  . have Hz:=a6 (show (-1:Int)=R by rw [if_pos d]at b;exact b)
    rw [decide_eq_true (List.mem_reverse.2 d)]at t;clear b h0 h1 d;go_wp2_with fail;go_ret;exact⟨dV Hz.o,p.o⟩
  have S:=a6 (show l8 s g' (q.type::met) (cJ s q.fillT) (n+1)=R by rw [if_neg d]at b;exact b);have T:=a6 d;rw [O3 (fun h=>d (List.mem_reverse.1 h))]at t;clear b h0 h1 d;go_upto_region 10 with fail
  go_wp2_with (at_mapUpdate;refine i_E rfl _ _ _ rfl M n met.reverse q.type rfl rfl rfl hs.o ?hn O.o ?_)
  case hn=>have h9:=z.o.1;unfold maxLen;omega
  intro w2 U f;have u:(some M:Option Nat)≠some (W.heap.size+1):=by intro e;injection e with e;omega
  have w:(some M:Option Nat)≠some W.heap.size:=by intro e;injection e with e;omega
  have A:=a6 (hx.o.grown f u);have B:=a6 (ha.o.grown f w);have V:=a6 (show sX w2 M (n+1) (q.type::met).reverse by rw [List.reverse_cons];exact U);have C:=a6 (p.o.grown f p.o.size (fun k e=>by cases e;omega));have hC:=b_O s _ q.fillT w2 F.o (Hv.o w2 C.o);have HC:=a6 hC;have o:=Z.o w2 B.o;clear U f u w x0 x1 x2 x3 x4 x5 x6 x7 xf hx ha hs t hC;obtain⟨⟨x0,x1,x2,x3,x4,x5,x6,x7⟩,xf,xl2⟩:=A.o.f8;go_wp2_with fail;refine HC.o.mono ?_;rintro e w3 ⟨ka,kc,rfl, -,j⟩;have H6:=a6 (C.o.trans (j.mono C.o.size))
  have X:=a6 (A.o.kept j);have H7:=a6 (B.o.kept j);have H8:=a6 (V.o.kept j);clear j HC x0 x1 x2 x3 x4 x5 x6 x7 xf o A B V xl xl2;obtain⟨⟨x0,x1,x2,x3,x4,x5,x6,x7⟩,xf,xl⟩:=X.o.f8;obtain⟨Q,hQ⟩:∃Q,Q=cJ s q.fillT:=⟨_,rfl⟩;have HQ:=a6 hQ;rw [<- hQ]at S⊢;clear hQ;go_wp2_with fail
  go_roundg g'
  case measure=>exact z.o.2
  case rel=>
   have h9:=z.o.1;refine⟨n+1,q.type::met,Q,ka,kc,by go_num,by simp;omega,by omega,(show List.Nodup _ from List.nodup_cons.2 ⟨T.o,I.o⟩),(show ∀x∈q.type::met,_ from fun x hx=>by rcases OJ hx with rfl | hx;exact List.mem_map.2 ⟨q,hq.o,rfl⟩;exact J.o x hx),(show Q∈rJ s by rw [HQ.o];exact k_k s _),S,(show At _ _ _ _ from X.o.s8 _ _ _ _ _ _ _ _),(show At _ _ _ _ from H7.o.n8 P2 _ _ _ _ _ _ _ _),(show sX _ _ _ _ from H8.o.s8 P2 _ _ _ _ _ _ _ _),(show Below _ _ _ from b_E H6.o P2 _ _ _ _ _ _ _ _)⟩
open Go.Maps
def St (w:World) (M:Nat) (L:List (List UInt8)):Prop:= ∃acc,sX w M L.length acc/\∀x,x∈acc ↔ x∈L
theorem St.kept {w w':World} {M:Nat} {L:List (List UInt8)} (h:St w M L) (hb:Below w w w'):St w' M L:=by
 obtain⟨acc,h1,h2⟩:=h;exact⟨acc,h1.kept hb,h2⟩
theorem St.lt {w:World} {M:Nat} {L:List (List UInt8)} (h:St w M L):M < w.heap.size:=by
 obtain⟨acc,h1,h2⟩:=h;exact h1.lt
theorem St.drew {w:World} {M:Nat} {L:List (List UInt8)} (h:St w M L):St w.drew M L:=h
theorem St.put {w:World} {M:Nat} {L:List (List UInt8)} (h:St w M L) (hn:L.length < maxLen) (k:List UInt8) (hk:k.length <= maxLen):
 ∃w',(Instr.mapUpdate 150 (.map (some M)) (aZ k) true).run Tryz.prog w= .ok () w'/\St w' M (L ++ [k])/\w.grownBy w' (some M):=by
 obtain⟨acc,h1,h2⟩:=h;obtain⟨w',r1,r2,r3⟩:=h1.put hn k hk;exact⟨w',r1,⟨acc ++ [k],by simpa using r2,fun x=>by simp [h2 x]⟩,r3⟩
theorem St.same {w:World} {M:Nat} {L L':List (List UInt8)} (h:St w M L) (hl:L.length=L'.length) (hm:∀x,x∈L ↔ x∈L'):St w M L':=by
 obtain⟨acc,h1,h2⟩:=h;exact⟨acc,by rw [<- hl];exact h1,fun x=>(h2 x).trans (hm x)⟩
theorem i_F {ops:Array Oper} {rest:List Oper} {o:Oper} {a:Act} {w:World} {Q:Exit ->Act ->World ->Prop} (hg:o.guard=none) (m x v:Operand) (ho:o.op= .mapUpdate 150 m x v)
 (b:Nat) (L:List (List UInt8)) (k:List UInt8) (hm:a.eval m= .map (some b)) (hx:a.eval x=aZ k) (hv:a.eval v= .bool true) (h:St w b L) (hn:L.length < maxLen) (hk:k.length <= maxLen)
 (hK:∀w',St w' b (L ++ [k]) ->w.grownBy w' (some b) ->wpList Tryz.prog ops Q rest (a.put o.dst undef) w'):wpList Tryz.prog ops Q (o::rest) a w:=by
 obtain⟨w',c,r1,r2⟩:=h.put hn k hk;refine wpList_plain hg fun K' d=> ?_
 unfold Oper.wp;simp [execOp,ho,hm,hx,hv,c,Result.andThen];exact d _ _ (hK w' r1 r2)
abbrev zX (r:bK):List (List UInt8):= [r.type,r.text.2,r.other.2,r.fillT]
abbrev F8 (l:List yY):List (List UInt8):=l.flatMap fun p=> [p.1,p.2.2]
theorem a_r {α :Type} {f: α ->List (List UInt8)} {l:List α} {k:Nat} (hk:k < l.length):(l.take (k+1)).flatMap f=(l.take k).flatMap f ++ f l[k]:=by
 rw [O1 hk,List.flatMap_append];simp
theorem d_q {α :Type} (f: α ->List (List UInt8)) (l:List α) (k:Nat):(l.take k).flatMap f <+:l.flatMap f:=by
 refine⟨(l.drop k).flatMap f, ?_⟩;rw [<- List.flatMap_append,List.take_append_drop]
theorem c_c {B M:Nat} {w w':World} (h:w.grownBy w' (some M)) (hB:B <= w.heap.size) (hM:B <= M):Below B w w':=(Below.refl B w).grown h hB (fun k e=>by cases e;exact hM)
theorem l_j {w w':World} {M:Nat} (h:Below w w w'):w.grownBy w' (some M):=⟨h.os,h.tape,h.output,h.size,fun k hk _=>h.block k hk⟩
theorem q_V {w w':World} {B M sz n cap:Nat} {a:Option Addr} {cs:List Value} (h:RowQ w (fun b=>B <= b) sz a n cap cs) (hg:w.grownBy w' (some M)) (hM:M < B):RowQ w' (fun b=>B <= b) sz a n cap cs:=
 h.keep hg.size (fun b hb c=>hg.block b c (fun e=>by injection e with e;omega)) (fun b hb _=>hb)
theorem h_d {w:World} {B B' n cap:Nat} {a:Option Addr} {rs:List bK} {css:List Value} (h:RowA w B' 8 a n cap css) (hr:i9 w B rs css) (k:Nat) (hk:k < rs.length):
 ∃ b off ra rc,a=some ⟨b,off,none⟩/\b < B'/\RowA w B 3 ra rs[k].kids.length rc (fV rs[k].kids)/\w.cell? ⟨b,off+k * 8,none⟩=some (aZ rs[k].type)/\w.cell? ⟨b,off+k * 8+1,none⟩=some (.int .i64 rs[k].text.1)/\
   w.cell? ⟨b,off+k * 8+2,none⟩=some (aZ rs[k].text.2)/\w.cell? ⟨b,off+k * 8+3,none⟩=some (.int .i64 rs[k].other.1)/\w.cell? ⟨b,off+k * 8+4,none⟩=some (aZ rs[k].other.2)/\w.cell? ⟨b,off+k * 8+5,none⟩=some (.slice ra rs[k].kids.length rc)/\
   w.cell? ⟨b,off+k * 8+6,none⟩=some (.int .i64 rs[k].fill)/\w.cell? ⟨b,off+k * 8+7,none⟩=some (aZ rs[k].fillT):=by
 obtain⟨cs,⟨ra,rc,rfl,h2⟩,h3⟩:=hr.at_ k hk;have h0:=h3 0 _ (show (rX rs[k] ra rc)[0]? =some (aZ rs[k].type)from rfl);obtain⟨b,off,ha,hb,hc⟩:=h.some_ (by rintro rfl;simp at h0);have h4:∀j u,(rX rs[k] ra rc)[j]? =some u ->w.cell? ⟨b,off+k * 8+j,none⟩=some u:=fun j u hj=>by
  have:=hc _ u (h3 j u hj)
  rwa [<- Nat.add_assoc]at this
 exact⟨b,off,ra,rc,ha,hb,h2,h4 0 _ rfl,h4 1 _ rfl,h4 2 _ rfl,h4 3 _ rfl,h4 4 _ rfl,h4 5 _ rfl,h4 6 _ rfl,h4 7 _ rfl⟩
theorem k_p {l:List yY} {j:Nat} (h:j < l.length):F8 (l.take (j+1))=F8 (l.take j) ++ [l[j].1,l[j].2.2]:=a_r h
structure r_t where
 b:Bool
abbrev r_u (c:r_t):Value:= .bool c.b
theorem k_q {v:Value} {y:DataW Unit×List MemPlace} (h:plainElem (H:=Unit) Tryz.prog 4 v=some y):∃c:r_t,v=r_u c:=by
 unfold plainElem at h;rw [Tryz.underlying4]at h;cases v with
 | bool b=>exact⟨⟨b⟩,rfl⟩
 | _=>cases h
abbrev F9 (l:List (List UInt8)):List (List UInt8):=l.filter fun x=>decide (x≠ [])
theorem i_G (l:List (List UInt8)):(F9 l).length <= l.length:=List.length_filter_le _ _
abbrev s_8 (s:b5) (W:World) (e:Ending) (w':World):Prop:=
 ∃ (v:Value) (out:List (List UInt8)),e= .returned v/\w'.ownsRow W 9 1 v out.length (out.map aZ)/\(∀x,x∈out ↔ x∈J0 s/\x≠ [])/\out.length <= s.wt/\Below W W w'
theorem q_W (s:b5) (v:Value) (W:World) (hw:s.wt <= 100000000) (hv:SchemaV W W s v):Calls Tryz.prog 46 #[v] W (s_8 s W):=by
 have Hv:=a6 (fun(w':World) (hb:Below W W w')=>hv.keep hb hb.size);obtain⟨sa,sc,css,ea,ec,o0,o1,o2,o3,o4,o5,rfl, -, -, -, -⟩:=hv.open;have k2:=a6 hw;have j7:=i_D s;have J5:(J0 s).length <= 100000000:=aJ j7 hw;have H1:=a6 J5;obtain⟨w0,H2⟩:∃w0,w0=W.alloc (Obj.cells #[(sa,s.rules.length,sc),aZ s.els.type,s.els.text.1,aZ s.els.text.2,s.els.other.1,aZ s.els.other.2,(ea,s.els.kids.length,ec),s.els.fill,aZ s.els.fillT,o0,o1,o2,o3,o4,o5,s.cap] 30):=⟨_,rfl⟩;have j8:Below W W w0:=by rw [H2];exact b7 _ _
 have hA:At w0 W [(sa,s.rules.length,sc),aZ s.els.type,s.els.text.1,aZ s.els.text.2,s.els.other.1,aZ s.els.other.2,(ea,s.els.kids.length,ec),s.els.fill,aZ s.els.fillT,o0,o1,o2,o3,o4,o5,s.cap] 30:=by rw [H2];exact At.fresh W _ _
 have k3:=hA.lt;obtain⟨M,hM⟩:∃M,M=w0.heap.size:=⟨_,rfl⟩;obtain⟨w1,K⟩:∃w1,w1=w0.alloc (.map #[] 0):=⟨_,rfl⟩;have X3:= @run_makeMap Tryz.prog;have H3:Below W W w1:=by rw [K];exact j8.alloc j8.size _
 have k4:=a6 (show St w1 M []by rw [K,hM];exact⟨[],sX.fresh w0,fun x=>Iff.rfl⟩);have k5:=E1 (P:=Tryz.prog) (show At w1 W _ _ by rw [K];exact hA.alloc _) Tryz.underlying30 rfl P3
 simp [go_sem]at k5
 have HC:=a6 (c_b s _ W w1 hw (hv.keep H3 (a8)) H3.size);have k6:=a6 H2;have k7:=a6 K;have j9:=a6 H3
 have X4:W.heap.size < M:=by rw [hM];exact k3
 have X5:=a6 (show M < w1.heap.size by rw [K,hM];simp);have HM:=a6 hM;have X7:(s.rules.length+1) * 1 <= 100000000 * 1:=by have:=mX s.rules;unfold b5.wt bK.wt at hw;omega
 have k8:(rJ s).length <= 100000000:=by rw [c_a];omega
 clear hv hw j7 J5 H2 j8 hA hM K H3 k3 X7;go_enter Tryz.func46,Tryz.ntmps46;go_upto_region 1 with fail;rw [<- k6.o];clear k6;go_upto_region 2 with fail
 rw [<- k7.o, <- HM.o];clear k7 HM X3;go_wp2_with fail;refine HC.o.mono ?_;rintro e w2 ⟨ra,rc,css2,rfl,d,J6,E⟩;have X8:=a6 (k4.o.kept E)
 have k9:=a6 (j9.o.trans (E.mono j9.o.size));have F:=a6 d;have J7:=a6 J6;have Q0:=a6 E.size
 obtain⟨rs,K0⟩:∃rs,rs=rJ s:=⟨_,rfl⟩;have Q1:=a6 K0;rw [<- K0]at F J7 k8⊢;clear d J6 E HC k4 k5 K0;go_wp2_with fail
 go_loopg [16] rs.length (fun g i wr=>∃k:Nat,i= .int .i64 k/\k+g=rs.length/\Hid (St wr M ((rs.take k).flatMap iY))/\Hid (w2.grownBy wr (some M)))
 case atStart=>exact⟨0,rfl,by omega,(show St w2 M ((rs.take 0).flatMap iY)from X8.o),(show World.grownBy _ _ _ from World.grownBy.refl _ _)⟩
 case round=>
  obtain⟨k,rfl,hg,a,H4⟩:=hrel;obtain⟨wR,rfl⟩:∃z,z=wr:=⟨_,rfl⟩;obtain⟨G,rfl⟩:∃z,z=gk:=⟨_,rfl⟩;have B:=a6 (show Below W W wR from k9.o.trans (c_c H4.o k9.o.size P2));have K1:=a6 (q_V F.o H4.o X5.o);have K2:=a6 (i9.keep (c_c H4.o (aJ j9.o.size Q0.o) P2) (a8) J7.o)
  by_cases R:k < rs.length
  ·
    have z1:(k:Int) < rs.length:=P2
    obtain⟨b,off,qa,qc,rfl,X9,K3,p0,p1,p2,p3,p4,p5,p6,p7⟩:=h_d K1.o.row K2.o k R;have H5:=a6 (a_r (f:=iY) R);have n:=a6 (show (rs.take k).flatMap iY ++ iY rs[k] <+:J0 s by rw [<- H5.o,Q1.o];exact d_q iY _ _);generalize rs[k]=q at K3 p0 p1 p2 p3 p4 p5 p6 p7 H5 n;obtain⟨PRE,S⟩:∃PRE,PRE=(rs.take k).flatMap iY:=⟨_,rfl⟩;rw [<- S]at a H5 n;have z2:=a6 S
    have x8:=a6 K3;obtain⟨w3,H6⟩:∃w3,w3=wR.alloc (Obj.cells #[aZ q.type,q.text.1,aZ q.text.2,q.other.1,aZ q.other.2,(qa,q.kids.length,qc),q.fill,aZ q.fillT] 27):=⟨_,rfl⟩;obtain⟨w4,T⟩:∃w4,w4=w3.alloc (Obj.cells #[aZ q.type,aZ q.text.2,aZ q.other.2,aZ q.fillT] 9):=⟨_,rfl⟩;have H7:At w3 wR.heap.size [aZ q.type,q.text.1,aZ q.text.2,q.other.1,aZ q.other.2,(qa,q.kids.length,qc),q.fill,aZ q.fillT] 27:=by rw [H6];exact At.fresh wR _ _
    have K4:Below wR.heap.size wR w3:=by rw [H6];exact b7 _ _
    have K5:Below wR.heap.size wR w4:=by rw [T];exact K4.trans ((b7 w3 _).mono K4.size)
    have x9:=a6 (show At w4 wR.heap.size [aZ q.type,q.text.1,aZ q.text.2,q.other.1,aZ q.other.2,(qa,q.kids.length,qc),q.fill,aZ q.fillT] 27 by rw [T];exact H7.alloc _);have Y0:=a6 (show At w4 w3 ((zX q).map aZ) 9 by rw [T];exact At.fresh w3 _ _);have H8:=a6 K5;have Q2:=a6 H6;have Q3:=a6 T
    have Y1:=a6 (a.o.kept K5);have Q4:=a6 (show M < wR.heap.size from a.o.lt);have z3:wR.heap.size < w3.heap.size:=H7.lt;obtain⟨⟨x0,x1,x2,x3,x4,x5,x6,x7⟩, -,xl⟩:=H7.f8;clear H6 T H7 K4 K5 X9 K3 S a;go_upto_region 5 with fail
    rw [<- Q2.o];clear Q2 p0 p1 p2 p3 p4 p5 p6 p7;go_wp2_with fail;rw [<- Q3.o];clear Q3 x0 x1 x2 x3 x4 x5 x6 x7;go_loopg [32] 4 (fun g i wx=>∃j:Nat,i= .int .i64 j/\j+g=4/\Hid (St wx M (PRE ++ (zX q).take j))/\Hid (w4.grownBy wx (some M)))
    case atStart=>exact⟨0,rfl,by omega,(show St w4 M (PRE ++ (zX q).take 0)by simpa using Y1.o),(show World.grownBy _ _ _ from World.grownBy.refl _ _)⟩
    case round=>
     obtain⟨j,rfl,H9,a,N⟩:=hrel;obtain⟨wI,rfl⟩:∃z,z=wr:=⟨_,rfl⟩;have Y2:=a6 (x9.o.grown N.o t_H);have K6:=Y0.o.grown N.o t_H;have C:(zX q).length=4:=rfl
     by_cases hj:j < 4
     . have Y3:(j:Int) < 4:=P2
       have h0:j < (zX q).length:=hj;have hc:=K6.cell j (v:=aZ (zX q)[j]) (by rw [List.getElem?_map,NV h0];rfl);have J8:=a6 (O1 h0);have D:=a6 (show (zX q)[j].length <= maxLen/\(PRE ++ (zX q).take j).length < maxLen from by
        have h1:(zX q)[j]∈J0 s:=n.o.subset (List.mem_append_right _ (List.mem_append_left _ (NY h0)));have h2:=h_a h1;have h3:=k2.o;have h4:=n.o.length_le;have h5:(iY q).length=4+(F8 q.kids).length:=by simp [iY,F8];omega
        have h6:=H1.o;simp only [NZ,List.length_take,C]at h4⊢;unfold maxLen;refine⟨by omega,by omega⟩)
       generalize (zX q)[j]=t at hc J8 D;clear K6 h0 C;go_wp2_with (at_mapUpdate;refine i_F rfl _ _ _ rfl M (PRE ++ (zX q).take j) t rfl rfl rfl a.o ?hn ?hk ?_)
       case hn=>exact D.o.2
       case hk=>exact D.o.1
       intro w5 Q5 Q6;have K7:=a6 (show St w5 M (PRE ++ (zX q).take (j+1))by rw [J8.o];exact Q5)
       have Y4:=a6 (fK N.o Q6);clear Q5 Q6 hc;go_wp2_with fail
       go_roundg (4 - (j+1))
       case measure=>omega
       case rel=>exact⟨j+1,by go_num,by omega,K7,Y4⟩
     obtain rfl:j=4:=P2
     have K7:=a6 (show St wI M (PRE ++ zX q ++ F8 (q.kids.take 0))by have h:=a.o;rw [show (zX q).take 4=zX q from rfl]at h;simpa [F8]using h);obtain⟨⟨x0,x1,x2,x3,x4,x5,x6,x7⟩, -,xl⟩:=Y2.o.f8;have z4:=a6 (show Below W W wI from(B.o.trans (H8.o.mono B.o.size)).trans (c_c N.o (aJ B.o.size H8.o.size) P2));have Y5:=a6 (show w2.grownBy wI (some M)from fK H4.o (fK (l_j H8.o) N.o));have z5:q.kids.length <= 100000000:=by
      have h4:=n.o.length_le;have h5:(iY q).length=4+2 * q.kids.length:=by
       unfold iY;rw [NZ,show (q.kids.flatMap (fun p=> [p.1,p.2.2])).length=2 * q.kids.length from by
        generalize q.kids=l
        induction l with
        | nil=>rfl
        | cons p l ih=>rw [List.flatMap_cons,NZ,ih];simp;omega]
       rfl
      have h6:=H1.o;rw [NZ]at h4;omega
     have Y6:=a6 (show wR.grownBy wI (some M)from fK (l_j H8.o) N.o);clear a K6 C x0 x1 x2 x3 x4 x6 x7;go_wp2_with fail
     go_loopg [42] q.kids.length (fun g i wx=>∃j:Nat,i= .int .i64 j/\j+g=q.kids.length/\Hid (St wx M (PRE ++ zX q ++ F8 (q.kids.take j)))/\Hid (wI.grownBy wx (some M)))
     case atStart=>exact⟨0,rfl,by omega,K7,(show World.grownBy _ _ _ from World.grownBy.refl _ _)⟩
     case round=>
      obtain⟨j,rfl,h9,a,J1⟩:=hrel;obtain⟨wJ,rfl⟩:∃z,z=wr:=⟨_,rfl⟩;have Y7:=a6 (fK Y5.o J1.o)
      by_cases hj:j < q.kids.length
      . have Y3:(j:Int) < q.kids.length:=P2
        have Q7:=c_c (fK Y6.o J1.o) B.o.size (Nat.le_of_lt X4);obtain⟨pb,po,rfl,Y8,c0,c1,c2⟩:=(x8.o.keep Q7 (a8)).pair_at j hj;have r:=a6 (k_p hj);have D:=a6 (show (q.kids[j].1.length <= maxLen/\q.kids[j].2.2.length <= maxLen)/\(PRE ++ zX q ++ F8 (q.kids.take j)).length+1 < maxLen from by
         have Y9:q.kids[j].1∈J0 s:=n.o.subset (List.mem_append_right _ (List.mem_append_right _ (List.mem_flatMap.2 ⟨_,NY hj,by simp⟩)));have y0:q.kids[j].2.2∈J0 s:=n.o.subset (List.mem_append_right _ (List.mem_append_right _ (List.mem_flatMap.2 ⟨_,NY hj,by simp⟩)));have h1:=h_a Y9;have h2:=h_a y0;have h3:=k2.o;have h4:=n.o.length_le;have h5:(iY q).length=4+(F8 q.kids).length:=by simp [iY,F8];omega
         have h6:=H1.o;have h7:(F8 (q.kids.take j)).length <= (F8 q.kids).length:=(d_q (fun p:yY=> [p.1,p.2.2]) q.kids j).length_le;have h8:(zX q).length=4:=rfl;rw [NZ,h5]at h4;rw [NZ,NZ,h8];unfold maxLen;exact⟨⟨by omega,by omega⟩,by omega⟩)
        generalize q.kids[j]=p at c0 c1 c2 r D;obtain⟨p0,p1,p2⟩:=p;simp only at c0 c1 c2 D;obtain⟨w6,J2⟩:∃w6,w6=wJ.alloc (Obj.cells #[aZ p0,p1,aZ p2] 140):=⟨_,rfl⟩;have J3:Below wJ.heap.size wJ w6:=by rw [J2];exact b7 _ _
        have O:At w6 wJ.heap.size [aZ p0,p1,aZ p2] 140:=by rw [J2];exact At.fresh wJ _ _
        have y1:=a6 (show M < wJ.heap.size from a.o.lt);obtain⟨L,hL⟩:∃L,L=PRE ++ zX q ++ F8 (q.kids.take j):=⟨_,rfl⟩;have K8:St w6 M L:=by rw [hL];exact a.o.kept J3
        have HL:=a6 hL;have Q:=D.o;rw [<- hL]at Q;have o:(some M:Option Nat)≠some wJ.heap.size:=by intro e;injection e with e;have:=y1.o;omega
        obtain⟨wa,ea,sa,ga⟩:=K8.drew.put P2 p0 Q.1.1;obtain⟨wab,eab,sab,gab⟩:=sa.put P8 p2 Q.1.2;obtain⟨wb,eb,sb,gb⟩:=K8.drew.put P2 p2 Q.1.2;obtain⟨wba,eba,sba,gba⟩:=sb.put P8 p0 Q.1.1;have X6:=a6 O.f3.1;have XA:=a6 (At.grown (w:=w6.drew) O ga o).f3.1;have XB:=a6 (At.grown (w:=w6.drew) O gb o).f3.1;have XAB:=a6 ((At.grown (w:=w6.drew) O ga o).grown gab o).f3.1;have XBA:=a6 ((At.grown (w:=w6.drew) O gb o).grown gba o).f3.1;have y2:=a6 (show wI.grownBy wab (some M)from fK J1.o (fK (l_j J3) (fK (show w6.grownBy wa (some M)from⟨ga.os,ga.tape,ga.output,ga.size,ga.block⟩) gab)));have y3:=a6 (show wI.grownBy wba (some M)from fK J1.o (fK (l_j J3) (fK (show w6.grownBy wb (some M)from⟨gb.os,gb.tape,gb.output,gb.size,gb.block⟩) gba)));have y4:=a6 (show St wab M (PRE ++ zX q ++ F8 (q.kids.take (j+1)))from sab.same (by rw [r.o,hL];simp) (fun x=>by rw [r.o,hL];simp [or_assoc]));have y5:=a6 (show St wba M (PRE ++ zX q ++ F8 (q.kids.take (j+1)))from sba.same (by rw [r.o,hL];simp) (fun x=>by rw [r.o,hL];simp [or_assoc,or_comm,or_left_comm]));have Q8:=a6 J2;clear J2 O J3 K8 hL Q o Y8 a sa sb ga gb gab gba sab sba;go_upto_region 13 with fail
        rw [<- Q8.o];clear Q8 c0 c1 c2;go_region_held3 (fun w'=>w'.cell? wJ.heap.size=some (aZ p0)/\w'.cell? (P0 wJ.heap.size 1)=some (.int .i64 p1)/\w'.cell? (P0 wJ.heap.size 2)=some (aZ p2)) (first | exact X6.o | exact XA.o | exact XB.o | exact XAB.o | exact XBA.o)
         (fail)
        all_goals
         go_wp2_with fail
         go_roundg (q.kids.length - (j+1))
         case measure=>omega
         case rel=>first | exact⟨j+1,by go_num,by omega,y4,y2⟩ | exact⟨j+1,by go_num,by omega,y5,y3⟩
      obtain rfl:j=q.kids.length:=P2
      have y6:=a6 (show St wJ M ((rs.take (k+1)).flatMap iY)by
       have h:=a.o;rw [List.take_length]at h;rw [H5.o];unfold iY;simpa [F8]using h)
      clear a;go_wp2_with fail
      go_roundg (rs.length - (k+1))
      case measure=>omega
      case rel=>exact⟨k+1,by go_num,by omega,y6,Y7⟩
  obtain rfl:k=rs.length:=P2
  obtain⟨acc,A,J9⟩:=(show St wR M (J0 s)by have h:=a.o;rw [List.take_length,Q1.o]at h;exact h);obtain⟨N0,K9⟩:∃N0,N0=(J0 s).length:=⟨_,rfl⟩;have hsz:=World.ownsMap.size_le A;rw [<- K9]at A hsz;have Q9:=a6 (show N0 <= 100000000/\N0 <= s.wt by rw [K9];exact⟨H1.o,i_D s⟩)
  have q0:=a6 J9;have k0:=a6 hsz;obtain⟨D0,J4⟩:∃D0,D0=h_b acc:=⟨_,rfl⟩;have U:wR.ownsMap Tryz.prog 9 (plainElem (H:=Unit) Tryz.prog 4) M N0 D0:=by rw [J4];exact A
  rw [<- J4]at k0;have y7:=a6 J4
  have y8:=A.lt;obtain⟨i0,hi,y9,Z0,Z1⟩:=info_parts c_M;clear a A J9 hsz K9 J4;go_wp2_with (first
   | (at_range;refine wpList_range_own _ rfl _ 150 rfl 9 4 h_c Tryz.underlying150 _ M N0 _ rfl U ?_;intro w7 q1 Z2 z6)
   | go_in)
  go_frame
  go_loopw [10] (fun u wr=>∃ (v:Value) (left:Lit ->Bool) (cnt:Nat) (ss:List (List UInt8)),v=u/\wr.ranges Tryz.prog 9 (plainElem (H:=Unit) Tryz.prog 4) M wR.heap.size N0 D0 left cnt/\ss.length+cnt <= Maps.size D0/\
   wr.ownsRow wR.heap.size 9 1 v (F9 ss).length ((F9 ss).map aZ)/\Collected D0 left ss/\Below wR.heap.size wR wr)
   (fun _ wr=>wr.rangeLeft M wR.heap.size)
  case atStart=>
   exact⟨_,_,_, [],rfl,q1,by simp,World.ownsRow_nil _ _ _ _,Collected.start D0,(a7).grown Z2 (a8) (fun j hj=>by cases hj)⟩
  case round=>
   obtain⟨v,left,cnt,ss,rfl,V,Z3,d,hC,X⟩:=hrel
   go_wp2_with (first
    | (at_next;refine wpList_next_ranges _ rfl _ rfl 9 h_c (plainElem (H:=Unit) Tryz.prog 4) encStr r_u (fun key kl hk=>by obtain⟨x,hx,_⟩:=Maps.keyOf_str Tryz.underlying9 hk;exact⟨x,hx⟩) (fun v y hv=>k_q hv) M wR.heap.size N0 _ _ _ rfl V ?_ ?_)
    | go_in)
   ·
     intro Z4 q2;have hlen:(F9 ss).length <= s.wt/\(F9 ss).length <= 100000000:=by have h1:=i_G ss;have h2:=Q9.o;have h3:=k0.o;constructor <;> omega
     have HC:=a6 (q_R (F9 ss) v wR.heap.size wr d hlen.2);have Z5:=a6 (show ∀x,x∈q_P (F9 ss) ↔ x∈J0 s/\x≠ []from fun x=>by
      rw [List.mem_mergeSort,List.mem_filter,hC.2 x,q2,y7.o,p_4, <- q0.o x];simp)
     have q3:=a6 hlen;have F:=a6 d;have q4:=a6 X;have z7:=m_L;clear d X hC hlen V Z3 U Z4 q2;go_wp2_with fail;refine HC.o.mono ?_;rintro e w8 ⟨rfl,Y,Z⟩;have Z6:=a6 Y
     have Z7:=a6 (q4.o.grown Z q4.o.size (fun k hk=>(F.o.lt k hk).1));clear Y Z HC;go_wp2_with fail;go_ret;refine⟨v,q_P (F9 ss),rfl, ?_,Z5.o,by rw [List.length_mergeSort];exact q3.o.1,B.o.trans (Z7.o.mono B.o.size)⟩;rw [List.length_mergeSort];exact q9 Z6.o B.o.size
   ·
     intro x c kl yd yp w8 cnt2 j0 q5 hv q6 q7 R H9 Z8 z8;obtain⟨x',ex,rfl,z9⟩:=Maps.keyOf_str Tryz.underlying9 j0;obtain rfl:x=x':=encStr_inj ex;have m:=d.kept H9 (Or.inr (row_ne_iter d V).symm);have j1:=X.grown H9 X.size (fun j hj=>by cases hj;exact a8);have q8:=hC.step q5 q6;have j2:cnt2 < wr.rangeLeft M wR.heap.size:=by rw [V.left_eq];exact R
     have j7:=i_G ss;have hN:=Q9.o.1;have hsz:=k0.o;have I:=a6 q7;have J:=a6 j1;have X0:=a6 q8;have j3:=a6 (show (ss ++ [x]).length+cnt2 <= Maps.size D0 by simp;omega)
     have j4:=a6 j2;clear Z8 H9 q6 hv q5 j0 hC d V X q8 j1 R j2 ex U;cases x with
     | nil=>
       have Hf:=a6 (show F9 (ss ++ [[]])=F9 ss by simp [F9]);go_wp2_with fail
       go_roundw
       case rel=>exact⟨v,_,cnt2,ss ++ [[]],rfl,I.o,j3.o,by rw [Hf.o];exact m,X0.o,J.o⟩
       case measure=>rw [I.o.left_eq];exact j4.o
     | cons x0 xs=>
       have Hf:=a6 (show F9 (ss ++ [x0::xs])=F9 ss ++ [x0::xs]by simp [F9]);have V0:((⟨(x0::xs).toArray⟩:ByteArray).toList.isEmpty)=false:=QQ
       go_wp2_with (at_builtin;refine wpList_append_own _ rfl _ _ 83 rfl wR.heap.size 9 i0 (.string ⟨#[]⟩) 1 16 Tryz.underlying83 hi y9 Z0 Z1 rfl P9 _ _ _ rfl (m.alloc _) w8 1 1 [aZ (x0::xs)] rfl rfl (cell_one_new _ _ _) YZ (by unfold maxLen at *;omega) P2 (by have:=J.o.size;simp;omega) ?_;intro v' w9 H0 h9 k1;go_frame)
       have X1:=a6 J.o.size;have j5:=(I.o.alloc (Obj.cells #[aZ (x0::xs)] 9)).kept h9 (row_ne_low m y8) (row_ne_iter m I.o);have X2:=(J.o.alloc X1.o (Obj.cells #[aZ (x0::xs)] 9)).grown h9 (aJ X1.o (b7 w8 _).size) (fun j hj=>(m.lt j hj).1);have j6:=a6 j5;have Z9:=a6 X2
       have z0:=a6 (show w9.ownsRow wR.heap.size 9 1 v' (F9 (ss ++ [x0::xs])).length ((F9 (ss ++ [x0::xs])).map aZ)by rw [Hf.o];simpa using H0);clear j5 X2 H0 h9 k1 m;go_roundw
       case rel=>exact⟨v',_,cnt2,ss ++ [x0::xs],rfl,j6.o,j3.o,z0.o,X0.o,Z9.o⟩
       case measure=>rw [j6.o.left_eq];exact j4.o
theorem h_e (l:List yY):B5 l=(l.map (·.1)).map aZ:=by simp [B5]
theorem p_5 {w:World} {N:Nat} {l:List (List UInt8)} {T:TypeId} (h:At w N (l.map aZ) T) (hn:l.length <= 100000000):RowA w (N+1) 1 N l.length l.length (l.map aZ):=
 ⟨by simp,a8,by unfold maxLen;omega,(fun u hu=>by obtain⟨t, -,rfl⟩:=OV hu;rfl),(fun e=>by cases e),fun _=>⟨N,0,rfl,by omega,fun j u hj=>by rw [O5];exact h.cell j hj⟩⟩
theorem g_e (l:List (List UInt8)) (n N:Nat) (w:World) (hl:l.length=n) (h:At w N (l.map aZ) 9) (hn:n <= 100000000) (hb:∀t∈l,t.length <= 1000000000):
 Calls Tryz.prog 39 #[(N,n,n)] w fun e w'=>e= .returned (EQ l)/\Below w w w':=by
 subst hl;exact o_X l _ l.length w ((p_5 h hn).keep ((a7)) h.lt) hn hb
theorem p_6 (r:bK) (a:Option Addr) (c:Nat) (W:World) (hr:RowA W W 3 a r.kids.length c (fV r.kids)) (hw:r.wt <= 100000000):
 Calls Tryz.prog 45 #[.agg #[aZ r.type,r.text.1,aZ r.text.2,r.other.1,aZ r.other.2,(a,r.kids.length,c),r.fill,aZ r.fillT]] W fun e w'=>e= .returned (oJ r)/\Below W W w':=by
 have B:r.kids.length <= 100000000:=by have:=M0 r;omega
 have C:∀p∈r.kids,p.1.length <= 1000000000/\p.2.2.length <= 1000000000:=fun p hp=>by have:=N9 hp;unfold bK.wt at hw;omega
 have D:r.text.2.length <= 1000000000:=t_a
 have E:r.other.2.length <= 1000000000:=t_a
 have G:r.fillT.length <= 1000000000:=t_a
 obtain⟨R,hR⟩:∃R,R=oJ r:=⟨_,rfl⟩;have HR:=a6 (show ((r.kids.drop 0).all (fun p=>yQ true p.2) && (b_X r && (yQ false r.text && (yQ true r.other && EQ (r.kids.map (·.1))))))=R from hR.symm);rw [<- hR];obtain⟨ty,⟨td,tt⟩,⟨od,ot⟩,kids,fill,ft⟩:=r;simp only at B C D E G hr HR⊢;obtain⟨w0,z⟩:∃w0,w0=W.alloc (Obj.cells #[aZ ty,td,aZ tt,od,aZ ot,(a,kids.length,c),fill,aZ ft] 27):=⟨_,rfl⟩;have M:Below W W w0:=by rw [z];exact b7 _ _
 have hA:At w0 W [aZ ty,td,aZ tt,od,aZ ot,(a,kids.length,c),fill,aZ ft] 27:=by rw [z];exact At.fresh W _ _
 obtain⟨⟨x0,x1,x2,x3,x4,x5,x6,x7⟩, -,xl⟩:=hA.f8;have N:=a6 z;have O:=a6 M;have HA:=a6 hA
 have Hr:=a6 (fun(w':World) (hb:Below W W w')=>hr.keep hb hb.size);have P:=a6 C;have S:=a6 D;have T:=a6 E;have U:=a6 G
 clear z M hA hr hw hR C D E G;go_enter Tryz.func45,Tryz.ntmps45;go_upto_region 1 with fail;rw [<- N.o];clear N;go_wp2_with fail
 go_loopg [9] kids.length (fun g i wr=>∃k:Nat,i= .int .i64 k/\k+g=kids.length/\Hid (((kids.drop k).all (fun p=>yQ true p.2) && (b_X ⟨ty,(td,tt),(od,ot),kids,fill,ft⟩ && (yQ false (td,tt) && (yQ true (od,ot) && EQ (kids.map (·.1))))))=R)/\Hid (Below w0 w0 wr))
 case atStart=>exact⟨0,rfl,by omega,HR,(show Below _ _ _ from a7)⟩
 case round=>
  obtain⟨k,rfl,hg,A,n⟩:=hrel;have u:=a6 (O.o.trans (n.o.mono O.o.size));clear x0 x1 x2 x3 x4 x5 x6 x7;by_cases H:k < kids.length
  . have Z:(k:Int) < kids.length:=P2
    obtain⟨b,off,rfl,V,p0,p1,p2⟩:=(Hr.o wr u.o).pair_at k H;have w:=a6 (show (yQ true kids[k].2 && ((kids.drop (k+1)).all (fun p=>yQ true p.2) && (b_X ⟨ty,(td,tt),(od,ot),kids,fill,ft⟩ && (yQ false (td,tt) && (yQ true (od,ot) && EQ (kids.map (·.1)))))))=R by
     have h:=A.o;rw [NX H,List.all_cons,Bool.and_assoc]at h;exact h)
    have Hq:=a6 (P.o _ (NY H)).2;generalize kids[k]=q at p0 p1 p2 w Hq;obtain⟨q0,q1,q2⟩:=q;simp only at p0 p1 p2;have HC:=a6 (fun(w1:World)=>k_e q1 q2 true w1 Hq.o)
    clear V A;cases j:yQ true (q1,q2)with
    | false=>
      have Hz:=a6 (show false=R by have h:=w.o;simp only at h;rw [j]at h;exact h);rw [j]at HC;clear w j;go_wp2_with fail;refine(HC.o _).mono ?_;rintro e w2 ⟨rfl,d⟩;have f:=a6 (u.o.trans (((b7 wr (Obj.cells #[aZ q0,q1,aZ q2] 140)).trans (d.mono (b7 wr _).size)).mono u.o.size))
      clear d HC p0 p1 p2;go_wp2_with fail;go_ret;exact⟨bJ Hz.o,f.o⟩
    | true=>
      have HN:=a6 (show ((kids.drop (k+1)).all (fun p=>yQ true p.2) && (b_X ⟨ty,(td,tt),(od,ot),kids,fill,ft⟩ && (yQ false (td,tt) && (yQ true (od,ot) && EQ (kids.map (·.1))))))=R by have h:=w.o;simp only at h;rw [j]at h;simpa using h);rw [j]at HC;clear w j;go_wp2_with fail;refine(HC.o _).mono ?_;rintro e w2 ⟨rfl,d⟩;have f:=a6 (show Below w0 w0 w2 from n.o.trans (((b7 wr (Obj.cells #[aZ q0,q1,aZ q2] 140)).trans (d.mono (b7 wr _).size)).mono n.o.size))
      clear d HC p0 p1 p2;go_wp2_with fail
      go_roundg (kids.length - (k+1))
      case measure=>omega
      case rel=>exact⟨k+1,by go_num,by omega,HN,f⟩
  obtain rfl:k=kids.length:=P2
  have l:=a6 (show (b_X ⟨ty,(td,tt),(od,ot),kids,fill,ft⟩ && (yQ false (td,tt) && (yQ true (od,ot) && EQ (kids.map (·.1)))))=R by have h:=A.o;rw [List.drop_length]at h;simpa using h);have H0:¬ (kids.length:Int) < kids.length:=P2
  obtain⟨F,hF⟩:∃F,F=b_X ⟨ty,(td,tt),(od,ot),kids,fill,ft⟩:=⟨_,rfl⟩;rw [<- hF]at l;have HF:=a6 (show F=((decide (fill=0∨fill=1) && decide (ft= [])) || (decide (fill=2) && tV ft))from hF)
  obtain⟨⟨x0,x1,x2,x3,x4,x5,x6,x7⟩, -,xl⟩:=(HA.o.kept n.o).f8;have HN:=a6 (k_d ft wr U.o);have H1:=k_Q ft [];clear A hF;go_upto_region 7 with fail
  go_cut [5] (fun v wx=>v= .bool F/\Hid (Below wr wr wx))
  case first=>
   by_cases h0:fill=0
   . subst h0
     cases ft with
     | nil=>
       have Hz:=a6 (show true=F from by rw [HF.o];rfl);go_wp2_with fail
       go_meet
       case rel=>exact⟨by rw [<- Hz.o],(show Below _ _ _ from a7)⟩
     | cons f0 fs=>
       have Hz:=a6 (show false=F from by rw [HF.o];rfl);go_wp2_with fail
       go_meet
       case rel=>exact⟨by rw [<- Hz.o],(show Below _ _ _ from a7)⟩
   have H2:(fill == 0)=false:=beq_eq_false_iff_ne.2 h0
   by_cases h1:fill=1
   . subst h1
     cases ft with
     | nil=>
       have Hz:=a6 (show true=F from by rw [HF.o];rfl);go_wp2_with fail
       go_meet
       case rel=>exact⟨by rw [<- Hz.o],(show Below _ _ _ from a7)⟩
     | cons f0 fs=>
       have Hz:=a6 (show false=F from by rw [HF.o];rfl);go_wp2_with fail
       go_meet
       case rel=>exact⟨by rw [<- Hz.o],(show Below _ _ _ from a7)⟩
   have H3:(fill == 1)=false:=beq_eq_false_iff_ne.2 h1
   by_cases h2:fill=2
   . subst h2
     have Hz:=a6 (show tV ft=F from by rw [HF.o];simp);go_wp2_with fail;refine HN.o.mono ?_;rintro e w2 ⟨rfl,d⟩;have f:=a6 d
     clear d HN;go_wp2_with fail
     go_meet
     case rel=>exact⟨by rw [Hz.o],f⟩
   have H4:(fill == 2)=false:=beq_eq_false_iff_ne.2 h2;have Hz:=a6 (show false=F from by rw [HF.o];simp [h0,h1,h2]);go_wp2_with fail
   go_meet
   case rel=>exact⟨by rw [<- Hz.o],(show Below _ _ _ from a7)⟩
  case rest=>
   obtain⟨rfl,I⟩:=hcut;have x:=a6 (u.o.trans (I.o.mono u.o.size));have J:=a6 ((HA.o.kept n.o).kept I.o);have o:=a6 (fun(w1:World)=>k_e td tt false w1 S.o);have s:=a6 (fun(w1:World)=>k_e od ot true w1 T.o);clear x0 x1 x2 x3 x4 x5 x6 x7 HN HF n I;obtain⟨⟨x0,x1,x2,x3,x4,x5,x6,x7⟩, -,xl⟩:=J.o.f8
   cases F with
   | false=>
     have Hz:=a6 (show false=R from l.o);go_wp2_with fail;go_ret;exact⟨bJ Hz.o,x.o⟩
   | true=>
     cases ht:yQ false (td,tt)with
     | false=>
       have Hz:=a6 (show false=R by have h:=l.o;rw [ht]at h;exact h);rw [ht]at o;clear l ht;go_wp2_with fail;refine(o.o _).mono ?_;rintro e w2 ⟨rfl,d⟩;have f:=a6 (x.o.trans (d.mono x.o.size))
       clear x0 x1 x2 x3 x4 x5 x6 x7 d o;go_wp2_with fail;go_ret;exact⟨bJ Hz.o,f.o⟩
     | true=>
       have m:=a6 (show (yQ true (od,ot) && EQ (kids.map (·.1)))=R by have h:=l.o;rw [ht]at h;simpa using h);rw [ht]at o;clear l ht;go_wp2_with fail;refine(o.o _).mono ?_;rintro e w2 ⟨rfl,d⟩;have f:=a6 (x.o.trans (d.mono x.o.size))
       have K:=a6 (J.o.kept d);clear x0 x1 x2 x3 x4 x5 x6 x7 d o J;obtain⟨⟨x0,x1,x2,x3,x4,x5,x6,x7⟩, -,xl⟩:=K.o.f8
       cases ho:yQ true (od,ot)with
       | false=>
         have Hz:=a6 (show false=R by have h:=m.o;rw [ho]at h;exact h);rw [ho]at s;clear m ho;go_wp2_with fail;refine(s.o _).mono ?_;rintro e w3 ⟨rfl,d⟩;have y:=a6 (f.o.trans (d.mono f.o.size))
         clear x0 x1 x2 x3 x4 x5 x6 x7 d s;go_wp2_with fail;go_ret;exact⟨bJ Hz.o,y.o⟩
       | true=>
         have Hz:=a6 (show EQ (kids.map (·.1))=R by have h:=m.o;rw [ho]at h;simpa using h);rw [ho]at s;clear m ho;go_wp2_with fail;refine(s.o _).mono ?_;rintro e w3 ⟨rfl,d⟩;have y:=a6 (f.o.trans (d.mono f.o.size))
         have X:=a6 (K.o.kept d);have HP:=a6 (o_Y kids a c w3 (Hr.o w3 y.o) B);clear x0 x1 x2 x3 x4 x5 x6 x7 d s K;obtain⟨⟨x0,x1,x2,x3,x4,x5,x6,x7⟩, -,xl⟩:=X.o.f8;go_wp2_with fail;refine HP.o.mono ?_;rintro e w4 ⟨rfl,L,d⟩;have Q:=a6 (y.o.trans (d.mono y.o.size))
         rw [h_e]at L;have HQ:=a6 (g_e (kids.map (·.1)) kids.length _ w4 P6 L B (fun t ht=>by obtain⟨p,hp,rfl⟩:=OV ht;exact(P.o p hp).1))
         clear x0 x1 x2 x3 x4 x5 x6 x7 d HP L;go_wp2_with fail;refine HQ.o.mono ?_;rintro e w5 ⟨rfl,d⟩;have Y:=a6 (Q.o.trans (d.mono Q.o.size))
         clear d HQ;go_wp2_with fail;go_ret;exact⟨bJ Hz.o,Y.o⟩
theorem l_k (r:bK) (a:Option Addr) (c:Nat) (k:List UInt8) (W:World) (hr:RowA W W 3 a r.kids.length c (fV r.kids)) (hn:r.kids.length <= 100000000):
 Calls Tryz.prog 100 #[.agg #[aZ r.type,r.text.1,aZ r.text.2,r.other.1,aZ r.other.2,(a,r.kids.length,c),r.fill,aZ r.fillT],aZ k] W (p_X W (lJ r k)):=k_R r a c k W hr hn
def J1 (s:b5) (r:bK):Bool:=decide (r.text.1=4) && (decide ((lJ r r.text.2).1≠1) || decide ((cJ s r.text.2).text.1≠1))
def C3 (r:bK):Bool:=if r.fill=1 then decide (r.text.1=1) else if r.fill=2 then decide ((lJ r r.fillT).1=1) else true
theorem l_l (x:Int):(x != 1)=decide (x≠1):=by by_cases h:x=1 <;> simp [h]
theorem e_R (x:Int) (s:List UInt8):∀w:World,(Instr.field 24 (.agg #[x,aZ s]) 0).run Tryz.prog w= .ok (.int .i64 x) w:=XX
theorem e_S (x0:List UInt8) (x1:Int) (x2:List UInt8) (x3:Int) (x4:List UInt8) (x5:Option Addr) (n c:Nat) (x6:Int) (x7:List UInt8):∀w:World,(Instr.field 27 (.agg #[aZ x0,x1,aZ x2,x3,aZ x4,(x5,n,c),x6,aZ x7]) 1).run Tryz.prog w= .ok (.agg #[x1,aZ x2]) w:=XX
theorem m_M (s:b5) (v:Value) (r:bK) (a:Option Addr) (c:Nat) (l:List (List UInt8)) (na:Option Addr) (nc:Nat) (W:World) (hw:s.wt <= 100000000) (hv:SchemaV W W s v) (hr:RowA W W 3 a r.kids.length c (fV r.kids)) (hk:r.kids.length <= 100000000)
 (hl:RowA W W 1 na l.length nc (l.map aZ)) (J9:l.length <= 1000000000):
 Calls Tryz.prog 47 #[v, .agg #[aZ r.type,r.text.1,aZ r.text.2,r.other.1,aZ r.other.2,(a,r.kids.length,c),r.fill,aZ r.fillT],(na,l.length,nc)] W fun e w'=>e= .returned (EX s r l)/\Below W W w':=by
 have Hv:=a6 (fun(w':World) (hb:Below W W w')=>hv.keep hb hb.size);have Hr:=a6 (fun(w':World) (hb:Below W W w') (k:List UInt8)=>l_k r a c k w' (hr.keep hb hb.size) hk);have Hl:=a6 (fun(w':World) (hb:Below W W w')=>hl.keep hb hb.size);obtain⟨sa,sc,css,ea,ec,o0,o1,o2,o3,o4,o5,rfl, -, -, -, -⟩:=hv.open;have HO:=a6 (fun(w':World) (hb:Below W W w') (k:List UInt8)=>b_O s _ k w' hw (Hv.o w' hb));have h3:=a6 (fun(k:List UInt8)=>show (cJ s k).kids.length <= 100000000 by have:=M0 (cJ s k);have:=a_B s k;omega);obtain⟨R,hR⟩:∃R,R=EX s r l:=⟨_,rfl⟩;have HR:=a6 (show (!J1 s r && ((l.drop 0).all (zK s r) && C3 r))=R from hR.symm);rw [<- hR];obtain⟨w0,p⟩:∃w0,w0=((W.alloc (Obj.cells #[(sa,s.rules.length,sc),aZ s.els.type,s.els.text.1,aZ s.els.text.2,s.els.other.1,aZ s.els.other.2,(ea,s.els.kids.length,ec),s.els.fill,aZ s.els.fillT,o0,o1,o2,o3,o4,o5,s.cap] 30)).alloc (Obj.cells #[aZ r.type,r.text.1,aZ r.text.2,r.other.1,aZ r.other.2,(a,r.kids.length,c),r.fill,aZ r.fillT] 27)).alloc (Obj.cells #[r.text.1,aZ r.text.2] 24):=⟨_,rfl⟩;have S:Below W W w0:=by rw [p];exact iK _ _ _ _
 have hA:At w0 W [(sa,s.rules.length,sc),aZ s.els.type,s.els.text.1,aZ s.els.text.2,s.els.other.1,aZ s.els.other.2,(ea,s.els.kids.length,ec),s.els.fill,aZ s.els.fillT,o0,o1,o2,o3,o4,o5,s.cap] 30:=by rw [p];exact((At.fresh W _ _).alloc _).alloc _
 have hX:At w0 (W+1) [aZ r.type,r.text.1,aZ r.text.2,r.other.1,aZ r.other.2,(a,r.kids.length,c),r.fill,aZ r.fillT] 27:=by rw [p];exact(At.second W _ _ _).alloc _
 have hY:At w0 (W.heap.size+1+1) [r.text.1,aZ r.text.2] 24:=by rw [p];exact At.third W _ _ _ _
 have D:=fun(w':World) (h:At w' W [(sa,s.rules.length,sc),aZ s.els.type,s.els.text.1,aZ s.els.text.2,s.els.other.1,aZ s.els.other.2,(ea,s.els.kids.length,ec),s.els.fill,aZ s.els.fillT,o0,o1,o2,o3,o4,o5,s.cap] 30)=>E1 (P:=Tryz.prog) h Tryz.underlying30 rfl P3
 simp [go_sem]at D
 have Y:=a6 D;have E:=fun(w':World) (h:At w' (W+1) [aZ r.type,r.text.1,aZ r.text.2,r.other.1,aZ r.other.2,(a,r.kids.length,c),r.fill,aZ r.fillT] 27)=>E1 (P:=Tryz.prog) h Tryz.underlying27 rfl P3
 simp [go_sem]at E
 have Z:=a6 E;have H0:=a6 p;have F:=a6 S;have HA:=a6 hA;have HX:=a6 hX;have HY:=a6 hY
 have u:=D w0 hA;have f:=E w0 hX;have xl:=hX.lt;obtain⟨⟨y0,y1⟩, -,yl⟩:=hY.f2;have HT:=a6 (Hr.o w0 S r.text.2);clear hv hw hr hl D E p S hA hX hY hR;go_enter Tryz.func47,Tryz.ntmps47;go_upto_region 2 with fail;rw [<- H0.o];clear H0;go_cut [32] (fun b wx=>b= .bool (J1 s r)/\Hid (Below w0 w0 wx))
 case first=>
  by_cases h4:r.text.1=4
  ·
    obtain⟨A1,hA1⟩:∃A1,A1=lJ r r.text.2:=⟨_,rfl⟩;obtain⟨D1,T⟩:∃D1,D1=(cJ s r.text.2).text.1:=⟨_,rfl⟩;have HB:=a6 (show J1 s r=(decide (A1.1≠1) || decide (D1≠1))by unfold J1;rw [h4, <- hA1, <- T];simp);rw [<- hA1]at HT;rw [h4]at y0;have h5:=a6 T
    obtain⟨a1,t1⟩:=A1;simp only at HB;clear hA1 T h4;have H1:=e_R
    have h6:=e_S;go_wp2_with fail;refine HT.o.mono ?_;rintro e w1 ⟨rfl,d⟩;by_cases G:a1=1
    ·
      subst G;have q:=a6 (HO.o w1 (F.o.trans (d.mono F.o.size)) r.text.2)
      have j:=a6 d;have w:=Y.o w1 (HA.o.kept d);obtain⟨⟨z0,z1⟩, -,zl⟩:=(HY.o.kept d).f2;clear d HT f y0 y1 u;go_wp2_with fail;refine q.o.mono ?_;rintro e w2 ⟨ka,kc,rfl, -,d⟩;have t:=a6 (j.o.trans (d.mono j.o.size))
      clear d q z0 z1 w;rw [<- h5.o];have h7:=l_l D1
      go_wp2_with fail
      go_meet
      case rel=>exact⟨by rw [HB.o];simp,t⟩
    have U:(a1 == 1)=false:=beq_eq_false_iff_ne.2 G;have Hz:=a6 (show J1 s r=true by rw [HB.o];simp [G]);have H2:(a1 != 1)=true:=by simp [G]
    have j:=a6 d;clear d HT f y0 y1 u;go_wp2_with fail
    go_meet
    case rel=>exact⟨by rw [Hz.o],j⟩
  ·
    have h8:(r.text.1 == 4)=false:=beq_eq_false_iff_ne.2 h4;have Hz:=a6 (show J1 s r=false by unfold J1;simp [h4]);go_wp2_with fail
    go_meet
    case rel=>exact⟨by rw [Hz.o],(show Below _ _ _ from a7)⟩
 case rest=>
  obtain⟨wC,rfl⟩:∃wC,wC=wc:=⟨_,rfl⟩;obtain⟨rfl,H⟩:=hcut;have H3:=a6 (HA.o.kept H.o);have I:=a6 (HX.o.kept H.o);have m:=a6 (F.o.trans (H.o.mono F.o.size));have J5:=I.o.lt;obtain⟨B,hB⟩:∃B,B=J1 s r:=⟨_,rfl⟩;rw [<- hB]at HR⊢;clear hB y0 y1 yl u f HT H HA HX HY xl;cases B with
  | true=>
    have Hz:=a6 (show false=R from HR.o);go_wp2_with fail;go_ret;exact⟨bJ Hz.o,m.o⟩
  | false =>
    have h9:=a6 (show ((l.drop 0).all (zK s r) && C3 r)=R from HR.o);clear HR;go_wp2_with fail
    go_loopg [35] l.length (fun g i wr=>∃k:Nat,i= .int .i64 k/\k+g=l.length/\Hid (((l.drop k).all (zK s r) && C3 r)=R)/\Hid (Below wC.heap.size wC wr))
    case atStart=>exact⟨0,rfl,by omega,h9,(show Below _ _ _ from a7)⟩
    case round=>
     obtain⟨k,rfl,hg,J,y⟩:=hrel;have n:=a6 (m.o.trans (y.o.mono m.o.size));have K:=I.o.kept y.o;have H4:=H3.o.kept y.o;have J6:=K.lt;have f:=Z.o wr K;have J0:=a6 K;have j0:=a6 H4
     clear K H4;by_cases H5:k < l.length
     . have J7:(k:Int) < l.length:=P2
       obtain⟨b,off,rfl,J2,hc⟩:=h_5 (Hl.o wr n.o) k H5;have L:=a6 (show (zK s r l[k] && ((l.drop (k+1)).all (zK s r) && C3 r))=R by
        have h:=J.o;rw [NX H5,List.all_cons,Bool.and_assoc]at h;exact h)
       generalize l[k]=x at hc L;have HT:=a6 (Hr.o wr n.o x);obtain⟨A1,hA1⟩:∃A1,A1=lJ r x:=⟨_,rfl⟩;rw [<- hA1]at HT;have HW:=a6 (show zK s r x= !(decide (A1.1=4) && (decide ((lJ r A1.2).1≠1) || decide ((lJ (cJ s A1.2) x).1≠1)))by rw [hA1];rfl)
       obtain⟨a1,t1⟩:=A1;simp only at HW;clear hA1 J J2;have H1:=e_R
       go_wp2_with fail;refine HT.o.mono ?_;rintro e w1 ⟨rfl,d⟩;have j:=a6 (y.o.trans (d.mono y.o.size))
       clear d HT hc f;obtain⟨w2,M⟩:∃w2,w2=w1.alloc (Obj.cells #[a1,aZ t1] 24):=⟨_,rfl⟩;have z:Below wC.heap.size wC w2:=by rw [M];exact j.o.trans ((b7 w1 _).mono j.o.size)
       have hY:At w2 w1 [a1,aZ t1] 24:=by rw [M];exact At.fresh w1 _ _
       have H6:=a6 M;have t:=a6 z
       have A:=m.o.trans (z.mono m.o.size);have O:=a6 A;have HY:=a6 hY;obtain⟨⟨y0,y1⟩, -,yl⟩:=hY.f2;have f:=Z.o w2 (I.o.kept z);have HT:=a6 (Hr.o w2 A t1);have J8:=(I.o.kept z).lt;clear M z hY A;go_upto_region 8 with fail
       rw [<- H6.o];clear H6;go_cut [62] (fun b wx=>b= .bool (!zK s r x)/\Hid (Below w2 w2 wx))
       case first=>
        by_cases h4:a1=4
        ·
          subst h4;obtain⟨A2,V⟩:∃A2,A2=lJ r t1:=⟨_,rfl⟩;obtain⟨Q,hQ⟩:∃Q,Q=cJ s t1:=⟨_,rfl⟩;rw [<- V]at HT;have HB:=a6 (show (!zK s r x)=(decide (A2.1≠1) || decide ((lJ Q x).1≠1))by rw [HW.o, <- V, <- hQ];simp)
          have HQ:=a6 hQ;have J3:=a6 (show Q.kids.length <= 100000000 by rw [hQ];exact h3.o t1);obtain⟨a2,t2⟩:=A2;simp only at HB;clear V hQ;have h6:=e_S
          go_wp2_with fail;refine HT.o.mono ?_;rintro e w3 ⟨rfl,d⟩;by_cases N:a2=1
          . subst N
            have q:=a6 (HO.o w3 (O.o.trans (d.mono O.o.size)) t1);rw [<- HQ.o]at q;have o:=a6 d
            have w:=Y.o w3 (H3.o.kept (t.o.trans (d.mono t.o.size)));obtain⟨⟨z0,z1⟩, -,zl⟩:=(HY.o.kept d).f2;clear d HT y0 y1 f;go_wp2_with fail;refine q.o.mono ?_;rintro e w4 ⟨ka,kc,rfl,hq,d⟩;have H7:=a6 (o.o.trans (d.mono o.o.size))
            have X:=a6 (l_k Q ka kc x w4 hq.row J3.o);obtain⟨A3,H8⟩:∃A3,A3=lJ Q x:=⟨_,rfl⟩;rw [<- H8]at X HB;obtain⟨a3,t3⟩:=A3;simp only at HB;clear d q z0 z1 w hq H8;go_wp2_with fail;refine X.o.mono ?_;rintro e w5 ⟨rfl,d⟩;have J4:=a6 (H7.o.trans (d.mono H7.o.size))
            have h7:=l_l a3;clear d X;go_wp2_with fail
            go_meet
            case rel=>exact⟨by rw [HB.o];simp,J4⟩
          have U:(a2 == 1)=false:=beq_eq_false_iff_ne.2 N;have Hz:=a6 (show (!zK s r x)=true by rw [HB.o];simp [N]);have H2:(a2 != 1)=true:=by simp [N]
          have o:=a6 d;clear d HT y0 y1 f;go_wp2_with fail
          go_meet
          case rel=>exact⟨by rw [Hz.o],o⟩
        have h8:(a1 == 4)=false:=beq_eq_false_iff_ne.2 h4;have Hz:=a6 (show (!zK s r x)=false by rw [HW.o];simp [h4]);go_wp2_with fail
        go_meet
        case rel=>exact⟨by rw [Hz.o],(show Below _ _ _ from a7)⟩
       case rest=>
        obtain⟨rfl,H9⟩:=hcut;have o:=a6 (show Below wC.heap.size wC _ from t.o.trans (H9.o.mono t.o.size));obtain⟨B,hB⟩:∃B,B=zK s r x:=⟨_,rfl⟩;rw [<- hB]at L⊢;clear hB y0 y1 yl f HT H9 HY HW;cases B with
        | false=>
          have Hz:=a6 (show false=R from L.o);go_wp2_with fail;go_ret;exact⟨bJ Hz.o,m.o.trans (o.o.mono m.o.size)⟩
        | true=>
          have HN:=a6 (show ((l.drop (k+1)).all (zK s r) && C3 r)=R from L.o);go_wp2_with fail
          go_roundg (l.length - (k+1))
          case measure=>omega
          case rel=>exact⟨k+1,by go_num,by omega,HN,o⟩
     obtain rfl:k=l.length:=P2
     have C:=a6 (show C3 r=R by have h:=J.o;rw [List.drop_length]at h;simpa using h);have j1:¬ (l.length:Int) < l.length:=P2
     have HT:=a6 (Hr.o wr n.o r.fillT);obtain⟨⟨x0,x1,x2,x3,x4,x5,x6,x7⟩, -,xl⟩:=J0.o.f8;have H1:=e_R;clear J x0 x2 x3 x4 x5;by_cases h1:r.fill=1
     . have Hz:=a6 (show decide (r.text.1=1)=R by rw [<- C.o];unfold C3;rw [if_pos h1])
       rw [h1]at x6;have h0:(r.text.1 == 1)=decide (r.text.1=1):=by by_cases h:r.text.1=1 <;> simp [h]
       clear h1 f;go_wp2_with fail;go_ret;exact⟨bJ (by rw [<- Hz.o]),n.o⟩
     have U:(r.fill == 1)=false:=beq_eq_false_iff_ne.2 h1
     by_cases h2:r.fill=2
     . have Hz:=a6 (show decide ((lJ r r.fillT).1=1)=R by rw [<- C.o];unfold C3;rw [if_neg h1,if_pos h2])
       obtain⟨A1,hA1⟩:∃A1,A1=lJ r r.fillT:=⟨_,rfl⟩;rw [<- hA1]at HT Hz;obtain⟨a1,t1⟩:=A1;simp only at Hz;rw [h2]at x6;have h0:(a1 == 1)=decide (a1=1):=by by_cases h:a1=1 <;> simp [h]
       clear h1 U h2 hA1;go_wp2_with fail;refine HT.o.mono ?_;rintro e w1 ⟨rfl,d⟩;have j:=a6 (n.o.trans (d.mono n.o.size))
       clear d HT f;go_wp2_with fail;go_ret;exact⟨bJ (by rw [<- Hz.o]),j.o⟩
     have j2:(r.fill == 2)=false:=beq_eq_false_iff_ne.2 h2;have Hz:=a6 (show true=R by rw [<- C.o];unfold C3;rw [if_neg h1,if_neg h2]);clear f;go_wp2_with fail;go_ret;exact⟨bJ Hz.o,n.o⟩
end Go.Proofs.YtmadpclcmjahoaaGreatDoor

/- Parts of the proof: CC8. -/
import Derived.Test.YtmadpclcmjahoaaGreatDoorCC7
import Derived.Shelf.Strings.SlTrimAscii
import Derived.Laws.Cover1
import Derived.Lib.SlTrimSet
import Derived.Deep.RegionWith
set_option linter.unusedVariables false
set_option linter.unusedSimpArgs false
set_option maxHeartbeats 8000000
set_option maxRecDepth 100000
namespace Go.Proofs.YtmadpclcmjahoaaGreatDoor
open Go.RowKit Go.Redl
def D3 (z:Int):Bool:=decide (z < 0) || decide (1048576 < z)
def bX (l:List Int):Bool:=l.all fun z=> !D3 z
theorem q_2 (n:Nat) (a:Option Addr) (cap cb:Nat) (caps:Array Value) (pred:Nat ->Bool) (W:World) (hn:n <= 100000000) (p:∀args w,(callFunc cb args).run Tryz.prog w= .ok (.enter cb args) w)
 (H:∀ (k:Nat) (W':World),k < n ->Below W W W' ->∃b off c0,a=some ⟨b,off,none⟩/\W'.cell? ⟨b,off+k,none⟩=some c0/\Calls Tryz.prog cb (#[c0] ++ caps) W' fun e w'=>e= .returned (pred k)/\Below W' W' w'):
 Calls Tryz.prog 245 #[(a,n,cap), .func (.func cb) #[] caps] W fun e w'=>e= .returned (uZ pred n)/\Below W W w':=by
 have HH:=a6 H;clear H;go_enter Tryz.func245,Tryz.ntmps245;go_wp2_with fail
 go_loopg [8] n (fun g i wr=>∃k:Nat,k+g=n/\i= .int .i64 k/\(∀j,j < k ->pred j=false)/\Below W W wr)
 case atStart=>exact⟨0,by omega,rfl,by intro j hj;omega,a7⟩
 case round=>
  obtain⟨k,hg,rfl,hb,f⟩:=hrel;have d:=a6 f;have Hb:=a6 hb
  by_cases m:k < n
  . obtain ⟨b,off,c0,rfl,h0,hC⟩:=HH.o k wr m f
    have o:(k:Int) < n:=P2
    clear hb f HH;cases hp:pred k with
    | true=>
      rw [hp]at hC;have HC:=a6 hC
      have Hr:=a6 (vQ m hp Hb.o);clear hC hp;go_wp2_with fail;refine HC.o.mono ?_;rintro e w1 ⟨rfl,c⟩;have l:=a6 (d.o.trans (c.mono d.o.size))
      clear c HC;go_wp2_with fail;go_ret;exact⟨dV Hr.o.symm,l.o⟩
    | false=>
      rw [hp]at hC;have HC:=a6 hC
      have Hr:=a6 (show ∀j,j < k+1 ->pred j=false from fun j hj=>by
       rcases Nat.lt_or_ge j k with h | h
       . exact Hb.o j h
       obtain rfl:j=k:=P2
       exact hp)
      clear hC hp;go_wp2_with fail;refine HC.o.mono ?_;rintro e w1 ⟨rfl,c⟩;have l:=a6 (d.o.trans (c.mono d.o.size))
      clear c HC;go_wp2_with fail
      go_roundg (gk - 1)
      case measure=>omega
      case rel=>exact⟨k+1,by omega,by go_num,Hr.o,l.o⟩
  obtain rfl:k=n:=P2
  have Hr:=a6 (tK hb);clear hb f HH;go_wp2_with fail;go_ret;exact⟨dV Hr.o.symm,d.o⟩
theorem n_M (z:Int) (W:World):Calls Tryz.prog 195 #[z] W fun e w'=>e= .returned (D3 z)/\Below W W w':=by
 unfold D3;by_cases h:z < 0
 . have H:=a6 h
   go_enter Tryz.func195,Tryz.ntmps195
   go_wp2_with fail;go_ret;exact⟨bJ (by simp [H.o]),a7⟩
 have H:=a6 h;have hd:decide (z < 0)=false:=O3 h
 go_enter Tryz.func195,Tryz.ntmps195
 go_wp2_with fail;go_ret;exact⟨bJ (by simp [H.o]),a7⟩
theorem h_C (l:List Int):decide (0 <= uZ (fun k=>D3 (l.getD k 0)) l.length)= !bX l:=by
 unfold bX;rcases jV (fun k=>D3 (l.getD k 0)) l.length with⟨k,hk,h1, -,he⟩ | ⟨h1,he⟩
 . rw [he]
   have:l.all (fun z=> !D3 z)=false:=by
    rw [List.all_eq_false];refine⟨l[k],NY hk, ?_⟩;rw [gK hk]at h1;simp [h1]
   rw [this];simp
 rw [he];have:l.all (fun z=> !D3 z)=true:=by
  rw [List.all_eq_true];intro z hz;obtain⟨k,hk,rfl⟩:=List.mem_iff_getElem.1 hz;have:=h1 k hk;rw [gK hk]at this;simp [this]
 rw [this];rfl
theorem q_3 (xs:List Int) (a:Option Addr) (cap B:Nat) (W:World) (hr:RowA W B 1 a xs.length cap (xs.map (Value.int .i64))) (hB:B <= W.heap.size) (hn:xs.length <= 100000000):
 Calls Tryz.prog 194 #[(a,xs.length,cap), .func (.func 195) #[] #[]] W fun e w'=>e= .returned (!bX xs)/\Below W W w':=by
 have HI:=a6 (q_2 xs.length a cap 195 #[] (fun k=>D3 (xs.getD k 0)) W hn P5 fun k W' hk hb=>by
  obtain⟨b,off,rfl,d,hc⟩:=hr.int_at k hk;exact⟨b,off, .int .i64 (xs.getD k 0),rfl,(hb.cell (by exact Nat.lt_of_lt_of_le d hB)).trans (hc k hk),n_M _ W'⟩)
 have Hd:=a6 (h_C xs);generalize uZ (fun k=>D3 (xs.getD k 0)) xs.length=z at HI Hd;clear hr;go_enter Tryz.func194,Tryz.ntmps194;go_wp2_with fail;refine HI.o.mono ?_;rintro e w1 ⟨rfl,c⟩;have Hb:=a6 c
 clear c HI;go_wp2_with fail;go_ret;exact⟨bJ Hd.o,Hb.o⟩
theorem B9 (xs:List Int) (a:Option Addr) (cap B:Nat) (W:World) (hr:RowA W B 1 a xs.length cap (xs.map (Value.int .i64))) (hB:B <= W.heap.size) (hn:xs.length <= 100000000):
 Calls Tryz.prog 140 #[(a,xs.length,cap)] W fun e w'=>e= .returned (bX xs)/\Below W W w':=by
 have HI:=a6 (q_3 xs a cap B W hr hB hn);clear hr;generalize bX xs=z at HI⊢
 go_enter Tryz.func140,Tryz.ntmps140
 go_wp2_with fail;refine HI.o.mono ?_;rintro e w1 ⟨rfl,b⟩;have Hb:=a6 b
 clear b HI;go_wp2_with fail;go_ret;exact⟨bJ P6,Hb.o⟩
theorem l_P (v:Value) (W:World):Calls Tryz.prog 141 #[(),v] W fun e w'=>e= .returned OY/\w'=W:=by
 go_enter Tryz.func141,Tryz.ntmps141
 go_wp2_with fail;go_ret;exact⟨rfl,rfl⟩
def r_l (W:World) (p:List Int) (e:Ending) (w':World):Prop:=
 Below W W w'/\if bX p then ∃v,e= .returned (.tuple #[v,true])/\w'.ownsRow W 3 1 v p.length (p.map (Value.int .i64)) else e= .returned (.tuple #[(),false])
theorem q_4 (xs:List Int) (a:Option Addr) (cap B:Nat) (W:World) (hr:RowA W B 1 a xs.length cap (xs.map (Value.int .i64))) (hB:B <= W.heap.size) (hn:xs.length <= 100000000):
 Calls Tryz.prog 69 #[(a,xs.length,cap), .agg #[OY,(),(),OY,false,(),(),(),(),(),(),false,(),OY,(),OY,false,(),OY,(),OY]] W (r_l W xs):=by
 obtain⟨w0,f⟩:∃w0,w0=W.alloc (Obj.cells #[OY,(),(),OY,false,(),(),(),(),(),(),false,(),OY,(),OY,false,(),OY,(),OY] 55):=⟨_,rfl⟩;have c:Below W W w0:=t_K
 have hA:At w0 W [OY,(),(),OY,false,(),(),(),(),(),(),false,(),OY,(),OY,false,(),OY,(),OY] 55:=by rw [f];exact At.fresh W _ _
 have HS:=a6 (B9 xs a cap B w0 (hr.keep (c.mono hB) (a8)) (aJ hB c.size) hn);have HN:=a6 (fun(w1:World)=>B9 [] none 0 0 w1 (RowA.empty _ _ _) (Nat.zero_le _) P6);have HZ:=a6 (fun(w1:World) (p:Option Addr) (hp:RowA w1 w1 1 p 1 1 [OY])=>B9 [0] p 1 w1 w1 hp (a8) P6);have HT:=a6 (fun(w1:World)=>l_P (a,xs.length,cap) w1);have HC:=a6 (fun(w1:World) (hb:Below w0 w0 w1)=>pZ B xs.length a cap (xs.map (Value.int .i64)) w1 (hr.keep ((c.trans (hb.mono c.size)).mono hB) (a8)) (aJ hB (c.trans (hb.mono c.size)).size) hn);have e0:bX []=true:=rfl;have e1:bX [0]=true:=P9
 rw [e0]at HN;rw [e1]at HZ;have HA:=a6 hA;have d:=a6 c;have h:=a6 f
 unfold r_l;cases i:bX xs with
 | false=>
   rw [i]at HS;clear hr c hA f i e0 e1;go_enter Tryz.func69,Tryz.ntmps69;go_upto_region 1 with fail;rw [<- h.o];clear h;go_wp2_with fail;refine HS.o.mono ?_;rintro e w1 ⟨rfl,b⟩;have k:=a6 (d.o.trans (b.mono d.o.size))
   clear b HS HN HZ HT HC HA;go_wp2_with fail;go_ret2;exact⟨k.o,rfl⟩
 | true=>
   rw [i]at HS;have c0:=hA.cell 0 rfl;have c1:=hA.cell 1 rfl;have c2:=hA.cell 2 rfl;have c3:=hA.cell 3 rfl
   have cl:=hA.lt;clear hr c hA f i e0 e1;go_enter Tryz.func69,Tryz.ntmps69;go_upto_region 1 with fail;rw [<- h.o];clear h;go_wp2_with fail;refine HS.o.mono ?_;rintro e w1 ⟨rfl,b⟩;have hA1:=HA.o.kept b
   have d1:=hA1.cell 1 rfl;have dl:=hA1.lt
   have k:=a6 b;clear b HS hA1 c0 c1 c2 c3 cl;go_wp2_with fail;refine(HN.o w1).mono ?_;rintro e w2 ⟨rfl,b⟩;have q:=a6 (b6 k.o b)
   have l:=HA.o.kept q.o;have f2:=l.cell 2 rfl;have fl:=l.lt
   clear b l d1 dl;go_wp2_with fail;refine(HN.o w2).mono ?_;rintro e w3 ⟨rfl,b⟩;have m:=a6 (b6 q.o b)
   have n:=HA.o.kept m.o;have g3:=n.cell 3 rfl;have gl:=n.lt
   clear b n f2 fl HN;go_wp2_with fail;refine(HZ.o _ _ (B6 w3 OY 3 _ rfl P6)).mono ?_;rintro e w4 ⟨rfl,b⟩;have j:=a6 (b6 (m.o.trans ((b7 w3 (Obj.cells #[Value.int .i64 0] 3)).mono m.o.size)) b)
   have o:=HA.o.kept j.o;have k1:=o.cell 1 rfl;have kl:=o.lt
   clear b o g3 gl HZ;go_wp2_with fail;refine(HT.o w4).mono ?_;rintro e w5 ⟨rfl,rfl⟩;clear HT k1 kl;go_wp2_with fail;refine(HC.o w5 j.o).mono ?_;rintro e w6 ⟨v,rfl,g,b⟩;obtain⟨va,vc,hv, -⟩:=nV g (JV .i64 xs);subst hv;have r:=a6 g;have s:=a6 (d.o.trans ((b6 j.o b).mono d.o.size))
   have t:=a6 (d.o.trans (j.o.mono d.o.size)).size;clear g b HC;go_wp2_with fail;go_ret2;exact⟨s.o,_,rfl,qK r.o t.o⟩
end Go.Proofs.YtmadpclcmjahoaaGreatDoor
namespace Go.Proofs
open Go.Shelf
def Tryz.lays160_ren:Go.Shelf.Ren:=⟨fun | 160=>164 | 232=>217 | 231=>216 | 227=>218 | 234=>220 | 233=>219 | 236=>222 | 235=>221 | 228=>254 | 271=>257 | 151=>256 | 197=>255 | 120=>276 | 152=>275 | 260=>274 | 137=>290 | 119=>172 | 224=>291 | 225=>292 | 217=>297 | 266=>299 | n=>n,fun | 9=>9 | 4=>4 | 3=>3 | 5=>5 | 117=>248 | 116=>247 | 0=>0 | 124=>251 | 21=>21 | 105=>284 | 46=>195 | 119=>310 | 139=>313 | 138=>312 | n=>n,fun | 3=>0 | 4=>1 | n=>n⟩
theorem Tryz.lays160:Go.Proofs.Lays.n160 Tryz.prog Tryz.lays160_ren:={
 mixed:=P3
 f119:=Tryz.func172.trans (congrArg some P3)
 f120:=Tryz.func276.trans (congrArg some P3)
 f137:=Tryz.func290.trans (congrArg some P3)
 f151:=Tryz.func256.trans (congrArg some P3)
 f152:=Tryz.func275.trans (congrArg some P3)
 f160:=Tryz.func164.trans (congrArg some P3)
 f197:=Tryz.func255.trans (congrArg some P3)
 f217:=Tryz.func297.trans (congrArg some P3)
 f224:=Tryz.func291.trans (congrArg some P3)
 f225:=Tryz.func292.trans (congrArg some P3)
 f227:=Tryz.func218.trans (congrArg some P3)
 f228:=Tryz.func254.trans (congrArg some P3)
 f231:=Tryz.func216.trans (congrArg some P3)
 f232:=Tryz.func217.trans (congrArg some P3)
 f233:=Tryz.func219.trans (congrArg some P3)
 f234:=Tryz.func220.trans (congrArg some P3)
 f235:=Tryz.func221.trans (congrArg some P3)
 f236:=Tryz.func222.trans (congrArg some P3)
 f260:=Tryz.func274.trans (congrArg some P3)
 f266:=Tryz.func299.trans (congrArg some P3)
 f271:=Tryz.func257.trans (congrArg some P3)
 t0:=Tryz.underlying0
 a0:=Tryz.isAgg0
 z0:=Tryz.sizeOf0
 v0:=Tryz.zeroValue0
 t3:=Tryz.underlying3
 a3:=Tryz.isAgg3
 z3:=Tryz.sizeOf3
 v3:=Tryz.zeroValue3
 t4:=Tryz.underlying4
 a4:=Tryz.isAgg4
 z4:=Tryz.sizeOf4
 v4:=Tryz.zeroValue4
 t5:=Tryz.underlying5
 a5:=Tryz.isAgg5
 z5:=Tryz.sizeOf5
 v5:=Tryz.zeroValue5
 t9:=Tryz.underlying9
 a9:=Tryz.isAgg9
 z9:=Tryz.sizeOf9
 v9:=Tryz.zeroValue9
 t21:=Tryz.underlying21
 a21:=Tryz.isAgg21
 z21:=Tryz.sizeOf21
 v21:=Tryz.zeroValue21
 t46:=Tryz.underlying195
 a46:=Tryz.isAgg195
 z46:=Tryz.sizeOf195
 v46:=Tryz.zeroValue195
 t105:=Tryz.underlying284
 a105:=Tryz.isAgg284
 z105:=Tryz.sizeOf284
 v105:=Tryz.zeroValue284
 t116:=Tryz.underlying247
 a116:=Tryz.isAgg247
 z116:=Tryz.sizeOf247
 t117:=Tryz.underlying248
 a117:=Tryz.isAgg248
 z117:=Tryz.sizeOf248
 v117:=Tryz.zeroValue248
 t119:=Tryz.underlying310
 a119:=Tryz.isAgg310
 z119:=Tryz.sizeOf310
 t124:=Tryz.underlying251
 a124:=Tryz.isAgg251
 z124:=Tryz.sizeOf251
 v124:=Tryz.zeroValue251
 t138:=Tryz.underlying312
 a138:=Tryz.isAgg312
 z138:=Tryz.sizeOf312
 v138:=Tryz.zeroValue312
 t139:=Tryz.underlying313
 a139:=Tryz.isAgg313
 z139:=Tryz.sizeOf313
 v139:=Tryz.zeroValue313
 g3:=P3
 g4:=by kernel_rfl }
open Go.RowKit in
theorem Tryz.strings_Trim_set (s cutset:ByteArray) (w:World) (hs:s.size <= 9223372036854775807) (c:cutset.size < 4294967281) (a:∀ (j:Nat) b,cutset.data.toList[j]? =some b ->b.toNat < 128):
 Calls Tryz.prog 164 #[s,cutset] w fun e w'=>e= .returned (.string ⟨(Lib.trimS s.data.toList cutset.data.toList).toArray⟩)/\Below w w w':=Any.strings_Trim_laid Tryz.lays160 P3 s cutset w hs c a
end Go.Proofs
namespace Go.Proofs.YtmadpclcmjahoaaGreatDoor
open Go.RowKit Go.Redl
def h_D (c:UInt8):Bool:=decide (97 <= c.toNat/\c.toNat <= 122)
def a_1 (c:UInt8):Bool:=h_D c || decide (48 <= c.toNat/\c.toNat <= 57) || c == 45
def f_u (s:List UInt8):Bool:=decide (1 <= s.length/\s.length <= 16) && s.all h_D
def d_v (s:List UInt8):Bool:=decide (s.length <= 32) && s.all a_1
def leB (a b:List UInt8):Bool:=Op.bytesLess a b || a == b
def zY:List UInt8 ->List fQ ->Int
 | _, []=>0
 | last,p::ps=>if f_u p.1 && d_v p.2 then (if leB p.1 last then 1 else zY p.1 ps) else 3
def uQ (ps:List fQ):Int:=if 16 < ps.length then 2 else zY [] ps
def e_5 (ps:List fQ) (k:Nat):List UInt8:=match k with | 0=> [] | k+1=>(ps.getD k ([], [])).1
theorem g_H {ps:List fQ} {k:Nat} (h:k < ps.length):zY (e_5 ps k) (ps.drop k)=if f_u ps[k].1 && d_v ps[k].2 then (if leB ps[k].1 (e_5 ps k) then 1 else zY (e_5 ps (k+1)) (ps.drop (k+1))) else 3:=by
 conv=>lhs;rw [NX h]
 simp only [zY];rw [show e_5 ps (k+1)=ps[k].1 by show (ps.getD k ([], [])).1=_;rw [gK h]]
theorem h_E {ps:List fQ} {l:List UInt8}:zY l (ps.drop ps.length)=0:=by simp [zY]
def I1 (l:Bool) (ps:List fQ) (t:List Int) (m:Nat):Int:=if uQ ps≠0 then uQ ps else if (l && decide (0 < m)) || (!l && decide (0 < t.length)) then 7 else b_2 t
mutual
def dQ:aX ->Int
 | .mk l ps t ks=>if I1 l ps t ks.length≠0 then I1 l ps t ks.length else a_2 ks
def a_2:List aX ->Int
 | []=>0
 | k::ks=>if dQ k≠0 then dQ k else a_2 ks
end
mutual
def a_3:aX ->Nat
 | .mk _ _ t ks=>1+t.length+MY ks
def MY:List aX ->Nat
 | []=>0
 | k::ks=>a_3 k+MY ks
end
mutual
theorem e_6:∀n:aX,a_3 n <= n.wt
 | .mk l ps t ks=>by have:=h_F ks;simp only [a_3,aX.wt];omega
theorem h_F:∀ks:List aX,MY ks <= fY ks
 | []=>by simp [MY,fY]
 | k::ks=>by have:=e_6 k;have:=h_F ks;simp only [MY,fY];omega
end
theorem g_I (ps:List fQ) (k:Nat):iQ (ps.take k) <= iQ ps:=by
 induction ps generalizing k with
 | nil=>simp
 | cons p ps ih=>
   cases k with
   | zero=>simp [iQ]
   | succ k=>have:=ih k;simp only [List.take_succ_cons,iQ];omega
theorem J5 {α :Type} {p: α ->Bool}:∀ {l:List α},(∀x∈l.dropWhile p,p x=true) ->∀x∈l,p x=true
 | [],_=>by simp
 | a ::l,h=>by
   cases ha:p a with
   | true=>
     rw [List.dropWhile_cons_of_pos ha]at h;intro x hx;rcases OJ hx with rfl | hx
     . exact ha
     exact J5 h x hx
   | false=>
     rw [List.dropWhile_cons_of_neg t_v]at h;have:=h a P6;rw [ha]at this;cases this
theorem a_4 {α :Type} {p: α ->Bool}:∀ {l:List α},(∀x∈l,p x=true) ->l.dropWhile p= []
 | [],_=>rfl
 | a::l,h=>by
   rw [List.dropWhile_cons_of_pos (h a P6)];exact a_4 fun x hx=>h x t_u
theorem n_N (l cs:List UInt8):Lib.trimS l cs= [] ↔ l.all (cs.contains ·)=true:=by
 unfold Lib.trimS Lib.trimLeftS Lib.trimRightS;rw [List.all_eq_true];constructor
 . intro h
   have h1:∀x∈ (l.reverse.dropWhile (cs.contains ·)).reverse,cs.contains x=true:=J5 (by rw [h];simp);have h2:∀x∈l.reverse,cs.contains x=true:=J5 fun x hx=>h1 x (List.mem_reverse.2 hx)
   exact fun x hx=>h2 x TQ
 intro h;rw [a_4 (l:=l.reverse) fun x hx=>h x TQ]
 rfl
def j_p:List UInt8:= [97,98,99,100,101,102,103,104,105,106,107,108,109,110,111,112,113,114,115,116,117,118,119,120,121,122]
def g_J:List UInt8:= [97,98,99,100,101,102,103,104,105,106,107,108,109,110,111,112,113,114,115,116,117,118,119,120,121,122,48,49,50,51,52,53,54,55,56,57,45]
theorem q_5 (c:UInt8):j_p.contains c=h_D c:=by
 have h:∀n:Fin 256,j_p.contains (UInt8.ofNat n.1)=h_D (UInt8.ofNat n.1):=TY
 have:=h ⟨c.toNat,c.toNat_lt⟩
 simpa using this
theorem k_Y (c:UInt8):g_J.contains c=a_1 c:=by
 have h:∀n:Fin 256,g_J.contains (UInt8.ofNat n.1)=a_1 (UInt8.ofNat n.1):=TY
 have:=h ⟨c.toNat,c.toNat_lt⟩
 simpa using this
theorem q_6 {s cs:List UInt8} {p:UInt8 ->Bool} (h:∀c,cs.contains c=p c):s.all (cs.contains ·)=s.all p:=by
 congr 1;funext c;exact h c
theorem j_q (s cs:List UInt8) (p:UInt8 ->Bool) (hp:∀c,cs.contains c=p c) (hc:cs.length <= 1000) (ha:cs.all (fun b=>decide (b.toNat < 128))=true) (w:World) (hn:s.length <= 1000000000):
 (s.all p=true ->Calls Tryz.prog 164 #[.string ⟨s.toArray⟩, .string ⟨cs.toArray⟩] w fun e w'=>e= .returned (.string ⟨#[]⟩)/\Below w w w')/\
 (s.all p=false ->∃y ys,Calls Tryz.prog 164 #[.string ⟨s.toArray⟩, .string ⟨cs.toArray⟩] w fun e w'=>e= .returned (.string ⟨(y::ys).toArray⟩)/\Below w w w'):=by
 have h:=Tryz.strings_Trim_set ⟨s.toArray⟩ ⟨cs.toArray⟩ w (by show s.length <= _;omega) (by show cs.length < _;omega) (fun j b hj=>by
  rw [List.all_eq_true]at ha;have:b∈cs:=List.mem_of_getElem? VZ
  simpa using ha b this)
 have h0:=n_N s cs;rw [q_6 hp]at h0;constructor
 . intro hs
   have:Lib.trimS (⟨s.toArray⟩:ByteArray).data.toList (⟨cs.toArray⟩:ByteArray).data.toList= []:=by simpa using h0.2 hs
   rw [this]at h;exact h
 intro hs;have a:Lib.trimS (⟨s.toArray⟩:ByteArray).data.toList (⟨cs.toArray⟩:ByteArray).data.toList≠ []:=by
  intro he;have:=h0.1 (by simpa using he)
  rw [hs]at this;cases this
 obtain⟨y,ys,hy⟩:=List.exists_cons_of_ne_nil a;rw [hy]at h;exact⟨y,ys,h⟩
theorem s_k (s:List UInt8) (w:World) (hn:s.length <= 1000000000):
 Calls Tryz.prog 168 #[.string ⟨s.toArray⟩] w fun e w'=>e= .returned (f_u s)/\Below w w w':=by
 have Hk:Hid (f_u s=(decide (1 <= s.length/\s.length <= 16) && s.all h_D)):=rfl;obtain⟨hT,hF⟩:=j_q s j_p h_D q_5 P9 TY w hn;have HT:=a6 hT;have HF:=a6 hF
 clear hT hF;cases s with
 | nil=>
   go_enter Tryz.func168,Tryz.ntmps168
   go_wp2_with fail;go_ret;exact⟨bJ (by rw [Hk.o];rfl),a7⟩
 | cons c r=>
   have hsz:(⟨(c::r).toArray⟩:ByteArray).size=r.length+1:=rfl;have f:((⟨(c::r).toArray⟩:ByteArray).toList.isEmpty)=false:=QQ
   have d:(!(⟨(c::r).toArray⟩:ByteArray).toList.isEmpty)=true:=QQ
   obtain⟨S,hS⟩:∃S,S=(⟨(c::r).toArray⟩:ByteArray):=⟨_,rfl⟩;rw [<- hS]at hsz f d HT HF⊢;by_cases g:16 < r.length+1
   . have Hz:Hid (f_u (c::r)=false):=by
      show f_u _=false
      rw [Hk.o,O3 (by simp only [O7];omega)];rfl
     clear hS HT HF;go_enter Tryz.func168,Tryz.ntmps168;go_wp2_with fail;go_ret;exact⟨bJ Hz.o.symm,a7⟩
   have b:Hid (f_u (c::r)=(c::r).all h_D):=by
    show f_u _=_
    rw [Hk.o,decide_eq_true (by simp only [O7];omega)];simp
   cases a:(c::r).all h_D with
   | true=>
     have HC:=a6 (HT.o a);rw [a]at b;clear hS HT HF a;go_enter Tryz.func168,Tryz.ntmps168;go_wp2_with fail;refine HC.o.mono ?_;rintro e w1 ⟨rfl,hb⟩;have Hb:=a6 hb
     clear hb;go_wp2_with fail;go_ret;exact⟨bJ b.o.symm,Hb.o⟩
   | false=>
     obtain⟨y,ys,hC⟩:=HF.o a;have HC:=a6 hC;rw [a]at b;have h:((⟨(y::ys).toArray⟩:ByteArray).toList.isEmpty)=false:=QQ
     clear hS HT HF a hC;go_enter Tryz.func168,Tryz.ntmps168;go_wp2_with fail;refine HC.o.mono ?_;rintro e w1 ⟨rfl,hb⟩;have Hb:=a6 hb
     clear hb;go_wp2_with fail;go_ret;exact⟨bJ b.o.symm,Hb.o⟩
theorem s_l (s:List UInt8) (w:World) (hn:s.length <= 1000000000):
 Calls Tryz.prog 169 #[.string ⟨s.toArray⟩] w fun e w'=>e= .returned (d_v s)/\Below w w w':=by
 have Hk:Hid (d_v s=(decide (s.length <= 32) && s.all a_1)):=rfl;obtain⟨hT,hF⟩:=j_q s g_J a_1 k_Y P9 TY w hn;have HT:=a6 hT;have HF:=a6 hF
 have hsz:(⟨s.toArray⟩:ByteArray).size=s.length:=rfl;clear hT hF;obtain⟨S,hS⟩:∃S,S=(⟨s.toArray⟩:ByteArray):=⟨_,rfl⟩;rw [<- hS]at hsz HT HF⊢;clear hS;by_cases c:32 < s.length
 . have Hz:Hid (d_v s=false):=by
    show d_v _=false
    rw [Hk.o,O3 P2];rfl
   clear HT HF;go_enter Tryz.func169,Tryz.ntmps169;go_wp2_with fail;go_ret;exact⟨bJ Hz.o.symm,a7⟩
 have b:Hid (d_v s=s.all a_1):=by
  show d_v _=_
  rw [Hk.o,decide_eq_true P2];simp
 cases a:s.all a_1 with
 | true=>
   have HC:=a6 (HT.o a);rw [a]at b;clear HT HF a;go_enter Tryz.func169,Tryz.ntmps169;go_wp2_with fail;refine HC.o.mono ?_;rintro e w1 ⟨rfl,hb⟩;have Hb:=a6 hb
   clear hb;go_wp2_with fail;go_ret;exact⟨bJ b.o.symm,Hb.o⟩
 | false=>
   obtain⟨y,ys,hC⟩:=HF.o a;have HC:=a6 hC;rw [a]at b;have d:((⟨(y::ys).toArray⟩:ByteArray).toList.isEmpty)=false:=QQ
   clear HT HF a hC;go_enter Tryz.func169,Tryz.ntmps169;go_wp2_with fail;refine HC.o.mono ?_;rintro e w1 ⟨rfl,hb⟩;have Hb:=a6 hb
   clear hb;go_wp2_with fail;go_ret;exact⟨bJ b.o.symm,Hb.o⟩
theorem j_r (l:Bool) (ps:List fQ) (t:List Int) (m:Nat):I1 l ps t m=if uQ ps≠0 then uQ ps else if (l && decide (0 < m)) || (!l && decide (0 < t.length)) then 7 else b_2 t:=rfl
theorem n_O (v:Value) (B:Nat) (ps:List fQ) (w:World) (hv:∃a cap,v= .slice a ps.length cap/\RowA w B 2 a ps.length cap (cK ps)) (hB:B <= w.heap.size) (hn:iQ ps <= 1000000000):
 Calls Tryz.prog 104 #[v] w fun e w'=>e= .returned (uQ ps)/\Below w w w':=by
 obtain⟨a,cap,rfl,hr⟩:=hv;have hm:=f_F hr
 by_cases y:16 < ps.length
 . have He:Hid (uQ ps=if 16 < ps.length then 2 else zY [] ps):=rfl
   go_enter Tryz.func104,Tryz.ntmps104
   go_wp2_with fail;go_ret;exact⟨dV (by rw [He.o,if_pos y]),a7⟩
 have He:Hid (uQ ps=zY [] ps):=by
  show uQ ps=_
  unfold uQ;rw [if_neg y]
 go_enter Tryz.func104,Tryz.ntmps104
 go_wp2_with fail
 go_loopw [3,11] (fun s i wr=>∃ (k:Nat) (q:List UInt8),k <= ps.length/\i= .int .i64 k/\s= .string ⟨q.toArray⟩/\q=e_5 ps k/\zY q (ps.drop k)=uQ ps/\Below w w wr) (fun _ i _=>ps.length - (intOf i).toNat)
 case atStart=>exact⟨0, [],Nat.zero_le _,rfl,rfl,rfl,by rw [He.o];rfl,a7⟩
 case round=>
  obtain⟨k,q,hk,rfl,rfl,hq,hp,c⟩:=hrel;have C:=hr.keep (c.mono hB) (a8);have Hp:=a6 hp;have Hb:=a6 c;have Hq:=a6 hq;clear hp c hq;by_cases r:k < ps.length
  . have d:=a6 (g_H r)
    rw [<- Hq.o]at d;obtain⟨b,off,rfl,hb,z,A⟩:=C.prop_at k r;have m:=c_Y (NY r);have HK:=a6 (s_k ps[k].1);have HV:=a6 (s_l ps[k].2);have t:Hid (e_5 ps (k+1)=ps[k].1):=by show (ps.getD k ([], [])).1=_;rw [gK r]
    generalize ps[k]=p at z A m HK HV d t;obtain⟨p1,p2⟩:=p;simp only at z A m HK HV d t;have D:p1.length <= 1000000000:=P2
    have E:p2.length <= 1000000000:=P2
    have h:=fun W=>a6 (HK.o W D)
    have l:=fun W=>a6 (HV.o W E)
    clear HK HV m;cases f:f_u p1
    . simp only [f]at h
      go_wp2_with fail;refine(h _).o.mono ?_;rintro e w1 ⟨rfl,c⟩;have g:=a6 (eZ Hb.o (j6 (i8 c)) (a8))
      clear c;go_wp2_with fail;go_ret;exact⟨dV (by rw [<- Hp.o,d.o,f];simp),g.o⟩
    simp only [f]at h
    cases hval:d_v p2
    . simp only [hval]at l
      go_wp2_with fail;refine(h _).o.mono ?_;rintro e w1 ⟨rfl,c⟩;obtain⟨x0,x1⟩:=CV (i8 c);have g:=a6 (eZ Hb.o (j6 (i8 c)) (a8));clear c;go_wp2_with fail;refine(l _).o.mono ?_;rintro e w2 ⟨rfl,c⟩;have j:=a6 (eZ g.o c (a8))
      clear c x0 x1;go_wp2_with fail;go_ret;exact⟨dV (by rw [<- Hp.o,d.o,f,hval];simp),j.o⟩
    simp only [hval]at l;have u:Hid (uQ ps=if leB p1 q=true then 1 else zY (e_5 ps (k+1)) (ps.drop (k+1))):=by
     show uQ ps=_
     rw [<- Hp.o,d.o,f,hval];simp
    have x:Hid (leB p1 q=(Op.bytesLess p1 q || p1 == q)):=rfl;clear f hval;cases hx:Op.bytesLess p1 q
    . cases hy:(p1 == q)
      . have n:Hid (leB p1 q=false):=by show leB p1 q=false;rw [x.o,hx,hy];rfl
        go_wp2_with fail;refine(h _).o.mono ?_;rintro e w1 ⟨rfl,c⟩;obtain⟨x0,x1⟩:=CV (i8 c);have g:=a6 (eZ Hb.o (j6 (i8 c)) (a8));have o:=a6 (i8 c);clear c;go_wp2_with fail;refine(l _).o.mono ?_;rintro e w2 ⟨rfl,c⟩;obtain⟨y0,y1⟩:=CV (eZ o.o c P6);have j:=a6 (eZ g.o c (a8));clear c x0 x1;go_wp2_with fail
        go_roundw
        case rel=>exact⟨k+1,p1,by omega,by go_num,rfl,t.o.symm,by rw [u.o,t.o,n.o];simp,j.o⟩
        case measure=>simp [intOf];omega
      have n:Hid (leB p1 q=true):=by show leB p1 q=true;rw [x.o,hx,hy];rfl
      go_wp2_with fail;refine(h _).o.mono ?_;rintro e w1 ⟨rfl,c⟩;obtain⟨x0,x1⟩:=CV (i8 c);have g:=a6 (eZ Hb.o (j6 (i8 c)) (a8));have o:=a6 (i8 c);clear c;go_wp2_with fail;refine(l _).o.mono ?_;rintro e w2 ⟨rfl,c⟩;obtain⟨y0,y1⟩:=CV (eZ o.o c P6);have j:=a6 (eZ g.o c (a8));clear c x0 x1;go_wp2_with fail;go_ret;exact⟨dV (by rw [u.o,n.o];simp),j.o⟩
    have n:Hid (leB p1 q=true):=by show leB p1 q=true;rw [x.o,hx];rfl
    go_wp2_with fail;refine(h _).o.mono ?_;rintro e w1 ⟨rfl,c⟩;obtain⟨x0,x1⟩:=CV (i8 c);have g:=a6 (eZ Hb.o (j6 (i8 c)) (a8));have o:=a6 (i8 c);clear c;go_wp2_with fail;refine(l _).o.mono ?_;rintro e w2 ⟨rfl,c⟩;obtain⟨y0,y1⟩:=CV (eZ o.o c P6);have j:=a6 (eZ g.o c (a8));clear c x0 x1;go_wp2_with fail;go_ret;exact⟨dV (by rw [u.o,n.o];simp),j.o⟩
  obtain rfl:k=ps.length:=P2
  go_wp2_with fail;go_ret;exact⟨dV (by rw [<- Hp.o,h_E]),Hb.o⟩
theorem s_m (l:Bool) (ps:List fQ) (t:List Int) (ks:List aX) (v:Value) (B:Nat) (w:World) (hB:B <= w.heap.size) (hn:(aX.mk l ps t ks).wt <= 100000000) (hv:bY w B (.mk l ps t ks) v):
 Calls Tryz.prog 52 #[v] w fun e w'=>e= .returned (I1 l ps t ks.length)/\Below w w w':=by
 obtain⟨ap,cp,at_,ct,ak,ck,css,rfl,hp,ht,hk,hc⟩:=hv.open;have g:1+iQ ps+t.length+fY ks=(aX.mk l ps t ks).wt:=rfl;have h:iQ ps <= 1000000000:=P2
 have j:=i7 ks;have k:t.length <= 100000000:=P2
 have i:ks.length <= 100000000:=P2
 have f:=((Below.refl w w).alloc (a8) (Obj.cells #[l,(ap,ps.length,cp),(at_,t.length,ct),(ak,ks.length,ck)] 35));have HP:=a6 (n_O (ap,ps.length,cp) w ps (w.alloc (Obj.cells #[l,(ap,ps.length,cp),(at_,t.length,ct),(ak,ks.length,ck)] 35)) ⟨ap,cp,rfl,hp.keep (f.mono hB) hB⟩ P6 h);have HT:=fun W (hW:Below w w W)=>a6 (p_J _ _ t W (ht.keep (hW.mono hB) (a8)))
 have Ho:=a6 (j_r l ps t ks.length);clear hv hp ht g hn f hk hc;by_cases c:uQ ps≠0
 . have Hr:Hid (I1 l ps t ks.length=uQ ps):=by
    show I1 l ps t ks.length=_
    rw [Ho.o,if_pos c]
   have m:(uQ ps != 0)=true:=t_w
   clear c;go_enter Tryz.func52,Tryz.ntmps52;go_wp2_with fail;refine HP.o.mono ?_;rintro e w1 ⟨rfl,a⟩;have Hb:=a6 (j6 (i8 a))
   clear a HP;go_wp2_with fail;go_ret;exact⟨dV Hr.o.symm,Hb.o⟩
 have c:uQ ps=0:=t_w
 rw [c]at HP;cases b:(l && decide (0 < ks.length)) || (!l && decide (0 < t.length))with
 | true=>
   have Hr:Hid (I1 l ps t ks.length=7):=by
    show I1 l ps t ks.length=_
    rw [Ho.o,c,b];rfl
   clear c;cases l with
   | true=>
     have d:0 < ks.length:=t_x
     clear b;go_enter Tryz.func52,Tryz.ntmps52;go_wp2_with fail;refine HP.o.mono ?_;rintro e w1 ⟨rfl,a⟩;obtain⟨x0,x1,x2,x3⟩:=JY (i8 a);have Hb:=a6 (j6 (i8 a));clear a HP;go_wp2_with fail;go_ret;exact⟨dV Hr.o.symm,Hb.o⟩
   | false=>
     have d:0 < t.length:=t_x
     clear b;go_enter Tryz.func52,Tryz.ntmps52;go_wp2_with fail;refine HP.o.mono ?_;rintro e w1 ⟨rfl,a⟩;obtain⟨x0,x1,x2,x3⟩:=JY (i8 a);have Hb:=a6 (j6 (i8 a));clear a HP;go_wp2_with fail;go_ret;exact⟨dV Hr.o.symm,Hb.o⟩
 | false=>
   have Hr:Hid (I1 l ps t ks.length=b_2 t):=by
    show I1 l ps t ks.length=_
    rw [Ho.o,c,b];rfl
   clear c;cases l with
   | true=>
     have d:ks.length <= 0:=by simp at b;simp [b]
     clear b;go_enter Tryz.func52,Tryz.ntmps52;go_wp2_with fail;refine HP.o.mono ?_;rintro e w1 ⟨rfl,a⟩;obtain⟨x0,x1,x2,x3⟩:=JY (i8 a);have Hb:=a6 (j6 (i8 a));clear a HP;go_wp2_with fail;refine(HT _ Hb.o).o.mono ?_;rintro e w2 ⟨rfl,rfl⟩;go_wp2_with fail;go_ret;exact⟨dV Hr.o.symm,Hb.o⟩
   | false=>
     have d:t.length <= 0:=by simp at b;simp [b]
     clear b;go_enter Tryz.func52,Tryz.ntmps52;go_wp2_with fail;refine HP.o.mono ?_;rintro e w1 ⟨rfl,a⟩;obtain⟨x0,x1,x2,x3⟩:=JY (i8 a);have Hb:=a6 (j6 (i8 a));clear a HP;go_wp2_with fail;refine(HT _ Hb.o).o.mono ?_;rintro e w2 ⟨rfl,rfl⟩;go_wp2_with fail;go_ret;exact⟨dV Hr.o.symm,Hb.o⟩
section
variable {S : Type} (go : aX -> Bool) (st : aX -> S -> S)
mutual
def sV:aX ->S ->Bool×S
 | .mk l ps t ks,s=>if go (.mk l ps t ks) then xJ ks (st (.mk l ps t ks) s) else (false,st (.mk l ps t ks) s)
def xJ:List aX ->S ->Bool×S
 | [],s=>(true,s)
 | k::ks,s=>if (sV k s).1 then xJ ks (sV k s).2 else (false,(sV k s).2)
end
theorem j_s {ks:List aX} {k:Nat} {s:S} (h:k < ks.length):xJ go st (ks.drop k) s=if (sV go st ks[k] s).1 then xJ go st (ks.drop (k+1)) (sV go st ks[k] s).2 else (false,(sV go st ks[k] s).2):=by
 conv=>lhs;rw [NX h]
 simp only [xJ]
end
def q_7 {S:Type} (Φ :S ->World ->Prop) (bad:TypeId ->Bool) (B cb:Nat) (caps:Array Value) (go:aX ->Bool) (st:aX ->S ->S) (M:Nat):Prop:=
 ∀ (n:aX) (v:Value) (s:S) (W:World),n.wt <= M ->bY W B n v ->B <= W.heap.size -> Φ s W ->
   Calls Tryz.prog cb (#[v] ++ caps) W fun e w'=>e= .returned (go n)/\ Φ (st n s) w'/\lQ bad B W w'
def MZ (W:World) (tb eb cb:Nat) (caps:Array Value):Prop:=
 W.heap[tb]? =some (Obj.cells #[.func (.func cb) #[] caps] 94 (0,0))/\W.heap[eb]? =some (Obj.cells #[.func (.func 102) #[] #[.pointer tb, .pointer eb]] 94 (0,0))
theorem MZ.keep {W W':World} {tb eb cb B:Nat} {caps:Array Value} {bad:TypeId ->Bool} (h:MZ W tb eb cb caps) (hs:lQ bad B W W') (hb:bad 94=false):MZ W' tb eb cb caps:=
 ⟨hs.block _ _ _ _ h.1 hb,hs.block _ _ _ _ h.2 hb⟩
theorem MZ.cells {W:World} {tb eb cb:Nat} {caps:Array Value} (h:MZ W tb eb cb caps):
 W.cell? tb=some (.func (.func cb) #[] caps)/\W.cell? eb=some (.func (.func 102) #[] #[.pointer tb, .pointer eb])/\tb < W.heap.size/\eb < W.heap.size:=
 ⟨by rw [cell_of_row _ _ _ _ _ _ h.1];rfl,by rw [cell_of_row _ _ _ _ _ _ h.2];rfl,(Array.getElem?_eq_some_iff.1 h.1).1,(Array.getElem?_eq_some_iff.1 h.2).1⟩
def f_M {S:Type} (Φ :S ->World ->Prop) (bad:TypeId ->Bool) (B:Nat) (W:World) (b:Bool) (s:S) (e:Ending) (w':World):Prop:=e= .returned b/\ Φ s w'/\lQ bad B W w'
def s_n {S:Type} (Φ :S ->World ->Prop) (bad:TypeId ->Bool) (B:Nat) (W:World) (b:Bool) (s:S) (e:Ending) (w':World):Prop:= ∃i:Int,e= .returned i/\decide (0 <= i)= !b/\ Φ s w'/\lQ bad B W w'
section
variable {S : Type} {Φ : S -> World -> Prop} {bad : TypeId -> Bool} {B tb eb cb : Nat} {caps : Array Value} {go : aX -> Bool} {st : aX -> S -> S} {M : Nat}
theorem s_o (hΦ :∀s W W', Φ s W ->Below W W W' -> Φ s W') (c:bad 94=false) (q:aX) (v:Value) (s:S) (W:World) (hE:MZ W tb eb cb caps) (hv:bY W B q v) (hB:B <= W.heap.size) (hs: Φ s W)
 (hC:∀W',bY W' B q v ->B <= W'.heap.size ->MZ W' tb eb cb caps -> Φ s W' ->Calls Tryz.prog 102 #[v, .pointer tb, .pointer eb] W' (f_M Φ bad B W' (sV go st q s).1 (sV go st q s).2)):
 Calls Tryz.prog 103 #[v, .pointer eb] W (f_M Φ bad B W (!(sV go st q s).1) (sV go st q s).2):=by
 have d:=hv;obtain⟨l,ps,t,ks⟩:=q;obtain⟨ap,cp,at_,ct,ak,ck,css,rfl, -, -, -, -⟩:=d.open;generalize aX.mk l ps t ks=q at hv hC⊢;generalize sV go st q s=r at hC⊢;obtain⟨b,s'⟩:=r;have a:lQ bad B W (W.alloc (Obj.cells #[l,(ap,ps.length,cp),(at_,t.length,ct),(ak,ks.length,ck)] 35)):=(lQ.refl hB).alloc hB _;have HC:=a6 (hC _ (hv.keep a.below (a8)) (aJ hB a.size) (hE.keep a c) (hΦ _ _ _ hs ((a7).alloc (a8) _)));obtain⟨e1,e2,l1,l2⟩:=hE.cells;have g:=a6 a;clear hC d hv hE hs a e1;go_enter Tryz.func103,Tryz.ntmps103;go_wp2_with fail;refine HC.o.mono ?_;rintro e w1 ⟨rfl,hφ,f⟩;have Hφ :=a6 hφ
 have HS:=a6 (g.o.trans f);clear hφ f HC;go_wp2_with fail;go_ret;exact⟨rfl,Hφ.out,HS.o⟩
theorem l_Q (ks:List aX) (a:Option Addr) (cap:Nat) (css:List Value) (s:S) (W:World) (hE:MZ W tb eb cb caps) (t:bad 94=false) (hr:RowA W B 4 a ks.length cap css) (hk:eX W B ks css) (hB:B <= W.heap.size) (hs: Φ s W)
 (hC:∀ (q:aX) (v:Value) (s:S) (W':World),q∈ks ->bY W' B q v ->B <= W'.heap.size ->MZ W' tb eb cb caps -> Φ s W' ->Calls Tryz.prog 103 #[v, .pointer eb] W' (f_M Φ bad B W' (!(sV go st q s).1) (sV go st q s).2)):
 Calls Tryz.prog 160 #[(a,ks.length,cap), .func (.func 103) #[] #[.pointer eb]] W (s_n Φ bad B W (xJ go st ks s).1 (xJ go st ks s).2):=by
 have HC:=a6 hC;have HE:=a6 hE
 have hm:=f_F hr;have z:=fun(s':S) (W':World) (h: Φ s' W')=>h
 have Hs:=a6 hs;obtain⟨R,hR⟩:∃R,R=xJ go st ks s:=⟨_,rfl⟩;rw [<- hR];have HR:=a6 hR
 clear hC hE hs z hR;go_enter Tryz.func160,Tryz.ntmps160;go_wp2_with fail
 go_loopw [8] (fun i wr=>∃ (k:Nat) (s':S),k <= ks.length/\i= .int .i64 k/\xJ go st (ks.drop k) s'=R/\ Φ s' wr/\lQ bad B W wr) (fun i _=>ks.length - (intOf i).toNat)
 case atStart=>exact⟨0,s,Nat.zero_le _,rfl,HR.o.symm,Hs.o,lQ.refl hB⟩
 case round=>
  obtain⟨k,s',A,rfl,u,hφ,c⟩:=hrel;have x:=hr.keep c.below (a8);have y:=eX.keep c.below (a8) ks css hk;have m:=a6 u;have Hφ :=a6 hφ;have f:=a6 c
  clear u hφ c;by_cases n:k < ks.length
  . have l:=a6 (j_s go st (s:=s') n)
    have g:=NY n;obtain⟨b,off,l',a1,n1,c1,a2,n2,c2,a3,n3,c3,rfl,hb,o,g0,g1,g2,g3⟩:=x.kid_at y k n;generalize ks[k]=q at o g l;have p:=a6 (HC.o q (.agg #[l',(a1,n1,c1),(a2,n2,c2),(a3,n3,c3)]) s' wr g ⟨_,rfl,o⟩ (aJ hB f.o.size) (HE.o.keep f.o t) Hφ.out);have he:∀args w,(callFunc 103 args).run Tryz.prog w= .ok (.enter 103 args) w:=PY
    generalize sV go st q s'=r at p l;obtain⟨b',s2⟩:=r;clear g o x y;cases b' with
    | true=>
      have d:Hid (xJ go st (ks.drop (k+1)) s2=R):=by
       show xJ go st _ _=R
       rw [<- m.o,l.o];rfl
      go_wp2_with fail;refine p.o.mono ?_;rintro e w1 ⟨rfl,hφ,c⟩;have Hφ2:=a6 hφ;have j:=a6 (f.o.trans c)
      clear hφ c;go_wp2_with fail
      go_roundw
      case rel=>exact⟨k+1,s2,by omega,by go_num,d.o,Hφ2.o,j.o⟩
      case measure=>simp [intOf];omega
    | false=>
      have d:Hid ((false,s2)=R):=by
       show _=R
       rw [<- m.o,l.o];rfl
      go_wp2_with fail;refine p.o.mono ?_;rintro e w1 ⟨rfl,hφ,c⟩;have Hφ2:=a6 hφ;have j:=a6 (f.o.trans c)
      clear hφ c;go_wp2_with fail;go_ret;refine⟨(k:Int),rfl, ?_, ?_,j.o⟩
      . rw [<- d.o];simp
      rw [<- d.o];exact Hφ2.o
  obtain rfl:k=ks.length:=P2
  have d:Hid ((true,s')=R):=by
   show _=R
   rw [<- m.o,List.drop_length];rfl
  go_wp2_with fail;go_ret;refine⟨-1,rfl, ?_, ?_,f.o⟩
  . rw [<- d.o];rfl
  rw [<- d.o];exact Hφ.out
theorem l_R (a:Option Addr) (n cap:Nat) (b:Bool) (s':S) (W:World) (f:Value)
 (hC:Calls Tryz.prog 160 #[(a,n,cap),f] W (s_n Φ bad B W b s')):
 Calls Tryz.prog 84 #[(a,n,cap),f] W (f_M Φ bad B W (!b) s'):=by
 have HC:=a6 hC;clear hC;go_enter Tryz.func84,Tryz.ntmps84;go_wp2_with fail;refine HC.o.mono ?_;rintro e w1 ⟨i,rfl,hi,hφ,c⟩;have Hφ :=a6 hφ;have d:=a6 c;have Hi:=a6 hi
 clear hφ c hi HC;go_wp2_with fail;go_ret;exact⟨bJ Hi.o,Hφ.out,d.o⟩
theorem r_H (hΦ :∀s W W', Φ s W ->Below W W W' -> Φ s W') (d:bad 94=false) (x:bad 35=false) (G:∀args w,(callFunc cb args).run Tryz.prog w= .ok (.enter cb args) w) (hA:q_7 Φ bad B cb caps go st M) (m:Nat):
 ∀ (n:aX) (v:Value) (s:S) (W:World),n.wt <= m ->n.wt <= M ->bY W B n v ->B <= W.heap.size ->MZ W tb eb cb caps -> Φ s W ->
   Calls Tryz.prog 102 #[v, .pointer tb, .pointer eb] W (f_M Φ bad B W (sV go st n s).1 (sV go st n s).2):=by
 induction m with
 | zero=>intro n v s W hm;have:=J4 n;omega
 | succ m ih=>
   intro n v s W hm hM hv hB hE hs;have IH:=a6 ih
   have j:=hv;obtain⟨l,ps,t,ks⟩:=n;obtain⟨ap,cp,at_,ct,ak,ck,css,rfl,hp,ht,hk,hc⟩:=j.open;have y:1+iQ ps+t.length+fY ks=(aX.mk l ps t ks).wt:=rfl;have k:∀q∈ks,q.wt <= m/\q.wt <= M:=fun q hq=>by have:=jJ hq;omega
   have f:=a6 k;have hR:Hid (sV go st (.mk l ps t ks) s=if go (.mk l ps t ks) then xJ go st ks (st (.mk l ps t ks) s) else (false,st (.mk l ps t ks) s)):=rfl;have c:lQ bad B W (W.alloc (Obj.cells #[l,(ap,ps.length,cp),(at_,t.length,ct),(ak,ks.length,ck)] 35)):=(lQ.refl hB).alloc hB _;have HA:=a6 (hA (.mk l ps t ks) _ s _ hM (hv.keep c.below (a8)) (aJ hB c.size) (hΦ _ _ _ hs ((a7).alloc (a8) _)));obtain⟨e1,e2,l1,l2⟩:=hE.cells;have o:=a6 c;have HE:=a6 hE
   have Hk:=a6 hk;have Hc:=a6 hc
   generalize st (.mk l ps t ks) s=s1 at HA hR;obtain⟨R,g⟩:∃R,R=sV go st (.mk l ps t ks) s:=⟨_,rfl⟩;rw [<- g];have HR:Hid (R=if go (.mk l ps t ks) then xJ go st ks s1 else (false,s1)):=by
    show R=_
    rw [g,hR.o]
   clear j hv hE hs c hp ht hk hc y k hm hM hR g ih hA;cases p:go (.mk l ps t ks)with
   | false=>
     rw [p]at HA HR;go_enter Tryz.func102,Tryz.ntmps102;go_wp2_with fail;refine HA.o.mono ?_;rintro e w1 ⟨rfl,hφ,a⟩;have Hφ :=a6 hφ;have HS:=a6 (o.o.trans a)
     clear hφ a HA;go_wp2_with fail;go_ret;refine⟨?_, ?_,HS.o⟩
     . rw [HR.o];rfl
     rw [HR.o];exact Hφ.out
   | true=>
     rw [p]at HA HR;have HK:=fun(w1:World) (hφ : Φ s1 w1) (hs:lQ bad B W w1)=>a6 (l_R _ _ _ _ _ _ _ (l_Q (go:=go) (st:=st) ks ak ck css s1 w1 (HE.o.keep hs d) d (Hk.o.keep hs.below (a8)) (eX.keep hs.below (a8) ks css Hc.o) (aJ hB hs.size) hφ
      (fun q v s W' hq hv z A hφ'=>s_o hΦ d q v s W' A hv z hφ' (fun W2 C D E hφ2=>IH.o q v s W2 (f.o q hq).1 (f.o q hq).2 C D E hφ2))))
     have i:Hid (R=xJ go st ks s1):=by
      show R=_
      rw [HR.o];rfl
     generalize xJ go st ks s1=r at HK i;obtain⟨b,s2⟩:=r;clear HR f IH Hk Hc HE;have I:∀ (fn:Fn) (first cap:Array Value) (w:World),(Instr.makeFunc fn first cap).run Tryz.prog w= .ok (.func fn first cap) w:=fun _ _ _ _=>rfl
     go_enter Tryz.func102,Tryz.ntmps102
     go_wp2_with fail;refine HA.o.mono ?_;rintro e w1 ⟨rfl,hφ,a⟩;obtain⟨x0,x1,x2,x3⟩:=a.box4 x;have HS:=a6 (o.o.trans a);have u:=HK w1 hφ HS.o;clear hφ a HA HK;go_wp2_with fail;refine u.o.mono ?_;rintro e w2 ⟨rfl,hφ,a⟩;have Hφ :=a6 hφ;have F:=a6 (HS.o.trans a)
     clear hφ a u x0 x1 x2 x3;cases b <;> (
      go_wp2_with fail;go_ret;refine⟨?_, ?_,F.o⟩
      . rw [i.o];rfl
      rw [i.o];exact Hφ.out)
end
theorem q_8 (W:World) (o:Obj) (cb:Nat) (caps:Array Value):MZ (((W.alloc o).alloc (Obj.cells #[.func (.func cb) #[] caps] 94)).alloc (Obj.cells #[.func (.func 102) #[] #[.pointer (some (P0 (W+1) 0)), .pointer (some (P0 (W.heap.size+1+1) 0))]] 94))
 (W.heap.size+1) (W.heap.size+1+1) cb caps:=by
 constructor
 . rw [Below.heap_alloc _ _ _ P6]
   have h:=heap_alloc_new (W.alloc o) (Obj.cells #[.func (.func cb) #[] caps] 94)
   simpa using h
 have h:=heap_alloc_new ((W.alloc o).alloc (Obj.cells #[.func (.func cb) #[] caps] 94)) (Obj.cells #[.func (.func 102) #[] #[.pointer (some (P0 (W+1) 0)), .pointer (some (P0 (W.heap.size+1+1) 0))]] 94)
 simpa using h
theorem a_5 (W:World) (o1 o2 o3:Obj):Below W W (((W.alloc o1).alloc o2).alloc o3):=
 (((a7).alloc (a8) o1).alloc P6 o2).alloc P8 o3
section
variable {S : Type} {Φ : S -> World -> Prop} {bad : TypeId -> Bool} {B cb : Nat} {caps : Array Value} {go : aX -> Bool} {st : aX -> S -> S} {M : Nat}
theorem n_P (hΦ :∀s W W', Φ s W ->Below W W W' -> Φ s W') (f:bad 94=false) (g:bad 35=false) (i:∀args w,(callFunc cb args).run Tryz.prog w= .ok (.enter cb args) w) (hA:q_7 Φ bad B cb caps go st M)
 (n:aX) (v:Value) (s:S) (W:World) (hM:n.wt <= M) (hv:bY W B n v) (hB:B <= W.heap.size) (hs: Φ s W):
   Calls Tryz.prog 50 #[v, .func (.func cb) #[] caps] W (f_M Φ bad B W (sV go st n s).1 (sV go st n s).2):=by
 have c:=hv;obtain⟨l,ps,t,ks⟩:=n;obtain⟨ap,cp,at_,ct,ak,ck,css,rfl, -, -, -, -⟩:=c.open;generalize aX.mk l ps t ks=n at hv hM⊢;have HE:=fun(tb eb:Nat) (W':World) (hE:MZ W' tb eb cb caps) (hW:Below W W W')=>a6 (r_H (tb:=tb) (eb:=eb) hΦ f g i hA _ n _ s W' (a8) hM (hv.keep (hW.mono hB) (a8)) (aJ hB hW.size) hE (hΦ _ _ _ hs hW))
 have HS:=fun(W' w':World) (hW:Below W W W') (hS:lQ bad B W' w')=>(lQ.of_below (bad:=bad) hW hB).trans hS
 generalize sV go st n s=r at HE⊢;obtain⟨b,s'⟩:=r;have HE:=a6 HE;have HS:=a6 HS;have k:∀ (fn:Fn) (first cap:Array Value) (w:World),(Instr.makeFunc fn first cap).run Tryz.prog w= .ok (.func fn first cap) w:=fun _ _ _ _=>rfl
 have o:=fun(W:World) (a:Addr) (fn:Fn) (first cap:Array Value) (m:Mode)=>run_store Tryz.prog W a (.func fn first cap) m rfl
 clear c hv hA hs hM;go_enter Tryz.func50,Tryz.ntmps50;go_wp2_with fail;refine(HE.o _ _ _ (q_8 W _ cb caps) (a_5 _ _ _ _)).o.mono ?_;rintro e w1 ⟨rfl,hφ,d⟩;have Hφ :=a6 hφ;have j:=a6 (HS.o _ _ (a_5 _ _ _ _) d)
 clear hφ d;go_wp2_with fail;go_ret;exact⟨rfl,Hφ.out,j.o⟩
end
def G9 (T:TypeId) (b:Nat) (x:Int) (W:World):Prop:=W.heap[b]? =some (Obj.cells #[x] T (0,0))
theorem G9.keep {T:TypeId} {b:Nat} {x:Int} {W W':World} (h:G9 T b x W) (hb:Below W W W'):G9 T b x W':=by
 unfold G9 at *;rw [hb.block b (Array.getElem?_eq_some_iff.1 h).1];exact h
theorem G9.cell {T:TypeId} {b:Nat} {x:Int} {W:World} (h:G9 T b x W):W.cell? b=some (.int .i64 x)/\W.frozen? b=false/\b < W.heap.size:=by
 unfold G9 at h;exact⟨by rw [cell_of_row _ _ _ _ _ _ h];rfl,by simp [World.frozen?,h],(Array.getElem?_eq_some_iff.1 h).1⟩
theorem G9.set_ {T:TypeId} {b:Nat} {x y:Int} {W:World} (h:G9 T b x W):G9 T b y (W.setCell b y):=by
 unfold G9 at *;simp [World.setCell,Array.getElem?_modify,h]
def n_Q (b:Nat) (s:Nat) (W:World):Prop:= ∃x:Int,x=wrap64 (s:Int)/\G9 3 b x W
def j_t:aX ->Nat
 | .mk _ _ t _=>t.length
def n_R (T:TypeId):Bool:=T == 3
theorem j_u (a b:Int):wrap64 (wrap64 a+b)=wrap64 (a+b):=by
 unfold wrap64;omega
def g_K:aX ->Bool:=fun _=>true
def j_v (n:aX) (s:Nat):Nat:=s+(1+j_t n)
theorem q_9 (b B M:Nat) (c:B <= b) (hM:M <= 1000000000):q_7 (n_Q b) n_R B 101 #[.pointer b] g_K j_v M:=by
 intro n v s W hn hv hB hs;have a:=hv
 obtain⟨l,ps,t,ks⟩:=n;obtain⟨ap,cp,at_,ct,ak,ck,css,rfl, -, -, -, -⟩:=a.open;have d:1+iQ ps+t.length+fY ks=(aX.mk l ps t ks).wt:=rfl;have f:t.length <= 1000000000:=P2
 obtain⟨x,hx,hc⟩:=hs;obtain⟨c1,c2,c3⟩:=hc.cell;have Hx:=a6 hx;have Hc:=a6 hc;have e:Hid (j_t (.mk l ps t ks)=t.length):=rfl;clear a hv hx hc d hn;show Calls Tryz.prog 101 #[_,_] W _
 go_enter Tryz.func101,Tryz.ntmps101
 go_wp2_with fail;go_ret;refine⟨rfl,⟨_, ?_,(Hc.o.set_).keep ((a7).alloc (a8) _)⟩, ?_⟩
 . show _=wrap64 ((s+(1+j_t (.mk l ps t ks)):Nat):Int)
   rw [e.o,Hx.o,j_u,Int.natCast_add,Int.natCast_add];rfl
 exact((lQ.refl hB).setCell Hc.o rfl c _).alloc hB _
def n_S (T:TypeId):Bool:=T == 39
def s_p:aX ->Int
 | .mk l ps t ks=>I1 l ps t ks.length
def b_H (n:aX):Bool:=s_p n == 0
def b_I (n:aX) (_:Int):Int:=s_p n
theorem s_q (b B M:Nat) (f:B <= b) (hM:M <= 100000000):q_7 (G9 39 b) n_S B 51 #[.pointer b] b_H b_I M:=by
 intro n v s W hn hv hB hs;have g:=hv
 obtain⟨l,ps,t,ks⟩:=n;obtain⟨ap,cp,at_,ct,ak,ck,css,rfl, -, -, -, -⟩:=g.open;have c:Below W W (W.alloc (Obj.cells #[l,(ap,ps.length,cp),(at_,t.length,ct),(ak,ks.length,ck)] 35)):=(a7).alloc (a8) _;have HO:=a6 (s_m l ps t ks _ B _ (aJ hB c.size) P2 (hv.keep (c.mono hB) (a8)));have h:Hid (b_H (.mk l ps t ks)=(I1 l ps t ks.length == 0)):=rfl;have d:Hid (b_I (.mk l ps t ks) s=I1 l ps t ks.length):=rfl;have i:=a6 c;have Hs:=a6 hs;generalize aX.mk l ps t ks=n at h d⊢
 show Calls Tryz.prog 51 #[.agg #[l,(ap,ps.length,cp),(at_,t.length,ct),(ak,ks.length,ck)], .pointer b] W _
 rw [h.o,d.o];generalize I1 l ps t ks.length=x at HO⊢;clear g hv hn hs c;by_cases hx:x=0
 . subst hx
   go_enter Tryz.func51,Tryz.ntmps51
   go_wp2_with fail;refine HO.o.mono ?_;rintro e w1 ⟨rfl,a⟩;have Hb:=a6 (eZ i.o a (a8))
   have Hc:=a6 (Hs.o.keep Hb.o);obtain⟨c1,c2,c3⟩:=Hc.o.cell;clear a HO;go_wp2_with fail;go_ret;exact⟨rfl,Hc.o.set_,(lQ.of_below Hb.o hB).setCell Hc.o rfl f _⟩
 have j:(x == 0)=false:=TQ
 have k:=a6 j;clear hx;go_enter Tryz.func51,Tryz.ntmps51;go_wp2_with fail;refine HO.o.mono ?_;rintro e w1 ⟨rfl,a⟩;have Hb:=a6 (eZ i.o a (a8))
 have Hc:=a6 (Hs.o.keep Hb.o);obtain⟨c1,c2,c3⟩:=Hc.o.cell;clear a HO;go_wp2_with fail;go_ret;exact⟨bJ k.o.symm,Hc.o.set_,(lQ.of_below Hb.o hB).setCell Hc.o rfl f _⟩
theorem h_G {S:Type} (go:aX ->Bool) (st:aX ->S ->S) (l:Bool) (ps:List fQ) (t:List Int) (ks:List aX) (s:S):sV go st (.mk l ps t ks) s=if go (.mk l ps t ks) then xJ go st ks (st (.mk l ps t ks) s) else (false,st (.mk l ps t ks) s):=by
 rw [sV]
theorem e_7 {S:Type} (go:aX ->Bool) (st:aX ->S ->S) (k:aX) (ks:List aX) (s:S):xJ go st (k::ks) s=if (sV go st k s).1 then xJ go st ks (sV go st k s).2 else (false,(sV go st k s).2):=by
 rw [xJ]
mutual
theorem e_8:∀ (n:aX) (s:Nat),sV g_K j_v n s=(true,s+a_3 n)
 | .mk l ps t ks,s=>by
   have hg:g_K (.mk l ps t ks)=true:=rfl;rw [h_G,hg,if_pos rfl,e_9 ks];have:a_3 (.mk l ps t ks)=1+t.length+MY ks:=by rw [a_3]
   rw [this];show (true,s+(1+t.length)+MY ks)=_
   congr 1;omega
theorem e_9:∀ (ks:List aX) (s:Nat),xJ g_K j_v ks s=(true,s+MY ks)
 | [],s=>by simp [xJ,MY]
 | k::ks,s=>by
   rw [e_7,e_8 k,if_pos rfl,e_9 ks];have:MY (k::ks)=a_3 k+MY ks:=by rw [MY]
   rw [this];congr 1;omega
end
theorem h_H (l:Bool) (ps:List fQ) (t:List Int) (ks:List aX):dQ (.mk l ps t ks)=if I1 l ps t ks.length≠0 then I1 l ps t ks.length else a_2 ks:=by rw [dQ]
theorem e_a (k:aX) (ks:List aX):a_2 (k::ks)=if dQ k≠0 then dQ k else a_2 ks:=by rw [a_2]
mutual
theorem d_8:∀ (n:aX) (s:Int),sV b_H b_I n s=(dQ n == 0,dQ n)
 | .mk l ps t ks,s=>by
   have hg:b_H (.mk l ps t ks)=(I1 l ps t ks.length == 0):=rfl;have hs:b_I (.mk l ps t ks) s=I1 l ps t ks.length:=rfl;rw [h_G,hg,hs,h_H];by_cases h:I1 l ps t ks.length=0
   . rw [h];simp [d_9 ks]
   rw [if_neg TX,if_pos h]
   simp [h]
theorem d_9:∀ (ks:List aX),xJ b_H b_I ks 0=(a_2 ks == 0,a_2 ks)
 | []=>by rw [xJ,a_2];rfl
 | k::ks=>by
   rw [e_7,d_8 k,e_a];by_cases h:dQ k=0
   . rw [h];simp [d_9 ks]
   rw [if_neg TX,if_pos h]
   simp [h]
end
theorem q_a (n:aX) (v:Value) (B:Nat) (W:World) (hn:n.wt <= 100000000) (hv:bY W B n v) (hB:B <= W.heap.size):
 Calls Tryz.prog 49 #[v] W fun e w'=>e= .returned (a_3 n)/\Below W W w':=by
 have b:=hv;obtain⟨l,ps,t,ks⟩:=n;obtain⟨ap,cp,at_,ct,ak,ck,css,rfl, -, -, -, -⟩:=b.open;have hsz:=e_6 (.mk l ps t ks);generalize aX.mk l ps t ks=n at hv hn hsz⊢;have c:Below W W (W.alloc (Obj.cells #[l,(ap,ps.length,cp),(at_,t.length,ct),(ak,ks.length,ck)] 35)):=(a7).alloc (a8) _;have a:=c.alloc (o:=Obj.cells #[OY] 3) P6;have d:=hv.keep (a.mono hB) hB;have f:n_Q (W+1) 0 ((W.alloc (Obj.cells #[l,(ap,ps.length,cp),(at_,t.length,ct),(ak,ks.length,ck)] 35)).alloc (Obj.cells #[OY] 3)):=by
  refine⟨0,(IntWalk.wrap64_in 0 P2).symm, ?_⟩;have h:=heap_alloc_new (W.alloc (Obj.cells #[l,(ap,ps.length,cp),(at_,t.length,ct),(ak,ks.length,ck)] 35)) (Obj.cells #[OY] 3)
  simpa [G9]using h
 have HW:=a6 (n_P (Φ :=n_Q (W+1)) (bad:=n_R) (M:=100000000) (fun s W W' h hb=>by obtain⟨x,h1,h2⟩:=h;exact⟨x,h1,h2.keep hb⟩) rfl rfl PY
  (q_9 (W+1) W 100000000 P2 P2) n _ 0 _ hn d a.size f)
 rw [e_8,O5]at HW;have g:wrap64 (a_3 n:Int)=a_3 n:=IntWalk.wrap64_in _ P2
 have j:=a6 g;have m:∀ (fn:Fn) (first cap:Array Value) (w:World),(Instr.makeFunc fn first cap).run Tryz.prog w= .ok (.func fn first cap) w:=fun _ _ _ _=>rfl
 have k:=a6 a;clear b hv hsz c d f hn g a;go_enter Tryz.func49,Tryz.ntmps49;go_wp2_with fail;refine HW.o.mono ?_;rintro e w1 ⟨rfl,⟨x,hx,hc⟩,i⟩;rw [j.o]at hx;subst hx;obtain⟨c1,c2,c3⟩:=hc.cell;have Hb:=a6 (k.o.trans i.below);clear hc i HW;go_wp2_with fail;go_ret;exact⟨rfl,Hb.o⟩
theorem e_b (n:aX) (v:Value) (B:Nat) (W:World) (hn:n.wt <= 1048576) (hv:bY W B n v) (hB:B <= W.heap.size):
 Calls Tryz.prog 11 #[v] W fun e w'=>e= .returned (dQ n)/\Below W W w':=by
 have d:=hv;obtain⟨l,ps,t,ks⟩:=n;obtain⟨ap,cp,at_,ct,ak,ck,css,rfl, -, -, -, -⟩:=d.open;have hsz:=e_6 (.mk l ps t ks);generalize aX.mk l ps t ks=n at hv hn hsz⊢;have b:Below W W (W.alloc (Obj.cells #[l,(ap,ps.length,cp),(at_,t.length,ct),(ak,ks.length,ck)] 35)):=(a7).alloc (a8) _;have HS:=a6 (q_a n _ B _ P2 (hv.keep (b.mono hB) (a8)) (aJ hB b.size));have k:a_3 n <= 1048576:=P2
 have HK:=fun(w1:World) (hb:Below W W w1)=>a6 (n_P (Φ :=G9 39 w1) (bad:=n_S) (M:=100000000) (fun s W W' h hb=>h.keep hb) rfl rfl PY
  (s_q w1 w1 100000000 P2 P2) n _ 0 (w1.alloc (Obj.cells #[OY] 39)) P2 (hv.keep ((hb.alloc hb.size _).mono hB) (aJ hB hb.size)) P6 (heap_alloc_new w1 _))
 simp only [d_8]at HK;have m:∀ (fn:Fn) (first cap:Array Value) (w:World),(Instr.makeFunc fn first cap).run Tryz.prog w= .ok (.func fn first cap) w:=fun _ _ _ _=>rfl
 clear d hv hsz b hn;go_enter Tryz.func11,Tryz.ntmps11;go_wp2_with fail;refine HS.o.mono ?_;rintro e w1 ⟨rfl,a⟩;obtain⟨x0,x1,x2,x3⟩:=JY (i8 a);have c:=a6 (j6 (i8 a));have j:W.heap.size < w1.heap.size:=by have:=(i8 a).size;simp at this;omega
 have f:=HK w1 c.o;clear a HS HK;go_wp2_with fail;refine f.o.mono ?_;rintro e w2 ⟨rfl,hc,g⟩;obtain⟨c1,c2,c3⟩:=hc.cell;have i:=a6 (c.o.trans (((Below.refl w1 w1).alloc (a8) (Obj.cells #[OY] 39)).trans g.below |>.mono c.o.size));clear hc g f x0 x1 x2 x3;go_wp2_with fail;go_ret;exact⟨rfl,i.o⟩
end Go.Proofs.YtmadpclcmjahoaaGreatDoor

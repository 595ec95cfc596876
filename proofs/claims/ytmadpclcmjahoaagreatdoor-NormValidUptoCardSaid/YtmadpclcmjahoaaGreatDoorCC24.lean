/- Parts of the proof: CC24. -/
import Derived.RangeFuncBox
import Derived.RangeFuncNested
import Derived.RangeFuncBound
import Derived.RangeFuncCalls
import Derived.RangeFuncLeaves
import Derived.Shelf.Abstract
import Derived.Shelf.RegionOpen
import Derived.OwnWalkIn
import Derived.TacticsInMore
import Derived.LoopNIn
import Derived.LoopIn
import Derived.Maps.AppendAt
import Derived.Sort.OwnSorted
import Derived.Sort.OwnSortedInts
import Derived.Test.YtmadpclcmjahoaaGreatDoorCC23
import Derived.StringKeys
import Derived.Maps.Own
import Derived.Maps.OwnSet
import Derived.Maps.Views
import Derived.Sort.KeysCollected
set_option linter.unusedVariables false
set_option linter.unusedSimpArgs false
set_option maxHeartbeats 8000000
set_option maxRecDepth 100000
namespace Go.Proofs.YtmadpclcmjahoaaGreatDoor
open Go.RowKit Go.Redl
theorem k_d (s:List UInt8) (w:World) (hn:s.length <= 1000000000):
 Calls Tryz.prog 93 #[.string ⟨s.toArray⟩] w fun e w'=>e= .returned (tV s)/\Below w w w':=by
 have Hk:Hid (tV s=(decide (s≠ []) && (decide (s.length <= 32) && s.all a_1))):=rfl;obtain⟨hT,hF⟩:=j_q s g_J a_1 k_Y P9 TY w hn;have HT:=a6 hT;have HF:=a6 hF
 clear hT hF;cases s with
 | nil=>
   go_enter Tryz.func93,Tryz.ntmps93
   go_wp2_with fail;go_ret;exact⟨bJ (by rw [Hk.o];rfl),a7⟩
 | cons c r=>
   have hsz:(⟨(c::r).toArray⟩:ByteArray).size=r.length+1:=rfl;have f:((⟨(c::r).toArray⟩:ByteArray).toList.isEmpty)=false:=QQ
   have d:(!(⟨(c::r).toArray⟩:ByteArray).toList.isEmpty)=true:=QQ
   obtain⟨S,hS⟩:∃S,S=(⟨(c::r).toArray⟩:ByteArray):=⟨_,rfl⟩;rw [<- hS]at hsz f d HT HF⊢;by_cases g:32 < r.length+1
   . have Hz:Hid (tV (c::r)=false):=by
      show tV _=false
      rw [Hk.o,O3 (show ¬ (c::r).length <= 32 by simp only [O7];omega)];simp
     clear hS HT HF;go_enter Tryz.func93,Tryz.ntmps93;go_wp2_with fail;go_ret;exact⟨bJ Hz.o.symm,a7⟩
   have b:Hid (tV (c::r)=(c::r).all a_1):=by
    show tV _=_
    rw [Hk.o,decide_eq_true (show (c::r).length <= 32 by simp only [O7];omega)];simp
   cases a:(c::r).all a_1 with
   | true=>
     have HC:=a6 (HT.o a);rw [a]at b;clear hS HT HF a;go_enter Tryz.func93,Tryz.ntmps93;go_wp2_with fail;refine HC.o.mono ?_;rintro e w1 ⟨rfl,hb⟩;have Hb:=a6 hb
     clear hb;go_wp2_with fail;go_ret;exact⟨bJ b.o.symm,Hb.o⟩
   | false=>
     obtain⟨y,ys,hC⟩:=HF.o a;have HC:=a6 hC;rw [a]at b;have h:((⟨(y::ys).toArray⟩:ByteArray).toList.isEmpty)=false:=QQ
     clear hS HT HF a hC;go_enter Tryz.func93,Tryz.ntmps93;go_wp2_with fail;refine HC.o.mono ?_;rintro e w1 ⟨rfl,hb⟩;have Hb:=a6 hb
     clear hb;go_wp2_with fail;go_ret;exact⟨bJ b.o.symm,Hb.o⟩
theorem k_e (x:Int) (t:List UInt8) (lift:Bool) (w:World) (hn:t.length <= 1000000000):
 Calls Tryz.prog 96 #[.agg #[x,aZ t],lift] w fun e w'=>e= .returned (yQ lift (x,t))/\Below w w w':=by
 obtain⟨R,hR⟩:∃R,R=yQ lift (x,t):=⟨_,rfl⟩;have Hr:=a6 (show R=if x=4 then tV t else if x=3 then lift && decide (t= []) else if x=1∨x=2 then decide (t= []) else false from hR);rw [<- hR];obtain⟨w0,f⟩:∃w0,w0=w.alloc (Obj.cells #[x,aZ t] 24):=⟨_,rfl⟩;have i:Below w w w0:=t_K
 have hA:At w0 w [x,aZ t] 24:=by rw [f];exact At.fresh w _ _
 obtain⟨⟨x0,x1⟩, -,xl⟩:=hA.f2;have HN:=a6 (k_d t w0 hn);have k:=k_Q t [];have c:=a6 i;have a:=a6 f
 clear hR i f hA;by_cases h4:x=4
 . subst h4
   have b:=a6 (show R=tV t from Hr.o)
   go_enter Tryz.func96,Tryz.ntmps96
   go_upto_region 1 with fail;rw [<- a.o];clear a;go_wp2_with fail;refine HN.o.mono ?_;rintro e w1 ⟨rfl,g⟩;have j:=a6 (c.o.trans (g.mono c.o.size))
   clear g HN x0 x1 xl;go_wp2_with fail;go_ret;exact⟨bJ b.o.symm,j.o⟩
 have l:(x == 4)=false:=beq_eq_false_iff_ne.2 h4
 by_cases h3:x=3
 . subst h3
   cases lift with
   | false=>
     have b:=a6 (show R=false from Hr.o)
     go_enter Tryz.func96,Tryz.ntmps96
     go_upto_region 1 with fail;rw [<- a.o];clear a;go_wp2_with fail;go_ret;exact⟨bJ b.o.symm,c.o⟩
   | true=>
     have b:=a6 (show R=decide (t= [])from by rw [Hr.o];simp)
     go_enter Tryz.func96,Tryz.ntmps96
     go_upto_region 1 with fail;rw [<- a.o];clear a;go_wp2_with fail;go_ret;exact⟨bJ t_5,c.o⟩
 have m:(x == 3)=false:=beq_eq_false_iff_ne.2 h3
 by_cases d:x=1∨x=2
 . have b:=a6 (show R=decide (t= [])from by rw [Hr.o,if_neg h4,if_neg h3,if_pos d])
   rcases d with rfl | rfl
   . go_enter Tryz.func96,Tryz.ntmps96
     go_upto_region 1 with fail;rw [<- a.o];clear a;go_wp2_with fail;go_ret;exact⟨bJ t_5,c.o⟩
   go_enter Tryz.func96,Tryz.ntmps96
   go_upto_region 1 with fail;rw [<- a.o];clear a;go_wp2_with fail;go_ret;exact⟨bJ t_5,c.o⟩
 have n:(x == 1)=false:=beq_eq_false_iff_ne.2 fun h=>d (.inl h)
 have o:(x == 2)=false:=beq_eq_false_iff_ne.2 fun h=>d (.inr h)
 have b:=a6 (show R=false from by rw [Hr.o,if_neg h4,if_neg h3,if_neg d])
 go_enter Tryz.func96,Tryz.ntmps96
 go_upto_region 1 with fail;rw [<- a.o];clear a;go_wp2_with fail;go_ret;exact⟨bJ b.o.symm,c.o⟩
theorem h_5 {w:World} {B:Nat} {a:Option Addr} {n c:Nat} {l:List (List UInt8)} (h:RowA w B 1 a n c (l.map aZ)) (k:Nat) (hk:k < l.length):
 ∃b off,a=some ⟨b,off,none⟩/\b < B/\w.cell? ⟨b,off+k,none⟩=some (aZ l[k]):=by
 obtain⟨b,off,ha,hb,hc⟩:=h.some_ u_a;exact⟨b,off,ha,hb,hc k _ (by simp [NV hk])⟩
def C2 (l:List (List UInt8)):Nat ->Option (List UInt8)
 | 0=>none
 | k+1=>l[k]?
theorem m_F {l:List (List UInt8)} {k:Nat} (hk:k < l.length):vV (C2 l k) (l.drop k)=(tV l[k] && ((match C2 l k with | none=>true | some p=> !leB l[k] p) && vV (C2 l (k+1)) (l.drop (k+1)))):=by
 rw [NX hk,show C2 l (k+1)=some l[k]by show l[k]? =_;exact NV hk]
 cases C2 l k with
 | none=>simp [vV]
 | some p=>simp [vV]
theorem o_X (l:List (List UInt8)) (a:Option Addr) (cap:Nat) (W:World) (hr:RowA W W 1 a l.length cap (l.map aZ)) (hn:l.length <= 100000000) (hb:∀t∈l,t.length <= 1000000000):
 Calls Tryz.prog 39 #[(a,l.length,cap)] W fun e w'=>e= .returned (EQ l)/\Below W W w':=by
 obtain⟨R,hR⟩:∃R,R=EQ l:=⟨_,rfl⟩;have HR:=a6 (show (vV (C2 l 0) (l.drop 0) && decide (l.length <= 32))=R from hR.symm);rw [<- hR];have Hr:=a6 hr;have HB:=a6 hb
 clear hR hr hb;go_enter Tryz.func39,Tryz.ntmps39;go_wp2_with fail
 go_loopg [7] l.length (fun g i wr=>∃k:Nat,i= .int .i64 k/\k+g=l.length/\Hid ((vV (C2 l k) (l.drop k) && decide (l.length <= 32))=R)/\Below W W wr)
 case atStart=>exact⟨0,rfl,by omega,HR,a7⟩
 case round =>
  obtain⟨k,rfl,hg,s,r⟩:=hrel;have f:=a6 r
  by_cases z:k < l.length
  . have F:(k:Int) < l.length:=P2
    have u:=Hr.o.keep r r.size;obtain⟨b,off,rfl,C,hc⟩:=h_5 u k z;have HN:=a6 (k_d l[k] wr (HB.o _ (NY z)));have v:=a6 ((congrArg (· && decide (l.length <= 32)) (m_F z)).symm.trans s.o)
    cases k with
    | zero=>
      have d:=a6 (show (tV l[0] && (true && vV (C2 l 1) (l.drop 1)) && decide (l.length <= 32))=R from v.o);rw [Nat.add_zero]at hc;generalize l[0]=t at hc HN d;clear u r s v;cases j:tV t with
      | false=>
        have Hz:=a6 (show false=R by have h:=d.o;rw [j]at h;exact h);rw [j]at HN;clear j d;go_wp2_with fail;refine HN.o.mono ?_;rintro e w1 ⟨rfl,c⟩;have n:=a6 (f.o.trans (c.mono f.o.size))
        clear c HN hc;go_wp2_with fail;go_ret;exact⟨bJ Hz.o,n.o⟩
      | true=>
        have A:=a6 (show (vV (C2 l 1) (l.drop 1) && decide (l.length <= 32))=R by have h:=d.o;rw [j]at h;simpa using h);rw [j]at HN;clear j d;go_wp2_with fail;refine HN.o.mono ?_;rintro e w1 ⟨rfl,c⟩;have n:=a6 (f.o.trans (c.mono f.o.size))
        clear c HN hc;go_wp2_with fail
        go_roundg (l.length - 1)
        case measure=>omega
        case rel=>exact⟨1,by go_num,by omega,A,n.o⟩
    | succ m=>
      have D:m < l.length:=P2
      have I:(m:Int) < l.length:=P2
      have G:(0:Int) < ((m+1:Nat):Int):=P2
      have H:IntKind.i64.wrap (((m+1:Nat):Int) - 1)=(m:Int):=(IntWalk.i64_in _ P2).trans P2;obtain⟨b',off',e1, -,q⟩:=h_5 u m D;injection e1 with e1;injection e1 with e1 e2;subst e1;subst e2
      have d:=a6 (show (tV l[m+1] && (!leB l[m+1] l[m] && vV (C2 l (m+2)) (l.drop (m+2))) && decide (l.length <= 32))=R by
       have h:=v.o;rw [show C2 l (m+1)=some l[m]by show l[m]? =_;exact NV D]at h;exact h)
      have w:=a6 C;generalize l[m+1]=t at hc HN d;generalize l[m]=p at q d;have B:Hid (leB t p=(Op.bytesLess t p || t == p)):=rfl;clear u r s v C;cases j:tV t with
      | false=>
        have Hz:=a6 (show false=R by have h:=d.o;rw [j]at h;exact h);rw [j]at HN;clear j d;go_wp2_with fail;refine HN.o.mono ?_;rintro e w1 ⟨rfl,c⟩;have n:=a6 (f.o.trans (c.mono f.o.size))
        have d2:=(c.cell (by exact w.o)).trans q;clear c HN hc q;go_wp2_with fail;go_ret;exact⟨bJ Hz.o,n.o⟩
      | true=>
        have o:=a6 (show (!leB t p && vV (C2 l (m+2)) (l.drop (m+2)) && decide (l.length <= 32))=R by have h:=d.o;rw [j]at h;simpa using h);rw [j]at HN;clear j d;cases hx:Op.bytesLess t p
        . cases hy:(t == p)
          . have A:=a6 (show (vV (C2 l (m+1+1)) (l.drop (m+1+1)) && decide (l.length <= 32))=R by have h:=o.o;rw [show leB t p=false by rw [B.o,hx,hy];rfl]at h;simpa using h)
            clear o;go_wp2_with fail;refine HN.o.mono ?_;rintro e w1 ⟨rfl,c⟩;have n:=a6 (f.o.trans (c.mono f.o.size))
            have d2:=(c.cell (by exact w.o)).trans q;clear c HN hc q;go_wp2_with fail
            go_roundg (l.length - (m+1+1))
            case measure=>omega
            case rel=>exact⟨m+1+1,by go_num,by omega,A,n.o⟩
          have Hz:=a6 (show false=R by have h:=o.o;rw [show leB t p=true by rw [B.o,hx,hy];rfl]at h;simpa using h);clear o;go_wp2_with fail;refine HN.o.mono ?_;rintro e w1 ⟨rfl,c⟩;have n:=a6 (f.o.trans (c.mono f.o.size))
          have d2:=(c.cell (by exact w.o)).trans q;clear c HN hc q;go_wp2_with fail;go_ret;exact⟨bJ Hz.o,n.o⟩
        have Hz:=a6 (show false=R by have h:=o.o;rw [show leB t p=true by rw [B.o,hx];rfl]at h;simpa using h);clear o;go_wp2_with fail;refine HN.o.mono ?_;rintro e w1 ⟨rfl,c⟩;have n:=a6 (f.o.trans (c.mono f.o.size))
        have d2:=(c.cell (by exact w.o)).trans q;clear c HN hc q;go_wp2_with fail;go_ret;exact⟨bJ Hz.o,n.o⟩
  obtain rfl:k=l.length:=P2
  have y:=a6 (show decide (l.length <= 32)=R by have h:=s.o;rw [List.drop_length]at h;cases C2 l l.length <;> simpa [vV]using h);clear s r;by_cases x:l.length <= 32
  . have E:(l.length:Int) <= 32:=P2
    have Hz:=a6 ((decide_eq_true x).symm.trans y.o);clear x;go_wp2_with fail;go_ret;exact⟨bJ Hz.o,f.o⟩
  have E:¬ (l.length:Int) <= 32:=P2
  have Hz:=a6 ((O3 x).symm.trans y.o);clear x;go_wp2_with fail;go_ret;exact⟨bJ (by rw [<- Hz.o]),f.o⟩
theorem h_6:∀args w,(callFunc 98 args).run Tryz.prog w= .ok (.enter 98 args) w:=PY
theorem k_f (x0:List UInt8) (v1 v2:Value) (W:World):Calls Tryz.prog 98 #[.agg #[aZ x0,v1,v2]] W fun e w'=>e= .returned (aZ x0)/\Below W W w':=by
 have Hb:=a6 (b7 W (Obj.cells #[aZ x0,v1,v2] 140))
 go_enter Tryz.func98,Tryz.ntmps98
 go_wp2_with fail;go_ret;exact⟨rfl,Hb.o⟩
theorem h_7:∀args w,(callFunc 41 args).run Tryz.prog w= .ok (.enter 41 args) w:=PY
theorem k_g (x0:List UInt8) (v1 v2 v3 v4 v5 v6 v7:Value) (W:World):Calls Tryz.prog 41 #[.agg #[aZ x0,v1,v2,v3,v4,v5,v6,v7]] W fun e w'=>e= .returned (aZ x0)/\Below W W w':=by
 have Hb:=a6 (b7 W (Obj.cells #[aZ x0,v1,v2,v3,v4,v5,v6,v7] 27))
 go_enter Tryz.func41,Tryz.ntmps41
 go_wp2_with fail;go_ret;exact⟨rfl,Hb.o⟩
theorem c_M:(Tryz.prog.info? 9).map (fun i=>(i.zero,i.size,i.bytes))=some (some (.string ⟨#[]⟩),1,16):=P3
theorem m_G (n:Nat):madeCells (#[.string ⟨#[]⟩]:Array Value) (n * 1)=(List.replicate n (aZ [])).toArray:=by
 apply Array.ext'
 unfold madeCells;simp only [Array.toList_map,Array.toList_range,Nat.mul_one];apply List.ext_getElem
 . simp
 intro i h1 h2
 simp [Nat.mod_one]
theorem g_9 (n:Nat) (hn:n <= 100000000) (w:World):
 (Instr.makeSlice 83 (n:Int) (n:Int)).run Tryz.prog w= .ok (.slice w n n) (w.alloc (.cells (List.replicate n (aZ [])).toArray 9)):=by
 obtain⟨i,hi,hz,hs,hb⟩:∃i,Tryz.prog.info? 9=some i/\i.zero=some (.string ⟨#[]⟩)/\i.size=1/\i.bytes=16:=by
  obtain⟨i,hi,a⟩:=Option.map_eq_some_iff.1 c_M;simp only [Prod.mk.injEq]at a;exact⟨i,hi,a⟩
 have hr:=run_make (P:=Tryz.prog) w 83 9 i _ Tryz.underlying83 hi hz .i64 .i64 n n P2 (Int.le_refl _) (by rw [hb];omega) P2;simp only [O0,hs,Value.cells]at hr;rw [hr,m_G]
abbrev B5 (l:List yY):List Value:=l.map fun p=>aZ p.1
theorem o_Y (l:List yY) (a:Option Addr) (cap:Nat) (W:World) (hr:RowA W W 3 a l.length cap (fV l)) (hn:l.length <= 100000000):
 Calls Tryz.prog 97 #[(a,l.length,cap), .func (.func 98) #[] #[]] W fun e w'=>e= .returned (W,l.length,l.length)/\At w' W (B5 l) 9/\Below W W w':=by
 obtain⟨w0,c⟩:∃w0,w0=W.alloc (.cells (List.replicate l.length (aZ [])).toArray 9):=⟨_,rfl⟩;have r:Below W W w0:=WV
 have hA:At w0 W (List.replicate l.length (aZ [])) 9:=by rw [c];exact At.fresh W _ _
 have u:=g_9 l.length hn W;rw [<- c]at u;have Hr:=a6 (fun(w':World) (hb:Below W W w')=>hr.keep hb hb.size)
 have HA:=a6 hA;have v:=a6 r
 have HE:=h_6;clear hr hA r c;go_enter Tryz.func97,Tryz.ntmps97;go_wp2_with fail
 go_loopg [13] l.length (fun g i wr=>∃k:Nat,i= .int .i64 k/\k+g=l.length/\Hid (At wr W (B5 (l.take k) ++ List.replicate (l.length - k) (aZ [])) 9)/\Hid (Below W W wr))
 case atStart=>exact⟨0,rfl,by omega,(show At w0 W (B5 (l.take 0) ++ List.replicate (l.length - 0) (aZ [])) 9 by simpa using HA.o),v⟩
 case round=>
  obtain⟨k,rfl,hg,m,d⟩:=hrel
  by_cases n:k < l.length
  . have z:(k:Int) < l.length:=P2
    obtain⟨b,off,rfl,w,p0,p1,p2⟩:=(Hr.o wr d.o).pair_at k n;have s:=a6 (show l.take (k+1)=l.take k ++ [l[k]]from O1 n);generalize l[k]=q at p0 p1 p2 s;obtain⟨q0,q1,q2⟩:=q;simp only at p0 p1 p2;have HC:=a6 (fun(w1:World)=>k_f q0 q1 (aZ q2) w1)
    clear w;go_wp2_with fail;refine(HC.o _).mono ?_;rintro e w2 ⟨rfl,j⟩;have o:Below wr wr w2:=(b7 wr (Obj.cells #[aZ q0,q1,aZ q2] 140)).trans (j.mono (b7 wr _).size)
    have f:=m.o.kept o;have x:=a6 (d.o.trans (o.mono d.o.size));have cf:w2.frozen? (W,k)=false:=Lib.frozen_of_heap f _;have cc:w2.cell? (W,k)=some (aZ []):=f.cell k (by
     have A:(B5 (l.take k)).length=k:=P8
     rw [OX P2,List.getElem?_replicate,if_pos P2])
    have y:=a6 f;clear j o f HC p0 p1 p2;go_wp2_with fail
    go_roundg (l.length - (k+1))
    case measure=>omega
    case rel=>
     refine⟨k+1,by go_num,by omega, ?_,(show Below _ _ _ from x.o.setCell (p:=(W,k)) (a8) _)⟩
     show At _ W (B5 (l.take (k+1)) ++ List.replicate (l.length - (k+1)) (aZ [])) 9
     have h:=y.o.set k (aZ q0);rw [List.set_append_right _ _ P8]at h;rw [s.o];have e:l.length - k=(l.length - (k+1))+1:=P2
     rw [e,List.replicate_succ]at h;simpa [O8 (Nat.le_of_lt n)]using h
  obtain rfl:k=l.length:=P2
  have t:=a6 (show At wr W (B5 l) 9 by have h:=m.o;rw [List.take_length,Nat.sub_self]at h;simpa using h);have B:¬ (l.length:Int) < l.length:=P2
  clear m;go_wp2_with fail;go_ret;exact⟨rfl,t.o,d.o⟩
abbrev DK (l:List bK):List Value:=l.map fun p=>aZ p.type
theorem o_Z (l:List bK) (a:Option Addr) (cap:Nat) (css:List Value) (W:World) (hr:RowA W W 8 a l.length cap css) (hc:i9 W W l css) (hn:l.length <= 100000000):
 Calls Tryz.prog 40 #[(a,l.length,cap), .func (.func 41) #[] #[]] W fun e w'=>e= .returned (W,l.length,l.length)/\At w' W (DK l) 9/\Below W W w':=by
 obtain⟨w0,d⟩:∃w0,w0=W.alloc (.cells (List.replicate l.length (aZ [])).toArray 9):=⟨_,rfl⟩;have r:Below W W w0:=by rw [d];exact b7 _ _
 have hA:At w0 W (List.replicate l.length (aZ [])) 9:=by rw [d];exact At.fresh W _ _
 have u:=g_9 l.length hn W;rw [<- d]at u;have Hr:=a6 (fun(w':World) (hb:Below W W w')=>hr.keep hb hb.size)
 have Hc:=a6 (fun(w':World) (hb:Below W W w')=>i9.keep hb hb.size hc);have HA:=a6 hA;have v:=a6 r
 have HE:=h_7;clear hr hc hA r d;go_enter Tryz.func40,Tryz.ntmps40;go_wp2_with fail
 go_loopg [13] l.length (fun g i wr=>∃k:Nat,i= .int .i64 k/\k+g=l.length/\Hid (At wr W (DK (l.take k) ++ List.replicate (l.length - k) (aZ [])) 9)/\Hid (Below W W wr))
 case atStart=>exact⟨0,rfl,by omega,(show At w0 W (DK (l.take 0) ++ List.replicate (l.length - 0) (aZ [])) 9 by simpa using HA.o),v⟩
 case round=>
  obtain⟨k,rfl,hg,m,c⟩:=hrel
  by_cases n:k < l.length
  . have z:(k:Int) < l.length:=P2
    obtain⟨b,off,ra,rc,rfl,w, -,p0,p1,p2,p3,p4,p5,p6,p7⟩:=l_2 (Hr.o wr c.o) (Hc.o wr c.o) k n;have s:=a6 (show l.take (k+1)=l.take k ++ [l[k]]from O1 n);generalize l[k]=q at p0 p1 p2 p3 p4 p5 p6 p7 s;obtain⟨q0,⟨q1,q2⟩,⟨q3,q4⟩,q5,q6,q7⟩:=q;simp only at p0 p1 p2 p3 p4 p5 p6 p7;have HC:=a6 (fun(w1:World)=>k_g q0 q1 (aZ q2) q3 (aZ q4) (ra,q5.length,rc) q6 (aZ q7) w1)
    clear w;go_wp2_with fail;refine(HC.o _).mono ?_;rintro e w2 ⟨rfl,j⟩;have o:Below wr wr w2:=(b7 wr (Obj.cells #[aZ q0,q1,aZ q2,q3,aZ q4,(ra,q5.length,rc),q6,aZ q7] 27)).trans (j.mono (b7 wr _).size)
    have f:=m.o.kept o;have x:=a6 (c.o.trans (o.mono c.o.size));have cf:w2.frozen? (W,k)=false:=Lib.frozen_of_heap f _;have cc:w2.cell? (W,k)=some (aZ []):=f.cell k (by
     have A:(DK (l.take k)).length=k:=P8
     rw [OX P2,List.getElem?_replicate,if_pos P2])
    have y:=a6 f;clear j o f HC p0 p1 p2 p3 p4 p5 p6 p7;go_wp2_with fail
    go_roundg (l.length - (k+1))
    case measure=>omega
    case rel=>
     refine⟨k+1,by go_num,by omega, ?_,(show Below _ _ _ from x.o.setCell (p:=(W,k)) (a8) _)⟩
     show At _ W (DK (l.take (k+1)) ++ List.replicate (l.length - (k+1)) (aZ [])) 9
     have h:=y.o.set k (aZ q0);rw [List.set_append_right _ _ P8]at h;rw [s.o];have e:l.length - k=(l.length - (k+1))+1:=P2
     rw [e,List.replicate_succ]at h;simpa [O8 (Nat.le_of_lt n)]using h
  obtain rfl:k=l.length:=P2
  have t:=a6 (show At wr W (DK l) 9 by have h:=m.o;rw [List.take_length,Nat.sub_self]at h;simpa using h);have B:¬ (l.length:Int) < l.length:=P2
  clear m;go_wp2_with fail;go_ret;exact⟨rfl,t.o,c.o⟩
open Go.Shelf
attribute [local go_sem] Oper.semAt_some
def d_x (f:Nat ->Int) (k:Nat):List Int:=(List.range k).map f
theorem g_a (f:Nat ->Int) (k:Nat):d_x f (k+1)=d_x f k ++ [f k]:=by simp [d_x,List.range_succ]
theorem i_z (f:Nat ->Int) (k:Nat):(d_x f k).length=k:=by simp [d_x]
theorem g_b (zs:List Int) {k:Nat} (hk:k <= zs.length):d_x (fun j=>zs[j]?.getD 0) k=zs.take k:=by
 apply List.ext_getElem
 . simp [d_x,hk]
 intro i h1 h2;have:i < zs.length:=by simp [d_x]at h1;omega
 simp [d_x,this]
theorem k_h (F:Fence) (n:Nat) (h7:F.fn 92) (m:F.round=none) (hn:1 <= n) (l Bs n₀ b off len cap:Nat) (zs:List Int) (g:len * 8 <= 140737488351232) (hb:b < n₀) (J Jx:List Int ->World ->Prop)
 (hY:∀pre x W,J pre W ->pre.length < len ->YieldAt F (n - 1) Tryz.prog l #[.int .i64 x] W fun e W'=>
   (e= .returned true/\J (pre ++ [x]) W'/\Below n₀ W W')∨ (e= .returned false/\Jx (pre ++ [x]) W'))
 (W:World) (t:W.cell? Bs=some (.slice (some (b,off)) len cap)) (hc:∀j,j < len ->W.cell? ⟨b,off+j,none⟩=some (.int .i64 (zs[j]?.getD 0))) (h0:J [] W):
 CallsIn F n Tryz.prog 92 #[.func (.yield l) #[] #[], .pointer Bs] W fun e W'=>(∃v,e= .returned v)/\
  ((∃ys,ys=d_x (fun j=>zs[j]?.getD 0) len/\J ys W')∨ (∃pre,(∃k,k <= len/\pre=d_x (fun j=>zs[j]?.getD 0) k)/\Jx pre W')):=by
 refine callsIn_of_wp Tryz.func92 rfl h7 ?_ m;simp only [Tryz.ntmps92,List.size_toArray,O7,List.length_nil,Nat.reduceAdd,Nat.reduceSub,Array.replicate_succ,Array.replicate_zero,List.push_toArray,List.append_toArray,List.nil_append,List.cons_append];gi_wp2
 gi_loopw [7] (fun i wr=>∃k:Nat,k <= len/\i= .int .i64 k/\J (d_x (fun j=>zs[j]?.getD 0) k) wr/\Below n₀ W wr)
  (fun i _=>len - (intOf i).toNat)
 case atStart=>exact⟨0,Nat.zero_le _,rfl,h0,a7⟩
 case round=>
  obtain⟨k,hk,rfl,a,c⟩:=hrel;have o:k < len ->wr.cell? (b,off+k)=some (.int .i64 (zs[k]?.getD 0)):=fun h=>(c.cell (p:=(b,off+k)) hb).trans (hc k h)
  by_cases d:k < len
  . obtain ⟨fn,tmps,assign,body,hy,hR⟩:=hY _ (zs[k]?.getD 0) wr a (by rw [i_z];exact d)
    have s:=o d
    gi_wp2
    refine hR.mono ?_;rintro e W3 (⟨rfl,q,r⟩ | ⟨rfl,f⟩)
    . gi_wp2
      go_roundw
      case rel=>exact⟨k+1,by omega,by simp,by rw [g_a];exact q,c.trans r⟩
      case measure=>simp [intOf];omega
    gi_wp2
    refine bodyPost_ret (results_none rfl _ _ _) rfl ?_;exact⟨⟨_,rfl⟩, .inr ⟨_,⟨k+1,by omega,(g_a _ _).symm⟩,f⟩⟩
  obtain rfl:k=len:=P2
  gi_wp2
  go_end0
  exact⟨⟨_,rfl⟩, .inl ⟨_,rfl,a⟩⟩
theorem p_0 (a:Option Addr) (len cap:Nat) (w:World):
 Calls Tryz.prog 37 #[(a,len,cap)] w fun e w'=>e= .returned (.func (.func 92) #[] #[.pointer w])/\w'=w.alloc (.cells #[(a,len,cap)] 36):=by
 go_enter Tryz.func37,Tryz.ntmps37
 go_wp2
 go_ret;exact⟨rfl,rfl⟩
theorem h_8 (F:Fence) (n:Nat) (h7:F.fn 92) (c:F.round=none) (hn:1 <= n) (Bs n₀ b off cap:Nat) (zs:List Int) (a:zs.length * 8 <= 140737488351232) (w:World) (d:Bs < w.heap.size) (hn₀ :n₀ <= w.heap.size) (hb:b < n₀)
 (hc:w.cell? Bs=some (.slice (some (b,off)) zs.length cap)) (hI:∀j,j < zs.length ->w.cell? ⟨b,off+j,none⟩=some (.int .i64 (zs[j]?.getD 0))):
 SeqStopsK F n Tryz.prog 92 #[.pointer Bs] (fun x:Int=> #[Value.int .i64 x]) (Below n₀) (fun ys=>ys=zs) (fun pre=>pre <+:zs) zs.length w:=fun l J Jx W hW _ _ hY h0=>by
 have f:=(hW.cell (p:=Bs) d).trans hc;refine(k_h F n h7 c hn l Bs n₀ b off zs.length cap zs a hb J Jx hY W f (fun j hj=>(hW.cell (p:=(b,off+j)) (Nat.lt_of_lt_of_le hb hn₀)).trans (hI j hj)) h0).mono ?_;rintro e W' ⟨he,⟨ys,rfl,hj⟩ | ⟨pre,⟨k,hk,rfl⟩,hj⟩⟩
 . exact⟨he, .inl ⟨_,by rw [g_b zs (a8),List.take_length],hj⟩⟩
 exact⟨he, .inr ⟨_,by rw [g_b zs hk];exact List.take_prefix _ _,hj⟩⟩
theorem m_H:(Tryz.prog.info? 3).map (fun i=>(i.zero,i.size,i.bytes))=some (some (.int .i64 0),1,8):=P3
theorem m_I (F:Fence) (n:Nat) (hF:F.fn 161) (h7:F.fn 92) (g:F.round=none) (hn:3 <= n) (Bs b off cap:Nat) (zs:List Int) (q:zs.length <= 1000000) (w:World) (r:Bs < w.heap.size) (hb:b < w.heap.size)
 (hc:w.cell? Bs=some (.slice (some (b,off)) zs.length cap)) (hI:∀j,j < zs.length ->w.cell? ⟨b,off+j,none⟩=some (.int .i64 (zs[j]?.getD 0))):
 CallsIn F n Tryz.prog 161 #[(), .func (.func 92) #[] #[.pointer Bs]] w fun e W'=>∃v,e= .returned v/\W'.ownsRow w 3 1 v zs.length (zs.map (Value.int .i64))/\(v= .slice none 0 0 ↔ zs= [])/\Below w w W':=by
 have h1:1 <= n:=P2
 obtain⟨i0,hi,s,t,u⟩:=info_parts m_H;refine callsIn_of_wp_marks Tryz.func161 rfl hF ?_ g;simp only [Tryz.ntmps161,List.size_toArray,O7,List.length_nil,Nat.reduceAdd,Nat.reduceSub,Array.replicate_succ,Array.replicate_zero,List.push_toArray,List.append_toArray,List.nil_append,List.cons_append];gi_wp2;have bO:=Boxed.new w 36 ();have i:Below w w (w.alloc (.cells #[()] 36)):=(Below.refl _ w).alloc (a8) _;refine wpIn_rangeFunc_ownG g h1 (gf:=92) (lb:= #[.pointer Bs]) rfl h7 (enters_of Tryz.func92 P3 rfl)
  (h_8 F (n - 1) h7 g P2 Bs w b off cap zs P2 _ P8 P6 hb ((i.cell (p:=Bs) r).trans hc) (fun j hj=>(i.cell (p:=(b,off+j)) hb).trans (hI j hj))) belowK_t (belowK_b P6) (a7) (fun _=>rfl)
  (fun pre W=>(∃v,Boxed W w 36 v/\W.ownsRow w 3 1 v pre.length (pre.map (Value.int .i64))/\(v= .slice none 0 0 ↔ pre= []))/\Below w w W)
  (fun _ _ _=>False)
  (OwnFrom.and (Own.from (holdsRow_own w w 36 3 1 (fun pre=>pre.length) (fun pre=>pre.map (Value.int .i64)) (fun pre v=>v= .slice none 0 0 ↔ pre= [])) _) (ownFrom_below (a8) P6))
  (fun _ _ _ _ _ hs _ _=>hs)
  ⟨⟨_,bO,World.ownsRow_nil _ _ _ _,by simp⟩,i⟩
  (fun x=>{ tmps:= #[(), .func (.func 92) #[] #[.pointer Bs], .pointer w,undef,(),x, .func (.func 92) #[] #[.pointer Bs],x,undef,undef,undef,undef,undef],defers:= [] }) ?assign ?body ?done ?stop
 case assign=>
  intro l x W K hK;gi_wp2;exact hK
 case body=>
  rintro l pre x W ⟨⟨v,hv,a,f⟩,hB⟩ B;have hc:=hv.cell
  gi_wp2_with (gi_at_builtin;refine wpListIn_append_own _ rfl _ _ 36 rfl w.heap.size 3 i0 OY 1 8 Tryz.underlying36 hi s t u rfl P9 _ _ _ rfl (a.alloc _) W 1 1 [x] rfl rfl (cell_one_new _ _ _) YZ R8 P2 (by have:=hB.size;simp;omega) ?_;intro v' w1 d k _;obtain⟨g',cap',rfl⟩:=ownsRow_succ d;obtain⟨m,y,z,A,o⟩:=hv.appended P9 a hB.size (a8) d k;have C:=m.cell;have E:=m.frozen)
  exact⟨A.from _,o,⟨_,y,by simpa using z,by simp⟩,hB.trans o⟩
 case done=>
  rintro D ys W hD rfl ⟨⟨v,hv,a,f⟩,hB⟩ hK;have hc:=hv.cell
  gi_wp2
  refine⟨by simp, .inl ⟨_,_,rfl,run_takeDeferred hK, ?_⟩⟩;exact⟨_,results_tmp rfl _ _ _,v,rfl,ownsRow_putObj a _ hK rfl,f,hB.trans (belowK_b (w:=w) (a8) W D _ _ (by simp at hD;omega) hK rfl rfl)⟩
 case stop=>
  rintro D c pre W _ _ h _;exact h.elim
theorem k_i:∀args w,(callFunc 161 args).run Tryz.prog w= .ok (.enter 161 args) w:=PY
theorem m_J (Bs b off cap:Nat) (zs:List Int) (a:zs.length <= 1000000) (w:World) (g:Bs < w.heap.size) (hb:b < w.heap.size)
 (hc:w.cell? Bs=some (.slice (some (b,off)) zs.length cap)) (hI:∀j,j < zs.length ->w.cell? ⟨b,off+j,none⟩=some (.int .i64 (zs[j]?.getD 0))):
 Calls Tryz.prog 90 #[.func (.func 92) #[] #[.pointer Bs]] w fun e W'=>∃v,e= .returned v/\W'.ownsRow w 3 1 v zs.length (zs.map (Value.int .i64))/\(v= .slice none 0 0 ↔ zs= [])/\Below w w W':=by
 have HC:=a6 ((callsIn_wide (n:=3)).1 (m_I Fence.wide 3 trivial trivial rfl P2 Bs b off cap zs a w g hb hc hI));have HE:=k_i;clear hc hI g hb;go_enter Tryz.func90,Tryz.ntmps90;go_wp2_with fail;refine HC.o.mono ?_;rintro e w' ⟨v,rfl,c,d,f⟩;have h:=a6 c;have i:=a6 d;have k:=a6 f
 clear c d f;go_wp2_with fail;go_ret;exact⟨v,rfl,h.o,i.o,k.o⟩
open Go.Sort
abbrev h_9 (l:List Int):List Int:=l.mergeSort fun x y=>decide (x <= y)
abbrev q_P (l:List (List UInt8)):List (List UInt8):=l.mergeSort fun x y=>decide (x <= y)
theorem m_K:∀args w,(callFunc 91 args).run Tryz.prog w= .ok (.enter 91 args) w:=PY
theorem m_L:∀args w,(callFunc 99 args).run Tryz.prog w= .ok (.enter 99 args) w:=PY
theorem q_Q (l:List Int) (v:Value) (base:Nat) (w:World) (a:w.ownsRow base 3 1 v l.length (l.map (Value.int .i64))) (hn:l.length <= 100000000):
 Calls Tryz.prog 91 #[v] w fun e w'=>e= .returned (.tuple #[])/\w'.ownsRow base 3 1 v l.length ((h_9 l).map (Value.int .i64))/\w.grownBy w' v.ownBlock:=by
 have h0:=a;rcases a.2 with⟨rfl,hz⟩ | ⟨g,cap,cur,rfl,b,hb,h1,h2,h3,h4⟩
 . have hl:l= []:=O2 hz
   subst hl;refine(AnyM.slices_Sort_int_none Tryz.sortI none 0 w).mono ?_;rintro e w' ⟨rfl,rfl⟩;exact⟨rfl,by simpa [h_9]using h0,World.grownBy.refl _ _⟩
 have hH:Holds (Value.int .i64) w g 0 l.toArray:=holds_of_blockI hb (by simpa using h4);refine(AnyM.slices_Sort_int Tryz.sortI g 0 cap l w hH (Array.getElem?_eq_some_iff.1 hb).1 P2).mono ?_;rintro e w' ⟨rfl,n,os,rfl⟩;exact⟨rfl,ownsRow_sortedI P6 b hb h1 h2 h3,grownBy_sortedI _⟩
theorem q_R (l:List (List UInt8)) (v:Value) (base:Nat) (w:World) (a:w.ownsRow base 9 1 v l.length (l.map aZ)) (hn:l.length <= 100000000):
 Calls Tryz.prog 99 #[v] w fun e w'=>e= .returned (.tuple #[])/\w'.ownsRow base 9 1 v l.length ((q_P l).map aZ)/\w.grownBy w' v.ownBlock:=by
 have h0:=a;rcases a.2 with⟨rfl,hz⟩ | ⟨g,cap,cur,rfl,b,hb,h1,h2,h3,h4⟩
 . have hl:l= []:=O2 hz
   subst hl;refine(AnyM.slices_Sort_string_none Tryz.sortS none 0 w).mono ?_;rintro e w' ⟨rfl,rfl⟩;exact⟨rfl,by simpa [q_P]using h0,World.grownBy.refl _ _⟩
 have hH:Holds encStr w g 0 l.toArray:=holds_of_block hb (by simpa using h4);refine(AnyM.slices_Sort_string Tryz.sortS g 0 cap l w hH (Array.getElem?_eq_some_iff.1 hb).1 P2).mono ?_;rintro e w' ⟨rfl,n,os,rfl⟩;exact⟨rfl,ownsRow_sorted P6 b hb h1 h2 h3,grownBy_sorted _⟩
theorem i_A:∀args w,(callFunc 90 args).run Tryz.prog w= .ok (.enter 90 args) w:=PY
theorem k_j:∀args w,(callFunc 36 args).run Tryz.prog w= .ok (.enter 36 args) w:=PY
theorem p_1 (Bs b off cap:Nat) (zs:List Int) (h:zs.length <= 1000000) (w:World) (l:Bs < w.heap.size) (hb:b < w.heap.size)
 (hc:w.cell? Bs=some (.slice (some (b,off)) zs.length cap)) (hI:∀j,j < zs.length ->w.cell? ⟨b,off+j,none⟩=some (.int .i64 (zs[j]?.getD 0))):
 Calls Tryz.prog 36 #[.func (.func 92) #[] #[.pointer Bs]] w fun e w'=>∃a c,e= .returned (.slice a zs.length c)/\RowA w' w' 1 a zs.length c ((h_9 zs).map (Value.int .i64))/\Below w w w':=by
 have HC:=a6 (m_J Bs b off cap zs h w l hb hc hI);have HE:=i_A;have r:=m_K
 clear hc hI l hb;go_enter Tryz.func36,Tryz.ntmps36;go_wp2_with fail;refine HC.o.mono ?_;rintro e w1 ⟨v,rfl,d,m,i⟩;have HS:=a6 (q_Q zs v w w1 d P2)
 have n:=a6 d;have o:=a6 i;clear d m i HC;go_wp2_with fail;refine HS.o.mono ?_;rintro e w2 ⟨rfl,f,g⟩;have p:=a6 (o.o.grown g o.o.size (fun k hk=>(n.o.lt k hk).1))
 have q:=a6 f;clear f g HS;go_wp2_with fail;go_ret;obtain⟨a,c,rfl,hr⟩:=eK q.o YZ;exact⟨a,c,rfl,hr,p.o⟩
theorem i_B {α :Type} [DecidableEq α]:∀ (l m:List α),l.Nodup ->(∀x∈l,x∈m) ->l.length <= m.length
 | [],m,_,_=>Nat.zero_le _
 | x::l,m,h,hs=>by
   have hx:x∈m:=hs x P6;have hn:=List.nodup_cons.1 h;have h1:=i_B l (m.erase x) hn.2 (fun y hy=>(List.mem_erase_of_ne (show y≠x from fun e=>hn.1 (by rw [<- e];exact hy))).2 (hs y t_t));rw [List.length_erase_of_mem hx]at h1;have h2:=List.length_pos_of_mem hx
   simp only [O7];omega
theorem q_S {α :Type} {p:List α ->Prop} (h0:p []) (h1:∀l x,p l ->p (l ++ [x])):∀l,p l:=fun l=>by
 have h:∀m:List α,p m.reverse:=by
  intro m;induction m with
  | nil=>exact h0
  | cons x m ih=>rw [List.reverse_cons];exact h1 _ _ ih
 simpa using h l.reverse
theorem k_k (s:b5) (k:List UInt8):cJ s k∈rJ s:=by
 rcases LZ s k with h | h
 . exact List.mem_append_left _ h
 rw [h];exact List.mem_append_right _ P6
theorem d_I {s:b5} {r:bK} (h:r∈rJ s):r.wt <= s.wt:=by
 unfold b5.wt;rcases OQ h with h | h
 . have:=E7 h;omega
 simp at h;subst h;omega
theorem c_a (s:b5):(rJ s).length=s.rules.length+1:=P6
theorem s_7 {s:b5} {met:List (List UInt8)} (h:met.Nodup) (hs:∀x∈met,x∈ (rJ s).map (·.type)):met.length <= s.rules.length+1:=by
 have h1:=i_B met _ h hs;rw [O6,c_a]at h1;exact h1
theorem e_O (s:b5) (f:Nat) (met:List (List UInt8)) (r:bK) (n:Nat):
 l8 s (f+1) met r n=if r.fill=0 then (n:Int) else if r.fill=1 then (n:Int)+1 else if r.type∈met then -1 else l8 s f (r.type::met) (cJ s r.fillT) (n+1):=rfl
theorem i_C (s:b5):∀ (f:Nat) (met:List (List UInt8)) (r:bK) (n:Nat),l8 s f met r n <= (n:Int)+f
 | 0,met,r,n=>by simp only [l8];omega
 | f+1,met,r,n=>by
   rw [e_O];have:=i_C s f (r.type::met) (cJ s r.fillT) (n+1)
   split
   . omega
   split
   . omega
   split
   . omega
   omega
def EX (s:b5) (r:bK) (l:List (List UInt8)):Bool:=
 !(decide (r.text.1=4) && (decide ((lJ r r.text.2).1≠1) || decide ((cJ s r.text.2).text.1≠1))) && (l.all (zK s r) &&
   (if r.fill=1 then decide (r.text.1=1) else if r.fill=2 then decide ((lJ r r.fillT).1=1) else true))
theorem e_P (s:b5) (r:bK):EX s r (M4 s)=BX s r:=rfl
theorem p_2 {α :Type} {p: α ->Bool} {l m:List α} (h:∀x,x∈l ↔ x∈m):l.all p=m.all p:=by
 rw [Bool.eq_iff_iff,List.all_eq_true,List.all_eq_true];exact⟨fun g x hx=>g x ((h x).2 hx),fun g x hx=>g x ((h x).1 hx)⟩
theorem f_B {s:b5} {r:bK} {l m:List (List UInt8)} (h:∀x,x∈l ↔ x∈m):EX s r l=EX s r m:=by
 unfold EX;rw [p_2 h]
abbrev J0 (s:b5):List (List UInt8):=(rJ s).flatMap iY
theorem k_l {s:b5} {out:List (List UInt8)} (h:∀x,x∈out ↔ x∈J0 s/\x≠ []):∀x,x∈out ++ [[]] ↔ x∈M4 s:=by
 intro x;unfold M4;rw [List.mem_append,List.mem_append,h x];by_cases hx:x= []
 . subst hx;simp
 simp [hx]
theorem k_m {s:b5} {r:bK} {out:List (List UInt8)} (h:∀x,x∈out ↔ x∈J0 s/\x≠ []):EX s r (out ++ [[]])=BX s r:=by
 rw [<- e_P,f_B (k_l h)]
theorem q_T {r:bK} {x:List UInt8} (h:x∈iY r):x.length <= r.wt:=by
 unfold iY at h;unfold bK.wt;rcases OQ h with h | h
 . simp at h
   rcases h with rfl | rfl | rfl | rfl <;> omega
 obtain⟨p,hp,hx⟩:=List.mem_flatMap.1 h;have:=N9 hp
 simp at hx
 rcases hx with rfl | rfl <;> omega
theorem h_a {s:b5} {x:List UInt8} (h:x∈J0 s):x.length <= s.wt:=by
 obtain⟨r,hr,hx⟩:=List.mem_flatMap.1 h;exact aJ (q_T hx) (d_I hr)
theorem g_c (r:bK):(iY r).length <= r.wt:=by
 have:∀l:List yY,(l.flatMap (fun p=> [p.1,p.2.2])).length=2 * l.length:=by
  intro l;induction l with
  | nil=>rfl
  | cons p l ih=>rw [List.flatMap_cons,NZ,ih];simp;omega
 have h1:=N8 r.kids;unfold iY bK.wt;rw [NZ,this];simp
 omega
theorem i_D (s:b5):(J0 s).length <= s.wt:=by
 have h:∀l:List bK,(l.flatMap iY).length <= xY l:=by
  intro l;induction l with
  | nil=>simp [xY]
  | cons r l ih=>have:=g_c r;simp only [xY,List.flatMap_cons,NZ];omega
 have h1:=h s.rules;have h2:=g_c s.els;unfold b5.wt;simp only [J0,rJ,List.flatMap_append,NZ,List.flatMap_cons,List.flatMap_nil,List.append_nil];omega
open Go.Maps
def h_b (acc:List (List UInt8)):DataW Unit:=Maps.setOf (.lit (.bool true)) (acc.map Lit.string)
theorem g_d (acc:List (List UInt8)) (k:List UInt8):h_b (acc ++ [k])=(h_b acc).put (.string k) (.lit (.bool true)):=by
 unfold h_b;rw [List.map_append,List.map_cons,List.map_nil,Maps.setOf_snoc]
theorem p_3 (acc:List (List UInt8)):Maps.IsMap (h_b acc):=(Maps.tidy_setOf _ _ (fun x hx=>by obtain⟨s, -,rfl⟩:=OV hx;trivial)).isMap
theorem p_4 (acc:List (List UInt8)) (k:List UInt8):Maps.has (h_b acc) (.string k)=decide (k∈acc):=by
 unfold h_b;rw [Maps.has_setOf _ _ _ (fun x hx=>by obtain⟨s, -,rfl⟩:=OV hx;trivial),List.any_map]
 by_cases h:k∈acc
 . rw [decide_eq_true h,List.any_eq_true]
   exact⟨k,h,by simp [Lit.sameKey]⟩
 rw [O3 h,List.any_eq_false];intro x hx;have:x≠k:=fun e=>h (e ▸ hx)
 simp [Lit.sameKey,this]
theorem q_U (acc:List (List UInt8)) (k:List UInt8):(h_b acc).atKey (.string k) (.lit (.bool false))= .lit (.bool (decide (k∈acc))):=by
 induction acc using q_S with
 | h0=>rfl
 | h1 acc x ih=>
   rw [g_d];by_cases h:k=x
   . subst h
     rw [Maps.atKey_put_same (k:= .string k) (p_3 acc) trivial]
     simp
   rw [Maps.atKey_put_other TX,ih]
   simp [h]
abbrev h_c:Maps.Keyed Tryz.prog 9:=Maps.string_keyed Tryz.underlying9
def sX (w:World) (b n:Nat) (acc:List (List UInt8)):Prop:=w.ownsMap Tryz.prog 9 (plainElem (H:=Unit) Tryz.prog 4) b n (h_b acc)
theorem sX.fresh (w:World):sX (w.alloc (.map #[] 0)) w 0 []:=World.ownsMap_made w _ _ _
theorem sX.lt {w:World} {b n:Nat} {acc:List (List UInt8)} (h:sX w b n acc):b < w.heap.size:=World.ownsMap.lt h
theorem sX.kept {w w':World} {b n:Nat} {acc:List (List UInt8)} (h:sX w b n acc) (hb:Below w w w'):sX w' b n acc:=World.ownsMap.kept h (CK hb) P6
theorem sX.setCell {w:World} {b n:Nat} {acc:List (List UInt8)} (h:sX w b n acc) {a:Addr} (ha:b≠a.block) (u:Value):sX (w.setCell a u) b n acc:=World.ownsMap.setCell h ha u
theorem s_B (w:World):(zeroValue 4).run Tryz.prog w= .ok (.bool false) w:=P3
theorem sX.ask {w:World} {b n:Nat} {acc:List (List UInt8)} (h:sX w b n acc) (k:List UInt8) (hk:k.length <= maxLen):
 (Instr.lookup 150 (.map (some b)) (aZ k) false).run Tryz.prog w= .ok (.bool (decide (k∈acc))) w:=by
 obtain⟨v,ps,a,hv⟩:=World.ownsMap.lookup h h_c Tryz.underlying150 (s_B w) (plainElem_bool Tryz.underlying4 false) (WideMaps.keyOf_string_mk Tryz.underlying9 (s:=⟨k.toArray⟩) hk);rw [q_U]at hv;have c:v= .bool (decide (k∈acc)):=by
  unfold plainElem at hv;rw [Tryz.underlying4]at hv;cases v with
  | bool b=>
    simp only [Option.some.injEq,Prod.mk.injEq]at hv;have h1:=hv.1
    injection h1 with h1
    injection h1 with h1
    rw [h1]
  | _=>cases hv
 rw [a,c]
theorem sX.put {w:World} {b n:Nat} {acc:List (List UInt8)} (h:sX w b n acc) (hn:n < maxLen) (k:List UInt8) (hk:k.length <= maxLen):
 ∃w',(Instr.mapUpdate 150 (.map (some b)) (aZ k) true).run Tryz.prog w= .ok () w'/\sX w' b (n+1) (acc ++ [k])/\w.grownBy w' (some b):=by
 obtain⟨w',a,h1,h2⟩:=World.ownsMap.update h h_c Tryz.underlying150 hn (WideMaps.keyOf_string_mk Tryz.underlying9 (s:=⟨k.toArray⟩) hk) (plainElem_bool Tryz.underlying4 true);exact⟨w',a,by unfold sX;rw [g_d];exact h1,h2⟩
theorem i_E {ops:Array Oper} {rest:List Oper} {o:Oper} {a:Act} {w:World} {Q:Exit ->Act ->World ->Prop} (hg:o.guard=none) (m x v:Operand) (ho:o.op= .mapUpdate 150 m x v)
 (b n:Nat) (acc:List (List UInt8)) (k:List UInt8) (hm:a.eval m= .map (some b)) (hx:a.eval x=aZ k) (hv:a.eval v= .bool true) (h:sX w b n acc) (hn:n < maxLen) (hk:k.length <= maxLen)
 (hK:∀w',sX w' b (n+1) (acc ++ [k]) ->w.grownBy w' (some b) ->wpList Tryz.prog ops Q rest (a.put o.dst undef) w'):wpList Tryz.prog ops Q (o::rest) a w:=by
 obtain⟨w',c,r1,r2⟩:=h.put hn k hk;refine wpList_plain hg fun K' d=> ?_
 unfold Oper.wp;simp [execOp,ho,hm,hx,hv,c,Result.andThen];exact d _ _ (hK w' r1 r2)
theorem b_o:(Tryz.prog.info? 27).map (fun i=>(i.zero,i.size,i.bytes))=some (some (.agg #[.string ⟨#[]⟩,OY, .string ⟨#[]⟩,OY, .string ⟨#[]⟩,(),OY, .string ⟨#[]⟩]),8,112):=P3
theorem k_n (B n:Nat) (a:Option Addr) (cap:Nat) (cs:List Value) (w:World) (hr:RowA w B 8 a n cap cs) (hB:B <= w.heap.size) (hn:n <= 100000000):
 Calls Tryz.prog 95 #[(a,n,cap)] w (vX w 27 8 n cs):=by
 have c:=fun(w:World)=>Lib.run_eql_slice_nil w (P:=Tryz.prog) 22 27 a n cap 0 0 Tryz.underlying22
 cases ha:a with
 | none=>
   subst ha;obtain rfl:=hr.nil rfl;obtain rfl:n=0:=S7
   have d:cs= []:=O2 SJ;subst d;go_enter Tryz.func95,Tryz.ntmps95;go_wp2_with fail;go_ret;exact⟨_,rfl,World.ownsRow_nil _ _ _ _,a7⟩
 | some ad=>
   subst ha;go_enter Tryz.func95,Tryz.ntmps95
   go_wp2_with (at_builtin;refine u_9 rfl _ _ 22 rfl w.heap.size 27 (.agg #[.string ⟨#[]⟩,OY, .string ⟨#[]⟩,OY, .string ⟨#[]⟩,(),OY, .string ⟨#[]⟩]) 8 112 Tryz.underlying22 b_o rfl P9 _ 0 [] rfl ?hown _ n cap B cs rfl ?hr ?h63 ?hb ?hbase ?_)
   case hown=>exact World.ownsRow_lit w #[] 0 (a8) (Nat.zero_le _) rfl
   case hr=>exact hr.keep ((a7).alloc hB _) (a8)
   case h63=>unfold maxLen;omega
   case hb=>omega
   case hbase=>simp
   intro v' w1 hown b;have Ho:=a6 hown;have Hg:=a6 b;clear hown b c hr
   go_wp2_with fail;go_ret;refine⟨v',rfl,by simpa using Ho.o,((a7).alloc (a8) _).grown Hg.o P6 ?_⟩
   simp [Value.ownBlock]
theorem i9.push_ {w:World} {B:Nat} {x:bK} {cx:List Value} (hx:I5 w B x cx):∀ {rs:List bK} {css:List Value},i9 w B rs css ->i9 w B (rs ++ [x]) (css ++ cx)
 | [],css,h=>by rw [show css= []from h];exact⟨cx, [],by simp,hx,rfl⟩
 | r::rs,css,h=>by
   obtain⟨c1,c2,rfl,h2,h3⟩:=h;exact⟨c1,c2 ++ cx,by rw [O4],h2,i9.push_ hx h3⟩
theorem k_o {w:World} {N:Nat} {cs:List Value} {T:TypeId} (h:At w N cs T) (n sz:Nat) (hl:cs.length=n * sz) (hn:n <= 100000000) (h1:∀u∈cs,u.oneCell'=true):RowA w (N+1) sz N n n cs:=
 ⟨hl,a8,by unfold maxLen;omega,h1,(fun e=>by cases e),fun _=>⟨N,0,rfl,by omega,fun j u hj=>by rw [O5];exact h.cell j hj⟩⟩
theorem At.drw {w:World} {N:Nat} {cs:List Value} {T:TypeId} (h:At w N cs T):At w.drew N cs T:=h
abbrev r_s (s:b5) (B:Nat) (W:World) (e:Ending) (w':World):Prop:=
 ∃a c css,e= .returned (.slice a (rJ s).length c)/\RowQ w' (fun b=>W.heap.size <= b) 8 a (rJ s).length c css/\i9 w' B (rJ s) css/\Below W W w'
theorem c_b (s:b5) (v:Value) (B:Nat) (W:World) (hw:s.wt <= 100000000) (hv:SchemaV W B s v) (hB:B <= W.heap.size):Calls Tryz.prog 43 #[v] W (r_s s B W):=by
 have p:s.rules.length <= 100000000:=SK
 obtain⟨a,c,css,ea,ec,o0,o1,o2,o3,o4,o5,rfl,h1,h2,h3, -⟩:=hv.open;obtain⟨rs,⟨ty,⟨td,tt⟩,⟨od,ot⟩,kids,fill,ft⟩,order,scap⟩:=s;simp only at p h1 h2 h3⊢;have HF:=a6 (show ∀ (w':World) (v':Value) (e:Ending),e= .returned v' ->w'.ownsRow W 27 8 v' (rs.length+1) (css ++ [aZ ty, .int .i64 td,aZ tt, .int .i64 od,aZ ot, .slice ea kids.length ec, .int .i64 fill,aZ ft]) ->Below W W w' ->r_s ⟨rs,⟨ty,(td,tt),(od,ot),kids,fill,ft⟩,order,scap⟩ B W e w' from by
  rintro w' v' e rfl g hb;have r:=i9.keep (hb.mono hB) (a8) h2
  have hx:I5 w' B ⟨ty,(td,tt),(od,ot),kids,fill,ft⟩ [aZ ty,td,aZ tt,od,aZ ot,(ea,kids.length,ec),fill,aZ ft]:=⟨ea,ec,rfl,h3.keep (hb.mono hB) (a8)⟩;have h4:=i9.push_ hx r;obtain⟨a',c',rfl,hr⟩:=nV g (h4.one);refine⟨a',c',_, ?_, ?_,h4,hb⟩
  . simp
  simpa using hr)
 obtain⟨w0,o⟩:∃w0,w0=W.alloc (Obj.cells #[(a,rs.length,c),aZ ty,td,aZ tt,od,aZ ot,(ea,kids.length,ec),fill,aZ ft,o0,o1,o2,o3,o4,o5,scap] 30):=⟨_,rfl⟩;have m:Below W W w0:=by rw [o];exact b7 _ _
 have hA:At w0 W [(a,rs.length,c),aZ ty,td,aZ tt,od,aZ ot,(ea,kids.length,ec),fill,aZ ft,o0,o1,o2,o3,o4,o5,scap] 30:=by rw [o];exact At.fresh W _ _
 have q:=a6 o;have j:=a6 m;have t:=a6 (fun(w':World) (hb:Below w0 w0 w')=>have h:=hA.kept hb;(⟨h.cell 0 rfl,h.cell 1 rfl,h.cell 2 rfl,h.cell 3 rfl,h.cell 4 rfl,h.cell 5 rfl,h.cell 6 rfl,h.cell 7 rfl,h.cell 8 rfl⟩:w'.cell? W=some (.slice a rs.length c)/\w'.cell? (P0 W 1)=some (aZ ty)/\w'.cell? (P0 W 2)=some (.int .i64 td)/\w'.cell? (P0 W 3)=some (aZ tt)/\w'.cell? (P0 W 4)=some (.int .i64 od)/\w'.cell? (P0 W 5)=some (aZ ot)/\w'.cell? (P0 W 6)=some (.slice ea kids.length ec)/\w'.cell? (P0 W 7)=some (.int .i64 fill)/\w'.cell? (P0 W 8)=some (aZ ft)));have HC:=a6 (fun(w':World) (hb:Below w0 w0 w')=>k_n w' rs.length a c css w' (h1.keep ((m.trans (hb.mono m.size)).mono hB) (aJ hB (aJ m.size hb.size))) (a8) p);have HE:=a6 (show ∀ (u:Value),u∈ [aZ ty, .int .i64 td,aZ tt, .int .i64 od,aZ ot, .slice ea kids.length ec, .int .i64 fill,aZ ft] ->u.oneCell'=true from fun u hu=>by simp at hu;rcases hu with rfl | rfl | rfl | rfl | rfl | rfl | rfl | rfl <;> rfl);have y:=a6 h1.len;clear hv m hA o h1 h2 h3 hw hB;go_enter Tryz.func43,Tryz.ntmps43;go_upto_region 1 with fail;rw [<- q.o];clear q;go_region_held3 (fun w'=>w'.cell? W=some (.slice a rs.length c)/\w'.cell? (P0 W 1)=some (aZ ty)/\w'.cell? (P0 W 2)=some (.int .i64 td)/\w'.cell? (P0 W 3)=some (aZ tt)/\w'.cell? (P0 W 4)=some (.int .i64 od)/\w'.cell? (P0 W 5)=some (aZ ot)/\w'.cell? (P0 W 6)=some (.slice ea kids.length ec)/\w'.cell? (P0 W 7)=some (.int .i64 fill)/\w'.cell? (P0 W 8)=some (aZ ft)) (refine t.o _ (by(with_reducible (repeat (first | exact l.o | exact f.o | exact a7 | refine aK ?_ | refine aQ ?_ ?_ _ | refine aV ?_ ?_ _)) <;> (first | exact a8 | exact l.o.size | exact f.o.size | (have:=l.o.size;simp [World.setCell];omega) | (have:=f.o.size;simp [World.setCell];omega) | (simp <;> omega) | omega))))
  (first
  | (refine bQ rfl 95 _ _ rfl P5 [(a,rs.length,c)] ?_ _ (HC.o _ P1) ?_
     . go_simp
     rintro e w1 ⟨v1,rfl,g,n⟩;refine⟨_,rfl, ?_⟩;have f:=a6 (b6 (w0:=w0) P1 n);have i:=a6 (q9 g ((Below.size (w:=w0) (B:=w0.heap.size) P1)))
     first
      | (have h9:=At.kept (w:=World.drew _) (At.drw (At.fresh _ [aZ ty,td,aZ tt,od,aZ ot,(ea,kids.length,ec),fill,aZ ft] 27)) n
         have x:=a6 (show At w1 w0 [aZ ty,td,aZ tt,od,aZ ot,(ea,kids.length,ec),fill,aZ ft] 27 from h9);clear h9)
      | skip
     clear g n)
  | (refine N6 (w:=w1.alloc (Obj.cells #[aZ ty,td,aZ tt,od,aZ ot,(ea,kids.length,ec),fill,aZ ft] 27)) rfl _ _ _ rfl w0.heap.size 27 _ 8 112 Tryz.underlying22 b_o rfl P9 v1 rs.length css ?_ (kQ i.o (b7 w1 _)) w1 1 1 (w1+1) [aZ ty,td,aZ tt,od,aZ ot,(ea,kids.length,ec),fill,aZ ft] ?_ (k_o (At.fresh w1 [aZ ty,td,aZ tt,od,aZ ot,(ea,kids.length,ec),fill,aZ ft] 27) 1 8 rfl P2 HE.o) ?_ ?_ ?_ ?_
     . go_simp
     . go_simp
     . unfold maxLen;omega
     . omega
     . exact(aJ f.o.size (b7 w1 _).size)
     intro v2 w2 b d;have l:=a6 ((b6 f.o (b7 w1 _)).grown d (aJ f.o.size (b7 w1 _).size) (fun k hk=>(i.o.lt k hk).1))
     have HZ:=a6 (HF.o w2 v2 _ rfl (q9 b j.o.size) (j.o.trans (l.o.mono j.o.size)));clear b d)
  | (refine N6 (w:=w1) rfl _ _ _ rfl w0.heap.size 27 _ 8 112 Tryz.underlying22 b_o rfl P9 v1 rs.length css ?_ (i.o) w0 1 1 (w0+1) [aZ ty,td,aZ tt,od,aZ ot,(ea,kids.length,ec),fill,aZ ft] ?_ (k_o x.o 1 8 rfl P2 HE.o) ?_ ?_ ?_ ?_
     . go_simp
     . go_simp
     . unfold maxLen;omega
     . omega
     . exact(f.o.size)
     intro v2 w2 b d;have l:=a6 (f.o.grown d f.o.size (fun k hk=>(i.o.lt k hk).1))
     have HZ:=a6 (HF.o w2 v2 _ rfl (q9 b j.o.size) (j.o.trans (l.o.mono j.o.size)));clear b d)
 )
 all_goals
  go_wp2_with fail;go_ret;exact HZ.o
end Go.Proofs.YtmadpclcmjahoaaGreatDoor

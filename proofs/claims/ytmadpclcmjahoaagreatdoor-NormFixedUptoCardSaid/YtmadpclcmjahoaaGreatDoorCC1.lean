/- Parts of the proof: CC1. -/
import Derived.WalkKit
import Derived.WalkSpells
import Derived.WalkLawsBesides
import Derived.Lib.Hide
import Derived.Laws.AppendOwnNone
import Derived.Lib.AppendZeros
import Derived.Lib.UnsafeStr
import Derived.Laws.BytesArg
import Derived.ChangeSlices
import Derived.ChangeArms
import Derived.Deep.Slices
import Derived.Test.YtmadpclcmjahoaaGreatDoorRows
import Derived.Test.YtmadpclcmjahoaaGreatDoorProg
set_option linter.unusedVariables false
set_option linter.unusedSimpArgs false
set_option maxHeartbeats 8000000
set_option maxRecDepth 100000
namespace Go
theorem a6 {p : Prop} (h : p) : RowKit.Hid p := h
theorem RowKit.Hid.o {p : Prop} (h : RowKit.Hid p) : p := h.out
theorem a7 {B : Nat} {w : World} : RowKit.Below B w w := RowKit.Below.refl B w
theorem a8 {n : Nat} : n ≤ n := Nat.le_refl n
theorem aJ {a b c : Nat} (h : a ≤ b) (k : b ≤ c) : a ≤ c := Nat.le_trans h k
theorem aK {B : Nat} {w v : World} (h : RowKit.Below B w v) : RowKit.Below B w v.drew := h.drew
theorem aQ {B : Nat} {w v : World} (h : RowKit.Below B w v) (k : B ≤ v.heap.size) (o : Obj) : RowKit.Below B w (v.alloc o) := h.alloc k o
theorem aV {B : Nat} {w v : World} {p : Addr} (h : RowKit.Below B w v) (k : B ≤ p.block) (u : Value) : RowKit.Below B w (v.setCell p u) := h.setCell k u
inductive OZ|a
def OY:OZ:=.a
instance:Coe OZ Value:=⟨fun _=>.int .i64 0⟩
instance:Coe Unit Value:=⟨fun _=>.slice none 0 0⟩
instance:Coe Bool Value:=⟨fun b=>.bool b⟩
inductive APr|a(b o:Nat)
def P0:=APr.a
instance(b o):CoeDep APr (P0 b o) Addr:=⟨⟨b,o,none⟩⟩
instance:Coe Int Value:=⟨fun n=>.int .i64 n⟩
instance:Coe Nat Value:=⟨fun n=>.int .i64 n⟩
instance:Coe ByteArray Value:=⟨fun n=>.string n⟩
instance(a n c):CoeDep (Option Addr×Nat×Nat) (a,n,c) Value:=⟨.slice a n c⟩
instance:Coe World Nat:=⟨fun w=>w.heap.size⟩
instance:Coe Nat Addr:=⟨fun n=>⟨n,0,none⟩⟩
instance(b o n c):CoeDep (Nat×Nat×Nat×Nat) (b,o,n,c) Value:=⟨.slice (some ⟨b,o,none⟩) n c⟩
instance(w:World)(o n c):CoeDep (World×Nat×Nat×Nat) (w,o,n,c) Value:=⟨.slice (some ⟨w.heap.size,o,none⟩) n c⟩
instance(b n c):CoeDep (Nat×Nat×Nat) (b,n,c) Value:=⟨.slice (some ⟨b,0,none⟩) n c⟩
instance(w:World)(n c):CoeDep (World×Nat×Nat) (w,n,c) Value:=⟨.slice (some ⟨w.heap.size,0,none⟩) n c⟩
instance(b o):CoeDep (Nat×Nat) (b,o) Addr:=⟨⟨b,o,none⟩⟩
instance(b:World)(o):CoeDep (World×Nat) (b,o) Addr:=⟨⟨b.heap.size,o,none⟩⟩
theorem P1 {p:Prop} (h:p:=by (with_reducible (repeat (first | exact a7 | refine aK ?_ | refine aQ ?_ ?_ _ | refine aV ?_ ?_ _)) <;> (first | exact a8 | (simp <;> omega) | omega))):p:=h
theorem P2 {p:Prop} (h:p:=by omega):p:=h
theorem P3 {p:Prop} (h:p:=by kernel_rfl):p:=h
theorem P4 {p:Prop} (h:p:=by (with_reducible (repeat (first | exact f.o | exact a7 | refine aK ?_ | refine aQ ?_ ?_ _ | refine aV ?_ ?_ _)) <;> (first | exact a8 | exact f.o.size | (have:=f.o.size;simp [World.setCell];omega) | (simp <;> omega) | omega))):p:=h
theorem P5 {p:Prop} (h:p:=by intro _ _;kernel_rfl):p:=h
theorem P6 {p:Prop} (h:p:=by simp):p:=h
theorem P7 {p:Prop} (h:p:=by (with_reducible (repeat (first | exact d.o | exact a7 | refine aK ?_ | refine aQ ?_ ?_ _ | refine aV ?_ ?_ _)) <;> (first | exact a8 | exact d.o.size | (have:=d.o.size;simp [World.setCell];omega) | (simp <;> omega) | omega))):p:=h
theorem P8 {p:Prop} (h:p:=by simp;omega):p:=h
theorem P9 {p:Prop} (h:p:=by decide):p:=h
theorem PJ {p:Prop} (h:p:=by intro u hu;obtain⟨z, -,rfl⟩:=OV hu;rfl):p:=h
theorem PK {p:Prop} (h:p:=by (with_reducible (repeat (first | exact u.o | exact a7 | refine aK ?_ | refine aQ ?_ ?_ _ | refine aV ?_ ?_ _)) <;> (first | exact a8 | exact u.o.size | (have:=u.o.size;simp [World.setCell];omega) | (simp <;> omega) | omega))):p:=h
theorem PQ {p:Prop} (h:p:=by have h1:=hr.le;have h2:=hr.max;unfold maxLen at h2;omega):p:=h
theorem PV {p:Prop} (h:p:=by (first | exact f.o.size | (have hsz:=f.o.size;simp;omega) | exact a8 | (simp;done) | (simp;omega) | omega)):p:=h
theorem PY {p:Prop} (h:p:=by intro args w;kernel_rfl):p:=h
theorem PZ {p:Prop} (h:p:=by (with_reducible (repeat (first | exact O.o | exact a7 | refine aK ?_ | refine aQ ?_ ?_ _ | refine aV ?_ ?_ _)) <;> (first | exact a8 | exact O.o.size | (have:=O.o.size;simp [World.setCell];omega) | (simp <;> omega) | omega))):p:=h
theorem QJ {p:Prop} (h:p:=by first | exact Hr.o | (rw [<- Hr.o];simp;done) | (rw [<- Hr.o];simp;omega)):p:=h
theorem QK {p:Prop} (h:p:=by rw [MT.at_bare,ha];rfl):p:=h
theorem QQ {p:Prop} (h:p:=by rw [ByteArray.toList_mk];rfl):p:=h
theorem QV {p:Prop} (h:p:=by rw [MakeChecks.laidMetH_plain _ _ _ (by kernel_rfl)];exact laidMet_laidAll _ (by kernel_rfl) (by kernel_rfl)):p:=h
theorem QX {p:Prop} (h:p:=by (with_reducible (repeat (first | exact k.o | exact f.o | exact a7 | refine aK ?_ | refine aQ ?_ ?_ _ | refine aV ?_ ?_ _)) <;> (first | exact a8 | exact k.o.size | exact f.o.size | (have:=k.o.size;simp [World.setCell];omega) | (have:=f.o.size;simp [World.setCell];omega) | (simp <;> omega) | omega))):p:=h
theorem QY {p:Prop} (h:p:=by rw [IntKind.wrap_i64];omega):p:=h
theorem QZ {p:Prop} (h:p:=by (first | exact a8 | (simp;done) | (simp;omega) | omega)):p:=h
theorem R3 {p:Prop} (h:p:=by with_reducible (repeat (first | exact O.o | exact At.second _ _ _ _ | exact At.fresh _ _ _ | refine At.drew ?_ | refine At.alloc ?_ _))):p:=h
theorem R4 {p:Prop} (h:p:=by simpa using hi):p:=h
theorem R5 {p:Prop} (h:p:=by simpa using h2):p:=h
theorem R6 {p:Prop} (h:p:=by with_reducible (repeat (first | exact Hz.o | refine A7 ?_ _))):p:=h
theorem R7 {p:Prop} (h:p:=by with_reducible (repeat (first | exact At.second _ _ _ _ | exact At.fresh _ _ _ | refine At.drew ?_ | refine At.alloc ?_ _))):p:=h
theorem R8 {p:Prop} (h:p:=by unfold maxLen;omega):p:=h
theorem R9 {p:Prop} (h:p:=by simp [World.setCell]):p:=h
theorem RJ {p:Prop} (h:p:=by have h1:=j.le;have h2:=j.max;unfold maxLen at h2;omega):p:=h
theorem RK {p:Prop} (h:p:=by (with_reducible (repeat (first | exact y.o | exact a7 | refine aK ?_ | refine aQ ?_ ?_ _ | refine aV ?_ ?_ _)) <;> (first | exact a8 | exact y.o.size | (have:=y.o.size;simp [World.setCell];omega) | (simp <;> omega) | omega))):p:=h
theorem RQ {p:Prop} (h:p:=by (with_reducible (repeat (first | exact x.o | exact a7 | refine aK ?_ | refine aQ ?_ ?_ _ | refine aV ?_ ?_ _)) <;> (first | exact a8 | exact x.o.size | (have:=x.o.size;simp [World.setCell];omega) | (simp <;> omega) | omega))):p:=h
theorem RV {p:Prop} (h:p:=by (with_reducible (repeat (first | exact t.o | exact a7 | refine aK ?_ | refine aQ ?_ ?_ _ | refine aV ?_ ?_ _)) <;> (first | exact a8 | exact t.o.size | (have:=t.o.size;simp [World.setCell];omega) | (simp <;> omega) | omega))):p:=h
theorem RX {p:Prop} (h:p:=by (with_reducible (repeat (first | exact q.o | exact a7 | refine aK ?_ | refine aQ ?_ ?_ _ | refine aV ?_ ?_ _)) <;> (first | exact a8 | exact q.o.size | (have:=q.o.size;simp [World.setCell];omega) | (simp <;> omega) | omega))):p:=h
theorem RY {p:Prop} (h:p:=by (with_reducible (repeat (first | exact o.o | exact a7 | refine aK ?_ | refine aQ ?_ ?_ _ | refine aV ?_ ?_ _)) <;> (first | exact a8 | exact o.o.size | (have:=o.o.size;simp [World.setCell];omega) | (simp <;> omega) | omega))):p:=h
theorem RZ {p:Prop} (h:p:=by (with_reducible (repeat (first | exact m.o | exact a7 | refine aK ?_ | refine aQ ?_ ?_ _ | refine aV ?_ ?_ _)) <;> (first | exact a8 | exact m.o.size | (have:=m.o.size;simp [World.setCell];omega) | (simp <;> omega) | omega))):p:=h
theorem S0 {p:Prop} (h:p:=by (with_reducible (repeat (first | exact g.o | exact a7 | refine aK ?_ | refine aQ ?_ ?_ _ | refine aV ?_ ?_ _)) <;> (first | exact a8 | exact g.o.size | (have:=g.o.size;simp [World.setCell];omega) | (simp <;> omega) | omega))):p:=h
theorem S3 {p:Prop} (h:p:=by unfold Func.isWrapper;rw [if_neg (by decide+kernel)];exact⟨rfl,rfl⟩):p:=h
theorem S4 {p:Prop} (h:p:=by simp [Region.wanted,hg]):p:=h
theorem S5 {p:Prop} (h:p:=by simp [show xs≠ys from fun h=>Hl.o (by rw [h])]):p:=h
theorem S6 {p:Prop} (h:p:=by simp [results,Tryz.results66,go_sem,x0,x1,x2,x3,fx0,fx1,fx2,fx3]):p:=h
theorem S7 {p:Prop} (h:p:=by have:=hr.le;omega):p:=h
theorem S8 {p:Prop} (h:p:=by rw [MT.mk_nil]at h⊢;rwa [MT.mark_setKids]at h):p:=h
theorem S9 {p:Prop} (h:p:=by rw [MT.kids_setKids];simpa using hj):p:=h
theorem SJ {p:Prop} (h:p:=by simpa using hr.len):p:=h
theorem SK {p:Prop} (h:p:=by have:=mX s.rules;unfold b5.wt at hw;omega):p:=h
theorem SQ {p:Prop} (h:p:=by simpa using hz):p:=h
theorem SV {p:Prop} (h:p:=by cases T;rfl):p:=h
theorem SX {p:Prop} (h:p:=by obtain⟨m,hm⟩:=k2;exact DataW.trod_lt m _ _ _ hm):p:=h
theorem SY {p:Prop} (h:p:=by obtain⟨m,hm⟩:=k1;exact DataW.trod_lt m _ _ _ hm):p:=h
theorem SZ {p:Prop} (h:p:=by obtain⟨m,hm⟩:=k0;exact DataW.trod_lt m _ _ _ hm):p:=h
theorem T0 {p:Prop} (h:p:=by intro u hu;cases hu):p:=h
theorem T8 {p:Prop} (h:p:=by first | (rw [<- c.o];done) | (rw [<- c.o];omega)):p:=h
theorem T9 {p:Prop} (h:p:=by rw [A0 hj];have:=jJ (NY hj);have:=hJ.kl;omega):p:=h
theorem TJ {p:Prop} (h:p:=by with_reducible (repeat (first | exact J0.o | exact At.second _ _ _ _ | exact At.fresh _ _ _ | refine At.drew ?_ | refine At.alloc ?_ _))):p:=h
theorem TK {p:Prop} (h:p:=by with_reducible (repeat (first | exact w.o | exact At.second _ _ _ _ | exact At.fresh _ _ _ | refine At.drew ?_ | refine At.alloc ?_ _))):p:=h
theorem TQ {p:Prop} (h:p:=by simpa using hx):p:=h
theorem TV {p:Prop} (h:p:=by rw [b];exact At.second W _ _ _):p:=h
theorem TX {p:Prop} (h:p:=by simpa using h):p:=h
theorem TY {p:Prop} (h:p:=by decide+kernel):p:=h
theorem TZ {p:Prop} (h:p:=by simp [results,Tryz.results179,go_sem,g0,g1,g2,g3,j0,j1,j2,j3]):p:=h
theorem UJ {p:Prop} (h:p:=by simp [results,Tryz.results125,go_sem,A]):p:=h
theorem UK {p:Prop} (h:p:=by rw [<- hp];exact List.mem_map_of_mem hx):p:=h
theorem UQ {p:Prop} (h:p:=by simpa using hk):p:=h
theorem UV {p:Prop} (h:p:=by simpa using h1):p:=h
theorem UX {p:Prop} (h:p:=by obtain⟨cs,he,hc⟩:=hn;exact⟨cs,he,dY.keep (a.trans (hb.mono a.size)) (a.trans (hb.mono a.size)).size _ _ hc⟩):p:=h
theorem UY {p:Prop} (h:p:=by assumption):p:=h
theorem UZ {p:Prop} (h:p:=by simpa using Array.mem_of_getElem? ht):p:=h
theorem VJ {p:Prop} (h:p:=by intro u hu;simp only [List.mem_cons,List.not_mem_nil,or_false]at hu;rcases hu with rfl | rfl | rfl | rfl <;> rfl):p:=h
theorem VK {p:Prop} (h:p:=by rw [cell_of_row _ _ _ _ _ _ a];rfl):p:=h
theorem VQ {p:Prop} (h:p:=by simp [he]):p:=h
theorem VV {p:Prop} (h:p:=by rw [<- hw];exact e):p:=h
theorem VX {p:Prop} (h:p:=by rw [<- hv];apply Array.ext';simp):p:=h
theorem VY {p:Prop} (h:p:=by show _=_;rw [Hs.o];simp):p:=h
theorem VZ {p:Prop} (h:p:=by simpa using hj):p:=h
theorem W0 {p:Prop} (h:p:=by have:=i7 ks;have:=hJ.kl;omega):p:=h
theorem W4 {p:Prop} (h:p:=by simp [results,Tryz.results16,go_sem,z0,z1,z2]):p:=h
theorem W5 {p:Prop} (h:p:=by have:=Hm.o;omega):p:=h
theorem W6 {p:Prop} (h:p:=by intro u hu;simp at hu;rcases hu with rfl | rfl | rfl | rfl | rfl | rfl | rfl | rfl <;> rfl):p:=h
theorem W7 {p:Prop} (h:p:=by rw [gZ];exact h):p:=h
theorem W8 {p:Prop} (h:p:=by show W.heap.size <= g;omega):p:=h
theorem W9 {p:Prop} (h:p:=by rw [hD]at hu;exact List.mem_of_mem_drop hu):p:=h
theorem WJ {p:Prop} (h:p:=by simpa using h2.symm):p:=h
theorem WK {p:Prop} (h:p:=by simp [G2 Hp.o Hl.o]):p:=h
theorem WQ {p:Prop} (h:p:=by show _ <= _+1;omega):p:=h
theorem WV {p:Prop} (h:p:=by rw [c];exact b7 _ _):p:=h
theorem WX {p:Prop} (h:p:=by simp only [MT.kids_bare,List.getElem_map]):p:=h
theorem WY {p:Prop} (h:p:=by rw [List.length_eraseIdx];split <;> omega):p:=h
theorem WZ {p:Prop} (h:p:=by rw [show ((k:Int) - 1)=((k - 1:Nat):Int)by omega];exact IntWalk.i64_in _ (by omega)):p:=h
theorem XJ {p:Prop} (h:p:=by rw [show ((j:Int) - 1)=((j - 1:Nat):Int)by omega];exact IntWalk.i64_in _ (by omega)):p:=h
theorem XK {p:Prop} (h:p:=by rw [B.o];omega):p:=h
theorem XQ {p:Prop} (h:p:=by simp [hl]):p:=h
theorem XV {p:Prop} (h:p:=by cases n;rfl):p:=h
theorem XX {p:Prop} (h:p:=by intro w;kernel_rfl):p:=h
theorem XY {p:Prop} (h:p:=by show W.heap.size <= w2.heap.size;omega):p:=h
theorem XZ {p:Prop} (h:p:=by rw [m];exact(At.fresh W _ _).alloc _):p:=h
theorem YJ {p:Prop} (h:p:=by rw [f];exact(At.fresh W _ _).alloc _):p:=h
theorem YK {p:Prop} (h:p:=by simp at hj;omega):p:=h
theorem YQ {p:Prop} (h:p:=by simpa [MT.at_]using ha):p:=h
theorem YV {p:Prop} (h:p:=by have h1:=mX s.rules;have h2:=n.o;unfold b5.wt bK.wt at h2;rw [c_a];omega):p:=h
theorem YX {p:Prop} (h:p:=by rw [H4.o,O4, <- g.o.ops];exact S.o):p:=h
theorem YY {p:Prop} (h:p:=by have:=t.o.size;have:=hb.size;omega):p:=h
theorem YZ {p:Prop} (h:p:=by simp [Value.oneCell']):p:=h
theorem ZJ {p:Prop} (h:p:=by exact d):p:=h
theorem ZK {p:Prop} (h:p:=by have:=T4.o.facts.2.2.2.2.2;omega):p:=h
theorem ZQ {p:Prop} (h:p:=by rw [f];exact((((At.fresh W _ _).alloc _).alloc _).alloc _).alloc _):p:=h
theorem ZV {p:Prop} (h:p:=by simpa using hm):p:=h
theorem ZX {p:Prop} (h:p:=by simpa using hl):p:=h
theorem ZY {p:Prop} (h:p:=by rw [c.o];omega):p:=h
theorem ZZ {p:Prop} (h:p:=by cases args;simp_all):p:=h
theorem s_P {p:Prop} (h:p:=by rw [m];exact At.second W _ _ _):p:=h
theorem s_Q {p:Prop} (h:p:=by rw [f];exact At.second W _ _ _):p:=h
theorem s_R {p:Prop} (h:p:=by simpa using a):p:=h
theorem s_S {p:Prop} (h:p:=by simp [results,Tryz.results185,go_sem,x0,x1,x2,x3,f0,f1,f2,f3]):p:=h
theorem s_T {p:Prop} (h:p:=by simp [results,Tryz.results121,go_sem,z0,z1,z2,z3,f0,f1,f2,f3]):p:=h
theorem s_U {p:Prop} (h:p:=by intro u hu;simp at hu;rcases hu with rfl | rfl <;> assumption):p:=h
theorem s_V {p:Prop} (h:p:=by simp [G3 d c He.o]):p:=h
theorem s_W {p:Prop} (h:p:=by simp only [aX.wt]at hm;omega):p:=h
theorem s_X {p:Prop} (h:p:=by rw [f];exact(((At.second W _ _ _).alloc _).alloc _).alloc _):p:=h
theorem s_Y {p:Prop} (h:p:=by rw [List.length_take];omega):p:=h
theorem s_Z {p:Prop} (h:p:=by rw [MT.kids_setKids,List.length_eraseIdx];split <;> omega):p:=h
theorem t_0 {p:Prop} (h:p:=by rw [y];exact(b7 _ _).trans ((b7 _ _).mono (b7 _ _).size)):p:=h
theorem t_1 {p:Prop} (h:p:=by rw [kids_setKids,List.length_eraseIdx];split <;> omega):p:=h
theorem t_2 {p:Prop} (h:p:=by intro u hu;simp at hu;rcases hu with rfl | rfl <;> rfl):p:=h
theorem t_3 {p:Prop} (h:p:=by subst c;rfl):p:=h
theorem t_4 {p:Prop} (h:p:=by injection e):p:=h
theorem t_5 {p:Prop} (h:p:=by rw [b.o];cases t <;> simp):p:=h
theorem t_6 {p:Prop} (h:p:=by rw [List.length_eraseIdx]at hi;split at hi <;> omega):p:=h
theorem t_7 {p:Prop} (h:p:=by rw [h]):p:=h
theorem t_8 {p:Prop} (h:p:=by have:=p.o;omega):p:=h
theorem t_9 {p:Prop} (h:p:=by have:=Q.o;omega):p:=h
theorem t_a {p:Prop} (h:p:=by unfold bK.wt at hw;omega):p:=h
theorem t_b {p:Prop} (h:p:=by rw [g.o.bare];exact H2.o):p:=h
theorem t_c {p:Prop} (h:p:=by obtain⟨m,hm⟩:=k3;exact DataW.trod_lt m _ _ _ hm):p:=h
theorem t_d {p:Prop} (h:p:=by simpa only [show k+j - 1=k+(j - 1)by omega]using h):p:=h
theorem t_e {p:Prop} (h:p:=by simp only [rY,iZ (show j <= 1048576 by omega)];rfl):p:=h
theorem t_f {p:Prop} (h:p:=by rw [f];exact((At.third W _ _ _ _).alloc _).alloc _):p:=h
theorem t_g {p:Prop} (h:p:=by rw [b];exact((bV.fresh W _ _ _ _).alloc _).alloc _):p:=h
theorem t_h {p:Prop} (h:p:=by rw [e];rfl):p:=h
theorem t_i {p:Prop} (h:p:=by rw [A.o];exact a_f p xs):p:=h
theorem t_j {p:Prop} (h:p:=by simp [results,Tryz.results126,go_sem,c0,c1,cf,cl]):p:=h
theorem t_k {p:Prop} (h:p:=by simpa using hn):p:=h
theorem t_l {p:Prop} (h:p:=by simpa using hf):p:=h
theorem t_m {p:Prop} (h:p:=by rw [o.o];omega):p:=h
theorem t_n {p:Prop} (h:p:=by rw [d.o];omega):p:=h
theorem t_o {p:Prop} (h:p:=by simp [results,Tryz.results13,go_sem,z0,z1,z2,z3]):p:=h
theorem t_p {p:Prop} (h:p:=by unfold MT.look;rw [ha]):p:=h
theorem t_q {p:Prop} (h:p:=by simp [List.getD,NV hj]):p:=h
theorem t_r {p:Prop} (h:p:=by rw [hc];simp only [Nat.min_def];split <;> omega):p:=h
theorem t_s {p:Prop} (h:p:=by rw [f];exact((At.fresh W _ _).alloc _).alloc _):p:=h
theorem t_t {p:Prop} (h:p:=by simp [hy]):p:=h
theorem t_u {p:Prop} (h:p:=by simp [hx]):p:=h
theorem t_v {p:Prop} (h:p:=by simp [ha]):p:=h
theorem t_w {p:Prop} (h:p:=by simpa using c):p:=h
theorem t_x {p:Prop} (h:p:=by simpa using b):p:=h
theorem t_y {p:Prop} (h:p:=by simpa [MT.at_]using h):p:=h
theorem t_z {p:Prop} (h:p:=by rw [m];exact g8 _ _ _):p:=h
theorem t_A {p:Prop} (h:p:=by rw [g];exact g8 _ _ _):p:=h
theorem t_B {p:Prop} (h:p:=by rw [f];exact g8 _ _ _):p:=h
theorem t_C {p:Prop} (h:p:=by rw [b];exact g8 _ _ _):p:=h
theorem t_D {p:Prop} (h:p:=by rw [H1];exact b7 _ _):p:=h
theorem t_E {p:Prop} (h:p:=by have:=t.o.size;omega):p:=h
theorem t_F {p:Prop} (h:p:=by simp [results,Tryz.results100,go_sem,z0,z1]):p:=h
theorem t_G {p:Prop} (h:p:=by rw [MT.kids_setKids,a_I c (by omega)];omega):p:=h
theorem t_H {p:Prop} (h:p:=by intro e;injection e with e;have:=Q4.o;omega):p:=h
theorem t_I {p:Prop} (h:p:=by simp [h]):p:=h
theorem t_J {p:Prop} (h:p:=by rw [u];exact b7 _ _):p:=h
theorem t_K {p:Prop} (h:p:=by rw [f];exact b7 _ _):p:=h
theorem t_L {p:Prop} (h:p:=by rw [b];exact b7 _ _):p:=h
theorem t_M {p:Prop} (h:p:=by unfold A6;split <;> (try split) <;> omega):p:=h
theorem t_N {p:Prop} (h:p:=by rcases C with h | h | h <;> (subst h;rfl)):p:=h
theorem t_O {p:Prop} (h:p:=by have h1:=e_t A.o.symm;have h2:=Hm.o;omega):p:=h
theorem t_P {p:Prop} (h:p:=by have:=hr.max;unfold maxLen at this;omega):p:=h
theorem t_Q {p:Prop} (h:p:=by have h1:=z.1;rw [<- hp,iV,O6]at h1;omega):p:=h
theorem t_R {p:Prop} (h:p:=by simpa [l9]using ha):p:=h
theorem t_S {p:Prop} (h:p:=by simp [G3 f g He.o]):p:=h
theorem t_T {p:Prop} (h:p:=by rw [hD];simp;omega):p:=h
theorem t_U {p:Prop} (h:p:=by rw [f];exact(At.second W _ _ _).alloc _):p:=h
theorem t_V {p:Prop} (h:p:=by simp only [C1,hq,rY,a_H,h_3,iZ hj];rfl):p:=h
theorem t_W {p:Prop} (h:p:=by rw [d];exact(b7 _ _).alloc (by simp) _):p:=h
theorem t_X {p:Prop} (h:p:=by rw [b];exact(b7 _ _).alloc (by simp) _):p:=h
theorem t_Y {p:Prop} (h:p:=by rw [<- a,List.take_take,O8 (by omega)]):p:=h
theorem t_Z {p:Prop} (h:p:=by simpa [l9]using h):p:=h
theorem u_0 {p:Prop} (h:p:=by rw [h2.len];omega):p:=h
theorem u_1 {p:Prop} (h:p:=by exact_mod_cast hj):p:=h
theorem u_2 {p:Prop} (h:p:=by simp [results,Tryz.results112,go_sem]):p:=h
theorem u_3 {p:Prop} (h:p:=by rw [y];exact(At.fresh W _ _).alloc _):p:=h
theorem u_5 {p:Prop} (h:p:=by rw [g];exact(At.fresh W _ _).alloc _):p:=h
theorem u_6 {p:Prop} (h:p:=by rw [d];exact(At.fresh W _ _).alloc _):p:=h
theorem u_8 {p:Prop} (h:p:=by rw [b];exact(rZ W _ _ _ _ _).alloc _):p:=h
theorem u_a {p:Prop} (h:p:=by intro e;simp at e;subst e;simp at hk):p:=h
theorem u_b {p:Prop} (h:p:=by simp at hk;omega):p:=h
theorem u_c {p:Prop} (h:p:=by rw [mZ];exact hE):p:=h
theorem NV {α : Type} {l : List α} {i : Nat} (h : i < l.length) : l[i]? = some l[i] := List.getElem?_eq_getElem h
theorem NX {α : Type} {l : List α} {i : Nat} (h : i < l.length) : l.drop i = l[i] :: l.drop (i + 1) := List.drop_eq_getElem_cons h
theorem NY {α : Type} {l : List α} {n : Nat} (h : n < l.length) : l[n] ∈ l := List.getElem_mem h
theorem NZ {α : Type} {a b : List α} : (a ++ b).length = a.length + b.length := List.length_append
theorem O0 (n : Nat) : (n : Int).toNat = n := Int.toNat_natCast n
theorem O1 {α : Type} {l : List α} {i : Nat} (h : i < l.length) : l.take (i + 1) = l.take i ++ [l[i]] := List.take_succ_eq_append_getElem h
theorem O2 {α : Type} {l : List α} (h : l.length = 0) : l = [] := List.eq_nil_of_length_eq_zero h
theorem O3 {p : Prop} [Decidable p] (h : ¬p) : decide p = false := decide_eq_false h
theorem O4 {α : Type} (a b c : List α) : a ++ b ++ c = a ++ (b ++ c) := List.append_assoc a b c
theorem O5 (n : Nat) : 0 + n = n := Nat.zero_add n
theorem O6 {α β : Type} {l : List α} (f : α → β) : (l.map f).length = l.length := List.length_map f
theorem O7 {α : Type} {a : α} {l : List α} : (a :: l).length = l.length + 1 := List.length_cons
theorem O8 {a b : Nat} (h : a ≤ b) : min a b = a := Nat.min_eq_left h
theorem O9 {α : Type} {a b : α} (h : a ∈ [b]) : a = b := List.mem_singleton.1 h
theorem OJ {α : Type} {a b : α} {l : List α} (h : a ∈ b :: l) : a = b ∨ a ∈ l := List.mem_cons.1 h
theorem OQ {α : Type} {a : α} {s t : List α} (h : a ∈ s ++ t) : a ∈ s ∨ a ∈ t := List.mem_append.1 h
theorem OV {α β : Type} {f : α → β} {l : List α} {b : β} (h : b ∈ l.map f) : ∃ a, a ∈ l ∧ f a = b := List.mem_map.1 h
theorem OX {α : Type} {a b : List α} {n : Nat} (h : a.length ≤ n) : (a ++ b)[n]? = b[n - a.length]? := List.getElem?_append_right h
end Go
namespace Go.Redl
open Go.RowKit
theorem gK {α :Type} {l:List α} {k:Nat} {d: α} (h:k < l.length):l.getD k d=l[k]:=by simp [List.getD,NV h]
theorem bJ {a b:Bool} (h:a=b):Ending.returned a= .returned b:=t_7
theorem dV {k:IntKind} {a b:Int} (h:a=b):Ending.returned (.int k a)= .returned (.int k b):=t_7
structure RowA (w:World) (B sz:Nat) (a:Option Addr) (n cap:Nat) (cs:List Value):Prop where
 len:cs.length=n * sz
 le:n <= cap
 max:cap <= maxLen
 one:∀u∈cs,u.oneCell'=true
 nil:a=none ->cap=0
 some_:cs≠ [] ->∃b off,a=some ⟨b,off,none⟩/\b < B/\∀j u,cs[j]? =some u ->w.cell? ⟨b,off+j,none⟩=some u
theorem RowA.keep {w w':World} {B B' sz n cap:Nat} {a:Option Addr} {cs:List Value} (h:RowA w B sz a n cap cs) (hb:Below B w w') (hB:B <= B'):RowA w' B' sz a n cap cs:=by
 refine⟨h.len,h.le,h.max,h.one,h.nil,fun e=> ?_⟩;obtain⟨b,off,ha,d,c⟩:=h.some_ e;exact⟨b,off,ha,Nat.lt_of_lt_of_le d hB,fun j u hj=>by rw [hb.cell (p:=(b,off+j)) d];exact c j u hj⟩
theorem RowA.empty (w:World) (B sz:Nat):RowA w B sz none 0 0 []:=⟨by simp,a8,Nat.zero_le _,by simp,fun _=>rfl,fun h=>absurd rfl h⟩
theorem JQ (b off j:Nat):(⟨b,off,none⟩:Addr).add j=⟨b,off+j,none⟩:=by unfold Addr.add;split <;> simp_all
theorem RowA.cells {w:World} {B sz n cap:Nat} {ad:Addr} {cs:List Value} (h:RowA w B sz (some ad) n cap cs):∀j u,cs[j]? =some u ->w.cell? (ad.add j)=some u:=by
 intro j u hj;obtain⟨b,off,ha,_,a⟩:=h.some_ (by rintro rfl;simp at hj)
 cases ha
 rw [JQ];exact a j u hj
theorem B6 (w:World) (v:Value) (E B:Nat) (h1:v.oneCell'=true) (hB:w.heap.size < B:=by omega):RowA (w.alloc (.cells #[v] E)) B 1 w 1 1 [v]:=by
 refine⟨by simp,a8,by unfold maxLen;omega,by simp [h1],(fun h=>by cases h),fun _=>⟨w,0,rfl,hB,fun j u hj=> ?_⟩⟩;have hg:(w.alloc (.cells #[v] E)).heap[w.heap.size]? =some (.cells #[v] E (0,0)):=heap_alloc_new w _;rw [cell_of_row _ w (0+j) #[v] E (0,0) hg];cases j with
 | zero=>simpa using hj
 | succ j=>simp at hj
theorem RowA.cut {w:World} {B sz n cap:Nat} {a:Option Addr} {cs:List Value} (h:RowA w B sz a n cap cs) (lo hi:Nat) (hl:lo <= hi) (hh:hi <= n):
 RowA w B sz (if cap=lo then a else a.map (·.add (lo * sz))) (hi - lo) (cap - lo) ((cs.take (hi * sz)).drop (lo * sz)):=by
 have k:=h.le;have i:=h.max;have d:=h.len;have h1:hi * sz <= n * sz:=Nat.mul_le_mul_right _ hh;refine⟨?_,by omega,by omega,fun u hu=>h.one u (List.mem_of_mem_take (List.mem_of_mem_drop hu)), ?_, ?_⟩
 . rw [List.length_drop,List.length_take,d,O8 h1, <- Nat.sub_mul]
 . intro hn
   split at hn
   . have:=h.nil hn;omega
   have:=h.nil t_k;omega
 intro e;obtain⟨b,off,ha,f,c⟩:=h.some_ (by rintro rfl;simp at e);have g:cap≠lo:=by
  rintro rfl;apply e
  apply O2
  rw [List.length_drop,List.length_take,d,O8 h1];have:hi=cap:=P2
  subst this;simp
 rw [if_neg g,ha];refine⟨b,off+lo * sz,by simp [JQ],f,fun j u hj=> ?_⟩;rw [List.getElem?_drop,List.getElem?_take]at hj;split at hj
 . have:=c _ _ hj
   rw [<- this];congr 2;omega
 cases hj
theorem RowA.cut_l {P:Program} {w:World} {B sz n cap:Nat} {a:Option Addr} {cs:List Value} (h:RowA w B sz a n cap cs) (T E:TypeId) (ht:P.underlying T=some (.slice E)) (hs:∀W,(sizeOf E).run P W= .ok sz W)
 (lo:Nat) (hh:lo <= n):∃a' cap',(∀W,(Instr.slice T (a,n,cap) (some (.int .i64 lo)) none none).run P W= .ok (.slice a' (n - lo) cap') W)/\RowA w B sz a' (n - lo) cap' (cs.drop (lo * sz)):=by
 have hc:=h.cut lo n hh (a8);have b:=h.le;rw [List.take_of_length_le (by rw [h.len];exact a8)]at hc;refine⟨_,_,fun W=> ?_,hc⟩;have he:P.elem T=E:=by simp [Program.elem,ht]
 rw [run_slice_l W T a n cap (by rw [he];exact ht) .i64 lo P2 P2,he,hs]
 simp [Result.andThen,sliced]
theorem eK {w:World} {base e sz n:Nat} {v:Value} {cs:List Value} (h:w.ownsRow base e sz v n cs) (h1:∀u∈cs,u.oneCell'=true):
 ∃a cap,v= .slice a n cap/\RowA w w sz a n cap cs:=by
 obtain⟨hl,h2⟩:=h;rcases h2 with⟨rfl,rfl⟩ | ⟨g,cap,cur,rfl,hb,hg,c,d,f,b⟩
 . have:cs= []:=O2 ZX
   subst this;exact⟨_,_,rfl,RowA.empty _ _ _⟩
 refine⟨_,_,rfl,⟨hl,c,d,h1,(fun h=>by cases h),fun _=>⟨g,0,rfl,(Array.getElem?_eq_some_iff.1 hg).1,fun j u hj=> ?_⟩⟩⟩;have:=World.ownsRow.cells (w:=w) (base:=base) (e:=e) (size:=sz) (v:= .slice g n cap) (n:=n) (xs:=cs) ⟨hl, .inr ⟨g,cap,cur,rfl,hb,hg,c,d,f,b⟩⟩ (g:=g) rfl j u hj
 rwa [JQ]at this
theorem q9 {w:World} {base base' e sz n:Nat} {v:Value} {cs:List Value} (h:w.ownsRow base' e sz v n cs) (hb:base <= base'):w.ownsRow base e sz v n cs:=by
 obtain⟨hl,h2⟩:=h;refine⟨hl, ?_⟩;rcases h2 with h2 | ⟨g,cap,cur,hv,hg,r⟩
 . exact .inl h2
 exact .inr ⟨g,cap,cur,hv,aJ hb hg,r⟩
theorem fK {a b c:World} {row:Option Nat} (h:a.grownBy b row) (k:b.grownBy c row):a.grownBy c row:=
 ⟨k.os.trans h.os,k.tape.trans h.tape,k.output.trans h.output,aJ h.size k.size,fun i hi d=>(k.block i (Nat.lt_of_lt_of_le hi h.size) d).trans (h.block i hi d)⟩
theorem CK {w w':World} (h:Below w w w'):w.grownBy w' none:=⟨h.os,h.tape,h.output,h.size,fun k hk _=>h.block k hk⟩
theorem kQ {w w':World} {base e sz n:Nat} {v:Value} {cs:List Value} (h:w.ownsRow base e sz v n cs) (hb:Below w w w'):w'.ownsRow base e sz v n cs:=
 h.kept (CK hb) (by cases hv:v.ownBlock <;> simp)
theorem u_9 {P:Program} {w:World} {ops:Array Oper} {rest:List Oper} {o:Oper} {a:Act} {Q:Exit ->Act ->World ->Prop} (j:o.guard=none) (s x:Operand) (t:TypeId)
 (ho:o.op= .call { callee:= .builtin .append,args:= #[s,x],argTypes:= #[t,t] })
 (base:Nat) (e:TypeId) (z:Value) (size bytes:Nat) (ht:P.underlying t=some (.slice e)) (hi:(P.info? e).map (fun i=>(i.zero,i.size,i.bytes))=some (some z,size,bytes))
 (l:z.cells.size=size) (hsz:0 < size)
 (v:Value) (n:Nat) (xs:List Value) (hs:a.eval s=v) (b:w.ownsRow base e size v n xs)
 (ad:Option Addr) (m c B:Nat) (news:List Value) (hx:a.eval x= .slice ad m c) (hr:RowA w B size ad m c news)
 (p:n+m <= maxLen) (d:(n+m) * bytes <= 140737488355328) (f:base <= w.heap.size)
 (h:∀v' w',w'.ownsRow base e size v' (n+m) (xs ++ news) ->w.grownBy w' v.ownBlock ->wpList P ops Q rest (a.put o.dst v') w'):wpList P ops Q (o::rest) a w:=by
 obtain⟨i,k,hz,g,q⟩:=info_parts hi
 cases ad with
 | some ad=>
   exact wpList_append_own w j s x t ho base e i z size bytes ht k hz g q l hsz v n xs hs b ad m c news hx hr.len hr.cells hr.one p d f (fun v' w' h2 h3 _=>h v' w' h2 h3)
 | none=>
   obtain rfl:=hr.nil rfl;obtain rfl:m=0:=S7
   have:news= []:=O2 SJ;subst this;refine wpList_append_own_none j s x t ho base e i size ht k v n xs hs b hx ?_;have:=h v w t_x (World.grownBy.refl w _);exact this
theorem N6 {P:Program} {ops:Array Oper} {o:Oper} {a:Act} {w:World} {K:Act ->World ->Prop} {Q:Exit ->Act ->World ->Prop} {E:Prop}
 (hg:o.guard=none) (s x:Operand) (t:TypeId) (ho:o.op= .call { callee:= .builtin .append,args:= #[s,x],argTypes:= #[t,t] })
 (base:Nat) (e:TypeId) (z:Value) (size bytes:Nat) (ht:P.underlying t=some (.slice e)) (hi:(P.info? e).map (fun i=>(i.zero,i.size,i.bytes))=some (some z,size,bytes))
 (l:z.cells.size=size) (hsz:0 < size)
 (v:Value) (n:Nat) (xs:List Value) (hs:a.eval s=v) (b:w.ownsRow base e size v n xs)
 (ad:Option Addr) (m c B:Nat) (news:List Value) (hx:a.eval x= .slice ad m c) (hr:RowA w B size ad m c news)
 (p:n+m <= maxLen) (d:(n+m) * bytes <= 140737488355328) (f:base <= w.heap.size)
 (h:∀v' w',w'.ownsRow base e size v' (n+m) (xs ++ news) ->w.grownBy w' v.ownBlock ->K (a.put o.dst v') w'):if Region.wanted o (yielded ops a.tmps)=true then Oper.wp P o a w K Q else E:=by
 have hw:Region.wanted o (yielded ops a.tmps)=true:=S4
 rw [if_pos hw];obtain⟨i,j,hz,g,q⟩:=info_parts hi
 cases ad with
 | some ad=>
   exact wp_append_own w s x t ho base e i z size bytes ht j hz g q l hsz v n xs hs b ad m c news hx hr.len hr.cells hr.one p d f (fun v' w' h2 h3 _=>h v' w' h2 h3)
 | none=>
   obtain rfl:=hr.nil rfl;obtain rfl:m=0:=S7
   have:news= []:=O2 SJ;subst this;have k:=run_append_owned_none (P:=P) (w:=w) base t o.type e i size ht j v n xs b
   unfold Oper.wp;simp [execOp,ho,resolve,invoke,builtin,hs,hx,k,Result.andThen];exact h v w t_x (World.grownBy.refl w _)
theorem bQ {P:Program} {ops:Array Oper} {o:Oper} {a:Act} {w:World} {K:Act ->World ->Prop} {Q:Exit ->Act ->World ->Prop} {E:Prop}
 (hg:o.guard=none) (f:FuncId) (args:Array Operand) (tys:Array TypeId) (ho:o.op= .call { callee:= .value (.func f),args:=args,argTypes:=tys })
 (he:∀args w,(callFunc f args).run P w= .ok (.enter f args) w) (vals:List Value) (hv:args.toList.map a.eval=vals) (R:Ending ->World ->Prop) (hC:Calls P f vals.toArray w R)
 (h:∀e w',R e w' ->∃v,e= .returned v/\K (a.put o.dst v) w'):if Region.wanted o (yielded ops a.tmps)=true then Oper.wp P o a w K Q else E:=by
 have hw:Region.wanted o (yielded ops a.tmps)=true:=S4
 rw [if_pos hw];unfold Oper.wp;have b:args.map a.eval=vals.toArray:=VX
 have hr:(execOp a.eval o).run P w= .ok (.enter f vals.toArray) w:=by
  simp [execOp,ho,resolve,invoke,Act.eval,Deferred.ofValue,b,he]
 rw [hr];show Calls P f vals.toArray w _;refine hC.mono fun e w' hR=> ?_
 obtain⟨v,rfl,hk⟩:=h e w' hR;exact hk
theorem c_q {P:Program} {w:World} {ops:Array Oper} {rest:List Oper} {o:Oper} {a:Act} {Q:Exit ->Act ->World ->Prop} (d:o.guard=none) (s x:Operand) (t tn:TypeId)
 (ho:o.op= .call { callee:= .builtin .append,args:= #[s,x],argTypes:= #[t,tn] })
 (e:TypeId) (z:Value) (size bytes:Nat) (ht:P.underlying t=some (.slice e)) (f:P.underlying tn=some (.int .i64)) (hi:(P.info? e).map (fun i=>(i.zero,i.size,i.bytes))=some (some z,size,bytes))
 (j:z.cells.size=size) (hsz:0 < size) (m:Nat) (hm:0 < m) (hs:a.eval s= .slice none 0 0) (hx:a.eval x= .int .i64 m)
 (q:m <= 9223372036854775807) (c:m * bytes <= 140737488355328)
 (h:∀g cap w',w'.ownsRow w e size (.slice (some ⟨g,0,none⟩) 0 cap) 0 [] ->m <= cap ->cap <= maxLen ->Below w w w' ->wpList P ops Q rest (a.put o.dst (.slice (some ⟨g,0,none⟩) m cap)) w'):wpList P ops Q (o::rest) a w:=by
 obtain⟨i,k,hz,l,n⟩:=info_parts hi;have hr:=Lib.run_append_nil_zeros (P:=P) w t tn o.type e i z .i64 .i64 ht f k hz m hm P2 P2 (by rw [n];omega);refine Lib.wpList_append_run w d s x t tn ho _ _ hs hx _ _ hr ?_;have p:=grownCap_ge w m 0 e;have b:=grownCap_le_maxLen w m 0 e R8;refine h _ _ _ ?_ p b ?_
 . exact World.ownsRow_made w.drew _ _ (a8) b (by rw [Array.size_append,size_zeroCells,size_zeroCells,j, <- Nat.add_mul];congr 1;omega)
 exact((a7).drew).alloc (a8) _
structure c_r (k:IntKind) (w:World) (B:Nat) (v:Value) (zs:List Int):Prop where
 row:∃a cap,v= .slice a zs.length cap/\RowA w B 1 a zs.length cap (zs.map (Value.int k))
 wf:∀z∈zs,(Lit.int k z).wf=true
theorem c_r.keep {k:IntKind} {w w':World} {B B':Nat} {v:Value} {zs:List Int} (h:c_r k w B v zs) (hb:Below B w w') (hB:B <= B'):c_r k w' B' v zs:=by
 obtain⟨⟨a,cap,hv,hr⟩,hw⟩:=h;exact⟨⟨a,cap,hv,hr.keep hb hB⟩,hw⟩
theorem RowA.int_at {k:IntKind} {w:World} {B n cap:Nat} {a:Option Addr} {zs:List Int} (h:RowA w B 1 a n cap (zs.map (Value.int k))) (j:Nat) (hj:j < zs.length):
 ∃b off,a=some ⟨b,off,none⟩/\b < B/\∀i,i < zs.length ->w.cell? ⟨b,off+i,none⟩=some (.int k (zs.getD i 0)):=by
 obtain⟨b,off,ha,d,c⟩:=h.some_ (by intro h0;simp at h0;subst h0;simp at hj);refine⟨b,off,ha,d,fun i hi=>c i _ ?_⟩
 simp [List.getElem?_map,List.getD,NV hi]
theorem JV (k:IntKind) (zs:List Int):∀u∈zs.map (Value.int k),u.oneCell'=true:=ints_oneCell k zs
structure C7 (w:World) (B:Nat) (vals:List Value) (pss:List (List Value)):Prop where
 len:vals.length=pss.length
 each:∀i,i < pss.length ->∃a cap,vals[i]? =some (.slice a (pss.getD i []).length cap)/\RowA w B 1 a (pss.getD i []).length cap (pss.getD i [])
theorem C7.keep {w w':World} {B B':Nat} {vals:List Value} {pss:List (List Value)} (h:C7 w B vals pss) (hb:Below B w w') (hB:B <= B'):C7 w' B' vals pss:=
 ⟨h.len,fun i hi=>by obtain⟨a,cap,h1,h2⟩:=h.each i hi;exact⟨a,cap,h1,h2.keep hb hB⟩⟩
theorem C7.nil (w:World) (B:Nat):C7 w B [] []:=⟨rfl,fun i hi=>by simp at hi⟩
theorem C7.cons {w:World} {B n cap:Nat} {a:Option Addr} {cs:List Value} {vals:List Value} {pss:List (List Value)} (h:RowA w B 1 a n cap cs) (hp:C7 w B vals pss):C7 w B (.slice a n cap::vals) (cs::pss):=by
 have hn:cs.length=n:=by simpa using h.len
 subst hn;refine⟨by simp [hp.len],fun i hi=> ?_⟩
 cases i with
 | zero=>exact⟨a,cap,rfl,h⟩
 | succ i=>exact hp.each i R4
def tot (pss:List (List Value)) (k:Nat):Nat:=(pss.take k).flatten.length
theorem h_n (pss:List (List Value)):tot pss 0=0:=by simp [tot]
theorem f_E (pss:List (List Value)) (k:Nat) (h:k < pss.length):(pss.take (k+1)).flatten=(pss.take k).flatten ++ pss.getD k []:=by
 rw [gK h,O1 h,List.flatten_append,List.flatten_singleton]
theorem h_o (pss:List (List Value)) (k:Nat) (h:k < pss.length):tot pss (k+1)=tot pss k+(pss.getD k []).length:=by
 unfold tot;rw [f_E pss k h];simp
theorem g_u (pss:List (List Value)) (k:Nat):tot pss k <= pss.flatten.length:=by
 unfold tot;conv=>rhs;rw [<- List.take_append_drop k pss,List.flatten_append,NZ]
 omega
theorem p_G (pss:List (List Value)):tot pss pss.length=pss.flatten.length:=by simp [tot]
def pY (w w':World):Prop:= ∃q,w'=w.drewN q
theorem CQ (w:World):pY w w:=⟨0,rfl⟩
theorem kY (w:World) (n:Nat):pY w (w.drewN n):=⟨n,rfl⟩
theorem j9 (w:World) (n m:Nat):pY w ((w.drewN n).drewN m):=⟨n+m,by simp [World.drewN,Nat.add_assoc]⟩
theorem pY.below {w w':World} (h:pY w w') (B:Nat):Below B w w':=by obtain⟨q,rfl⟩:=h;exact below_drewN (a7) _
def EZ {α :Type} (xs ys:List α) (k:Nat):Prop:=xs.take k=ys.take k
theorem E4 {α :Type} (xs ys:List α):EZ xs ys 0:=by simp [EZ]
theorem E5 {α :Type} {xs ys:List α} {k:Nat} (h:EZ xs ys k) (h1:k < xs.length) (h2:k < ys.length) (he:xs[k]=ys[k]):EZ xs ys (k+1):=by
 unfold EZ at *;rw [O1 h1,O1 h2,h,he]
theorem G2 {α :Type} {xs ys:List α} (h:EZ xs ys xs.length) (hl:xs.length=ys.length):xs=ys:=by
 unfold EZ at h;rw [List.take_of_length_le (a8),List.take_of_length_le P2]at h;exact h
theorem G3 {α :Type} {xs ys:List α} {k:Nat} (h1:k < xs.length) (h2:k < ys.length) (he:xs[k]≠ys[k]):xs≠ys:=by
 rintro rfl;exact he rfl
def vX (w:World) (e:TypeId) (sz n:Nat) (cs:List Value) (x:Ending) (w':World):Prop:=
 ∃v,x= .returned v/\w'.ownsRow w e sz v n cs/\Below w w w'
def kZ (c:Int):Bool:=decide (0 <= c/\c < 55296∨57343 < c/\c <= 1114111)
def idx {α :Type} (p: α ->Bool) (zs:List α):Int:=match zs.findIdx? p with | some i=>(i:Int) | none=> -1
def j_a {α :Type} (p: α ->Bool) (zs:List α) (k:Nat):Prop:= ∀x∈zs.take k,p x=false
theorem l_y {α :Type} (p: α ->Bool) (zs:List α):j_a p zs 0:=by simp [j_a]
theorem l_z {α :Type} {p: α ->Bool} {zs:List α} {k:Nat} (h:j_a p zs k) (hk:k < zs.length) (hp:p zs[k]=false):j_a p zs (k+1):=by
 intro x hx;rw [O1 hk]at hx;rcases OQ hx with hx | hx
 . exact h x hx
 simp at hx;subst hx;exact hp
theorem r_v {α :Type} {p: α ->Bool} {zs:List α} {k:Nat} (h:j_a p zs k) (hk:k < zs.length) (hp:p zs[k]=true):idx p zs=k:=by
 have:zs.findIdx? p=some k:=by
  rw [List.findIdx?_eq_some_iff_getElem];refine⟨hk,hp,fun j hj=> ?_⟩;have:=h zs[j] (by rw [List.mem_take_iff_getElem];exact⟨j,by omega,rfl⟩)
  simp [this]
 simp [idx,this]
theorem n_j {α :Type} {p: α ->Bool} {zs:List α} (h:j_a p zs zs.length):idx p zs= -1:=by
 have:zs.findIdx? p=none:=by
  rw [List.findIdx?_eq_none_iff];intro x hx;exact h x TQ
 simp [idx,this]
theorem p_H {α :Type} (p: α ->Bool) (zs:List α):decide (0 <= idx p zs)=zs.any p:=by
 unfold idx;cases h:zs.findIdx? p with
 | none=>
   rw [List.findIdx?_eq_none_iff]at h;have:zs.any p=false:=by rw [List.any_eq_false];intro x hx;simp [h x hx]
   simp [this]
 | some i=>
   have h':=h;rw [List.findIdx?_eq_some_iff_getElem]at h';obtain⟨hi,hp,_⟩:=h';have:zs.any p=true:=List.any_eq_true.2 ⟨zs[i],NY hi,hp⟩
   simp [this]
theorem g_v {P:Program} {w:World} {src dst e:TypeId} (hs:P.underlying src=some (.slice e)) (he:P.underlying e=some (.int .u8)) (hd:P.underlying dst=some .string)
 (b off n cap:Nat) (L:List UInt8) (hn:L.length=n) (hc:∀j,j < L.length ->w.cell? ⟨b,off+j,none⟩=some (.int .u8 (L.getD j 0).toNat)):
 (convert src dst (b,off,n,cap)).run P w= .ok (.string ⟨L.toArray⟩) w:=by
 subst hn;rw [run_convert_bytes_arg w src e hs he b off L.length cap (L.map fun c=>(c.toNat:Int)) P6 (fun i hi=>by rw [hc i hi];simp [List.getD,NV hi]) dst hd];have:strOfNums (L.map fun c=>(c.toNat:Int))=⟨L.toArray⟩:=by
  simp [strOfNums,Function.comp_def]
 rw [this]
abbrev fQ:=List UInt8×List UInt8
inductive aX where
 | mk (leaf:Bool) (props:List fQ) (text:List Int) (kids:List aX)
def cK (ps:List fQ):List Value:=ps.flatMap fun p=> [.string ⟨p.1.toArray⟩, .string ⟨p.2.toArray⟩]
theorem a_R (ps:List fQ):(cK ps).length=ps.length * 2:=by
 induction ps with
 | nil=>rfl
 | cons p ps ih=>simp only [cK,List.flatMap_cons,NZ,O7,List.length_nil]at *;omega
theorem DX (ps:List fQ):∀u∈cK ps,u.oneCell'=true:=by
 intro u hu;simp only [cK,List.mem_flatMap]at hu;obtain⟨p, -,hp⟩:=hu
 simp at hp
 rcases hp with rfl | rfl <;> rfl
theorem b_x:∀ (ps:List fQ) (i:Nat) (hi:i < ps.length),(cK ps)[i * 2]? =some (.string ⟨ps[i].1.toArray⟩)/\(cK ps)[i * 2+1]? =some (.string ⟨ps[i].2.toArray⟩)
 | [],i,hi=>absurd hi P6
 | p::ps,0,hi=>by simp [cK]
 | p::ps,i+1,hi=>by
   have h:=b_x ps i R4;have e:cK (p::ps)= .string ⟨p.1.toArray⟩:: .string ⟨p.2.toArray⟩::cK ps:=by simp [cK]
   rw [e,show (i+1) * 2=i * 2+1+1 by omega]
   simpa using h
def iQ:List fQ ->Nat
 | []=>0
 | p::ps=>2+p.1.length+p.2.length+iQ ps
mutual
def aX.wt:aX ->Nat
 | .mk _ ps t ks=>1+iQ ps+t.length+fY ks
def fY:List aX ->Nat
 | []=>0
 | k::ks=>k.wt+fY ks
end
theorem E6 (ps:List fQ):2 * ps.length <= iQ ps:=by
 induction ps with
 | nil=>simp [iQ]
 | cons p ps ih=>simp only [iQ,O7];omega
theorem c_Y {ps:List fQ} {p:fQ} (h:p∈ps):2+p.1.length+p.2.length <= iQ ps:=by
 induction ps with
 | nil=>cases h
 | cons q ps ih=>
   simp only [iQ];rcases OJ h with rfl | h
   . omega
   have:=ih h;omega
theorem J4 (n:aX):1 <= n.wt:=by cases n;simp only [aX.wt];omega
theorem i7 (ks:List aX):ks.length <= fY ks:=by
 induction ks with
 | nil=>simp
 | cons k ks ih=>have:=J4 k;simp only [fY,O7];omega
theorem jJ {ks:List aX} {k:aX} (h:k∈ks):k.wt <= fY ks:=by
 induction ks with
 | nil=>cases h
 | cons q ks ih=>
   simp only [fY];rcases OJ h with rfl | h
   . omega
   have:=ih h;omega
theorem xX (a b:List aX):fY (a ++ b)=fY a+fY b:=by
 induction a with
 | nil=>simp [fY]
 | cons k ks ih=>simp only [List.cons_append,fY,ih];omega
mutual
def dY (w:World) (B:Nat):aX ->List Value ->Prop
 | .mk l ps t ks,cs=>∃ap cp at_ ct ak ck css,cs= [.bool l, .slice ap ps.length cp, .slice at_ t.length ct, .slice ak ks.length ck]/\RowA w B 2 ap ps.length cp (cK ps)/\
     RowA w B 1 at_ t.length ct (t.map (Value.int .i32))/\(∀z∈t,(Lit.int .i32 z).wf=true)/\RowA w B 4 ak ks.length ck css/\eX w B ks css
def eX (w:World) (B:Nat):List aX ->List Value ->Prop
 | [],css=>css= []
 | k::ks,css=>∃c1 c2,css=c1 ++ c2/\dY w B k c1/\eX w B ks c2
end
mutual
theorem dY.keep {w w':World} {B B':Nat} (hb:Below B w w') (hB:B <= B'):∀ (n:aX) (cs:List Value),dY w B n cs ->dY w' B' n cs
 | .mk l ps t ks,cs=>by
   intro h;unfold dY at h⊢;obtain⟨ap,cp,at_,ct,ak,ck,css,h1,h2,h3,h4,h5,h6⟩:=h;exact⟨ap,cp,at_,ct,ak,ck,css,h1,h2.keep hb hB,h3.keep hb hB,h4,h5.keep hb hB,eX.keep hb hB ks css h6⟩
theorem eX.keep {w w':World} {B B':Nat} (hb:Below B w w') (hB:B <= B'):∀ (ks:List aX) (css:List Value),eX w B ks css ->eX w' B' ks css
 | [],css=>by intro h;unfold eX at h⊢;exact h
 | k::ks,css=>by
   intro h;unfold eX at h⊢;obtain⟨c1,c2,h1,h2,h3⟩:=h;exact⟨c1,c2,h1,dY.keep hb hB k c1 h2,eX.keep hb hB ks c2 h3⟩
end
theorem dY.len {w:World} {B:Nat} {n:aX} {cs:List Value} (h:dY w B n cs):cs.length=4:=by
 cases n;unfold dY at h;obtain⟨ap,cp,at_,ct,ak,ck,css,h1, -⟩:=h;subst h1;rfl
theorem dY.one {w:World} {B:Nat} {n:aX} {cs:List Value} (h:dY w B n cs):∀u∈cs,u.oneCell'=true:=by
 cases n;unfold dY at h;obtain⟨ap,cp,at_,ct,ak,ck,css,h1, -⟩:=h;subst h1
 intro u hu;simp at hu;rcases hu with rfl | rfl | rfl | rfl <;> rfl
theorem eX.len {w:World} {B:Nat}:∀ {ks:List aX} {css:List Value},eX w B ks css ->css.length=ks.length * 4
 | [],css,h=>by unfold eX at h;subst h;rfl
 | k::ks,css,h=>by
   unfold eX at h;obtain⟨c1,c2,rfl,h2,h3⟩:=h;have a:=h2.len;have b:=eX.len h3
   simp only [NZ,O7];omega
theorem eX.one {w:World} {B:Nat}:∀ {ks:List aX} {css:List Value},eX w B ks css ->∀u∈css,u.oneCell'=true
 | [],css,h=>by unfold eX at h;subst h;simp
 | k::ks,css,h=>by
   unfold eX at h;obtain⟨c1,c2,rfl,h2,h3⟩:=h;intro u hu;rcases OQ hu with hu | hu
   . exact h2.one u hu
   exact eX.one h3 u hu
theorem eX.at_ {w:World} {B:Nat}:∀ {ks:List aX} {css:List Value},eX w B ks css ->∀ (i:Nat) (hi:i < ks.length),∃c,dY w B ks[i] c/\∀j,j < 4 ->css[i * 4+j]? =c[j]?
 | [],css,h,i,hi=>absurd hi P6
 | k::ks,css,h,0,hi=>by
   unfold eX at h;obtain⟨c1,c2,rfl,h2,h3⟩:=h;refine⟨c1,h2,fun j hj=> ?_⟩;rw [Nat.zero_mul,O5,List.getElem?_append_left (by rw [h2.len];exact hj)]
 | k::ks,css,h,i+1,hi=>by
   unfold eX at h;obtain⟨c1,c2,rfl,h2,h3⟩:=h;obtain⟨c,hc,a⟩:=eX.at_ h3 i R4;refine⟨c,by simpa using hc,fun j hj=> ?_⟩;rw [OX u_0, <- a j hj,h2.len]
   congr 1;omega
def bY (w:World) (B:Nat) (n:aX) (v:Value):Prop:= ∃cs,v= .agg cs.toArray/\dY w B n cs
theorem bY.keep {w w':World} {B B':Nat} {n:aX} {v:Value} (h:bY w B n v) (hb:Below B w w') (hB:B <= B'):bY w' B' n v:=by
 obtain⟨cs,h1,h2⟩:=h;exact⟨cs,h1,dY.keep hb hB n cs h2⟩
theorem bY.open {w:World} {B:Nat} {l:Bool} {ps:List fQ} {t:List Int} {ks:List aX} {v:Value} (h:bY w B (.mk l ps t ks) v):
 ∃ ap cp at_ ct ak ck css,v= .agg #[l, .slice ap ps.length cp, .slice at_ t.length ct, .slice ak ks.length ck]/\RowA w B 2 ap ps.length cp (cK ps)/\
   c_r .i32 w B (.slice at_ t.length ct) t/\RowA w B 4 ak ks.length ck css/\eX w B ks css:=by
 obtain⟨cs,rfl,h⟩:=h;unfold dY at h;obtain⟨ap,cp,at_,ct,ak,ck,css,rfl,h2,h3,h4,h5,h6⟩:=h;exact⟨ap,cp,at_,ct,ak,ck,css,rfl,h2,⟨⟨at_,ct,rfl,h3⟩,h4⟩,h5,h6⟩
theorem RowA.prop_at {w:World} {B cap:Nat} {a:Option Addr} {ps:List fQ} (h:RowA w B 2 a ps.length cap (cK ps)) (i:Nat) (hi:i < ps.length):
 ∃b off,a=some ⟨b,off,none⟩/\b < B/\w.cell? ⟨b,off+i * 2,none⟩=some (.string ⟨ps[i].1.toArray⟩)/\w.cell? ⟨b,off+i * 2+1,none⟩=some (.string ⟨ps[i].2.toArray⟩):=by
 obtain⟨b,off,ha,hb,hc⟩:=h.some_ (by
  intro he;have:=a_R ps
  rw [he]at this;simp at this;omega)
 obtain⟨h1,h2⟩:=b_x ps i hi;exact⟨b,off,ha,hb,hc _ _ h1,by have:=hc _ _ h2;rwa [<- Nat.add_assoc]at this⟩
theorem dY.form {w:World} {B:Nat} {n:aX} {cs:List Value} (h:dY w B n cs):∃l a1 n1 c1 a2 n2 c2 a3 n3 c3,cs= [.bool l, .slice a1 n1 c1, .slice a2 n2 c2, .slice a3 n3 c3]:=by
 cases n;unfold dY at h;obtain⟨ap,cp,at_,ct,ak,ck,css,h1, -⟩:=h
 exact⟨_,_,_,_,_,_,_,_,_,_,h1⟩
theorem RowA.kid_at {w:World} {B cap:Nat} {a:Option Addr} {ks:List aX} {css:List Value} (h:RowA w B 4 a ks.length cap css) (hk:eX w B ks css) (i:Nat) (hi:i < ks.length):
 ∃ b off l a1 n1 c1 a2 n2 c2 a3 n3 c3,a=some ⟨b,off,none⟩/\b < B/\dY w B ks[i] [.bool l, .slice a1 n1 c1, .slice a2 n2 c2, .slice a3 n3 c3]/\w.cell? ⟨b,off+i * 4,none⟩=some (.bool l)/\w.cell? ⟨b,off+i * 4+1,none⟩=some (.slice a1 n1 c1)/\
   w.cell? ⟨b,off+i * 4+2,none⟩=some (.slice a2 n2 c2)/\w.cell? ⟨b,off+i * 4+3,none⟩=some (.slice a3 n3 c3):=by
 obtain⟨c,hc,e⟩:=hk.at_ i hi;obtain⟨l,a1,n1,c1,a2,n2,c2,a3,n3,c3,rfl⟩:=hc.form;obtain⟨b,off,ha,hb,d⟩:=h.some_ (by
  intro he;have:=hk.len
  rw [he]at this;simp at this;omega)
 have g0:=d _ _ (e 0 P2);have g1:=d _ _ (e 1 P2);have g2:=d _ _ (e 2 P2);have g3:=d _ _ (e 3 P2);simp only [<- Nat.add_assoc,Nat.add_zero]at g0 g1 g2 g3;exact⟨b,off,l,a1,n1,c1,a2,n2,c2,a3,n3,c3,ha,hb,hc,g0,g1,g2,g3⟩
structure lQ (bad:TypeId ->Bool) (B:Nat) (w w':World):Prop where
 below:Below B w w'
 size:w.heap.size <= w'.heap.size
 block:∀ (i:Nat) (cs:Array Value) (T:TypeId) (fr:Nat×Nat),w.heap[i]? =some (Obj.cells cs T fr) ->bad T=false ->w'.heap[i]? =some (Obj.cells cs T fr)
section
variable {bad : TypeId -> Bool} {B : Nat} {w w' w'' : World}
theorem lQ.refl (hB:B <= w.heap.size):lQ bad B w w:=⟨Below.mono (a7) hB,a8,fun _ _ _ _ h _=>h⟩
theorem lQ.trans (h:lQ bad B w w') (k:lQ bad B w' w''):lQ bad B w w'':=
 ⟨h.below.trans k.below,aJ h.size k.size,fun i cs T fr hi hT=>k.block i cs T fr (h.block i cs T fr hi hT) hT⟩
theorem lQ.of_below (h:Below w w w') (hB:B <= w.heap.size):lQ bad B w w':=
 ⟨h.mono hB,h.size,fun i cs T fr hi _=>(h.block i (by
  rcases Nat.lt_or_ge i w with a | b
  . exact a
  rw [Array.getElem?_eq_none b]at hi;cases hi)).trans hi⟩
theorem lQ.alloc (h:lQ bad B w w') (hB:B <= w.heap.size) (o:Obj):lQ bad B w (w'.alloc o):=
 h.trans (lQ.of_below ((a7).alloc (a8) o) (aJ hB h.size))
theorem lQ.setCell (h:lQ bad B w w') {b off:Nat} {cs:Array Value} {T:TypeId} {fr:Nat×Nat} (hb:w'.heap[b]? =some (Obj.cells cs T fr)) (hT:bad T=true) (hB:B <= b) (v:Value):lQ bad B w (w'.setCell (b,off) v):=by
 refine⟨h.below.setCell (p:=(b,off)) hB v,by simpa [World.setCell]using h.size,fun i cs' T' fr' hi a=> ?_⟩;have c:=h.block i cs' T' fr' hi a;have d:i≠b:=by
  rintro rfl;rw [hb]at c;injection c with e
  injection e with e1 e2 e3
  subst e2;rw [hT]at a;cases a
 rw [Below.heap_setCell w' (b,off) v i d];exact c
end
theorem lQ.box4 {bad:TypeId ->Bool} {B:Nat} {w w1:World} {c0 c1 c2 c3:Value} {T:TypeId} (hb:lQ bad B (w.alloc (.cells #[c0,c1,c2,c3] T)) w1) (hT:bad T=false):
 w1.cell? w=some c0/\w1.cell? (P0 w 1)=some c1/\w1.cell? (P0 w 2)=some c2/\w1.cell? (P0 w 3)=some c3:=by
 have h:=hb.block w _ _ _ (heap_alloc_new w _) hT;refine⟨?_, ?_, ?_, ?_⟩ <;> (rw [cell_of_row _ _ _ _ _ _ h];rfl)
theorem RowA.setCell {w:World} {B sz n cap:Nat} {a:Option Addr} {cs:List Value} (h:RowA w B sz a n cap cs) (p:Addr) (v:Value) (d:∀b off,a=some ⟨b,off,none⟩ ->b≠p.block):RowA (w.setCell p v) B sz a n cap cs:=by
 refine⟨h.len,h.le,h.max,h.one,h.nil,fun hc=> ?_⟩;obtain⟨b,off,ha,e,c⟩:=h.some_ hc;refine⟨b,off,ha,e,fun j u hj=> ?_⟩;have h0:=c j u hj;have hb:=d b off ha;rw [<- h0];unfold World.cell?;rw [Below.heap_setCell w p v b hb]
structure RowQ (w:World) (ok:Nat ->Prop) (sz:Nat) (a:Option Addr) (n cap:Nat) (cs:List Value):Prop where
 len:cs.length=n * sz
 le:n <= cap
 max:cap <= maxLen
 one:∀u∈cs,u.oneCell'=true
 nil:a=none ->cap=0
 some_:cs≠ [] ->∃b off,a=some ⟨b,off,none⟩/\ok b/\b < w.heap.size/\∀j u,cs[j]? =some u ->w.cell? ⟨b,off+j,none⟩=some u
theorem RowQ.keep {w w':World} {ok ok':Nat ->Prop} {sz n cap:Nat} {a:Option Addr} {cs:List Value} (h:RowQ w ok sz a n cap cs) (hs:w.heap.size <= w'.heap.size) (hk:∀b,ok b ->b < w.heap.size ->w'.heap[b]? =w.heap[b]?) (ho:∀b,ok b ->b < w.heap.size ->ok' b):RowQ w' ok' sz a n cap cs:=by
 refine⟨h.len,h.le,h.max,h.one,h.nil,fun e=> ?_⟩;obtain⟨b,off,ha,hb,c,d⟩:=h.some_ e;refine⟨b,off,ha,ho b hb c,Nat.lt_of_lt_of_le c hs,fun j u hj=> ?_⟩;rw [World.cell?_of_block (a:=(b,off+j)) (hk b hb c)];exact d j u hj
theorem RowQ.row {w:World} {ok:Nat ->Prop} {sz n cap:Nat} {a:Option Addr} {cs:List Value} (h:RowQ w ok sz a n cap cs):RowA w w sz a n cap cs:=by
 refine⟨h.len,h.le,h.max,h.one,h.nil,fun d=> ?_⟩;obtain⟨b,off,ha,hb,e,c⟩:=h.some_ d;exact⟨b,off,ha,e,c⟩
theorem RowQ.empty (w:World) (ok:Nat ->Prop) (sz:Nat):RowQ w ok sz none 0 0 []:=⟨by simp,a8,Nat.zero_le _,by simp,fun _=>rfl,fun h=>absurd rfl h⟩
theorem RowQ.of_own {w:World} {base e sz n:Nat} {v:Value} {cs:List Value} (h:w.ownsRow base e sz v n cs) (h1:∀u∈cs,u.oneCell'=true):
 ∃a cap,v= .slice a n cap/\RowQ w (fun b=>v.ownBlock=some b) sz a n cap cs:=by
 obtain⟨a,cap,hv,hr⟩:=eK h h1;refine⟨a,cap,hv,hr.len,hr.le,hr.max,hr.one,hr.nil,fun d=> ?_⟩;obtain⟨b,off,ha,f,c⟩:=hr.some_ d;refine⟨b,off,ha, ?_,f,c⟩;rcases h.2 with⟨hn,_⟩ | ⟨g,cap',cur,hg,_⟩
 . rw [hv]at hn;injection hn with e1;subst e1;cases ha
 rw [hv]at hg;injection hg with e1
 rw [ha]at e1;injection e1 with e2
 injection e2 with e3
 subst e3;rw [hv,ha];simp [Value.ownBlock]at *
mutual
def NodeQ (w:World) (ok:Nat ->Prop):aX ->List Value ->Prop
 | .mk l ps t ks,cs=>∃ap cp at_ ct ak ck css,cs= [.bool l, .slice ap ps.length cp, .slice at_ t.length ct, .slice ak ks.length ck]/\RowQ w ok 2 ap ps.length cp (cK ps)/\
     RowQ w ok 1 at_ t.length ct (t.map (Value.int .i32))/\(∀z∈t,(Lit.int .i32 z).wf=true)/\RowQ w ok 4 ak ks.length ck css/\dK w ok ks css
def dK (w:World) (ok:Nat ->Prop):List aX ->List Value ->Prop
 | [],css=>css= []
 | k::ks,css=>∃c1 c2,css=c1 ++ c2/\NodeQ w ok k c1/\dK w ok ks c2
end
mutual
theorem NodeQ.keep {w w':World} {ok ok':Nat ->Prop} (hs:w.heap.size <= w'.heap.size) (hk:∀b,ok b ->b < w.heap.size ->w'.heap[b]? =w.heap[b]?) (ho:∀b,ok b ->b < w.heap.size ->ok' b):∀ (n:aX) (cs:List Value),NodeQ w ok n cs ->NodeQ w' ok' n cs
 | .mk l ps t ks,cs=>by
   intro h;unfold NodeQ at h⊢;obtain⟨ap,cp,at_,ct,ak,ck,css,h1,h2,h3,h4,h5,h6⟩:=h;exact⟨ap,cp,at_,ct,ak,ck,css,h1,h2.keep hs hk ho,h3.keep hs hk ho,h4,h5.keep hs hk ho,dK.keep hs hk ho ks css h6⟩
theorem dK.keep {w w':World} {ok ok':Nat ->Prop} (hs:w.heap.size <= w'.heap.size) (hk:∀b,ok b ->b < w.heap.size ->w'.heap[b]? =w.heap[b]?) (ho:∀b,ok b ->b < w.heap.size ->ok' b):∀ (ks:List aX) (css:List Value),dK w ok ks css ->dK w' ok' ks css
 | [],css=>by intro h;unfold dK at h⊢;exact h
 | k::ks,css=>by
   intro h;unfold dK at h⊢;obtain⟨c1,c2,h1,h2,h3⟩:=h;exact⟨c1,c2,h1,NodeQ.keep hs hk ho k c1 h2,dK.keep hs hk ho ks c2 h3⟩
end
mutual
theorem NodeQ.node {w:World} {ok:Nat ->Prop}:∀ (n:aX) (cs:List Value),NodeQ w ok n cs ->dY w w n cs
 | .mk l ps t ks,cs=>by
   intro h;unfold NodeQ at h;unfold dY;obtain⟨ap,cp,at_,ct,ak,ck,css,h1,h2,h3,h4,h5,h6⟩:=h;exact⟨ap,cp,at_,ct,ak,ck,css,h1,h2.row,h3.row,h4,h5.row,dK.kids ks css h6⟩
theorem dK.kids {w:World} {ok:Nat ->Prop}:∀ (ks:List aX) (css:List Value),dK w ok ks css ->eX w w ks css
 | [],css=>by intro h;unfold dK at h;unfold eX;exact h
 | k::ks,css=>by
   intro h;unfold dK at h;unfold eX;obtain⟨c1,c2,h1,h2,h3⟩:=h;exact⟨c1,c2,h1,NodeQ.node k c1 h2,dK.kids ks c2 h3⟩
end
theorem dK.append {w:World} {ok:Nat ->Prop}:∀ {ks ks':List aX} {css css':List Value},dK w ok ks css ->dK w ok ks' css' ->dK w ok (ks ++ ks') (css ++ css')
 | [],ks',css,css',h,h'=>by unfold dK at h;subst h;exact h'
 | k::ks,ks',css,css',h,h'=>by
   unfold dK at h;obtain⟨c1,c2,rfl,h2,h3⟩:=h;rw [List.cons_append];unfold dK;exact⟨c1,c2 ++ css',by simp,h2,dK.append h3 h'⟩
theorem dK.one {w:World} {ok:Nat ->Prop} {k:aX} {c:List Value} (h:NodeQ w ok k c):dK w ok [k] c:=by
 unfold dK;exact⟨c, [],by simp,h,by unfold dK;rfl⟩
theorem a_S {P:Program} (w:World) (base:Nat) (t ty e:TypeId) (i:TypeInfo) (z:Value) (size bytes:Nat) (ht:P.underlying t=some (.slice e)) (hi:P.info? e=some i) (hz:i.zero=some z)
 (l:i.size=size) (q:i.bytes=bytes) (s:z.cells.size=size) (hsz:0 < size)
 (v:Value) (n:Nat) (xs:List Value) (f:w.ownsRow base e size v n xs)
 (a:Addr) (m c:Nat) (news:List Value) (hl:news.length=m * size) (b:∀j u,news[j]? =some u ->w.cell? (a.add j)=some u) (h1:∀u∈news,u.oneCell'=true)
 (p:n+m <= maxLen) (d:(n+m) * bytes <= 140737488355328) (r:base <= w.heap.size):
 ∃ v' w',(Builtin.append_ #[t,t] ty #[v,((some a),m,c)]).run P w= .ok v' w'/\w'.ownsRow base e size v' (n+m) (xs ++ news)/\w.grownBy w' v.ownBlock/\
   (v'.ownBlock=v.ownBlock∨ ∀k,v'.ownBlock=some k ->w.heap.size <= k):=by
 obtain⟨v',w',hr,h2,h3, -⟩:=run_append_own (P:=P) w base t ty e i z size bytes ht hi hz l q s hsz v n xs f a m c news hl b h1 p d r;refine⟨v',w',hr,h2,h3, ?_⟩;rcases f.2 with⟨rfl,rfl⟩ | ⟨g,cap,cur,rfl,B,hg,C,D,y,A⟩
 . have hx:xs= []:=O2 (by simpa using f.1)
   subst hx;obtain⟨v2,w2,h,k2, -, -⟩:=run_append_own (P:=P) w w t ty e i z size bytes ht hi hz l q s hsz () 0 [] (World.ownsRow_nil _ _ _ _) a m c news hl b h1 p d (a8);rw [hr]at h;cases h;exact .inr fun k hk=>(k2.lt k hk).1
 subst l
 by_cases o:n+m <= cap
 . have x:n * i.size+news.length <= cur.size:=by rw [hl,y, <- Nat.add_mul];exact Nat.mul_le_mul_right _ o
   have h:=run_append_room (P:=P) w t ty e i ht hi g n cap cur hg a m c news hl b h1 o x;rw [hr]at h;cases h;exact .inl rfl
 have holds:∀j u,xs[j]? =some u ->w.cell? ((⟨g,0,none⟩:Addr).add j)=some u:=f.cells (g:=g) rfl;have h:=run_append_grow (P:=P) w t ty e i z ht hi hz g n cap xs f.1 holds a m c news hl b P2 (by unfold maxLen at p;omega) (growslice_fits (by unfold maxLen at p;omega) (by subst q;exact d));rw [hr]at h;cases h;exact .inr fun k hk=>by
  simp [Value.ownBlock]at hk
  omega
theorem I2 {P:Program} {w:World} {ops:Array Oper} {rest:List Oper} {o:Oper} {a:Act} {Q:Exit ->Act ->World ->Prop} (l:o.guard=none) (s x:Operand) (t:TypeId)
 (ho:o.op= .call { callee:= .builtin .append,args:= #[s,x],argTypes:= #[t,t] })
 (base:Nat) (e:TypeId) (z:Value) (size bytes:Nat) (ht:P.underlying t=some (.slice e)) (hi:(P.info? e).map (fun i=>(i.zero,i.size,i.bytes))=some (some z,size,bytes))
 (p:z.cells.size=size) (hsz:0 < size)
 (v:Value) (n:Nat) (xs:List Value) (hs:a.eval s=v) (g:w.ownsRow base e size v n xs)
 (ad:Addr) (m c B:Nat) (news:List Value) (hx:a.eval x= .slice (some ad) m c) (hr:RowA w B size (some ad) m c news)
 (q:n+m <= maxLen) (b:(n+m) * bytes <= 140737488355328) (d:base <= w.heap.size)
 (h:∀v' w',w'.ownsRow base e size v' (n+m) (xs ++ news) ->w.grownBy w' v.ownBlock ->(v'.ownBlock=v.ownBlock∨ ∀k,v'.ownBlock=some k ->w.heap.size <= k) ->wpList P ops Q rest (a.put o.dst v') w'):wpList P ops Q (o::rest) a w:=by
 obtain⟨i,r,hz,f,u⟩:=info_parts hi;refine wpList_plain l fun K hK=> ?_
 obtain⟨v',w',j,h2,h3,h4⟩:=a_S (P:=P) w base t o.type e i z size bytes ht r hz f u p hsz v n xs g ad m c news hr.len hr.cells hr.one q b d;unfold Oper.wp execOp;simp only [ho,resolve,invoke,builtin,Sem.run_bind,Sem.run_pure,Result.andThen_ok,List.map_toArray,List.map_cons,List.map_nil,hs,hx,j];exact hK _ _ (h v' w' h2 h3 h4)
structure b_0 (w w':World) (ok ok':Nat ->Prop):Prop where
 size:w.heap.size <= w'.heap.size
 block:∀b,ok b ->b < w.heap.size ->w'.heap[b]? =w.heap[b]?
 let_:∀b,ok b ->b < w.heap.size ->ok' b
theorem l_A {wr w1 w2 w3:World} {M T sz n:Nat} {kv kv':Value} {css:List Value} (c:wr.ownsRow M T sz kv n css) (h1:Below wr wr w1) (h2:Below w1 w1 w2) (hg:w2.grownBy w3 kv.ownBlock)
 (hw:kv'.ownBlock=kv.ownBlock∨ ∀k,kv'.ownBlock=some k ->w2.heap.size <= k):b_0 wr w3 (fun b=>M <= b/\kv.ownBlock≠some b) (fun b=>M <= b/\kv'.ownBlock≠some b):=by
 have s1:=h1.size;have s2:=h2.size;have s3:=hg.size
 refine⟨by omega,fun b hb a=> ?_,fun b hb a=>⟨hb.1, ?_⟩⟩
 . rw [hg.block b P2 (fun e=>hb.2 e.symm),h2.block b P2,h1.block b a]
 rcases hw with hw | hw
 . rw [hw];exact hb.2
 intro e;have:=hw b e;omega
theorem n_k {wr w1 w2 w3:World} {M T sz n:Nat} {kv kv':Value} {css:List Value} (a:wr.ownsRow M T sz kv n css) (hM:M <= wr.heap.size) (h2:Below w1 w1 w2) (hg:w2.grownBy w3 kv.ownBlock)
 (hw:kv'.ownBlock=kv.ownBlock∨ ∀k,kv'.ownBlock=some k ->w2.heap.size <= k):b_0 w1 w3 (fun b=>wr.heap.size <= b) (fun b=>M <= b/\kv'.ownBlock≠some b):=by
 have s2:=h2.size;have s3:=hg.size
 have c:∀b,wr.heap.size <= b ->kv.ownBlock≠some b:=fun b hb e=>by have:=(a.lt b e).2;omega
 refine⟨by omega,fun b hb d=> ?_,fun b hb d=>⟨by omega, ?_⟩⟩
 . rw [hg.block b P2 (fun e=>c b hb e.symm),h2.block b P2]
 rcases hw with hw | hw
 . rw [hw];exact c b hb
 intro e;have:=hw b e;omega
theorem RowQ.stay {w w':World} {ok ok':Nat ->Prop} {sz n cap:Nat} {a:Option Addr} {cs:List Value} (h:RowQ w ok sz a n cap cs) (s:b_0 w w' ok ok'):RowQ w' ok' sz a n cap cs:=h.keep s.size s.block s.let_
theorem NodeQ.stay {w w':World} {ok ok':Nat ->Prop} {n:aX} {cs:List Value} (h:NodeQ w ok n cs) (s:b_0 w w' ok ok'):NodeQ w' ok' n cs:=NodeQ.keep s.size s.block s.let_ n cs h
theorem NodeQ.form {w:World} {ok:Nat ->Prop} {n:aX} {cs:List Value} (h:NodeQ w ok n cs):∃l a1 n1 c1 a2 n2 c2 a3 n3 c3,cs= [.bool l, .slice a1 n1 c1, .slice a2 n2 c2, .slice a3 n3 c3]:=(NodeQ.node n cs h).form
theorem dK.onec {w:World} {ok:Nat ->Prop} {ks:List aX} {css:List Value} (h:dK w ok ks css):∀u∈css,u.oneCell'=true:=(dK.kids ks css h).one
end Go.Redl
namespace Go.Proofs.YtmadpclcmjahoaaGreatDoor
open Go.RowKit Go.Redl Go.Deep
def I3 {H α :Type} (Φ : α ->List Value ->DataW H ->Prop):List α ->List Value ->List (DataW H) ->Prop
 | [],css,ds=>css= []/\ds= []
 | y::ys,css,ds=>∃c cs d ds',css=c ++ cs/\ds=d::ds'/\ Φ y c d/\I3 Φ ys cs ds'
theorem h_p {H α :Type} {enc:TypeId×Value ->H} {P:Program} {W:World} {fuel:Nat} {e:TypeId} {sz:Nat} (Φ : α ->List Value ->DataW H ->Prop)
 (hΦ :∀cs x,DataW.trod enc P W 0 (fun _=>true) true fuel e cs=some x ->∃y, Φ y cs x.1):
 ∀ (elems:List (DataW H×List MemPlace)) (a:Addr) (off:Nat),(∀i,i < elems.length ->(W.cells? 0 (a.add (off+i * sz)) sz).bind (DataW.trod enc P W 0 (fun _=>true) true fuel e)=elems[i]?) ->
   ∃ys css,I3 Φ ys css (elems.map (·.1))/\ys.length=elems.length/\css.length=elems.length * sz/\∀j u,css[j]? =some u ->W.cell? (a.add (off+j))=some u
 | [],a,off,h=>⟨[], [],⟨rfl,rfl⟩,rfl,by simp,by simp⟩
 | x ::elems,a,off,h=>by
   have h0:=h 0 P6;simp only [Nat.zero_mul,Nat.add_zero,List.getElem?_cons_zero,Option.bind_eq_some_iff]at h0;obtain⟨c,hc,ht⟩:=h0;obtain⟨y,hy⟩:=hΦ c x ht;obtain⟨_,d,b⟩:=World.cells?_some hc;obtain⟨ys,css,h1,h2,h3,h4⟩:=h_p Φ hΦ elems a (off+sz) (fun i hi=>by
    have:=h (i+1) R4;rw [show off+(i+1) * sz=off+sz+i * sz by rw [Nat.add_mul];omega]at this
    simpa using this)
   refine⟨y::ys,c ++ css,⟨c,css,x.1,elems.map (·.1),rfl,rfl,hy,h1⟩,by simp [h2],by simp [d,h3,Nat.add_mul];omega,fun j u hj=> ?_⟩;rcases Nat.lt_or_ge j sz with f | g
   . rw [List.getElem?_append_left P2]at hj
     have:=b j f;rw [add_add,hj]at this;exact this
   rw [OX P2,d]at hj;have:=h4 _ _ hj;rw [show off+sz+(j - sz)=off+j by omega]at this;exact this
theorem I3.one {H α :Type} {Φ : α ->List Value ->DataW H ->Prop} (h1:∀y c d, Φ y c d ->∀u∈c,u.oneCell'=true):∀ {ys:List α} {css:List Value} {ds:List (DataW H)},I3 Φ ys css ds ->∀u∈css,u.oneCell'=true
 | [],css,ds,h=>by obtain⟨rfl, -⟩:=h;simp
 | y::ys,css,ds,h=>by
   obtain⟨c,cs,d,ds',rfl,rfl,hy,hr⟩:=h;intro u hu;rcases OQ hu with hu | hu
   . exact h1 y c d hy u hu
   exact I3.one h1 hr u hu
theorem wY {H α :Type} {enc:TypeId×Value ->H} {P:Program} {W:World} {fuel:Nat} {t e:TypeId} {sz:Nat} (Φ : α ->List Value ->DataW H ->Prop) (ht:P.underlying t=some (.slice e)) (hs:P.cellsOf e=sz) (q:0 < sz)
 (hΦ :∀m cs x,m < fuel ->DataW.trod enc P W 0 (fun _=>true) true m e cs=some x ->∃y, Φ y cs x.1) (h1:∀y c d, Φ y c d ->∀u∈c,u.oneCell'=true)
 {cs:List Value} {x:DataW H×List MemPlace} (h:DataW.trod enc P W 0 (fun _=>true) true fuel t cs=some x):
 ∃a cap ys css ds,cs= [.slice a ys.length cap]/\RowA W W sz a ys.length cap css/\I3 Φ ys css ds/\(x.1= .nil/\ys= []/\ds= []∨ ∃sp,x.1= .slice ds sp):=by
 rcases DataW.trod_slice ht h with⟨rfl,rfl⟩ | ⟨a,len,cap,elems,rest,n,rfl,rfl,rfl,hb,hl,hm,l,f, -, -⟩
 . exact⟨none,0, [], [], [],rfl,RowA.empty _ _ _,⟨rfl,rfl⟩, .inl ⟨rfl,rfl,rfl⟩⟩
 rw [hs]at f;obtain⟨ys,css,g1,g2,g3,g4⟩:=h_p (fuel:=n) Φ (fun cs x hx=>hΦ n cs x (Nat.lt_succ_self n) hx) elems a 0 (fun i hi=>by
  have:=f i P2;rw [O5];exact this)
 have o:ys.length=len:=P2
 subst o;refine⟨some a,cap,ys,css,elems.map (·.1),rfl,⟨by rw [g3,l],hl,hm,I3.one h1 g1,(fun h=>by cases h),fun p=> ?_⟩,g1, .inr ⟨_,rfl⟩⟩;have g:0 < css.length:=List.length_pos_iff.2 p;have h0:=g4 0 _ (NV g);obtain⟨b,off,spot⟩:=a;have k:spot=none:=by simpa [Addr.add]using World.cell?_spot h0
 subst k;refine⟨b,off,rfl, ?_,fun j u hj=> ?_⟩
 . have:=World.block_lt_of_cell? W _ h0
   simpa [JQ]using this
 have:=g4 j u hj;rw [O5,JQ]at this;exact this
theorem I4 (s:ByteArray):(⟨s.data.toList.toArray⟩:ByteArray)=s:=by cases s;simp
def PropΦ {H:Type} (p:fQ) (cs:List Value) (d:DataW H):Prop:=cs= [.string ⟨p.1.toArray⟩, .string ⟨p.2.toArray⟩]/\2+p.1.length+p.2.length <= Rows.uptoBulk d
theorem g_w {H:Type} {enc:TypeId×Value ->H} {P:Program} {W:World} {fuel:Nat} {t:TypeId} {f0 f1:Field} (hs:P.underlying t=some (.struct #[f0,f1])) (hc:P.cellsOf t=2) (h0:P.underlying f0.type=some .string) (h1:P.underlying f1.type=some .string)
 (c0:P.cellsOf f0.type=1) (c1:P.cellsOf f1.type=1) (o0:f0.offset=0) (o1:f1.offset=1) {cs:List Value} {x:DataW H×List MemPlace} (h:DataW.trod enc P W 0 (fun _=>true) true fuel t cs=some x):∃p,PropΦ p cs x.1:=by
 obtain⟨xs,n,rfl,rfl,hl,hx,hf⟩:=DataW.trod_struct hs h;rw [hc]at hl;match xs,hx,cs,hl with
 | [y0,y1],_, [v0,v1],_=>
   have g0:=hf 0 f0 rfl;have g1:=hf 1 f1 rfl
   simp [o0,o1,c0,c1]at g0 g1
   obtain⟨s0,e0,rfl,m0⟩:=DataW.trod_string h0 g0;obtain⟨s1,e1,rfl,m1⟩:=DataW.trod_string h1 g1
   simp at e0 e1
   subst e0;subst e1;refine⟨(s0.data.toList,s1.data.toList), ?_, ?_⟩
   . simp only [I4]
   simp [Rows.uptoBulk,Rows.uptoBulkAll];omega
theorem c_Z {H:Type}:∀ {ps:List fQ} {css:List Value} {ds:List (DataW H)},I3 PropΦ ps css ds ->css=cK ps/\iQ ps <= Rows.uptoBulkAll ds
 | [],css,ds,h=>by obtain⟨rfl,rfl⟩:=h;exact⟨rfl,by simp [iQ]⟩
 | p::ps,css,ds,h=>by
   obtain⟨c,cs,d,ds',rfl,rfl,⟨rfl,hb⟩,hr⟩:=h;obtain⟨rfl,h2⟩:=c_Z hr;exact⟨by simp [cK],by simp only [iQ,Rows.uptoBulkAll];omega⟩
theorem d_K {H:Type} {k:IntKind}:∀ {zs:List Int} {css:List Value} {ds:List (DataW H)},I3 (fun z cs d=>cs= [.int k z]/\(Lit.int k z).wf=true/\1 <= Rows.uptoBulk (H:=H) d) zs css ds ->
 css=zs.map (Value.int k)/\(∀z∈zs,(Lit.int k z).wf=true)/\zs.length <= Rows.uptoBulkAll ds
 | [],css,ds,h=>by obtain⟨rfl,rfl⟩:=h;exact⟨rfl,by simp,by simp⟩
 | z::zs,css,ds,h=>by
   obtain⟨c,cs,d,ds',rfl,rfl,⟨rfl,hw,hb⟩,hr⟩:=h;obtain⟨rfl,h2,h3⟩:=d_K hr;exact⟨by simp,by simpa using ⟨hw,h2⟩,by simp only [O7,Rows.uptoBulkAll];omega⟩
def NodeΦ {H:Type} (W:World) (n:aX) (cs:List Value) (d:DataW H):Prop:=dY W W n cs/\n.wt <= Rows.uptoBulk d
theorem d_L {H:Type} {W:World}:∀ {ks:List aX} {css:List Value} {ds:List (DataW H)},I3 (NodeΦ W) ks css ds ->eX W W ks css/\fY ks <= Rows.uptoBulkAll ds
 | [],css,ds,h=>by obtain⟨rfl,rfl⟩:=h;exact⟨by unfold eX;rfl,by simp [fY]⟩
 | k::ks,css,ds,h=>by
   obtain⟨c,cs,d,ds',rfl,rfl,⟨hk,hb⟩,hr⟩:=h;obtain⟨h2,h3⟩:=d_L hr;exact⟨by unfold eX;exact⟨c,cs,rfl,hk,h2⟩,by simp only [fY,Rows.uptoBulkAll];omega⟩
theorem A4 {H:Type} {d:DataW H} {ds:List (DataW H)} {n:Nat} (h:d= .nil/\n=0/\ds= []∨ ∃sp,d= .slice ds sp):Rows.uptoBulkAll ds+1 <= Rows.uptoBulk d:=by
 rcases h with⟨rfl, -,rfl⟩ | ⟨sp,rfl⟩
 . simp [Rows.uptoBulk,Rows.uptoBulkAll]
 simp only [Rows.uptoBulk];omega
theorem FJ {H:Type} {enc:TypeId×Value ->H} {W:World}:∀ (fuel:Nat) (cs:List Value) (x:DataW H×List MemPlace),DataW.trod enc Tryz.prog W 0 (fun _=>true) true fuel 35 cs=some x ->∃n,NodeΦ W n cs x.1:=by
 intro fuel;induction fuel using Nat.strongRecOn with
 | _ fuel ih=>
   intro cs x h;obtain⟨xs,n,rfl,rfl,hl,hx,hf⟩:=DataW.trod_struct Tryz.underlying35 h;rw [show Tryz.prog.cellsOf 35=4 by kernel_rfl]at hl
   match xs,hx,cs,hl with
   | [y0,y1,y2,y3],_, [v0,v1,v2,v3],_=>
     have g0:=hf 0 _ rfl;have g1:=hf 1 _ rfl;have g2:=hf 2 _ rfl;have g3:=hf 3 _ rfl;have k0:Tryz.prog.cellsOf 4=1:=P3
     have k1:Tryz.prog.cellsOf 31=1:=P3
     have k2:Tryz.prog.cellsOf 32=1:=P3
     have k3:Tryz.prog.cellsOf 33=1:=P3
     simp [k0,k1,k2,k3]at g0 g1 g2 g3
     obtain⟨b,e0,rfl⟩:=DataW.trod_bool Tryz.underlying4 g0;obtain⟨a1,c1,ps,css1,ds1,e1,r1,el1,s1⟩:=wY PropΦ Tryz.underlying31 (show Tryz.prog.cellsOf 138=2 by kernel_rfl) P9
      (fun m cs x _ hx=>g_w Tryz.underlying138 P3 Tryz.underlying9 Tryz.underlying9 P3 P3 rfl rfl hx) (fun y c d hh=>by obtain⟨rfl, -⟩:=hh;intro u hu;simp at hu;rcases hu with rfl | rfl <;> rfl) g1
     obtain⟨a2,c2,zs,css2,ds2,e2,r2,el2,s2⟩:=wY (fun z cs d=>cs= [.int .i32 z]/\(Lit.int .i32 z).wf=true/\1 <= Rows.uptoBulk (H:=H) d) Tryz.underlying32 (show Tryz.prog.cellsOf 21=1 by kernel_rfl) P9
      (fun m cs x _ hx=>by
        obtain⟨z,rfl,rfl,hw⟩:=DataW.trod_int Tryz.underlying21 hx;exact⟨z,rfl,hw,by simp [Rows.uptoBulk]⟩) (fun y c d hh=>by obtain⟨rfl, -⟩:=hh;intro u hu;simp at hu;subst hu;rfl) g2
     obtain⟨a3,c3,ks,css3,ds3,e3,r3,el3,s3⟩:=wY (NodeΦ W) Tryz.underlying33 (show Tryz.prog.cellsOf 35=4 by kernel_rfl) P9
      (fun m cs x hm hx=>ih m P2 cs x hx) (fun y c d hh=>hh.1.one) g3
     simp at e0 e1 e2 e3
     subst e0;subst e1;subst e2;subst e3;obtain⟨rfl,b1⟩:=c_Z el1;obtain⟨rfl,hw,b2⟩:=d_K el2;obtain⟨hk,b3⟩:=d_L el3;refine⟨.mk b ps zs ks, ?_, ?_⟩
     . unfold dY
       exact⟨a1,c1,a2,c2,a3,c3,css3,rfl,r1,r2,hw,r3,hk⟩
     have m1:=A4 (n:=0) (s1.imp (fun h=>⟨h.1,rfl,h.2.2⟩) id);have m2:=A4 (n:=0) (s2.imp (fun h=>⟨h.1,rfl,h.2.2⟩) id);have m3:=A4 (n:=0) (s3.imp (fun h=>⟨h.1,rfl,h.2.2⟩) id);simp only [aX.wt,List.map_cons,List.map_nil,Rows.uptoBulk,Rows.uptoBulkAll];omega
end Go.Proofs.YtmadpclcmjahoaaGreatDoor

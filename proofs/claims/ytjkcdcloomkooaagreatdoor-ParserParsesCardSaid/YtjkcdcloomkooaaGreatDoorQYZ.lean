/- Own work: walks and laws of the parser and its reference. -/
import Derived.Test.YtjkcdcloomkooaaGreatDoorQYW
set_option linter.unusedVariables false
set_option linter.unusedSimpArgs false
set_option linter.unusedSectionVars false
set_option maxHeartbeats 16000000
set_option maxRecDepth 100000
namespace Go.Proofs.YtjkcdcloomkooaaGreatDoor
open Go.RowKit
section
variable{n:Int}{toks:List Tk}{LR:List (List PV)}{a:Int}{l:Ts}{β:Type}{o:Option (β×Ts)}{G:Prop}{M:Nat}
theorem kN(c:Cx)(h:bF n toks LR a l){w:Bs}{K:Ts->Re β}(ho:fV w l K=some o)(A:∀b,bF n toks LR b (l.drop 1)->K (l.drop 1)=some o->(l.drop 1).length<l.length->MP 33 [.own 0 0,.p (pS (bL w))] [aZ LR a c] (.p (.tup [])) [aZ LR b c]->G)
  (B:o=none/\MP 33 [.own 0 0,.p (pS (bL w))] [aZ LR a c] (.p (.pan mN)) [none]->G):G:=by
 rcases mr h w c ho with⟨b,k1,k2,k3,_,k4⟩|k
 ·exact A b k1 k2 k3 k4
 ·exact B k
theorem kT(c:Cx)(h:bF n toks LR a l){w:Bs}{X Y:Re β}(ho:(if aM l 0 w then X else Y)=some o)(A:∀b,bF n toks LR b (l.drop 1)->X=some o->(l.drop 1).length<l.length->MP 37 [.own 0 0,.p (pS (bL w))] [aZ LR a c] (.p (pB true)) [aZ LR b c]->G)
  (B:Y=some o->MP 37 [.own 0 0,.p (pS (bL w))] [aZ LR a c] (.p (pB false)) [aZ LR a c]->G):G:=by
 rcases xO h w c ho with⟨b,k1,k2,k3,_,k4⟩|⟨k1,_,k2⟩
 ·exact A b k1 k2 k3 k4
 ·exact B k1 k2
theorem kI(c:Cx)(h:bF n toks LR a l){k:Nat}(hk:k<=1000000){w:Bs}{X Y:Re β}(ho:(if aM l k w then X else Y)=some o)(A:X=some o->aM l k w=true->k<l.length->MP 31 [.own 0 0,.p (pI (k:Nat)),.p (pS (bL w))] [aZ LR a c] (.p (pB true)) [aZ LR a c]->G)
  (B:Y=some o->aM l k w=false->MP 31 [.own 0 0,.p (pI (k:Nat)),.p (pS (bL w))] [aZ LR a c] (.p (pB false)) [aZ LR a c]->G):G:=by
 rcases TC h k hk w c ho with⟨k1,k2,k3,k4⟩|⟨k1,k2,k3⟩
 ·exact A k1 k2 k3 k4
 ·exact B k1 k2 k3
structure Xz(M:Nat)(s:Sy)(f:FuncId)(sh:Sh)(l:Ts)(c:Cx)(az:List AV):Prop where
 m:s.meas<M
 f:s.fid=some f
 sh:s.shape=sh
 lx:s.lax=false
 l:s.l=l
 c:s.c=c
 az:s.args=az
theorem kD{s:Sy}(ih:∀s':Sy,s'.meas<M->iI n toks LR s')(h:bF n toks LR a l){K:PT->Ts->Re β}(ho:ndR (ev s) K=some o){f:FuncId}{c:Cx}{az:List AV}(H:Xz M s f .nd l c az)
  (A:∀x l' b k i q nm KK,bF n toks LR b l'->K x l'=some o->l'.length<l.length->jC x k i q nm KK->MP f (.own 0 0::az) [aZ LR a c] (.p (.agg [pI k,pS nm,pI i,pI q,KK])) [aZ LR b c]->G)
  (B:o=none/\MP f (.own 0 0::az) [aZ LR a c] (.p (.pan mN)) [none]->G):G:=by
 obtain⟨m,h1,h2,h3,h4,h5,h6⟩:=H
 rcases yM (ih _ m) h1 h2 h3 h4 h5 h6 h ho with⟨x,l',b,k,i,q,nm,KK,k1,k2,k3,k4,k5⟩|k
 ·exact A x l' b k i q nm KK k1 k2 k3 k4 k5
 ·exact B k
theorem kE{o:Option (Rv×Ts)}{s:Sy}(ih:∀s':Sy,s'.meas<M->iI n toks LR s')(h:bF n toks LR a l)(ho:ev s=some o){f:FuncId}{c:Cx}{az:List AV}(hm:s.meas<M)(hf:s.fid=some f)(rP:s.shape=.nd)(hl:s.l=l)(hc:s.c=c)(ha:s.args=az)
  (A:∀x l' b k i q nm KK,bF n toks LR b l'->o=some (.nd x,l')->jC x k i q nm KK->MP f (.own 0 0::az) [aZ LR a c] (.p (.agg [pI k,pS nm,pI i,pI q,KK])) [aZ LR b c]->G)
  (B:o=none/\MP f (.own 0 0::az) [aZ LR a c] (.p (.pan mN)) [none]->G):G:=by
 rcases Ba (ih _ hm) hf rP hl hc ha h ho with⟨x,l',b,k,i,q,nm,KK,k1,k2,k3,k4⟩|k
 ·exact A x l' b k i q nm KK k1 k2 k3 k4
 ·exact B k
theorem kB{s:Sy}(ih:∀s':Sy,s'.meas<M->iI n toks LR s')(h:bF n toks LR a l){K:PT->Bool->Ts->Re β}(ho:nbR (ev s) K=some o){f:FuncId}{c:Cx}{az:List AV}(H:Xz M s f .nb l c az)
  (A:∀x p l' b k i q nm KK,bF n toks LR b l'->K x p l'=some o->l'.length<=l.length/\(p=true->l'.length<l.length)->jC x k i q nm KK->MP f (.own 0 0::az) [aZ LR a c] (.p (.tup [.agg [pI k,pS nm,pI i,pI q,KK],pB p])) [aZ LR b c]->G)
  (B:o=none/\MP f (.own 0 0::az) [aZ LR a c] (.p (.pan mN)) [none]->G):G:=by
 obtain⟨m,h1,h2,h3,h4,h5,h6⟩:=H
 rcases J0 (ih _ m) h1 h2 h3 h4 h5 h6 h ho with⟨x,p,l',b,k,i,q,nm,KK,k1,k2,k3,k4,k5⟩|k
 ·exact A x p l' b k i q nm KK k1 k2 k3 k4 k5
 ·exact B k
theorem kC(c:Cx)(h:bF n toks LR a l){X Y:Re β}(ho:(if sM l then X else Y)=some o)(A:X=some o->sM l=true->MP 34 [.own 0 0] [aZ LR a c] (.p (pB true)) [aZ LR a c]->G)(B:Y=some o->sM l=false->MP 34 [.own 0 0] [aZ LR a c] (.p (pB false)) [aZ LR a c]->G):G:=by
 rcases TZ h c ho with⟨k1,k2,k3⟩|⟨k1,k2,k3⟩
 ·exact A k1 k2 k3
 ·exact B k1 k2 k3
theorem kO(c:Cx)(h:bF n toks LR a l){w v:Bs}{X Y:Re β}(ho:(if aM l 0 w||aM l 0 v then X else Y)=some o)(A:X=some o->aM l 0 w=true->MP 31 [.own 0 0,.p (pI ((0:Nat):Nat)),.p (pS (bL w))] [aZ LR a c] (.p (pB true)) [aZ LR a c]->G)
  (B:X=some o->aM l 0 w=false->aM l 0 v=true->MP 31 [.own 0 0,.p (pI ((0:Nat):Nat)),.p (pS (bL w))] [aZ LR a c] (.p (pB false)) [aZ LR a c]->MP 31 [.own 0 0,.p (pI ((0:Nat):Nat)),.p (pS (bL v))] [aZ LR a c] (.p (pB true)) [aZ LR a c]->G)
  (C:Y=some o->aM l 0 w=false->aM l 0 v=false->MP 31 [.own 0 0,.p (pI ((0:Nat):Nat)),.p (pS (bL w))] [aZ LR a c] (.p (pB false)) [aZ LR a c]->MP 31 [.own 0 0,.p (pI ((0:Nat):Nat)),.p (pS (bL v))] [aZ LR a c] (.p (pB false)) [aZ LR a c]->G):G:=by
 rcases TD h w v c ho with⟨k1,k2,k3⟩|⟨k1,k2,k3,k4,k5⟩|⟨k1,k2,k3,k4,k5⟩
 ·exact A k1 k2 k3
 ·exact B k1 k2 k3 k4 k5
 ·exact C k1 k2 k3 k4 k5
theorem Uh(c:Cx)(h:bF n toks LR a l)(k:Nat)(hk:k<=1000000)(A:∀K T z,kd l k=K->bL (tx l k)=T->MP 30 [.own 0 0,.p (pI (k:Nat))] [aZ LR a c] (.p (.agg [pI K,pS T,pI z])) [aZ LR a c]->G):G:=by
 obtain⟨K,T,z,h1,h2,h3⟩:=B3 h k hk c;exact A K T z h1 h2 h3
theorem kF(c:Cx)(h:bF n toks LR a l):MP 29 [.own 0 0] [aZ LR a c] (.p (.pan mN)) [none]:=wB (vo LR a c)
theorem kA{E:SO}(hE:E=bG)(h:bF n toks LR a l)(hp:0<l.length)(A:∀b,bF n toks LR b (l.drop 1)->E.wadd .i64 a 1=b->(l.drop 1).length<l.length->G):G:=by
 obtain⟨b,h1,h2,h3,h4⟩:=h.next hp;exact A b h1 (zu hE h3 h4 h2) (by rw[zC];omega)
theorem wP{E:SO}(hE:E=bG){s:Bs}{F G:Int}(h:gF s 28 2=F)(hG:F+100=G):E.wadd .i64 F 100=G:=by
 have:=Ec s 28 2
 rw[h]at this;rw[hE,<- hG];exact jX oM oM
theorem tqT{E:SO}(hE:E=bG){s w:Bs}{T:ByteArray}(hT:bL s=T)(h:s=w):E.eq T (bL w)=true:=by rw[hE,<- hT];exact aA (aG bL h)
theorem tqF{E:SO}(hE:E=bG){s w:Bs}{T:ByteArray}(hT:bL s=T)(h:¬s=w):E.eq T (bL w)=false:=by rw[hE,<- hT];exact dF fun e=>h (ov e)
theorem kW{E:SO}(hE:E=bG)(c:Cx)(h:bF n toks LR a l){X Y:Re β}(ho:(if 0<je l then X else Y)=some o)(A:∀Q:Int,X=some o->E.lti 0 Q=true->MP 50 [.own 0 0] [aZ LR a c] (.p (pI Q)) [aZ LR a c]->G)(B:∀Q:Int,Y=some o->E.lti 0 Q=false->MP 50 [.own 0 0] [aZ LR a c] (.p (pI Q)) [aZ LR a c]->G):G:=by
 rcases Jh h c ho with⟨Q,k1,k2,k3⟩|⟨Q,k1,k2,k3⟩
 ·exact A Q k1 (by rw[hE];exact aA k2) k3
 ·exact B Q k1 (by rw[hE];exact dF k2) k3
theorem kdP{l:Ts}(h:¬kd l 0=0):0<l.length:=by
 cases l with
 |nil=>exact absurd rfl h
 |cons x l=>exact Nat.succ_pos _
theorem xks(l:Ts):List.drop 2 l=List.drop 1 (List.drop 1 l):=by rw[zD]
theorem TX(l:Ts):List.drop 3 l=List.drop 1 (List.drop 1 (List.drop 1 l)):=by rw[zD,zD]
theorem kQ(c:Cx)(h:bF n toks LR a l)(k:Nat)(hk:k<=1000000)(w:Bs)(A:aM l k w=true->k<l.length->MP 31 [.own 0 0,.p (pI (k:Nat)),.p (pS (bL w))] [aZ LR a c] (.p (pB true)) [aZ LR a c]->G)(B:aM l k w=false->k<=1000000->MP 31 [.own 0 0,.p (pI (k:Nat)),.p (pS (bL w))] [aZ LR a c] (.p (pB false)) [aZ LR a c]->G):G:=by
 cases hs:aM l k w with
 |true=>exact A hs (nZ hs) (PZ h k hk w c hs)
 |false=>exact B hs hk (PY h k hk w c hs)
theorem SR{a:Int}(h:bF n toks LR a l)(c:Cx)(hk:kd l 0=1):∃b T,bF n toks LR b (l.drop 1)/\bL (tx l 0)=T/\MP 57 [.own 0 0] [aZ LR a c] (.p (pS T)) [aZ LR b c]:=by
 rcases Sl h c with⟨b,h1,h2,h3⟩|⟨h1,h2⟩
 ·exact⟨b,_,h2,rfl,h3⟩
 ·exact absurd hk h1
def QC(c:Cx)(a b d:PT)(l:Ts):Re Rv:=fV eQ l fun l5=>ndR (ev (.body c l5)) fun s l6=>bY (.nd (nd 30 [a,b,d,s])) l6
def xh(c:Cx)(a b:PT)(l:Ts):Re Rv:=fV mO l fun l3=>if aM l3 0 eQ then ndR (ev (.body c (l3.drop 1))) fun s l5=>bY (.nd (nd 30 [a,b,nd 37 [],s])) l5 else ndR (ev (.assign c l3)) fun d l4=>QC c a b d l4
def QB(c:Cx)(a:PT)(l:Ts):Re Rv:=fV mO l fun l1=>if aM l1 0 mO then xh c a (nd 37 []) l1 else ndR (ev (.assign c l1)) fun b l2=>xh c a b l2
def FB(c:Cx)(l0:Ts):Re Rv:=if aM l0 0 yY||aM l0 0 pZ then ndR (ev (.decl c l0)) fun n l1=>QB c n l1 else if aM l0 0 mO then QB c (nd 37 []) l0 else ndR (ev (.assign c l0)) fun n l1=>QB c (nd 26 [n]) l1
def TK(c:Cx)(l0:Ts):Re Rv:=if(aM l0 0 yY||aM l0 0 pZ)&&(decide (kd l0 1=1)&&aM l0 2 wy)then(ndR (ev (.assign c (l0.drop 3))) fun e l1=>fV eQ l1 fun l2=>ndR (ev (.body c l2)) fun s l3=>bY (.nd (.mk 31 (tx l0 1) 0 (if aM l0 0 pZ then 2 else 1) [e,s])) l3)else FB c l0
theorem xfc{c:Cx}{a b:PT}{l:Ts}{o:Option (Rv×Ts)}(h:aM l 0 eQ=true)(ho:(ndR (ev (.body c (l.drop 1))) fun s l5=>bY (.nd (nd 30 [a,b,nd 37 [],s])) l5)=some o):QC c a b (nd 37 []) l=some o:=by
 unfold QC fV;rw[aF h];exact ho
theorem Sr:gO (nd 37 [])=[pI 37,pS ⟨#[]⟩,pI 0,pI 0,.v (.slice none 0 0)]:=rfl
theorem RN{x:PT}{r:List PV}(h:gO x=r):gO (nd 26 [x])=[pI 26,pS ⟨#[]⟩,pI 0,pI 0,.ro 5 [r]]:=by subst h;rfl
structure Kt(E:SO):Prop where
 n0:E.nat 0=0
 n1:E.nat 1=1
 n2:E.nat 2=2
 p0:E.ple 0 0
 p1:E.ple 0 1
 p2:E.ple 0 2
 q0:E.plt 0 3
 q1:E.plt 1 3
 q2:E.plt 2 3
 w0:∀x y z v:List PV,E.put [x,y,z] 0 v=[v,y,z]
 w1:∀x y z v:List PV,E.put [x,y,z] 1 v=[x,v,z]
 w2:∀x y z v:List PV,E.put [x,y,z] 2 v=[x,y,v]
 a4:∀x y z v:List PV,E.app [x,y,z] 3 [v]=[x,y,z,v]
 s4:∀x y z v:List PV,E.sub [x,y,z,v] 0 4=[x,y,z,v]
 n4:E.addN 3 1=4
 m0:E.addN 0 0=0
 m1:E.addN 0 1=1
 m2:E.addN 0 2=2
 o3:E.ofN 3=3
theorem KU{E:SO}(hE:E=bG):Kt E:=by
 subst hE;exact⟨rfl,rfl,rfl,bT 0,(by decide:(0:Int)<=1),(by decide:(0:Int)<=2),(by decide:(0:Int)<3),(by decide:(1:Int)<3),(by decide:(2:Int)<3),fun _ _ _ _=>rfl,fun _ _ _ _=>rfl,fun _ _ _ _=>rfl,fun _ _ _ _=>rfl,fun _ _ _ _=>rfl,rfl,rfl,rfl,rfl,rfl⟩
theorem kNm(c:Cx)(h:bF n toks LR a l){K:Bs->Ts->Re β}(ho:rC l K=some o)(A:∀b T,bF n toks LR b (l.drop 1)->K (tx l 0) (l.drop 1)=some o->(l.drop 1).length<l.length->bL (tx l 0)=T->MP 57 [.own 0 0] [aZ LR a c] (.p (pS T)) [aZ LR b c]->G)
  (B:o=none/\MP 57 [.own 0 0] [aZ LR a c] (.p (.pan mN)) [none]->G):G:=by
 rcases IB h c ho with⟨b,T,k1,k2,k3,k4,k5⟩|k
 ·exact A b T k1 k2 k3 k4 k5
 ·exact B k
theorem Ix{E:SO}(hE:E=bG):E.ofN 1=1:=fH
theorem Iw{E:SO}(hE:E=bG):E.ofN 2=2:=fH
theorem Iu{E:SO}(hE:E=bG):E.ofN 3=3:=fH
theorem J5{l:Ts}{a:Int}(h:bF n toks LR a (l.drop 1)):(l.drop 1).length<=l.length:=by rw[zC];omega
theorem Is{x:PT}{X Y:Re β}(ho:(if [x].length=1 then X else Y)=some o):X=some o:=ho
theorem Ir{x y:PT}{X Y:Re β}(ho:(if [x,y].length=1 then X else Y)=some o):Y=some o:=ho
theorem kZ{E:SO}(hE:E=bG){M:Int}(lU:((toks.length:Nat):Int)=M)(h:bF n toks LR a l){X Y:Re β}(ho:(if l=[]then X else Y)=some o)(A:X=some o->E.lei M a=true->G)(B:Y=some o->0<l.length->E.lei M a=false->G):G:=by
 have h1:=h.h1
 rcases kt ho with⟨k1,k2⟩|⟨k1,k2⟩
 ·exact A k2 (by rw[hE];rw[k1]at h1;exact aA (by simp at h1;omega))
 ·have:=aS.2 k1
  exact B k2 this sE
theorem xl{E:SO}(hE:E=bG){R:List (List PV)}{N:Nat}(hN:R.length=N)(hz:N<=1000000)(row:List PV):∃R2 N2,R++[row]=R2/\N+1=N2/\GB E R N row R2 N2:=⟨_,_,rfl,rfl,j4 hE hN (aR hz aN) rfl rfl⟩
end
theorem QW{p:Prop} (h:p:=by
 (first|(refine .y hM kz.2 ?_;cbv)|(have hk:=kz.2;simp only[aZ,Sy.c,eb]at hk;refine .y hM hk ?_;cbv))
 have e0:=kz.1;subst e0;cbv;all_goals trivial):p:=h
theorem tEz{p:Prop} (h:p:=by
 refine Or.inr ?_;refine .mk [0] _ _ _ _ (hM _ _ _ _ _ kz.2) rfl rfl rfl _ rfl ?_;cbv;have e0:=kz.1;subst e0;exact jm):p:=h
theorem Bf{p:Prop}(h:p:=by first|(simp only[Sy.meas,Sy.l,Sy.rank,zC];omega)|(simp only[Sy.meas,Sy.l,Sy.rank];omega)|(simp[Sy.meas,Sy.l,Sy.rank];done)|(simp[Sy.meas,Sy.l,Sy.rank];omega)):p:=h
theorem tPz{p:Prop}(h:p:=by first|exact nZ hi|exact lO hi aN|omega|(simp only[zC];omega)):p:=h
theorem x4{p:Prop}(h:p:=by first|omega|(dsimp only;omega)|(simp only[zC];omega)):p:=h
theorem Hx{p:Prop}(h:p:=by first|rfl|exact Jb hi):p:=h
theorem tFz{p:Prop} (hp:p:=by
 have e0:=zj ho;subst e0;have hk:=kF c h
 (first|(refine .y hM hk ?_;cbv)|(have hk:=hk;simp only[aZ,Sy.c,eb]at hk;refine .y hM hk ?_;cbv))
 all_goals trivial):p:=hp
theorem U6{p:Prop} (hp:p:=by
 have e0:=sC ho;subst e0;simp only[h.place,nd,eD,gC,gO,mM,eU,qD,tB]
 try simp only[hv.row]
 try simp only[jY.row]
 try simp only[zL.row]
 try simp only[hT]
 try simp only[hF.1]
 try simp only[hG]
 try simp only[Yg,tE,qz]
 try simp only[g6]
 exact Xo):p:=hp
theorem tTz{p:Prop} (hp:p:=by
 subst he;simp only[h.place,hv.row];exact Xo):p:=hp
theorem ax{p:Prop} (hp:p:=by
 have on1:=Ix hE;have on2:=Iw hE;have on3:=Iu hE;cbv
 repeat' (first
  |(first|(simp only[on1,on2,on3];cbv)|(simp only[ok];cbv)|(simp only[ok2];cbv)|(simp only[ok3];cbv)|(simp only[ek];cbv)|(simp only[ek2];cbv)|(simp only[ek3];cbv)|(simp only[hw];cbv)|(simp only[eb];cbv)|(simp only[fO.s1,fO.s2,fO.s3];cbv)|(simp only[fO.a2,fO.a3,fO.n2,fO.n3];cbv)|(refine⟨(fO.room _ _ _ aN aN),?_⟩;cbv)|(refine⟨(fO.pre _ _ rfl),?_⟩;cbv)|(simp only[fP.n0,fP.n1,fP.n2,fP.m0,fP.m1,fP.m2,fP.w0,fP.w1,fP.w2,fP.a4,fP.s4,fP.n4,fP.o3];cbv)|(refine⟨_,rfl,nR 5,?_⟩;cbv)|(refine⟨fP.p0,?_⟩;cbv)|(refine⟨fP.p1,?_⟩;cbv)|(refine⟨fP.p2,?_⟩;cbv)|(refine⟨fP.q0,?_⟩;cbv)|(refine⟨fP.q1,?_⟩;cbv)|(refine⟨fP.q2,?_⟩;cbv)|(simp only[l0];cbv)|(simp only[fA.add,fA.app,fA.sub];cbv)|(simp only[fB6];cbv)|(refine⟨fA.pre,fA.room,?_⟩;cbv)|(refine⟨fA.pre,?_⟩;cbv)|(refine⟨fA.room,?_⟩;cbv)|(refine⟨fB5,?_⟩;cbv))
  |exact U6
  |exact tTz
  |(have h:=h;rw[zD]at h;exact U6)
  |exact tFz
  |exact .mk (_,_) r5 ⟨h,ho,x4⟩
  |exact .mk (_,_,_,_) r5 ⟨h,xfc hi ho,x4,Sr⟩
  |exact .mk (_,_,_,_) r5 ⟨h,ho,x4,hv.row⟩
  |exact .mk (_,_,_,_) r5 ⟨h,ho,x4,Sr⟩
  |exact .mk (_,_,_,_) r5 ⟨h,ho,x4,RN hv.row⟩
  |exact .mk (_,_,[x],_,1) r5 ⟨h,ho,x4,by rw[eU,eU,hv.row],rfl⟩ (by rw[hμ,hμ];exact x4)
  |exact .mk (_,_,y::ys++[x],R2,N2) r5 ⟨h,ho,x4,by rw[pj,g4,eU,eU,hv.row];exact cW,by dsimp only;rw[<-cW,sD,g5];exact fZ⟩ (by rw[hμ,hμ];exact x4)
  |(refine kZ hE lU h ho (fun ho ek=>?_) (fun ho hl ek=>?_)<;>(simp only[ek];cbv))
  |(refine kN c h ho (fun b h ho hl hk=>?_) (fun kz=>QW)
    (first|(refine .y hM hk ?_;cbv)|(have hk:=hk;simp only[aZ,Sy.c,eb]at hk;refine .y hM hk ?_;cbv)))
  |(refine kNm c h ho (fun b T h ho hl hT hk=>?_) (fun kz=>QW)
    (first|(refine .y hM hk ?_;cbv)|(have hk:=hk;simp only[aZ,Sy.c,eb]at hk;refine .y hM hk ?_;cbv)))
  |(refine kT c h ho (fun b h ho hl hk=>?_) (fun ho hk=>?_)<;>((first|(refine .y hM hk ?_;cbv)|(have hk:=hk;simp only[aZ,Sy.c,eb]at hk;refine .y hM hk ?_;cbv))))
  |(refine kI c h aN ho (fun ho hi hl hk=>?_) (fun ho hi hk=>?_)<;>((first|(refine .y hM hk ?_;cbv)|(have hk:=hk;simp only[aZ,Sy.c,eb]at hk;refine .y hM hk ?_;cbv))))
  |(refine kC c h ho (fun ho hi hk=>?_) (fun ho hi hk=>?_)<;>((first|(refine .y hM hk ?_;cbv)|(have hk:=hk;simp only[aZ,Sy.c,eb]at hk;refine .y hM hk ?_;cbv))))
  |(refine kW hE c h ho (fun Q ho ek hk=>?_) (fun Q ho ek hk=>?_)<;>((first|(refine .y hM hk ?_;cbv)|(have hk:=hk;simp only[aZ,Sy.c,eb]at hk;refine .y hM hk ?_;cbv))))
  |(refine kO c h ho (fun ho hi hk=>?_) (fun ho hi hi hk yR=>?_) (fun ho hi hi hk yR=>?_)<;>((first|(refine .y hM hk ?_;cbv)|(have hk:=hk;simp only[aZ,Sy.c,eb]at hk;refine .y hM hk ?_;cbv));(repeat (first|(simp only[on1,on2,on3];cbv)|(simp only[ok];cbv)|(simp only[ok2];cbv)|(simp only[ok3];cbv)|(simp only[ek];cbv)|(simp only[ek2];cbv)|(simp only[ek3];cbv)|(simp only[hw];cbv)|(simp only[eb];cbv)|(simp only[fO.s1,fO.s2,fO.s3];cbv)|(simp only[fO.a2,fO.a3,fO.n2,fO.n3];cbv)|(refine⟨(fO.room _ _ _ aN aN),?_⟩;cbv)|(refine⟨(fO.pre _ _ rfl),?_⟩;cbv)|(simp only[fP.n0,fP.n1,fP.n2,fP.m0,fP.m1,fP.m2,fP.w0,fP.w1,fP.w2,fP.a4,fP.s4,fP.n4,fP.o3];cbv)|(refine⟨_,rfl,nR 5,?_⟩;cbv)|(refine⟨fP.p0,?_⟩;cbv)|(refine⟨fP.p1,?_⟩;cbv)|(refine⟨fP.p2,?_⟩;cbv)|(refine⟨fP.q0,?_⟩;cbv)|(refine⟨fP.q1,?_⟩;cbv)|(refine⟨fP.q2,?_⟩;cbv)|(simp only[l0];cbv)|(simp only[fA.add,fA.app,fA.sub];cbv)|(simp only[fB6];cbv)|(refine⟨fA.pre,fA.room,?_⟩;cbv)|(refine⟨fA.pre,?_⟩;cbv)|(refine⟨fA.room,?_⟩;cbv)|(refine⟨fB5,?_⟩;cbv)));(first|(have hk:=yR;(first|(refine .y hM hk ?_;cbv)|(have hk:=hk;simp only[aZ,Sy.c,eb]at hk;refine .y hM hk ?_;cbv)))|skip)))
  |(try have zL:=jY
    try have jY:=hv
    try have ok3:=ok2
    try have ok2:=ok
    refine kD ih h ho ⟨Bf,Hx,rfl,rfl,rfl,rfl,rfl⟩ (fun x l b k i q nm KK h ho hl hv hk=>?_) (fun kz=>QW)
    (first|(refine .y hM hk ?_;cbv)|(have hk:=hk;simp only[aZ,Sy.c,eb]at hk;refine .y hM hk ?_;cbv))
    have ok:=hv.one;cbv at ok
    try (refine xE (xl hE g5 gz [pI k,pS nm,pI i,pI q,KK]) fun R2 r=>xE r fun N2 r=>?_;have cW:=r.1;have fZ:=r.2.1;have fA:=r.2.2))
  |(try have zL:=jY
    try have jY:=hv
    try have ok3:=ok2
    try have ok2:=ok
    refine kD ih h ho ⟨Bf,Hx,rfl,rfl,rfl,rfl,rfl⟩ (fun x l b k i q nm KK h ho hl hv hk=>?_) (fun kz=>tEz)
    refine Or.inl ?_;refine⟨.mk trivial,?_⟩;refine .mk [0] _ _ _ _ (hM _ _ _ _ _ hk) rfl rfl rfl rfl ?_;cbv;have ok:=hv.one;cbv at ok
    try (refine xE (xl hE g5 gz [pI k,pS nm,pI i,pI q,KK]) fun R2 r=>xE r fun N2 r=>?_;have cW:=r.1;have fZ:=r.2.1;have fA:=r.2.2))
  |(refine⟨.mk wC,?_⟩;cbv)
  |(refine kE ih h ho Bf rfl rfl rfl rfl rfl (fun x l b k i q nm KK h he hv hk=>?_) (fun kz=>QW)
    (first|(refine .y hM hk ?_;cbv)|(have hk:=hk;simp only[aZ,Sy.c,eb]at hk;refine .y hM hk ?_;cbv))
    have ok:=hv.one;cbv at ok
    try (refine xE (xl hE g5 gz [pI k,pS nm,pI i,pI q,KK]) fun R2 r=>xE r fun N2 r=>?_;have cW:=r.1;have fZ:=r.2.1;have fA:=r.2.2))
  |(try have zL:=jY
    try have jY:=hv
    try have ok3:=ok2
    try have ok2:=ok
    refine kB ih h ho ⟨Bf,Hx,rfl,rfl,rfl,rfl,rfl⟩ (fun x p l b k i q nm KK h ho hl hv hk=>?_) (fun kz=>QW)
    (first|(refine .y hM hk ?_;cbv)|(have hk:=hk;simp only[aZ,Sy.c,eb]at hk;refine .y hM hk ?_;cbv))
    have ok:=hv.one;cbv at ok
    try (refine xE (xl hE g5 gz [pI k,pS nm,pI i,pI q,KK]) fun R2 r=>xE r fun N2 r=>?_;have cW:=r.1;have fZ:=r.2.1;have fA:=r.2.2))
  |(refine Uh c h 0 aN (fun K T z hp hT hk=>?_)
    (first|(refine .y hM hk ?_;cbv)|(have hk:=hk;simp only[aZ,Sy.c,eb]at hk;refine .y hM hk ?_;cbv)))
  |(refine oE (SH ho) (fun hq=>?_) (fun hq=>oE hq (fun hq=>?_) (fun hq=>?_))<;>(have ho:=hq.1;(first|(have ek:=dF hq.2.1;(first|have ek2:=dF hq.2.2|(have ek2:=aA hq.2.2;have nv:=lO hq.2.2 aN));rw[hp]at ek ek2)|(have ek:=aA hq.2;have nv:=lO hq.2 aN;rw[hp]at ek));cbv))
  |(refine oE (Iq ho) (fun hq=>?_) (fun hq=>oE hq (fun hq=>?_) (fun hq=>?_))<;>(have ho:=hq.1;(first|have nv:=kdP hq.2.1|skip);(first|(have ek:=dF hq.2.1;(first|have ek2:=dF hq.2.2|have ek2:=aA hq.2.2);rw[hp]at ek ek2)|(have ek:=aA hq.2;rw[hp]at ek));cbv))
  |(refine oE (Hd ho) (fun hq=>?_) (fun hq=>?_)<;>(have ho:=hq.1;have tk:=nK (zyv x hv);rw[hq.2]at tk;refine⟨_,hc _ _ _ tk,?_⟩;cbv))
  |(refine oE (Hd ho) (fun hq=>?_) (fun hq=>?_)<;>(have eb:=hq.2;have ho:=hq.1;(first|(subst eb;cbv)|(simp only[eb];cbv))))
  |(refine oE (UN ho) (fun hq=>?_) (fun hq=>oE hq (fun hq=>?_) (fun hq=>oE hq (fun hq=>?_) (fun hq=>?_)))<;>(have ho:=hq.1;have bi:=hv.kind;(first|(have ek:=aA hq.2.1;have ek2:=dF hq.2.2.1;(first|have ek3:=dF hq.2.2.2|have ek3:=aA hq.2.2.2);rw[bi]at ek2 ek3;rw[hF.1]at ek)|(have ek:=aA hq.2.1;have ek2:=aA hq.2.2;rw[bi]at ek2;rw[hF.1]at ek)|(have ek:=dF hq.2;rw[hF.1]at ek));cbv))
  |(refine oE (kt ho) (fun hq=>?_) (fun hq=>?_)<;>(have ho:=hq.2;(first|have ek:=tqT hE hT hq.1|have ek:=tqF hE hT hq.1);cbv at ek;cbv))
  |(refine oE (kt ho) (fun hq=>?_) (fun hq=>?_)<;>(have ho:=hq.2;(first|have ek:=aA (mJ.1 hq.1)|have ek:=dF hq.1|have ek:=aA hq.1);(first|rw[hp]at ek|rw[hF.1]at ek);(first|have nv:=lO hq.1 aN|skip);(first|(simp only[ek];cbv)|(cbv;simp only[ek];cbv))))
  |(refine kA hE h tPz (fun b h ha hl=>?_);simp only[ha];cbv)
  |(refine xE (PI _ hT 28 2 aN aN 28 29 rfl aN) fun F hF=>?_;refine xE (⟨_,rfl⟩:∃G,F+100=G) fun G hG=>?_;have hw:=wP hE hF.1 hG;refine⟨_,hc _ _ _ hF.2,?_⟩;cbv)
  |(refine xE (PI _ hT 1 5 aN aN 1 5 rfl aN) fun F hF=>?_;refine⟨_,hc _ _ _ hF.2,?_⟩;cbv)
  |(refine xE (PI _ hT 24 4 aN aN 24 27 rfl aN) fun F hF=>?_;refine⟨_,hc _ _ _ hF.2,?_⟩;cbv)
  |(refine kQ c h 0 aN yY (fun hi hj hk=>?_) (fun hi hj hk=>?_)<;>(rw[hi]at ho;(try simp only[dP,bI,bO,cH,fW,yU,mK,kK,aK,eE,bN,t7,kh]at ho);(first|(refine .y hM hk ?_;cbv)|(have hk:=hk;simp only[aZ,Sy.c,eb]at hk;refine .y hM hk ?_;cbv))))
  |(have hk:=PZ h 0 aN yY c jO;(first|(refine .y hM hk ?_;cbv)|(have hk:=hk;simp only[aZ,Sy.c,eb]at hk;refine .y hM hk ?_;cbv)))
  |(have hk:=PY h 0 aN yY c jO;(first|(refine .y hM hk ?_;cbv)|(have hk:=hk;simp only[aZ,Sy.c,eb]at hk;refine .y hM hk ?_;cbv)))
  |(refine kQ c h 0 aN pZ (fun hi hj hk=>?_) (fun hi hj hk=>?_)<;>(rw[hi]at ho;(try simp only[dP,bI,bO,cH,fW,yU,mK,kK,aK,eE,bN,t7,kh]at ho);(first|(refine .y hM hk ?_;cbv)|(have hk:=hk;simp only[aZ,Sy.c,eb]at hk;refine .y hM hk ?_;cbv))))
  |(have hk:=PZ h 0 aN pZ c jO;(first|(refine .y hM hk ?_;cbv)|(have hk:=hk;simp only[aZ,Sy.c,eb]at hk;refine .y hM hk ?_;cbv)))
  |(have hk:=PY h 0 aN pZ c jO;(first|(refine .y hM hk ?_;cbv)|(have hk:=hk;simp only[aZ,Sy.c,eb]at hk;refine .y hM hk ?_;cbv)))
  |(refine kQ c h 2 aN wy (fun hi hj hk=>?_) (fun hi hj hk=>?_)<;>(rw[hi]at ho;(try simp only[dP,bI,bO,cH,fW,yU,mK,kK,aK,eE,bN,t7,kh]at ho);(first|(refine .y hM hk ?_;cbv)|(have hk:=hk;simp only[aZ,Sy.c,eb]at hk;refine .y hM hk ?_;cbv))))
  |(have hk:=PZ h 2 aN wy c jO;(first|(refine .y hM hk ?_;cbv)|(have hk:=hk;simp only[aZ,Sy.c,eb]at hk;refine .y hM hk ?_;cbv)))
  |(have hk:=PY h 2 aN wy c jO;(first|(refine .y hM hk ?_;cbv)|(have hk:=hk;simp only[aZ,Sy.c,eb]at hk;refine .y hM hk ?_;cbv)))
  |(refine Uh c h 1 aN (fun K T z hp hT hk=>?_)
    (first|(refine .y hM hk ?_;cbv)|(have hk:=hk;simp only[aZ,Sy.c,eb]at hk;refine .y hM hk ?_;cbv)))
  |(refine oE (dV (K=1)) (fun hq=>?_) (fun hq=>?_)<;>((first|have ek:=dF hq|have ek:=aA hq);rw[hp,ek]at ho;(try simp only[dP,bI,bO,cH,fW,yU,mK,kK,aK,eE,bN,t7,kh]at ho);(first|(simp only[ek];cbv)|(cbv;simp only[ek];cbv)|(rw[ek];cbv))))
  |(refine xE (SR h c ((R1 _ 1 0).trans (hp.trans hq))) fun b k=>xE k fun T k=>?_
    have h:=k.1;have hT:=k.2.1;have hl:=J5 h;rw[Rs]at hT;have hk:=k.2.2
    (first|(refine .y hM hk ?_;cbv)|(have hk:=hk;simp only[aZ,Sy.c,eb]at hk;refine .y hM hk ?_;cbv)))
  |(have ho:=Is ho)
  |(have ho:=Ir ho)
  |(rw[<-R1 _ 1 0,<- Rs _ 1 0]at ho)
  |(rw[<-z9r _ 1 0]at ho)
  |(rw[xks]at ho)
  |(rw[TX]at ho)
  |(refine xE (SN h _ c hi) fun b k=>?_;have h:=k.1;have hk:=k.2;(first|(refine .y hM hk ?_;cbv)|(have hk:=hk;simp only[aZ,Sy.c,eb]at hk;refine .y hM hk ?_;cbv)))
  |(have hk:=PZ h 0 aN _ c hi;(first|(refine .y hM hk ?_;cbv)|(have hk:=hk;simp only[aZ,Sy.c,eb]at hk;refine .y hM hk ?_;cbv));rw[hi]at ho;simp only[eE]at ho)
  |(have hk:=PY h 0 aN jc c (T7 hi aN);(first|(refine .y hM hk ?_;cbv)|(have hk:=hk;simp only[aZ,Sy.c,eb]at hk;refine .y hM hk ?_;cbv));rw[T7 hi (show n5≠jc by decide)]at ho;simp only[aK,bN]at ho)
  |(unfold pa at ho)
  |(refine .mk _ _ (ar (k:=4) (j:=4) (l:=5) (n:=1) rfl rfl rfl (nR _) rfl) ?_;cbv)
  |(unfold wc at ho))):p:=hp
section
variable{n:Int}{toks:List Tk}{LR:List (List PV)}{l:Ts}
theorem zwq{c:Cx}(ih:∀s':Sy,s'.meas<(Sy.condn c l).meas->iI n toks LR s'):iI n toks LR (.condn c l):=by
 intro f hf a h o ho
 cases hf
 rw[mU]at ho;change tw ev c l=some o at ho;unfold tw at ho;change bF n toks LR a l at h;show MP _ (.own 0 0::[]) [aZ LR a c] (iO o) (iG toks LR c o);refine iD aU (f:=60) Tryz.func60 rfl kR (oT kR) fun tags cC=>?_
 match tags,cC with
 |[t0],_=>
  refine aY.ofM aU mixed (fun _=>0) (fun _=>[]) (fun _ _=>0) kR (fun E=>fI E cO Tryz.f60.results.toList [t0] (iO o) (iG toks LR c o)) fun P G E hc hM hE=>?_
  have fO:=iQ hE;exact ax
theorem z0o{c:Cx}(ih:∀s':Sy,s'.meas<(Sy.cond c l).meas->iI n toks LR s'):iI n toks LR (.cond c l):=by
 intro f hf a h o ho
 cases hf
 rw[mU]at ho;change DE ev c l=some o at ho;unfold DE at ho;change bF n toks LR a l at h;show MP _ (.own 0 0::[]) [aZ LR a c] (iO o) (iG toks LR c o);refine iD aU (f:=52) Tryz.func52 rfl kR (oT kR) fun tags cC=>?_
 match tags,cC with
 |[t0],_=>
  refine aY.ofM aU mixed (fun n=>match n with|6=>4|_=>0) (fun n=>match n with|6=>[3]|_=>[]) (fun n i=>match n,i with|6,3=>1|_,_=>0) kR (fun E=>fI E cO Tryz.f52.results.toList [t0] (iO o) (iG toks LR c o)) fun P G E hc hM hE=>?_
  have fO:=iQ hE;exact ax
theorem zwc{c:Cx}(ih:∀s':Sy,s'.meas<(Sy.inner c l).meas->iI n toks LR s'):iI n toks LR (.inner c l):=by
 intro f hf a h o ho
 cases hf
 rw[mU]at ho;change DR ev c l=some o at ho;unfold DR at ho;change bF n toks LR a l at h;show MP _ (.own 0 0::[]) [aZ LR a c] (iO o) (iG toks LR c o);refine iD aU (f:=61) Tryz.func61 rfl kR (oT kR) fun tags cC=>?_
 match tags,cC with
 |[t0],_=>
  refine aY.ofM aU mixed (fun _=>0) (fun _=>[]) (fun _ _=>0) kR (fun E=>fI E cO Tryz.f61.results.toList [t0] (iO o) (iG toks LR c o)) fun P G E hc hM hE=>?_
  have fO:=iQ hE;exact ax
theorem z0v{c:Cx}(ih:∀s':Sy,s'.meas<(Sy.body c l).meas->iI n toks LR s'):iI n toks LR (.body c l):=by
 intro f hf a h o ho
 cases hf
 rw[mU]at ho;change CT ev c l=some o at ho;unfold CT at ho;change bF n toks LR a l at h;show MP _ (.own 0 0::[]) [aZ LR a c] (iO o) (iG toks LR c o);refine iD aU (f:=62) Tryz.func62 rfl kR (oT kR) fun tags cC=>?_
 match tags,cC with
 |[t0],_=>
  refine aY.ofM aU mixed (fun _=>0) (fun _=>[]) (fun _ _=>0) kR (fun E=>fI E cO Tryz.f62.results.toList [t0] (iO o) (iG toks LR c o)) fun P G E hc hM hE=>?_
  have fO:=iQ hE;exact ax
theorem zy0{c:Cx}(ih:∀s':Sy,s'.meas<(Sy.stmt c l).meas->iI n toks LR s'):iI n toks LR (.stmt c l):=by
 intro f hf a h o ho
 cases hf
 rw[mU]at ho;change vq ev c l=some o at ho;unfold vq at ho;change bF n toks LR a l at h;show MP _ (.own 0 0::[]) [aZ LR a c] (iO o) (iG toks LR c o);refine iD aU (f:=13) Tryz.func13 rfl kR (oT kR) fun tags cC=>?_
 match tags,cC with
 |[t0],_=>
  refine aY.ofM aU mixed (fun _=>0) (fun _=>[]) (fun _ _=>0) kR (fun E=>fI E cO Tryz.f13.results.toList [t0] (iO o) (iG toks LR c o)) fun P G E hc hM hE=>?_
  have fO:=iQ hE;exact ax
theorem zvv{c:Cx}(ih:∀s':Sy,s'.meas<(Sy.postf c l).meas->iI n toks LR s'):iI n toks LR (.postf c l):=by
 intro f hf a h o ho
 cases hf
 rw[mU]at ho;change AE ev c l=some o at ho;unfold AE at ho;change bF n toks LR a l at h;show MP _ (.own 0 0::[]) [aZ LR a c] (iO o) (iG toks LR c o);refine iD aU (f:=127) Tryz.func127 rfl kR (oT kR) fun tags cC=>?_
 match tags,cC with
 |[t0],_=>
  refine aY.ofM aU mixed (fun _=>0) (fun _=>[]) (fun _ _=>0) kR (fun E=>fI E cO Tryz.f127.results.toList [t0] (iO o) (iG toks LR c o)) fun P G E hc hM hE=>?_
  have fO:=iQ hE;exact ax
theorem zu9{c:Cx}(ih:∀s':Sy,s'.meas<(Sy.unary c l).meas->iI n toks LR s'):iI n toks LR (.unary c l):=by
 intro f hf a h o ho
 cases hf
 rw[mU]at ho;change pg ev c l=some o at ho;unfold pg at ho;change bF n toks LR a l at h;show MP _ (.own 0 0::[]) [aZ LR a c] (iO o) (iG toks LR c o);refine iD aU (f:=111) Tryz.func111 rfl kR (oT kR) fun tags cC=>?_
 match tags,cC with
 |[t0],_=>
  refine aY.ofM aU mixed (fun _=>0) (fun _=>[]) (fun _ _=>0) kR (fun E=>fI E cO Tryz.f111.results.toList [t0] (iO o) (iG toks LR c o)) fun P G E hc hM hE=>?_
  have fO:=iQ hE;exact ax
theorem zz8{c:Cx}(ih:∀s':Sy,s'.meas<(Sy.keyw c l).meas->iI n toks LR s'):iI n toks LR (.keyw c l):=by
 intro f hf a h o ho
 cases hf
 rw[mU]at ho;change wX ev c l=some o at ho;unfold wX at ho;change bF n toks LR a l at h;show MP _ (.own 0 0::[]) [aZ LR a c] (iO o) (iG toks LR c o);refine iD aU (f:=38) Tryz.func38 rfl kR (oT kR) fun tags cC=>?_
 match tags,cC with
 |[t0],_=>
  refine aY.ofM aU mixed (fun n=>match n with|4=>5|8=>3|_=>0) (fun n=>match n with|4=>[3]|8=>[2]|_=>[]) (fun n i=>match n,i with|4,3=>1|4,4=>1|8,2=>1|_,_=>0) kR (fun E=>fI E cO Tryz.f38.results.toList [t0] (iO o) (iG toks LR c o)) fun P G E hc hM hE=>?_
  have fO:=iQ hE;exact ax
theorem zui{c:Cx}(ih:∀s':Sy,s'.meas<(Sy.assign c l).meas->iI n toks LR s'):iI n toks LR (.assign c l):=by
 intro f hf a h o ho
 cases hf
 rw[mU]at ho;change wo ev c l=some o at ho;unfold wo at ho;change bF n toks LR a l at h;show MP _ (.own 0 0::[]) [aZ LR a c] (iO o) (iG toks LR c o);refine iD aU (f:=25) Tryz.func25 rfl kR (oT kR) fun tags cC=>?_
 match tags,cC with
 |[t0],_=>
  refine aY.ofM aU mixed (fun n=>match n with|18=>5|_=>0) (fun n=>match n with|18=>[3]|_=>[]) (fun n i=>match n,i with|18,3=>1|18,4=>1|_,_=>0) kR (fun E=>fI E cO Tryz.f25.results.toList [t0] (iO o) (iG toks LR c o)) fun P G E hc hM hE=>?_
  have fO:=iQ hE;exact ax
theorem zwl{c:Cx}(ih:∀s':Sy,s'.meas<(Sy.field c l).meas->iI n toks LR s'):iI n toks LR (.field c l):=by
 intro f hf a h o ho
 cases hf
 rw[mU]at ho;change AA ev c l=some o at ho;unfold AA at ho;change bF n toks LR a l at h;show MP _ (.own 0 0::[]) [aZ LR a c] (iO o) (iG toks LR c o);refine iD aU (f:=174) Tryz.func174 rfl kR (oT kR) fun tags cC=>?_
 match tags,cC with
 |[t0],_=>
  refine aY.ofM aU mixed (fun n=>match n with|5=>3|11=>5|_=>0) (fun n=>match n with|5=>[2]|11=>[3]|_=>[]) (fun n i=>match n,i with|5,2=>1|11,3=>1|11,4=>1|_,_=>0) kR (fun E=>fI E cO Tryz.f174.results.toList [t0] (iO o) (iG toks LR c o)) fun P G E hc hM hE=>?_
  have fO:=iQ hE;exact ax
theorem zz4{c:Cx}{x:PT}(ih:∀s':Sy,s'.meas<(Sy.link x c l).meas->iI n toks LR s'):iI n toks LR (.link x c l):=by
 intro f hf a h o ho
 cases hf
 rw[mU]at ho;change zv ev x c l=some o at ho;unfold zv at ho;change bF n toks LR a l at h;show MP _ (.own 0 0::[.p (.agg (gO x))]) [aZ LR a c] (iO o) (iG toks LR c o);obtain⟨k0,i0,m0,nm0,KK0,hv⟩:=zp x;rw[hv.row];have ok:=hv.one;cbv at ok;refine iD aU (f:=153) Tryz.func153 rfl kR (oT kR) fun tags cC=>?_
 match tags,cC with
 |[t0],_=>
  refine aY.ofM aU mixed (fun _=>0) (fun _=>[]) (fun _ _=>0) kR (fun E=>fI E cO Tryz.f153.results.toList [t0] (iO o) (iG toks LR c o)) fun P G E hc hM hE=>?_
  have fO:=iQ hE;exact ax
theorem zyt{c:Cx}(ih:∀s':Sy,s'.meas<(Sy.tryS c l).meas->iI n toks LR s'):iI n toks LR (.tryS c l):=by
 intro f hf a h o ho
 cases hf
 rw[mU]at ho;change tb ev c l=some o at ho;unfold tb at ho;change bF n toks LR a l at h;show MP _ (.own 0 0::[]) [aZ LR a c] (iO o) (iG toks LR c o);refine iD aU (f:=64) Tryz.func64 rfl kR (oT kR) fun tags cC=>?_
 match tags,cC with
 |[t0],_=>
  refine aY.ofM aU mixed (fun n=>match n with|10=>5|_=>0) (fun n=>match n with|10=>[3]|8=>[0]|_=>[]) (fun n i=>match n,i with|10,3=>1|10,4=>1|_,_=>0) kR (fun E=>fI E cO Tryz.f64.results.toList [t0] (iO o) (iG toks LR c o)) fun P G E hc hM hE=>?_
  have fO:=iQ hE;exact ax
theorem zv1{c:Cx}(ih:∀s':Sy,s'.meas<(Sy.loops c l).meas->iI n toks LR s'):iI n toks LR (.loops c l):=by
 intro f hf a h o ho
 cases hf
 rw[mU]at ho;change wa ev c l=some o at ho;unfold wa at ho;change bF n toks LR a l at h;show MP _ (.own 0 0::[]) [aZ LR a c] (iO o) (iG toks LR c o);refine iD aU (f:=63) Tryz.func63 rfl kR (oT kR) fun tags cC=>?_
 match tags,cC with
 |[t0],_=>
  refine aY.cutKM 2 113 [0,2] 2 (fun x:Int×Ts=>[.own 0 0,.own 1 0]) (fun x=>[some (.box [.p (.ro 3 LR),.p (pI x.1),.p (pB c.fn),.p (pB c.lp),.p (pB c.gn),.p (pB c.as_)] 39 (some t0)),some (.box [.p (pI 0),.p (pS ⟨#[]⟩),.p (pI 0),.p (pI 0),.p (.v (.slice none 0 0))] 25 none)]) (fun x=>bF n toks LR x.1 x.2/\TK c x.2=some o/\x.2.length<l.length) aU mixed (fun _=>0) (fun _=>[]) (fun _ _=>0) (fun E=>fI E cO Tryz.f63.results.toList [t0] (iO o) (iG toks LR c o)) kR (fun P G E hc hM hE=>?_) ?_
  case' refine_1=>
   have fO:=iQ hE;have fP:=KU hE;exact ax
  rintro⟨a0,l0⟩ ⟨h,ho,hl⟩
  simp only at h ho hl;unfold TK at ho;refine aY.cutKM 1 113 [0,2] 2 (fun x:Int×Ts=>[.own 0 0,.own 1 0]) (fun x=>[some (.box [.p (.ro 3 LR),.p (pI x.1),.p (pB c.fn),.p (pB c.lp),.p (pB c.gn),.p (pB c.as_)] 39 (some t0)),some (.box [.p (pI 0),.p (pS ⟨#[]⟩),.p (pI 0),.p (pI 0),.p (.v (.slice none 0 0))] 25 none)]) (fun x=>bF n toks LR x.1 x.2/\FB c x.2=some o/\x.2.length<l.length) aU mixed (fun n=>match n with|11=>3|_=>0) (fun n=>match n with|11=>[2]|_=>[]) (fun n i=>match n,i with|11,2=>1|_,_=>0) (fun E=>fI E cO Tryz.f63.results.toList [t0] (iO o) (iG toks LR c o)) kR (fun P G E hc hM hE=>?_) ?_
  case' refine_1=>
   have fO:=iQ hE;have fP:=KU hE;exact ax
  rintro⟨a1,l1⟩ ⟨h,ho,hl⟩
  simp only at h ho hl;unfold FB at ho;refine aY.cutKM 2 113 [0,2,5] 4 (fun x:Int×Ts×PT×List PV=>[.own 0 0,.own 1 0,.own 3 0]) (fun x=>[some (.box [.p (.ro 3 LR),.p (pI x.1),.p (pB c.fn),.p (pB c.lp),.p (pB c.gn),.p (pB c.as_)] 39 (some t0)),some (.box [.p (pI 0),.p (pS ⟨#[]⟩),.p (pI 0),.p (pI 0),.p (.v (.slice none 0 0))] 25 none),some (.rows 5 [x.2.2.2,[pI 37,pS ⟨#[]⟩,pI 0,pI 0,.v (.slice none 0 0)],[pI 37,pS ⟨#[]⟩,pI 0,pI 0,.v (.slice none 0 0)]] 25),some (.box [.p (pI 30),.p (pS ⟨#[]⟩),.p (pI 0),.p (pI 0),.osl 2 0 3] 25 none)]) (fun x=>bF n toks LR x.1 x.2.1/\QB c x.2.2.1 x.2.1=some o/\x.2.1.length<=l1.length/\gO x.2.2.1=x.2.2.2) aU mixed (fun n=>match n with|15=>4|17=>6|_=>0) (fun n=>match n with|15=>[3]|17=>[3]|_=>[]) (fun n i=>match n,i with|15,3=>1|17,3=>1|17,4=>1|17,5=>1|_,_=>0) (fun E=>fI E cO Tryz.f63.results.toList [t0] (iO o) (iG toks LR c o)) kR (fun P G E hc hM hE=>?_) ?_
  case' refine_1=>
   have fO:=iQ hE;have fP:=KU hE;exact ax
  rintro⟨a2,l2,xa,ra⟩ ⟨h,ho,hl,Yg⟩
  simp only at h ho hl Yg;unfold QB at ho;refine aY.cutKM 2 113 [0,2,5] 4 (fun x:Int×Ts×PT×List PV=>[.own 0 0,.own 1 0,.own 3 0]) (fun x=>[some (.box [.p (.ro 3 LR),.p (pI x.1),.p (pB c.fn),.p (pB c.lp),.p (pB c.gn),.p (pB c.as_)] 39 (some t0)),some (.box [.p (pI 0),.p (pS ⟨#[]⟩),.p (pI 0),.p (pI 0),.p (.v (.slice none 0 0))] 25 none),some (.rows 5 [ra,x.2.2.2,[pI 37,pS ⟨#[]⟩,pI 0,pI 0,.v (.slice none 0 0)]] 25),some (.box [.p (pI 30),.p (pS ⟨#[]⟩),.p (pI 0),.p (pI 0),.osl 2 0 3] 25 none)]) (fun x=>bF n toks LR x.1 x.2.1/\xh c xa x.2.2.1 x.2.1=some o/\x.2.1.length<l2.length/\gO x.2.2.1=x.2.2.2) aU mixed (fun n=>match n with|20=>4|_=>0) (fun n=>match n with|20=>[3]|_=>[]) (fun n i=>match n,i with|20,3=>1|_,_=>0) (fun E=>fI E cO Tryz.f63.results.toList [t0] (iO o) (iG toks LR c o)) kR (fun P G E hc hM hE=>?_) ?_
  case' refine_1=>
   have fO:=iQ hE;have fP:=KU hE;exact ax
  rintro⟨a3,l3,xb,rb⟩ ⟨h,ho,hl,tE⟩
  simp only at h ho hl tE;unfold xh at ho;refine aY.cutKM 2 113 [0,2,5] 4 (fun x:Int×Ts×PT×List PV=>[.own 0 0,.own 1 0,.own 3 0]) (fun x=>[some (.box [.p (.ro 3 LR),.p (pI x.1),.p (pB c.fn),.p (pB c.lp),.p (pB c.gn),.p (pB c.as_)] 39 (some t0)),some (.box [.p (pI 0),.p (pS ⟨#[]⟩),.p (pI 0),.p (pI 0),.p (.v (.slice none 0 0))] 25 none),some (.rows 5 [ra,rb,x.2.2.2] 25),some (.box [.p (pI 30),.p (pS ⟨#[]⟩),.p (pI 0),.p (pI 0),.osl 2 0 3] 25 none)]) (fun x=>bF n toks LR x.1 x.2.1/\QC c xa xb x.2.2.1 x.2.1=some o/\x.2.1.length<l3.length/\gO x.2.2.1=x.2.2.2) aU mixed (fun n=>match n with|23=>4|_=>0) (fun n=>match n with|23=>[3]|_=>[]) (fun n i=>match n,i with|23,3=>1|_,_=>0) (fun E=>fI E cO Tryz.f63.results.toList [t0] (iO o) (iG toks LR c o)) kR (fun P G E hc hM hE=>?_) ?_
  case' refine_1=>
   have fO:=iQ hE;have fP:=KU hE;exact ax
  rintro⟨a4,l4,xd,rd⟩ ⟨h,ho,hl,qz⟩
  simp only at h ho hl qz;unfold QC at ho;refine aY.ofM aU mixed (fun n=>match n with|25=>5|_=>0) (fun n=>match n with|25=>[3]|_=>[]) (fun n i=>match n,i with|25,3=>1|25,4=>1|_,_=>0) kR (fun E=>fI E cO Tryz.f63.results.toList [t0] (iO o) (iG toks LR c o)) fun P G E hc hM hE=>?_
  have fO:=iQ hE;have fP:=KU hE;exact ax
end
end Go.Proofs.YtjkcdcloomkooaaGreatDoor

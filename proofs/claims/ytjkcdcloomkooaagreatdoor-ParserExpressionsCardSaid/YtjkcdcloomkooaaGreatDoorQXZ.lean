/- Own work: walks and laws of the parser and its reference. -/
import Derived.Test.YtjkcdcloomkooaaGreatDoorQXW
set_option linter.unusedVariables false
set_option linter.unusedSimpArgs false
set_option linter.unusedSectionVars false
set_option maxHeartbeats 16000000
set_option maxRecDepth 100000
namespace Go.Proofs.YtjkcdcloomkooaaGreatDoor
open Go.RowKit
section
variable{n:Int}{toks:List Tk}{LR:List (List PV)}{a:Int}{l:Ts}{β:Type}{o:Option (β×Ts)}{G:Prop}{M:Nat}
theorem kN(c:Cx)(h:bE n toks LR a l){w:Bs}{K:Ts->Re β}(ho:eZ w l K=some o)(A:∀b,bE n toks LR b (l.drop 1)->K (l.drop 1)=some o->(l.drop 1).length<l.length->MP 33 [.own 0 0,.p (pS (bL w))] [aX LR a c] (.p (.tup [])) [aX LR b c]->G)
  (B:o=none/\MP 33 [.own 0 0,.p (pS (bL w))] [aX LR a c] (.p (.pan lO)) [none]->G):G:=by
 rcases m6 h w c ho with⟨b,k1,k2,k3,_,k4⟩|k
 ·exact A b k1 k2 k3 k4
 ·exact B k
theorem kT(c:Cx)(h:bE n toks LR a l){w:Bs}{X Y:Re β}(ho:(if aL l 0 w then X else Y)=some o)(A:∀b,bE n toks LR b (l.drop 1)->X=some o->(l.drop 1).length<l.length->MP 37 [.own 0 0,.p (pS (bL w))] [aX LR a c] (.p (pB true)) [aX LR b c]->G)
  (B:Y=some o->MP 37 [.own 0 0,.p (pS (bL w))] [aX LR a c] (.p (pB false)) [aX LR a c]->G):G:=by
 rcases xC h w c ho with⟨b,k1,k2,k3,_,k4⟩|⟨k1,_,k2⟩
 ·exact A b k1 k2 k3 k4
 ·exact B k1 k2
theorem kI(c:Cx)(h:bE n toks LR a l){k:Nat}(hk:k<=1000000){w:Bs}{X Y:Re β}(ho:(if aL l k w then X else Y)=some o)(A:X=some o->aL l k w=true->k<l.length->MP 31 [.own 0 0,.p (pI (k:Nat)),.p (pS (bL w))] [aX LR a c] (.p (pB true)) [aX LR a c]->G)
  (B:Y=some o->aL l k w=false->MP 31 [.own 0 0,.p (pI (k:Nat)),.p (pS (bL w))] [aX LR a c] (.p (pB false)) [aX LR a c]->G):G:=by
 rcases PR h k hk w c ho with⟨k1,k2,k3,k4⟩|⟨k1,k2,k3⟩
 ·exact A k1 k2 k3 k4
 ·exact B k1 k2 k3
structure Uo(M:Nat)(s:Sy)(f:FuncId)(sh:Sh)(l:Ts)(c:Cx)(az:List AV):Prop where
 m:s.meas<M
 f:s.fid=some f
 sh:s.shape=sh
 lx:s.lax=false
 l:s.l=l
 c:s.c=c
 az:s.args=az
theorem kD{s:Sy}(ih:∀s':Sy,s'.meas<M->iD n toks LR s')(h:bE n toks LR a l){K:PT->Ts->Re β}(ho:ndR (ev s) K=some o){f:FuncId}{c:Cx}{az:List AV}(H:Uo M s f .nd l c az)
  (A:∀x l' b k i q nm KK,bE n toks LR b l'->K x l'=some o->l'.length<l.length->iX x k i q nm KK->MP f (.own 0 0::az) [aX LR a c] (.p (.agg [pI k,pS nm,pI i,pI q,KK])) [aX LR b c]->G)
  (B:o=none/\MP f (.own 0 0::az) [aX LR a c] (.p (.pan lO)) [none]->G):G:=by
 obtain⟨m,h1,h2,h3,h4,h5,h6⟩:=H
 rcases yE (ih _ m) h1 h2 h3 h4 h5 h6 h ho with⟨x,l',b,k,i,q,nm,KK,k1,k2,k3,k4,k5⟩|k
 ·exact A x l' b k i q nm KK k1 k2 k3 k4 k5
 ·exact B k
theorem kE{o:Option (Rv×Ts)}{s:Sy}(ih:∀s':Sy,s'.meas<M->iD n toks LR s')(h:bE n toks LR a l)(ho:ev s=some o){f:FuncId}{c:Cx}{az:List AV}(hm:s.meas<M)(hf:s.fid=some f)(pH:s.shape=.nd)(hl:s.l=l)(hc:s.c=c)(ha:s.args=az)
  (A:∀x l' b k i q nm KK,bE n toks LR b l'->o=some (.nd x,l')->iX x k i q nm KK->MP f (.own 0 0::az) [aX LR a c] (.p (.agg [pI k,pS nm,pI i,pI q,KK])) [aX LR b c]->G)
  (B:o=none/\MP f (.own 0 0::az) [aX LR a c] (.p (.pan lO)) [none]->G):G:=by
 rcases YO (ih _ hm) hf pH hl hc ha h ho with⟨x,l',b,k,i,q,nm,KK,k1,k2,k3,k4⟩|k
 ·exact A x l' b k i q nm KK k1 k2 k3 k4
 ·exact B k
theorem kB{s:Sy}(ih:∀s':Sy,s'.meas<M->iD n toks LR s')(h:bE n toks LR a l){K:PT->Bool->Ts->Re β}(ho:nbR (ev s) K=some o){f:FuncId}{c:Cx}{az:List AV}(H:Uo M s f .nb l c az)
  (A:∀x p l' b k i q nm KK,bE n toks LR b l'->K x p l'=some o->l'.length<=l.length/\(p=true->l'.length<l.length)->iX x k i q nm KK->MP f (.own 0 0::az) [aX LR a c] (.p (.tup [.agg [pI k,pS nm,pI i,pI q,KK],pB p])) [aX LR b c]->G)
  (B:o=none/\MP f (.own 0 0::az) [aX LR a c] (.p (.pan lO)) [none]->G):G:=by
 obtain⟨m,h1,h2,h3,h4,h5,h6⟩:=H
 rcases G3 (ih _ m) h1 h2 h3 h4 h5 h6 h ho with⟨x,p,l',b,k,i,q,nm,KK,k1,k2,k3,k4,k5⟩|k
 ·exact A x p l' b k i q nm KK k1 k2 k3 k4 k5
 ·exact B k
theorem kC(c:Cx)(h:bE n toks LR a l){X Y:Re β}(ho:(if tJ l then X else Y)=some o)(A:X=some o->tJ l=true->MP 34 [.own 0 0] [aX LR a c] (.p (pB true)) [aX LR a c]->G)(B:Y=some o->tJ l=false->MP 34 [.own 0 0] [aX LR a c] (.p (pB false)) [aX LR a c]->G):G:=by
 rcases QI h c ho with⟨k1,k2,k3⟩|⟨k1,k2,k3⟩
 ·exact A k1 k2 k3
 ·exact B k1 k2 k3
theorem kO(c:Cx)(h:bE n toks LR a l){w v:Bs}{X Y:Re β}(ho:(if aL l 0 w||aL l 0 v then X else Y)=some o)(A:X=some o->aL l 0 w=true->MP 31 [.own 0 0,.p (pI ((0:Nat):Nat)),.p (pS (bL w))] [aX LR a c] (.p (pB true)) [aX LR a c]->G)
  (B:X=some o->aL l 0 w=false->aL l 0 v=true->MP 31 [.own 0 0,.p (pI ((0:Nat):Nat)),.p (pS (bL w))] [aX LR a c] (.p (pB false)) [aX LR a c]->MP 31 [.own 0 0,.p (pI ((0:Nat):Nat)),.p (pS (bL v))] [aX LR a c] (.p (pB true)) [aX LR a c]->G)
  (C:Y=some o->aL l 0 w=false->aL l 0 v=false->MP 31 [.own 0 0,.p (pI ((0:Nat):Nat)),.p (pS (bL w))] [aX LR a c] (.p (pB false)) [aX LR a c]->MP 31 [.own 0 0,.p (pI ((0:Nat):Nat)),.p (pS (bL v))] [aX LR a c] (.p (pB false)) [aX LR a c]->G):G:=by
 rcases PS h w v c ho with⟨k1,k2,k3⟩|⟨k1,k2,k3,k4,k5⟩|⟨k1,k2,k3,k4,k5⟩
 ·exact A k1 k2 k3
 ·exact B k1 k2 k3 k4 k5
 ·exact C k1 k2 k3 k4 k5
theorem Qv(c:Cx)(h:bE n toks LR a l)(k:Nat)(hk:k<=1000000)(A:∀K T z,kd l k=K->bL (tx l k)=T->MP 30 [.own 0 0,.p (pI (k:Nat))] [aX LR a c] (.p (.agg [pI K,pS T,pI z])) [aX LR a c]->G):G:=by
 obtain⟨K,T,z,h1,h2,h3⟩:=YH h k hk c;exact A K T z h1 h2 h3
theorem kF(c:Cx)(h:bE n toks LR a l):MP 29 [.own 0 0] [aX LR a c] (.p (.pan lO)) [none]:=vQ (um LR a c)
theorem kA{E:SO}(hE:E=bK)(h:bE n toks LR a l)(hp:0<l.length)(A:∀b,bE n toks LR b (l.drop 1)->E.wadd .i64 a 1=b->(l.drop 1).length<l.length->G):G:=by
 obtain⟨b,h1,h2,h3,h4⟩:=h.next hp;exact A b h1 (yj hE h3 h4 h2) (by rw[yR];omega)
theorem wP{E:SO}(hE:E=bK){s:Bs}{F G:Int}(h:gN s 28 2=F)(hG:F+100=G):E.wadd .i64 F 100=G:=by
 have:=C2 s 28 2
 rw[h]at this;rw[hE,<- hG];exact jX oM oM
theorem tqT{E:SO}(hE:E=bK){s w:Bs}{T:ByteArray}(hT:bL s=T)(h:s=w):E.eq T (bL w)=true:=by rw[hE,<- hT];exact aA (aG bL h)
theorem tqF{E:SO}(hE:E=bK){s w:Bs}{T:ByteArray}(hT:bL s=T)(h:¬s=w):E.eq T (bL w)=false:=by rw[hE,<- hT];exact dF fun e=>h (yg e)
theorem kW{E:SO}(hE:E=bK)(c:Cx)(h:bE n toks LR a l){X Y:Re β}(ho:(if 0<oa l then X else Y)=some o)(A:∀Q:Int,X=some o->E.lti 0 Q=true->MP 50 [.own 0 0] [aX LR a c] (.p (pI Q)) [aX LR a c]->G)(B:∀Q:Int,Y=some o->E.lti 0 Q=false->MP 50 [.own 0 0] [aX LR a c] (.p (pI Q)) [aX LR a c]->G):G:=by
 rcases Gh h c ho with⟨Q,k1,k2,k3⟩|⟨Q,k1,k2,k3⟩
 ·exact A Q k1 (by rw[hE];exact aA k2) k3
 ·exact B Q k1 (by rw[hE];exact dF k2) k3
theorem kdP{l:Ts}(h:¬kd l 0=0):0<l.length:=by
 cases l with
 |nil=>exact absurd rfl h
 |cons x l=>exact B8 _
theorem xhg(l:Ts):List.drop 2 l=List.drop 1 (List.drop 1 l):=by rw[yS]
theorem QG(l:Ts):List.drop 3 l=List.drop 1 (List.drop 1 (List.drop 1 l)):=by rw[yS,yS]
theorem kQ(c:Cx)(h:bE n toks LR a l)(k:Nat)(hk:k<=1000000)(w:Bs)(A:aL l k w=true->k<l.length->MP 31 [.own 0 0,.p (pI (k:Nat)),.p (pS (bL w))] [aX LR a c] (.p (pB true)) [aX LR a c]->G)(B:aL l k w=false->k<=1000000->MP 31 [.own 0 0,.p (pI (k:Nat)),.p (pS (bL w))] [aX LR a c] (.p (pB false)) [aX LR a c]->G):G:=by
 cases hs:aL l k w with
 |true=>exact A hs (nH hs) (NP h k hk w c hs)
 |false=>exact B hs hk (NS h k hk w c hs)
theorem PJ{a:Int}(h:bE n toks LR a l)(c:Cx)(hk:kd l 0=1):∃b T,bE n toks LR b (l.drop 1)/\bL (tx l 0)=T/\MP 57 [.own 0 0] [aX LR a c] (.p (pS T)) [aX LR b c]:=by
 rcases Q5 h c with⟨b,h1,h2,h3⟩|⟨h1,h2⟩
 ·exact⟨b,_,h2,rfl,h3⟩
 ·exact absurd hk h1
def NO(c:Cx)(a b d:PT)(l:Ts):Re Rv:=eZ eG l fun l5=>ndR (ev (.body c l5)) fun s l6=>bR (.nd (nd 30 [a,b,d,s])) l6
def vw(c:Cx)(a b:PT)(l:Ts):Re Rv:=eZ mH l fun l3=>if aL l3 0 eG then ndR (ev (.body c (l3.drop 1))) fun s l5=>bR (.nd (nd 30 [a,b,nd 37 [],s])) l5 else ndR (ev (.assign c l3)) fun d l4=>NO c a b d l4
def NN(c:Cx)(a:PT)(l:Ts):Re Rv:=eZ mH l fun l1=>if aL l1 0 mH then vw c a (nd 37 []) l1 else ndR (ev (.assign c l1)) fun b l2=>vw c a b l2
def DQ(c:Cx)(l0:Ts):Re Rv:=if aL l0 0 bi||aL l0 0 qC then ndR (ev (.decl c l0)) fun n l1=>NN c n l1 else if aL l0 0 mH then NN c (nd 37 []) l0 else ndR (ev (.assign c l0)) fun n l1=>NN c (nd 26 [n]) l1
def QB(c:Cx)(l0:Ts):Re Rv:=if(aL l0 0 bi||aL l0 0 qC)&&(decide (kd l0 1=1)&&aL l0 2 vj)then(ndR (ev (.assign c (l0.drop 3))) fun e l1=>eZ eG l1 fun l2=>ndR (ev (.body c l2)) fun s l3=>bR (.nd (.mk 31 (tx l0 1) 0 (if aL l0 0 qC then 2 else 1) [e,s])) l3)else DQ c l0
theorem xc4{c:Cx}{a b:PT}{l:Ts}{o:Option (Rv×Ts)}(h:aL l 0 eG=true)(ho:(ndR (ev (.body c (l.drop 1))) fun s l5=>bR (.nd (nd 30 [a,b,nd 37 [],s])) l5)=some o):NO c a b (nd 37 []) l=some o:=by
 unfold NO eZ;rw[aF h];exact ho
theorem Qg:gM (nd 37 [])=[pI 37,pS ⟨#[]⟩,pI 0,pI 0,.v (.slice none 0 0)]:=rfl
theorem OP{x:PT}{r:List PV}(h:gM x=r):gM (nd 26 [x])=[pI 26,pS ⟨#[]⟩,pI 0,pI 0,.ro 5 [r]]:=by subst h;rfl
structure Hv(E:SO):Prop where
 n0:E.nat 0=0
 n1:E.nat 1=1
 n2:E.nat 2=2
 p0:E.ple 0 0
 p1:E.ple 0 1
 p2:E.ple 0 2
 q0:E.plt 0 3
 q1:E.plt 1 3
 q2:E.plt 2 3
 w0:∀x y z v:List PV,E.put [x,y,z] 0 v=[v,y,z]
 w1:∀x y z v:List PV,E.put [x,y,z] 1 v=[x,v,z]
 w2:∀x y z v:List PV,E.put [x,y,z] 2 v=[x,y,v]
 a4:∀x y z v:List PV,E.app [x,y,z] 3 [v]=[x,y,z,v]
 s4:∀x y z v:List PV,E.sub [x,y,z,v] 0 4=[x,y,z,v]
 n4:E.addN 3 1=4
 m0:E.addN 0 0=0
 m1:E.addN 0 1=1
 m2:E.addN 0 2=2
 o3:E.ofN 3=3
theorem IU{E:SO}(hE:E=bK):Hv E:=by
 subst hE;exact⟨rfl,rfl,rfl,bU 0,(by decide:(0:Int)<=1),(by decide:(0:Int)<=2),(by decide:(0:Int)<3),(by decide:(1:Int)<3),(by decide:(2:Int)<3),fun _ _ _ _=>rfl,fun _ _ _ _=>rfl,fun _ _ _ _=>rfl,fun _ _ _ _=>rfl,fun _ _ _ _=>rfl,rfl,rfl,rfl,rfl,rfl⟩
theorem kNm(c:Cx)(h:bE n toks LR a l){K:Bs->Ts->Re β}(ho:pZ l K=some o)(A:∀b T,bE n toks LR b (l.drop 1)->K (tx l 0) (l.drop 1)=some o->(l.drop 1).length<l.length->bL (tx l 0)=T->MP 57 [.own 0 0] [aX LR a c] (.p (pS T)) [aX LR b c]->G)
  (B:o=none/\MP 57 [.own 0 0] [aX LR a c] (.p (.pan lO)) [none]->G):G:=by
 rcases GN h c ho with⟨b,T,k1,k2,k3,k4,k5⟩|k
 ·exact A b T k1 k2 k3 k4 k5
 ·exact B k
theorem Fz{E:SO}(hE:E=bK):E.ofN 1=1:=fS
theorem Fy{E:SO}(hE:E=bK):E.ofN 2=2:=fS
theorem Fx{E:SO}(hE:E=bK):E.ofN 3=3:=fS
theorem G6{l:Ts}{a:Int}(h:bE n toks LR a (l.drop 1)):(l.drop 1).length<=l.length:=by rw[yR];omega
theorem Fv{x:PT}{X Y:Re β}(ho:(if [x].length=1 then X else Y)=some o):X=some o:=ho
theorem Fu{x y:PT}{X Y:Re β}(ho:(if [x,y].length=1 then X else Y)=some o):Y=some o:=ho
theorem kZ{E:SO}(hE:E=bK){M:Int}(mY:((toks.length:Nat):Int)=M)(h:bE n toks LR a l){X Y:Re β}(ho:(if l=[]then X else Y)=some o)(A:X=some o->E.lei M a=true->G)(B:Y=some o->0<l.length->E.lei M a=false->G):G:=by
 have h1:=h.h1
 rcases jz ho with⟨k1,k2⟩|⟨k1,k2⟩
 ·exact A k2 (by rw[hE];rw[k1]at h1;exact aA (by simp at h1;omega))
 ·have:=aV.2 k1
  exact B k2 this sS
theorem w8{E:SO}(hE:E=bK){R:List (List PV)}{N:Nat}(hN:R.length=N)(hz:N<=1000000)(row:List PV):∃R2 N2,R++[row]=R2/\N+1=N2/\EN E R N row R2 N2:=⟨_,_,rfl,rfl,ig hE hN (aS hz aT) rfl rfl⟩
end
theorem NZ{p:Prop} (h:p:=by
 (first|(refine .z [0] (hM _ _ _ _ _ kz.2) rfl rfl rfl ?_;cbv)|(have hk:=kz.2;simp only[aX,Sy.c,eb]at hk;refine .z [0] (hM _ _ _ _ _ hk) rfl rfl rfl ?_;cbv))
 have e0:=kz.1;subst e0;cbv;all_goals trivial):p:=h
theorem tEz{p:Prop} (h:p:=by
 refine Or.inr ?_;refine .mk [0] _ _ _ _ (hM _ _ _ _ _ kz.2) rfl rfl rfl _ rfl ?_;cbv;have e0:=kz.1;subst e0;exact j7):p:=h
theorem YV{p:Prop}(h:p:=by first|(simp only[Sy.meas,Sy.l,Sy.rank,yR];omega)|(simp only[Sy.meas,Sy.l,Sy.rank];omega)|(simp[Sy.meas,Sy.l,Sy.rank];done)|(simp[Sy.meas,Sy.l,Sy.rank];omega)):p:=h
theorem tPz{p:Prop}(h:p:=by first|exact nH hi|exact kJ hi aT|omega|(simp only[yR];omega)):p:=h
theorem vl{p:Prop}(h:p:=by first|omega|(dsimp only;omega)|(simp only[yR];omega)):p:=h
theorem F2{p:Prop}(h:p:=by first|rfl|exact Gb hi):p:=h
theorem tFz{p:Prop} (hp:p:=by
 have e0:=yd ho;subst e0;have hk:=kF c h
 (first|(refine .z [0] (hM _ _ _ _ _ hk) rfl rfl rfl ?_;cbv)|(have hk:=hk;simp only[aX,Sy.c,eb]at hk;refine .z [0] (hM _ _ _ _ _ hk) rfl rfl rfl ?_;cbv))
 all_goals trivial):p:=hp
theorem Ql{p:Prop} (hp:p:=by
 have e0:=rP ho;subst e0;simp only[h.place,nd,dV,fR,gM,mS,eO,pD,sR]
 try simp only[hv.row]
 try simp only[nK.row]
 try simp only[fv.row]
 try simp only[hT]
 try simp only[hF.1]
 try simp only[hG]
 try simp only[V4,sU,px]
 try simp only[g6]
 exact Ug):p:=hp
theorem tTz{p:Prop} (hp:p:=by
 subst he;simp only[h.place,hv.row];exact Ug):p:=hp
theorem a8{p:Prop} (hp:p:=by
 have on1:=Fz hE;have on2:=Fy hE;have on3:=Fx hE;cbv
 repeat' (first
  |(first|(simp only[on1,on2,on3];cbv)|(simp only[ok];cbv)|(simp only[ok2];cbv)|(simp only[ok3];cbv)|(simp only[ek];cbv)|(simp only[ek2];cbv)|(simp only[ek3];cbv)|(simp only[hw];cbv)|(simp only[eb];cbv)|(simp only[fO.s1,fO.s2,fO.s3];cbv)|(simp only[fO.a2,fO.a3,fO.n2,fO.n3];cbv)|(refine⟨(fO.room _ _ _ aT aT),?_⟩;cbv)|(refine⟨(fO.pre _ _ rfl),?_⟩;cbv)|(simp only[fP.n0,fP.n1,fP.n2,fP.m0,fP.m1,fP.m2,fP.w0,fP.w1,fP.w2,fP.a4,fP.s4,fP.n4,fP.o3];cbv)|(refine⟨_,rfl,nR 5,?_⟩;cbv)|(refine⟨fP.p0,?_⟩;cbv)|(refine⟨fP.p1,?_⟩;cbv)|(refine⟨fP.p2,?_⟩;cbv)|(refine⟨fP.q0,?_⟩;cbv)|(refine⟨fP.q1,?_⟩;cbv)|(refine⟨fP.q2,?_⟩;cbv)|(simp only[l0];cbv)|(simp only[fA.add,fA.app,fA.sub];cbv)|(simp only[fB6];cbv)|(refine⟨fA.pre,fA.room,?_⟩;cbv)|(refine⟨fA.pre,?_⟩;cbv)|(refine⟨fA.room,?_⟩;cbv)|(refine⟨fB5,?_⟩;cbv))
  |exact Ql
  |exact tTz
  |(have h:=h;rw[yS]at h;exact Ql)
  |exact tFz
  |exact .mk (_,_) r5 ⟨h,ho,vl⟩
  |exact .mk (_,_,_,_) r5 ⟨h,xc4 hi ho,vl,Qg⟩
  |exact .mk (_,_,_,_) r5 ⟨h,ho,vl,hv.row⟩
  |exact .mk (_,_,_,_) r5 ⟨h,ho,vl,Qg⟩
  |exact .mk (_,_,_,_) r5 ⟨h,ho,vl,OP hv.row⟩
  |exact .mk (_,_,[x],_,1) r5 ⟨h,ho,vl,by rw[eO,eO,hv.row],rfl⟩ (by rw[hμ,hμ];exact vl)
  |exact .mk (_,_,y::ys++[x],R2,N2) r5 ⟨h,ho,vl,by rw[o9,g4,eO,eO,hv.row];exact cS,by dsimp only;rw[<-cS,sE,g5];exact fT⟩ (by rw[hμ,hμ];exact vl)
  |(refine kZ hE mY h ho (fun ho ek=>?_) (fun ho hl ek=>?_)<;>(simp only[ek];cbv))
  |(refine kN c h ho (fun b h ho hl hk=>?_) (fun kz=>NZ)
    (first|(refine .z [0] (hM _ _ _ _ _ hk) rfl rfl rfl ?_;cbv)|(have hk:=hk;simp only[aX,Sy.c,eb]at hk;refine .z [0] (hM _ _ _ _ _ hk) rfl rfl rfl ?_;cbv)))
  |(refine kNm c h ho (fun b T h ho hl hT hk=>?_) (fun kz=>NZ)
    (first|(refine .z [0] (hM _ _ _ _ _ hk) rfl rfl rfl ?_;cbv)|(have hk:=hk;simp only[aX,Sy.c,eb]at hk;refine .z [0] (hM _ _ _ _ _ hk) rfl rfl rfl ?_;cbv)))
  |(refine kT c h ho (fun b h ho hl hk=>?_) (fun ho hk=>?_)<;>((first|(refine .z [0] (hM _ _ _ _ _ hk) rfl rfl rfl ?_;cbv)|(have hk:=hk;simp only[aX,Sy.c,eb]at hk;refine .z [0] (hM _ _ _ _ _ hk) rfl rfl rfl ?_;cbv))))
  |(refine kI c h aT ho (fun ho hi hl hk=>?_) (fun ho hi hk=>?_)<;>((first|(refine .z [0] (hM _ _ _ _ _ hk) rfl rfl rfl ?_;cbv)|(have hk:=hk;simp only[aX,Sy.c,eb]at hk;refine .z [0] (hM _ _ _ _ _ hk) rfl rfl rfl ?_;cbv))))
  |(refine kC c h ho (fun ho hi hk=>?_) (fun ho hi hk=>?_)<;>((first|(refine .z [0] (hM _ _ _ _ _ hk) rfl rfl rfl ?_;cbv)|(have hk:=hk;simp only[aX,Sy.c,eb]at hk;refine .z [0] (hM _ _ _ _ _ hk) rfl rfl rfl ?_;cbv))))
  |(refine kW hE c h ho (fun Q ho ek hk=>?_) (fun Q ho ek hk=>?_)<;>((first|(refine .z [0] (hM _ _ _ _ _ hk) rfl rfl rfl ?_;cbv)|(have hk:=hk;simp only[aX,Sy.c,eb]at hk;refine .z [0] (hM _ _ _ _ _ hk) rfl rfl rfl ?_;cbv))))
  |(refine kO c h ho (fun ho hi hk=>?_) (fun ho hi hi hk yG=>?_) (fun ho hi hi hk yG=>?_)<;>((first|(refine .z [0] (hM _ _ _ _ _ hk) rfl rfl rfl ?_;cbv)|(have hk:=hk;simp only[aX,Sy.c,eb]at hk;refine .z [0] (hM _ _ _ _ _ hk) rfl rfl rfl ?_;cbv));(repeat (first|(simp only[on1,on2,on3];cbv)|(simp only[ok];cbv)|(simp only[ok2];cbv)|(simp only[ok3];cbv)|(simp only[ek];cbv)|(simp only[ek2];cbv)|(simp only[ek3];cbv)|(simp only[hw];cbv)|(simp only[eb];cbv)|(simp only[fO.s1,fO.s2,fO.s3];cbv)|(simp only[fO.a2,fO.a3,fO.n2,fO.n3];cbv)|(refine⟨(fO.room _ _ _ aT aT),?_⟩;cbv)|(refine⟨(fO.pre _ _ rfl),?_⟩;cbv)|(simp only[fP.n0,fP.n1,fP.n2,fP.m0,fP.m1,fP.m2,fP.w0,fP.w1,fP.w2,fP.a4,fP.s4,fP.n4,fP.o3];cbv)|(refine⟨_,rfl,nR 5,?_⟩;cbv)|(refine⟨fP.p0,?_⟩;cbv)|(refine⟨fP.p1,?_⟩;cbv)|(refine⟨fP.p2,?_⟩;cbv)|(refine⟨fP.q0,?_⟩;cbv)|(refine⟨fP.q1,?_⟩;cbv)|(refine⟨fP.q2,?_⟩;cbv)|(simp only[l0];cbv)|(simp only[fA.add,fA.app,fA.sub];cbv)|(simp only[fB6];cbv)|(refine⟨fA.pre,fA.room,?_⟩;cbv)|(refine⟨fA.pre,?_⟩;cbv)|(refine⟨fA.room,?_⟩;cbv)|(refine⟨fB5,?_⟩;cbv)));(first|(have hk:=yG;(first|(refine .z [0] (hM _ _ _ _ _ hk) rfl rfl rfl ?_;cbv)|(have hk:=hk;simp only[aX,Sy.c,eb]at hk;refine .z [0] (hM _ _ _ _ _ hk) rfl rfl rfl ?_;cbv)))|skip)))
  |(try have fv:=nK
    try have nK:=hv
    try have ok3:=ok2
    try have ok2:=ok
    refine kD ih h ho ⟨YV,F2,rfl,rfl,rfl,rfl,rfl⟩ (fun x l b k i q nm KK h ho hl hv hk=>?_) (fun kz=>NZ)
    (first|(refine .z [0] (hM _ _ _ _ _ hk) rfl rfl rfl ?_;cbv)|(have hk:=hk;simp only[aX,Sy.c,eb]at hk;refine .z [0] (hM _ _ _ _ _ hk) rfl rfl rfl ?_;cbv))
    have ok:=hv.one;cbv at ok
    try (refine xE (w8 hE g5 gz [pI k,pS nm,pI i,pI q,KK]) fun R2 r=>xE r fun N2 r=>?_;have cS:=r.1;have fT:=r.2.1;have fA:=r.2.2))
  |(try have fv:=nK
    try have nK:=hv
    try have ok3:=ok2
    try have ok2:=ok
    refine kD ih h ho ⟨YV,F2,rfl,rfl,rfl,rfl,rfl⟩ (fun x l b k i q nm KK h ho hl hv hk=>?_) (fun kz=>tEz)
    refine Or.inl ?_;refine⟨.mk trivial,?_⟩;refine .mk [0] _ _ _ _ (hM _ _ _ _ _ hk) rfl rfl rfl rfl ?_;cbv;have ok:=hv.one;cbv at ok
    try (refine xE (w8 hE g5 gz [pI k,pS nm,pI i,pI q,KK]) fun R2 r=>xE r fun N2 r=>?_;have cS:=r.1;have fT:=r.2.1;have fA:=r.2.2))
  |(refine⟨.mk vR,?_⟩;cbv)
  |(refine kE ih h ho YV rfl rfl rfl rfl rfl (fun x l b k i q nm KK h he hv hk=>?_) (fun kz=>NZ)
    (first|(refine .z [0] (hM _ _ _ _ _ hk) rfl rfl rfl ?_;cbv)|(have hk:=hk;simp only[aX,Sy.c,eb]at hk;refine .z [0] (hM _ _ _ _ _ hk) rfl rfl rfl ?_;cbv))
    have ok:=hv.one;cbv at ok
    try (refine xE (w8 hE g5 gz [pI k,pS nm,pI i,pI q,KK]) fun R2 r=>xE r fun N2 r=>?_;have cS:=r.1;have fT:=r.2.1;have fA:=r.2.2))
  |(try have fv:=nK
    try have nK:=hv
    try have ok3:=ok2
    try have ok2:=ok
    refine kB ih h ho ⟨YV,F2,rfl,rfl,rfl,rfl,rfl⟩ (fun x p l b k i q nm KK h ho hl hv hk=>?_) (fun kz=>NZ)
    (first|(refine .z [0] (hM _ _ _ _ _ hk) rfl rfl rfl ?_;cbv)|(have hk:=hk;simp only[aX,Sy.c,eb]at hk;refine .z [0] (hM _ _ _ _ _ hk) rfl rfl rfl ?_;cbv))
    have ok:=hv.one;cbv at ok
    try (refine xE (w8 hE g5 gz [pI k,pS nm,pI i,pI q,KK]) fun R2 r=>xE r fun N2 r=>?_;have cS:=r.1;have fT:=r.2.1;have fA:=r.2.2))
  |(refine Qv c h 0 aT (fun K T z hp hT hk=>?_)
    (first|(refine .z [0] (hM _ _ _ _ _ hk) rfl rfl rfl ?_;cbv)|(have hk:=hk;simp only[aX,Sy.c,eb]at hk;refine .z [0] (hM _ _ _ _ _ hk) rfl rfl rfl ?_;cbv)))
  |(refine oE (PE ho) (fun hq=>?_) (fun hq=>oE hq (fun hq=>?_) (fun hq=>?_))<;>(have ho:=hq.1;(first|(have ek:=dF hq.2.1;(first|have ek2:=dF hq.2.2|(have ek2:=aA hq.2.2;have n5:=kJ hq.2.2 aT));rw[hp]at ek ek2)|(have ek:=aA hq.2;have n5:=kJ hq.2 aT;rw[hp]at ek));cbv))
  |(refine oE (Ft ho) (fun hq=>?_) (fun hq=>oE hq (fun hq=>?_) (fun hq=>?_))<;>(have ho:=hq.1;(first|have n5:=kdP hq.2.1|skip);(first|(have ek:=dF hq.2.1;(first|have ek2:=dF hq.2.2|have ek2:=aA hq.2.2);rw[hp]at ek ek2)|(have ek:=aA hq.2;rw[hp]at ek));cbv))
  |(refine oE (El ho) (fun hq=>?_) (fun hq=>?_)<;>(have ho:=hq.1;have tk:=sD (Y0 x hv);rw[hq.2]at tk;refine⟨_,hc _ _ _ tk,?_⟩;cbv))
  |(refine oE (El ho) (fun hq=>?_) (fun hq=>?_)<;>(have eb:=hq.2;have ho:=hq.1;(first|(subst eb;cbv)|(simp only[eb];cbv))))
  |(refine oE (QW ho) (fun hq=>?_) (fun hq=>oE hq (fun hq=>?_) (fun hq=>oE hq (fun hq=>?_) (fun hq=>?_)))<;>(have ho:=hq.1;have au:=hv.kind;(first|(have ek:=aA hq.2.1;have ek2:=dF hq.2.2.1;(first|have ek3:=dF hq.2.2.2|have ek3:=aA hq.2.2.2);rw[au]at ek2 ek3;rw[hF.1]at ek)|(have ek:=aA hq.2.1;have ek2:=aA hq.2.2;rw[au]at ek2;rw[hF.1]at ek)|(have ek:=dF hq.2;rw[hF.1]at ek));cbv))
  |(refine oE (jz ho) (fun hq=>?_) (fun hq=>?_)<;>(have ho:=hq.2;(first|have ek:=tqT hE hT hq.1|have ek:=tqF hE hT hq.1);cbv at ek;cbv))
  |(refine oE (jz ho) (fun hq=>?_) (fun hq=>?_)<;>(have ho:=hq.2;(first|have ek:=aA (jw.1 hq.1)|have ek:=dF hq.1|have ek:=aA hq.1);(first|rw[hp]at ek|rw[hF.1]at ek);(first|have n5:=kJ hq.1 aT|skip);(first|(simp only[ek];cbv)|(cbv;simp only[ek];cbv))))
  |(refine kA hE h tPz (fun b h ha hl=>?_);simp only[ha];cbv)
  |(refine xE (MW _ hT 28 2 aT aT 28 29 rfl aT) fun F hF=>?_;refine xE (⟨_,rfl⟩:∃G,F+100=G) fun G hG=>?_;have hw:=wP hE hF.1 hG;refine⟨_,hc _ _ _ hF.2,?_⟩;cbv)
  |(refine xE (MW _ hT 1 5 aT aT 1 5 rfl aT) fun F hF=>?_;refine⟨_,hc _ _ _ hF.2,?_⟩;cbv)
  |(refine xE (MW _ hT 24 4 aT aT 24 27 rfl aT) fun F hF=>?_;refine⟨_,hc _ _ _ hF.2,?_⟩;cbv)
  |(refine kQ c h 0 aT bi (fun hi hj hk=>?_) (fun hi hj hk=>?_)<;>(rw[hi]at ho;(try simp only[dK,bI,bP,cD,fK,yJ,pT,kG,aM,fE,bT,rh,jr]at ho);(first|(refine .z [0] (hM _ _ _ _ _ hk) rfl rfl rfl ?_;cbv)|(have hk:=hk;simp only[aX,Sy.c,eb]at hk;refine .z [0] (hM _ _ _ _ _ hk) rfl rfl rfl ?_;cbv))))
  |(have hk:=NP h 0 aT bi c mI;(first|(refine .z [0] (hM _ _ _ _ _ hk) rfl rfl rfl ?_;cbv)|(have hk:=hk;simp only[aX,Sy.c,eb]at hk;refine .z [0] (hM _ _ _ _ _ hk) rfl rfl rfl ?_;cbv)))
  |(have hk:=NS h 0 aT bi c mI;(first|(refine .z [0] (hM _ _ _ _ _ hk) rfl rfl rfl ?_;cbv)|(have hk:=hk;simp only[aX,Sy.c,eb]at hk;refine .z [0] (hM _ _ _ _ _ hk) rfl rfl rfl ?_;cbv)))
  |(refine kQ c h 0 aT qC (fun hi hj hk=>?_) (fun hi hj hk=>?_)<;>(rw[hi]at ho;(try simp only[dK,bI,bP,cD,fK,yJ,pT,kG,aM,fE,bT,rh,jr]at ho);(first|(refine .z [0] (hM _ _ _ _ _ hk) rfl rfl rfl ?_;cbv)|(have hk:=hk;simp only[aX,Sy.c,eb]at hk;refine .z [0] (hM _ _ _ _ _ hk) rfl rfl rfl ?_;cbv))))
  |(have hk:=NP h 0 aT qC c mI;(first|(refine .z [0] (hM _ _ _ _ _ hk) rfl rfl rfl ?_;cbv)|(have hk:=hk;simp only[aX,Sy.c,eb]at hk;refine .z [0] (hM _ _ _ _ _ hk) rfl rfl rfl ?_;cbv)))
  |(have hk:=NS h 0 aT qC c mI;(first|(refine .z [0] (hM _ _ _ _ _ hk) rfl rfl rfl ?_;cbv)|(have hk:=hk;simp only[aX,Sy.c,eb]at hk;refine .z [0] (hM _ _ _ _ _ hk) rfl rfl rfl ?_;cbv)))
  |(refine kQ c h 2 aT vj (fun hi hj hk=>?_) (fun hi hj hk=>?_)<;>(rw[hi]at ho;(try simp only[dK,bI,bP,cD,fK,yJ,pT,kG,aM,fE,bT,rh,jr]at ho);(first|(refine .z [0] (hM _ _ _ _ _ hk) rfl rfl rfl ?_;cbv)|(have hk:=hk;simp only[aX,Sy.c,eb]at hk;refine .z [0] (hM _ _ _ _ _ hk) rfl rfl rfl ?_;cbv))))
  |(have hk:=NP h 2 aT vj c mI;(first|(refine .z [0] (hM _ _ _ _ _ hk) rfl rfl rfl ?_;cbv)|(have hk:=hk;simp only[aX,Sy.c,eb]at hk;refine .z [0] (hM _ _ _ _ _ hk) rfl rfl rfl ?_;cbv)))
  |(have hk:=NS h 2 aT vj c mI;(first|(refine .z [0] (hM _ _ _ _ _ hk) rfl rfl rfl ?_;cbv)|(have hk:=hk;simp only[aX,Sy.c,eb]at hk;refine .z [0] (hM _ _ _ _ _ hk) rfl rfl rfl ?_;cbv)))
  |(refine Qv c h 1 aT (fun K T z hp hT hk=>?_)
    (first|(refine .z [0] (hM _ _ _ _ _ hk) rfl rfl rfl ?_;cbv)|(have hk:=hk;simp only[aX,Sy.c,eb]at hk;refine .z [0] (hM _ _ _ _ _ hk) rfl rfl rfl ?_;cbv)))
  |(refine oE (dP (K=1)) (fun hq=>?_) (fun hq=>?_)<;>((first|have ek:=dF hq|have ek:=aA hq);rw[hp,ek]at ho;(try simp only[dK,bI,bP,cD,fK,yJ,pT,kG,aM,fE,bT,rh,jr]at ho);(first|(simp only[ek];cbv)|(cbv;simp only[ek];cbv)|(rw[ek];cbv))))
  |(refine xE (PJ h c ((Oz _ 1 0).trans (hp.trans hq))) fun b k=>xE k fun T k=>?_
    have h:=k.1;have hT:=k.2.1;have hl:=G6 h;rw[Pe]at hT;have hk:=k.2.2
    (first|(refine .z [0] (hM _ _ _ _ _ hk) rfl rfl rfl ?_;cbv)|(have hk:=hk;simp only[aX,Sy.c,eb]at hk;refine .z [0] (hM _ _ _ _ _ hk) rfl rfl rfl ?_;cbv)))
  |(have ho:=Fv ho)
  |(have ho:=Fu ho)
  |(rw[<-Oz _ 1 0,<- Pe _ 1 0]at ho)
  |(rw[<-z7x _ 1 0]at ho)
  |(rw[xhg]at ho)
  |(rw[QG]at ho)
  |(refine xE (PG h _ c hi) fun b k=>?_;have h:=k.1;have hk:=k.2;(first|(refine .z [0] (hM _ _ _ _ _ hk) rfl rfl rfl ?_;cbv)|(have hk:=hk;simp only[aX,Sy.c,eb]at hk;refine .z [0] (hM _ _ _ _ _ hk) rfl rfl rfl ?_;cbv)))
  |(have hk:=NP h 0 aT _ c hi;(first|(refine .z [0] (hM _ _ _ _ _ hk) rfl rfl rfl ?_;cbv)|(have hk:=hk;simp only[aX,Sy.c,eb]at hk;refine .z [0] (hM _ _ _ _ _ hk) rfl rfl rfl ?_;cbv));rw[hi]at ho;simp only[fE]at ho)
  |(have hk:=NS h 0 aT kr c (Nv hi aT);(first|(refine .z [0] (hM _ _ _ _ _ hk) rfl rfl rfl ?_;cbv)|(have hk:=hk;simp only[aX,Sy.c,eb]at hk;refine .z [0] (hM _ _ _ _ _ hk) rfl rfl rfl ?_;cbv));rw[Nv hi (show nu≠kr by decide)]at ho;simp only[aM,bT]at ho)
  |(unfold np at ho)
  |(refine .mk _ _ (a6 (k:=4) (j:=4) (l:=5) (n:=1) rfl rfl rfl (nR _) rfl) ?_;cbv)
  |(unfold s7 at ho))):p:=hp
section
variable{n:Int}{toks:List Tk}{LR:List (List PV)}{l:Ts}
theorem Yh{c:Cx}(ih:∀s':Sy,s'.meas<(Sy.condn c l).meas->iD n toks LR s'):iD n toks LR (.condn c l):=by
 intro f hf a h o ho
 cases hf
 rw[qA]at ho;change nv ev c l=some o at ho;unfold nv at ho;change bE n toks LR a l at h;show MP _ (.own 0 0::[]) [aX LR a c] (iL o) (iE toks LR c o);refine gS aN (f:=60) Tryz.func60 rfl kR (oT kR) fun tags bS=>?_
 match tags,bS with
 |[t0],_=>
  refine aY.ofM aN mixed (fun _=>0) (fun _=>[]) (fun _ _=>0) kR (fun E=>eU E cK Tryz.f60.results.toList [t0] (iL o) (iE toks LR c o)) fun P G E hc hM hE=>?_
  have fO:=gX hE;exact a8
theorem Wt{c:Cx}(ih:∀s':Sy,s'.meas<(Sy.cond c l).meas->iD n toks LR s'):iD n toks LR (.cond c l):=by
 intro f hf a h o ho
 cases hf
 rw[qA]at ho;change ym ev c l=some o at ho;unfold ym at ho;change bE n toks LR a l at h;show MP _ (.own 0 0::[]) [aX LR a c] (iL o) (iE toks LR c o);refine gS aN (f:=52) Tryz.func52 rfl kR (oT kR) fun tags bS=>?_
 match tags,bS with
 |[t0],_=>
  refine aY.ofM aN mixed (fun n=>match n with|6=>4|_=>0) (fun n=>match n with|6=>[3]|_=>[]) (fun n i=>match n,i with|6,3=>1|_,_=>0) kR (fun E=>eU E cK Tryz.f52.results.toList [t0] (iL o) (iE toks LR c o)) fun P G E hc hM hE=>?_
  have fO:=gX hE;exact a8
theorem Yo{c:Cx}(ih:∀s':Sy,s'.meas<(Sy.inner c l).meas->iD n toks LR s'):iD n toks LR (.inner c l):=by
 intro f hf a h o ho
 cases hf
 rw[qA]at ho;change yv ev c l=some o at ho;unfold yv at ho;change bE n toks LR a l at h;show MP _ (.own 0 0::[]) [aX LR a c] (iL o) (iE toks LR c o);refine gS aN (f:=61) Tryz.func61 rfl kR (oT kR) fun tags bS=>?_
 match tags,bS with
 |[t0],_=>
  refine aY.ofM aN mixed (fun _=>0) (fun _=>[]) (fun _ _=>0) kR (fun E=>eU E cK Tryz.f61.results.toList [t0] (iL o) (iE toks LR c o)) fun P G E hc hM hE=>?_
  have fO:=gX hE;exact a8
theorem Wn{c:Cx}(ih:∀s':Sy,s'.meas<(Sy.body c l).meas->iD n toks LR s'):iD n toks LR (.body c l):=by
 intro f hf a h o ho
 cases hf
 rw[qA]at ho;change BH ev c l=some o at ho;unfold BH at ho;change bE n toks LR a l at h;show MP _ (.own 0 0::[]) [aX LR a c] (iL o) (iE toks LR c o);refine gS aN (f:=62) Tryz.func62 rfl kR (oT kR) fun tags bS=>?_
 match tags,bS with
 |[t0],_=>
  refine aY.ofM aN mixed (fun _=>0) (fun _=>[]) (fun _ _=>0) kR (fun E=>eU E cK Tryz.f62.results.toList [t0] (iL o) (iE toks LR c o)) fun P G E hc hM hE=>?_
  have fO:=gX hE;exact a8
theorem Y8{c:Cx}(ih:∀s':Sy,s'.meas<(Sy.stmt c l).meas->iD n toks LR s'):iD n toks LR (.stmt c l):=by
 intro f hf a h o ho
 cases hf
 rw[qA]at ho;change yp ev c l=some o at ho;unfold yp at ho;change bE n toks LR a l at h;show MP _ (.own 0 0::[]) [aX LR a c] (iL o) (iE toks LR c o);refine gS aN (f:=13) Tryz.func13 rfl kR (oT kR) fun tags bS=>?_
 match tags,bS with
 |[t0],_=>
  refine aY.ofM aN mixed (fun _=>0) (fun _=>[]) (fun _ _=>0) kR (fun E=>eU E cK Tryz.f13.results.toList [t0] (iL o) (iE toks LR c o)) fun P G E hc hM hE=>?_
  have fO:=gX hE;exact a8
theorem Yz{c:Cx}(ih:∀s':Sy,s'.meas<(Sy.postf c l).meas->iD n toks LR s'):iD n toks LR (.postf c l):=by
 intro f hf a h o ho
 cases hf
 rw[qA]at ho;change v8 ev c l=some o at ho;unfold v8 at ho;change bE n toks LR a l at h;show MP _ (.own 0 0::[]) [aX LR a c] (iL o) (iE toks LR c o);refine gS aN (f:=127) Tryz.func127 rfl kR (oT kR) fun tags bS=>?_
 match tags,bS with
 |[t0],_=>
  refine aY.ofM aN mixed (fun _=>0) (fun _=>[]) (fun _ _=>0) kR (fun E=>eU E cK Tryz.f127.results.toList [t0] (iL o) (iE toks LR c o)) fun P G E hc hM hE=>?_
  have fO:=gX hE;exact a8
theorem Z6{c:Cx}(ih:∀s':Sy,s'.meas<(Sy.unary c l).meas->iD n toks LR s'):iD n toks LR (.unary c l):=by
 intro f hf a h o ho
 cases hf
 rw[qA]at ho;change ny ev c l=some o at ho;unfold ny at ho;change bE n toks LR a l at h;show MP _ (.own 0 0::[]) [aX LR a c] (iL o) (iE toks LR c o);refine gS aN (f:=111) Tryz.func111 rfl kR (oT kR) fun tags bS=>?_
 match tags,bS with
 |[t0],_=>
  refine aY.ofM aN mixed (fun _=>0) (fun _=>[]) (fun _ _=>0) kR (fun E=>eU E cK Tryz.f111.results.toList [t0] (iL o) (iE toks LR c o)) fun P G E hc hM hE=>?_
  have fO:=gX hE;exact a8
theorem Xy{c:Cx}(ih:∀s':Sy,s'.meas<(Sy.keyw c l).meas->iD n toks LR s'):iD n toks LR (.keyw c l):=by
 intro f hf a h o ho
 cases hf
 rw[qA]at ho;change xF ev c l=some o at ho;unfold xF at ho;change bE n toks LR a l at h;show MP _ (.own 0 0::[]) [aX LR a c] (iL o) (iE toks LR c o);refine gS aN (f:=38) Tryz.func38 rfl kR (oT kR) fun tags bS=>?_
 match tags,bS with
 |[t0],_=>
  refine aY.ofM aN mixed (fun n=>match n with|4=>5|8=>3|_=>0) (fun n=>match n with|4=>[3]|8=>[2]|_=>[]) (fun n i=>match n,i with|4,3=>1|4,4=>1|8,2=>1|_,_=>0) kR (fun E=>eU E cK Tryz.f38.results.toList [t0] (iL o) (iE toks LR c o)) fun P G E hc hM hE=>?_
  have fO:=gX hE;exact a8
theorem Zi{c:Cx}(ih:∀s':Sy,s'.meas<(Sy.assign c l).meas->iD n toks LR s'):iD n toks LR (.assign c l):=by
 intro f hf a h o ho
 cases hf
 rw[qA]at ho;change zd ev c l=some o at ho;unfold zd at ho;change bE n toks LR a l at h;show MP _ (.own 0 0::[]) [aX LR a c] (iL o) (iE toks LR c o);refine gS aN (f:=25) Tryz.func25 rfl kR (oT kR) fun tags bS=>?_
 match tags,bS with
 |[t0],_=>
  refine aY.ofM aN mixed (fun n=>match n with|18=>5|_=>0) (fun n=>match n with|18=>[3]|_=>[]) (fun n i=>match n,i with|18,3=>1|18,4=>1|_,_=>0) kR (fun E=>eU E cK Tryz.f25.results.toList [t0] (iL o) (iE toks LR c o)) fun P G E hc hM hE=>?_
  have fO:=gX hE;exact a8
theorem Yk{c:Cx}(ih:∀s':Sy,s'.meas<(Sy.field c l).meas->iD n toks LR s'):iD n toks LR (.field c l):=by
 intro f hf a h o ho
 cases hf
 rw[qA]at ho;change uz ev c l=some o at ho;unfold uz at ho;change bE n toks LR a l at h;show MP _ (.own 0 0::[]) [aX LR a c] (iL o) (iE toks LR c o);refine gS aN (f:=174) Tryz.func174 rfl kR (oT kR) fun tags bS=>?_
 match tags,bS with
 |[t0],_=>
  refine aY.ofM aN mixed (fun n=>match n with|5=>3|11=>5|_=>0) (fun n=>match n with|5=>[2]|11=>[3]|_=>[]) (fun n i=>match n,i with|5,2=>1|11,3=>1|11,4=>1|_,_=>0) kR (fun E=>eU E cK Tryz.f174.results.toList [t0] (iL o) (iE toks LR c o)) fun P G E hc hM hE=>?_
  have fO:=gX hE;exact a8
theorem X8{c:Cx}{x:PT}(ih:∀s':Sy,s'.meas<(Sy.link x c l).meas->iD n toks LR s'):iD n toks LR (.link x c l):=by
 intro f hf a h o ho
 cases hf
 rw[qA]at ho;change uq ev x c l=some o at ho;unfold uq at ho;change bE n toks LR a l at h;show MP _ (.own 0 0::[.p (.agg (gM x))]) [aX LR a c] (iL o) (iE toks LR c o);obtain⟨k0,i0,m0,nm0,KK0,hv⟩:=BP x;rw[hv.row];have ok:=hv.one;cbv at ok;refine gS aN (f:=153) Tryz.func153 rfl kR (oT kR) fun tags bS=>?_
 match tags,bS with
 |[t0],_=>
  refine aY.ofM aN mixed (fun _=>0) (fun _=>[]) (fun _ _=>0) kR (fun E=>eU E cK Tryz.f153.results.toList [t0] (iL o) (iE toks LR c o)) fun P G E hc hM hE=>?_
  have fO:=gX hE;exact a8
theorem Y2{c:Cx}(ih:∀s':Sy,s'.meas<(Sy.tryS c l).meas->iD n toks LR s'):iD n toks LR (.tryS c l):=by
 intro f hf a h o ho
 cases hf
 rw[qA]at ho;change nj ev c l=some o at ho;unfold nj at ho;change bE n toks LR a l at h;show MP _ (.own 0 0::[]) [aX LR a c] (iL o) (iE toks LR c o);refine gS aN (f:=64) Tryz.func64 rfl kR (oT kR) fun tags bS=>?_
 match tags,bS with
 |[t0],_=>
  refine aY.ofM aN mixed (fun n=>match n with|10=>5|_=>0) (fun n=>match n with|10=>[3]|8=>[0]|_=>[]) (fun n i=>match n,i with|10,3=>1|10,4=>1|_,_=>0) kR (fun E=>eU E cK Tryz.f64.results.toList [t0] (iL o) (iE toks LR c o)) fun P G E hc hM hE=>?_
  have fO:=gX hE;exact a8
theorem Za{c:Cx}(ih:∀s':Sy,s'.meas<(Sy.loops c l).meas->iD n toks LR s'):iD n toks LR (.loops c l):=by
 intro f hf a h o ho
 cases hf
 rw[qA]at ho;change sl ev c l=some o at ho;unfold sl at ho;change bE n toks LR a l at h;show MP _ (.own 0 0::[]) [aX LR a c] (iL o) (iE toks LR c o);refine gS aN (f:=63) Tryz.func63 rfl kR (oT kR) fun tags bS=>?_
 match tags,bS with
 |[t0],_=>
  refine aY.cutKM 2 113 [0,2] 2 (fun x:Int×Ts=>[.own 0 0,.own 1 0]) (fun x=>[some (.box [.p (.ro 3 LR),.p (pI x.1),.p (pB c.fn),.p (pB c.lp),.p (pB c.gn),.p (pB c.as_)] 39 (some t0)),some (.box [.p (pI 0),.p (pS ⟨#[]⟩),.p (pI 0),.p (pI 0),.p (.v (.slice none 0 0))] 25 none)]) (fun x=>bE n toks LR x.1 x.2/\QB c x.2=some o/\x.2.length<l.length) aN mixed (fun _=>0) (fun _=>[]) (fun _ _=>0) (fun E=>eU E cK Tryz.f63.results.toList [t0] (iL o) (iE toks LR c o)) kR (fun P G E hc hM hE=>?_) ?_
  case' refine_1=>
   have fO:=gX hE;have fP:=IU hE;exact a8
  rintro⟨a0,l0⟩ ⟨h,ho,hl⟩
  simp only at h ho hl;unfold QB at ho;refine aY.cutKM 1 113 [0,2] 2 (fun x:Int×Ts=>[.own 0 0,.own 1 0]) (fun x=>[some (.box [.p (.ro 3 LR),.p (pI x.1),.p (pB c.fn),.p (pB c.lp),.p (pB c.gn),.p (pB c.as_)] 39 (some t0)),some (.box [.p (pI 0),.p (pS ⟨#[]⟩),.p (pI 0),.p (pI 0),.p (.v (.slice none 0 0))] 25 none)]) (fun x=>bE n toks LR x.1 x.2/\DQ c x.2=some o/\x.2.length<l.length) aN mixed (fun n=>match n with|11=>3|_=>0) (fun n=>match n with|11=>[2]|_=>[]) (fun n i=>match n,i with|11,2=>1|_,_=>0) (fun E=>eU E cK Tryz.f63.results.toList [t0] (iL o) (iE toks LR c o)) kR (fun P G E hc hM hE=>?_) ?_
  case' refine_1=>
   have fO:=gX hE;have fP:=IU hE;exact a8
  rintro⟨a1,l1⟩ ⟨h,ho,hl⟩
  simp only at h ho hl;unfold DQ at ho;refine aY.cutKM 2 113 [0,2,5] 4 (fun x:Int×Ts×PT×List PV=>[.own 0 0,.own 1 0,.own 3 0]) (fun x=>[some (.box [.p (.ro 3 LR),.p (pI x.1),.p (pB c.fn),.p (pB c.lp),.p (pB c.gn),.p (pB c.as_)] 39 (some t0)),some (.box [.p (pI 0),.p (pS ⟨#[]⟩),.p (pI 0),.p (pI 0),.p (.v (.slice none 0 0))] 25 none),some (.rows 5 [x.2.2.2,[pI 37,pS ⟨#[]⟩,pI 0,pI 0,.v (.slice none 0 0)],[pI 37,pS ⟨#[]⟩,pI 0,pI 0,.v (.slice none 0 0)]] 25),some (.box [.p (pI 30),.p (pS ⟨#[]⟩),.p (pI 0),.p (pI 0),.osl 2 0 3] 25 none)]) (fun x=>bE n toks LR x.1 x.2.1/\NN c x.2.2.1 x.2.1=some o/\x.2.1.length<=l1.length/\gM x.2.2.1=x.2.2.2) aN mixed (fun n=>match n with|15=>4|17=>6|_=>0) (fun n=>match n with|15=>[3]|17=>[3]|_=>[]) (fun n i=>match n,i with|15,3=>1|17,3=>1|17,4=>1|17,5=>1|_,_=>0) (fun E=>eU E cK Tryz.f63.results.toList [t0] (iL o) (iE toks LR c o)) kR (fun P G E hc hM hE=>?_) ?_
  case' refine_1=>
   have fO:=gX hE;have fP:=IU hE;exact a8
  rintro⟨a2,l2,xa,ra⟩ ⟨h,ho,hl,V4⟩
  simp only at h ho hl V4;unfold NN at ho;refine aY.cutKM 2 113 [0,2,5] 4 (fun x:Int×Ts×PT×List PV=>[.own 0 0,.own 1 0,.own 3 0]) (fun x=>[some (.box [.p (.ro 3 LR),.p (pI x.1),.p (pB c.fn),.p (pB c.lp),.p (pB c.gn),.p (pB c.as_)] 39 (some t0)),some (.box [.p (pI 0),.p (pS ⟨#[]⟩),.p (pI 0),.p (pI 0),.p (.v (.slice none 0 0))] 25 none),some (.rows 5 [ra,x.2.2.2,[pI 37,pS ⟨#[]⟩,pI 0,pI 0,.v (.slice none 0 0)]] 25),some (.box [.p (pI 30),.p (pS ⟨#[]⟩),.p (pI 0),.p (pI 0),.osl 2 0 3] 25 none)]) (fun x=>bE n toks LR x.1 x.2.1/\vw c xa x.2.2.1 x.2.1=some o/\x.2.1.length<l2.length/\gM x.2.2.1=x.2.2.2) aN mixed (fun n=>match n with|20=>4|_=>0) (fun n=>match n with|20=>[3]|_=>[]) (fun n i=>match n,i with|20,3=>1|_,_=>0) (fun E=>eU E cK Tryz.f63.results.toList [t0] (iL o) (iE toks LR c o)) kR (fun P G E hc hM hE=>?_) ?_
  case' refine_1=>
   have fO:=gX hE;have fP:=IU hE;exact a8
  rintro⟨a3,l3,xb,rb⟩ ⟨h,ho,hl,sU⟩
  simp only at h ho hl sU;unfold vw at ho;refine aY.cutKM 2 113 [0,2,5] 4 (fun x:Int×Ts×PT×List PV=>[.own 0 0,.own 1 0,.own 3 0]) (fun x=>[some (.box [.p (.ro 3 LR),.p (pI x.1),.p (pB c.fn),.p (pB c.lp),.p (pB c.gn),.p (pB c.as_)] 39 (some t0)),some (.box [.p (pI 0),.p (pS ⟨#[]⟩),.p (pI 0),.p (pI 0),.p (.v (.slice none 0 0))] 25 none),some (.rows 5 [ra,rb,x.2.2.2] 25),some (.box [.p (pI 30),.p (pS ⟨#[]⟩),.p (pI 0),.p (pI 0),.osl 2 0 3] 25 none)]) (fun x=>bE n toks LR x.1 x.2.1/\NO c xa xb x.2.2.1 x.2.1=some o/\x.2.1.length<l3.length/\gM x.2.2.1=x.2.2.2) aN mixed (fun n=>match n with|23=>4|_=>0) (fun n=>match n with|23=>[3]|_=>[]) (fun n i=>match n,i with|23,3=>1|_,_=>0) (fun E=>eU E cK Tryz.f63.results.toList [t0] (iL o) (iE toks LR c o)) kR (fun P G E hc hM hE=>?_) ?_
  case' refine_1=>
   have fO:=gX hE;have fP:=IU hE;exact a8
  rintro⟨a4,l4,xd,rd⟩ ⟨h,ho,hl,px⟩
  simp only at h ho hl px;unfold NO at ho;refine aY.ofM aN mixed (fun n=>match n with|25=>5|_=>0) (fun n=>match n with|25=>[3]|_=>[]) (fun n i=>match n,i with|25,3=>1|25,4=>1|_,_=>0) kR (fun E=>eU E cK Tryz.f63.results.toList [t0] (iL o) (iE toks LR c o)) fun P G E hc hM hE=>?_
  have fO:=gX hE;have fP:=IU hE;exact a8
end
end Go.Proofs.YtjkcdcloomkooaaGreatDoor

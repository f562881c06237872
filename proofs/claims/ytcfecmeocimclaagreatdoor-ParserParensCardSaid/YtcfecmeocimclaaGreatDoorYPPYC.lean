/- Own work: ParserParens returns true. -/
import Derived.Test.YtcfecmeocimclaaGreatDoorYPA0
import Derived.Test.YtcfecmeocimclaaGreatDoorYPPYB
import Derived.Test.YtcfecmeocimclaaGreatDoorYPHI
namespace Go.Proofs.YtcfecmeocimclaaGreatDoor
open Go.RowKit
set_option maxRecDepth 100000
set_option linter.unusedSimpArgs false
set_option linter.unusedVariables false
theorem z55 {s:ByteArray} {T:Ts} {n:PT} (h:ExOk s T n) (hs:s.size<=60000):zfd n:=by
 have hl:=h.lex;unfold lxE at hl;have hc:=zn9 (l:=s.data.toList) (ts:=(zdp s.data.toList).1) (e:=(zdp s.data.toList).2) rfl;have hT:T.length=(zdp s.data.toList).1.length:=by rw [<-show (zdp s.data.toList).1.map er=T from congrArg Prod.fst hl,lLM]
 have:s.data.toList.length=s.size:=rfl
 exact znp _ (.assign cx0 T) (nLS _) ⟨show T.length<=1000000 by omega,trivial⟩ _ _ h.ex
theorem zk0 (s:ByteArray):RL 7 [pS s] (pB true):=by
 obtain ⟨n,hn⟩:∃ n:Int,((s.size:Nat):Int)=n:=⟨_,rfl⟩
 rcases (show 500 < n\/¬ 500 < n by omega) with h|h
 ·have hE0:=hn;refine ze7 zaa zbl mixed (fun n=>match n with|12=>28|_=>0) Tryz.func7 rfl (by kernel_rfl) (by kernel_rfl) rfl fun P G E hc hM hE=>?_
  have h1:=hc _ _ _ zhk;have z1:E.size s=n:=by rw [hE];exact hn
  have d1:E.lti 500 n=true:=by rw [hE];exact dT h
  clear hE hc hM hn h;cbv
  repeat (first|(refine ⟨_,h1,?_⟩;cbv)|(simp only [z1];cbv)|simp only [z1]|(simp only [d1];cbv)|simp only [d1])
 ·have hp:=ztn s (by omega)
  rcases zuq s with ⟨a,e,he,ho⟩|⟨T,x,hS⟩
  ·rw [ho] at hp;obtain ⟨k1,i1,o1,nm1,K1,ok1,ho1⟩:=zj3 ptZ a e;rw [ho1] at hp;refine ze7 zaa zbl mixed (fun n=>match n with|12=>28|_=>0) Tryz.func7 rfl (by kernel_rfl) (by kernel_rfl) rfl fun P G E hc hM hE=>?_
   have h1:=hc _ _ _ zhk;have z1:E.size s=n:=by rw [hE];exact hn
   replace hp:=hc _ _ _ hp;have d1:E.lti 500 n=false:=by rw [hE];exact dF h
   have d3:decide (e=0)=false:=dF he;clear hE hc hM hn h ho ho1;cbv at ok1;cbv
   repeat (first|(refine ⟨_,h1,?_⟩;cbv)|(simp only [z1];cbv)|simp only [z1]|(simp only [d1];cbv)|simp only [d1]|(refine ⟨_,hp,?_⟩;cbv)|(simp only [ok1];cbv)|simp only [ok1]|(simp only [d3];cbv)|simp only [d3])
  ·obtain ⟨Y,hY⟩:∃ x,⟨#[40]⟩++s=x:=⟨_,rfl⟩
   obtain ⟨X,hX⟩:∃ x,Y++⟨#[10,41]⟩=x:=⟨_,rfl⟩
   obtain ⟨Z,hZ⟩:∃ x,Y++⟨#[10,41,59]⟩=x:=⟨_,rfl⟩
   have hYs:Y.size=1 + s.size:=by rw [<-hY,ByteArray.size_append];rfl
   have hXs:X.size=Y.size + 2:=by rw [<-hX,ByteArray.size_append];rfl
   have hZs:Z.size=Y.size + 3:=by rw [<-hZ,ByteArray.size_append];rfl
   have hq:=ztn X (by omega)
   have hr:=zqs Z (by omega)
   have hw:=z55 hS (by omega)
   have hk:=zy7 hS;rw [hY,hX,hZ] at hk;have hsm:=zsq _ x x (nR _) hw hw;rw [znb] at hsm;obtain ⟨k,i,q,nm,K,hv⟩:=zi8 x;have ok:=hv.one;have hx:∀ a e,zgc x a e=.tup [.agg [pI k,pS nm,pI i,pI q,K],pI a,pI e]:=fun a e=>by unfold zgc;rw [hv.row]
   rw [hS.out,hx] at hp;rw [hv.row] at hsm
   rcases hk with hk|⟨hk,hk2⟩
   ·rw [hk] at hq;obtain ⟨k1,i1,o1,nm1,K1,ok1,ho1⟩:=zj3 ptZ 0 5;rw [ho1] at hq;obtain ⟨x2,a2,e2,hx2⟩:=zj1 scO Z;obtain ⟨k2,i2,o2,nm2,K2,ok2,ho2⟩:=zj3 x2 a2 e2;rw [hx2,ho2] at hr;refine ze7 zaa zbl mixed (fun n=>match n with|12=>28|_=>0) Tryz.func7 rfl (by kernel_rfl) (by kernel_rfl) rfl fun P G E hc hM hE=>?_
    have h1:=hc _ _ _ zhk;have z1:E.size s=n:=by rw [hE];exact hn
    have c1:E.cat ⟨#[40]⟩ s:=by rw [hE];show (1:Int) + ((s.size:Nat):Int)<=_;omega
    have e1:E.add ⟨#[40]⟩ s=Y:=by rw [hE];exact hY
    have c2:E.cat Y ⟨#[10,41]⟩:=by rw [hE];show ((Y.size:Nat):Int) + 2<=_;omega
    have e2:E.add Y ⟨#[10,41]⟩=X:=by rw [hE];exact hX
    have c3:E.cat Y ⟨#[10,41,59]⟩:=by rw [hE];show ((Y.size:Nat):Int) + 3<=_;omega
    have e3:E.add Y ⟨#[10,41,59]⟩=Z:=by rw [hE];exact hZ
    have d1:E.lti 500 n=false:=by rw [hE];exact dF h
    replace hp:=hc _ _ _ hp;replace hq:=hc _ _ _ hq;replace hr:=hc _ _ _ hr;clear hE hc hM hn h hYs hXs hZs hY hX hZ hS hw hk hsm hv hx ho1 hx2 ho2;cbv at ok;cbv at ok1;cbv at ok2;cbv
    repeat (first|(refine ⟨_,h1,?_⟩;cbv)|(simp only [z1];cbv)|simp only [z1]|(simp only [d1];cbv)|simp only [d1]|(refine ⟨_,hp,?_⟩;cbv)|(simp only [ok];cbv)|simp only [ok]|(refine ⟨c1,?_⟩;cbv)|(simp only [e1];cbv)|simp only [e1]|(refine ⟨c2,?_⟩;cbv)|(simp only [e2];cbv)|simp only [e2]|(refine ⟨_,hq,?_⟩;cbv)|(simp only [ok1];cbv)|simp only [ok1]|(refine ⟨c3,?_⟩;cbv)|(simp only [e3];cbv)|simp only [e3]|(refine ⟨_,hr,?_⟩;cbv)|(simp only [ok2];cbv)|simp only [ok2])
   ·rw [hk,hx] at hq
    rcases hk2 with hk2|hk2
    ·rw [hk2] at hr;obtain ⟨k1,i1,o1,nm1,K1,ok1,ho1⟩:=zj3 ptZ 0 5;rw [ho1] at hr;refine ze7 zaa zbl mixed (fun n=>match n with|12=>28|_=>0) Tryz.func7 rfl (by kernel_rfl) (by kernel_rfl) rfl fun P G E hc hM hE=>?_
     have h1:=hc _ _ _ zhk;have z1:E.size s=n:=by rw [hE];exact hn
     have c1:E.cat ⟨#[40]⟩ s:=by rw [hE];show (1:Int) + ((s.size:Nat):Int)<=_;omega
     have e1:E.add ⟨#[40]⟩ s=Y:=by rw [hE];exact hY
     have c2:E.cat Y ⟨#[10,41]⟩:=by rw [hE];show ((Y.size:Nat):Int) + 2<=_;omega
     have e2:E.add Y ⟨#[10,41]⟩=X:=by rw [hE];exact hX
     have c3:E.cat Y ⟨#[10,41,59]⟩:=by rw [hE];show ((Y.size:Nat):Int) + 3<=_;omega
     have e3:E.add Y ⟨#[10,41,59]⟩=Z:=by rw [hE];exact hZ
     have d1:E.lti 500 n=false:=by rw [hE];exact dF h
     replace hp:=hc _ _ _ hp;replace hq:=hc _ _ _ hq;replace hr:=hc _ _ _ hr;have h2:=hc _ _ _ (upL hsm);clear hE hc hM hn h hYs hXs hZs hY hX hZ hS hw hk hk2 hsm hv hx ho1;cbv at ok;cbv at ok1;cbv
     repeat (first|(refine ⟨_,h1,?_⟩;cbv)|(simp only [z1];cbv)|simp only [z1]|(simp only [d1];cbv)|simp only [d1]|(refine ⟨_,hp,?_⟩;cbv)|(simp only [ok];cbv)|simp only [ok]|(refine ⟨c1,?_⟩;cbv)|(simp only [e1];cbv)|simp only [e1]|(refine ⟨c2,?_⟩;cbv)|(simp only [e2];cbv)|simp only [e2]|(refine ⟨_,hq,?_⟩;cbv)|(refine ⟨c3,?_⟩;cbv)|(simp only [e3];cbv)|simp only [e3]|(refine ⟨_,hr,?_⟩;cbv)|(simp only [ok1];cbv)|simp only [ok1]|(refine ⟨_,h2,?_⟩;cbv))
    ·have ho:zgc (nd 42 [nd 26 [x]]) 0 0=.tup [.agg [pI 42,pS ⟨#[]⟩,pI 0,pI 0,.ro 5 [[pI 26,pS ⟨#[]⟩,pI 0,pI 0,.ro 5 [[pI k,pS nm,pI i,pI q,K]]]]],pI 0,pI 0]:=by
      unfold zgc nd;simp only [zbb,zan,zae,hv.row];rfl
     rw [hk2,ho] at hr;refine ze7 zaa zbl mixed (fun n=>match n with|12=>28|_=>0) Tryz.func7 rfl (by kernel_rfl) (by kernel_rfl) rfl fun P G E hc hM hE=>?_
     have h1:=hc _ _ _ zhk;have z1:E.size s=n:=by rw [hE];exact hn
     have c1:E.cat ⟨#[40]⟩ s:=by rw [hE];show (1:Int) + ((s.size:Nat):Int)<=_;omega
     have e1:E.add ⟨#[40]⟩ s=Y:=by rw [hE];exact hY
     have c2:E.cat Y ⟨#[10,41]⟩:=by rw [hE];show ((Y.size:Nat):Int) + 2<=_;omega
     have e2:E.add Y ⟨#[10,41]⟩=X:=by rw [hE];exact hX
     have c3:E.cat Y ⟨#[10,41,59]⟩:=by rw [hE];show ((Y.size:Nat):Int) + 3<=_;omega
     have e3:E.add Y ⟨#[10,41,59]⟩=Z:=by rw [hE];exact hZ
     have d1:E.lti 500 n=false:=by rw [hE];exact dF h
     replace hp:=hc _ _ _ hp;replace hq:=hc _ _ _ hq;replace hr:=hc _ _ _ hr;have h2:=hc _ _ _ (upL hsm);have n1:E.ofN 1=1:=by rw [hE];rfl
     have p0:E.ple 0 0:=by rw [hE];exact Int.le_refl 0
     have n0:E.nat 0=0:=by rw [hE];rfl
     have r1:([[pI k,pS nm,pI i,pI q,K]]:List (List PV))[E.nat 0]?=some [pI k,pS nm,pI i,pI q,K]:=by rw [n0];rfl
     have r2:([[pI 26,pS ⟨#[]⟩,pI 0,pI 0,.ro 5 [[pI k,pS nm,pI i,pI q,K]]]]:List (List PV))[E.nat 0]?=some [pI 26,pS ⟨#[]⟩,pI 0,pI 0,.ro 5 [[pI k,pS nm,pI i,pI q,K]]]:=by rw [n0];rfl
     clear hE hc hM hn h hYs hXs hZs hY hX hZ hS hw hk hk2 hsm hv hx ho;cbv at ok;cbv
     repeat (first|(refine ⟨_,h1,?_⟩;cbv)|(simp only [z1];cbv)|simp only [z1]|(simp only [d1];cbv)|simp only [d1]|(refine ⟨_,hp,?_⟩;cbv)|(simp only [ok];cbv)|simp only [ok]|(refine ⟨c1,?_⟩;cbv)|(simp only [e1];cbv)|simp only [e1]|(refine ⟨c2,?_⟩;cbv)|(simp only [e2];cbv)|simp only [e2]|(refine ⟨_,hq,?_⟩;cbv)|(refine ⟨c3,?_⟩;cbv)|(simp only [e3];cbv)|simp only [e3]|(refine ⟨_,hr,?_⟩;cbv)|(refine ⟨_,h2,?_⟩;cbv)|(simp only [n1];cbv)|simp only [n1]|(refine ⟨p0,_,r2,?_⟩;cbv)|(refine ⟨p0,_,r1,?_⟩;cbv))
end Go.Proofs.YtcfecmeocimclaaGreatDoor

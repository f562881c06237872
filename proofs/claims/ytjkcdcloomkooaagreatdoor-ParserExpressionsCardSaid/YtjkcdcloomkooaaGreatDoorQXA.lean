/- Own work: walks over values as data. -/
import Derived.KernelRfl
import Derived.Orders
import Derived.Tactics
import Derived.Below
import Derived.Maps.AppendAt
import Derived.WalkKit
import Derived.OwnWalk
import Derived.Laws.Cover4
import Derived.Laws.IdiomStrings
import Derived.Lib.ConvBytes
import Derived.Laws.NewBlocks
import Derived.Laws.MakeOwn
import Derived.Lib.AppendStr
namespace Go.Proofs.YtjkcdcloomkooaaGreatDoor
abbrev aA:=@decide_eq_true
abbrev aB:=@List.getElem?_eq_getElem
abbrev aC:=@List.getElem?_eq_some_iff
abbrev aD:=@Nat.le_of_ble_eq_true
abbrev aE:=@if_neg
abbrev aF:=@if_pos
abbrev aG:=@congrArg
abbrev aH:=@List.getElem?_map
abbrev aI:=@Nat.lt_of_lt_of_le
abbrev aJ:=@List.mem_of_getElem?
abbrev aK:=@List.getD_eq_getElem?_getD
abbrev aM:=@Bool.false_eq_true
abbrev aO:=@Nat.le_of_lt_succ
abbrev aP:=@Nat.zero_le
abbrev aQ:=@List.eq_nil_of_length_eq_zero
abbrev aR:=@List.all_eq_true
abbrev aS:=@Nat.le_trans
abbrev aV:=@List.length_pos_iff
abbrev bA:=@Option.some.inj
abbrev bB:=@Nat.lt_or_ge
abbrev bC:=@List.mem_cons_of_mem
abbrev bF:=@decide_eq_true_eq
abbrev bG:=@Bool.or_eq_true
abbrev bI:=@Bool.false_or
abbrev bM:=@List.getElem?_append_right
abbrev bP:=@Bool.true_and
abbrev bT:=@if_false
abbrev bU:=@Int.le_refl
abbrev bV:=@Option.some.injEq
abbrev bW:=@List.length_nil
abbrev bX:=@List.getElem?_set
abbrev bY:=@List.getElem?_cons_succ
abbrev bZ:=@List.cons_ne_nil
abbrev cA:=@List.append_nil
abbrev cB:=@Nat.zero_add
abbrev cC:=@List.mem_range
abbrev cD:=@Bool.false_and
abbrev cO:=@List.getElem?_append_left
abbrev cQ:=@List.drop_eq_getElem_cons
abbrev cR:=@List.mem_cons_self
abbrev cT:=@UInt8.toNat_inj
abbrev cW:=@List.drop_suffix
abbrev dA:=@Nat.le_of_lt
abbrev dH:=@Nat.mul_le_mul_right
abbrev dI:=@List.getElem?_drop
abbrev dJ:=@Bool.or_eq_false_iff
abbrev dK:=@Bool.true_or
abbrev eM:=@Array.getElem?_eq_getElem
abbrev eP:=@Array.toList_inj
abbrev eW:=@Bool.not_eq_true'
abbrev eX:=@Option.map_some
abbrev fE:=@if_true
abbrev fH:=@Array.getD_eq_getD_getElem?
abbrev fJ:=@List.mem_cons
abbrev fK:=@Bool.and_true
abbrev fM:=@decide_eq_decide
abbrev fQ:=@List.any_eq_true
abbrev fV:=@of_decide_eq_false
abbrev hY:=@List.mem_singleton
abbrev iB:=@List.mem_map
abbrev iM:=@Nat.eq_of_beq_eq_true
abbrev iQ:=@Ne.symm
abbrev jA:=@List.mem_of_mem_drop
abbrev jB:=@Array.getElem?_eq_some_iff
abbrev jE:=@Option.getD_some
abbrev jL:=@Classical.byContradiction
abbrev jZ:=@List.map_cons
abbrev kG:=@Bool.or_false
abbrev kV:=@List.mem_append
abbrev lB:=@Bool.false_ne_true
abbrev lL:=@decide_eq_false_iff_not
abbrev lM:=@Option.bind_eq_some_iff
abbrev lN:=@List.IsSuffix.length_le
abbrev mB:=@Nat.mul_comm
abbrev mC:=@List.take_of_length_le
abbrev mD:=@List.getElem?_set_self
abbrev mE:=@List.append_assoc
abbrev mF:=@Array.all_eq_true_iff_forall_mem
abbrev mR:=@Array.getElem?_setIfInBounds_ne
abbrev mZ:=@UInt8.le_iff_toNat_le
abbrev nA:=@List.mem_iff_getElem?
abbrev nG:=@Bool.not_eq_true
abbrev nU:=@List.getElem?_set_ne
abbrev oY:=@beq_eq_false_iff_ne
abbrev pQ:=@Nat.lt_trans
abbrev pT:=@Bool.or_true
abbrev qU:=@Nat.eq_zero_or_pos
abbrev qV:=@List.take_left
abbrev rS:=@List.getElem?_eq_none_iff
abbrev sP:=@UInt8.ofNat_toNat
abbrev tD:=@List.cons.inj
abbrev tE:=@Bool.eq_false_or_eq_true
abbrev uL:=@List.length_take
abbrev uM:=@List.length_eq_zero_iff
abbrev vL:=@List.map_nil
abbrev vM:=@List.drop_eq_nil_of_le
abbrev wX:=@UInt8.lt_iff_toNat_lt
abbrev wY:=@List.getElem?_toArray
abbrev wZ:=@Bool.and_eq_false_iff
abbrev yI:=@Option.map_map
abbrev yJ:=@Bool.and_false
abbrev ba:=@List.getElem?_range
abbrev bc:=@List.getD_cons_zero
abbrev be:=@List.getD_cons_succ
abbrev cw:=@Bool.not_true
abbrev f9:=@List.getElem?_take
abbrev fa:=@Bool.not_eq_false'
abbrev jr:=@decide_false
abbrev js:=@Nat.lt_trichotomy
abbrev jt:=@Nat.add_zero
abbrev ju:=@List.take_add_one
abbrev jv:=@List.any_eq_false
abbrev jw:=@Classical.not_not
abbrev jx:=@Bool.eq_false_iff
abbrev na:=@List.suffix_refl
abbrev nc:=@List.not_mem_nil
abbrev nf:=@List.getElem_mem
abbrev ng:=@List.eq_nil_iff_forall_not_mem
abbrev rh:=@decide_true
abbrev ri:=@Prod.mk.inj
abbrev u9:=@List.mem_filter
abbrev ua:=@List.foldl_cons
abbrev ub:=@List.find?_cons
abbrev AZ:=@not_or
abbrev BA:=@List.mapM_cons
abbrev BB:=@Int.fdiv_eq_ediv_of_nonneg
abbrev GI:=@Array.mapM_eq_mapM_toList
abbrev KR:=@Option.isSome_iff_exists
abbrev KS:=@List.any_cons
abbrev VF:=@Int.eq_ofNat_of_zero_le
abbrev B7:=@Option.map_eq_some_iff
abbrev B8:=@Nat.succ_pos
abbrev B9:=@Nat.succ_mul
abbrev Ba:=@Nat.add_comm
abbrev Bb:=@List.map_map
abbrev Bc:=@List.length_eq_one_iff
abbrev Bd:=@Int.lt_or_le
abbrev Be:=@Array.getElem?_eq_none
theorem Uk{p:Prop}(h:p:=by
 refine zZ aN kH (f:=94) Tryz.func94 rfl kR (oT kR) ?_
 refine aY.cutK 3 114 [0,1,4,7,8] 2 (fun _:Unit=>[.p (pS s),.p (pI a),.own 0 0,.own 1 0,.p (.v (.int .u8 zq))]) (fun _=>[some lY,some (pG 0 ⟨#[]⟩ a)]) (fun _=>True) aN mixed (fun _=>0) (fun E=>jF E cK Tryz.f94.results.toList (.tup [.agg [pI 0,pS ⟨#[]⟩,pI 0],pI a,pI 4])) kR ?_ ?_
 ·exact JT
 intro _ _
 refine aY.never ?_
 refine aY.block ?_
 refine aY.cut 114 [0,1,4,7,8,19] 2 (fun _:Unit=>[.p (pS s),.p (pI a),.own 0 0,.own 1 0,.p (.v (.int .u8 zq)),.p (pB false)]) (fun _=>[some lY,some (pG 0 ⟨#[]⟩ a)]) (fun _=>True) ?_ ?_
 ·exact RH
 intro _ _
 refine aY.condF rfl ?_
 refine aY.cut 114 [0,1,4,7,8,53] 2 (fun _:Unit=>[.p (pS s),.p (pI a),.own 0 0,.own 1 0,.p (.v (.int .u8 zq)),.p (pB false)]) (fun _=>[some lY,some (pG 0 ⟨#[]⟩ a)]) (fun _=>True) ?_ ?_
 ·exact RI
 intro _ _
 refine aY.condF rfl ?_
 refine aY.cut 114 [0,1,4,7,8,75] 2 (fun _:Unit=>[.p (pS s),.p (pI a),.own 0 0,.own 1 0,.p (.v (.int .u8 zq)),.p (pB true)]) (fun _=>[some lY,some (pG 0 ⟨#[]⟩ a)]) (fun _=>True) ?_ ?_
 ·exact Gt
 intro _ _
 refine aY.condT rfl ?_
 refine aY.of aN mixed (fun _=>0) kR (fun E=>km 0 (nB (fun _ _=>False) (jF E cK Tryz.f94.results.toList (.tup [.agg [pI 0,pS ⟨#[]⟩,pI 0],pI a,pI 4])))) fun P G E hc hM hE=>?_
 replace uI:=hc _ _ _ uI
 clear hE hc hM jY nF hn hq eC
 cbv
 exact mP trivial):p:=h
theorem Uj{p:Prop}(h:p:=by
 refine zZ aN kH (f:=94) Tryz.func94 rfl kR (oT kR) ?_
 refine aY.cutK 3 114 [0,1,4,7,8] 2 (fun _:Unit=>[.p (pS s),.p (pI a),.own 0 0,.own 1 0,.p (.v (.int .u8 zq))]) (fun _=>[some lY,some (pG 0 ⟨#[]⟩ a)]) (fun _=>True) aN mixed (fun _=>0) (fun E=>jF E cK Tryz.f94.results.toList (.tup [.agg [pI 4,pS T,pI a],pI e1,pI 0])) kR ?_ ?_
 ·exact JT
 intro _ _
 refine aY.never ?_
 refine aY.block ?_
 refine aY.cut 114 [0,1,4,7,8,19] 2 (fun _:Unit=>[.p (pS s),.p (pI a),.own 0 0,.own 1 0,.p (.v (.int .u8 zq)),.p (pB false)]) (fun _=>[some lY,some (pG 0 ⟨#[]⟩ a)]) (fun _=>True) ?_ ?_
 ·exact RH
 intro _ _
 refine aY.condF rfl ?_
 refine aY.cut 114 [0,1,4,7,8,53] 2 (fun _:Unit=>[.p (pS s),.p (pI a),.own 0 0,.own 1 0,.p (.v (.int .u8 zq)),.p (pB false)]) (fun _=>[some lY,some (pG 0 ⟨#[]⟩ a)]) (fun _=>True) ?_ ?_
 ·exact RI
 intro _ _
 refine aY.condF rfl ?_
 refine aY.cut 114 [0,1,4,7,8,75] 2 (fun _:Unit=>[.p (pS s),.p (pI a),.own 0 0,.own 1 0,.p (.v (.int .u8 zq)),.p (pB true)]) (fun _=>[some lY,some (pG 0 ⟨#[]⟩ a)]) (fun _=>True) ?_ ?_
 ·exact Gt
 intro _ _
 refine aY.condT rfl ?_
 refine aY.of aN mixed (fun _=>0) kR (fun E=>km 0 (nB (fun _ _=>False) (jF E cK Tryz.f94.results.toList (.tup [.agg [pI 4,pS T,pI a],pI e1,pI 0])))) fun P G E hc hM hE=>?_
 replace uI:=hc _ _ _ uI
 clear hE hc hM jY nF hn hq eC
 cbv
 exact mP trivial):p:=h
theorem Ui{p:Prop}(h:p:=by
 refine⟨⟨rfl,rfl,rfl,nR _,fun _ _ _=>rfl⟩,xf,by rw[IH,eD,hlen],fun k b c s h1 h2=>?_,fun k k' b b' c s s' h1 h2 h3 h4=>?_⟩
 ·refine⟨fun c' e=>.inl ⟨k,b,s,h1,by rw[h2,e]⟩,?_⟩
  obtain⟨l,hl,hi⟩:=xw k _ h2;obtain⟨b2,b0,h3,h0,hs,t,ht,hb⟩:=xQ k b l h1 hl;have xR:=(hR.blk l b2 c s h3 hi).2;have TO:=WZ jh h0;have nX:∀(k' c':Nat)(s':Nat×Nat),k'<σ.length->ι[lV σ H.length k']?=some (some c',s')->ιc[k']?=some (some c',s'):=fun k' c' s' AL hx=>by
   have hσk:σ[k']?=some σ[k']:=aB AL;obtain⟨x,ld,ag⟩:=xu k' _ hσk;unfold lV at hx
   grind
  cases b2 with
  |box cs t2 g2=>
   cases b0 with
   |box cs0 t0 g0=>
    obtain⟨rfl,rfl,_⟩:=hs;simp only[zk,bV]at hb;subst hb;obtain⟨⟨yX,hg⟩,c',arr,ec,hh,dM,dB⟩:=xR;refine⟨⟨yX,fun n e=>?_⟩,c',arr,ec,hh,by rw[dM,df],fun j a ha=>?_⟩
    ·grind
    ·obtain⟨v,hv,vK,hr⟩:=dB j (a.ren _) RE
     exact⟨v,hv,vK,hr.unren nX (fun b hb _=>px b hb) a rfl (dc TO ha)⟩
   |rows s0 rs0 t0=>cases hs
   |iter s0 p0=>cases hs
  |rows s2 rs2 t2=>
   cases b0 with
   |box cs0 t0 g0=>cases hs
   |rows s0 rs0 t0=>
    cases hs
    cases hb
    obtain⟨e,tW,hh⟩:=xR;refine⟨e,tW,?_⟩
    rcases hh with hh|⟨c',arr,ec,hh,hz,dB⟩
    ·exact .inl hh
    ·refine .inr ⟨c',arr,ec,hh,hz,fun i j row a g1 g2=>?_⟩
     obtain⟨v,hv,vK,hr⟩:=dB i j row a g1 g2;exact⟨v,hv,vK,hr.keep (nR _) fun b hb _=>⟨px b hb,rfl⟩⟩
   |iter s0 p0=>cases hs
  |iter s2 p2=>
   cases b0 with
   |box cs0 t0 g0=>cases hs
   |rows s0 rs0 t0=>cases hs
   |iter s0 p0=>
    cases hs
    cases hb
    exact xR
 ·obtain⟨l,hl,hi⟩:=xw k _ h3;obtain⟨l',nM,sX⟩:=xw k' _ h4;obtain⟨b2,_,g1,_⟩:=xQ k b l h1 hl;obtain⟨b3,_,g2,_⟩:=xQ k' b' l' h2 nM
  have:=hR.inj l l' b2 b3 c s s' g1 g2 hi sX
  subst this;have e1:=(o6 hσ hl).1;rw[(o6 hσ nM).1]at e1
  grind):p:=h
theorem Hm{p:Prop}(h:p:=by
 have dG:rO t=2:=zt
 rw[dG]at g6
 have w1:=eqs jD
 have w2:=eqs uD
 have w3:=eqs nS
 have w4:=eqs eG
 have w5:=eqs xB
 have w6:=eqs uC
 rw[hw]at w1 w2 w3 w4 w5 w6
 cbv at w1 w2 w3 w4 w5 w6
 replace g4:((m:Nat):Int)=op:=g4
 replace g9:((tm:Nat):Int)=tp:=g9
 obtain⟨op2,vZ⟩:∃x,op-1=x:=⟨_,rfl⟩
 have eo:E.wsub .i64 op 1=op2:=zr
 obtain⟨op3,qb⟩:∃x,E.max op2 0=x:=⟨_,rfl⟩
 have xe:((m-1:Nat):Int)=op3:=ZT
 have hx:lb toks q (i2,op3,tp,l,m-1,tm):=⟨n1,n2,n3,xe,g9,by grind,g6,g8⟩
 have hy:=oU op3 tp (m-1) tm
 cbv
 refine aa ?_
 exact .mk _ r5 hx hy):p:=h
theorem Hl{p:Prop}(h:p:=by
 have dG:rO t=1:=zt
 rw[dG]at g6
 have w1:=eqs jD
 have w2:=eqs uD
 have w3:=eqs nS
 rw[hw]at w1 w2 w3
 cbv at w1 w2 w3
 replace g4:((m:Nat):Int)=op:=g4
 replace g9:((tm:Nat):Int)=tp:=g9
 obtain⟨op2,vZ⟩:∃x,op+1=x:=⟨_,rfl⟩
 have eo:E.wadd .i64 op 1=op2:=zr
 obtain⟨op3,qb⟩:∃x,E.max tp op2=x:=⟨_,rfl⟩
 have xe:((max tm (m+1):Nat):Int)=op3:=by rw[<-qb,hE];show _=if op2>tp then op2 else tp;split<;>omega
 have hx:lb toks q (i2,op2,op3,l,m+1,max tm (m+1)):=⟨n1,n2,n3,by grind,xe,by grind,g6,by grind⟩
 have hy:=oU op2 op3 (m+1) (max tm (m+1))
 cbv
 refine aa ?_
 exact .mk _ r5 hx hy):p:=h
theorem Uh{p:Prop}(h:p:=by
 refine aY.block ?_
 refine aY.cut 114 [0,1,4,7,8,19] 2 (fun _:Unit=>[.p (pS s),.p (pI a),.own 0 0,.own 1 0,.p (.v (.int .u8 zq)),.p (pB false)]) (fun _=>[some lY,some (pG 0 ⟨#[]⟩ a)]) (fun _=>True) ?_ ?_
 ·exact RH
 intro _ _
 refine aY.condF rfl ?_
 refine aY.cut 114 [0,1,4,7,8,53] 2 (fun _:Unit=>[.p (pS s),.p (pI a),.own 0 0,.own 1 0,.p (.v (.int .u8 zq)),.p (pB false)]) (fun _=>[some lY,some (pG 0 ⟨#[]⟩ a)]) (fun _=>True) ?_ ?_
 ·exact RI
 intro _ _
 refine aY.condF rfl ?_
 refine aY.cut 114 [0,1,4,7,8,75] 2 (fun _:Unit=>[.p (pS s),.p (pI a),.own 0 0,.own 1 0,.p (.v (.int .u8 zq)),.p (pB false)]) (fun _=>[some lY,some (pG 0 ⟨#[]⟩ a)]) (fun _=>True) ?_ ?_
 ·exact Gt
 intro _ _
 refine aY.condF rfl ?_
 refine aY.of0 aN mixed (fun _=>0) kR fun P G E hc hM hE=>?_
 clear hE hc hM nT
 cbv
 exact .mk () r5 trivial):p:=h
theorem Hk{p:Prop}(h:p:=by
 replace v5:decide (k=5)=false:=dF v5
 replace v11:decide (k=11)=false:=dF v11
 replace v31:decide (k=31)=false:=dF v31
 replace v12:decide (k=12)=false:=dF v12
 replace v13:decide (k=13)=false:=dF v13
 replace v14:decide (k=14)=false:=dF v14
 replace v16:decide (k=16)=false:=dF v16
 replace v17:decide (k=17)=false:=dF v17
 replace v6:decide (k=6)=false:=dF v6
 replace v7:decide (k=7)=false:=dF v7
 replace v18:decide (k=18)=false:=dF v18
 replace v38:decide (k=38)=false:=dF v38
 replace v40:decide (k=40)=false:=dF v40
 replace v41:decide (k=41)=false:=dF v41
 exact EJ):p:=h
theorem Ug{p:Prop}(h:p:=by
 cbv
 (repeat (first|(simp only[on1,on2,on3];cbv)|(simp only[ok];cbv)|(simp only[ok2];cbv)|(simp only[ok3];cbv)|(simp only[ek];cbv)|(simp only[ek2];cbv)|(simp only[ek3];cbv)|(simp only[hw];cbv)|(simp only[eb];cbv)|(simp only[fO.s1,fO.s2,fO.s3];cbv)|(simp only[fO.a2,fO.a3,fO.n2,fO.n3];cbv)|(refine⟨(fO.room _ _ _ aT aT),?_⟩;cbv)|(refine⟨(fO.pre _ _ rfl),?_⟩;cbv)|(simp only[fP.n0,fP.n1,fP.n2,fP.m0,fP.m1,fP.m2,fP.w0,fP.w1,fP.w2,fP.a4,fP.s4,fP.n4,fP.o3];cbv)|(refine⟨_,rfl,nR 5,?_⟩;cbv)|(refine⟨fP.p0,?_⟩;cbv)|(refine⟨fP.p1,?_⟩;cbv)|(refine⟨fP.p2,?_⟩;cbv)|(refine⟨fP.q0,?_⟩;cbv)|(refine⟨fP.q1,?_⟩;cbv)|(refine⟨fP.q2,?_⟩;cbv)|(simp only[l0];cbv)|(simp only[fA.add,fA.app,fA.sub];cbv)|(simp only[fB6];cbv)|(refine⟨fA.pre,fA.room,?_⟩;cbv)|(refine⟨fA.pre,?_⟩;cbv)|(refine⟨fA.room,?_⟩;cbv)|(refine⟨fB5,?_⟩;cbv)))
 all_goals trivial):p:=h
theorem Uf{p:Prop}(h:p:=by
 change V0 _ [.v (.int .u8 ((d.toNat:Nat):Int))] _ at oI
 rw[hy]at oI
 refine dE aN dO mixed (fun n=>match n with|22=>11|_=>0) Tryz.func124 rfl kR kR rfl fun P G E hc hE=>?_
 have z1:E.size s=n:=iS
 have d1:E.lei n a=false:=fl
 have p1:E.ple 0 a:=wT
 have g1:E.get s (E.nat a)=some z:=by
  exact fm
 replace oI:=hc _ _ _ oI;have w1:E.wadd .i64 a 1=a1:=wc
 have d2:E.lti a1 n=true:=ZO
 have p2:E.ple 0 a1:=ZM
 have g2:E.get s (E.nat a1)=some y:=by
  rw[hE];show(s.data.toList[a1.toNat]?).map _=some y
  grind
 clear hE hc hn aU hA eE hz dR eS he sY ht kS rG hB wG hy jm hq e110 e116 e114 e98 e92 e34 e39 e48
 exact nI):p:=h
theorem Hj{p:Prop}(h:p:=by
 rintro e a w ⟨env,H,h,hS⟩
 cases e with
 |exit i=>
  simp only[km]at h;simp only[Exit.inBlock]
  split at h
  ·rename_i e;rw[aF e];exact⟨env,H,h,hS⟩
  ·rename_i e;rw[aE e];exact⟨env,H,h,hS⟩
 |normal=>exact⟨env,H,h,hS⟩
 |goto l=>exact⟨env,H,h,hS⟩
 |ret=>exact⟨env,H,h,hS⟩
 |panic c=>exact⟨env,H,h,hS⟩
 |outgrown=>exact⟨env,H,h,hS⟩):p:=h
theorem Ue{p:Prop}(h:p:=by
 have cU:ni (oZ u)=true:=by
  unfold ni
  grind
 rw[aF ⟨h5,by omega,by omega,cU⟩]at qR
 have dY:=gA _ _ qR
 have eS:=qZ s (j+1)
 obtain⟨O,hO⟩:∃x,bL (uB (oZ u))=x:=⟨_,rfl⟩
 obtain⟨f,hf⟩:∃x:Int,j+1=x:=⟨_,rfl⟩
 obtain⟨g,hg⟩:∃x:Int,f-a=x:=⟨_,rfl⟩
 have oV:n-((bD s (j+1)).length:Nat)-a=g:=dU
 rw[oV,hO]at dY
 have ej1:=eadd j 1 oM oM oM oM
 rw[hf]at ej1
 have es3:=esub f a oM oM oM oM
 rw[hg]at es3
 have ew:=ewrp acc oM oM
 have een:E.enc acc=O:=by rw[EU,eenc,hO]
 subst dY
 clear cY gA aU zA elt ege eple eget eadd emul esub ewrp eenc eenc0 fZ gG lA cd KD EU oB uV hx hy yV hn th gy kS rG GB gw gv qR eS hO hf hg oV cU
 exact nI):p:=h
theorem Ud{p:Prop}(h:p:=by
 refine⟨rfl,by simp;omega,(fun t v h=>by cases h),[],⟨.of (Gr.refl _),fun b hb=>.inr hb,rfl,fun k b c s h1=>by simp at h1,fun k l b b' c s s' h1=>by simp at h1⟩,?_⟩
 have:=MG (w:=w) (ι:=[]) (R:=Rd (fun b=>B b\/w.heap.size<=b) [] []) (as:=as.map .p) (args:=args) (nt:=fn.ntmps) we (by simpa using hlen) fun j a v ha hv=>by
  rw[aH]at ha
  cases hj:as[j]? with
  |none=>rw[hj]at ha;cases ha
  |some p=>
   rw[hj]at ha;cases ha
   refine .p _ _ ((dW j p v hj hv).keep (nR _) fun b hb _=>⟨⟨.inl hb,?_⟩,rfl⟩)
   rintro⟨k,b',s,h1,_⟩
   simp at h1
 exact pc):p:=h
theorem Uc{p:Prop}(h:p:=by
 subst hv
 rcases f48 with f48|⟨f48,d2⟩
 all_goals
  clear aU eY gW elt eple eget eadd eext hn hq eC dY qK uK fZ gG lA jb tq hs nP oW lW kS ht n7 nX jI uV nN eE hz dR sZ qG uS hT jV b7 cq ah ar;cbv
  repeat (first|(simp only[z1];try cbv)|(simp only[d1];try cbv)|(refine⟨p1,_,g1,?_⟩;cbv)|(refine⟨_,nF,?_⟩;cbv)|(refine⟨p0,_,g0,?_⟩;cbv)|(simp only[f48];try cbv)|(simp only[ei];try cbv)|(simp only[d2];try cbv)|(refine⟨p1,_,g1,?_⟩;cbv)|(refine⟨_,jY,?_⟩;cbv)|(refine⟨p0,p3,p4,?_⟩;cbv)|(simp only[x1];try cbv)|(refine⟨_,hp,?_⟩;cbv))):p:=h
theorem Ub{p:Prop}(h:p:=by
 have e:YR (decide ((97:Int)<=(c.toNat:Nat))) (decide (((c.toNat:Nat):Int)<=122)) (decide ((65:Int)<=(c.toNat:Nat))) (decide (((c.toNat:Nat):Int)<=90)) (decide (((c.toNat:Nat):Int)=95)) (decide (((c.toNat:Nat):Int)=36))=oP c:=by
  have key:=aR.1 (show((List.range 256).all fun n=>YR (decide ((97:Int)<=(n:Nat))) (decide (((n:Nat):Int)<=122)) (decide ((65:Int)<=(n:Nat))) (decide (((n:Nat):Int)<=90)) (decide (((n:Nat):Int)=95)) (decide (((n:Nat):Int)=36))==oP (UInt8.ofNat n))=true by decide +kernel) c.toNat (cC.2 c.toNat_lt)
  simp_all
 rw[e]at h
 exact h):p:=h
theorem Ua{p:Prop}(h:p:=by
 cases hk:σ[k]? with
 |some l=>
  rw[UD k l hk];have uW:=(o6 hσ hk).2;rw[cO (by rw[CN,hR.len];exact uW),Dl]
  obtain⟨y,hy⟩:=hιl l uW;rw[hy];simp[(o6 hσ hk).1,aK,hx]
 |none=>
  have qJ:σ.length<=k:=zo
  unfold lV;rw[hk];simp only;rw[bM (by rw[CN,hR.len];omega),CN,hR.len,dI,show σ.length+(H.length+(k-σ.length)-H.length)=k by omega]
  exact hx):p:=h
theorem U9{p:Prop}(h:p:=by
 subst hv
 rcases f48 with f48|⟨f48,d2⟩
 all_goals
  clear aU eY gW elt eple eget eadd eext hn hq eC dY qK uK fZ gG lA jb tq hs nP oW lW kS ht n7 nX jI uV nN mN qG uS hT jV b7 cq ah;cbv
  repeat (first|(simp only[z1];try cbv)|(simp only[d1];try cbv)|(refine⟨p0,_,g0,?_⟩;cbv)|(simp only[f48];try cbv)|(simp only[ei];try cbv)|(simp only[d2];try cbv)|(refine⟨p0,p3,p4,?_⟩;cbv)|(simp only[x1];try cbv)|(refine⟨_,hp,?_⟩;cbv))):p:=h
theorem U8{p:Prop}(h:p:=by
 obtain⟨b0,h0,h1⟩:=HU tags Hc k _ hb
 have lI:k<tags.length:=aZ
 rcases h1 with⟨c,hc,e⟩|⟨hc,_⟩
 ·cases b0 with
  |none=>cases e
  |some b0=>
   have hp:=aG (fun L=>L[k]?) AF
   simp only[aH,hk,h0,eX,bV,bh]at hp;rw[aK]at hp
   cases hH:H[l]? with
   |none=>rw[hH]at hp;cases hp
   |some ob=>
    rw[hH]at hp
    cases ob with
    |none=>cases hp
    |some b2=>grind
 grind):p:=h
theorem U7{p:Prop}(h:p:=by
 refine⟨by show 0<=e1;omega,by show e1<=n;omega,done++[⟨k,t,r.length⟩],?_,?_,?_,?_,?_⟩
 ·show RS2=_;rw[<-dS,zpo,dQ];show _=lF n done++[[pI k,pS (bL t),pI (n-(r.length:Nat))]];rw[hT,hf]
 ·show(done++[_]).length=m1;rw[sE,hm];exact nZ
 ·show(((done++[(⟨k,t,r.length⟩:Tk)]).length:Nat):Int)<=e1;rw[sE,G7];omega
 ·show TS=(done++[_])++(mO (bD s e1)).1;rw[oC,<- mV];simp
 ·show ER=(mO (bD s e1)).2;rw[pP,<- mV]):p:=h
theorem U6{p:Prop}(h:p:=by
 have k1:E.lei 97 z=decide (97<=z):=fS
 rw[h1]at k1;have k2:E.lei z 122=decide (z<=122):=fS
 rw[h2]at k2;have k3:E.lei 65 z=decide (65<=z):=fS
 rw[h3]at k3;have k4:E.lei z 90=decide (z<=90):=fS
 rw[h4]at k4
 clear hE h1 h2 h3 h4
 cbv
 repeat (first|(simp only[k1];cbv)|(simp only[k2];cbv)|(simp only[k3];cbv)|(simp only[k4];cbv)|(simp only[h5];cbv)|(simp only[h6];try cbv))):p:=h
theorem U5{p:Prop}(h:p:=by
 have h1:((List.range k).filter fun x=>!(listed.setIfInBounds i true).getD x false)=((List.range k).filter fun x=>!listed.getD x false).erase i:=by
  have dv:((List.range k).filter fun x=>!listed.getD x false).Nodup:=List.Pairwise.filter _ List.nodup_range
  rw[List.Nodup.erase_eq_filter dv,List.filter_filter];refine List.filter_congr fun x _=>?_
  by_cases mU:i=x
  ·simp_all
  ·rw[getD_set_ne false mU]
   grind
 grind):p:=h
theorem RU{p:Prop}(h:p:=by
 refine .mk (E.wadd .i64 i 1) r5 ?_ ?_
 ·exact lU
 ·exact hM):p:=h
theorem U4{p:Prop}(h:p:=by
 obtain⟨rr,dZ⟩:∃rr,lD o=rr:=⟨_,rfl⟩
 obtain⟨HH,gQ⟩:∃HH,iC toks LR o=HH:=⟨_,rfl⟩
 rw[dZ,gQ]
 obtain⟨M,mY⟩:∃M:Int,((toks.length:Nat):Int)=M:=⟨_,rfl⟩
 refine nQ Tryz.func75 rfl kR (fun n=>match n with|10=>5|_=>0) (fun n=>match n with|10=>[3]|_=>[]) (fun n i=>match n,i with|10,3=>1|10,4=>1|_,_=>0) kR rfl fun t0 P G E hc hM hE=>?_
 exact zu):p:=h
theorem Hi{p:Prop}(h:p:=by
 have dY:=cY qR
 subst dY
 clear cY gA aU zA elt ege eple eget eadd emul esub ewrp eenc eenc0 fZ gG lA cd KD EU oB uV hx hy yV hn th gy kS rG GB gw gv qR
 exact nI):p:=h
theorem JX{p:Prop}(h:p:=by exact fin _ h fun w=>by simp only[binOp,ne_eq,not_true_eq_false,bT,Op.intCmp];rfl):p:=h
theorem U3{p:Prop}(h:p:=by
 intro P G E hc hM hE
 replace jY:=hc _ _ _ jY
 replace nF:=hc _ _ _ nF
 replace uI:=hc _ _ _ uI
 clear hE hc hM hR nP eS fx hn hq eC h1
 rcases hf with⟨f1,f2⟩|⟨f1,f2⟩
 all_goals
  cbv
  repeat (first|(refine⟨_,jY,?_⟩;cbv)|(refine⟨_,nF,?_⟩;cbv)|(simp only[f1];try cbv)|(simp only[f2];try cbv)|(refine⟨_,uI,?_⟩;cbv)|(simp only[f3];try cbv))):p:=h
theorem rB{p:Prop}(h:p:=by
 cbv
 exact mP trivial):p:=h
theorem af{p:Prop}(h:p:=by
 obtain⟨h1,h2⟩:=h
 exact zI):p:=h
theorem Hp{p:Prop}(h:p:=by
 have hB:=fy
 simp only[ov,gH,p9,PP,bF]at hB
 rcases bB i all.toArray.size with h|h
 ·exact hB.1.1 i h d hd
 ·simp[jG,Be h]at hd):p:=h
theorem Un{p:Prop}(h:p:=by
 subst hv
 rw[hg]at uX
 clear d2
 rcases KJ with hb|⟨hb,d2⟩
 all_goals
  rw[hb]at f48;clear eY elt eple eget eadd hs hμ uY hd US xy jI dX rF n8 xz FW wF nZ vW nK fv xi;cbv
  repeat (first|(simp only[z2];try cbv)|(simp only[d1];try cbv)|(simp only[f48];try cbv)|(simp only[d2];try cbv)|(refine⟨_,uX,?_⟩;cbv))):p:=h
theorem EM{p:Prop}(h:p:=by
 rw[hE]
 show(s.data.toList[0]?).map _=some z
 rw[dB,<- hz]
 rfl):p:=h
theorem Um{p:Prop}(h:p:=by
 refine⟨fun a w=>if h:∃n,∃env H,I n env H/\St w0 B nt env H a w then Classical.choose (VG h)else 0,fun a w ly=>?_,fun a w k env H h1 h2=>?_⟩
 ·grind
 ·have ly:∃n,∃env H,I n env H/\St w0 B nt env H a w:=⟨_,env,H,h1,h2⟩
  simp only[ly,dif_pos];exact(Classical.choose_spec (VG ly)).2 _ ⟨env,H,h1,h2⟩):p:=h
theorem Ul{p:Prop}(h:p:=by
 have e:(decide ((48:Int)<=(c.toNat:Nat))&&decide (((c.toNat:Nat):Int)<=57))=eH c:=by
  have key:=aR.1 (show((List.range 256).all fun n=>(decide ((48:Int)<=(n:Nat))&&decide (((n:Nat):Int)<=57))==eH (UInt8.ofNat n))=true by decide +kernel) c.toNat (cC.2 c.toNat_lt)
  simp_all
 rw[e]at h
 exact h):p:=h
theorem Ho{p:Prop}(h:p:=by
 intro l
 induction l with
 |nil=>intro _;trivial
 |cons p l ih=>
  intro hl;obtain⟨n,x⟩:=p;exact⟨rfl,hl n x jT,ih fun n x hx=>hl n x (by simp[hx])⟩):p:=h
theorem RW{p:Prop}(h:p:=by
 have:=(aC.1 hq).1
 have e:s.data.toList.length=s.size:=rfl
 omega):p:=h
theorem zw{p:Prop}(h:p:=by
 obtain⟨h1,h2⟩:=h
 obtain⟨h2,h3⟩:=h2
 exact zI):p:=h
theorem Hn{p:Prop}(h:p:=by
 simp only[execOp,ho,resolve,hc,hf,Deferred.ofValue,Sem.run_bind,Sem.run_pure,Result.andThen_ok,invoke]
 have:=hr.1 (#[]++c.args.map ρ++#[]) w
 exact pc):p:=h
theorem JV{p:Prop}(h:p:=by
 rw[hE]
 show(s.data.toList[i.toNat]?).map _=some z
 rw[h,<- hz]
 rfl):p:=h
theorem Ty{p:Prop}(h:p:=by
 have qK:ni (oZ u)=false:=by
  unfold ni
  grind
 rw[aE (fun h=>by grind)]at qR
 have dY:=cY qR
 subst dY
 clear cY gA aU zA elt ege eple eget eadd emul esub ewrp eenc eenc0 fZ gG lA cd KD EU oB uV hx hy yV hn th gy kS rG GB gw gv qR qK
 exact nI):p:=h
theorem Tx{p:Prop}(h:p:=by
 rw[aK]at e
 cases hx:H[l']? with
 |none=>rw[hx]at e;cases e
 |some ob=>
  rw[hx]at e
  cases ob with
  |none=>cases e
  |some bb=>
   cases bb with
   |box cs2 t2 g2=>simp[LG]at e;subst e;exact⟨cs2,t2,rfl⟩
   |rows a b c=>cases e
   |iter a b=>cases e):p:=h
theorem Tw{p:Prop}(h:p:=by
 refine⟨dM,fun b hb cJ=>⟨⟨hb.1,fun ho=>?_⟩,Ay b cJ fun ho=>hb.2 (vX b ho)⟩,fun l c s hp hi=>?_⟩
 ·rcases q9 b ho with⟨l,b0,s,_,h1,h2⟩|ho
  ·exact hb.2 ⟨l,b0,s,h1,h2⟩
  ·rcases lT.ge ho with ho|ho
   ·exact hb.2 (vX b ho)
   grind
 grind):p:=h
theorem Tv{p:Prop}(h:p:=by
 have h3:=gB.2
 rw[vH]at h3
 simp only[bG,aM,false_or]at h3
 rcases h3 with h3|h3
 ·simp_all
 ·rw[fQ]at h3;obtain⟨d,hd,hle⟩:=h3;have h4:=hJ.lok d aZ (gL d hd)
  have:=aD hle
  omega):p:=h
theorem EL{p:Prop}(h:p:=by
 rw[hE]
 refine dF fun e=>?_
 rw[e]at dB
 cases dB):p:=h
theorem Tu{p:Prop}(h:p:=by
 cbv
 refine mP ?_
 refine⟨(.mk vR),p1,p2,p3,(.mk vR),p1,p2,p3,(.mk vR),?_⟩
 exact .mk () r5 trivial):p:=h
theorem A4{p:Prop}(h:p:=by exact fin _ h fun w=>by rw[show bK.eq a b=(a.toList==b.toList)from(zlq a b).symm];rfl):p:=h
theorem A3{p:Prop}(h:p:=by
 obtain⟨m,h⟩:=h
 exact⟨m,fun k hk=>by rw[RP.run,aF ⟨rfl,hi⟩];exact h k hk⟩):p:=h
theorem Tt{p:Prop}(h:p:=by
 rw[aK]at hm
 cases hx:L[m]? with
 |none=>rw[hx]at hm;cases hm
 |some ob=>
  rw[hx]at hm
  cases ob with
  |none=>cases hm
  |some bb=>
   cases bb with
   |box cs t g=>grind
   |rows a b c=>cases hm
   |iter a b=>cases hm):p:=h
theorem Tr{p:Prop}(h:p:=by
 have gz:N<=2000000:=dU
 have hlen:acc.length=N:=ZQ
 obtain⟨N2,fT⟩:∃N2,N+1=N2:=⟨_,rfl⟩
 have fB5:=fO.pre N R g5;have fB6:E.sub R 0 N=R:=JO
 exact rW):p:=h
theorem Tp{p:Prop}(h:p:=by
 obtain⟨i,l1,g,_,w1,h⟩:=Gd.call hR w h
 obtain⟨hi,w2,h⟩:=Gd.need hR w1 h
 obtain⟨r2,e2⟩:=ih _ _ _ _ h.tail w2 c hr
 simp[nd,bJ,kX,eI]at r2
 exact⟨r2.1,vS (DD (Ey hb (ih _ _ _ _ g w c r2.2) hi) (vT rfl e2))⟩):p:=h
theorem To{p:Prop}(h:p:=by
 unfold Gd at h
 rw[RP.run]at h
 have he:=hR s l false
 obtain⟨⟨x,l1,b1⟩,hv⟩:∃v,R s l false=v:=⟨_,rfl⟩
 rw[hv]at h he
 cases b1 with
 |true=>exact(Ce hR h rfl).elim
 |false=>exact⟨x,l1,hv,he.s,w.suf he.s,h⟩):p:=h
theorem A2{p:Prop}(h:p:=by
 obtain⟨m,h⟩:=h
 exact⟨m,fun k hk=>by rw[RP.run,aF hi];exact h k hk⟩):p:=h
theorem Tn{p:Prop}(h:p:=by
 have uW:l<ι.length:=(aC.1 hx).1
 rw[cO (by rw[CN];exact uW),Dl,hx]
 cases hp:bl σ l 0 with
 |none=>simp[hp]
 |some k=>exact absurd (by simpa using(YA hp).2) (hn k)):p:=h
theorem Hh{p:Prop}(h:p:=by
 unfold Gd at h
 rw[RP.run]at h
 split at h
 ·rename_i hc;exact⟨hc.2,w.drop 1,h⟩
 ·exact(Ce hR h rfl).elim):p:=h
theorem Tm{p:Prop}(h:p:=by
 obtain⟨h0,h⟩:=h;have h0':¬b<0:=by have:(0:Int)<=b:=h0;omega
 exact⟨_,h,lG fun w0 B w ι ρ hR hG hρ=>⟨_,by rw[dN w0 B w ι ρ hρ];simp only[binOp,Op.shift,h0',bT];rfl,.p _ _ (.v _)⟩⟩):p:=h
theorem JU{p:Prop}(h:p:=by
 have:=(aC.1 hq).1
 simp_all):p:=h
theorem RQ{p:Prop}(h:p:=by
 rw[RP.run]
 split
 ·exact yC hR x l b
 ·exact yC hR y l b):p:=h
theorem Tl{p:Prop}(h:p:=by
 have k1:E.lei 48 z=decide (48<=z):=fS
 rw[h1]at k1;have k2:E.lei z 57=decide (z<=57):=fS
 rw[h2]at k2
 clear hE h1 h2
 cbv
 repeat (first|(simp only[k1];cbv)|(simp only[k2];try cbv))):p:=h
theorem Hg{p:Prop}(h:p:=by
 cbv
 refine .z [0] hk rfl rfl rfl ?_
 cbv
 first|(refine .z [0] hk rfl rfl rfl ?_;cbv)|skip
 exact mT trivial):p:=h
theorem Tj{p:Prop}(h:p:=by
 have hj:=(aC.1 ha).1
 have B2:as'[j]?=some as'[j]:=aB oM
 rcases hr j a _ ha B2 with e|⟨x,rfl,e⟩
 ·grind
 ·exact .p _ _ ((gI j _ v B2 hv).toP _ e)):p:=h
theorem Ti{p:Prop}(h:p:=by
 cbv
 repeat (first|(simp only[z2];try cbv)|(simp only[d1];try cbv)|(refine⟨p1,_,g1,?_⟩;cbv)|(refine⟨_,hk,?_⟩;cbv)|(simp only[ej];try cbv))
 refine .mk i2 r5 ?_ ?_
 ·exact lU
 ·exact fU):p:=h
theorem Th{p:Prop}(h:p:=by
 rcases h2 with rfl|⟨rfl,rfl⟩<;>rcases h3 with rfl|⟨rfl,rfl⟩
 all_goals
  cbv
  repeat (first|(refine⟨_,h1,?_⟩;cbv)|(simp only[ok,ok',e2,wG,xO];try cbv))
 all_goals exact .mk () r5 hI):p:=h
theorem Tg{p:Prop}(h:p:=by
 have h2:=LD s'
 cases b' with
 |true=>show s'.brk<64*(l.length+1)+s.rank;omega
 |false=>
  rw[tI,tI]at h;show 64*(l'.length+1)+s'.rank<64*(l.length+1)+s.rank;omega):p:=h
theorem Tf{p:Prop}(h:p:=by
 simp only[bG,bF]at h
 rcases h with h|h
 ·exact yQ (kJ h aT) 1 aT aT
 ·exact yQ (kJ h aT) 1 aT aT):p:=h
theorem JW{p:Prop}(h:p:=by
 subst hV
 have ek:=o0 hE
 have hv:=hx
 exact rW):p:=h
theorem U2{p:Prop}(h:p:=by
 obtain⟨k,l,b2,s,hk,h1,h2⟩:=jc b hb
 refine(rg b).2 ⟨hC.own b (hR.ge ⟨l,b2,s,h1,h2⟩),fun⟨l',b3,s',hn,h3,h4⟩=>?_⟩
 have:=hR.inj l l' b2 b3 b s s' h1 h3 h2 h4
 grind):p:=h
theorem U1{p:Prop}(h:p:=by
 rw[ak]at dR
 cases dR
 have J7:g1=some c:=by
  cases b0 with
  |none=>cases e0
  |some b0=>cases b0<;>simp[zk]at e0;exact e0.2.2
 have h3:=dG.1.2 c J7
 have h4:=dG.1.1
 grind):p:=h
theorem U0{p:Prop}(h:p:=by
 cases hf:(List.range k).filter fun i=>!listed.getD i false with
 |nil=>grind
 |cons x xs=>
  have hx:x∈(List.range k).filter fun i=>!listed.getD i false:=by rw[hf];simp
  grind):p:=h
theorem Tz{p:Prop}(h:p:=by
 refine⟨e,fun c hr=>vS ?_⟩
 show yA ev d c l=_
 unfold yA
 simp only[hc,aM,bT,show decide ((1:Int)=1)=true from rfl,bP]
 refine pY hf ?_
 grind):p:=h
theorem j7{p:Prop}(h:p:=by
 cbv
 all_goals trivial):p:=h
theorem RT{p:Prop}(h:p:=by
 rw[hE]
 show(s.data.toList[0]?).map _=some z
 grind):p:=h
theorem A6{p:Prop}(h:p:=by exact⟨this.s,fun e=>by rw[h.1]at e;cases e⟩):p:=h
theorem A5{p:Prop}(h:p:=by
 clear hE hc
 cbv
 refine⟨p1,?_⟩
 exact aG (PV.ro 1) t3):p:=h
theorem la{p:Prop}(h:p:=by
 cbv
 exact mT trivial):p:=h
theorem T5{p:Prop}(h:p:=by
 obtain⟨n,hn⟩:=nA.1 hv
 have rR:n<(qM (bO env y)).length:=aZ
 obtain⟨u,hu,h1,_⟩:=KA.2 n _ (aB rR)
 grind):p:=h
theorem He{p:Prop}(h:p:=by
 cbv
 repeat (first|(simp only[l0];try cbv)|(simp only[d1];try cbv))
 all_goals trivial):p:=h
theorem T4{p:Prop}(h:p:=by
 cbv at uW
 cbv
 repeat (first|(simp only[uW];try cbv)|(simp only[v1];try cbv)|(refine⟨p1,_,g1,?_⟩;cbv)|(refine⟨_,dG,?_⟩;cbv))
 exact EI):p:=h
theorem T0{p:Prop}(h:p:=by
 rw[<-hιc,aH]at hx
 cases hk:σ[k]? with
 |none=>rw[hk]at hx;cases hx
 |some l=>
  rw[hk]at hx;exact Gs):p:=h
theorem Hd{p:Prop}(h:p:=by
 subst d8
 intro P G E hc tZ hE
 clear hc tZ hE ih zJ hq lW
 cbv
 exact .mk () r5 vD):p:=h
theorem Sz{p:Prop}(h:p:=by
 refine⟨tK,0,4,Ag,by rw[hP];unfold j5;rw[he],bad (oy _) fun v hr=>?_⟩
 cases dZ:bJ jC v.n with
 |false=>rfl
 |true=>rw[z32 w hr dZ]at he;cases he):p:=h
theorem Sx{p:Prop}(h:p:=by
 obtain⟨hk,w1,h⟩:=Gd.key hR w h
 obtain⟨r2,e2⟩:=ih _ _ _ _ h.tail w1 c hr
 simp[dV,bJ,kX,eI]at r2
 exact⟨r2,vS (DD (Ez hd hk) (vT rfl e2))⟩):p:=h
theorem Hb{p:Prop}(h:p:=by split<;>(show(acc++[_]).length<=_;rw[sE];simp only[qD,bW];omega)):p:=h
theorem Sw{p:Prop}(h:p:=by
 rcases rN h1 with⟨hl,h1⟩|⟨rfl,e⟩
 ·rcases rN h2 with⟨nM,h2⟩|⟨e,_⟩
  ·exact .inl ⟨k,b',s',h1,h2⟩
  grind
 ·rw[<-h.len]at h2
  grind):p:=h
theorem A1{p:Prop}(h:p:=by
 rw[hE]
 show(s.data.toList[i.toNat]?).map _=some z
 grind):p:=h
theorem Sv{p:Prop}(h:p:=by
 rw[aH]at ha
 have nN:j<len*te.size:=by
  grind
 rw[ba nN]at ha
 cases ha
 exact⟨_,by simp[nN],.p _ _ (.v _)⟩):p:=h
theorem Ha{p:Prop}(h:p:=by exact .inr ⟨y,k,ey,by have:=hρ y (Vm y ey);rw[ea]at this;exact jS this⟩):p:=h
theorem Su{p:Prop}(h:p:=by
 by_cases Jv:q=48
 ·exact .inr ⟨aA (by rw[<-eC,Jv];rfl),by rw[elt];exact dF fun h=>qG ⟨Jv,h⟩⟩
 ·exact .inl (gP eC 48 Jv)):p:=h
theorem Ss{p:Prop}(h:p:=by
 unfold sx tG
 rw[RP.run]
 split
 ·exact .inr (by rename_i h;exact h)
 ·exact wR hR (wR hR (LN (hF l b) (LN (LN (hF l b) (h2 l b)) (h2 l b))))):p:=h
theorem Sr{p:Prop}(h:p:=by
 rintro c ⟨l,b,s,h1,h2⟩
 rcases aU l b _ s h1 h2 with⟨hn,b0,h0,_,hi⟩|⟨k,b1,g,dG,_,_,hi,_⟩
 ·grind
 ·exact .inr ⟨k,b1,s,dG,hi⟩):p:=h
theorem Sq{p:Prop}(h:p:=by
 have:=hJ.rel.size
 rw[hg.block k aZ fun ho=>by rcases hJ.rel.ge ho with h|h<;>first|exact hx h|omega]
 exact hJ.rel.gr.block k hk hx):p:=h
theorem Sp{p:Prop}(h:p:=by
 rw[CS]at this
 rcases this with⟨h1,h2⟩|⟨h1,h2⟩
 ·exact .inl ⟨_,h1,h.drop 1 (nH h1) rfl,vQ h2⟩
 ·exact .inr ⟨h1,vQ h2⟩):p:=h
theorem H9{p:Prop}(h:p:=by
 unfold wpList
 rw[aF hw]
 refine .inl ?_
 unfold Oper.wp
 rw[he]
 exact h):p:=h
theorem So{p:Prop}(h:p:=by
 by_cases mU:i=x
 ·subst mU;exact getD_set_true (CR hi d hd)
 ·rw[getD_set_ne false mU]at hx;exact getD_set_true (eD x hx d hd)):p:=h
theorem Sn{p:Prop}(h:p:=by
 rcases bm with bm|⟨y,k,ey,ea⟩
 ·exact .inl bm
 ·exact .inr ⟨y,k,ey,by have:=hρ y (jh y ey);rw[ea]at this;exact jS this⟩):p:=h
theorem Sm{p:Prop}(h:p:=by
 rename_i x ho
 exact⟨_,h,lG fun w0 B w ι ρ hR hG hρ=>⟨ρ x,by simp[execOp,ho],hρ x oF⟩⟩):p:=h
theorem Sl{p:Prop}(h:p:=by
 have:=hR.size
 rw[hg.block k aZ fun ho=>by rcases hR.ge ho with h|h<;>first|exact hx h|omega]
 exact hR.gr.block k hk hx):p:=h
theorem Sj{p:Prop}(h:p:=by
 unfold Gd at h
 rw[RP.run]at h
 split at h
 ·rename_i hc;exact .inl ⟨hc,h⟩
 ·rename_i hc;exact .inr ⟨by simpa using hc,h⟩):p:=h
theorem H8{p:Prop}(h:p:=by
 have h5:=aG List.length sL
 rw[LH]at h5
 rw[sE,hm,h5]
 rfl):p:=h
theorem H7{p:Prop}(h:p:=by
 rw[hE]
 show(s.data.toList[1]?).map _=some y
 rw[dB,pK,<- hy]
 rfl):p:=h
theorem Si{p:Prop}(h:p:=by
 have:((List.range k).filter fun i=>!(Array.replicate l.length false).getD i false)=List.range k:=by
  simp_all
 rw[this]
 simp):p:=h
theorem Te{p:Prop}(h:p:=by
 intro x _
 cases x with
 |false=>
  cbv;refine mT ?_;exact .mk true r5 trivial aT
 |true=>
  cbv;simp only[z2];cbv):p:=h
theorem Td{p:Prop}(h:p:=by
 by_cases ha:(s[pos]'hp).toNat<128
 ·have:=decode_ascii s pos hp ha
  grind
 ·have:=(decode_high s pos hp oM).2
  grind):p:=h
theorem Tc{p:Prop}(h:p:=by
 unfold eH at h
 simp only[bF]at h
 exact⟨mZ.1 h.1,mZ.1 h.2⟩):p:=h
theorem Tb{p:Prop}(h:p:=by
 rcases hh with hh|hh|hh
 ·cases hh
 ·exact absurd rfl hh
 ·rw[show bJ jC (RV.nd x).n=true from pK]at hh;cases hh):p:=h
theorem Hf{p:Prop}(h:p:=by exact hE.put (sc:=none) (bQ.gr (Gr.refl _)) (.p _ _ (.v _))):p:=h
theorem Ta{p:Prop}(h:p:=by
 cases u with
 |nil=>exact absurd rfl nX
 |cons x u=>
  rw[nP]at fZ;have h5:=(tD fZ).1;rw[h5];rfl):p:=h
theorem T9{p:Prop}(h:p:=by
 unfold Gd at h
 rw[RP.run]at h
 split at h
 ·rename_i hc;exact .inl ⟨hc,h⟩
 ·rename_i hc;exact .inr ⟨hc,h⟩):p:=h
theorem T8{p:Prop}(h:p:=by
 unfold AV.toP at h
 cases hp:AV.toP.toPL cs with
 |none=>rw[hp]at h;cases h
 |some xs=>exact toPL_low m cs xs hp):p:=h
theorem T7{p:Prop}(h:p:=by
 exact⟨c::u,bZ _ _,by rw[h2];rfl,fun r' _=>by
  show jR U (c::(u++r'))=_;rw[jR]
  grind⟩):p:=h
theorem T6{p:Prop}(h:p:=by
 rcases q9 b ho with⟨l,b0,s,hn,h1,h2⟩|ho
 ·exact((rg b).1 hb.1).2 ⟨l,b0,s,hn,h1,h2⟩
 ·exact hb.2 ho):p:=h
theorem Sc{p:Prop}(h:p:=by
 obtain⟨m,h⟩:=h
 exact⟨m,fun k hk=>by rw[RP.run,aE (fun e=>by rw[hi]at e;cases e)];exact h k hk⟩):p:=h
theorem Sb{p:Prop}(h:p:=by
 unfold rJ at h
 split at h
 ·cases h
 ·split at h
  ·cases h
  ·split at h
   ·cases h
   ·cases h
    simp_all):p:=h
theorem Gz{p:Prop}(h:p:=by
 rw[hE]
 show(s.data.toList[a1.toNat]?).map _=some y1
 grind):p:=h
theorem Gy{p:Prop}(h:p:=by
 rw[hE]
 show(s.data.toList[a2.toNat]?).map _=some y2
 grind):p:=h
theorem Sa{p:Prop}(h:p:=by
 have hl:=(aC.1 hk).1
 exact⟨_,aB (by rw[hR.len];exact hl)⟩):p:=h
theorem RO{p:Prop}(h:p:=by
 clear hc hE
 exact EJ):p:=h
theorem S9{p:Prop}(h:p:=by
 replace hp:=hc _ _ _ hp
 clear hc hM hE hx ho hs
 cbv at hK
 cbv
 refine⟨_,hp,?_⟩
 cbv
 simp only[hK]
 cbv):p:=h
theorem RN{p:Prop}(h:p:=by
 rw[hE]
 refine dF fun e=>?_
 grind):p:=h
theorem S8{p:Prop}(h:p:=by
 rcases bB i k with h|h
 ·exact h
 ·have:=E1 eD r _ (CR hi) i0 (yF i h TZ i0 oM)
  grind):p:=h
theorem S7{p:Prop}(h:p:=by
 rcases bB i ops.size with h|h
 ·exact W5 i h d hd
 ·simp[jG,Be h]at hd):p:=h
theorem S6{p:Prop}(h:p:=by exact .ndR (cN hR hs (.assign c _) (d1 h)) fun n l1 h1=>.need fun _ h2=>.ok (tb rfl (h1.trans h2.leq))):p:=h
theorem S5{p:Prop}(h:p:=by
 have hj:j<cs.length:=aZ
 obtain⟨x,hx,KO⟩:=hg.2 j cs[j] (aB hj)
 grind):p:=h
theorem S4{p:Prop}(h:p:=by
 cbv
 repeat (first|(simp only[o1];cbv)|(simp only[d1];cbv)|(simp only[d2];cbv))
 all_goals trivial):p:=h
theorem S3{p:Prop}(h:p:=by
 cases ha:aL l 0 iW with
 |false=>exact .at_f ha hg
 |true=>exact .at_t ha (.at_f aZ hg)):p:=h
theorem S2{p:Prop}(h:p:=by
 obtain⟨ι,hR,hE⟩:=hS.rep
 exact⟨hS.defers,hS.size,hS.pin,hw w0 B w ι a.tmps gJ hR hE⟩):p:=h
theorem Gx{p:Prop}(h:p:=by exact fin _ h fun w=>by simp[binOp,Op.intArith,bK]):p:=h
theorem S1{p:Prop}(h:p:=by
 have:(i+1)*te.size<=n*te.size:=dH _ cJ
 rw[B9]at this
 omega):p:=h
theorem S0{p:Prop}(h:p:=by
 obtain⟨ι,hR,hE⟩:=hS.rep
 exact⟨hS.defers,hS.size,hS.pin,hw w0 B w ι a.tmps hB hR hE⟩):p:=h
theorem Rz{p:Prop}(h:p:=by
 have fO:=gX hE;have fG:=wM hE;have l0:E.ofN LR.length=M:=zp
 exact rW):p:=h
theorem Gw{p:Prop}(h:p:=by exact fin _ h fun w=>by simp[binOp,Op.intBits,bK]):p:=h
theorem RM{p:Prop}(h:p:=by
 rw[Lib.cell_of_heap this]
 rfl):p:=h
theorem Ry{p:Prop}(h:p:=by
 have h2:=hi.sk
 rw[h]at h2
 cases h2
 have h3:=qZ s i
 have h4:=hi.i0
 have h5:=hi.i1
 grind):p:=h
theorem Rx{p:Prop}(h:p:=by
 rw[ei]
 refine⟨by omega,by omega,?_⟩
 have:=hI.sk
 rw[dR,MD hw]at this
 exact this):p:=h
theorem Rw{p:Prop}(h:p:=by exact⟨c,gh _ c listed a' w' w'' i o _ hJ sW ho jH nX gL iU this.1 this.2⟩):p:=h
theorem Ru{p:Prop}(h:p:=by
 have hB:=fy
 simp only[ov,gH,p9,PP,bF,bG]at hB
 grind):p:=h
theorem Rt{p:Prop}(h:p:=by
 have:H[k]?=none:=by
  rw[rS]at h ⊢
  rwa[IH]at h
 rw[this]):p:=h
theorem H6{p:Prop}(h:p:=by
 split
 ·exact cW _ _
 ·exact .rfl):p:=h
theorem Sg{p:Prop}(h:p:=by subst e;obtain⟨o',h1,h2⟩:=hx.2.2;rw[ho]at h1;cases h1;rw[iU]at h2;cases h2):p:=h
theorem H5{p:Prop}(h:p:=by
 have:=aG (fun r:List PT=>r[0]?) g1
 grind):p:=h
theorem Sf{p:Prop}(h:p:=by
 have:=M0 oM x8
 rw[show f+((w.length:Nat):Int)=e1 by omega]at this
 exact this):p:=h
theorem H4{p:Prop}(h:p:=by
 refine .mk j2 r5 ?_ ?_
 ·exact lU
 ·exact fU):p:=h
theorem H0{p:Prop}(h:p:=by
 split at e
 ·cases e
 ·cases e
 ·exact h _ rfl):p:=h
theorem Se{p:Prop}(h:p:=by
 cases hx:r.panOf with
 |none=>rw[hx]at k;exact k
 |some ch=>rw[hx]at k;exact k):p:=h
theorem ZZ{p:Prop}(h:p:=by
 clear hE hc
 exact nI):p:=h
theorem EK{p:Prop}(h:p:=by exact .mk _ r5 hx oU):p:=h
theorem Sd{p:Prop}(h:p:=by
 obtain⟨m,h⟩:=h
 exact⟨m,fun k hk=>by rw[RP.run,aE hi];exact h k hk⟩):p:=h
theorem Rs{p:Prop}(h:p:=by
 rename_i ht
 rw[aF (by simp[Region.wanted,hg,hy,Dg ht])]
 exact .inl (run h)):p:=h
theorem Gv{p:Prop}(h:p:=by simp only[bO,aK,he]):p:=h
theorem Rr{p:Prop}(h:p:=by
 have:=M0 i0 hv
 rw[show i+((v.length:Nat):Int)=f by omega]at this
 exact this):p:=h
theorem Rq{p:Prop}(h:p:=by
 cases l with
 |nil=>exact absurd h aT
 |cons x l=>exact B8 _):p:=h
theorem Ro{p:Prop}(h:p:=by
 cbv
 refine bt ?_
 refine .mk (E.wadd .i64 j 1) r5 ?_ ?_
 ·exact q1
 ·exact q2):p:=h
theorem ZY{p:Prop}(h:p:=by exact mC oM):p:=h
theorem ZX{p:Prop}(h:p:=by exact dH _ oM):p:=h
theorem ZW{p:Prop}(h:p:=by
 refine aa ?_
 exact .mk c r5 e1):p:=h
theorem Rn{p:Prop}(h:p:=by
 simp only[Sem.run_bind,Result.andThen_ok,zkw hT ht hd dw yU I8 hr]
 rfl):p:=h
theorem RJ{p:Prop}(h:p:=by exact(Gd.fail hR h).elim):p:=h
theorem Rm{p:Prop}(h:p:=by rw[<-hT,yw,fZ,show j.toNat-a.toNat=u.length by omega,qV]):p:=h
theorem Rl{p:Prop}(h:p:=by simp only[IntKind.wrap,e1,e3,cD,aM,bT]):p:=h
theorem Gu{p:Prop}(h:p:=by
 simp only[bW]at this
 omega):p:=h
theorem zv{p:Prop}(h:p:=by exact(Lw h).elim):p:=h
theorem Rk{p:Prop}(h:p:=by
 rw[hE]
 show(T.data.toList[i.toNat]?).map _=some z
 rw[jV,h,<- hz]
 rfl):p:=h
theorem JT{p:Prop}(h:p:=by
 intro P G E hc hM hE
 have g0:E.get s (E.nat a)=some zq:=by
  rw[hE];show(s.data.toList[a.toNat]?).map _=some zq
  grind
 have p0:E.ple 0 a:=wT
 clear hE hc hM h1
 exact td):p:=h
theorem fm{p:Prop}(h:p:=by
 rw[hE]
 show(s.data.toList[a.toNat]?).map _=some z
 grind):p:=h
theorem RI{p:Prop}(h:p:=by
 refine aY.of0 aN mixed (fun _=>0) kR fun P G E hc hM hE=>?_
 replace nF:=hc _ _ _ nF
 clear hE hc hM h1
 exact td):p:=h
theorem RH{p:Prop}(h:p:=by
 refine aY.of0 aN mixed (fun _=>0) kR fun P G E hc hM hE=>?_
 replace jY:=hc _ _ _ jY
 clear hE hc hM h1
 exact td):p:=h
theorem nI{p:Prop}(h:p:=by
 cbv
 exact bt trivial):p:=h
theorem Gt{p:Prop}(h:p:=by
 refine aY.of0 aN mixed (fun _=>0) kR fun P G E hc hM hE=>?_
 clear hE hc hM h1
 exact td):p:=h
theorem zu{p:Prop}(h:p:=by
 have fO:=gX hE
 have fG:=wM hE
 exact rW):p:=h
theorem Rj{p:Prop}(h:p:=by
 rw[RP.run]
 split
 ·rename_i h
  have:=(yC hR (k (tx l 0)) (l.drop 1) false).drop 1
  exact A6
 ·exact(yC hR (k []) l true).of):p:=h
theorem Ri{p:Prop}(h:p:=by
 replace hk:=hM _ _ _ _ _ hk
 clear hc hM hE h hb hW
 cbv
 refine .z [0] hk rfl rfl rfl ?_
 exact j7):p:=h
theorem Rh{p:Prop}(h:p:=by
 cbv
 refine .z [0] hk rfl rfl rfl ?_
 cbv
 refine mT ?_
 refine .z [0] hk rfl rfl rfl ?_
 exact la):p:=h
theorem Gs{p:Prop}(h:p:=by
 obtain⟨y,hy⟩:=hιl l (o6 hσ hk).2
 grind):p:=h
theorem EJ{p:Prop}(h:p:=by
 cbv
 exact aa trivial):p:=h
theorem RK{p:Prop}(h:p:=by
 cbv
 refine bt ?_
 exact RU):p:=h
theorem pc{p:Prop}(h:p:=by simpa using this):p:=h
theorem td{p:Prop}(h:p:=by
 cbv
 refine mP ?_
 exact EI):p:=h
theorem EI{p:Prop}(h:p:=by exact .mk () r5 trivial):p:=h
theorem aT{p:Prop}(h:p:=by decide):p:=h
theorem cI{p:Prop}(h:p:=by kernel_rfl):p:=h
theorem aZ{p:Prop}(h:p:=by grind):p:=h
theorem vR{p:Prop}(h:p:=by repeat' (first|exact trivial|refine⟨rfl,?_⟩)):p:=h
theorem iS{p:Prop}(h:p:=by rw[hE];exact hn):p:=h
theorem fS{p:Prop}(h:p:=by rw[hE];rfl):p:=h
theorem oF{p:Prop}(h:p:=by rw[ho];simp[Op.operands]):p:=h
theorem sF{p:Prop}(h:p:=by rw[hE];exact aA oM):p:=h
theorem xJ{p:Prop}(h:p:=by simp only[Sy.meas,Sy.l,Sy.rank];omega):p:=h
theorem dm{p:Prop}(h:p:=by have:=h.h1;have:=h.h0;have:=h.z;omega):p:=h
theorem sS{p:Prop}(h:p:=by rw[hE];exact dF oM):p:=h
theorem mI{p:Prop}(h:p:=by assumption):p:=h
theorem wT{p:Prop}(h:p:=by rw[hE];exact h0):p:=h
theorem JO{p:Prop}(h:p:=by rw[hE,<- g5];show(R.drop 0).take R.length=R;rw[DM,l7]):p:=h
theorem fl{p:Prop}(h:p:=by rw[hE];exact dF hA):p:=h
theorem wc{p:Prop}(h:p:=by rw[hE,<- kS];exact jX oM oM):p:=h
theorem zr{p:Prop}(h:p:=by rw[hE,<- vZ];exact jX oM oM):p:=h
theorem ZT{p:Prop}(h:p:=by rw[<-qb,hE];show _=if(0:Int)>op2 then 0 else op2;split<;>omega):p:=h
theorem RF{p:Prop}(h:p:=by rw[ho];simp[Op.operands,Call.operands,hc,dW]):p:=h
theorem Zfo{p:Prop}(h:p:=by rw[hE];exact aA (by grind)):p:=h
theorem pb{p:Prop}(h:p:=by rw[hμ,hμ];omega):p:=h
theorem mr{p:Prop}(h:p:=by rw[hE];exact hM):p:=h
theorem EH{p:Prop}(h:p:=by rw[hE,<- mX];exact jX oM oM):p:=h
theorem j6{p:Prop}(h:p:=by simpa using h):p:=h
theorem ZS{p:Prop}(h:p:=by simp only[fR,gM,mS,eO,g3.row,k8.2.2.2.1.row,k4.1];rfl):p:=h
theorem EG{p:Prop}(h:p:=by rw[<-ie];exact WH l false):p:=h
theorem zp{p:Prop}(h:p:=by rw[hE,h.len];exact mY):p:=h
theorem EF{p:Prop}(h:p:=by have:=h.h1;have:=h.h0;omega):p:=h
theorem mq{p:Prop}(h:p:=by simpa using hc):p:=h
theorem JN{p:Prop}(h:p:=by rw[hE];show(0:Int)<=18;omega):p:=h
theorem JL{p:Prop}(h:p:=by rw[hE];show(0:Int)<=12;omega):p:=h
theorem ZV{p:Prop}(h:p:=by simp only[bO,aK,he];rfl):p:=h
theorem JR{p:Prop}(h:p:=by rw[hE];show(0:Int)<=6;omega):p:=h
theorem bw{p:Prop}(h:p:=by simp_all):p:=h
theorem zt{p:Prop}(h:p:=by rw[hb,hw];decide):p:=h
theorem Rg{p:Prop}(h:p:=by rw[hE];have B5:((toks.length:Nat):Int)=M:=mY;have:=g1.h1;rw[k2.1]at this;exact aA (by simp at this;omega)):p:=h
theorem we{p:Prop}(h:p:=by simpa using hl):p:=h
theorem JQ{p:Prop}(h:p:=by simp[Region.wanted,hg]):p:=h
theorem RG{p:Prop}(h:p:=by rw[hE,<- hb];exact jX oM oM):p:=h
theorem ZU{p:Prop}(h:p:=by rw[hJ.size];exact m3 x o t ho vU):p:=h
theorem JP{p:Prop}(h:p:=by simp[nd,bJ,kX,eI]):p:=h
theorem zo{p:Prop}(h:p:=by simpa using hk):p:=h
theorem ZP{p:Prop}(h:p:=by rw[elt];exact aA cJ):p:=h
theorem Zgc{p:Prop}(h:p:=by rw[BB _ (by decide)];rfl):p:=h
theorem QY{p:Prop}(h:p:=by rw[(hT _ _ he).1.1,UM]):p:=h
theorem EE{p:Prop}(h:p:=by simpa using sW):p:=h
theorem ZO{p:Prop}(h:p:=by rw[hE];exact aA hB):p:=h
theorem l9{p:Prop}(h:p:=by cases e):p:=h
theorem Gq{p:Prop}(h:p:=by simp[Act.eval,fH,hv]):p:=h
theorem ZN{p:Prop}(h:p:=by rw[hE,<- rG];exact jX oM oM):p:=h
theorem wb{p:Prop}(h:p:=by simp;omega):p:=h
theorem Zgk{p:Prop}(h:p:=by rw[hE];exact dF (by grind)):p:=h
theorem ED{p:Prop}(h:p:=by rw[<-hR,CO]):p:=h
theorem Gp{p:Prop}(h:p:=by simpa [Region.wanted,hg,hy]using Nq ht):p:=h
theorem Rb{p:Prop}(h:p:=by have xp:w.drew.heap[g]?=some (.cells cur 5 (0,0)):=hg;simp[World.shape?,xp]):p:=h
theorem QX{p:Prop}(h:p:=by have:=Dt hy;omega):p:=h
theorem JK{p:Prop}(h:p:=by unfold bL;simp):p:=h
theorem JJ{p:Prop}(h:p:=by simpa using ha):p:=h
theorem JI{p:Prop}(h:p:=by rw[hl];decide):p:=h
theorem ZM{p:Prop}(h:p:=by rw[hE];show 0<=a1;omega):p:=h
theorem Gn{p:Prop}(h:p:=by rw[hE];exact(by decide:(0:Int)<=1)):p:=h
theorem Ra{p:Prop}(h:p:=by rw[hE];have B5:((toks.length:Nat):Int)=M:=mY;have:=g1.h1;exact dF oM):p:=h
theorem ZL{p:Prop}(h:p:=by rw[hE];exact jX oM oM):p:=h
theorem JH{p:Prop}(h:p:=by rw[h];decide):p:=h
theorem Gm{p:Prop}(h:p:=by rw[hE,<- hv];exact Zo oM oM uR):p:=h
theorem ZK{p:Prop}(h:p:=by rw[dR,jR,ht];grind):p:=h
theorem Gl{p:Prop}(h:p:=by rw[hE];exact aA cJ):p:=h
theorem Rf{p:Prop}(h:p:=by rw[hE,vh];exact dF (show ¬a<((ts.length:Nat):Int) by omega)):p:=h
theorem ZR{p:Prop}(h:p:=by rw[<-mz];exact dL):p:=h
theorem RE{p:Prop}(h:p:=by rw[CM,ha];rfl):p:=h
theorem Rc{p:Prop}(h:p:=by unfold rJ;rw[ht,jI,aF ⟨by rw[qG.1],by omega⟩]):p:=h
theorem RD{p:Prop}(h:p:=by simpa using hs):p:=h
theorem RC{p:Prop}(h:p:=by simpa using ho):p:=h
theorem RB{p:Prop}(h:p:=by simpa using he):p:=h
theorem RA{p:Prop}(h:p:=by rw[hk];decide):p:=h
theorem QZ{p:Prop}(h:p:=by rw[hd];decide):p:=h
theorem ZQ{p:Prop}(h:p:=by rw[<-g5,<- g4,CQ]):p:=h
theorem Gk{p:Prop}(h:p:=by rw[t8];exact aP _):p:=h
theorem ZJ{p:Prop}(h:p:=by rw[jV];exact nX):p:=h
theorem ZI{p:Prop}(h:p:=by rw[jV];exact lA):p:=h
theorem ZH{p:Prop}(h:p:=by rw[jV];exact cq):p:=h
theorem ZG{p:Prop}(h:p:=by rw[lT.len];grind):p:=h
theorem R9{p:Prop}(h:p:=by simp only[Act.eval,fH,hv];rfl):p:=h
theorem Gj{p:Prop}(h:p:=by rw[hE];exact bU 0):p:=h
theorem R8{p:Prop}(h:p:=by rw[<-hW,<- hD];exact(mc (p:=nE) (bD s a)).2.2.symm):p:=h
theorem R7{p:Prop}(h:p:=by rw[<-hO,ByteArray.data_append,Array.toList_append,jV]):p:=h
theorem R6{p:Prop}(h:p:=by have:=C6 h;have:s.data.toList.length=s.size:=rfl;omega):p:=h
theorem ZF{p:Prop}(h:p:=by rw[Ls,sL,dQ]):p:=h
theorem dU{p:Prop}(h:p:=by omega):p:=h
theorem jT{p:Prop}(h:p:=by simp):p:=h
theorem JG{p:Prop}(h:p:=by rw[hE];exact aA aZ):p:=h
theorem Gi{p:Prop}(h:p:=by rw[BB _ aT];rfl):p:=h
theorem ZE{p:Prop}(h:p:=by rw[hE];exact dF aZ):p:=h
set_option linter.unusedVariables false
set_option linter.unusedSimpArgs false
set_option linter.unusedSectionVars false
set_option maxHeartbeats 4000000
set_option maxRecDepth 100000
theorem kR{p:Prop}(h:p:=by kernel_rfl):p:=h
theorem oM{p:Prop}(h:p:=by omega):p:=h
theorem r5{p:Prop}(h:p:=by exact⟨rfl,rfl,rfl,rfl,rfl⟩):p:=h
abbrev xE:=@Exists.elim
abbrev oE:=@Or.elim
abbrev oT:=@of_decide_eq_true
abbrev dF:=@decide_eq_false
abbrev nR:=@Nat.le_refl
abbrev pD:=@List.cons_append
abbrev sE:=@List.length_append
abbrev sR:=@List.nil_append
abbrev yR:=@List.length_drop
abbrev gH:=@Bool.and_eq_true
abbrev qD:=@List.length_cons
abbrev oy:=@Nat.lt_succ_self
abbrev p9:=@aR
abbrev yS:=@List.drop_drop
abbrev G7:=@List.length_singleton
abbrev PP:=@cC
abbrev DM:=@List.drop_zero
abbrev tc:=@List.length_map
abbrev l7:=@List.take_length
abbrev dP:=@Classical.em
open Go.RowKit
section
variable{P:Program}{ops:Array Oper}{Q:Exit->Act->World->Prop}
def Gr(w w':World):Prop:=Below w.heap.size w w'
theorem Gr.refl(w:World):Gr w w:=Below.refl _ _
theorem Gr.trans{a b c:World}(h:Gr a b)(k:Gr b c):Gr a c:=Below.trans h (Below.mono k h.size)
def a7(P:Program)(R:Value->World->Prop):Result Next->Prop
 | .ok (.value v) w'=>R v w'
 | .ok .skip w'=>R undef w'
 | .ok (.enter f args) w'=>Calls P f args w' fun e w''=>∃v,e=.returned v/\R v w''
 |_=>False
theorem Dq{o:Oper}{a:Act}{w:World}{R:Value->World->Prop}{K:Act->World->Prop}
  (h:a7 P R ((execOp a.eval o).run P w)) (hK:∀v w',R v w'->K (a.put o.dst v) w'):o.wp P a w K Q:=by
 unfold Oper.wp;generalize (execOp a.eval o).run P w=r at *
 cases r with
 |ok n w'=>
  cases n<;>simp only[a7]at h<;>simp only[Oper.upon]
  case value v=>exact hK _ _ h
  case skip=>exact hK _ _ h
  case enter f args=>exact h.mono fun e w'' ⟨v,he,hr⟩=>by grind
 |halt x w'=>simp only[a7]at h
def jG(ops:Array Oper)(i:Nat):List Nat:=match ops[i]? with
 |some o=>(o.after.toList.filter fun e=>Region.binds .any e).map (·.on)
 |none=>[]
def Q7(ops:Array Oper)(S:List Nat):List Nat:=(S++S.flatMap (jG ops)).eraseDups
def HX(ops:Array Oper):Nat->List Nat->List Nat
 |0,S=>S
 |n+1,S=>HX ops n (Q7 ops S)
def ov(ops:Array Oper)(k r:Nat):Bool:=
 ((List.range ops.size).all fun i=>(jG ops i).all fun d=>decide (d<i)) &&
 ((List.range ops.size).all fun j=>decide (j<k)||(List.range j).all fun i=>(HX ops r (jG ops j)).contains i) &&
 ((List.range ops.size).all fun i=>(List.range ops.size).all fun j=>decide (i=j)||((ops[i]?).bind (·.dst)).isNone||(ops[i]?).bind (·.dst) != (ops[j]?).bind (·.dst))
def so(ops:Array Oper)(ρ:Operand->Value)(j:Nat):Option Bool:=match(ops[j]?).bind (·.dst)with
 |some t=>(match ρ (.tmp t)with|.bool b=>some b|_=>none)
 |none=>none
theorem MN(a:Act):yielded ops a.tmps=so ops a.eval:=by
 funext j
 unfold yielded so
 cases h:(ops[j]?).bind (·.dst)with
 |none=>rfl
 |some t=>
  simp only[Option.bind_some,Act.eval]
  cases ht:a.tmps[t]? with
  |none=>simp[ht,undef]
  |some v=>simp[ht];cases v<;>rfl
structure pd(ops:Array Oper)(C:World->Prop)(V:Nat->Value->World->Prop)(a0:Act)(listed:Array Bool)(a:Act)(w:World):Prop where
 cls:C w
 defers:a.defers=a0.defers
 size:a.tmps.size=a0.tmps.size
 lsize:listed.size=ops.size
 vals:∀(i:Nat)(o:Oper)(t:Tmp),ops[i]?=some o->listed.getD i false=true->o.dst=some t->V i (a.eval (.tmp t)) w
 rest:∀(t:Tmp),(∀(i:Nat)(o:Oper),ops[i]?=some o->listed.getD i false=true->o.dst≠some t)->a.tmps[t]?=a0.tmps[t]?
 closed:∀i,listed.getD i false=true->∀d∈jG ops i,listed.getD d false=true
theorem CR{listed:Array Bool}{i:Nat}(h:i∈Region.ready .any ops listed):∀d∈jG ops i,listed.getD d false=true:=by
 obtain⟨_,o,ho,dX⟩:=mem_ready.1 h;intro d hd;simp only[jG,ho,iB,u9]at hd
 grind
theorem IL{listed:Array Bool}{i:Nat}(h:listed.getD i true=false):listed.getD i false=false/\i<listed.size:=by
 grind
theorem zf{listed:Array Bool}{i:Nat}(h:i<listed.size):(listed.setIfInBounds i true).getD i false=true:=by simp[h]
theorem E1{listed:Array Bool}(hc:∀i,listed.getD i false=true->∀d∈jG ops i,listed.getD d false=true):
  ∀(r:Nat)(S:List Nat),(∀d∈S,listed.getD d false=true)->∀d∈HX ops r S,listed.getD d false=true
 |0,_,h=>h
 |r+1,S,h=>E1 hc r _ fun d hd=>by
  unfold Q7 at hd;rw[List.mem_eraseDups,kV,List.mem_flatMap]at hd
  grind
theorem pd.put{C:World->Prop}{V:Nat->Value->World->Prop}{a0:Act}{listed:Array Bool}{a:Act}{w w':World}{i:Nat}{o:Oper}{v:Value}
  (h:pd ops C V a0 listed a w) (ho:ops[i]?=some o) (hr:i∈Region.ready .any ops listed)
  (hd:∀(j:Nat),i≠j->∀(oj:Oper)(t:Tmp),ops[j]?=some oj->o.dst=some t->oj.dst≠some t) (cJ:∀t,o.dst=some t->t<a0.tmps.size)
  (mK:∀i v w w',C w->C w'->Gr w w'->V i v w->V i v w') (hC:C w') (hg:Gr w w') (hV:V i v w'):
  pd ops C V a0 (listed.setIfInBounds i true) (a.put o.dst v) w':=by
 have xP:=CR hr;obtain⟨nX,_⟩:=mem_ready.1 hr;obtain⟨wx,vJ⟩:=IL nX;refine⟨hC,?_,?_,by simpa using h.lsize,?_,?_,?_⟩
 ·cases ht:o.dst<;>simp only[Act.put]<;>exact h.defers
 ·cases ht:o.dst<;>simp[Act.put,h.size]
 ·intro j oj t hj hl eJ
  by_cases tv:i=j
  ·subst tv;obtain rfl:o=oj:=bA (ho.symm.trans hj);have Iy:=cJ t eJ
   have:(a.put o.dst v).eval (.tmp t)=v:=by
    simp[Act.eval,Act.put,eJ,h.size,Iy]
   rw[this];exact hV
  ·rw[getD_set_ne false tv]at hl;have h1:=h.vals j oj t hj hl eJ
   have:(a.put o.dst v).eval (.tmp t)=a.eval (.tmp t):=Act.eval_put fun d wH hx=>by
    grind
   rw[this];exact mK j _ w w' h.cls hC hg h1
 ·intro t ht;have h0:o.dst≠some t:=ht i o ho (zf vJ);have h1:a.tmps[t]?=a0.tmps[t]?:=h.rest t fun j oj hj hl=>ht j oj hj (getD_set_true hl)
  rw[<-h1]
  cases eJ:o.dst with
  |none=>rfl
  |some s=>
   have eA:s≠t:=fun e=>h0 (by rw[eJ,e])
   simp[Act.put,mR eA]
 ·intro j hl d wH
  by_cases tv:i=j
  ·subst tv;exact getD_set_true (xP d wH)
  ·rw[getD_set_ne false tv]at hl;exact getD_set_true (h.closed j hl d wH)
theorem Dz{listed:Array Bool}(gO:∀i d,d∈jG ops i->d<i)(sW:listed.size=ops.size):
  ∀(n i:Nat),i<=n->i<ops.size->listed.getD i false=false->∃j,j<=i/\j∈Region.ready .any ops listed:=by
 intro n
 induction n with
 |zero=>
  intro i hi cJ nX;obtain rfl:i=0:=dU
  refine⟨0,nR _,mem_ready.2 ⟨?_,ops[0],eM cJ,fun e he hb=>?_⟩⟩
  ·grind
  ·have hm:e.on∈jG ops 0:=by
    simp only[jG,eM cJ,iB,u9]
    grind
   grind
 |succ n ih=>
  intro i hi cJ nX
  by_cases dX:∀d∈jG ops i,listed.getD d false=true
  ·refine⟨i,nR _,mem_ready.2 ⟨?_,ops[i],eM cJ,fun e he hb=>?_⟩⟩
   ·grind
   ·refine dX e.on ?_;simp only[jG,eM cJ,iB,u9]
    grind
  grind
theorem N7(gO:∀i d,d∈jG ops i->d<i)(r k:Nat)(yF:∀j,k<=j->j<ops.size->∀i,i<j->i∈HX ops r (jG ops j)):
  ∀(m j:Nat)(listed:Array Bool)(a:Act)(w:World),k<=j->j+m=ops.size->listed.size=ops.size →
   (∀i,i<j->listed.getD i false=true)->(∀i,j<=i->i<ops.size->listed.getD i false=false) →
   (∀i,listed.getD i false=true->∀d∈jG ops i,listed.getD d false=true) →
   wpList P ops Q (ops.toList.drop j) a w->∀fuel,m<=fuel->wpAny P .any ops Q fuel listed a w:=by
 intro m
 induction m with
 |zero=>
  intro j listed a w _ hjm sW hl _ _ h fuel _;have hd:ops.toList.drop j=[]:=vM wb
  rw[hd]at h;refine wpAny_done ?_ h fuel;rw[ng];intro i hi;obtain⟨nX,o,ho,_⟩:=mem_ready.1 hi
  grind
 |succ m ih=>
  intro j listed a w Ve hjm sW hl hu hc h fuel hf;have xn:j<ops.size:=dU
  have hd:ops.toList.drop j=ops[j]::ops.toList.drop (j+1):=by
   rw[cQ (by simpa using xn)];simp
  rw[hd]at h;have FA:∀i,i∈Region.ready .any ops listed->i=j:=by
   intro i hi;obtain⟨nX,o,ho,_⟩:=mem_ready.1 hi;have cJ:=(jB.1 ho).1;have h2:=(IL nX).1
   rcases js i j with tv|tv|tv
   ·grind
   ·exact tv
   ·have:=E1 hc r _ (CR hi) j (yF i oM cJ j tv)
    grind
  obtain⟨fuel,rfl⟩:∃f,fuel=f+1:=⟨fuel-1,by omega⟩
  refine⟨fun h0=>?_,fun i hi=>?_⟩
  ·obtain⟨i,_,hi⟩:=Dz gO sW j j (nR _) xn (hu j (nR _) xn)
   grind
  ·obtain rfl:=FA i hi;have TJ:∀a w,wpList P ops Q (ops.toList.drop (i+1)) a w->wpAny P .any ops Q fuel (listed.setIfInBounds i true) a w:=fun a w hh=>by
    refine ih (i+1) _ a w oM oM EE (fun x hx=>?_) (fun x hx ag=>?_) (fun x hx d wH=>?_) hh fuel oM
    ·by_cases mU:i=x
     ·subst mU;simp_all
     ·exact getD_set_true (hl x oM)
    ·rw[getD_set_ne false oM];grind
    ·by_cases mU:i=x
     ·subst mU;exact getD_set_true (CR hi d wH)
     ·rw[getD_set_ne false mU]at hx;exact getD_set_true (hc x hx d wH)
   have ho:ops[i]?=some ops[i]:=eM xn;unfold wpOp;simp only[ho];unfold wpList at h
   split
   ·rename_i hw;rw[aF hw]at h;exact h.imp (Oper.wp_mono TJ) id
   grind
end
inductive PV where
 |v (x:Value)
 |e0
 |ro (s:Nat) (rows:List (List PV))
 |rop (row:List PV)
 |agg (cs:List PV)
 |tup (cs:List PV)
 |pan (ch:List PanicEntry)
 |err
inductive AV where
 |p (x:PV)
 |own (k j:Nat)
 |orw (k i j:Nat)
 |osl (k i n:Nat)
 |agg (cs:List AV)
 |tup (cs:List AV)
 |clo (f:FuncId) (fs cs:List AV)
 |junk
inductive cH where
 |box (cs:List AV) (t:TypeId) (g:Option Nat)
 |rows (s:Nat) (rs:List (List PV)) (t:TypeId)
 |iter (s:ByteArray) (pos:Nat)
abbrev AH:=List (Option cH)
abbrev Pl:=List (Option Nat×Nat×Nat)
inductive cE(w:World)(R:Nat->Prop):PV->Value->Prop
 |v (x:Value):cE w R (.v x) x
 |e0 (A:Option Addr):cE w R .e0 (.slice A 0 0)
 |ro0 (s:Nat) (A:Option Addr) (cap:Nat):cE w R (.ro s []) (.slice A 0 cap)
 |ro (s:Nat) (rows:List (List PV)) (b o cap:Nat) (vs:Nat->Nat->Value) (hR:R b) (hb:b<w.heap.size) (oX:rows.length<=cap)
   (hs:∀(i:Nat)(row:List PV),rows[i]?=some row->row.length=s)
   (hc:∀(i j:Nat)(row:List PV)(a:PV),rows[i]?=some row->row[j]?=some a->w.cell? ⟨b,o+(i*s+j),none⟩=some (vs i j)/\(vs i j).oneCell'=true)
   (hr:∀(i j:Nat)(row:List PV)(a:PV),rows[i]?=some row->row[j]?=some a->cE w R a (vs i j)):
   cE w R (.ro s rows) (.slice (some ⟨b,o,none⟩) rows.length cap)
 |rop (row:List PV) (b o:Nat) (vs:Nat->Value) (hR:R b) (hb:b<w.heap.size)
   (hc:∀(j:Nat)(a:PV),row[j]?=some a->w.cell? ⟨b,o+j,none⟩=some (vs j)/\(vs j).oneCell'=true)
   (hr:∀(j:Nat)(a:PV),row[j]?=some a->cE w R a (vs j)):cE w R (.rop row) (.pointer (some ⟨b,o,none⟩))
 |agg (cs:List PV) (vs:List Value) (hl:cs.length=vs.length) (hr:∀(j:Nat)(a:PV)(v:Value),cs[j]?=some a->vs[j]?=some v->cE w R a v):cE w R (.agg cs) (.agg vs.toArray)
 |tup (cs:List PV) (vs:List Value) (hl:cs.length=vs.length) (hr:∀(j:Nat)(a:PV)(v:Value),cs[j]?=some a->vs[j]?=some v->cE w R a v):cE w R (.tup cs) (.tuple vs.toArray)
 |err (t:TypeId) (v:Value):cE w R .err (.iface t v)
theorem La{w w':World}{b o:Nat}(h:w'.heap[b]?=w.heap[b]?):w'.cell? ⟨b,o,none⟩=w.cell? ⟨b,o,none⟩:=World.cell?_of_block h
theorem cE.keep{w w':World}{R R':Nat->Prop}(dM:w.heap.size<=w'.heap.size)(hk:∀b,R b->b<w.heap.size->R' b/\w'.heap[b]?=w.heap[b]?){p:PV}{v:Value}(h:cE w R p v):cE w' R' p v:=by
 induction h with
 |v x=>exact .v x
 |e0 A=>exact .e0 A
 |ro0 s A cap=>exact .ro0 s A cap
 |ro s rows b o cap vs hR hb oX hs hc hr ih=>
  have:=hk b hR hb
  exact .ro s rows b o cap vs this.1 oM oX hs (fun i j row a h1 h2=>by rw[La this.2];grind) ih
 |rop row b o vs hR hb hc hr ih=>
  have:=hk b hR hb
  exact .rop row b o vs this.1 oM (fun j a h1=>by rw[La this.2];exact hc j a h1) ih
 |agg cs vs hl hr ih=>exact .agg cs vs hl ih
 |tup cs vs hl hr ih=>exact .tup cs vs hl ih
 |err t v=>exact .err t v
inductive dD(w:World)(ι:Pl)(R:Nat->Prop):AV->Value->Prop
 |p (x:PV) (v:Value) (h:cE w R x v):dD w ι R (.p x) v
 |own (k j c:Nat) (s:Nat×Nat) (h:ι[k]?=some (some c,s)):dD w ι R (.own k j) (.pointer (some ⟨c,j,none⟩))
 |orw (k i j c:Nat) (s:Nat×Nat) (h:ι[k]?=some (some c,s)):dD w ι R (.orw k i j) (.pointer (some ⟨c,i*s.1+j,none⟩))
 |osl0 (k i:Nat):dD w ι R (.osl k i 0) (.slice none 0 0)
 |osl (k i n c cap:Nat) (s:Nat×Nat) (h:ι[k]?=some (some c,s)) (hn:n<=cap) (hm:cap<=maxLen) (hz:s.2=(i+cap)*s.1):
   dD w ι R (.osl k i n) (.slice (some ⟨c,i*s.1,none⟩) n cap)
 |agg (cs:List AV) (vs:List Value) (hl:cs.length=vs.length) (hr:∀(j:Nat)(a:AV)(v:Value),cs[j]?=some a->vs[j]?=some v->dD w ι R a v):dD w ι R (.agg cs) (.agg vs.toArray)
 |tup (cs:List AV) (vs:List Value) (hl:cs.length=vs.length) (hr:∀(j:Nat)(a:AV)(v:Value),cs[j]?=some a->vs[j]?=some v->dD w ι R a v):dD w ι R (.tup cs) (.tuple vs.toArray)
 |clo (f:FuncId) (fs cs:List AV) (us vs:List Value) (hl:fs.length=us.length) (hr:∀(j:Nat)(a:AV)(v:Value),fs[j]?=some a->us[j]?=some v->dD w ι R a v)
   (nM:cs.length=vs.length) (gf:∀(j:Nat)(a:AV)(v:Value),cs[j]?=some a->vs[j]?=some v->dD w ι R a v):dD w ι R (.clo f fs cs) (.func (.func f) us.toArray vs.toArray)
 |junk (v:Value):dD w ι R .junk v
def one(k:Nat):Nat->Bool:=fun l=>Nat.beq l k
theorem z61(k:Nat):one k k=true:=by simp[one]
theorem xf7{k l:Nat}(h:l≠k):one k l=false:=by
 unfold one
 cases hb:Nat.beq l k with
 |true=>simp_all
 |false=>rfl
def AV.scrub(p:Nat->Bool):AV->AV
 | .own l j=>(match p l with
  |true=>.junk
  |false=>.own l j)
 | .orw l i j=>(match p l with
  |true=>.junk
  |false=>.orw l i j)
 | .osl l i n=>(match p l with
  |true=>.junk
  |false=>.osl l i n)
 | .agg cs=>.agg (scrubL p cs)
 | .tup cs=>.tup (scrubL p cs)
 | .clo f fs cs=>.clo f (scrubL p fs) (scrubL p cs)
 |a=>a
where scrubL (p:Nat->Bool):List AV->List AV
 |[]=>[]
 |a::as=>a.scrub p::scrubL p as
theorem MA(p:Nat->Bool):∀(cs:List AV)(j:Nat),(AV.scrub.scrubL p cs)[j]?=(cs[j]?).map (AV.scrub p)
 |[],j=>by simp[AV.scrub.scrubL]
 |a::as,0=>by simp[AV.scrub.scrubL]
 |a::as,j+1=>by simpa [AV.scrub.scrubL]using MA p as j
theorem MB(p:Nat->Bool):∀(cs:List AV),(AV.scrub.scrubL p cs).length=cs.length
 |[]=>rfl
 |a::as=>by simp[AV.scrub.scrubL,MB p as]
def ma(sc:Option (Nat->Bool))(a:AV):AV:=match sc with
 |some p=>a.scrub p
 |none=>a
structure bQ(sc:Option (Nat->Bool))(w:World)(ι:Pl)(R:Nat->Prop)(w':World)(ι':Pl)(R':Nat->Prop):Prop where
 size:w.heap.size<=w'.heap.size
 read:∀b,R b->b<w.heap.size->R' b/\w'.heap[b]?=w.heap[b]?
 place:∀(k c:Nat)(s:Nat×Nat),(∀p,sc=some p->p k=false)->ι[k]?=some (some c,s)->ι'[k]?=some (some c,s)
theorem dD.keep{sc:Option (Nat->Bool)}{w w':World}{ι ι':Pl}{R R':Nat->Prop}(hk:bQ sc w ι R w' ι' R'){a:AV}{v:Value}(h:dD w ι R a v):dD w' ι' R' (ma sc a) v:=by
 cases sc with
 |none=>
  unfold ma
  induction h with
  |p x v h=>exact .p x v (h.keep hk.size hk.read)
  |own k j c s h=>exact .own k j c s (hk.place k _ _ (fun p e=>by cases e) h)
  |orw k i j c s h=>exact .orw k i j c s (hk.place k _ _ (fun p e=>by cases e) h)
  |osl0 k i=>exact .osl0 k i
  |osl k i n c cap s h hn hm hz=>exact .osl k i n c cap s (hk.place k _ _ (fun p e=>by cases e) h) hn hm hz
  |agg cs vs hl hr ih=>exact .agg cs vs hl ih
  |tup cs vs hl hr ih=>exact .tup cs vs hl ih
  |clo f fs cs us vs hl hr nM gf ih ih'=>exact .clo f fs cs us vs hl ih nM ih'
  |junk v=>exact .junk v
 |some x=>
  unfold ma;simp only
  induction h with
  |p y v h=>exact .p y v (h.keep hk.size hk.read)
  |own k j c s h=>
   unfold AV.scrub
   split
   ·exact .junk _
   ·rename_i eA;exact .own k j c s (hk.place k _ _ (fun p e=>by cases e;exact eA) h)
  |orw k i j c s h=>
   unfold AV.scrub
   split
   ·exact .junk _
   ·rename_i eA;exact .orw k i j c s (hk.place k _ _ (fun p e=>by cases e;exact eA) h)
  |osl0 k i=>
   unfold AV.scrub
   split
   ·exact .junk _
   ·exact .osl0 k i
  |osl k i n c cap s h hn hm hz=>
   unfold AV.scrub
   split
   ·exact .junk _
   ·rename_i eA;exact .osl k i n c cap s (hk.place k _ _ (fun p e=>by cases e;exact eA) h) hn hm hz
  |agg cs vs hl hr ih=>
   refine .agg _ vs (by rw[MB];exact hl) fun j a v ha hv=>?_
   rw[MA]at ha
   grind
  |tup cs vs hl hr ih=>
   refine .tup _ vs (by rw[MB];exact hl) fun j a v ha hv=>?_
   rw[MA]at ha
   grind
  |clo f fs cs us vs hl hr nM gf ih ih'=>
   refine .clo f _ _ us vs (by rw[MB];exact hl) (fun j a v ha hv=>?_) (by rw[MB];exact nM) (fun j a v ha hv=>?_)
   ·rw[MA]at ha
    grind
   ·rw[MA]at ha
    grind
  |junk v=>exact .junk v
theorem dD.keep0{w w':World}{ι ι':Pl}{R R':Nat->Prop}(hk:bQ none w ι R w' ι' R'){a:AV}{v:Value}(h:dD w ι R a v):dD w' ι' R' a v:=h.keep hk
def iV(ι:Pl)(H:AH)(c:Nat):Prop:=∃(k:Nat)(b:cH)(s:Nat×Nat),H[k]?=some (some b)/\ι[k]?=some (some c,s)
def Rd(B:Nat->Prop)(ι:Pl)(H:AH)(b:Nat):Prop:=B b/\¬iV ι H b
def fh(w:World)(ι:Pl)(R:Nat->Prop)(c:Option Nat)(s:Nat×Nat):cH->Prop
 | .box cs t g=>(s=(0,0)/\∀n,g=some n->c=some n)/\∃(c':Nat)(arr:Array Value),c=some c'/\w.heap[c']?=some (.cells arr t (0,0))/\arr.size=cs.length/\∀(j:Nat)(a:AV),cs[j]?=some a->∃v,arr[j]?=some v/\v.oneCell'=true/\dD w ι R a v
 | .rows s' rs t=>s'=s.1/\(∀(i:Nat)(row:List PV),rs[i]?=some row->row.length=s.1)/\((c=none/\rs=[])\/∃(c':Nat)(arr:Array Value),c=some c'/\w.heap[c']?=some (.cells arr t (0,0))/\arr.size=s.2 ∧
   ∀(i j:Nat)(row:List PV)(a:PV),rs[i]?=some row->row[j]?=some a->∃v,arr[i*s.1+j]?=some v/\v.oneCell'=true/\cE w R a v)
 | .iter str pos=>∃(c':Nat),c=some c'/\w.heap[c']?=some (.stringIter str pos)
structure cF where
 w:World
 X:Nat->Prop
 ds:List Deferred
 pin:Nat->Option Value
def cF.own(b:cF)(c:Nat):Prop:=b.X c\/b.w.heap.size<=c
structure tR(b:cF)(w:World):Prop where
 os:w.os=b.w.os
 tape:w.tape=b.w.tape
 output:w.output=b.w.output
 size:b.w.heap.size<=w.heap.size
 block:∀k,k<b.w.heap.size->¬b.X k->w.heap[k]?=b.w.heap[k]?
theorem tR.trans{b:cF}{w w':World}(h:tR b w)(hg:Gr w w'):tR b w':=
 ⟨hg.os.trans h.os,hg.tape.trans h.tape,hg.output.trans h.output,aS h.size hg.size,fun k hk hx=>by
  have:=h.size
  rw[hg.block k oM];exact h.block k hk hx⟩
def cF.of(w:World):cF:=⟨w,fun _=>False,[],fun _=>none⟩
theorem tR.of{w w':World}(h:Gr w w'):tR (cF.of w) w':=⟨h.os,h.tape,h.output,h.size,fun k hk _=>h.block k hk⟩
theorem tR.gr{w w':World}(h:tR (cF.of w) w'):Gr w w':=⟨h.os,h.tape,h.output,h.size,fun k hk=>h.block k hk id⟩
structure eQ(w0:cF)(B:Nat->Prop)(w:World)(ι:Pl)(H:AH):Prop where
 gr:tR w0 w
 fut:∀b,w.heap.size<=b->B b
 len:ι.length=H.length
 blk:∀(k:Nat)(b:cH)(c:Option Nat)(s:Nat×Nat),H[k]?=some (some b)->ι[k]?=some (c,s)->(∀c',c=some c'->w0.own c')/\fh w ι (Rd B ι H) c s b
 inj:∀(k l:Nat)(b b':cH)(c:Nat)(s s':Nat×Nat),H[k]?=some (some b)->H[l]?=some (some b')->ι[k]?=some (some c,s)->ι[l]?=some (some c,s')->k=l
theorem fh.block{w:World}{ι:Pl}{R:Nat->Prop}{c:Nat}{s:Nat×Nat}{b:cH}(h:fh w ι R (some c) s b):∃o,w.heap[c]?=some o:=by
 cases b with
 |box cs t g=>obtain⟨_,c',arr,e,h1,_⟩:=h;grind
 |rows s' rs t=>
  obtain⟨_,_,h|⟨c',arr,e,h1,_⟩⟩:=h
  ·cases h.1
  grind
 |iter str pos=>obtain⟨c',e,h1⟩:=h;grind
theorem md{w:World}{c:Nat}{o:Obj}(h:w.heap[c]?=some o):c<w.heap.size:=(jB.1 h).1
theorem eQ.lt{w0:cF}{B:Nat->Prop}{w:World}{ι:Pl}{H:AH}(h:eQ w0 B w ι H){c:Nat}(ho:iV ι H c):c<w.heap.size:=by
 obtain⟨k,b,s,h1,h2⟩:=ho;obtain⟨o,ho⟩:=(h.blk k b _ s h1 h2).2.block;exact md ho
theorem eQ.ge{w0:cF}{B:Nat->Prop}{w:World}{ι:Pl}{H:AH}(h:eQ w0 B w ι H){c:Nat}(ho:iV ι H c):w0.own c:=by
 obtain⟨k,b,s,h1,h2⟩:=ho;exact(h.blk k b _ s h1 h2).1 c rfl
def HC(sc:Option (Nat->Bool)):cH->cH
 | .box cs t g=>.box (cs.map (ma sc)) t g
 |b=>b
theorem fh.keep{sc:Option (Nat->Bool)}{w w':World}{ι ι':Pl}{R R':Nat->Prop}(hk:bQ sc w ι R w' ι' R'){c:Option Nat}{s:Nat×Nat}{b:cH}
  (hb:∀c',c=some c'->w'.heap[c']?=w.heap[c']?) (h:fh w ι R c s b):
  fh w' ι' R' c s (HC sc b):=by
 cases b with
 |box cs t g=>
  obtain⟨hg,c',arr,e,h1,h2,h3⟩:=h;refine⟨hg,c',arr,e,by rw[hb c' e];exact h1,by simpa using h2,fun j a ha=>?_⟩
  rw[aH]at ha
  cases hj:cs[j]? with
  |none=>rw[hj]at ha;cases ha
  |some y=>
   rw[hj]at ha;cases ha
   obtain⟨v,hv,vK,hr⟩:=h3 j y hj;exact⟨v,hv,vK,hr.keep hk⟩
 |rows s' rs t=>
  obtain⟨e,hl,h⟩:=h;refine⟨e,hl,?_⟩
  rcases h with h|⟨c',arr,e,h1,hz,h3⟩
  ·exact .inl h
  ·refine .inr ⟨c',arr,e,by rw[hb c' e];exact h1,hz,fun i j row a h4 h5=>?_⟩
   obtain⟨v,hv,vK,hr⟩:=h3 i j row a h4 h5;exact⟨v,hv,vK,hr.keep hk.size hk.read⟩
 |iter str pos=>
  obtain⟨c',e,h1⟩:=h;exact⟨c',e,by rw[hb c' e];exact h1⟩
theorem fh.keep0{w w':World}{ι ι':Pl}{R R':Nat->Prop}(hk:bQ none w ι R w' ι' R'){c:Option Nat}{s:Nat×Nat}{b:cH}
  (hb:∀c',c=some c'->w'.heap[c']?=w.heap[c']?) (h:fh w ι R c s b):fh w' ι' R' c s b:=by
 have:=h.keep hk hb
 cases b with
 |box cs t g=>
  have e:cs.map (ma none)=cs:=by
   have:ma none=id:=rfl
   rw[this,List.map_id]
  unfold HC at this
  grind
 |rows s' rs t=>exact this
 |iter str pos=>exact this
theorem bQ.gr{B:Nat->Prop}{w w':World}{ι:Pl}{H:AH}(hg:Gr w w'):bQ none w ι (Rd B ι H) w' ι (Rd B ι H):=
 ⟨hg.size,fun b hb cJ=>⟨hb,hg.block b cJ⟩,fun _ _ _ _ h=>h⟩
theorem eQ.grow{w0:cF}{B:Nat->Prop}{w w':World}{ι:Pl}{H:AH}(h:eQ w0 B w ι H)(hg:Gr w w'):eQ w0 B w' ι H:=
 ⟨h.gr.trans hg,fun b hb=>h.fut b (aS hg.size hb),h.len,fun k b c s h1 h2=>⟨(h.blk k b c s h1 h2).1,(h.blk k b c s h1 h2).2.keep0 (bQ.gr hg) fun c' e=>by
  subst e;exact hg.block c' (h.lt ⟨k,b,s,h1,h2⟩)⟩,h.inj⟩
theorem eQ.size{w0:cF}{B:Nat->Prop}{w:World}{ι:Pl}{H:AH}(h:eQ w0 B w ι H):w0.w.heap.size<=w.heap.size:=h.gr.size
structure TI where
 desc:TypeDesc
 size:Nat
 bytes:Nat
 zero:Value
 cmp:Bool:=false
abbrev TT:=TypeId->Option TI
def gY(P:Program)(T:TT):Prop:=∀t i,T t=some i->(P.underlying t=some i.desc/\(P.info? t).map (fun j=>(j.zero,j.size,j.bytes))=some (some i.zero,i.size,i.bytes))/\(i.cmp=true->P.stoodInHeld t=false/\P.eqGuardType P.depth t=false)
def uo:TypeDesc->Bool
 | .struct _=>true
 | .array _ _=>true
 |_=>false
section
variable{P:Program}{T:TT}(hT:gY P T)
include hT
theorem pV{t:TypeId}{i:TI}(h:T t=some i)(w:World):(underlying t).run P w=.ok i.desc w:=run_underlying (hT t i h).1.1 w
theorem rp{t:TypeId}{i:TI}(h:T t=some i)(w:World):(sizeOf t).run P w=.ok i.size w:=by
 obtain⟨j,hj,_,hs,_⟩:=info_parts (hT t i h).1.2;simp[sizeOf,typeInfo,hj,hs]
theorem KZ{t:TypeId}{i:TI}(h:T t=some i)(w:World):(zeroValue t).run P w=.ok i.zero w:=by
 obtain⟨j,hj,hz,_,_⟩:=info_parts (hT t i h).1.2;simp[zeroValue,typeInfo,hj,hz]
theorem GS{t:TypeId}{i:TI}(h:T t=some i)(w:World):(isAgg t).run P w=.ok (uo i.desc) w:=by
 unfold isAgg;rw[Sem.run_bind,pV hT h,Result.andThen_ok]
 cases i.desc<;>rfl
end
def Fw:Value->PV
 | .agg cs=>.agg (cs.toList.map .v)
 |x=>.v x
def bO(env:List AV):Operand->AV
 | .tmp t=>env.getD t .junk
 | .const x=>.p (Fw x)
 | .global g=>.p (.v (.pointer (some ⟨g,0,none⟩)))
 | .func f=>.p (.v (.func (.func f) #[] #[]))
theorem WE(w:World)(R:Nat->Prop)(x:Value):cE w R (Fw x) x:=by
 unfold Fw
 split
 ·rename_i cs
  have:=cE.agg (w:=w) (R:=R) (cs.toList.map .v) cs.toList jT (fun j a v ha hv=>by
   rw[aH,hv]at ha
   cases ha
   exact .v v)
  exact pc
 ·exact .v _
def qM:AV->List AV
 | .agg cs=>cs
 | .p (.agg cs)=>cs.map .p
 |a=>[a]
def AV.toP:AV->Option PV
 | .p x=>some x
 | .agg cs=>(toPL cs).map .agg
 | .tup cs=>(toPL cs).map .tup
 |_=>none
where toPL:List AV->Option (List PV)
 |[]=>some []
 |a::as=>match a.toP,toPL as with
  |some x,some xs=>some (x::xs)
  |_,_=>none
theorem sn:∀(cs:List AV)(xs:List PV),AV.toP.toPL cs=some xs->xs.length=cs.length/\∀(j:Nat)(a:AV),cs[j]?=some a->∃x,xs[j]?=some x/\a.toP=some x
 |[],xs,h=>by simp[AV.toP.toPL]at h;subst h;simp
 |a::as,xs,h=>by
  unfold AV.toP.toPL at h
  split at h
  ·rename_i x ys hx hy
   cases h
   have ih:=sn as ys hy
   grind
  ·cases h
theorem dD.toP{w:World}{ι:Pl}{R:Nat->Prop}{a:AV}{v:Value}(h:dD w ι R a v):∀x,a.toP=some x->cE w R x v:=by
 induction h with
 |p x v h=>intro y hy;cases hy;exact h
 |own=>intro y hy;cases hy
 |orw=>intro y hy;cases hy
 |osl0=>intro y hy;cases hy
 |osl=>intro y hy;cases hy
 |junk=>intro y hy;cases hy
 |clo=>intro y hy;cases hy
 |agg cs vs hl hr ih=>
  intro y hy;unfold AV.toP at hy
  cases hp:AV.toP.toPL cs with
  |none=>rw[hp]at hy;cases hy
  |some xs=>
   rw[hp]at hy;cases hy
   have hg:=sn cs xs hp;refine .agg xs vs oM fun j a v ha hv=>?_
   exact S5
 |tup cs vs hl hr ih=>
  intro y hy;unfold AV.toP at hy
  cases hp:AV.toP.toPL cs with
  |none=>rw[hp]at hy;cases hy
  |some xs=>
   rw[hp]at hy;cases hy
   have hg:=sn cs xs hp;refine .tup xs vs oM fun j a v ha hv=>?_
   exact S5
def PV.toV:PV->Option Value
 | .v x=>some x
 | .agg cs=>(toVL cs).map fun vs=>.agg vs.toArray
 |_=>none
where toVL:List PV->Option (List Value)
 |[]=>some []
 |a::as=>match a.toV,toVL as with
  |some x,some xs=>some (x::xs)
  |_,_=>none
theorem Ko:∀(cs:List PV)(vs:List Value),PV.toV.toVL cs=some vs->vs.length=cs.length/\∀(j:Nat)(a:PV),cs[j]?=some a->∃v,vs[j]?=some v/\a.toV=some v
 |[],vs,h=>by simp[PV.toV.toVL]at h;subst h;simp
 |a::as,vs,h=>by
  unfold PV.toV.toVL at h
  split at h
  ·rename_i x ys hx hy
   cases h
   have ih:=Ko as ys hy
   grind
  ·cases h
theorem cE.toV{w:World}{R:Nat->Prop}{p:PV}{u:Value}(h:cE w R p u):∀v,p.toV=some v->u=v:=by
 induction h with
 |v x=>intro v h;cases h;rfl
 |e0=>intro v h;cases h
 |ro0=>intro v h;cases h
 |ro=>intro v h;cases h
 |rop=>intro v h;cases h
 |tup=>intro v h;cases h
 |err=>intro v h;cases h
 |agg cs us hl hr ih=>
  intro v h;unfold PV.toV at h
  cases hp:PV.toV.toVL cs with
  |none=>rw[hp]at h;cases h
  |some vs=>
   rw[hp]at h;cases h
   have hg:=Ko cs vs hp
   have:us=vs:=by
    apply List.ext_getElem?;intro j
    rcases bB j cs.length with hj|hj
    ·obtain⟨v,hv,Vv⟩:=hg.2 j cs[j] (aB hj)
     grind
    grind
   rw[this]
def oe(w:World)(R:Nat->Prop):PV->Ending->Prop
 | .pan ch,e=>e=.panicked ch
 |r,e=>∃v,e=.returned v/\cE w R r v
theorem oe.ret{w:World}{R:Nat->Prop}{r:PV}{v:Value}(h:cE w R r v):oe w R r (.returned v):=by
 cases h<;>exact⟨_,rfl,by constructor<;>assumption⟩
def PV.isPan:PV->Bool
 | .pan _=>true
 |_=>false
theorem oe.val{w:World}{R:Nat->Prop}{r:PV}{e:Ending}(h:oe w R r e)(hp:r.isPan=false):∃v,e=.returned v/\cE w R r v:=by
 cases r<;>first|exact h|cases hp
def fX(P:Program)(G:World->Prop)(f:FuncId)(as:List PV)(r:PV):Prop:=
 (∀(args:Array Value)(w:World),(callFunc f args).run P w=.ok (.enter f args) w) ∧
 ∀(w:World)(B:Nat->Prop)(args:List Value),G w->as.length=args.length->(∀(j:Nat)(a:PV)(v:Value),as[j]?=some a->args[j]?=some v->cE w B a v) →
  Calls P f args.toArray w fun e w'=>Gr w w'/\oe w' (fun b=>B b\/w.heap.size<=b) r e
def MT{α:Type}(P:Program):Sem α->(α->Prop)->Prop
 | .pure a,K=>K a
 | .program k,K=>MT P (k P) K
 |_,_=>False
theorem z5s{α:Type}(P:Program)(s:Sem α)(K:α->Prop)(h:MT P s K):∃a,K a/\∀w,s.run P w=.ok a w:=by
 induction s with
 |pure a=>exact⟨a,h,fun _=>rfl⟩
 |program k ih=>
  obtain⟨a,h1,h2⟩:=ih P h;exact⟨a,h1,fun w=>by simpa [Sem.run]using h2 w⟩
 |_=>cases h
structure SO where
 eq:ByteArray->ByteArray->Bool
 lt:ByteArray->ByteArray->Bool
 add:ByteArray->ByteArray->ByteArray
 ext:ByteArray->Nat->Nat->ByteArray
 size:ByteArray->Int
 get:ByteArray->Nat->Option Int
 decR:ByteArray->Nat->Int
 decW:ByteArray->Nat->Nat
 wrap:IntKind->Int->Int
 enc:Int->ByteArray
 lti:Int->Int->Bool
 lei:Int->Int->Bool
 wadd:IntKind->Int->Int->Int
 wsub:IntKind->Int->Int->Int
 wmul:IntKind->Int->Int->Int
 wquo:IntKind->Int->Int->Int
 rem:Int->Int->Int
 max:Int->Int->Int
 min:Int->Int->Int
 rrows:ByteArray->List (List PV)
 encL:List Int->ByteArray
 nat:Int->Nat
 ofN:Nat->Int
 ple:Int->Int->Prop
 plt:Int->Int->Prop
 cat:ByteArray->ByteArray->Prop
 room:Nat->Nat->Nat->Prop
 band:IntKind->Int->Int->Int
 bor:IntKind->Int->Int->Int
 bxor:IntKind->Int->Int->Int
 shl:IntKind->Int->Int->Int
 shr:IntKind->Int->Int->Int
 fits:ByteArray->Prop
 addN:Nat->Nat->Nat
 pre:Nat->Nat->List (List PV)->Prop
 app:List (List PV)->Nat->List (List PV)->List (List PV)
 sub:List (List PV)->Nat->Nat->List (List PV)
 cut:List (List PV)->Nat->Nat->List (List PV)
 put:List (List PV)->Nat->List PV->List (List PV)
 brows:ByteArray->List (List PV)
def nD(s:ByteArray):List (List PV):=s.data.toList.map fun b=>[.v (.int .u8 (b.toNat:Nat))]
def KY(s:ByteArray):Nat->Nat->List Int
 |0,_=>[]
 |b+1,i=>if i<s.size then((Utf8.decode s i).1:Int)::KY s b (i+(Utf8.decode s i).2)else []
def rM(s:ByteArray):List Int:=KY s s.size 0
theorem Lq(s:ByteArray):∀(b i:Nat)(acc:Array Value),Conv.runesFrom s b i acc=acc++((KY s b i).map (Value.int .i32)).toArray
 |0,i,acc=>by simp[Conv.runesFrom,KY]
 |b+1,i,acc=>by
  unfold Conv.runesFrom KY
  split
  ·generalize Utf8.decode s i=d;simp only;rw[Lq s b];simp
  ·simp
theorem XU(s:ByteArray):Conv.runesFrom s s.size 0 #[]=((rM s).map (Value.int .i32)).toArray:=by
 rw[Lq];simp[rM]
theorem Z4(s:ByteArray):(rM s).length<=s.size:=by
 have:=size_runesFrom s s.size 0 #[]
 rw[XU]at this;exact pc
def pR(ns:List Int):List (List PV):=ns.map fun n=>[.v (.int .i32 n)]
theorem zlq(a b:ByteArray):(a.toList==b.toList)=decide (a=b):=by
 rw[ByteArray.toList_eq,ByteArray.toList_eq]
 by_cases h:a=b
 ·subst h;simp
 ·have h2:¬a.data=b.data:=fun e=>h (ByteArray.ext e)
  simp[h,h2]
def bK:SO:=⟨fun a b=>decide (a=b),fun a b=>Op.bytesLess a.toList b.toList,fun a b=>a++b,fun s l h=>s.extract l h,fun s=>(s.size:Nat),fun s n=>(s.data.toList[n]?).map fun b=>((b.toNat:Nat):Int),fun s p=>((Utf8.decode s p).1:Nat),fun s p=>(Utf8.decode s p).2,fun k n=>k.wrap n,fun r=>Utf8.encode r,fun a b=>decide (a<b),fun a b=>decide (a<=b),fun k a b=>k.wrap (a+b),fun k a b=>k.wrap (a-b),fun k a b=>k.wrap (a*b),fun k a b=>k.wrap (a.tdiv b),fun a b=>a.tmod b,fun a b=>if b>a then b else a,fun a b=>if b<a then b else a,fun s=>pR (rM s),runesBytes,Int.toNat,fun n=>(n:Int),fun a b=>a<=b,fun a b=>a<b,fun a b=>((a.size:Nat):Int)+((b.size:Nat):Int)<=9223372036854775807,fun n m s=>n+m<=maxLen/\(n+m)*s<=140737488355328,
 fun k a b=>k.wrap (BitVec.ofInt k.bits a &&& BitVec.ofInt k.bits b).toNat,fun k a b=>k.wrap (BitVec.ofInt k.bits a |||BitVec.ofInt k.bits b).toNat,fun k a b=>k.wrap (BitVec.ofInt k.bits a ^^^ BitVec.ofInt k.bits b).toNat,fun k a b=>k.wrap (a*2 ^ (min b.toNat k.bits)),fun k a b=>a.fdiv (2 ^ (min b.toNat k.bits)),fun s=>((s.size:Nat):Int)<=70368744177664,fun a b=>a+b,fun i n rs=>i+n<=rs.length,fun rs n rows=>rs.take n++rows,fun rs i n=>(rs.drop i).take n,fun rs l h=>(rs.take h).drop l,fun rs r row=>rs.set r row,nD⟩
theorem Zl(n:Int):IntKind.i64.wrap n=(n+9223372036854775808)%18446744073709551616-9223372036854775808:=by
 have e1:((2:Int) ^ IntKind.i64.bits)=18446744073709551616:=aT
 have e2:((2:Int) ^ (IntKind.i64.bits-1))=9223372036854775808:=aT
 have e3:IntKind.i64.signed=true:=rfl;simp only[IntKind.wrap,e1,e2,e3,bP,bF]
 split<;>omega
theorem Zm(n:Int):IntKind.u64.wrap n=n%18446744073709551616:=by
 have e1:((2:Int) ^ IntKind.u64.bits)=18446744073709551616:=aT
 have e3:IntKind.u64.signed=false:=rfl;exact Rl
theorem jX{n:Int}(h0:-9223372036854775808<=n)(h1:n<=9223372036854775807):IntKind.i64.wrap n=n:=by rw[Zl];omega
theorem su{E:SO}(hE:E=bK):∀a b:Int,-1000000000<=a->a<=1000000000->-1000000000<=b->b<=1000000000->E.wadd .i64 a b=a+b:=fun a b h0 h1 h2 h3=>by rw[hE];exact jX oM oM
theorem uA{E:SO}(hE:E=bK):∀a b,a<=b->E.ple a b:=fun a b h=>by rw[hE];exact h
theorem xV{E:SO}(hE:E=bK):∀a b,E.lti a b=decide (a<b):=fun a b=>by rw[hE];rfl
theorem sQ{E:SO}(hE:E=bK)(s:ByteArray):∀k,¬s=k->E.eq s k=false:=fun k h=>by rw[hE];exact dF h
def GJ(i:TI)(a:AV)(H:AH)(K:AV->Prop):Prop:=
 match a with
 | .own k j=>(match H[k]? with
  |some (some (.box cs _ _))=>if uo i.desc then(if j+i.size<=cs.length then K (.agg ((cs.drop j).take i.size))else False)else(match cs[j]? with
   |some x=>K x
   |none=>False)
  |_=>False)
 | .orw k r j=>(match H[k]? with
  |some (some (.rows _ rs _))=>∃row,rs[r]?=some row/\(if uo i.desc then(if j+i.size<=row.length then K (.p (.agg ((row.drop j).take i.size)))else False)else(match row[j]? with
   |some x=>K (.p x)
   |none=>False))
  |_=>False)
 | .p (.rop row)=>if uo i.desc then(if i.size<=row.length then K (.p (.agg (row.take i.size)))else False)else(match row with
  |x::_=>K (.p x)
  |[]=>False)
 |_=>False
def E8(off:Nat)(a:AV)(K:AV->Prop):Prop:=
 match a with
 | .own k j=>K (.own k (j+off))
 | .orw k i j=>K (.orw k i (j+off))
 | .p (.rop row)=>K (.p (.rop (row.drop off)))
 |_=>False
def E4(E:SO)(s:Nat)(x:AV)(i:AV)(H:AH)(K:AV->Prop):Prop:=
 match i with
 | .p (.v (.int _ n))=>(match x with
  | .p (.ro s' rows)=>s'=s/\E.ple 0 n/\∃row,rows[E.nat n]?=some row/\K (.p (.rop row))
  | .osl k i0 len=>(match H[k]? with
   |some (some (.rows s' _ _))=>s'=s/\E.ple 0 n/\E.plt n (E.ofN len)/\K (.orw k (E.addN i0 (E.nat n)) 0)
   |_=>False)
  |_=>False)
 |_=>False
def EA(E:SO)(d:TypeDesc)(x:AV)(K:AV->Prop):Prop:=
 match d with
 | .string=>(match x with
  | .p (.v (.string s))=>K (.p (.v (.int .i64 (E.size s))))
  |_=>False)
 | .slice _=>(match x with
  | .p (.v (.slice _ n _))=>K (.p (.v (.int .i64 (E.ofN n))))
  | .p .e0=>K (.p (.v (.int .i64 0)))
  | .p (.ro _ rows)=>K (.p (.v (.int .i64 (E.ofN rows.length))))
  | .osl _ _ n=>K (.p (.v (.int .i64 (E.ofN n))))
  |_=>False)
 |_=>False
def Bw:AV->Bool
 | .junk=>false
 | .p (.v x)=>x.oneCell'
 |_=>true
def nl{α:Type}(cells:List α)(off:Nat)(cs:List α):List α:=cells.take off++cs++cells.drop (off+cs.length)
def fi(place:Nat->Option (Nat×Nat))(cells:List AV):List (Nat×AV)->Option (List AV)
 |[]=>some cells
 |(i,a)::rest=>match place i with
  |none=>none
  |some (off,size)=>if Bw a=true/\(qM a).length=size/\off+size<=cells.length then fi place (nl cells off (qM a)) rest else none
def HN(T:TT):List Field->Option (List (Nat×Nat))
 |[]=>some []
 |f::fs=>match T f.type,HN T fs with
  |some i,some r=>some ((f.offset,i.size)::r)
  |_,_=>none
def BQ(x:Option AV)(d:Int)(K:Int->Prop):Prop:=
 match x with
 |none=>K d
 |some (.p (.v (.int _ n)))=>K n
 |_=>False
def Cs(E:SO)(x:AV)(lo hi:Option AV)(K:AV->Prop):Prop:=
 match x with
 | .p (.v (.string s))=>BQ hi (E.size s) fun h=>BQ lo 0 fun l=>E.ple 0 l/\E.ple l h/\E.ple h (E.size s)/\K (.p (.v (.string (E.ext s (E.nat l) (E.nat h)))))
 |_=>False
def E5(E:SO)(es:Nat)(x:AV)(lo hi:Option AV)(K:AV->Prop):Prop:=
 match x with
 | .p (.ro s rows)=>s=es/\(BQ hi (E.ofN rows.length) fun h=>BQ lo 0 fun l=>E.ple 0 l/\E.ple l h/\E.ple h (E.ofN rows.length)/\K (.p (.ro s (E.cut rows (E.nat l) (E.nat h)))))
 | .osl k i n=>(match lo with
  |none=>BQ hi (E.ofN n) fun h=>E.ple 0 h/\E.ple h (E.ofN n)/\K (.osl k i (E.nat h))
  |_=>False)
 |_=>False
def Bz(x:AV)(i:Nat)(K:AV->Prop):Prop:=
 match x with
 | .tup cs=>(match cs[i]? with
  |some a=>K a
  |none=>False)
 | .p (.tup cs)=>(match cs[i]? with
  |some a=>K (.p a)
  |none=>False)
 |_=>False
def apart(x:AV)(off:Nat)(K:AV->Prop):Prop:=
 match x with
 | .agg cs=>(match cs[off]? with
  |some a=>K a
  |none=>False)
 | .p (.agg cs)=>(match cs[off]? with
  |some a=>K (.p a)
  |none=>False)
 |_=>False
def NI(H:AH):AV->Option PV
 | .own k 0=>(match H[k]? with
  |some (some (.box cs _ _))=>(match AV.toP.toPL cs with
   |some ps=>some (.rop ps)
   |none=>none)
  |_=>none)
 |a=>a.toP
def GV(H:AH):List AV->Option (List PV)
 |[]=>some []
 |a::as=>match NI H a,GV H as with
  |some x,some xs=>some (x::xs)
  |_,_=>none
theorem Ly{H:AH}:∀(cs:List AV)(xs:List PV),GV H cs=some xs->xs.length=cs.length/\∀(j:Nat)(a:AV),cs[j]?=some a->∃x,xs[j]?=some x/\NI H a=some x
 |[],xs,h=>by simp[GV]at h;subst h;simp
 |a::as,xs,h=>by
  unfold GV at h
  split at h
  ·rename_i x ys hx hy
   cases h
   have ih:=Ly as ys hy
   grind
  ·cases h
def Pr(P:Program)(G:World->Prop)(E:SO)(T:TT)(env:List AV)(H:AH)(c:Call)(K:AV->Prop):Prop:=
 match c.callee with
 | .builtin .len=>(match c.args.toList,c.argTypes.toList with
  |[x],[t]=>(match T t with
   |some ti=>EA E ti.desc (bO env x) K
   |none=>False)
  |_,_=>False)
 | .builtin .max=>(match c.args.toList.map (bO env)with
  |[.p (.v (.int k a)),.p (.v (.int _ b))]=>K (.p (.v (.int k (E.max a b))))
  |_=>False)
 | .builtin .min=>(match c.args.toList.map (bO env)with
  |[.p (.v (.int k a)),.p (.v (.int _ b))]=>K (.p (.v (.int k (E.min a b))))
  |_=>False)
 | .value (.func f)=>(match AV.toP.toPL (c.args.toList.map (bO env))with
  |some as=>∃r,fX P G f as r/\(match r.isPan with
   |true=>False
   |false=>K (.p r))
  |none=>(match GV H (c.args.toList.map (bO env))with
   |some as=>∃r,fX P G f as r/\(match r with
    | .v x=>K (.p (.v x))
    |_=>False)
   |none=>False))
 |_=>False
def Po(P:Program)(E:SO)(op:BinOp)(t:TypeId)(k:IntKind)(a b:Int)(K:AV->Prop):Prop:=
 match op with
 | .add=>K (.p (.v (.int k (E.wadd k a b))))
 | .sub=>K (.p (.v (.int k (E.wsub k a b))))
 | .mul=>K (.p (.v (.int k (E.wmul k a b))))
 | .quo=>b≠0/\K (.p (.v (.int k (E.wquo k a b))))
 | .rem=>b≠0/\K (.p (.v (.int k (E.rem a b))))
 | .eql=>K (.p (.v (.bool (decide (a=b)))))
 | .neq=>K (.p (.v (.bool (!decide (a=b)))))
 | .lss=>K (.p (.v (.bool (E.lti a b))))
 | .leq=>K (.p (.v (.bool (E.lei a b))))
 | .gtr=>K (.p (.v (.bool (E.lti b a))))
 | .geq=>K (.p (.v (.bool (E.lei b a))))
 | .and=>K (.p (.v (.int k (E.band k a b))))
 | .or=>K (.p (.v (.int k (E.bor k a b))))
 | .xor=>K (.p (.v (.int k (E.bxor k a b))))
 |op=>MT P (binOp op t (.int k a) (.int k b)) fun v=>K (.p (.v v))
def Pq(E:SO)(op:BinOp)(a b:ByteArray)(K:AV->Prop):Prop:=
 match op with
 | .add=>E.cat a b/\K (.p (.v (.string (E.add a b))))
 | .eql=>K (.p (.v (.bool (E.eq a b))))
 | .neq=>K (.p (.v (.bool (!E.eq a b))))
 | .lss=>K (.p (.v (.bool (E.lt a b))))
 | .leq=>K (.p (.v (.bool (E.lt a b||E.eq a b))))
 | .gtr=>K (.p (.v (.bool (!(E.lt a b||E.eq a b)))))
 | .geq=>K (.p (.v (.bool (!E.lt a b))))
 |_=>False
def Ge(E:SO):PV->PV->Option Bool
 | .v (.int k a),.v (.int k' b)=>if k=k' then some (decide (a=b))else none
 | .v (.string a),.v (.string b)=>some (E.eq a b)
 | .v (.bool a),.v (.bool b)=>some (a==b)
 |_,_=>none
def CB(E:SO)(T:TT):List Field->List PV->List PV->Option Bool
 |[],_,_=>some true
 | f :: fs, xs, ys => if f.name = "_" then none else (match T f.type, xs[f.offset]?, ys[f.offset]? with
  |some i,some x,some y=>(match(match i.desc,x with
    | .int _,.v (.int _ _)=>true
    | .string,.v (.string _)=>true
    | .bool,.v (.bool _)=>true
    |_,_=>false),Ge E x y,CB E T fs xs ys with
   |true,some b,some r=>some (b&&r)
   |_,_,_=>none)
  |_,_,_=>none)
def wa:AV->Option (List PV)
 | .p (.agg cs)=>some cs
 | .agg cs=>AV.toP.toPL cs
 |_=>none
def QV(c:Bool):AV->AV->Option Bool
 | .p .err,.p (.v .nilIface)=>some false
 | .p (.v (.iface _ _)),.p (.v .nilIface)=>some false
 | .p (.v .nilIface),.p (.v .nilIface)=>(match c with
  |true=>some true
  |false=>none)
 |_,_=>none
def DO:Operand->Bool
 | .const _=>true
 |_=>false
def Pp(T:TT)(op:BinOp)(t:TypeId)(b:Bool)(K:AV->Prop):Prop:=
 match T t with
 |some i=>(match i.desc,op with
  | .interface _,.eql=>K (.p (.v (.bool b)))
  | .interface _,.neq=>K (.p (.v (.bool (!b))))
  |_,_=>False)
 |none=>False
def EB(P:Program)(E:SO)(T:TT)(op:BinOp)(t:TypeId)(a b:AV)(K:AV->Prop):Prop:=
 match a,b with
 | .p (.v (.bool a)),.p (.v (.bool b))=>(match T t with
  |some i=>(match i.desc,op with
   | .bool,.eql=>K (.p (.v (.bool (a==b))))
   | .bool,.neq=>K (.p (.v (.bool (a != b))))
   |_,_=>False)
  |none=>False)
 | .p (.v (.int k a)),.p (.v (.int k' b))=>(match op with
  | .shl=>E.ple 0 b/\K (.p (.v (.int k (E.shl k a b))))
  | .shr=>E.ple 0 b/\K (.p (.v (.int k (E.shr k a b))))
  |op=>if k=k' then Po P E op t k a b K else False)
 | .p (.v (.string a)),.p (.v (.string b))=>Pq E op a b K
 |a,b=>(match wa a,wa b,T t with
  |some xs,some ys,some i=>(match i.desc,i.cmp,op with
   | .struct fs,true,.eql=>(match CB E T fs.toList xs ys with
    |some r=>K (.p (.v (.bool r)))
    |none=>False)
   | .struct fs,true,.neq=>(match CB E T fs.toList xs ys with
    |some r=>K (.p (.v (.bool (!r))))
    |none=>False)
   |_,_,_=>False)
  |_,_,_=>False)
def Ek(P:Program)(E:SO)(op:UnOp)(a:AV)(K:AV->Prop):Prop:=
 match a with
 | .p (.v (.int k n))=>(match op with
  | .neg=>K (.p (.v (.int k (E.wsub k 0 n))))
  |op=>MT P (Op.unary op (.int k n)) fun v=>K (.p (.v v)))
 | .p (.v (.bool b))=>(match op with
  | .not=>K (.p (.v (.bool (!b))))
  |_=>False)
 |_=>False
def Ei(E:SO)(T:TT)(dst:TypeId)(cZ:TypeId)(a:AV)(K:AV->Prop):Prop:=
 match T dst,T cZ,a with
 |some i,some _,.p (.v (.int _ n))=>(match i.desc with
  | .string=>K (.p (.v (.string (E.enc n))))
  | .int k=>K (.p (.v (.int k (E.wrap k n))))
  |_=>False)
 |some i,some _,.p (.v (.string s))=>(match i.desc with
  | .string=>K (.p (.v (.string s)))
  | .slice e=>(match T e with
   |some te=>(match te.desc with
    | .int .i32=>E.fits s/\K (.p (.ro 1 (E.rrows s)))
    | .int .u8=>K (.p (.ro 1 (E.brows s)))
    |_=>False)
   |none=>False)
  |_=>False)
 |some i,some j,.p (.ro n rows)=>(match i.desc,j.desc with
  | .string,.slice e=>(match T e with
   |some te=>(match te.desc with
    | .int .i32=>n=1/\∃ns,rows=pR ns/\K (.p (.v (.string (E.encL ns))))
    | .int .u8=>n=1/\∃b,rows=E.brows b/\K (.p (.v (.string b)))
    |_=>False)
   |none=>False)
  |_,_=>False)
 |_,_,_=>False
def E7(E:SO)(T:TT)(dst cZ:TypeId)(k i n:Nat)(H:AH)(K:AV->Prop):Prop:=
 match T dst,T cZ with
 |some di,some si=>(match di.desc,si.desc with
  | .string,.slice e=>(match T e with
   |some te=>(match te.desc with
    | .int .u8=>(match H[k]? with
     |some (some (.rows s rs _))=>s=1/\E.pre i n rs/\∃b,E.sub rs i n=E.brows b/\K (.p (.v (.string b)))
     |_=>False)
    |_=>False)
   |none=>False)
  |_,_=>False)
 |_,_=>False
def EC(E:SO)(len:Nat)(x i:AV)(K:AV->Prop):Prop:=
 match x,i with
 | .own k j,.p (.v (.int _ n))=>E.ple 0 n/\E.plt n (E.ofN len)/\K (.own k (E.addN j (E.nat n)))
 |_,_=>False
def aq(P:Program)(G:World->Prop)(E:SO)(T:TT)(o:Oper)(env:List AV)(H:AH)(K:AV->Prop):Prop:=
 match o.op with
 | .move x=>K (bO env x)
 | .assign x=>K (bO env x)
 | .pick c a b=>(match bO env c with
  | .p (.v (.bool t))=>(match t with
   |true=>K (bO env a)
   |false=>K (bO env b))
  |_=>False)
 | .load t a=>(match T t with
  |some i=>GJ i (bO env a) H K
  |none=>False)
 | .fieldAddr s x f=>(match T s with
  |some i=>(match i.desc with
   | .struct fs=>(match fs[f]? with
    |some fd=>(match T fd.type with
     |some j=>if j.size=0 then False else E8 fd.offset (bO env x) K
     |none=>False)
    |none=>False)
   |_=>False)
  |none=>False)
 | .indexAddr t x i=>(match T t with
  |some ti=>(match ti.desc with
   | .slice e=>(match T e with
    |some te=>E4 E te.size (bO env x) (bO env i) H K
    |none=>False)
   | .array m e=>(match T e with
    |some te=>if te.size=1 then EC E m (bO env x) (bO env i) K else False
    |none=>False)
   |_=>False)
  |none=>False)
 | .index t x i=>(match T t with
  |some ti=>(match ti.desc,bO env x,bO env i with
   | .string,.p (.v (.string s)),.p (.v (.int _ n))=>E.ple 0 n/\∃b,E.get s (E.nat n)=some b/\K (.p (.v (.int .u8 b)))
   |_,_,_=>False)
  |none=>False)
 | .slice t x lo hi none=>(match T t with
  |some ti=>(match ti.desc with
   | .string=>Cs E (bO env x) (lo.map (bO env)) (hi.map (bO env)) K
   | .slice e=>(match T e with
    |some te=>E5 E te.size (bO env x) (lo.map (bO env)) (hi.map (bO env)) K
    |none=>False)
   |_=>False)
  |none=>False)
 | .extract x i=>Bz (bO env x) i K
 | .field s x f=>(match T s with
  |some i=>(match i.desc with
   | .struct fs=>(match fs[f]? with
    |some fd=>(match T fd.type with
     |some j=>if uo j.desc then False else apart (bO env x) fd.offset K
     |none=>False)
    |none=>False)
   |_=>False)
  |none=>False)
 | .makeInterface t x=>(match T t with
  |some i=>(match i.desc with
   | .interface _=>False
   |_=>(match(bO env x).toP.bind PV.toV with
    |some v=>K (.p (.v (.iface t v)))
    |none=>False))
  |none=>False)
 | .makeFunc (.func f) fs cs=>K (.clo f (fs.toList.map (bO env)) (cs.toList.map (bO env)))
 | .nilCheck x=>(match bO env x with
  | .own k j=>K (.own k j)
  | .orw k i j=>K (.orw k i j)
  | .p (.rop row)=>K (.p (.rop row))
  |_=>False)
 | .unOp op _ x=>Ek P E op (bO env x) K
 | .convert cZ dst x=>(match bO env x with
  | .osl k i n=>E7 E T dst cZ k i n H K
  |_=>Ei E T dst cZ (bO env x) K)
 | .binOp op t x y _=>(match QV (DO x||DO y) (bO env x) (bO env y)with
  |some b=>Pp T op t b K
  |none=>EB P E T op t (bO env x) (bO env y) K)
 | .build t parts=>(match T t with
  |some i=>(match i.desc with
   | .struct fs=>(match HN T fs.toList with
    |some pl=>(match fi (fun n=>pl[n]?) (i.zero.cells.toList.map fun x=>.p (.v x)) (parts.toList.map fun(n,x)=>(n,bO env x))with
     |some cs=>K (.agg cs)
     |none=>False)
    |none=>False)
   |_=>False)
  |none=>False)
 | .call c=>Pr P G E T env H c K
 |_=>False
def QS(P:Program)(G:World->Prop)(o:Oper)(env:List AV)(H:AH)(a:AV):Prop:=
 ∀(w0:cF)(B:Nat->Prop)(w:World)(ι:Pl)(ρ:Operand->Value),eQ w0 B w ι H->G w->(∀x,x∈o.op.operands->dD w ι (Rd B ι H) (bO env x) (ρ x))->(∀f,ρ (.func f)=.func (.func f) #[] #[]) →
  a7 P (fun v w'=>Gr w w'/\dD w' ι (Rd B ι H) a v) ((execOp ρ o).run P w)
theorem ka{w:World}{b o:Nat}{arr:Array Value}{t:TypeId}{fz:Nat×Nat}(h:w.heap[b]?=some (.cells arr t fz)):w.cell? ⟨b,o,none⟩=arr[o]?:=by
 simp[World.cell?,h]
theorem z1m{w:World}{R:Nat->Prop}{s:ByteArray}{c cap:Nat}{arr:Array Value}{t:TypeId}{fr:Nat×Nat}(hR:R c)(hb:w.heap[c]?=some (.cells arr t fr))(oX:s.size<=cap)(h:∀(j:Nat)(b:UInt8),s.data.toList[j]?=some b->arr[j]?=some (.int .u8 (b.toNat:Nat))):cE w R (.ro 1 (nD s)) (.slice (some ⟨c,0,none⟩) s.size cap):=by
 have hl:(nD s).length=s.size:=by simp[nD]
 have cM:∀(q:Nat)(row:List PV),(nD s)[q]?=some row->∃b,s.data.toList[q]?=some b/\row=[.v (.int .u8 (b.toNat:Nat))]:=fun q row hq=>by
  unfold nD at hq
  grind
 have gC:∀(q j:Nat)(row:List PV)(a:PV),(nD s)[q]?=some row->row[j]?=some a->∃b,s.data.toList[q]?=some b/\j=0/\a=.v (.int .u8 (b.toNat:Nat)):=fun q j row a hq ha=>by
  grind
 have:=cE.ro (w:=w) (R:=R) 1 (nD s) c 0 cap (fun q _=>.int .u8 (((s.data.toList[q]?).getD 0).toNat:Nat)) hR (md hb) (by rw[hl];exact oX)
  (fun q row hq=>by grind)
  (fun q j row a hq ha=>by
   obtain⟨n,hn,rfl,rfl⟩:=gC q j row a hq ha;refine⟨?_,rfl⟩;rw[ka hb,show 0+(q*1+0)=q by omega,h q n hn]
   simp[hn])
  (fun q j row a hq ha=>by
   obtain⟨n,hn,rfl,rfl⟩:=gC q j row a hq ha;simp only[hn,jE];exact .v _)
 grind
theorem z4n(w:World)(e:TypeId)(s:ByteArray):Gr w (Lib.bytesWorld w e s):=by
 refine⟨rfl,rfl,rfl,?_,fun k hk=>Lib.bytesWorld_at_old w e s k hk⟩
 rw[Lib.bytesWorld_size];omega
theorem jS{w:World}{ι:Pl}{R:Nat->Prop}{x v:Value}(h:dD w ι R (.p (.v x)) v):v=x:=by
 cases h with
 |p _ _ h=>cases h;rfl
theorem xhq(a b:ByteArray):(a==b)=decide (a=b):=by
 cases a with
 |mk x=>cases b with
  |mk y=>
   show(x==y)=_
   grind
theorem WI{w:World}{ι:Pl}{R:Nat->Prop}{a:AV}{v:Value}{cs:List PV}(h:wa a=some cs)(hv:dD w ι R a v):∃vs:List Value,v=.agg vs.toArray/\∀(j:Nat)(x:Value),cs[j]?=some (.v x)->vs[j]?=some x:=by
 unfold wa at h
 split at h
 ·cases h
  cases hv with
  |p _ _ hv=>
   cases hv with
   |agg _ vs hl hr=>
    refine⟨vs,rfl,fun j x hx=>?_⟩
    have hj:j<vs.length:=aZ
    have:=hr j _ vs[j] hx (aB hj)
    rw[aB hj]
    cases this;rfl
 ·rename_i cs'
  cases hv with
  |agg _ vs hl hr=>
   have hg:=sn _ _ h;refine⟨vs,rfl,fun j x hx=>?_⟩
   have hj:j<vs.length:=aZ
   obtain⟨y,hy,hyp⟩:=hg.2 j cs'[j] (aB oM)
   rw[hy]at hx
   cases hx
   have:=(hr j _ vs[j] (aB oM) (aB hj)).toP _ hyp
   rw[aB hj]
   cases this;rfl
 ·cases h
section
variable{P:Program}{G:World->Prop}{T:TT}(hT:gY P T)
theorem lG{o:Oper}{env:List AV}{H:AH}{a:AV}
  (h:∀(w0:cF)(B:Nat->Prop)(w:World)(ι:Pl)(ρ:Operand->Value),eQ w0 B w ι H->G w->(∀x,x∈o.op.operands->dD w ι (Rd B ι H) (bO env x) (ρ x)) →
   ∃v,(execOp ρ o).run P w=.ok (.value v) w/\dD w ι (Rd B ι H) a v):QS P G o env H a:=by
 intro w0 B w ι ρ hR hG hρ hf;obtain⟨v,h1,h2⟩:=h w0 B w ι ρ hR hG hρ;rw[h1];exact⟨Gr.refl _,h2⟩
include hT
theorem Dm{t:TypeId}{i:TI}(h:T t=some i)(ha:uo i.desc=true){w:World}{b o:Nat}(f:Nat->Value)(hc:∀j,j<i.size->w.cell? ⟨b,o+j,none⟩=some (f j)):
  (Instr.loadAt t (.pointer (some ⟨b,o,none⟩))).run P w=.ok (.agg ((List.range i.size).map f).toArray) w:=by
 simp only[Instr.loadAt,Instr.sureAddr,Sem.run_bind,Sem.run_pure,Result.andThen_ok,loadVar,GS hT h,ha,fE,rp hT h];rw[run_loadCells w ⟨b,o,none⟩ i.size f (fun j hj=>by rw[Addr.add_lit];exact hc j hj)]
 rfl
theorem Dn{t:TypeId}{i:TI}(h:T t=some i)(ha:uo i.desc=false){w:World}{b o:Nat}{v:Value}(hc:w.cell? ⟨b,o,none⟩=some v):
  (Instr.loadAt t (.pointer (some ⟨b,o,none⟩))).run P w=.ok v w:=by
 simp only[Instr.loadAt,Instr.sureAddr,Sem.run_bind,Sem.run_pure,Result.andThen_ok,loadVar,GS hT h,ha];simp_all
omit hT
theorem z1l{w:World}{ι:Pl}{R:Nat->Prop}{cs:List AV}{n:Nat}(f:Nat->Value)(hl:cs.length=n)(h:∀(j:Nat)(a:AV),cs[j]?=some a->dD w ι R a (f j)):dD w ι R (.agg cs) (.agg ((List.range n).map f).toArray):=by
 refine .agg cs _ (by simp[hl]) fun j a v ha hv=>?_
 grind
theorem M9{w:World}{R:Nat->Prop}{cs:List PV}{n:Nat}(f:Nat->Value)(hl:cs.length=n)(h:∀(j:Nat)(a:PV),cs[j]?=some a->cE w R a (f j)):cE w R (.agg cs) (.agg ((List.range n).map f).toArray):=by
 refine .agg cs _ (by simp[hl]) fun j a v ha hv=>?_
 grind
theorem Dw{α:Type}{cs:List α}{j n m:Nat}{a:α}(h:((cs.drop j).take n)[m]?=some a):cs[j+m]?=some a/\m<n:=by
 grind
include hT
theorem L5{t:TypeId}{i:TI}(ht:T t=some i){x:Operand}{env:List AV}{H:AH}{K:AV->Prop}(h:GJ i (bO env x) H K):
  ∃a,K a/\∀(w0:cF)(B:Nat->Prop)(w:World)(ι:Pl)(v:Value),eQ w0 B w ι H->dD w ι (Rd B ι H) (bO env x) v->∃u,(Instr.loadAt t v).run P w=.ok u w/\dD w ι (Rd B ι H) a u:=by
 have fin:∀a:AV,(∀(w0:cF)(B:Nat->Prop)(w:World)(ι:Pl)(v:Value),eQ w0 B w ι H->dD w ι (Rd B ι H) (bO env x) v->∃u,(Instr.loadAt t v).run P w=.ok u w/\dD w ι (Rd B ι H) a u) →
   (∀(w0:cF)(B:Nat->Prop)(w:World)(ι:Pl)(v:Value),eQ w0 B w ι H->dD w ι (Rd B ι H) (bO env x) v->∃u,(Instr.loadAt t v).run P w=.ok u w/\dD w ι (Rd B ι H) a u):=fun _ h=>h
 unfold GJ at h
 split at h
 ·rename_i k j e
  split at h
  ·rename_i cs t' g hk
   split at h
   ·rename_i jq
    split at h
    ·refine⟨_,h,fin _ fun w0 B w ι v hR hv=>?_⟩
     rw[e]at hv
     cases hv with
     |own _ _ c s hi=>
      obtain⟨hg,c',arr,ec,hb,dM,dB⟩:=(hR.blk k _ _ s hk hi).2
      cases ec
      have UN:∀m a,cs[m]?=some a->dD w ι (Rd B ι H) a ((arr[m]?).getD undef)/\arr[m]?=some ((arr[m]?).getD undef):=fun m a ha=>by
       obtain⟨v,h1,_,h2⟩:=dB m a ha;rw[h1];exact⟨h2,rfl⟩
      refine⟨_,Dm hT ht jq (fun m=>(arr[j+m]?).getD undef) fun m hm=>?_,z1l _ wb fun m a ha=>?_⟩
      ·rw[ka hb]
       grind
      grind
    ·cases h
   ·rename_i jq
    split at h
    ·rename_i a hj;refine⟨_,h,fin _ fun w0 B w ι v hR hv=>?_⟩
     rw[e]at hv
     cases hv with
     |own _ _ c s hi=>
      obtain⟨hg,c',arr,ec,hb,dM,dB⟩:=(hR.blk k _ _ s hk hi).2
      cases ec
      obtain⟨v,h1,_,h2⟩:=dB j a hj;exact⟨v,Dn hT ht (by simpa using jq) (by rw[ka hb];exact h1),h2⟩
    ·cases h
  ·cases h
 ·rename_i k r j e
  split at h
  ·rename_i s' rs t' hk;obtain⟨row,cM,h⟩:=h
   split at h
   ·rename_i jq
    split at h
    ·refine⟨_,h,fin _ fun w0 B w ι v hR hv=>?_⟩
     rw[e]at hv
     cases hv with
     |orw _ _ _ c s hi=>
      obtain⟨es,hl,hh⟩:=(hR.blk k _ _ s hk hi).2
      rcases hh with⟨ec,_⟩|⟨c',arr,ec,hb,hz,dB⟩
      ·cases ec
      ·cases ec
       have UN:∀m a,row[m]?=some a->cE w (Rd B ι H) a ((arr[r*s.1+m]?).getD undef)/\arr[r*s.1+m]?=some ((arr[r*s.1+m]?).getD undef):=fun m a ha=>by
        grind
       refine⟨_,Dm hT ht jq (fun m=>(arr[r*s.1+(j+m)]?).getD undef) fun m hm=>?_,.p _ _ (M9 _ wb fun m a ha=>?_)⟩
       ·rw[ka hb,Nat.add_assoc];exact(UN (j+m) row[j+m] (aB oM)).2
       grind
    ·cases h
   ·rename_i jq
    split at h
    ·rename_i a hj;refine⟨_,h,fin _ fun w0 B w ι v hR hv=>?_⟩
     rw[e]at hv
     cases hv with
     |orw _ _ _ c s hi=>
      obtain⟨es,hl,hh⟩:=(hR.blk k _ _ s hk hi).2
      rcases hh with⟨ec,_⟩|⟨c',arr,ec,hb,hz,dB⟩
      ·cases ec
      ·cases ec
       obtain⟨v,h1,_,h2⟩:=dB r j row a cM hj;exact⟨v,Dn hT ht (by simpa using jq) (by rw[ka hb];exact h1),.p _ _ h2⟩
    ·cases h
  ·cases h
 ·rename_i row e
  split at h
  ·rename_i jq
   split at h
   ·refine⟨_,h,fin _ fun w0 B w ι v hR hv=>?_⟩
    rw[e]at hv
    cases hv with
    |p _ _ hv=>
     cases hv with
     |rop _ b off vs rc hb hc hr=>
      refine⟨_,Dm hT ht jq vs fun m hm=>?_,.p _ _ (M9 _ wb fun m a ha=>?_)⟩
      ·exact(hc m row[m] (aB oM)).1
      grind
   ·cases h
  ·rename_i jq
   split at h
   ·rename_i a rest;refine⟨_,h,fin _ fun w0 B w ι v hR hv=>?_⟩
    rw[e]at hv
    cases hv with
    |p _ _ hv=>
     cases hv with
     |rop _ b off vs rc hb hc hr=>
      exact⟨_,Dn hT ht (by simpa using jq) (by simpa using(hc 0 a rfl).1),.p _ _ (hr 0 a rfl)⟩
   ·cases h
 ·cases h
theorem Yv{t:TypeId}{i:TI}(ht:T t=some i){o:Oper}{x:Operand}(ho:o.op=.load t x){env:List AV}{H:AH}{K:AV->Prop}(h:GJ i (bO env x) H K):∃a,K a/\QS P G o env H a:=by
 have hx:x∈o.op.operands:=oF
 obtain⟨a,hK,hh⟩:=L5 hT ht h;refine⟨a,hK,lG fun w0 B w ι ρ hR hG hρ=>?_⟩
 obtain⟨u,h1,h2⟩:=hh w0 B w ι (ρ x) hR (hρ x hx);exact⟨u,by simp[execOp,ho,h1],h2⟩
theorem Zd{s:TypeId}{i j:TI}{fs:Array Field}{fd:Field}{f:Nat}(ht:T s=some i)(hd:i.desc=.struct fs)(hf:fs[f]?=some fd)(hj:T fd.type=some j)(h0:¬j.size=0)
  {o:Oper} {x:Operand} (ho:o.op=.fieldAddr s x f) {env:List AV} {H:AH} {K:AV->Prop} (h:E8 fd.offset (bO env x) K):∃a,K a/\QS P G o env H a:=by
 have hx:x∈o.op.operands:=oF
 have run:∀(b off:Nat)(w:World),(Instr.fieldAt s (.pointer (some ⟨b,off,none⟩)) f).run P w=.ok (.pointer (some ⟨b,off+fd.offset,none⟩)) w:=by
  intro b off w;simp only[Instr.fieldAt,Sem.run_bind,pV hT ht,Result.andThen_ok,hd,hf,Instr.sureAddr,Sem.run_pure,fieldPlace,rp hT hj,h0,bT,Addr.add_lit]
 unfold E8 at h
 split at h
 ·rename_i k m e;refine⟨_,h,lG fun w0 B w ι ρ hR hG hρ=>?_⟩
  have hv:=hρ x hx;rw[e]at hv;generalize hq:ρ x=v at hv
  cases hv with
  |own _ _ c s' hi=>exact⟨_,by simp[execOp,ho,hq,run],.own k _ c s' hi⟩
 ·rename_i k r m e;refine⟨_,h,lG fun w0 B w ι ρ hR hG hρ=>?_⟩
  have hv:=hρ x hx;rw[e]at hv;generalize hq:ρ x=v at hv
  cases hv with
  |orw _ _ _ c s' hi=>exact⟨.pointer (some ⟨c,r*s'.1+m+fd.offset,none⟩),by simp[execOp,ho,hq,run],by rw[Nat.add_assoc];exact .orw k r _ c s' hi⟩
 ·rename_i row e;refine⟨_,h,lG fun w0 B w ι ρ hR hG hρ=>?_⟩
  have hv:=hρ x hx;rw[e]at hv;generalize hq:ρ x=v at hv
  cases hv with
  |p _ _ hv=>
   cases hv with
   |rop _ b off vs rc hb hc hr=>
    refine⟨_,by simp only[execOp,ho,hq,Sem.run_bind,run,Result.andThen_ok,Sem.run_pure],.p _ _ (.rop _ b (off+fd.offset) (fun m=>vs (fd.offset+m)) rc hb (fun m a ha=>?_) fun m a ha=>?_)⟩
    ·grind
    grind
 ·cases h
theorem z0a{t e:TypeId}{len:Nat}{ti te:TI}(ht:T t=some ti)(hd:ti.desc=.array len e)(he:T e=some te)(h1:te.size=1)
  {o:Oper} {x y:Operand} (ho:o.op=.indexAddr t x y) {env:List AV} {H:AH} {K:AV->Prop} (h:EC bK len (bO env x) (bO env y) K):∃a,K a/\QS P G o env H a:=by
 have hx:x∈o.op.operands:=oF
 have hy:y∈o.op.operands:=oF
 have run:∀(b off:Nat)(k:IntKind)(n:Int)(w:World),0<=n->n<len->(Instr.indexAt t (.pointer (some ⟨b,off,none⟩)) (.int k n)).run P w=.ok (.pointer (some ⟨b,off+n.toNat,none⟩)) w:=by
  intro b off k n w h0 h2;simp only[Instr.indexAt,Sem.run_bind,pV hT ht,Result.andThen_ok,hd,asIntOf,Instr.sureAddr,Sem.run_pure,h0,h2,and_self,fE,rp hT he,h1,Nat.mul_one,Addr.add_lit]
 unfold EC at h
 split at h
 ·rename_i k j kk n e e';obtain⟨h0,h2,h⟩:=h;refine⟨_,h,lG fun w0 B w ι ρ hR hG hρ=>?_⟩
  have hv:=hρ x hx;have hu:=hρ y hy;rw[e]at hv;rw[e']at hu;generalize hq:ρ x=v at hv;generalize gg:ρ y=u at hu
  cases hu with
  |p _ _ hu=>
   cases hu
   cases hv with
   |own _ _ c s' hi=>exact⟨_,by simp only[execOp,ho,hq,gg,Sem.run_bind,run _ _ _ n w h0 h2,Result.andThen_ok,Sem.run_pure];rfl,.own k _ c s' hi⟩
 ·cases h
theorem Ze{t e:TypeId}{ti te:TI}(ht:T t=some ti)(hd:ti.desc=.slice e)(he:T e=some te)
  {o:Oper} {x y:Operand} (ho:o.op=.indexAddr t x y) {env:List AV} {H:AH} {K:AV->Prop} (h:E4 bK te.size (bO env x) (bO env y) H K):∃a,K a/\QS P G o env H a:=by
 have hx:x∈o.op.operands:=oF
 have hy:y∈o.op.operands:=oF
 have run:∀(b off len cap:Nat)(k:IntKind)(n:Int)(w:World),0<=n->n<len->(Instr.indexAt t (.slice (some ⟨b,off,none⟩) len cap) (.int k n)).run P w=.ok (.pointer (some ⟨b,off+n.toNat*te.size,none⟩)) w:=by
  intro b off len cap k n w h0 h1;simp only[Instr.indexAt,Sem.run_bind,pV hT ht,Result.andThen_ok,hd,asIntOf,Sem.run_pure,h0,h1,and_self,fE,rp hT he,Addr.add_lit]
 unfold E4 at h;simp only[bK]at h
 split at h
 ·rename_i kk n en
  split at h
  ·rename_i s' rows e';obtain⟨rfl,h0,row,cM,h⟩:=h;refine⟨_,h,lG fun w0 B w ι ρ hR hG hρ=>?_⟩
   have hv:=hρ x hx;have hu:=hρ y hy;rw[e']at hv;rw[en]at hu;generalize hq:ρ x=v at hv;generalize gg:ρ y=u at hu
   cases hu with
   |p _ _ hu=>
    cases hu
    have cJ:n<rows.length:=aZ
    cases hv with
    |p _ _ hv=>
     cases hv with
     |ro0=>simp at cJ;omega
     |ro _ _ b off cap vs rc hb oX hs hc hr=>
      refine⟨_,by simp only[execOp,ho,hq,gg,Sem.run_bind,run _ _ _ _ _ n w h0 cJ,Result.andThen_ok,Sem.run_pure],.p _ _ (.rop row b (off+n.toNat*te.size) (fun m=>vs n.toNat m) rc hb (fun m a ha=>?_) fun m a ha=>?_)⟩
      ·grind
      grind
  ·rename_i k i0 len e'
   split at h
   ·rename_i s' rs t' hk;obtain⟨rfl,h0,h1,h⟩:=h;refine⟨_,h,lG fun w0 B w ι ρ hR hG hρ=>?_⟩
    have hv:=hρ x hx;have hu:=hρ y hy;rw[e']at hv;rw[en]at hu;generalize hq:ρ x=v at hv;generalize gg:ρ y=u at hu
    cases hu with
    |p _ _ hu=>
     cases hu
     cases hv with
     |osl0=>omega
     |osl _ _ _ c cap s hi hn hm hz=>
      have es:=(hR.blk k _ _ s hk hi).2.1;refine⟨_,by simp only[execOp,ho,hq,gg,Sem.run_bind,run _ _ _ _ _ n w h0 h1,Result.andThen_ok,Sem.run_pure];rfl,?_⟩
      have:=dD.orw (w:=w) (ι:=ι) (R:=Rd B ι H) k (i0+n.toNat) 0 c s hi
      grind
   ·cases h
  ·cases h
 ·cases h
theorem Nf{t:TypeId}{i:TI}(h:T t=some i)(hd:i.desc=.bool)(a b:Bool)(w:World):(Op.equal t (.bool a) (.bool b)).run P w=.ok (a==b) w:=by
 unfold Op.equal Op.maxDepth;rw[show(10000:Nat)=9999+1 from rfl,Op.equalIn];simp only[Sem.run_bind,pV hT h,Result.andThen_ok,hd];rfl
theorem zpa{t:TypeId}{ti:TI}(ht:T t=some ti)(hd:ti.desc=.string){o:Oper}{x y:Operand}(ho:o.op=.index t x y){env:List AV}{H:AH}{K:AV->Prop}{s:ByteArray}{kk:IntKind}{n:Int}
  (ex:bO env x=.p (.v (.string s))) (ey:bO env y=.p (.v (.int kk n))) {z:Int} (h0:0<=n) (hz:bK.get s n.toNat=some z) (h:K (.p (.v (.int .u8 z)))):∃a,K a/\QS P G o env H a:=by
 refine⟨_,h,lG fun w0 B w ι ρ hR hG hρ=>?_⟩
 have hx:=hρ x oF
 have hy:=hρ y oF
 rw[ex]at hx;rw[ey]at hy;have j8:=jS hx;have Ib:=jS hy;obtain⟨b,hb,rfl⟩:∃b,s.data.toList[n.toNat]?=some b/\((b.toNat:Nat):Int)=z:=by
  simp only[bK]at hz
  grind
 have hs:s[n.toNat]?=some b:=by
  have h1:=(aC.1 hb).1;have h2:n.toNat<s.size:=by simpa using h1
  rw[getElem?_pos s n.toNat h2];have h3:=(aC.1 hb).2;rw[<-h3];rfl
 refine⟨_,?_,.p _ _ (.v _)⟩;simp only[execOp,ho,j8,Ib,Instr.index,asIntOf,Sem.run_bind,Sem.run_pure,Result.andThen_ok,pV hT ht,hd,h0,fE,hs]
omit hT
theorem zph{o:Oper}{x:Operand}{i:Nat}(ho:o.op=.extract x i){env:List AV}{H:AH}{K:AV->Prop}(h:Bz (bO env x) i K):∃a,K a/\QS P G o env H a:=by
 have hx:x∈o.op.operands:=oF
 unfold Bz at h
 split at h
 ·rename_i cs e
  split at h
  ·rename_i a ha;refine⟨_,h,lG fun w0 B w ι ρ hR hG hρ=>?_⟩
   have hv:=hρ x hx;rw[e]at hv;generalize hq:ρ x=v at hv
   cases hv with
   |tup _ vs hl hr=>
    have cJ:i<vs.length:=aZ
    refine⟨vs[i],?_,hr i a _ ha (aB cJ)⟩;simp[execOp,ho,hq,Instr.extract,aB cJ]
  ·cases h
 ·rename_i cs e
  split at h
  ·rename_i a ha;refine⟨_,h,lG fun w0 B w ι ρ hR hG hρ=>?_⟩
   have hv:=hρ x hx;rw[e]at hv;generalize hq:ρ x=v at hv
   cases hv with
   |p _ _ hv=>
    cases hv with
    |tup _ vs hl hr=>
     have cJ:i<vs.length:=aZ
     refine⟨vs[i],?_,.p _ _ (hr i a _ ha (aB cJ))⟩;simp[execOp,ho,hq,Instr.extract,aB cJ]
  ·cases h
 ·cases h
include hT in
theorem Yx{o:Oper}{s:TypeId}{x:Operand}{f:Nat}{i:TI}{fs:Array Field}{fd:Field}{j:TI}(ht:T s=some i)(hd:i.desc=.struct fs)(hf:fs[f]?=some fd)(hj:T fd.type=some j)(h0:uo j.desc=false)(ho:o.op=.field s x f){env:List AV}{H:AH}{K:AV->Prop}(h:apart (bO env x) fd.offset K):∃a,K a/\QS P G o env H a:=by
 have hx:x∈o.op.operands:=oF
 unfold apart at h
 split at h
 ·rename_i cs e
  split at h
  ·rename_i a ha;refine⟨_,h,lG fun w0 B w ι ρ hR hG hρ=>?_⟩
   have hv:=hρ x hx;rw[e]at hv;generalize hq:ρ x=v at hv
   cases hv with
   |agg _ vs hl hr=>
    have cJ:fd.offset<vs.length:=aZ
    refine⟨vs[fd.offset],?_,hr _ a _ ha (aB cJ)⟩;simp[execOp,ho,hq,Instr.field,pV hT ht,hd,hf,asAgg,part,GS hT hj,h0,aB cJ]
  ·cases h
 ·rename_i cs e
  split at h
  ·rename_i a ha;refine⟨_,h,lG fun w0 B w ι ρ hR hG hρ=>?_⟩
   have hv:=hρ x hx;rw[e]at hv;generalize hq:ρ x=v at hv
   cases hv with
   |p _ _ hv=>
    cases hv with
    |agg _ vs hl hr=>
     have cJ:fd.offset<vs.length:=aZ
     refine⟨vs[fd.offset],?_,.p _ _ (hr _ a _ ha (aB cJ))⟩;simp[execOp,ho,hq,Instr.field,pV hT ht,hd,hf,asAgg,part,GS hT hj,h0,aB cJ]
  ·cases h
 ·cases h
theorem Me{o:Oper}{env:List AV}{H:AH}{K:AV->Prop}{s:Sem Value} (hs:∀(w0:cF)(B:Nat->Prop)(w:World)(ι:Pl)(ρ:Operand->Value),eQ w0 B w ι H->(∀x,x∈o.op.operands->dD w ι (Rd B ι H) (bO env x) (ρ x)) →
   (execOp ρ o).run P w=(s.run P w).andThen fun v w=>.ok (.value v) w) (h:MT P s fun v=>K (.p (.v v))):∃a,K a/\QS P G o env H a:=by
 obtain⟨v,hk,hr⟩:=z5s P s _ h;refine⟨_,hk,lG fun w0 B w ι ρ hR hG hρ=>⟨v,?_,.p _ _ (.v _)⟩⟩
 rw[hs w0 B w ι ρ hR hρ,hr];rfl
include hT
theorem z04{t:TypeId}{i:TI}(ht:T t=some i){x y:PV}{b:Bool} (hk:(match i.desc,x with
    | .int _,.v (.int _ _)=>true
    | .string,.v (.string _)=>true
    | .bool,.v (.bool _)=>true
    |_,_=>false)=true) (he:Ge bK x y=some b):∃u v,x=.v u/\y=.v v/\(uo i.desc=false)/\∀(d:Nat)(w:World),(Op.equalIn (d+1) t u v).run P w=.ok b w:=by
 unfold Ge at he
 split at he
 ·split at he
  ·rename_i ll;subst ll
   cases he
   cases hd:i.desc<;>rw[hd]at hk<;>simp at hk
   refine⟨_,_,rfl,rfl,rfl,fun d w=>?_⟩
   rw[Op.equalIn];simp only[Sem.run_bind,pV hT ht,Result.andThen_ok,hd,fE];rfl
  ·cases he
 ·cases he
  cases hd:i.desc<;>rw[hd]at hk<;>simp at hk
  refine⟨_,_,rfl,rfl,rfl,fun d w=>?_⟩
  rw[Op.equalIn];simp only[Sem.run_bind,pV hT ht,Result.andThen_ok,hd];rw[xhq];rfl
 ·cases he
  cases hd:i.desc<;>rw[hd]at hk<;>simp at hk
  refine⟨_,_,rfl,rfl,rfl,fun d w=>?_⟩
  rw[Op.equalIn];simp only[Sem.run_bind,pV hT ht,Result.andThen_ok,hd];rfl
 ·cases he
theorem N0{pxs pys:List PV}{xs ys:List Value}(hx:∀(j:Nat)(v:Value),pxs[j]?=some (.v v)->xs[j]?=some v)(hy:∀(j:Nat)(v:Value),pys[j]?=some (.v v)->ys[j]?=some v)(d:Nat)(w:World):∀(fs:List Field)(r:Bool),CB bK T fs pxs pys=some r →
  (forIn fs ((none : Option Bool), ()) fun f __s => (if f.name ≠ "_" then do
    let __do_lift<-part f.type xs.toArray f.offset
    let __do_lift_1<-part f.type ys.toArray f.offset
    let __do_lift<-Op.equalIn (d+1) f.type __do_lift __do_lift_1
    if(!__do_lift)=true then pure (ForInStep.done (some false,()))else pure (ForInStep.yield (none,()))
   else pure (ForInStep.yield (none,())):Sem (ForInStep (Option Bool×Unit)))).run P w=.ok ((if r then none else some false),()) w
 |[],r,h=>by
  simp[CB]at h;subst h;rfl
 |f::fs,r,h=>by
  unfold CB at h
  split at h
  ·cases h
  rename_i TM
  split at h
  ·rename_i i x y hi EQ hyo
   split at h
   ·rename_i b r' hk hb gf
    cases h
    obtain⟨u,v,rfl,rfl,jq,dN⟩:=z04 hT hi hk hb;have h1:=hx _ _ EQ;have h2:=hy _ _ hyo;have ih:=N0 hx hy d w fs r' gf;have p1:(part f.type xs.toArray f.offset).run P w=.ok u w:=by simp[part,GS hT hi,jq,h1]
    have p2:(part f.type ys.toArray f.offset).run P w=.ok v w:=by simp[part,GS hT hi,jq,h2]
    rw[List.forIn_cons];simp only[ne_eq,TM,not_false_eq_true,fE,Sem.run_bind,p1,p2,Result.andThen_ok,dN]
    cases b with
    |true=>
     simp_all
    |false=>
     simp_all
   ·cases h
  ·cases h
theorem zkw{t:TypeId}{i:TI}(ht:T t=some i){fs:Array Field}(hd:i.desc=.struct fs)(hc:i.cmp=true){pxs pys:List PV}{xs ys:List Value}(hx:∀(j:Nat)(v:Value),pxs[j]?=some (.v v)->xs[j]?=some v)(hy:∀(j:Nat)(v:Value),pys[j]?=some (.v v)->ys[j]?=some v)
  {r:Bool} (h:CB bK T fs.toList pxs pys=some r) (w:World):(Op.equal t (.agg xs.toArray) (.agg ys.toArray)).run P w=.ok r w:=by
 unfold Op.equal Op.maxDepth;rw[show(10000:Nat)=9998+1+1 from rfl,Op.equalIn];simp only[Sem.run_bind,pV hT ht,Result.andThen_ok,hd,program,Sem.run];rw[((hT t i ht).2 hc).1];simp only[aM,bT];rw[<-Array.forIn_toList];simp only[Sem.run_bind];rw[N0 hT hx hy 9998 w fs.toList r h]
 cases r<;>rfl
theorem Nm{t:TypeId}{i:TI}(ht:T t=some i)(hc:i.cmp=true)(op:BinOp)(x y:Operand)(xs ys:Array Value)(w:World):(eqGuard op t x y (.agg xs) (.agg ys)).run P w=.ok () w:=by
 have h:=((hT t i ht).2 hc).2
 cases op<;>simp[eqGuard,program,Sem.run,h]
theorem X0{o:Oper}{op:BinOp}{t ty:TypeId}{x y:Operand}(ho:o.op=.binOp op t x y ty){env:List AV}{H:AH}{K:AV->Prop}(h:EB P bK T op t (bO env x) (bO env y) K):∃a,K a/\QS P G o env H a:=by
 have hx:x∈o.op.operands:=oF
 have hy:y∈o.op.operands:=oF
 unfold EB at h
 split at h
 ·rename_i a b ea eb
  split at h
  ·rename_i i hi
   split at h
   ·rename_i hd;refine⟨_,h,lG fun w0 B w ι ρ hR hG hρ=>⟨_,?_,.p _ _ (.v _)⟩⟩
    have h1:=hρ x hx;have h2:=hρ y hy;rw[ea]at h1;rw[eb]at h2;simp only[execOp,ho,jS h1,jS h2,Sem.run_bind];rw[show binOp .eql t (.bool a) (.bool b)=(do pure (.bool (← Op.equal t (.bool a) (.bool b))))from rfl]
    simp only[Sem.run_bind,Result.andThen_ok,Nf hT hi hd];rfl
   ·rename_i hd;refine⟨_,h,lG fun w0 B w ι ρ hR hG hρ=>⟨_,?_,.p _ _ (.v _)⟩⟩
    have h1:=hρ x hx;have h2:=hρ y hy;rw[ea]at h1;rw[eb]at h2;simp only[execOp,ho,jS h1,jS h2,Sem.run_bind];rw[show binOp .neq t (.bool a) (.bool b)=(do pure (.bool (!(← Op.equal t (.bool a) (.bool b)))))from rfl]
    simp only[Sem.run_bind,Result.andThen_ok,Nf hT hi hd];rfl
   ·cases h
  ·cases h
 ·rename_i k a k' b ea eb;have dN:∀(w0:cF)(B:Nat->Prop)(w:World)(ι:Pl)(ρ:Operand->Value),(∀x,x∈o.op.operands->dD w ι (Rd B ι H) (bO env x) (ρ x))->(execOp ρ o).run P w=((binOp op t (.int k a) (.int k' b)).run P w).andThen fun v w=>.ok (.value v) w:=by
   intro w0 B w ι ρ hρ;have h1:=hρ x hx;have h2:=hρ y hy;rw[ea]at h1;rw[eb]at h2;have hg:(eqGuard op t x y (.int k a) (.int k' b)).run P w=.ok () w:=by
    unfold eqGuard
    split<;>rfl
   simp[execOp,ho,jS h1,jS h2,hg]
  split at h
  ·exact Tm
  ·exact Tm
  split at h
  ·rename_i ll;subst ll;have fin:∀v,K (.p (.v v))->(∀w,(binOp op t (.int k a) (.int k b)).run P w=.ok v w)->∃a,K a/\QS P G o env H a:=fun v hv hr=>
    ⟨_,hv,lG fun w0 B w ι ρ hR hG hρ=>⟨v,by rw[dN w0 B w ι ρ hρ,hr];rfl,.p _ _ (.v _)⟩⟩
   unfold Po at h
   split at h
   ·exact Gx
   ·exact Gx
   ·exact Gx
   ·exact fin _ h.2 fun w=>by simp[binOp,Op.intDiv,bK,h.1]
   ·exact fin _ h.2 fun w=>by simp[binOp,Op.intDiv,h.1,bK]
   ·exact JX
   ·exact JX
   ·exact JX
   ·exact JX
   ·exact JX
   ·exact JX
   ·exact Gw
   ·exact Gw
   ·exact Gw
   ·exact Me (fun w0 B w ι ρ hR hρ=>dN w0 B w ι ρ hρ) h
  ·cases h
 ·rename_i a b ea eb;have dN:∀(w0:cF)(B:Nat->Prop)(w:World)(ι:Pl)(ρ:Operand->Value),(∀x,x∈o.op.operands->dD w ι (Rd B ι H) (bO env x) (ρ x))->(execOp ρ o).run P w=((binOp op t (.string a) (.string b)).run P w).andThen fun v w=>.ok (.value v) w:=by
   intro w0 B w ι ρ hρ;have h1:=hρ x hx;have h2:=hρ y hy;rw[ea]at h1;rw[eb]at h2;have hg:(eqGuard op t x y (.string a) (.string b)).run P w=.ok () w:=by
    unfold eqGuard
    split<;>rfl
   simp[execOp,ho,jS h1,jS h2,hg]
  have fin:∀v,K (.p (.v v))->(∀w,(binOp op t (.string a) (.string b)).run P w=.ok v w)->∃a,K a/\QS P G o env H a:=fun v hv hr=>
   ⟨_,hv,lG fun w0 B w ι ρ hR hG hρ=>⟨v,by rw[dN w0 B w ι ρ hρ,hr];rfl,.p _ _ (.v _)⟩⟩
  unfold Pq at h
  split at h
  ·refine fin _ h.2 fun w=>?_
   have h1:((a.size:Nat):Int)+((b.size:Nat):Int)<=9223372036854775807:=h.1;have h2:¬(((a.size+b.size:Nat):Int)>IntKind.i64.max):=bw
   simp only[binOp,Op.stringOp,h2,bT];rfl
  ·exact A4
  ·exact A4
  ·exact fin _ h fun w=>rfl
  ·exact A4
  ·exact A4
  ·exact fin _ h fun w=>rfl
  ·cases h
 ·split at h
  ·rename_i pxs pys i KO Vu ht
   split at h
   ·rename_i fs hd dw
    split at h
    ·rename_i r hr;refine⟨_,h,lG fun w0 B w ι ρ hR hG hρ=>⟨_,?_,.p _ _ (.v _)⟩⟩
     obtain⟨xs,ex,yU⟩:=WI KO (hρ x hx);obtain⟨ys,ey,I8⟩:=WI Vu (hρ y hy);simp only[execOp,ho,ex,ey,Sem.run_bind,Nm hT ht dw,Result.andThen_ok];rw[show binOp .eql t (.agg xs.toArray) (.agg ys.toArray)=(do pure (.bool (← Op.equal t (.agg xs.toArray) (.agg ys.toArray))))from rfl]
     exact Rn
    ·cases h
   ·rename_i fs hd dw
    split at h
    ·rename_i r hr;refine⟨_,h,lG fun w0 B w ι ρ hR hG hρ=>⟨_,?_,.p _ _ (.v _)⟩⟩
     obtain⟨xs,ex,yU⟩:=WI KO (hρ x hx);obtain⟨ys,ey,I8⟩:=WI Vu (hρ y hy);simp only[execOp,ho,ex,ey,Sem.run_bind,Nm hT ht dw,Result.andThen_ok];rw[show binOp .neq t (.agg xs.toArray) (.agg ys.toArray)=(do pure (.bool (!(← Op.equal t (.agg xs.toArray) (.agg ys.toArray)))))from rfl]
     exact Rn
    ·cases h
   ·cases h
  ·cases h
omit hT in
theorem Ye{o:Oper}{op:UnOp}{t:TypeId}{x:Operand}(ho:o.op=.unOp op t x){env:List AV}{H:AH}{K:AV->Prop}(h:Ek P bK op (bO env x) K):∃a,K a/\QS P G o env H a:=by
 have hx:x∈o.op.operands:=oF
 unfold Ek at h
 split at h
 ·rename_i k n e
  split at h
  ·refine⟨_,h,lG fun w0 B w ι ρ hR hG hρ=>⟨_,?_,.p _ _ (.v _)⟩⟩
   have hv:=hρ x hx;rw[e]at hv;simp[execOp,ho,jS hv,Op.unary,Op.intArith,bK]
  ·refine Me (fun w0 B w ι ρ hR hρ=>?_) h
   have hv:=hρ x hx;rw[e]at hv;simp[execOp,ho,jS hv]
 ·rename_i b e
  split at h
  ·refine⟨_,h,lG fun w0 B w ι ρ hR hG hρ=>⟨_,?_,.p _ _ (.v _)⟩⟩
   have hv:=hρ x hx;rw[e]at hv;simp[execOp,ho,jS hv,Op.unary]
  ·cases h
 ·cases h
omit hT in
theorem Wo{w:World}{R:Nat->Prop}{cZ dst e:TypeId}(hs:P.underlying cZ=some (.slice e))(he:P.underlying e=some (.int .u8))(hd:P.underlying dst=some .string){bs:ByteArray}{v:Value}(h:cE w R (.ro 1 (nD bs)) v):(convert cZ dst v).run P w=.ok (.string bs) w:=by
 have hlen:(nD bs).length=bs.data.toList.length:=by simp[nD]
 generalize hr:nD bs=rows at h
 cases h with
 |ro0 _ A cap=>
  have i7:bs=⟨#[]⟩:=by
   obtain⟨⟨l⟩⟩:=bs
   grind
  subst i7
  cases A with
  |none=>
   simp[convert,run_underlying hs,run_underlying hd,run_underlying he,Conv.bytesToString];rfl
  |some a=>exact run_convert_bytes_back (P:=P) w cZ dst e a cap [] hs he hd (fun j hj=>by simp at hj)
 |ro _ _ b off cap vs lT hb oX hs' hc gg=>
  subst hr
  have:=run_convert_bytes_back (P:=P) w cZ dst e ⟨b,off,none⟩ cap bs.data.toList hs he hd (fun j hj=>by
   have hq:(nD bs)[j]?=some [.v (.int .u8 (bs.data.toList[j].toNat:Nat))]:=by
    unfold nD
    grind
   have h2:=(hc j 0 _ _ hq rfl).1;have h3:=gg j 0 _ _ hq rfl;generalize vs j 0=u at h2 h3
   cases h3
   rw[Addr.add_lit]
   grind)
  simp_all
theorem Yu{o:Oper}{cZ dst:TypeId}{x:Operand}(ho:o.op=.convert cZ dst x){env:List AV}{H:AH}{K:AV->Prop}(h:Ei bK T dst cZ (bO env x) K):∃a,K a/\QS P G o env H a:=by
 have hx:x∈o.op.operands:=oF
 unfold Ei at h
 split at h
 ·rename_i i j k n hi hj e
  split at h
  ·rename_i hd;refine⟨_,h,lG fun w0 B w ι ρ hR hG hρ=>⟨_,?_,.p _ _ (.v _)⟩⟩
   have h1:=hρ x hx;rw[e]at h1;simp[execOp,ho,jS h1,convert,pV hT hi,pV hT hj,hd,Conv.intToString,bK]
  ·rename_i k' hd;refine⟨_,h,lG fun w0 B w ι ρ hR hG hρ=>⟨_,?_,.p _ _ (.v _)⟩⟩
   have h1:=hρ x hx;rw[e]at h1;simp[execOp,ho,jS h1,convert,pV hT hi,pV hT hj,hd,Conv.intToInt,bK]
  ·cases h
 ·rename_i i j s hi hj e
  split at h
  ·rename_i hd;refine⟨_,h,lG fun w0 B w ι ρ hR hG hρ=>⟨_,?_,.p _ _ (.v _)⟩⟩
   have h1:=hρ x hx;rw[e]at h1;simp[execOp,ho,jS h1,convert,pV hT hi,pV hT hj,hd]
  ·rename_i e0 hd
   split at h
   ·rename_i te he
    split at h
    ·rename_i UM;obtain⟨dM,h⟩:=h;refine⟨_,h,fun w0 B w ι ρ hR hG hρ hf=>?_⟩
     have h1:=hρ x hx;rw[e]at h1;have SQ:s.size<=70368744177664:=by
      have:((s.size:Nat):Int)<=70368744177664:=dM
      omega
     have hlen:=Z4 s;have eJ:P.underlying dst=some (.slice e0):=by rw[(hT _ _ hi).1.1,hd]
     have jk:P.underlying e0=some (.int .i32):=QY
     have dN:(execOp ρ o).run P w=.ok (.value (.slice (some ⟨w.heap.size,0,none⟩) (rM s).length (grownCap w (rM s).length 0 e0))) (w.drew.alloc (.cells (((rM s).map (Value.int .i32)).toArray++Array.replicate (grownCap w (rM s).length 0 e0-(rM s).length) (.int .i32 0)) e0)):=by
      cases hk:j.desc with
      |string=>
       have tS:P.underlying cZ=some .string:=by rw[(hT _ _ hj).1.1,hk]
       have hc:=run_runes_of_string (P:=P) w cZ dst e0 s tS eJ jk (by rw[XU];simp;omega)
       rw[XU]at hc;simp[execOp,ho,jS h1,hc]
      |_=>
       simp[execOp,ho,jS h1,convert,pV hT hi,pV hT hj,hd,hk,run_underlying jk,Conv.stringToRunes,Question.forced,newRow,grownCap,XU]
     rw[dN];have uX:Gr w (w.drew.alloc (.cells (((rM s).map (Value.int .i32)).toArray++Array.replicate (grownCap w (rM s).length 0 e0-(rM s).length) (.int .i32 0)) e0)):=((Below.refl _ w).drew).alloc (nR _) _;refine⟨uX,.p _ _ ?_⟩;have TL:Rd B ι H w.heap.size:=⟨hR.fut _ (nR _),fun ho=>by have:=hR.lt ho;omega⟩
     have ja:(pR (rM s)).length=(rM s).length:=by simp[pR]
     have xQ:(w.drew.alloc (.cells (((rM s).map (Value.int .i32)).toArray++Array.replicate (grownCap w (rM s).length 0 e0-(rM s).length) (.int .i32 0)) e0)).heap[w.heap.size]?=some (.cells (((rM s).map (Value.int .i32)).toArray++Array.replicate (grownCap w (rM s).length 0 e0-(rM s).length) (.int .i32 0)) e0 (0,0)):=by
      show(w.heap.push _)[w.heap.size]?=_;simp
     have cM:∀(q:Nat)(row:List PV),(pR (rM s))[q]?=some row->∃n,(rM s)[q]?=some n/\row=[.v (.int .i32 n)]:=fun q row hq=>by
      unfold pR at hq
      grind
     have gC:∀(q jj:Nat)(row:List PV)(a:PV),(pR (rM s))[q]?=some row->row[jj]?=some a->∃n,(rM s)[q]?=some n/\jj=0/\a=.v (.int .i32 n):=fun q jj row a hq ha=>by
      grind
     have:=cE.ro (w:=w.drew.alloc (.cells (((rM s).map (Value.int .i32)).toArray++Array.replicate (grownCap w (rM s).length 0 e0-(rM s).length) (.int .i32 0)) e0)) (R:=Rd B ι H) 1 (pR (rM s)) w.heap.size 0 (grownCap w (rM s).length 0 e0) (fun q _=>.int .i32 (((rM s)[q]?).getD 0)) TL aZ (by rw[ja];exact grownCap_ge _ _ _ _)
      (fun q row hq=>by grind)
      (fun q jj row a hq ha=>by
       obtain⟨n,hn,rfl,rfl⟩:=gC q jj row a hq ha;refine⟨?_,rfl⟩;rw[ka xQ]
       grind)
      (fun q jj row a hq ha=>by
       obtain⟨n,hn,rfl,rfl⟩:=gC q jj row a hq ha;simp only[hn,jE];exact .v _)
     rw[ja]at this;exact this
    ·rename_i UM;refine⟨_,h,fun w0 B w ι ρ hR hG hρ hf=>?_⟩
     have h1:=hρ x hx;rw[e]at h1;have eJ:P.underlying dst=some (.slice e0):=by rw[(hT _ _ hi).1.1,hd]
     have jk:P.underlying e0=some (.int .u8):=QY
     have tS:P.underlying cZ=some j.desc:=(hT _ _ hj).1.1;have hc:=Lib.run_convert_string_bytes (P:=P) w cZ dst e0 s tS eJ jk;have dN:(execOp ρ o).run P w=.ok (.value (.slice (some ⟨w.heap.size,0,none⟩) s.size (grownCap w s.size 0 e0))) (Lib.bytesWorld w e0 s):=by
      simp[execOp,ho,jS h1,hc]
     rw[dN];have TL:Rd B ι H w.heap.size:=⟨hR.fut _ (nR _),fun ho=>by have:=hR.lt ho;omega⟩
     refine⟨z4n w e0 s,.p _ _ (z1m TL (Lib.bytesWorld_at_new _ _ _) (grownCap_ge _ _ _ _) fun q b hb=>?_)⟩
     unfold Lib.bytesCells
     grind
    ·cases h
   ·cases h
  ·cases h
 ·rename_i i j n rows hi hj e
  split at h
  ·rename_i e0 hd zE
   split at h
   ·rename_i te he
    split at h
    ·rename_i UM;obtain⟨rfl,ns,rfl,h⟩:=h;refine⟨_,h,lG fun w0 B w ι ρ hR hG hρ=>?_⟩
     have h1:=hρ x hx;rw[e]at h1;have jk:P.underlying e0=some (.int .i32):=QY
     have KJ:∀v,(Conv.runesToString v).run P w=.ok (.string (runesBytes ns)) w->(∀y,v ≠ .string y)->(∃A l c,v=.slice A l c)->(convert cZ dst v).run P w=.ok (.string (runesBytes ns)) w:=by
      intro v hv _ pt;obtain⟨A,l,c,rfl⟩:=pt;simp[convert,pV hT hi,pV hT hj,hd,zE,run_underlying jk,hv]
     cases h1 with
     |p _ _ h1=>
      generalize hv:ρ x=v at h1;have Vb:(pR ns).length=ns.length:=by simp[pR]
      generalize hr:pR ns=rows at h1
      cases h1 with
      |ro0 _ A cap=>
       have mN:ns=[]:=aZ
       subst mN;refine⟨.string (runesBytes []),?_,.p _ _ (.v _)⟩
       have:=KJ (.slice A 0 cap) (by cases A<;>simp[Conv.runesToString,loadCells,loadCellsFrom,runesBytes]) jT ⟨_,_,_,rfl⟩
       simp[execOp,ho,hv,this]
      |ro _ _ b off cap vs lT hb oX hs hc gg=>
       subst hr;refine⟨.string (runesBytes ns),?_,.p _ _ (.v _)⟩;have J0:(loadCells ⟨b,off,none⟩ ns.length).run P w=.ok (ns.map (Value.int .i32)).toArray w:=by
        have hl:=run_loadCells_list (P:=P) (w:=w) ⟨b,off,none⟩ (ns.map (Value.int .i32)) (fun q u hu=>by
         rw[aH]at hu
         cases hn:ns[q]? with
         |none=>rw[hn]at hu;cases hu
         |some m=>
          rw[hn]at hu;cases hu
          have hq:(pR ns)[q]?=some [.v (.int .i32 m)]:=by simp[pR,hn]
          have h2:=(hc q 0 _ _ hq rfl).1;have h3:=gg q 0 _ _ hq rfl;have h4:vs q 0=.int .i32 m:=by
           generalize vs q 0=u at h3
           cases h3;rfl
          rw[h4]at h2;rw[Addr.add_lit]
          grind)
        simpa using hl
       have:=KJ (.slice (some ⟨b,off,none⟩) (pR ns).length cap) (by rw[Vb];exact run_runesToString w _ _ cap ns J0) jT ⟨_,_,_,rfl⟩
       simp[execOp,ho,hv,this]
    ·rename_i UM;obtain⟨rfl,bs,rfl,h⟩:=h;refine⟨_,h,lG fun w0 B w ι ρ hR hG hρ=>⟨.string bs,?_,.p _ _ (.v _)⟩⟩
     have h1:=hρ x hx;rw[e]at h1;have jk:P.underlying e0=some (.int .u8):=QY
     have eJ:P.underlying dst=some .string:=by rw[(hT _ _ hi).1.1,hd]
     have tS:P.underlying cZ=some (.slice e0):=by rw[(hT _ _ hj).1.1,zE]
     cases h1 with
     |p _ _ h1=>
      have:=Wo (P:=P) tS jk eJ h1
      simp[execOp,ho,this]
    ·cases h
   ·cases h
  ·cases h
 ·cases h
theorem Zc{o:Oper}{cZ dst:TypeId}{x:Operand}(ho:o.op=.convert cZ dst x){env:List AV}{H:AH}{K:AV->Prop}{k i n:Nat}(ex:bO env x=.osl k i n)(h:E7 bK T dst cZ k i n H K):∃a,K a/\QS P G o env H a:=by
 have hx:x∈o.op.operands:=oF
 unfold E7 at h
 split at h
 ·rename_i di si wG hsi
  split at h
  ·rename_i e hd zE
   split at h
   ·rename_i te he
    split at h
    ·rename_i UM
     split at h
     ·rename_i s rs ty hk;obtain⟨rfl,hle,bs,UO,h⟩:=h;change i+n<=rs.length at hle;change(rs.drop i).take n=nD bs at UO;refine⟨_,h,lG fun w0 B w ι ρ hR hG hρ=>⟨.string bs,?_,.p _ _ (.v _)⟩⟩
      have h1:=hρ x hx;rw[ex]at h1;have jk:P.underlying e=some (.int .u8):=QY
      have eJ:P.underlying dst=some .string:=by rw[(hT _ _ wG).1.1,hd]
      have tS:P.underlying cZ=some (.slice e):=by rw[(hT _ _ hsi).1.1,zE]
      generalize hv:ρ x=v at h1;have hlen:bs.data.toList.length=n:=by
       have:((rs.drop i).take n).length=n:=aZ
       rw[UO]at this;simpa [nD]using this
      cases h1 with
      |osl0=>
       have i7:bs=⟨#[]⟩:=by
        obtain⟨⟨l⟩⟩:=bs;simp at hlen;subst hlen;rfl
       subst i7;have hn:(convert cZ dst (.slice none 0 0)).run P w=.ok (.string ⟨#[]⟩) w:=by
        simp[convert,run_underlying tS,run_underlying eJ,run_underlying jk,Conv.bytesToString];rfl
       simp[execOp,ho,hv,hn]
      |osl _ _ _ c cap sz hi gl hm hz=>
       obtain⟨es,hl,hh⟩:=(hR.blk k _ _ sz hk hi).2
       rcases hh with⟨ec,_⟩|⟨c',arr,ec,hb,uS,dB⟩
       ·cases ec
       cases ec
       have:=run_convert_bytes_back (P:=P) w cZ dst e ⟨c,i*sz.1,none⟩ cap bs.data.toList tS jk eJ (fun j hj=>by
        have hq:(nD bs)[j]?=some [.v (.int .u8 (bs.data.toList[j].toNat:Nat))]:=by
         unfold nD
         grind
        rw[<-UO]at hq;have vD:rs[i+j]?=some [.v (.int .u8 (bs.data.toList[j].toNat:Nat))]:=by
         grind
        obtain⟨u,hu,_,x5⟩:=dB (i+j) 0 _ _ vD rfl
        cases x5
        rw[Addr.add_lit,ka hb]
        grind)
       rw[hlen]at this;simp[execOp,ho,hv,this]
     ·cases h
    ·cases h
   ·cases h
  ·cases h
 ·cases h
omit hT
theorem LZ{env:List AV}{x:Option Operand}{d:Int}{K:Int->Prop}(h:BQ (x.map (bO env)) d K):
  ∃n,K n/\((x=none/\n=d)\/∃y k,x=some y/\bO env y=.p (.v (.int k n))):=by
 cases x with
 |none=>exact⟨d,h,.inl ⟨rfl,rfl⟩⟩
 |some y=>
  unfold BQ at h
  grind
def ug(ρ:Operand->Value)(x:Option Operand)(d:Nat)(n:Int):Prop:=(x=none/\n=d)\/∃y k,x=some y/\ρ y=.int k n
theorem Nn{ρ:Operand->Value}{b:Bool}{len cap:Nat}{lo hi:Option Operand}{l h:Int}(hh:ug ρ hi len h)(hl:ug ρ lo 0 l)(h0:0<=l)(h1:l<=h)(h2:h<=cap)(w:World):
  (Instr.sliceBounds b len cap (lo.map ρ) (hi.map ρ) none).run P w=.ok (l.toNat,h.toNat,cap) w:=by
 have h3:(0:Int)<=h:=dU
 rcases hh with⟨rfl,rfl⟩|⟨y,k,rfl,ey⟩
 ·rcases hl with⟨rfl,rfl⟩|⟨z,k',rfl,ez⟩
  ·simp[Instr.sliceBounds]
  ·have h5:l<=((len:Nat):Int):=h1;simp[Instr.sliceBounds,Instr.sliceBound,ez,asIntOf,h0,h5]
 ·rcases hl with⟨rfl,rfl⟩|⟨z,k',rfl,ez⟩
  ·simp[Instr.sliceBounds,Instr.sliceBound,ey,asIntOf,h3,h2]
  ·simp[Instr.sliceBounds,Instr.sliceBound,ey,ez,asIntOf,h3,h2,h0];omega
include hT
theorem zo0{t:TypeId}{ti:TI}(ht:T t=some ti)(hd:ti.desc=.string){o:Oper}{x:Operand}{lo hi:Option Operand}(ho:o.op=.slice t x lo hi none){env:List AV}{H:AH}{K:AV->Prop}
  (h:Cs bK (bO env x) (lo.map (bO env)) (hi.map (bO env)) K):∃a,K a/\QS P G o env H a:=by
 have hx:x∈o.op.operands:=oF
 have jh:∀y,lo=some y->y∈o.op.operands:=fun y e=>by rw[ho,e];simp[Op.operands]
 have Vm:∀y,hi=some y->y∈o.op.operands:=fun y e=>by rw[ho,e];simp[Op.operands]
 unfold Cs at h
 split at h
 ·rename_i s e;obtain⟨n,h,bn⟩:=LZ h;obtain⟨m,h,bm⟩:=LZ h;obtain⟨h0,h1,h2,h⟩:=h;change m<=n at h1;change n<=(s.size:Nat)at h2;change K (.p (.v (.string (s.extract m.toNat n.toNat))))at h;refine⟨_,h,lG fun w0 B w ι ρ hR hG hρ=>⟨_,?_,.p _ _ (.v _)⟩⟩
  have hv:=hρ x hx;rw[e]at hv;have b1:ug ρ hi s.size n:=by
   rcases bn with bn|⟨y,k,ey,ea⟩
   ·exact .inl bn
   ·exact Ha
  have b2:ug ρ lo 0 m:=by
   exact Sn
  simp only[execOp,ho,jS hv,Option.map_none,Instr.sliceAt,Sem.run_bind,pV hT ht,Result.andThen_ok,hd,Instr.slice];simp[Nn (P:=P) b1 b2 h0 h1 h2]
 ·cases h
theorem Zh{t e:TypeId}{ti te:TI}(ht:T t=some ti)(hd:ti.desc=.slice e)(he:T e=some te){o:Oper}{x:Operand}{lo hi:Option Operand}(ho:o.op=.slice t x lo hi none){env:List AV}{H:AH}{K:AV->Prop}
  (h:E5 bK te.size (bO env x) (lo.map (bO env)) (hi.map (bO env)) K):∃a,K a/\QS P G o env H a:=by
 have hx:x∈o.op.operands:=oF
 have jh:∀y,lo=some y->y∈o.op.operands:=fun y e=>by rw[ho,e];simp[Op.operands]
 have Vm:∀y,hi=some y->y∈o.op.operands:=fun y e=>by rw[ho,e];simp[Op.operands]
 have run:∀(A:Option Addr)(len cap:Nat)(ρ:Operand->Value)(l h:Int)(w:World),ug ρ hi len h->ug ρ lo 0 l->0<=l->l<=h->h<=cap->ρ x=.slice A len cap →
   (execOp ρ o).run P w=.ok (.value (.slice (if cap=l.toNat then A else A.map (·.add (l.toNat*te.size))) (h.toNat-l.toNat) (cap-l.toNat))) w:=by
  intro A len cap ρ l h w b1 b2 h0 h1 h2 hv;simp only[execOp,ho,hv,Option.map_none,Instr.sliceAt,Sem.run_bind,pV hT ht,Result.andThen_ok,hd,Instr.slice];simp[Nn (P:=P) b1 b2 h0 h1 h2,rp hT he]
 unfold E5 at h;simp only[bK]at h
 split at h
 ·rename_i s rows ex;obtain⟨rfl,h⟩:=h;obtain⟨n,h,bn⟩:=LZ h;obtain⟨m,h,bm⟩:=LZ h;obtain⟨h0,h1,h2,h⟩:=h;refine⟨_,h,lG fun w0 B w ι ρ hR hG hρ=>?_⟩
  have hv:=hρ x hx;rw[ex]at hv;generalize hq:ρ x=v at hv;have b1:ug ρ hi rows.length n:=by
   rcases bn with bn|⟨y,k,ey,ea⟩
   ·exact .inl bn
   ·exact Ha
  have b2:ug ρ lo 0 m:=by
   exact Sn
  cases hv with
  |p _ _ hv=>
   cases hv with
   |ro0 _ A cap=>
    simp only[bW]at b1 h2;refine⟨_,run A 0 cap ρ m n w b1 b2 h0 h1 oM hq,?_⟩
    have jU:n.toNat-m.toNat=0:=dU
    rw[jU];simp only[List.take_nil,List.drop_nil];exact .p _ _ (.ro0 _ _ _)
   |ro _ _ b off cap vs rc hb oX hs hc hr=>
    refine⟨_,run _ _ cap ρ m n w b1 b2 h0 h1 oM hq,?_⟩
    have hlen:((rows.take n.toNat).drop m.toNat).length=n.toNat-m.toNat:=by
     grind
    have aU:∀i row,((rows.take n.toNat).drop m.toNat)[i]?=some row->rows[m.toNat+i]?=some row:=fun i row hi=>by
     grind
    by_cases hz:n.toNat-m.toNat=0
    ·have:(rows.take n.toNat).drop m.toNat=[]:=aQ oM
     rw[hz,this];exact .p _ _ (.ro0 _ _ _)
    ·rw[aE oM,<- hlen]
     simp only[eX,Addr.add_lit];refine .p _ _ (.ro _ _ b _ _ (fun i j=>vs (m.toNat+i) j) rc hb oM (fun i row hi=>hs _ row (aU i row hi)) (fun i j row a hi hj=>?_) fun i j row a hi hj=>hr _ j row a (aU i row hi) hj)
     grind
 ·rename_i k i n ex
  split at h
  ·rename_i hlon;have TP:lo=none:=bw
   subst TP;obtain⟨m,h,bm⟩:=LZ h;obtain⟨h0,h1,h⟩:=h;refine⟨_,h,lG fun w0 B w ι ρ hR hG hρ=>?_⟩
   have hv:=hρ x hx;rw[ex]at hv;generalize hq:ρ x=v at hv;have b1:ug ρ hi n m:=by
    rcases bm with bm|⟨y,k,ey,ea⟩
    ·exact .inl bm
    ·exact Ha
   cases hv with
   |osl0=>
    refine⟨_,run none 0 0 ρ 0 m w b1 (.inl ⟨rfl,rfl⟩) oM oM oM hq,?_⟩
    grind
   |osl _ _ _ c cap s sX hn hm hz=>
    refine⟨_,run _ n cap ρ 0 m w b1 (.inl ⟨rfl,rfl⟩) oM oM oM hq,?_⟩
    have e0:(if cap=(0:Int).toNat then some (⟨c,i*s.1,none⟩:Addr)else(some (⟨c,i*s.1,none⟩:Addr)).map (·.add ((0:Int).toNat*te.size)))=some ⟨c,i*s.1,none⟩:=by
     split
     ·rfl
     ·simp[Addr.add]
    rw[e0];exact .osl k i m.toNat c cap s sX oM hm hz
  ·cases h
 ·cases h
end
section
variable{P:Program}{G:World->Prop}{T:TT}
theorem X5(hT:gY P T){o:Oper}{x:Operand}{c:Call}(ho:o.op=.call c)(hc:c.callee=.builtin .len)(ha:c.args.toList=[x]){t:TypeId}{ti:TI}(mQ:c.argTypes.toList=[t])(ht:T t=some ti)
  {env:List AV} {H:AH} {K:AV->Prop} (h:EA bK ti.desc (bO env x) K):∃a,K a/\QS P G o env H a:=by
 have dW:c.args=#[x]:=eP.1 JJ
 have qy:c.argTypes=#[t]:=eP.1 (by simpa using mQ)
 have hx:x∈o.op.operands:=RF
 have run:∀(ρ:Operand->Value)(w:World)(n:Nat),(Builtin.len_ #[t] o.type #[ρ x]).run P w=.ok (.int .i64 n) w->(execOp ρ o).run P w=.ok (.value (.int .i64 n)) w:=by
  intro ρ w n hr;simp only[execOp,ho,resolve,hc,Sem.run_bind,Sem.run_pure,Result.andThen_ok,invoke,builtin,dW,qy];simp[hr]
 unfold EA at h
 split at h
 ·rename_i hd
  split at h
  ·rename_i s e;refine⟨_,h,lG fun w0 B w ι ρ hR hG hρ=>⟨_,run ρ w s.size ?_,.p _ _ (.v _)⟩⟩
   have hv:=hρ x hx;rw[e]at hv;rw[jS hv];simp[Builtin.len_,pV hT ht,hd,goInt]
  ·cases h
 ·rename_i el hd;have slc:∀(A:Option Addr)(n c:Nat)(w:World),(Builtin.len_ #[t] o.type #[.slice A n c]).run P w=.ok (.int .i64 n) w:=by
   simp[Builtin.len_,pV hT ht,hd,goInt]
  split at h
  ·rename_i A n c e;refine⟨_,h,lG fun w0 B w ι ρ hR hG hρ=>⟨_,run ρ w n ?_,.p _ _ (.v _)⟩⟩
   have hv:=hρ x hx;rw[e]at hv;rw[jS hv];exact slc _ _ _ _
  ·rename_i e;refine⟨_,h,lG fun w0 B w ι ρ hR hG hρ=>⟨_,run ρ w 0 ?_,.p _ _ (.v _)⟩⟩
   have hv:=hρ x hx;rw[e]at hv;generalize hq:ρ x=v at hv
   cases hv with
   |p _ _ hv=>cases hv;exact slc _ _ _ _
  ·rename_i s rows e;refine⟨_,h,lG fun w0 B w ι ρ hR hG hρ=>⟨_,run ρ w rows.length ?_,.p _ _ (.v _)⟩⟩
   have hv:=hρ x hx;rw[e]at hv;generalize hq:ρ x=v at hv
   cases hv with
   |p _ _ hv=>cases hv<;>exact slc _ _ _ _
  ·rename_i k i n e;refine⟨_,h,lG fun w0 B w ι ρ hR hG hρ=>⟨_,run ρ w n ?_,.p _ _ (.v _)⟩⟩
   have hv:=hρ x hx;rw[e]at hv;generalize hq:ρ x=v at hv
   cases hv<;>exact slc _ _ _ _
  ·cases h
 ·cases h
theorem P1{α β:Type}{f:α->β}{l:List α}{a b:β}(h:l.map f=[a,b]):∃x y,l=[x,y]/\f x=a/\f y=b:=by
 match l,h with
 |[x,y],h=>grind
theorem Zr{o:Oper}{c:Call}{f:FuncId}(ho:o.op=.call c)(hc:c.callee=.value (.func f)){env:List AV}{H:AH}{as:List PV}{r:PV}(i8:AV.toP.toPL (c.args.toList.map (bO env))=some as)(hr:fX P G f as r)(hp:r.isPan=false):QS P G o env H (.p r):=by
 intro w0 B w ι ρ hR hG hρ hf;have oQ:∀x,x∈c.args->x∈o.op.operands:=fun x hx=>by rw[ho];simp[Op.operands,Call.operands,hc,hx]
 have hg:=sn _ _ i8;have wD:(execOp ρ o).run P w=.ok (.enter f (c.args.map ρ)) w:=by
  exact Hn
 rw[wD];have hlen:as.length=(c.args.toList.map ρ).length:=by rw[hg.1];simp
 have gI:∀(j:Nat)(a:PV)(v:Value),as[j]?=some a->(c.args.toList.map ρ)[j]?=some v->cE w (Rd B ι H) a v:=by
  intro j a v ha hv;rw[aH]at hv
  cases hx:c.args.toList[j]? with
  |none=>rw[hx]at hv;cases hv
  |some x=>
   rw[hx]at hv;cases hv
   obtain⟨p,hp,r4⟩:=hg.2 j (bO env x) aZ
   rw[hp]at ha;cases ha
   exact(hρ x (oQ x aZ)).toP _ r4
 have:=hr.2 w (Rd B ι H) (c.args.toList.map ρ) hG hlen gI
 have e:(c.args.toList.map ρ).toArray=c.args.map ρ:=by
  grind
 rw[e]at this;refine this.mono fun e w' ⟨xp,he⟩=>?_
 obtain⟨v,rfl,hv⟩:=he.val hp;refine⟨v,rfl,xp,.p _ _ (hv.keep (nR _) fun b hb cJ=>⟨?_,rfl⟩)⟩
 rcases hb with hb|hb
 ·exact hb
 ·exact⟨hR.fut b hb,fun iP=>by have:=hR.lt iP;omega⟩
theorem Kp{w0:cF}{B:Nat->Prop}{w:World}{ι:Pl}{H:AH}(hR:eQ w0 B w ι H){a:AV}{v:Value}{x:PV}(h:dD w ι (Rd B ι H) a v)(hx:NI H a=some x):cE w (fun _=>True) x v:=by
 have keep:∀{p:PV}{u:Value},cE w (Rd B ι H) p u->cE w (fun _=>True) p u:=fun h=>h.keep (nR _) fun _ _ _=>⟨trivial,rfl⟩
 unfold NI at hx
 split at hx
 ·rename_i k
  split at hx
  ·rename_i cs t g hk
   split at hx
   ·rename_i ps AE
    cases hx
    cases h with
    |own _ _ c s hι=>
     obtain⟨_,c',arr,hc,hw,dM,gC⟩:=(hR.blk k _ _ _ hk hι).2
     cases hc
     have hg:=sn cs ps AE;have oJ:∀(j:Nat)(a:PV),ps[j]?=some a->∃v,arr[j]?=some v/\v.oneCell'=true/\cE w (Rd B ι H) a v:=fun j a ha=>by
      have cJ:j<cs.length:=aZ
      obtain⟨y,hy⟩:∃y,cs[j]?=some y:=⟨_,aB cJ⟩
      obtain⟨x,hx,KO⟩:=hg.2 j y hy;rw[hx]at ha
      cases ha
      obtain⟨v,h1,h2,h3⟩:=gC j y hy;exact⟨v,h1,h2,h3.toP _ KO⟩
     have dX:∀j:Nat,∃v,∀a,ps[j]?=some a->arr[j]?=some v/\v.oneCell'=true/\cE w (Rd B ι H) a v:=fun j=>by
      cases ha:ps[j]? with
      |none=>simp_all
      |some a=>simp_all
     obtain⟨vs,KB⟩:=Classical.axiomOfChoice dX;refine .rop ps c 0 vs trivial (md hw) (fun j a ha=>?_) fun j a ha=>keep (KB j a ha).2.2
     obtain⟨h1,h2,_⟩:=KB j a ha;refine⟨?_,h2⟩;simp only[World.cell?,World.cells?,hw,cB];exact h1
   ·cases hx
  ·cases hx
 ·exact keep (h.toP _ hx)
theorem Zb{o:Oper}{c:Call}{f:FuncId}(ho:o.op=.call c)(hc:c.callee=.value (.func f)){env:List AV}{H:AH}{as:List PV}{x:Value}(i8:GV H (c.args.toList.map (bO env))=some as)(hr:fX P G f as (.v x)):QS P G o env H (.p (.v x)):=by
 intro w0 B w ι ρ hR hG hρ hf;have oQ:∀x,x∈c.args->x∈o.op.operands:=fun x hx=>by rw[ho];simp[Op.operands,Call.operands,hc,hx]
 have hg:=Ly _ _ i8;have wD:(execOp ρ o).run P w=.ok (.enter f (c.args.map ρ)) w:=by
  exact Hn
 rw[wD];have hlen:as.length=(c.args.toList.map ρ).length:=by rw[hg.1];simp
 have gI:∀(j:Nat)(a:PV)(v:Value),as[j]?=some a->(c.args.toList.map ρ)[j]?=some v->cE w (fun _=>True) a v:=by
  intro j a v ha hv;rw[aH]at hv
  cases hx:c.args.toList[j]? with
  |none=>rw[hx]at hv;cases hv
  |some x=>
   rw[hx]at hv;cases hv
   obtain⟨p,hp,r4⟩:=hg.2 j (bO env x) aZ
   rw[hp]at ha;cases ha
   exact Kp hR (hρ x (oQ x aZ)) r4
 have:=hr.2 w (fun _=>True) (c.args.toList.map ρ) hG hlen gI
 have e:(c.args.toList.map ρ).toArray=c.args.map ρ:=by
  grind
 rw[e]at this;refine this.mono fun e w' ⟨xp,he⟩=>?_
 obtain⟨v,rfl,hv⟩:=he.val rfl
 cases hv
 exact⟨x,rfl,xp,.p _ _ (.v x)⟩
theorem Lr{α:Type}:∀(l:List α)(k off:Nat)(arr:Array α),((l.zipIdx k).foldl (fun cs (p:α×Nat)=>cs.setIfInBounds (off+p.2) p.1) arr).size=arr.size ∧
  ∀m,((l.zipIdx k).foldl (fun cs (p:α×Nat)=>cs.setIfInBounds (off+p.2) p.1) arr)[m]?=if off+k<=m/\m<off+k+l.length/\m<arr.size then l[m-(off+k)]? else arr[m]?
 |[],k,off,arr=>by
  refine⟨rfl,fun m=>?_⟩
  simp only[List.zipIdx_nil,List.foldl_nil,bW,jt];rw[aE oM]
 |a::l,k,off,arr=>by
  rw[List.zipIdx_cons,ua];have ih:=Lr l (k+1) off (arr.setIfInBounds (off+k) a)
  grind
theorem Cr{α:Type}{cells cs:List α}{off m:Nat}(hle:off+cs.length<=cells.length):(nl cells off cs)[m]?=if off<=m/\m<off+cs.length then cs[m-off]? else cells[m]?:=by
 unfold nl;have cJ:(cells.take off).length=off:=aZ
 grind
theorem HV{α:Type}{cells cs:List α}{off:Nat}(hle:off+cs.length<=cells.length):(nl cells off cs).length=cells.length:=by
 unfold nl;simp;omega
theorem Lk{w:World}{ι:Pl}{R:Nat->Prop}{a:AV}{v:Value}(h:dD w ι R a v)(cU:Bw a=true):(qM a).length=v.cells.size/\∀(j:Nat)(c:AV),(qM a)[j]?=some c->∃u,v.cells[j]?=some u/\dD w ι R c u:=by
 have one:∀(a:AV)(v:Value),dD w ι R a v->v.cells=#[v]->[a].length=v.cells.size/\∀(j:Nat)(c:AV),[a][j]?=some c->∃u,v.cells[j]?=some u/\dD w ι R c u:=by
  grind
 cases h with
 |agg cs vs hl hr=>
  refine⟨by simpa [qM,Value.cells]using hl,fun j c hc=>?_⟩
  have nN:j<vs.length:=by rw[<-hl];exact(aC.1 hc).1
  exact⟨vs[j],by simp[Value.cells,nN],hr j c _ hc (aB nN)⟩
 |p x v h=>
  cases h with
  |agg cs vs hl hr=>
   refine⟨by simpa [qM,Value.cells]using hl,fun j c hc=>?_⟩
   simp only[qM,aH]at hc
   cases Vp:cs[j]? with
   |none=>grind
   |some y=>
    rw[Vp]at hc;cases hc
    have nN:j<vs.length:=aZ
    exact⟨vs[j],by simp[Value.cells,nN],.p _ _ (hr j y _ Vp (aB nN))⟩
  |v x=>
   refine one _ _ (.p _ _ (.v _)) ?_;have h1:v.oneCell'=true:=cU
   cases v<;>first|rfl|(simp[Value.oneCell']at h1)
  |e0 A=>exact one _ _ (.p _ _ (.e0 A)) rfl
  |ro0 s A cap=>exact one _ _ (.p _ _ (.ro0 s A cap)) rfl
  |ro s rows b o cap vs hR hb oX hs hc hr=>exact one _ _ (.p _ _ (.ro s rows b o cap vs hR hb oX hs hc hr)) rfl
  |rop row b o vs hR hb hc hr=>exact one _ _ (.p _ _ (.rop row b o vs hR hb hc hr)) rfl
  |tup cs vs hl hr=>exact one _ _ (.p _ _ (.tup cs vs hl hr)) rfl
  |err t v=>exact one _ _ (.p _ _ (.err t v)) rfl
 |own k j c s h=>exact one _ _ (.own k j c s h) rfl
 |orw k i j c s h=>exact one _ _ (.orw k i j c s h) rfl
 |osl0 k i=>exact one _ _ (.osl0 k i) rfl
 |osl k i n c cap s h gl hm hz=>exact one _ _ (.osl k i n c cap s h gl hm hz) rfl
 |tup cs vs hl hr=>exact one _ _ (.tup cs vs hl hr) rfl
 |clo f fs cs us vs hl hr nM gf=>exact one _ _ (.clo f fs cs us vs hl hr nM gf) rfl
 |junk=>cases cU
def LO(w:World)(ι:Pl)(R:Nat->Prop):List (Nat×AV)->List (Nat×Value)->Prop
 |[],[]=>True
 |(i,a)::as,(j,v)::vs=>i=j/\dD w ι R a v/\LO w ι R as vs
 |_,_=>False
theorem XW{w:World}{ι:Pl}{R:Nat->Prop}{place:Nat->Option (Nat×Nat)}:∀(parts:List (Nat×AV))(vparts:List (Nat×Value))(cells cs':List AV)(arr:Array Value),LO w ι R parts vparts->fi place cells parts=some cs' →
  cells.length=arr.size->(∀(j:Nat)(a:AV),cells[j]?=some a->∃u,arr[j]?=some u/\dD w ι R a u) →
  ∃arr',Instr.fill place arr vparts=some arr'/\cs'.length=arr'.size/\∀(j:Nat)(a:AV),cs'[j]?=some a->∃u,arr'[j]?=some u/\dD w ι R a u
 |[],[],cells,cs',arr,_,h,hl,hr=>by
  simp[fi]at h;subst h;exact⟨arr,by simp[Instr.fill],hl,hr⟩
 |[],_::_,_,_,_,h,_,_,_=>h.elim
 |_::_,[],_,_,_,h,_,_,_=>h.elim
 |(i,a)::as,(j,v)::vs,cells,cs',arr,hp,h,hl,hr=>by
  obtain⟨rfl,Vv,hp⟩:=hp;unfold fi at h
  split at h
  ·cases h
  ·rename_i off size ja
   split at h
   ·rename_i hc;obtain⟨cU,dM,hle⟩:=hc;have dB:=Lk Vv cU;have hfs:=Lr v.cells.toList 0 off arr;have UF:v.cells.zipIdx.foldl (fun cs (p:Value×Nat)=>cs.setIfInBounds (off+p.2) p.1) arr=(v.cells.toList.zipIdx 0).foldl (fun cs (p:Value×Nat)=>cs.setIfInBounds (off+p.2) p.1) arr:=by
     rw[<-Array.foldl_toList];simp
    have UG:Instr.fill place arr ((i,v)::vs)=Instr.fill place ((v.cells.toList.zipIdx 0).foldl (fun cs (p:Value×Nat)=>cs.setIfInBounds (off+p.2) p.1) arr) vs:=by
     rw[<-UF]
     conv=>lhs;unfold Instr.fill
     grind
    rw[UG];refine XW as vs _ cs' _ hp h (by rw[HV oM,hfs.1];exact hl) fun m c hm=>?_
    rw[Cr oM]at hm
    grind
   ·cases h
theorem My(hT:gY P T)(w:World):∀(fs:List Field)(pl:List (Nat×Nat)),HN T fs=some pl->(fs.mapM fun f=>do pure (f.offset,<- sizeOf f.type):Sem (List (Nat×Nat))).run P w=.ok pl w
 |[],pl,h=>by simp[HN]at h;subst h;rfl
 |f::fs,pl,h=>by
  unfold HN at h
  split at h
  ·rename_i i r hi hr
   cases h
   rw[BA];simp only[Sem.run_bind,Sem.run_pure,Result.andThen_ok,rp hT hi,My hT w fs r hr]
  ·cases h
theorem Zq(hT:gY P T){o:Oper}{t:TypeId}{parts:Array (Nat×Operand)}(ho:o.op=.build t parts){i:TI}(ht:T t=some i){fs:Array Field}(hd:i.desc=.struct fs){pl:List (Nat×Nat)}(ja:HN T fs.toList=some pl)
  {env:List AV} {H:AH} {cs:List AV} (h:fi (fun n=>pl[n]?) (i.zero.cells.toList.map fun x=>.p (.v x)) (parts.toList.map fun(n,x)=>(n,bO env x))=some cs):QS P G o env H (.agg cs):=by
 refine lG fun w0 B w ι ρ hR hG hρ=>?_
 have oQ:∀(n:Nat)(x:Operand),(n,x)∈parts.toList->dD w ι (Rd B ι H) (bO env x) (ρ x):=fun n x hx=>hρ x (by
  rw[ho];simp only[Op.operands]
  grind)
 have vY:∀l:List (Nat×Operand),(∀n x,(n,x)∈l->dD w ι (Rd B ι H) (bO env x) (ρ x))->LO w ι (Rd B ι H) (l.map fun(n,x)=>(n,bO env x)) (l.map fun(n,x)=>(n,ρ x)):=by
  exact Ho
 obtain⟨arr',h1,h2,h3⟩:=XW (w:=w) (ι:=ι) (R:=Rd B ι H) _ _ _ cs i.zero.cells (vY parts.toList oQ) h jT (fun j a ha=>by
  rw[aH]at ha
  cases hz:i.zero.cells.toList[j]? with
  |none=>rw[hz]at ha;cases ha
  |some z=>rw[hz]at ha;cases ha;exact⟨z,by simpa using hz,.p _ _ (.v _)⟩)
 refine⟨.agg arr',?_,?_⟩
 ·have hm:(fs.mapM fun f=>do pure (f.offset,<- sizeOf f.type):Sem (Array (Nat×Nat))).run P w=.ok pl.toArray w:=by
   rw[GI,Sem.run_map,My hT w fs.toList pl ja];rfl
  have e:(parts.map fun(p:Nat×Operand)=>(p.1,ρ p.2)).toList=parts.toList.map fun(n,x)=>(n,ρ x):=jT
  simp only[execOp,ho,Instr.build,Sem.run_bind,KZ hT ht,pV hT ht,Result.andThen_ok,hd,hm];simp_all
 ·have:=dD.agg (w:=w) (ι:=ι) (R:=Rd B ι H) cs arr'.toList (by simpa using h2) (fun j a v ha hv=>by
   grind)
  simpa using this
theorem WJ(hT:gY P T){o:Oper}{env:List AV}{H:AH}{K:AV->Prop}(h:aq P G bK T o env H K):∃a,K a/\QS P G o env H a:=by
 unfold aq at h
 split at h
 ·exact Sm
 ·exact Sm
 ·rename_i c a b ho
  split at h
  ·rename_i t e;have hc:∀(w0:cF)(B:Nat->Prop)(w:World)(ι:Pl)(ρ:Operand->Value),(∀x,x∈o.op.operands->dD w ι (Rd B ι H) (bO env x) (ρ x))->ρ c=.bool t:=fun w0 B w ι ρ hρ=>by
    have:=hρ c oF
    rw[e]at this;exact jS this
   cases t with
   |true=>exact⟨_,h,lG fun w0 B w ι ρ hR hG hρ=>⟨ρ a,by simp[execOp,ho,hc w0 B w ι ρ hρ,asBool],hρ a oF⟩⟩
   |false=>exact⟨_,h,lG fun w0 B w ι ρ hR hG hρ=>⟨ρ b,by simp[execOp,ho,hc w0 B w ι ρ hρ,asBool],hρ b oF⟩⟩
  ·cases h
 ·rename_i t a ho
  split at h
  ·rename_i i ht;exact Yv hT ht ho h
  ·cases h
 ·rename_i s x f ho
  split at h
  ·rename_i i ht
   split at h
   ·rename_i fs hd
    split at h
    ·rename_i fd hf
     split at h
     ·rename_i j hj
      split at h
      ·cases h
      ·rename_i h0;exact Zd hT ht hd hf hj h0 ho h
     ·cases h
    ·cases h
   ·cases h
  ·cases h
 ·rename_i t x y ho
  split at h
  ·rename_i ti ht
   split at h
   ·rename_i e hd
    split at h
    ·rename_i te he;exact Ze hT ht hd he ho h
    ·cases h
   ·rename_i m e hd
    split at h
    ·rename_i te he
     split at h
     ·rename_i h1;exact z0a hT ht hd he h1 ho h
     ·cases h
    ·cases h
   ·cases h
  ·cases h
 ·rename_i t x y ho
  split at h
  ·rename_i ti ht
   split at h
   ·rename_i s k n hd ex ey;obtain⟨h0,b,hb,h⟩:=h;exact zpa hT ht hd ho ex ey h0 hb h
   ·cases h
  ·cases h
 ·rename_i t x lo hi ho
  split at h
  ·rename_i ti ht
   split at h
   ·rename_i hd;exact zo0 hT ht hd ho h
   ·rename_i e hd
    split at h
    ·rename_i te he;exact Zh hT ht hd he ho h
    ·cases h
   ·cases h
  ·cases h
 ·rename_i x i ho;exact zph ho h
 ·rename_i s x f ho
  split at h
  ·rename_i i ht
   split at h
   ·rename_i fs hd
    split at h
    ·rename_i fd hf
     split at h
     ·rename_i j hj
      split at h
      ·cases h
      ·rename_i h0;exact Yx hT ht hd hf hj (by simpa using h0) ho h
     ·cases h
    ·cases h
   ·cases h
  ·cases h
 ·rename_i t x ho;have hx:x∈o.op.operands:=oF
  split at h
  ·rename_i i ht
   split at h
   ·cases h
   ·split at h
    ·rename_i v hv;refine⟨_,h,lG fun w0 B w ι ρ hR hG hρ=>⟨_,?_,.p _ _ (.v _)⟩⟩
     cases hp:(bO env x).toP with
     |none=>rw[hp]at hv;cases hv
     |some p=>
      rw[hp]at hv;have e:=((hρ x hx).toP p hp).toV v hv;have hm:(Instr.makeInterface t v).run P w=.ok (.iface t v) w:=by
       simp only[Instr.makeInterface,Sem.run_bind,pV hT ht,Result.andThen_ok];simp_all
      simp[execOp,ho,e,hm]
    ·cases h
  ·cases h
 ·rename_i f fs cs ho;refine⟨_,h,lG fun w0 B w ι ρ hR hG hρ=>?_⟩
  refine⟨.func (.func f) (fs.toList.map ρ).toArray (cs.toList.map ρ).toArray,?_,.clo f _ _ (fs.toList.map ρ) (cs.toList.map ρ) jT (fun j a v ha hv=>?_) jT (fun j a v ha hv=>?_)⟩
  ·have e1:(fs.toList.map ρ).toArray=fs.map ρ:=aZ
   have e2:(cs.toList.map ρ).toArray=cs.map ρ:=aZ
   rw[e1,e2];simp[execOp,ho,Instr.makeFunc]
  ·rw[aH]at ha hv
   cases hj:fs.toList[j]? with
   |none=>rw[hj]at ha;cases ha
   |some y=>
    rw[hj]at ha hv
    cases ha;cases hv
    have:=aJ hj
    exact hρ y (by rw[ho];simp only[Op.operands];exact Array.mem_append.2 (.inl (by simpa using this)))
  ·rw[aH]at ha hv
   cases hj:cs.toList[j]? with
   |none=>rw[hj]at ha;cases ha
   |some y=>
    rw[hj]at ha hv
    cases ha;cases hv
    have:=aJ hj
    exact hρ y (by rw[ho];simp only[Op.operands];exact Array.mem_append.2 (.inr (by simpa using this)))
 ·rename_i x ho;have hx:x∈o.op.operands:=oF
  split at h
  ·rename_i k j e;refine⟨_,h,lG fun w0 B w ι ρ hR hG hρ=>?_⟩
   have hv:=hρ x hx;rw[e]at hv;generalize hq:ρ x=v at hv
   cases hv with
   |own _ _ c s hi=>exact⟨_,by simp[execOp,ho,hq],.own k j c s hi⟩
  ·rename_i k i j e;refine⟨_,h,lG fun w0 B w ι ρ hR hG hρ=>?_⟩
   have hv:=hρ x hx;rw[e]at hv;generalize hq:ρ x=v at hv
   cases hv with
   |orw _ _ _ c s hi=>exact⟨_,by simp[execOp,ho,hq],.orw k i j c s hi⟩
  ·rename_i row e;refine⟨_,h,lG fun w0 B w ι ρ hR hG hρ=>?_⟩
   have hv:=hρ x hx;rw[e]at hv;generalize hq:ρ x=v at hv
   cases hv with
   |p _ _ hv=>
    cases hv with
    |rop _ b off vs rc hb hc hr=>exact⟨_,by simp[execOp,ho,hq],.p _ _ (.rop row b off vs rc hb hc hr)⟩
  ·cases h
 ·rename_i op t x ho;exact Ye ho h
 ·rename_i cZ dst x ho
  split at h
  ·rename_i k i n ex;exact Zc hT ho ex h
  ·exact Yu hT ho h
 ·rename_i op t x y ty ho
  split at h
  ·rename_i b hn;have hx:x∈o.op.operands:=oF
   have hy:y∈o.op.operands:=oF
   have uU:∀(w0:cF)(B:Nat->Prop)(w:World)(ι:Pl)(ρ:Operand->Value),(∀f,ρ (.func f)=.func (.func f) #[] #[])->(∀x,x∈o.op.operands->dD w ι (Rd B ι H) (bO env x) (ρ x)) →
     ρ y=.nilIface/\((b=false/\∃tt v,ρ x=.iface tt v)\/(b=true/\ρ x=.nilIface/\(DO x||DO y)=true)):=fun w0 B w ι ρ _ hρ=>by
    have h1:=hρ x hx;have h2:=hρ y hy;unfold QV at hn
    split at hn
    ·rename_i e1 e2
     cases hn
     rw[e1]at h1;rw[e2]at h2;refine⟨jS h2,.inl ⟨rfl,?_⟩⟩;generalize ρ x=u at h1
     cases h1 with
     |p _ _ h1=>cases h1 with
      |err tt v=>exact⟨tt,v,rfl⟩
    ·rename_i e1 e2
     cases hn
     rw[e1]at h1;rw[e2]at h2;exact⟨jS h2,.inl ⟨rfl,_,_,jS h1⟩⟩
    ·rename_i e1 e2;rw[e1]at h1;rw[e2]at h2
     split at hn
     ·rename_i hc
      cases hn
      exact⟨jS h2,.inr ⟨rfl,jS h1,hc⟩⟩
     ·cases hn
    ·cases hn
   have iT:∀(i:TI)(ms:_),T t=some i->i.desc=.interface ms->∀(u:Value),(b=false/\∃tt v,u=.iface tt v)\/(b=true/\u=.nilIface)->∀w,(Op.equal t u .nilIface).run P w=.ok b w:=fun i ms hi hd u hu w=>by
    unfold Op.equal Op.maxDepth;rw[show(10000:Nat)=9999+1 from rfl,Op.equalIn];simp only[Sem.run_bind,pV hT hi,Result.andThen_ok,hd]
    rcases hu with⟨rfl,tt,v,rfl⟩|⟨rfl,rfl⟩<;>rfl
   have tw:∀(u:Value),(∃tt v,u=.iface tt v)\/(u=.nilIface/\(DO x||DO y)=true)->∀w,(eqGuard op t x y u .nilIface).run P w=.ok () w:=fun u hu w=>by
    rcases hu with⟨tt,v,rfl⟩|⟨rfl,hc⟩
    ·cases op<;>rfl
    ·cases x<;>cases y<;>first|(simp[DO]at hc;done)|(cases op<;>rfl)
   unfold Pp at h
   split at h
   ·rename_i i hi
    split at h
    ·rename_i ms hd;refine⟨_,h,fun w0 B w ι ρ hR hG hρ hf=>?_⟩
     obtain⟨e2,e1⟩:=uU w0 B w ι ρ hf hρ;have hr:(execOp ρ o).run P w=.ok (.value (.bool b)) w:=by
      have g:=tw (ρ x) aZ w
      have q:=iT i ms hi hd (ρ x) aZ w
      simp only[execOp,ho,e2,Sem.run_bind,g,Result.andThen_ok];have hb:binOp .eql t (ρ x) .nilIface=(do pure (.bool (← Op.equal t (ρ x) .nilIface))):=by
       rcases e1 with⟨_,tt,v,e⟩|⟨_,e,_⟩<;>rw[e]<;>rfl
      simp_all
     rw[hr];exact⟨Gr.refl _,.p _ _ (.v _)⟩
    ·rename_i ms hd;refine⟨_,h,fun w0 B w ι ρ hR hG hρ hf=>?_⟩
     obtain⟨e2,e1⟩:=uU w0 B w ι ρ hf hρ;have hr:(execOp ρ o).run P w=.ok (.value (.bool (!b))) w:=by
      have g:=tw (ρ x) aZ w
      have q:=iT i ms hi hd (ρ x) aZ w
      simp only[execOp,ho,e2,Sem.run_bind,g,Result.andThen_ok];have hb:binOp .neq t (ρ x) .nilIface=(do pure (.bool (!(← Op.equal t (ρ x) .nilIface)))):=by
       rcases e1 with⟨_,tt,v,e⟩|⟨_,e,_⟩<;>rw[e]<;>rfl
      simp_all
     rw[hr];exact⟨Gr.refl _,.p _ _ (.v _)⟩
    ·cases h
   ·cases h
  ·exact X0 hT ho h
 ·rename_i t parts ho
  split at h
  ·rename_i i ht
   split at h
   ·rename_i fs hd
    split at h
    ·rename_i pl ja
     split at h
     ·rename_i cs dB;exact⟨_,h,Zq hT ho ht hd ja dB⟩
     ·cases h
    ·cases h
   ·cases h
  ·cases h
 ·rename_i c ho;unfold Pr at h
  split at h
  ·rename_i hc
   split at h
   ·rename_i x t hx ht
    split at h
    ·rename_i ti AB;exact X5 hT ho hc hx ht AB h
    ·cases h
   ·cases h
  ·rename_i hc
   split at h
   ·rename_i k a k' b ha;obtain⟨x,y,fq,hx,hy⟩:=P1 ha;refine⟨_,h,lG fun w0 B w ι ρ hR hG hρ=>⟨_,?_,.p _ _ (.v _)⟩⟩
    have dW:c.args=#[x,y]:=eP.1 (by simpa using fq)
    have h1:=hρ x RF
    have h2:=hρ y RF
    rw[hx]at h1;rw[hy]at h2;simp[execOp,ho,resolve,hc,invoke,builtin,dW,jS h1,jS h2,Builtin.max_,Builtin.max2,bK]
   ·cases h
  ·rename_i hc
   split at h
   ·rename_i k a k' b ha;obtain⟨x,y,fq,hx,hy⟩:=P1 ha;refine⟨_,h,lG fun w0 B w ι ρ hR hG hρ=>⟨_,?_,.p _ _ (.v _)⟩⟩
    have dW:c.args=#[x,y]:=eP.1 (by simpa using fq)
    have h1:=hρ x RF
    have h2:=hρ y RF
    rw[hx]at h1;rw[hy]at h2;simp[execOp,ho,resolve,hc,invoke,builtin,dW,jS h1,jS h2,Builtin.min_,Builtin.min2,bK]
   ·cases h
  ·rename_i f hc
   split at h
   ·rename_i as i8;obtain⟨r,hr,h⟩:=h
    split at h
    ·cases h
    ·rename_i hp;exact⟨_,h,Zr ho hc i8 hr hp⟩
   ·split at h
    ·rename_i as i8;obtain⟨r,hr,h⟩:=h
     split at h
     ·exact⟨_,h,Zb ho hc i8 hr⟩
     ·cases h
    ·cases h
  ·cases h
 ·cases h
end
structure lc(G:World->Prop)(w0:cF)(B:Nat->Prop)(w:World)(ι:Pl)(H:AH):Prop where
 stab:∀w',tR ⟨w,iV ι H,[],fun _=>none⟩ w'->G w'
 own:∀b,w0.own b->B b
theorem lc.now{G:World->Prop}{w0:cF}{B:Nat->Prop}{w:World}{ι:Pl}{H:AH}(h:lc G w0 B w ι H):G w:=h.stab w ⟨rfl,rfl,rfl,nR _,fun _ _ _=>rfl⟩
def WS(P:Program)(G:World->Prop)(o:Oper)(env:List AV)(H:AH)(a:AV)(H':AH)(sc:Option (Nat->Bool)):Prop:=
 ∀(w0:cF)(B:Nat->Prop)(w:World)(ι:Pl)(ρ:Operand->Value),eQ w0 B w ι H->lc G w0 B w ι H->(∀x,x∈o.op.operands->dD w ι (Rd B ι H) (bO env x) (ρ x))->(∀f,ρ (.func f)=.func (.func f) #[] #[]) →
  a7 P (fun v w'=>∃ι',eQ w0 B w' ι' H'/\bQ sc w ι (Rd B ι H) w' ι' (Rd B ι' H')/\dD w' ι' (Rd B ι' H') a v) ((execOp ρ o).run P w)
theorem rN{α:Type}{l:List α}{x y:α}{k:Nat}(h:(l++[x])[k]?=some y):(k<l.length/\l[k]?=some y)\/(k=l.length/\y=x):=by
 grind
theorem XZ{α:Type}{l:List α}{x y:α}{k:Nat}(h:l[k]?=some y):(l++[x])[k]?=some y:=by
 grind
theorem dg{α:Type}(l:List α)(x:α):(l++[x])[l.length]?=some x:=jT
theorem eQ.push{w0:cF}{B:Nat->Prop}{w:World}{ι:Pl}{H:AH}(h:eQ w0 B w ι H)(o:Obj)(b:cH)(s:Nat×Nat)
  (hb:∀(ι':Pl)(R':Nat->Prop),bQ none w ι (Rd B ι H) (w.alloc o) ι' R'->(w.alloc o).heap[w.heap.size]?=some o->fh (w.alloc o) ι' R' (some w.heap.size) s b):
  eQ w0 B (w.alloc o) (ι++[(some w.heap.size,s)]) (H++[some b])/\bQ none w ι (Rd B ι H) (w.alloc o) (ι++[(some w.heap.size,s)]) (Rd B (ι++[(some w.heap.size,s)]) (H++[some b])):=by
 have iP:∀c,iV (ι++[(some w.heap.size,s)]) (H++[some b]) c->iV ι H c\/c=w.heap.size:=by
  rintro c ⟨k,b',s',h1,h2⟩
  exact Sw
 have hk:bQ none w ι (Rd B ι H) (w.alloc o) (ι++[(some w.heap.size,s)]) (Rd B (ι++[(some w.heap.size,s)]) (H++[some b])):=
  ⟨by simp,fun c hc cJ=>⟨⟨hc.1,fun ho=>by
   rcases iP c ho with ho|ho
   ·exact hc.2 ho
   ·omega⟩,heap_alloc_old w o cJ⟩,fun k c s _ hx=>XZ hx⟩
 refine⟨⟨h.gr.trans ((Below.refl _ _).alloc (nR _) _),fun b hb=>h.fut b (by simp at hb;omega),by simp[h.len],fun k b' c s' h1 h2=>?_,fun k l b1 b2 c s1 s2 h1 h2 h3 h4=>?_⟩,hk⟩
 ·rcases rN h1 with⟨hl,h1⟩|⟨rfl,e⟩
  ·rcases rN h2 with⟨nM,h2⟩|⟨e,_⟩
   ·refine⟨(h.blk k b' c s' h1 h2).1,(h.blk k b' c s' h1 h2).2.keep0 hk fun c' e=>?_⟩
    subst e;exact heap_alloc_old w o (h.lt ⟨k,b',s',h1,h2⟩)
   ·rw[h.len]at e;omega
  ·rw[<-h.len,dg]at h2
   cases h2
   cases e
   exact⟨fun c' e=>by cases e;exact .inr h.size,hb _ _ hk (heap_alloc_new w o)⟩
 ·rcases rN h1 with⟨hl,h1⟩|⟨rfl,e⟩
  ·rcases rN h3 with⟨_,h3⟩|⟨e,_⟩
   ·rcases rN h2 with⟨tW,h2⟩|⟨rfl,e⟩
    ·rcases rN h4 with⟨_,h4⟩|⟨e,_⟩
     ·exact h.inj k l b1 b2 c s1 s2 h1 h2 h3 h4
     ·rw[h.len]at e;omega
    ·rw[<-h.len,dg]at h4
     cases h4
     have:=h.lt ⟨k,b1,s1,h1,h3⟩
     omega
   ·rw[h.len]at e;omega
  ·rw[<-h.len,dg]at h3
   cases h3
   rcases rN h2 with⟨tW,h2⟩|⟨rfl,e⟩
   ·rcases rN h4 with⟨_,h4⟩|⟨e,_⟩
    ·have:=h.lt ⟨l,b2,s2,h2,h4⟩
     omega
    ·rw[h.len]at e;omega
   ·rfl
theorem z19{ι:Pl}{H:AH}{k:Nat}{b b':cH}(hk:H[k]?=some (some b))(c:Nat):iV ι (H.set k (some b')) c ↔ iV ι H c:=by
 have cJ:=(aC.1 hk).1
 constructor
 ·rintro⟨l,b1,s,h1,h2⟩
  rw[bX]at h1
  split at h1
  ·rename_i e;subst e;exact⟨k,b,s,hk,h2⟩
  ·exact⟨l,b1,s,h1,h2⟩
 ·rintro⟨l,b1,s,h1,h2⟩
  by_cases e:k=l
  ·subst e;exact⟨k,b',s,by grind,h2⟩
  ·exact⟨l,b1,s,by grind,h2⟩
theorem eQ.upd{w0:cF}{B:Nat->Prop}{w:World}{ι:Pl}{H:AH}(h:eQ w0 B w ι H){k c:Nat}{s:Nat×Nat}{b b':cH}(hk:H[k]?=some (some b))(hi:ι[k]?=some (some c,s)){w':World}
  (jd:w'.os=w.os) (pq:w'.tape=w.tape) (nL:w'.output=w.output) (dM:w'.heap.size=w.heap.size) (gi:∀d,d≠c->w'.heap[d]?=w.heap[d]?)
  (hb:∀R',bQ none w ι (Rd B ι H) w' ι R'->fh w' ι R' (some c) s b'):
  eQ w0 B w' ι (H.set k (some b'))/\bQ none w ι (Rd B ι H) w' ι (Rd B ι (H.set k (some b'))):=by
 have cJ:=(aC.1 hk).1;have iH:bQ none w ι (Rd B ι H) w' ι (Rd B ι (H.set k (some b'))):=
  ⟨by omega,fun d hd jJ=>⟨⟨hd.1,fun ho=>hd.2 ((z19 hk d).1 ho)⟩,gi d fun e=>hd.2 (e ▸ ⟨k,b,s,hk,hi⟩)⟩,fun _ _ _ _ h=>h⟩
 have hc:=h.ge ⟨k,b,s,hk,hi⟩;refine⟨⟨⟨jd.trans h.gr.os,pq.trans h.gr.tape,nL.trans h.gr.output,by have:=h.size;omega,fun d hd hx=>?_⟩,fun b hb=>h.fut b oM,by simp[h.len],fun l b1 c1 s1 h1 h2=>?_,fun l m b1 b2 c1 s1 s2 h1 h2 h3 h4=>?_⟩,iH⟩
 ·rw[gi d (fun e=>by subst e;rcases hc with h1|h1<;>first|exact hx h1|omega)];exact h.gr.block d hd hx
 ·rw[bX]at h1
  split at h1
  ·grind
  ·rename_i e;refine⟨(h.blk l b1 c1 s1 h1 h2).1,(h.blk l b1 c1 s1 h1 h2).2.keep0 iH fun c' e'=>?_⟩
   subst e';refine gi c' fun ec=>?_
   subst ec;exact e (h.inj k l b b1 _ s s1 hk h1 hi h2)
 ·have g:∀(n:Nat)(x:cH),(H.set k (some b'))[n]?=some (some x)->∃y,H[n]?=some (some y):=fun n x hn=>by
   grind
  obtain⟨y1,g1⟩:=g l b1 h1;obtain⟨y2,g2⟩:=g m b2 h2;exact h.inj l m y1 y2 c1 s1 s2 g1 g2 h3 h4
theorem vf{P:Program}(o:Obj)(w:World):(newObj o).run P w=.ok w.heap.size (w.alloc o):=rfl
section
variable{P:Program}{G:World->Prop}{T:TT}
theorem Zp(hT:gY P T){o:Oper}{t:TypeId}(ho:o.op=.alloc t){i:TI}(ht:T t=some i)(h1:i.zero.cells.toList.all (·.oneCell')=true){env:List AV}{H:AH}:
  WS P G o env H (.own H.length 0) (H++[some (.box (i.zero.cells.toList.map fun x=>.p (.v x)) t none)]) none:=by
 intro w0 B w ι ρ hR hG hρ hf;have dN:(execOp ρ o).run P w=.ok (.value (.pointer (some ⟨w.heap.size,0,none⟩))) (w.alloc (.cells i.zero.cells t)):=by
  simp only[execOp,ho,Instr.alloc,Sem.run_bind,KZ hT ht,Result.andThen_ok,newVar,newRow,vf,Sem.run_pure]
 rw[dN]
 have:=hR.push (.cells i.zero.cells t) (.box (i.zero.cells.toList.map fun x=>.p (.v x)) t none) (0,0) (fun ι' R' hk hn=>by
  refine⟨⟨rfl,fun n e=>by cases e⟩,_,_,rfl,hn,by simp,fun j a ha=>?_⟩
  rw[aH]at ha
  cases hz:i.zero.cells.toList[j]? with
  |none=>rw[hz]at ha;cases ha
  |some z=>
   rw[hz]at ha;cases ha
   exact⟨z,by simpa using hz,by grind,.p _ _ (.v _)⟩)
 exact⟨_,this.1,this.2,by rw[<-hR.len];exact .own _ 0 _ (0,0) (dg _ _)⟩
def yM:AV->Bool
 | .p (.v x)=>x.oneCell'
 | .p .e0=>true
 | .p (.ro _ _)=>true
 | .p (.rop _)=>true
 | .own _ _=>true
 | .orw _ _ _=>true
 | .osl _ _ _=>true
 |_=>false
theorem Bq{w:World}{ι:Pl}{R:Nat->Prop}{a:AV}{v:Value}(h:dD w ι R a v)(ho:yM a=true):v.oneCell'=true:=by
 cases h with
 |p x v h=>cases h<;>first|rfl|exact ho|(simp[yM]at ho)
 |_=>first|rfl|(simp[yM]at ho)
def uw(a:AV):Bool:=Bw a&&(qM a).all yM
theorem MQ{w:World}{ι:Pl}{R:Nat->Prop}{a:AV}{v:Value}(h:dD w ι R a v)(cU:uw a=true):
  (qM a).length=v.cells.size/\∀(j:Nat)(c:AV),(qM a)[j]?=some c->∃u,v.cells[j]?=some u/\u.oneCell'=true/\dD w ι R c u:=by
 unfold uw at cU;rw[gH]at cU;have h1:=Lk h cU.1;refine⟨h1.1,fun j c hc=>?_⟩
 obtain⟨u,hu,hr⟩:=h1.2 j c hc;exact⟨u,hu,Bq hr (aR.1 cU.2 c (aJ hc)),hr⟩
theorem X4{o:Oper}{t:TypeId}{x:Operand}(ho:o.op=.box t x){env:List AV}(cU:uw (bO env x)=true){H:AH}:
  WS P G o env H (.own H.length 0) (H++[some (.box (qM (bO env x)) t none)]) none:=by
 intro w0 B w ι ρ hR hG hρ hf;have hv:=hρ x oF
 have dN:(execOp ρ o).run P w=.ok (.value (.pointer (some ⟨w.heap.size,0,none⟩))) (w.alloc (.cells (ρ x).cells t)):=by
  simp only[execOp,ho,Instr.box,Sem.run_bind,Result.andThen_ok,newVar,newRow,vf,Sem.run_pure]
 rw[dN];have hc:=MQ hv cU
 have:=hR.push (.cells (ρ x).cells t) (.box (qM (bO env x)) t none) (0,0) (fun ι' R' hk hn=>by
  refine⟨⟨rfl,fun n e=>by cases e⟩,_,_,rfl,hn,hc.1.symm,fun j a ha=>?_⟩
  obtain⟨u,hu,h1,hr⟩:=hc.2 j a ha;exact⟨u,hu,h1,hr.keep0 hk⟩)
 exact⟨_,this.1,this.2,by rw[<-hR.len];exact .own _ 0 _ (0,0) (dg _ _)⟩
theorem Cu(hT:gY P T){o:Oper}{t:TypeId}{x y:Operand}(ho:o.op=.store t x y){i:TI}(ht:T t=some i){ρ:Operand->Value}{w:World}{c off:Nat}{arr:Array Value}{t':TypeId}(hx:ρ x=.pointer (some ⟨c,off,none⟩))
  (hc:w.heap[c]?=some (.cells arr t' (0,0))) (dM:(ρ y).cells.size=i.size) (hle:off+(ρ y).cells.size<=arr.size) (h1:∀v∈(ρ y).cells.toList,v.oneCell'=true):
  (execOp ρ o).run P w=.ok .skip (w.setRow c (arr.toList.take off++(ρ y).cells.toList++arr.toList.drop (off+(ρ y).cells.toList.length)).toArray):=by
 have mK:=run_storeCells_at P c off t' (ρ y).cells.toList 0 arr w hc (by simpa using hle) h1
 simp only[execOp,ho,hx,Instr.storeAt,Instr.sureAddr,storeVar,Sem.run_bind,Sem.run_pure,Result.andThen_ok,rp hT ht,dM,ne_eq,not_true_eq_false,bT];simp[mK]
theorem Db{arr:Array Value}{vs:List Value}{off m:Nat}(hle:off+vs.length<=arr.size):(arr.toList.take off++vs++arr.toList.drop (off+vs.length)).toArray[m]?=if off<=m/\m<off+vs.length then vs[m-off]? else arr[m]?:=by
 grind
theorem N6{arr:Array Value}{vs:List Value}{off:Nat}(hle:off+vs.length<=arr.size):(arr.toList.take off++vs++arr.toList.drop (off+vs.length)).toArray.size=arr.size:=by
 simp;omega
theorem Wg(hT:gY P T){o:Oper}{t:TypeId}{x y:Operand}(ho:o.op=.store t x y){i:TI}(ht:T t=some i){env:List AV}{H:AH}{k j:Nat}{cs:List AV}{t':TypeId}{g:Option Nat}
  (ex:bO env x=.own k j) (hk:H[k]?=some (some (.box cs t' g))) (cU:uw (bO env y)=true) (dM:(qM (bO env y)).length=i.size) (hle:j+i.size<=cs.length):
  WS P G o env H .junk (H.set k (some (.box (nl cs j (qM (bO env y))) t' g))) none:=by
 intro w0 B w ι ρ hR hG hρ hf;have hx:=hρ x oF
 have hy:=hρ y oF
 rw[ex]at hx;generalize hq:ρ x=vx at hx
 cases hx with
 |own _ _ c s hi=>
  obtain⟨hg,c',arr,ec,hb,iU,dB⟩:=(hR.blk k _ _ s hk hi).2
  cases ec
  have KA:=MQ hy cU;have oS:∀v∈(ρ y).cells.toList,v.oneCell'=true:=fun v hv=>by
   exact T5
  have hlen:(ρ y).cells.toList.length=(qM (bO env y)).length:=by rw[KA.1];simp
  have lj:j+(ρ y).cells.toList.length<=arr.size:=dU
  rw[Cu hT ho ht hq hb oM (by simpa using lj) oS]
  have hh:=setRow_heap w c arr (arr.toList.take j++(ρ y).cells.toList++arr.toList.drop (j+(ρ y).cells.toList.length)).toArray t' (0,0) hb
  have:=hR.upd hk hi (b':=.box (nl cs j (qM (bO env y))) t' g) (w':=w.setRow c (arr.toList.take j++(ρ y).cells.toList++arr.toList.drop (j+(ρ y).cells.toList.length)).toArray) rfl rfl rfl jT (fun d hd=>setRow_other w c d _ hd)
   (fun R' iH=>⟨hg,c,_,rfl,hh,by rw[N6 lj,HV oM];exact iU,fun m a ha=>by
    rw[Cr oM]at ha
    rw[Db lj]
    split at ha
    ·rw[aF oM]
     obtain⟨u,hu,h1,hr⟩:=KA.2 _ a ha;exact⟨u,by simpa using hu,h1,hr.keep0 iH⟩
    ·rw[aE oM]
     obtain⟨u,hu,h1,hr⟩:=dB m a ha;exact⟨u,hu,h1,hr.keep0 iH⟩⟩)
  exact⟨ι,this.1,this.2,.junk _⟩
theorem Wh(hT:gY P T){o:Oper}{t:TypeId}{x y:Operand}(ho:o.op=.store t x y){i:TI}(ht:T t=some i){env:List AV}{H:AH}{k r j s':Nat}{rs:List (List PV)}{row:List PV}{t':TypeId}{pcs:List PV}
  (ex:bO env x=.orw k r j) (hk:H[k]?=some (some (.rows s' rs t'))) (cM:rs[r]?=some row) (cU:uw (bO env y)=true) (hp:AV.toP.toPL (qM (bO env y))=some pcs) (dM:(qM (bO env y)).length=i.size) (hle:j+i.size<=row.length):
  WS P G o env H .junk (H.set k (some (.rows s' (rs.set r (nl row j pcs)) t'))) none:=by
 intro w0 B w ι ρ hR hG hρ hf;have hx:=hρ x oF
 have hy:=hρ y oF
 rw[ex]at hx;generalize hq:ρ x=vx at hx
 cases hx with
 |orw _ _ _ c s hi=>
  obtain⟨es,hl,hh⟩:=(hR.blk k _ _ s hk hi).2;subst es
  rcases hh with⟨ec,_⟩|⟨c',arr,ec,hb,hz,dB⟩
  ·cases ec
  cases ec
  have KA:=MQ hy cU;have hpg:=sn _ _ hp;have oS:∀v∈(ρ y).cells.toList,v.oneCell'=true:=fun v hv=>by
   exact T5
  have hlen:(ρ y).cells.toList.length=(qM (bO env y)).length:=by rw[KA.1];simp
  have eS:=hl r row cM;have lj:r*s.1+j+(ρ y).cells.toList.length<=arr.size:=by
   by_cases h0:row.length=0
   ·grind
   ·obtain⟨v,hv,_,_⟩:=dB r (row.length-1) row _ cM (aB oM)
    grind
  rw[Cu hT ho ht hq hb oM (by simpa using lj) oS]
  have hh:=setRow_heap w c arr (arr.toList.take (r*s.1+j)++(ρ y).cells.toList++arr.toList.drop (r*s.1+j+(ρ y).cells.toList.length)).toArray t' (0,0) hb
  have:=hR.upd hk hi (b':=.rows s.1 (rs.set r (nl row j pcs)) t') (w':=w.setRow c (arr.toList.take (r*s.1+j)++(ρ y).cells.toList++arr.toList.drop (r*s.1+j+(ρ y).cells.toList.length)).toArray) rfl rfl rfl jT (fun d hd=>setRow_other w c d _ hd)
   (fun R' iH=>by
    refine⟨rfl,fun m row2 hm=>?_,.inr ⟨c,_,rfl,hh,by grind,fun m n row2 a hm hn=>?_⟩⟩
    ·rw[bX]at hm
     split at hm
     ·split at hm
      ·cases hm
       rw[HV oM];exact eS
      ·cases hm
     ·exact hl m row2 hm
    ·rw[Db lj];have Vb:n<s.1:=by
      rw[bX]at hm
      split at hm
      ·split at hm
       ·cases hm
        have:=(aC.1 hn).1
        rw[HV oM]at this;omega
       ·cases hm
      grind
     rw[bX]at hm
     split at hm
     ·rename_i e;subst e
      split at hm
      ·cases hm
       rw[Cr oM]at hn
       split at hn
       ·rw[aF oM]
        have eD:n-j<(qM (bO env y)).length:=dU
        obtain⟨u,hu,h1,hr⟩:=KA.2 (n-j) _ (aB eD);obtain⟨p,SZ,AG⟩:=hpg.2 (n-j) _ (aB eD);rw[SZ]at hn;cases hn
        refine⟨u,?_,h1,(hr.toP _ AG).keep iH.size iH.read⟩
        grind
       ·rw[aE oM]
        obtain⟨u,hu,h1,hr⟩:=dB r n row a cM hn;exact⟨u,hu,h1,hr.keep iH.size iH.read⟩
      ·cases hm
     ·rename_i e;have eA:¬(r*s.1+j<=m*s.1+n/\m*s.1+n<r*s.1+j+(ρ y).cells.toList.length):=by
       rcases Nat.lt_or_gt_of_ne e with cJ|ji
       ·have:(r+1)*s.1<=m*s.1:=dH _ cJ
        grind
       ·have:(m+1)*s.1<=r*s.1:=dH _ ji
        grind
      rw[aE eA];obtain⟨u,hu,h1,hr⟩:=dB m n row2 a hm hn;exact⟨u,hu,h1,hr.keep iH.size iH.read⟩)
  exact⟨ι,this.1,this.2,.junk _⟩
end
def pC(p:Nat->Bool):Option cH->Option cH
 |some (.box cs t g)=>some (.box (cs.map (AV.scrub p)) t g)
 |b=>b
theorem MF{H:AH}{p:Nat->Bool}{l:Nat}{b:cH}(h:(H.map (pC p))[l]?=some (some b)):∃b0,H[l]?=some (some b0)/\b=HC (some p) b0:=by
 rw[aH]at h
 cases hl:H[l]? with
 |none=>rw[hl]at h;cases h
 |some ob=>
  rw[hl]at h
  cases ob with
  |none=>cases h
  |some b0=>
   refine⟨b0,rfl,?_⟩;simp only[eX,bV]at h
   cases b0<;>simp[pC]at h<;>exact h.symm
theorem eQ.move{w0:cF}{B:Nat->Prop}{w:World}{ι:Pl}{H:AH}(h:eQ w0 B w ι H){k:Nat}{c c':Option Nat}{s s':Nat×Nat}{b b':cH}(hk:H[k]?=some (some b))(hi:ι[k]?=some (c,s)){w':World}
  (hg:w.grownBy w' c) (qv:c'=none\/c'=c\/c'=some w.heap.size)
  (hb:∀ι' R',bQ (some (one k)) w ι (Rd B ι H) w' ι' R'->fh w' ι' R' c' s' b'):
  eQ w0 B w' (ι.set k (c',s')) ((H.map (pC (one k))).set k (some b'))/\bQ (some (one k)) w ι (Rd B ι H) w' (ι.set k (c',s')) (Rd B (ι.set k (c',s')) ((H.map (pC (one k))).set k (some b'))):=by
 have lI:k<H.length:=(aC.1 hk).1;have vJ:k<ι.length:=(aC.1 hi).1;have aU:∀(l:Nat)(x:cH),((H.map (pC (one k))).set k (some b'))[l]?=some (some x)->(l=k/\x=b')\/(l≠k/\∃x0,H[l]?=some (some x0)/\x=HC (some (one k)) x0):=by
  intro l x hx;rw[bX]at hx
  split at hx
  ·rename_i e;subst e;simp[lI]at hx;exact .inl ⟨rfl,hx.symm⟩
  ·rename_i e;exact .inr ⟨fun e'=>e e'.symm,MF hx⟩
 have tU:∀(l:Nat),l≠k->(ι.set k (c',s'))[l]?=ι[l]?:=fun l hl=>by rw[bX,aE (iQ hl)]
 have lh:(ι.set k (c',s'))[k]?=some (c',s'):=by rw[bX];simp[vJ]
 have iP:∀d,iV (ι.set k (c',s')) ((H.map (pC (one k))).set k (some b')) d->iV ι H d\/d=w.heap.size:=by
  rintro d ⟨l,x,s1,h1,h2⟩
  rcases aU l x h1 with⟨rfl,rfl⟩|⟨eA,x0,h3,_⟩
  ·rw[lh]at h2
   rcases qv with e|e|e
   ·rw[e]at h2;cases h2
   ·rw[e]at h2;refine .inl ⟨l,b,s,hk,?_⟩
    cases h2
    exact hi
   ·rw[e]at h2;cases h2;exact .inr rfl
  ·rw[tU l eA]at h2;exact .inl ⟨l,x0,s1,h3,h2⟩
 have cM:∀d,some d=c->iV ι H d:=fun d e=>⟨k,b,s,hk,by rw[hi,<- e]⟩
 have iH:bQ (some (one k)) w ι (Rd B ι H) w' (ι.set k (c',s')) (Rd B (ι.set k (c',s')) ((H.map (pC (one k))).set k (some b'))):=
  ⟨hg.size,fun d hd cJ=>⟨⟨hd.1,fun ho=>by
   rcases iP d ho with ho|ho
   ·exact hd.2 ho
   ·omega⟩,hg.block d cJ fun e=>hd.2 (cM d e)⟩,fun l x s2 hl hx=>by
   rw[tU l fun e=>by have:=hl _ rfl;rw[e,z61]at this;cases this];exact hx⟩
 refine⟨⟨⟨hg.os.trans h.gr.os,hg.tape.trans h.gr.tape,hg.output.trans h.gr.output,aS h.size hg.size,fun d hd hx=>?_⟩,fun b hb=>h.fut b (aS hg.size hb),by simp[h.len],fun l x d s1 h1 h2=>?_,fun l m x y d s1 s2 h1 h2 h3 h4=>?_⟩,iH⟩
 ·rw[hg.block d (by have:=h.size;omega) fun e=>by rcases h.ge (cM d e)with h1|h1<;>first|exact hx h1|omega]
  exact h.gr.block d hd hx
 ·rcases aU l x h1 with⟨rfl,rfl⟩|⟨eA,x0,h3,hx⟩
  ·rw[lh]at h2
   cases h2
   refine⟨fun d e=>?_,hb _ _ iH⟩
   rcases qv with e'|e'|e'
   ·rw[e']at e;cases e
   ·exact h.ge (cM d (by rw[<-e',e]))
   ·rw[e']at e;cases e;exact .inr h.size
  ·rw[tU l eA]at h2;refine⟨(h.blk l x0 d s1 h3 h2).1,?_⟩;rw[hx];refine(h.blk l x0 d s1 h3 h2).2.keep iH fun d' e=>?_
   subst e;refine hg.block d' (h.lt ⟨l,x0,s1,h3,h2⟩) fun e=>?_
   exact eA (h.inj l k x0 b d' s1 s h3 hk h2 (by rw[hi,<- e]))
 ·rcases aU l x h1 with⟨rfl,rfl⟩|⟨eA,x0,g1,_⟩
  ·rcases aU m y h2 with⟨rfl,rfl⟩|⟨xg,y0,g2,_⟩
   ·rfl
   ·rw[lh]at h3;rw[tU m xg]at h4;have hm:=h.lt ⟨m,y0,s2,g2,h4⟩
    rcases qv with e|e|e
    ·rw[e]at h3;cases h3
    ·rw[e]at h3
     cases h3
     exact h.inj l m b y0 d s s2 hk g2 hi h4
    ·rw[e]at h3
     cases h3
     omega
  ·rw[tU l eA]at h3;have hm:=h.lt ⟨l,x0,s1,g1,h3⟩
   rcases aU m y h2 with⟨rfl,rfl⟩|⟨xg,y0,g2,_⟩
   ·rw[lh]at h4
    rcases qv with e|e|e
    ·rw[e]at h4;cases h4
    ·rw[e]at h4
     cases h4
     exact h.inj l m x0 b d s1 s g1 hk h3 hi
    ·rw[e]at h4
     cases h4
     omega
   ·rw[tU m xg]at h4;exact h.inj l m x0 y0 d s1 s2 g1 g2 h3 h4
theorem z1e{rows:List (List PV)}{s:Nat}(hs:∀(i:Nat)(row:List PV),rows[i]?=some row->row.length=s){q:Nat}(hq:q<rows.length*s):
  ∃row a,rows[q/s]?=some row/\row[q%s]?=some a/\q/s*s+q%s=q:=by
 have yX:0<s:=by
  rcases qU s with h|h
  ·subst h;simp at hq
  ·exact h
 have h1:q/s<rows.length:=(Nat.div_lt_iff_lt_mul yX).2 hq;have h2:q%s<s:=Nat.mod_lt _ yX;have hr:rows[q/s]?=some rows[q/s]:=aB h1;have hl:=hs _ _ hr;exact⟨_,_,hr,aB oM,by rw[mB];exact Nat.div_add_mod q s⟩
section
variable{P:Program}{G:World->Prop}{T:TT}
structure uF(w:World)(R:Nat->Prop)(s:Nat)(rows:List (List PV))(v:Value):Prop where
 len:∀(i:Nat)(row:List PV),rows[i]?=some row->row.length=s
 at_:(∃A cap,v=.slice A 0 cap/\rows=[])\/∃(b o cap:Nat)(vs:Nat->Nat->Value),v=.slice (some ⟨b,o,none⟩) rows.length cap ∧
  (∀(i j:Nat)(row:List PV)(a:PV),rows[i]?=some row->row[j]?=some a->w.cell? ⟨b,o+(i*s+j),none⟩=some (vs i j)/\(vs i j).oneCell'=true/\cE w R a (vs i j))
theorem xeg{w:World}{R:Nat->Prop}{s:Nat}{rows:List (List PV)}{v:Value}(h:cE w R (.ro s rows) v):uF w R s rows v:=by
 cases h with
 |ro0 s A cap=>exact⟨fun i row h=>by simp at h,.inl ⟨A,cap,rfl,rfl⟩⟩
 |ro s rows b o cap vs hR hb oX hs hc hr=>exact⟨hs,.inr ⟨b,o,cap,vs,rfl,fun i j row a h1 h2=>⟨(hc i j row a h1 h2).1,(hc i j row a h1 h2).2,hr i j row a h1 h2⟩⟩⟩
theorem zn2(hT:gY P T){t ty e:TypeId}{ti te:TI}(ht:T t=some ti)(hd:ti.desc=.slice e)(he:T e=some te)
  {A A':Option Addr} {n cap cap':Nat} (hn:n<=cap) (w:World):(Builtin.append_ #[t,t] ty #[.slice A n cap,.slice A' 0 cap']).run P w=.ok (.slice A n cap) w:=by
 cases A'<;>cases A<;>simp[Builtin.append_,pV hT ht,hd,rp hT he,Builtin.lenOf,Builtin.firstCells,loadCells,loadCellsFrom,storeCells,hn]
theorem N4(hT:gY P T){t e ty:TypeId}{ti te:TI}(ht:T t=some ti)(hd:ti.desc=.slice e)(he:T e=some te)
  (hz:te.zero.cells.size=te.size) (yX:0<te.size) {H:AH} {k n:Nat} {rs:List (List PV)} (hk:H[k]?=some (some (.rows te.size rs e))) (hn:n<=rs.length)
  {rows:List (List PV)} (tC:n+rows.length<=maxLen) (zH:(n+rows.length)*te.bytes<=140737488355328)
  {w0:cF} {B:Nat->Prop} {w:World} {ι:Pl} (hR:eQ w0 B w ι H) {vx vy:Value} (hx:dD w ι (Rd B ι H) (.osl k 0 n) vx) (Af:uF w (Rd B ι H) te.size rows vy):
  ∃v' w' ι',(Builtin.append_ #[t,t] ty #[vx,vy]).run P w=.ok v' w'/\eQ w0 B w' ι' ((H.map (pC (one k))).set k (some (.rows te.size (rs.take n++rows) e))) ∧
   bQ (some (one k)) w ι (Rd B ι H) w' ι' (Rd B ι' ((H.map (pC (one k))).set k (some (.rows te.size (rs.take n++rows) e)))) ∧
   dD w' ι' (Rd B ι' ((H.map (pC (one k))).set k (some (.rows te.size (rs.take n++rows) e)))) (.osl k 0 (n+rows.length)) v':=by
 obtain⟨⟨cc,sz⟩,hi⟩:∃p,ι[k]?=some p:=by
  exact Sa
 obtain⟨qJ,xQ⟩:=hR.blk k _ cc sz hk hi;obtain⟨es,eS,zG⟩:=xQ;have ak:∀(i:Nat)(row:List PV),(rs.take n)[i]?=some row->rs[i]?=some row/\i<n:=fun i row h=>by
  rw[f9]at h
  split at h
  ·rename_i h';exact⟨h,h'⟩
  ·cases h
 have bS:(rs.take n).length=n:=by rw[uL];omega
 obtain⟨info,uJ,gp,FO,KH⟩:=info_parts (hT e te he).1.2;have Ih:P.underlying t=some (.slice e):=by rw[(hT t ti ht).1.1,hd]
 rcases Af.at_ with⟨A,cap,rfl,rfl⟩|⟨b,off,cap,vs,rfl,KB⟩
 ·
  simp only[bW,jt,cA]at tC zH ⊢;have qt:∃A0 cap0,vx=.slice A0 n cap0/\n<=cap0/\((A0=none/\n=0/\cap0=0)\/∃c0,cc=some c0/\A0=some ⟨c0,0,none⟩/\cap0<=maxLen/\sz.2=(0+cap0)*sz.1):=by
   cases hx with
   |osl0=>exact⟨none,0,rfl,nR _,.inl ⟨rfl,rfl,rfl⟩⟩
   |osl _ _ _ c0 cap0 s sX gl hm pi=>
    rw[hi]at sX;cases sX
    exact⟨some ⟨c0,0*sz.1,none⟩,cap0,rfl,gl,.inr ⟨c0,rfl,by simp,hm,pi⟩⟩
  obtain⟨A0,cap0,rfl,jU,hA⟩:=qt;have my:=zn2 (P:=P) (ty:=ty) (A:=A0) (A':=A) (cap':=cap) hT ht hd he jU w;have rF:w.grownBy w cc:=⟨rfl,rfl,rfl,nR _,fun _ _ _=>rfl⟩
  have je:=hR.move (b':=.rows te.size (rs.take n) e) (s':=sz) (c':=cc) hk hi rF (.inr (.inl rfl)) (fun ι' R' iH=>by
   refine⟨es,fun i row cM=>eS i row (ak i row cM).1,?_⟩
   rcases zG with⟨e1,e2⟩|⟨c0,arr,e1,hb,uS,dB⟩
   ·refine .inl ⟨e1,?_⟩;rw[e2];simp
   ·refine .inr ⟨c0,arr,e1,hb,uS,fun i j row a h1 h2=>?_⟩
    obtain⟨v,hv,vK,hr⟩:=dB i j row a (ak i row h1).1 h2;exact⟨v,hv,vK,hr.keep iH.size iH.read⟩)
  refine⟨_,_,_,my,je.1,je.2,?_⟩;have lh:(ι.set k (cc,sz))[k]?=some (cc,sz):=by
   have vJ:k<ι.length:=(aC.1 hi).1;rw[bX];simp[vJ]
  rcases hA with⟨rfl,rfl,rfl⟩|⟨c0,rfl,rfl,hm,pi⟩
  ·exact .osl0 k 0
  ·have:=dD.osl (w:=w) (ι:=ι.set k (some c0,sz)) (R:=Rd B (ι.set k (some c0,sz)) ((H.map (pC (one k))).set k (some (.rows te.size (rs.take n) e)))) k 0 n c0 cap0 sz lh jU hm pi
   simpa using this
 ·
  have AJ:∀q,q<rows.length*te.size->∃row a,rows[q/te.size]?=some row/\row[q%te.size]?=some a/\q/te.size*te.size+q%te.size=q:=fun q hq=>z1e Af.len hq
  have hlen:((List.range (rows.length*te.size)).map fun q=>vs (q/te.size) (q%te.size)).length=rows.length*te.size:=jT
  have gC:∀j u,((List.range (rows.length*te.size)).map fun q=>vs (q/te.size) (q%te.size))[j]?=some u->w.cell? ((⟨b,off,none⟩:Addr).add j)=some u:=by
   intro j u hj;have nN:j<rows.length*te.size:=by
    have:=(aC.1 hj).1
    exact pc
   rw[aH,ba nN]at hj
   cases hj
   obtain⟨row,a,h1,h2,h3⟩:=AJ j nN;rw[Addr.add_lit]
   have:=(KB _ _ row a h1 h2).1
   rw[h3]at this;exact this
  have oS:∀u∈(List.range (rows.length*te.size)).map (fun q=>vs (q/te.size) (q%te.size)),u.oneCell'=true:=by
   intro u hu;obtain⟨q,hq,rfl⟩:=iB.1 hu;obtain⟨row,a,h1,h2,_⟩:=AJ q (cC.1 hq);exact(KB _ _ row a h1 h2).2.1
  have TA:∃xs:List Value,w.ownsRow 0 e te.size vx n xs/\(vx.ownBlock=none\/vx.ownBlock=cc) ∧
    ∀(i j:Nat)(row:List PV)(a:PV),(rs.take n)[i]?=some row->row[j]?=some a->∃v,xs[i*te.size+j]?=some v/\v.oneCell'=true/\cE w (Rd B ι H) a v:=by
   cases hx with
   |osl0=>
    refine⟨[],World.ownsRow_nil w _ _ _,.inl rfl,fun i j row a h1 _=>?_⟩
    simp at h1
   |osl _ _ _ c0 cap0 s sX gl hm pi=>
    rw[hi]at sX;cases sX
    rcases zG with⟨e1,_⟩|⟨c1,arr,e1,hb,uS,dB⟩
    ·cases e1
    cases e1
    refine⟨arr.toList.take (n*te.size),⟨?_,.inr ⟨c0,cap0,arr,by simp,aP _,hb,gl,hm,?_,rfl⟩⟩,?_,fun i j row a h1 h2=>?_⟩
    ·rw[uL,Array.length_toList,uS,pi,<- es,cB]
     have:n*te.size<=cap0*te.size:=dH _ gl
     omega
    ·rw[uS,pi,<- es,cB]
    ·exact .inr rfl
    ·obtain⟨vK,cJ⟩:=ak i row h1;obtain⟨v,hv,h3,hr⟩:=dB i j row a vK h2;refine⟨v,?_,h3,hr⟩;have nN:j<te.size:=by
      have:=(aC.1 h2).1
      have:=eS i row vK
      omega
     have gm:i*te.size+j<n*te.size:=by
      exact S1
     rw[f9,aF gm];rw[<-es]at hv;simpa using hv
  obtain⟨xs,iP,tr,yU⟩:=TA;obtain⟨v',w',dN,TD,wC,mN,mQ⟩:=run_append_own_at (P:=P) w 0 t ty e info te.zero te.size te.bytes Ih uJ gp FO KH hz yX vx n xs iP ⟨b,off,none⟩ rows.length cap _ hlen gC oS tC zH (aP _);have rF:w.grownBy w' cc:=by
   rcases tr with tr|tr
   ·exact⟨wC.os,wC.tape,wC.output,wC.size,fun d hd _=>wC.block d hd (by rw[tr];simp)⟩
   ·rw[tr]at wC;exact wC
  have jM:xs.length=n*te.size:=iP.1
  rcases TD.2 with⟨rfl,jU⟩|⟨g,cap',cur,rfl,cq,hg,TK,dw,dB,SP⟩
  ·
   have pK:rows.length=0:=dU
   have FB:rows=[]:=aQ pK;have pM:n=0:=dU
   subst FB;subst pM;have je:=hR.move (b':=.rows te.size (rs.take 0++[]) e) (s':=sz) (c':=none) hk hi rF (.inl rfl) (fun ι' R' iH=>by
    refine⟨es,fun i row cM=>by simp at cM,.inl ⟨rfl,by simp⟩⟩)
   exact⟨_,_,_,dN,je.1,je.2,.osl0 k 0⟩
  ·have qv:some g=none\/some g=cc\/some g=some w.heap.size:=by
    rcases mQ with h1|h1
    ·change some g=vx.ownBlock at h1
     rcases tr with tr|tr
     ·rw[tr]at h1;cases h1
     ·rw[tr]at h1;exact .inr (.inl h1)
    ·exact .inr (.inr h1)
   have je:=hR.move (b':=.rows te.size (rs.take n++rows) e) (s':=(te.size,cap'*te.size)) (c':=some g) hk hi rF qv (fun ι' R' iH=>by
    refine⟨rfl,fun i row cM=>?_,.inr ⟨g,cur,rfl,hg,dB,fun i j row a h1 h2=>?_⟩⟩
    ·rcases bB i n with cJ|FV
     ·rw[cO oM]at cM
      have:=eS i row (ak i row cM).1
      rw[es];exact this
     ·rw[bM oM,bS]at cM
      exact Af.len _ row cM
    ·have jg:∀q,q<(n+rows.length)*te.size->cur[q]?=(xs++(List.range (rows.length*te.size)).map fun q=>vs (q/te.size) (q%te.size))[q]?:=by
      intro q hq;rw[<-SP,f9,aF hq];simp
     rcases bB i n with cJ|FV
     ·rw[cO oM]at h1
      have EZ:=eS i row (ak i row h1).1;have nN:j<te.size:=by
       have:=(aC.1 h2).1
       rw[es];omega
      obtain⟨v,hv,h3,hr⟩:=yU i j row a h1 h2;have hq:i*te.size+j<n*te.size:=by
       exact S1
      refine⟨v,?_,h3,hr.keep iH.size iH.read⟩;show cur[i*te.size+j]?=some v;rw[jg _ (by rw[Nat.add_mul];omega),cO (by rw[jM];exact hq)]
      exact hv
     ·rw[bM oM,bS]at h1
      have EZ:=Af.len _ row h1;have nN:j<te.size:=by
       have:=(aC.1 h2).1
       omega
      have FQ:i-n<rows.length:=(aC.1 h1).1;obtain⟨_,h3,h4⟩:=KB _ j row a h1 h2;have hq:(i-n)*te.size+j<rows.length*te.size:=by
       have:(i-n+1)*te.size<=rows.length*te.size:=dH _ FQ
       rw[B9]at this;omega
      have hie:i*te.size=n*te.size+(i-n)*te.size:=by
       rw[<-Nat.add_mul];congr 1;omega
      refine⟨vs (i-n) j,?_,h3,h4.keep iH.size iH.read⟩;show cur[i*te.size+j]?=some _;rw[jg _ (by rw[Nat.add_mul];omega),bM (by rw[jM];omega),jM]
      rw[show i*te.size+j-n*te.size=(i-n)*te.size+j by omega]
      rw[aH,ba hq];have nF:((i-n)*te.size+j)/te.size=i-n:=by
       rw[mB,Nat.mul_add_div yX,Nat.div_eq_of_lt nN];rfl
      have zE:((i-n)*te.size+j)%te.size=j:=by
       rw[mB,Nat.mul_add_mod];exact Nat.mod_eq_of_lt nN
      simp[nF,zE])
   refine⟨_,_,_,dN,je.1,je.2,?_⟩;have vJ:k<ι.length:=(aC.1 hi).1
   have:=dD.osl (w:=w') (ι:=ι.set k (some g,te.size,cap'*te.size)) (R:=Rd B (ι.set k (some g,te.size,cap'*te.size)) ((H.map (pC (one k))).set k (some (.rows te.size (rs.take n++rows) e)))) k 0 (n+rows.length) g cap' (te.size,cap'*te.size) (by rw[bX];simp[vJ]) TK dw jT
   simpa using this
theorem N9{o:Oper}{c:Call}{x y:Operand}(ho:o.op=.call c)(hc:c.callee=.builtin .append)(ha:c.args.toList=[x,y]){t:TypeId}(mQ:c.argTypes.toList=[t,t]){ρ:Operand->Value}{w w':World}{v:Value}
  (hr:(Builtin.append_ #[t,t] o.type #[ρ x,ρ y]).run P w=.ok v w'):(execOp ρ o).run P w=.ok (.value v) w':=by
 have dW:c.args=#[x,y]:=eP.1 JJ
 have qy:c.argTypes=#[t,t]:=eP.1 (by simpa using mQ)
 simp only[execOp,ho,resolve,hc,Sem.run_bind,Sem.run_pure,Result.andThen_ok,invoke,builtin,dW,qy];simp[hr]
theorem Dy{o:Oper}{c:Call}{x y:Operand}(ho:o.op=.call c)(hc:c.callee=.builtin .append)(ha:c.args.toList=[x,y]):x∈o.op.operands/\y∈o.op.operands:=by
 have dW:c.args=#[x,y]:=eP.1 JJ
 rw[ho];simp[Op.operands,Call.operands,hc,dW]
theorem zr0(hT:gY P T){o:Oper}{c:Call}{x y:Operand}(ho:o.op=.call c)(hc:c.callee=.builtin .append)(ha:c.args.toList=[x,y]){t e:TypeId}(mQ:c.argTypes.toList=[t,t]){ti te:TI}(ht:T t=some ti)(hd:ti.desc=.slice e)(he:T e=some te)
  (hz:te.zero.cells.size=te.size) (yX:0<te.size) {env:List AV} {H:AH} {k n:Nat} {rs:List (List PV)} (ex:bO env x=.osl k 0 n) (hk:H[k]?=some (some (.rows te.size rs e))) (hn:n<=rs.length)
  {rows:List (List PV)} (hy:∀(w0:cF)(B:Nat->Prop)(w:World)(ι:Pl)(v:Value),eQ w0 B w ι H->dD w ι (Rd B ι H) (bO env y) v->uF w (Rd B ι H) te.size rows v)
  (tC:n+rows.length<=maxLen) (zH:(n+rows.length)*te.bytes<=140737488355328):
  WS P G o env H (.osl k 0 (n+rows.length)) ((H.map (pC (one k))).set k (some (.rows te.size (rs.take n++rows) e))) (some (one k)):=by
 intro w0 B w ι ρ hR hG hρ hf;have hm:=Dy ho hc ha;have hx:=hρ x hm.1;rw[ex]at hx;obtain⟨v',w',ι',h1,h2,h3,h4⟩:=N4 (P:=P) (ty:=o.type) hT ht hd he hz yX hk hn tC zH hR hx (hy w0 B w ι (ρ y) hR (hρ y hm.2));rw[N9 ho hc ha mQ h1];exact⟨ι',h2,h3,h4⟩
theorem eQ.ghost{w0:cF}{B:Nat->Prop}{w:World}{ι:Pl}{H:AH}(h:eQ w0 B w ι H)(s:Nat)(t:TypeId):
  eQ w0 B w (ι++[(none,s,0)]) (H++[some (.rows s [] t)])/\bQ none w ι (Rd B ι H) w (ι++[(none,s,0)]) (Rd B (ι++[(none,s,0)]) (H++[some (.rows s [] t)])):=by
 have iP:∀c,iV (ι++[(none,s,0)]) (H++[some (.rows s [] t)]) c->iV ι H c:=by
  rintro c ⟨k,b',s',h1,h2⟩
  rcases rN h2 with⟨nM,h2⟩|⟨_,e⟩
  ·rcases rN h1 with⟨hl,h1⟩|⟨e,_⟩
   ·exact⟨k,b',s',h1,h2⟩
   ·rw[h.len]at nM;omega
  ·cases e
 have hk:bQ none w ι (Rd B ι H) w (ι++[(none,s,0)]) (Rd B (ι++[(none,s,0)]) (H++[some (.rows s [] t)])):=
  ⟨nR _,fun c hc cJ=>⟨⟨hc.1,fun ho=>hc.2 (iP c ho)⟩,rfl⟩,fun k c s _ hx=>XZ hx⟩
 refine⟨⟨h.gr,h.fut,by simp[h.len],fun k b' c s' h1 h2=>?_,fun k l b1 b2 c s1 s2 h1 h2 h3 h4=>?_⟩,hk⟩
 ·rcases rN h1 with⟨hl,h1⟩|⟨rfl,e⟩
  ·rcases rN h2 with⟨nM,h2⟩|⟨e,_⟩
   ·exact⟨(h.blk k b' c s' h1 h2).1,(h.blk k b' c s' h1 h2).2.keep0 hk fun c' e=>rfl⟩
   ·rw[h.len]at e;omega
  ·rw[<-h.len,dg]at h2
   cases h2
   cases e
   exact⟨(fun c' e=>by cases e),rfl,(fun i row h=>by simp at h),.inl ⟨rfl,rfl⟩⟩
 ·rcases rN h3 with⟨J1,h3⟩|⟨_,e⟩
  ·rcases rN h4 with⟨FL,h4⟩|⟨_,e⟩
   ·rcases rN h1 with⟨_,h1⟩|⟨e,_⟩
    ·rcases rN h2 with⟨_,h2⟩|⟨e,_⟩
     ·exact h.inj k l b1 b2 c s1 s2 h1 h2 h3 h4
     ·rw[h.len]at FL;omega
    ·rw[h.len]at J1;omega
   ·cases e
  ·cases e
theorem uF.keep{w w':World}{R R':Nat->Prop}{s:Nat}{rows:List (List PV)}{v:Value}(h:uF w R s rows v)(hw:w'=w)(hR:∀b,R b->R' b):uF w' R' s rows v:=by
 subst hw;refine⟨h.len,?_⟩
 rcases h.at_ with h1|⟨b,o,cap,vs,e,h1⟩
 ·exact .inl h1
 ·exact .inr ⟨b,o,cap,vs,e,fun i j row a h2 h3=>⟨(h1 i j row a h2 h3).1,(h1 i j row a h2 h3).2.1,(h1 i j row a h2 h3).2.2.keep (nR _) fun b hb _=>⟨hR b hb,rfl⟩⟩⟩
theorem Yr(hT:gY P T){o:Oper}{c:Call}{x y:Operand}(ho:o.op=.call c)(hc:c.callee=.builtin .append)(ha:c.args.toList=[x,y]){t e:TypeId}(mQ:c.argTypes.toList=[t,t]){ti te:TI}(ht:T t=some ti)(hd:ti.desc=.slice e)(he:T e=some te)
  (hz:te.zero.cells.size=te.size) (yX:0<te.size) {env:List AV} {H:AH} (ex:bO env x=.p (.v (.slice none 0 0)))
  {rows:List (List PV)} (hy:∀(w0:cF)(B:Nat->Prop)(w:World)(ι:Pl)(v:Value),eQ w0 B w ι H->dD w ι (Rd B ι H) (bO env y) v->uF w (Rd B ι H) te.size rows v)
  (tC:rows.length<=maxLen) (zH:rows.length*te.bytes<=140737488355328):
  WS P G o env H (.osl H.length 0 rows.length) (((H++[some (cH.rows te.size [] e)]).map (pC (one H.length))).set H.length (some (cH.rows te.size rows e))) none:=by
 intro w0 B w ι ρ hR hG hρ hf;have hm:=Dy ho hc ha;have hx:=hρ x hm.1;rw[ex]at hx;have Aj:=jS hx;have hg:=hR.ghost te.size e;have tS:=(hy w0 B w ι (ρ y) hR (hρ y hm.2)).keep (w':=w) (R':=Rd B (ι++[(none,te.size,0)]) (H++[some (cH.rows te.size [] e)])) rfl (fun b hb=>⟨hb.1,fun ho=>hb.2 (by
  obtain⟨k,b',s',h1,h2⟩:=ho
  rcases rN h2 with⟨nM,h2⟩|⟨_,e⟩
  ·rcases rN h1 with⟨hl,h1⟩|⟨e,_⟩
   ·exact⟨k,b',s',h1,h2⟩
   ·rw[hR.len]at nM;omega
  ·cases e)⟩)
 have EQ:dD w (ι++[(none,te.size,0)]) (Rd B (ι++[(none,te.size,0)]) (H++[some (cH.rows te.size [] e)])) (.osl H.length 0 0) (ρ x):=by rw[Aj];exact .osl0 _ _
 obtain⟨v',w',ι',h1,h2,h3,h4⟩:=N4 (P:=P) (ty:=o.type) hT ht hd he hz yX (n:=0) (rs:=[]) (dg _ _) (nR _) (by simpa using tC) (by simpa using zH) hg.1 EQ tS
 rw[N9 ho hc ha mQ h1];simp only[List.take_nil,sR,cB]at h2 h3 h4;refine⟨ι',h2,⟨h3.size,fun b hb cJ=>?_,fun k c2 p _ hp=>?_⟩,h4⟩
 ·exact h3.read b (hg.2.read b hb cJ).1 cJ
 ·refine h3.place k c2 p (fun q e=>?_) (XZ hp)
  cases e
  have:=(aC.1 hp).1
  rw[hR.len]at this;exact xf7 oM
end
def yh(s:Nat):Nat->List AV->Option (List (List PV))
 |0,_=>some []
 |n+1,cs=>match AV.toP.toPL (cs.take s),yh s n (cs.drop s)with
  |some r,some rs=>some (r::rs)
  |_,_=>none
theorem XN(s:Nat):∀(n:Nat)(cs:List AV)(rs:List (List PV)),yh s n cs=some rs->cs.length=n*s->rs.length=n/\∀(i:Nat)(row:List PV),rs[i]?=some row->row.length=s/\∀(j:Nat)(a:PV),row[j]?=some a->∃c,cs[i*s+j]?=some c/\c.toP=some a
 |0,cs,rs,h,_=>by simp[yh]at h;subst h;simp
 |n+1,cs,rs,h,hl=>by
  unfold yh at h
  split at h
  ·rename_i r rs' h1 h2
   cases h
   rw[B9]at hl;have ih:=XN s n (cs.drop s) rs' h2 aZ
   have hg:=sn _ _ h1;refine⟨by simp[ih.1],fun i row cM=>?_⟩
   cases i with
   |zero=>
    simp at cM;subst cM;refine⟨by grind,fun j a ha=>?_⟩
    have nN:j<(cs.take s).length:=aZ
    obtain⟨x,hx,KO⟩:=hg.2 j _ (aB nN)
    grind
   |succ i=>
    grind
  ·cases h
section
variable{P:Program}{G:World->Prop}{T:TT}
theorem zmn(hT:gY P T){o:Oper}{t e:TypeId}{len:Nat}{parts:Array (Nat×Operand)}(ho:o.op=.buildSlice t len parts){ti te:TI}(ht:T t=some ti)(hd:ti.desc=.slice e)(he:T e=some te)(yX:0<te.size)(yY:len*te.size<=16777216)
  {env:List AV} {H:AH} {cs:List AV} (h:fi (fun i=>some (i*te.size,te.size)) ((List.range (len*te.size)).map fun m=>.p (.v (te.zero.cells[m%te.zero.cells.size]!))) (parts.toList.map fun(n,x)=>(n,bO env x))=some cs)
  (oS:cs.all yM=true) {rs:List (List PV)} (dQ:yh te.size len cs=some rs):WS P G o env H (.osl H.length 0 len) (H++[some (.rows te.size rs e)]) none:=by
 intro w0 B w ι ρ hR hG hρ hf;have oQ:∀(n:Nat)(x:Operand),(n,x)∈parts.toList->dD w ι (Rd B ι H) (bO env x) (ρ x):=fun n x hx=>hρ x (by
  rw[ho];simp only[Op.operands]
  grind)
 have vY:∀l:List (Nat×Operand),(∀n x,(n,x)∈l->dD w ι (Rd B ι H) (bO env x) (ρ x))->LO w ι (Rd B ι H) (l.map fun(n,x)=>(n,bO env x)) (l.map fun(n,x)=>(n,ρ x)):=by
  exact Ho
 obtain⟨arr',h1,h2,h3⟩:=XW (w:=w) (ι:=ι) (R:=Rd B ι H) _ _ _ cs ((Array.range (len*te.size)).map (te.zero.cells[· % te.zero.cells.size]!)) (vY parts.toList oQ) h jT (fun j a ha=>by
  exact Sv)
 have dN:(execOp ρ o).run P w=.ok (.value (.slice (some ⟨w.heap.size,0,none⟩) len len)) (w.alloc (.cells arr' e)):=by
  have e1:(parts.map fun(p:Nat×Operand)=>(p.1,ρ p.2)).toList=parts.toList.map fun(n,x)=>(n,ρ x):=jT
  have qd:¬(len*te.size>2 ^ 24):=by
   omega
  simp only[execOp,ho,Instr.buildSlice,Sem.run_bind,pV hT ht,Result.andThen_ok,hd,rp hT he,qd,bT];rw[show(parts.map fun x=>match x with|(i,x)=>(i,ρ x))=parts.map fun(p:Nat×Operand)=>(p.1,ρ p.2)from rfl,e1]
  by_cases h0:len*te.size=0
  ·have e3:((Array.range (len*te.size)).map fun x=>(#[]:Array Value)[x%(#[]:Array Value).size]!)=(Array.range (len*te.size)).map (te.zero.cells[· % te.zero.cells.size]!):=by rw[h0];simp
   rw[aF h0];simp only[Sem.run_pure,Result.andThen_ok,Sem.run_bind,e3,h1,newRow,vf]
  ·rw[aE h0];simp only[Sem.run_pure,Result.andThen_ok,Sem.run_bind,KZ hT he,h1,newRow,vf]
 rw[dN];have eD:cs.length=len*te.size:=by
  rw[h2];have hf:∀(parts:List (Nat×AV))(cells cs':List AV),fi (fun i=>some (i*te.size,te.size)) cells parts=some cs'->cs'.length=cells.length:=by
   intro parts
   induction parts with
   |nil=>intro cells cs' h;simp[fi]at h;rw[h]
   |cons p ps ih=>
    intro cells cs' h;unfold fi at h;simp only at h
    split at h
    ·rw[ih _ _ h,HV oM]
    ·cases h
  grind
 have ay:=XN te.size len cs rs dQ eD
 have:=hR.push (.cells arr' e) (.rows te.size rs e) (te.size,arr'.size) (fun ι' R' hk hn=>by
  refine⟨rfl,fun i row cM=>(ay.2 i row cM).1,.inr ⟨_,_,rfl,hn,rfl,fun i j row a cM ha=>?_⟩⟩
  obtain⟨c,hc,KM⟩:=(ay.2 i row cM).2 j a ha;obtain⟨u,hu,hr⟩:=h3 _ c hc;exact⟨u,hu,Bq hr (aR.1 oS c (aJ hc)),(hr.toP _ KM).keep hk.size hk.read⟩)
 refine⟨_,this.1,this.2,?_⟩;have Ar:len<=maxLen:=by
  have:len*1<=len*te.size:=Nat.mul_le_mul_left _ yX
  unfold maxLen;omega
 have hr:=dD.osl (w:=w.alloc (.cells arr' e)) (ι:=ι++[(some w.heap.size,te.size,arr'.size)]) (R:=Rd B (ι++[(some w.heap.size,te.size,arr'.size)]) (H++[some (cH.rows te.size rs e)])) ι.length 0 len w.heap.size len (te.size,arr'.size) (dg _ _) (nR _) Ar (by simp[<-h2,eD])
 rw[<-hR.len];simpa using hr
theorem zm8(hT:gY P T){o:Oper}{t e:TypeId}{x y:Operand}(ho:o.op=.makeSlice t x y){ti te:TI}(ht:T t=some ti)(hd:ti.desc=.slice e)(he:T e=some te){kz:IntKind}{z:Int}(hz:te.zero=.int kz z)(hs:te.size=1)
  {env:List AV} {H:AH} {kx ky:IntKind} {n:Int} (ex:bO env x=.p (.v (.int kx n))) (ey:bO env y=.p (.v (.int ky n))) (h0:0<=n) (tC:n.toNat<=maxLen) (hb:te.bytes*n.toNat<=281474976710656):
  WS P G o env H (.osl H.length 0 n.toNat) (H++[some (.rows 1 (List.replicate n.toNat [.v (.int kz z)]) e)]) none:=by
 intro w0 B w ι ρ hR hG hρ hf;have hx:ρ x=.int kx n:=jS (x:=.int kx n) (by
  have:=hρ x oF
  rw[ex]at this;exact this)
 have hy:ρ y=.int ky n:=jS (x:=.int ky n) (by
  have:=hρ y oF
  rw[ey]at this;exact this)
 obtain⟨info,uJ,gp,FO,KH⟩:=info_parts (hT e te he).1.2;have KC:P.underlying t=some (.slice e):=by have:=(hT t ti ht).1.1;grind
 have n8:(info.bytes:Int)*n<=281474976710656:=by
  grind
 have hm:=run_make (P:=P) w t e info te.zero KC uJ gp kx ky n n h0 (bU _) n8 (by unfold maxLen at tC;omega)
 have dN:(execOp ρ o).run P w=.ok (.value (.slice (some ⟨w.heap.size,0,none⟩) n.toNat n.toNat)) (w.alloc (.cells (madeCells te.zero.cells (n.toNat*info.size)) e)):=by
  simp only[execOp,ho,hx,hy,Sem.run_bind,hm,Result.andThen_ok,Sem.run_pure]
 rw[FO,hs,Nat.mul_one,hz]at dN;rw[dN];have hcz:(Value.int kz z).cells=#[Value.int kz z]:=rfl;rw[hcz];have aU:∀i,i<n.toNat->(madeCells #[Value.int kz z] n.toNat)[i]?=some (.int kz z):=fun i hi=>by
  unfold madeCells;simp[hi,Nat.mod_one]
 have:=hR.push (.cells (madeCells #[Value.int kz z] n.toNat) e) (.rows 1 (List.replicate n.toNat [.v (.int kz z)]) e) (1,n.toNat) (fun ι' R' hk hn=>by
  refine⟨rfl,fun i row cM=>?_,.inr ⟨_,_,rfl,hn,size_madeCells _ _,fun i j row a cM ha=>?_⟩⟩
  ·grind
  ·have j9:=List.getElem?_replicate (a:=[PV.v (.int kz z)]) (n:=n.toNat) (i:=i);rw[cM]at j9
   split at j9
   ·rename_i hi
    cases j9
    cases j with
    |zero=>simp at ha;subst ha;exact⟨_,by simpa using aU i hi,rfl,.v _⟩
    |succ j=>simp at ha
   ·cases j9)
 refine⟨_,this.1,this.2,?_⟩;have hr:=dD.osl (w:=w.alloc (.cells (madeCells #[Value.int kz z] n.toNat) e)) (ι:=ι++[(some w.heap.size,1,n.toNat)]) (R:=Rd B (ι++[(some w.heap.size,1,n.toNat)]) (H++[some (cH.rows 1 (List.replicate n.toNat [.v (.int kz z)]) e)])) ι.length 0 n.toNat w.heap.size n.toNat (1,n.toNat) (dg _ _) (nR _) tC jT
 rw[<-hR.len];simpa using hr
theorem Zg(hT:gY P T){o:Oper}{t:TypeId}{x:Operand}(ho:o.op=.range t x){ti:TI}(ht:T t=some ti)(hd:ti.desc=.string){env:List AV}{H:AH}{s:ByteArray}(ex:bO env x=.p (.v (.string s))):
  WS P G o env H (.own H.length 0) (H++[some (.iter s 0)]) none:=by
 intro w0 B w ι ρ hR hG hρ hf;have hx:=hρ x oF
 rw[ex]at hx;have dN:(execOp ρ o).run P w=.ok (.value (.pointer (some ⟨w.heap.size,0,none⟩))) (w.alloc (.stringIter s 0)):=by
  simp only[execOp,ho,jS hx,Instr.range,Sem.run_bind,pV hT ht,Result.andThen_ok,hd,Sem.run_pure,vf]
 rw[dN]
 have:=hR.push (.stringIter s 0) (.iter s 0) (0,0) (fun ι' R' hk hn=>⟨_,rfl,hn⟩)
 exact⟨_,this.1,this.2,by rw[<-hR.len];exact .own _ 0 _ (0,0) (dg _ _)⟩
theorem X7{o:Oper}{x:Operand}(ho:o.op=.next x true){env:List AV}{H:AH}{k:Nat}{s:ByteArray}{pos:Nat}(ex:bO env x=.own k 0)(hk:H[k]?=some (some (.iter s pos)))(hp:pos<s.size):
  WS P G o env H (.p (.tup [.v (.bool true),.v (.int .i64 pos),.v (.int .i32 (Utf8.decode s pos).1)])) (H.set k (some (.iter s (pos+(Utf8.decode s pos).2)))) none:=by
 intro w0 B w ι ρ hR hG hρ hf;have hx:=hρ x oF
 rw[ex]at hx;generalize hq:ρ x=vx at hx
 cases hx with
 |own _ _ c sz hi=>
  obtain⟨c',ec,hb⟩:=(hR.blk k _ _ sz hk hi).2
  cases ec
  have dN:(execOp ρ o).run P w=.ok (.value (.tuple #[.bool true,.int .i64 pos,.int .i32 (Utf8.decode s pos).1])) { w with heap:=w.heap.setIfInBounds c (.stringIter s (pos+(Utf8.decode s pos).2)) }:=by
   simp[execOp,ho,hq,Instr.next,getObj,setObj,Sem.run,hb,hp,goInt]
  rw[dN];have cJ:=md hb
  have:=hR.upd hk hi (b':=.iter s (pos+(Utf8.decode s pos).2)) (w':={ w with heap:=w.heap.setIfInBounds c (.stringIter s (pos+(Utf8.decode s pos).2)) }) rfl rfl rfl jT (fun d hd=>by grind)
   (fun R' iH=>⟨c,rfl,by simp[cJ]⟩)
  refine⟨ι,this.1,this.2,.p _ _ ?_⟩;refine cE.tup [.v (.bool true),.v (.int .i64 pos),.v (.int .i32 (Utf8.decode s pos).1)] [.bool true,.int .i64 pos,.int .i32 (Utf8.decode s pos).1] rfl fun j a v ha hv=>?_
  rcases j with _|_|_|j
  ·simp at ha hv;subst ha;subst hv;exact .v _
  ·simp at ha hv;subst ha;subst hv;exact .v _
  ·simp at ha hv;subst ha;subst hv;exact .v _
  ·simp at ha
theorem z4w{o:Oper}{x:Operand}(ho:o.op=.next x true){env:List AV}{H:AH}{k:Nat}{s:ByteArray}{pos:Nat}(ex:bO env x=.own k 0)(hk:H[k]?=some (some (.iter s pos)))(hp:¬pos<s.size):
  WS P G o env H (.p (.tup [.v (.bool false)])) H none:=by
 intro w0 B w ι ρ hR hG hρ hf;have hx:=hρ x oF
 rw[ex]at hx;generalize hq:ρ x=vx at hx
 cases hx with
 |own _ _ c sz hi=>
  obtain⟨c',ec,hb⟩:=(hR.blk k _ _ sz hk hi).2
  cases ec
  have dN:(execOp ρ o).run P w=.ok (.value (.tuple #[.bool false])) w:=by
   simp[execOp,ho,hq,Instr.next,getObj,Sem.run,hb,hp]
  rw[dN];refine⟨ι,hR,⟨nR _,fun b hb _=>⟨hb,rfl⟩,fun _ _ _ _ h=>h⟩,.p _ _ ?_⟩
  refine cE.tup [.v (.bool false)] [.bool false] rfl fun j a v ha hv=>?_
  rcases j with _|j
  ·simp at ha hv;subst ha;subst hv;exact .v _
  ·simp at ha
end
section
variable{P:Program}{ops:Array Oper}{Q:Exit->Act->World->Prop}
theorem z0g(J:Array Bool->Act->World->Prop)(k r:Nat)(hB:ov ops k r=true)(hk:k<=ops.size)
  (sG:∀(listed:Array Bool)(a:Act)(w:World)(i:Nat)(o:Oper),J listed a w->listed.size=ops.size->(∀d∈jG ops i,listed.getD d false=true)->ops[i]?=some o->i<k->listed.getD i false=false →
   (if Region.wanted o (so ops a.eval)then a7 P (fun v w'=>J (listed.setIfInBounds i true) (a.put o.dst v) w') ((execOp a.eval o).run P w)else J (listed.setIfInBounds i true) (a.put o.dst undef) w))
  (lW:∀(listed:Array Bool)(a:Act)(w:World),J listed a w->(∀i,i<k->listed.getD i false=true)->wpList P ops Q (ops.toList.drop k) a w):
  ∀(m:Nat)(listed:Array Bool)(a:Act)(w:World),J listed a w->listed.size=ops.size->(∀i,listed.getD i false=true->∀d∈jG ops i,listed.getD d false=true)->(∀i,k<=i->listed.getD i false=false) →
   ((List.range k).filter fun i=>!listed.getD i false).length=m->wpAny P .any ops Q (m+(ops.size-k)) listed a w:=by
 simp only[ov,gH,p9,PP,bF,bG,List.contains_iff_mem]at hB;obtain⟨⟨W5,hB2⟩,hB3⟩:=hB;have gO:∀i d,d∈jG ops i->d<i:=fun i d hd=>by
  exact S7
 have yF:∀j,k<=j->j<ops.size->∀i,i<j->i∈HX ops r (jG ops j):=fun j Ve hj i hi=>by
  grind
 intro m
 induction m with
 |zero=>
  intro listed a w hJ sW eD hu hm;have dX:∀i,i<k->listed.getD i false=true:=fun i hi=>by
   simp_all
  exact N7 gO r k yF (ops.size-k) k listed a w (nR _) oM sW dX (fun i h1 _=>hu i h1) eD (lW listed a w hJ dX) _ oM
 |succ m ih=>
  intro listed a w hJ sW eD hu hm;obtain⟨i0,iF,wx⟩:∃i,i<k/\listed.getD i false=false:=by
   exact U0
  have J9:m+1+(ops.size-k)=(m+(ops.size-k))+1:=dU
  rw[J9];refine⟨fun h0=>?_,fun i hi=>?_⟩
  ·obtain⟨i,_,hi⟩:=Dz gO sW i0 i0 (nR _) oM wx
   grind
  ·obtain⟨nX,o,ho,_⟩:=mem_ready.1 hi;have TZ:=(jB.1 ho).1;obtain⟨ET,vJ⟩:=IL nX;have jH:i<k:=by
    exact S8
   have hs:=sG listed a w i o hJ sW (CR hi) ho jH ET;have wI:((List.range k).filter fun x=>!(listed.setIfInBounds i true).getD x false).length=m:=by
    exact U5
   have EV:∀x,k<=x->(listed.setIfInBounds i true).getD x false=false:=fun x hx=>by
    rw[getD_set_ne false oM];exact hu x hx
   have qq:∀x,(listed.setIfInBounds i true).getD x false=true->∀d∈jG ops x,(listed.setIfInBounds i true).getD d false=true:=fun x hx d hd=>by
    exact So
   unfold wpOp;simp only[ho];rw[MN]
   split
   ·rename_i hw;rw[aF hw]at hs;exact .inl (Dq hs fun v w' hv=>ih _ _ _ hv EE qq EV wI)
   ·rename_i hw;rw[aE hw]at hs;exact ih _ _ _ hs EE qq EV wI
theorem Na{id:Nat}{l:List Oper}{a:Act}{w:World}(k r:Nat)(J:Array Bool->Act->World->Prop)
  (hm:P.follows .mixedOrders=true) (hB:ov l.toArray k r=true) (hk:k<=l.length) (h0:J (Array.replicate l.length false) a w.drew)
  (sG:∀(listed:Array Bool)(a:Act)(w:World)(i:Nat)(o:Oper),J listed a w->listed.size=l.length->(∀d∈jG l.toArray i,listed.getD d false=true)->l[i]?=some o->i<k->listed.getD i false=false →
   (if Region.wanted o (so l.toArray a.eval)then a7 P (fun v w'=>J (listed.setIfInBounds i true) (a.put o.dst v) w') ((execOp a.eval o).run P w)else J (listed.setIfInBounds i true) (a.put o.dst undef) w))
  (lW:∀(listed:Array Bool)(a:Act)(w:World),J listed a w->(∀i,i<k->listed.getD i false=true)->wpList P l.toArray Q (l.drop k) a w):
  (Code.region id l.toArray true).wp P Q a w:=by
 refine wp_region_any hm ?_;have rE:∀n i,(Array.replicate n false).getD i false=false:=fun n i=>by
  by_cases h:i<n<;>simp[h]
 have dM:l.toArray.size=k+(l.toArray.size-k):=wb
 have x4:l.toArray.size=l.length:=jT
 have dX:=z0g (P:=P) (ops:=l.toArray) (Q:=Q) J k r hB zo (fun listed a w i o hJ sW hd ho jH nX=>sG listed a w i o hJ EE hd RC jH nX) (fun listed a w hJ hl=>by grind)
  k (Array.replicate l.length false) a w.drew h0 jT (fun i h=>by rw[rE]at h;cases h) (fun i _=>rE _ i) (by
   exact Si)
 simp_all
end
theorem Jy{s:ByteArray}{i:Nat}{row:List PV}(h:(nD s)[i]?=some row):∃b:UInt8,s.data.toList[i]?=some b/\row=[.v (.int .u8 (b.toNat:Nat))]:=by
 unfold nD at h
 grind
theorem Jz(s:ByteArray):(nD s).length=s.size:=by
 simp only[nD,tc,Array.length_toList];rfl
section
variable{P:Program}{G:World->Prop}{T:TT}
theorem zm9(hT:gY P T){t u e ty:TypeId}{ti ui te:TI}(ht:T t=some ti)(hd:ti.desc=.slice e)(hu:T u=some ui)(SM:ui.desc=.string)(he:T e=some te)
  (hz:te.zero=.int .u8 0) (wV:te.size=1) (dG:te.bytes=1) {H:AH} {k n:Nat} {rs:List (List PV)} (hk:H[k]?=some (some (.rows 1 rs e))) (hn:n<=rs.length)
  {s:ByteArray} (tC:n+s.size<=maxLen) (zH:n+s.size<=140737488355328)
  {w0:cF} {B:Nat->Prop} {w:World} {ι:Pl} (hR:eQ w0 B w ι H) {vx:Value} (hx:dD w ι (Rd B ι H) (.osl k 0 n) vx):
  ∃v' w' ι',(Builtin.append_ #[t,u] ty #[vx,.string s]).run P w=.ok v' w'/\eQ w0 B w' ι' ((H.map (pC (one k))).set k (some (.rows 1 (rs.take n++nD s) e))) ∧
   bQ (some (one k)) w ι (Rd B ι H) w' ι' (Rd B ι' ((H.map (pC (one k))).set k (some (.rows 1 (rs.take n++nD s) e)))) ∧
   dD w' ι' (Rd B ι' ((H.map (pC (one k))).set k (some (.rows 1 (rs.take n++nD s) e)))) (.osl k 0 (n+s.size)) v':=by
 obtain⟨⟨cc,sz⟩,hi⟩:∃p,ι[k]?=some p:=by
  exact Sa
 have vJ:k<ι.length:=(aC.1 hi).1;obtain⟨qJ,es,eS,zG⟩:=hR.blk k _ cc sz hk hi;obtain⟨info,uJ,gp,FO,KH⟩:=info_parts (hT e te he).1.2;have KC:P.underlying t=some (.slice e):=by rw[(hT t ti ht).1.1,hd]
 have Ak:P.underlying u=some .string:=by rw[(hT u ui hu).1.1,SM]
 rw[hz]at gp;rw[wV]at FO;rw[dG]at KH;have bS:(rs.take n).length=n:=aZ
 have ak:∀(i:Nat)(row:List PV),(rs.take n)[i]?=some row->rs[i]?=some row/\i<n:=fun i row h=>by
  grind
 have pt:(Lib.strCells s).length=s.size:=Lib.strCells_length s;have qQ:∀(i:Nat)(row:List PV),(rs.take n++nD s)[i]?=some row->row.length=1:=fun i row h=>by
  rcases bB i n with cJ|FV
  ·grind
  ·rw[bM oM]at h
   obtain⟨b,_,rfl⟩:=Jy h;rfl
 have fin:∀(xs:List Value)(w':World)(g cap':Nat)(cur:Array Value),xs.length=n →
   (∀(i j:Nat)(row:List PV)(a:PV),(rs.take n)[i]?=some row->row[j]?=some a->∃v,xs[i]?=some v/\v.oneCell'=true/\cE w (Rd B ι H) a v) →
   w.grownBy w' cc->(some g=none\/some g=cc\/some g=some w.heap.size)->w'.heap[g]?=some (.cells cur e (0,0))->n+s.size<=cap'->cap'<=maxLen->cur.size=cap' →
   (∀q,q<n+s.size->cur[q]?=(xs++Lib.strCells s)[q]?) →
   eQ w0 B w' (ι.set k (some g,(1,cap'))) ((H.map (pC (one k))).set k (some (.rows 1 (rs.take n++nD s) e))) ∧
   bQ (some (one k)) w ι (Rd B ι H) w' (ι.set k (some g,(1,cap'))) (Rd B (ι.set k (some g,(1,cap'))) ((H.map (pC (one k))).set k (some (.rows 1 (rs.take n++nD s) e)))) ∧
   dD w' (ι.set k (some g,(1,cap'))) (Rd B (ι.set k (some g,(1,cap'))) ((H.map (pC (one k))).set k (some (.rows 1 (rs.take n++nD s) e)))) (.osl k 0 (n+s.size)) (.slice (some ⟨g,0,none⟩) (n+s.size) cap'):=by
  intro xs w' g cap' cur jM yU rF qv hg TK dw dB jg;have je:=hR.move (b':=.rows 1 (rs.take n++nD s) e) (s':=(1,cap')) (c':=some g) hk hi rF qv (fun ι' R' iH=>by
   refine⟨rfl,qQ,.inr ⟨g,cur,rfl,hg,dB,fun i j row a h1 h2=>?_⟩⟩
   have xo:j=0:=by
    grind
   subst xo;have FQ:i<n+s.size:=by
    have:=(aC.1 h1).1
    rw[sE,bS,Jz]at this;exact this
   rw[show i*1+0=i by omega,jg i FQ]
   rcases bB i n with cJ|FV
   ·rw[cO oM]at h1
    obtain⟨v,hv,h3,hr⟩:=yU i 0 row a h1 h2;exact⟨v,by grind,h3,hr.keep iH.size iH.read⟩
   ·rw[bM oM,bS]at h1
    obtain⟨b,hb,rfl⟩:=Jy h1;simp at h2;subst h2;refine⟨.int .u8 (b.toNat:Nat),?_,rfl,.v _⟩;rw[bM oM,jM]
    simp only[Lib.strCells,aH,hb,eX])
  refine⟨je.1,je.2,?_⟩
  have:=dD.osl (w:=w') (ι:=ι.set k (some g,(1,cap'))) (R:=Rd B (ι.set k (some g,(1,cap'))) ((H.map (pC (one k))).set k (some (.rows 1 (rs.take n++nD s) e)))) k 0 (n+s.size) g cap' (1,cap') aZ TK dw jT
  simpa using this
 have grown:∀(xs:List Value)(old:Nat),xs.length=n->old<n+s.size →
   (∀(i j:Nat)(row:List PV)(a:PV),(rs.take n)[i]?=some row->row[j]?=some a->∃v,xs[i]?=some v/\v.oneCell'=true/\cE w (Rd B ι H) a v) →
   (Builtin.append_ #[t,u] ty #[vx,.string s]).run P w=.ok (.slice (some ⟨w.heap.size,0,none⟩) (n+s.size) (grownCap w (n+s.size) old e)) (w.drew.alloc (.cells (xs.toArray++(Lib.strCells s).toArray++Builtin.zeroCells (Value.int .u8 0).cells (grownCap w (n+s.size) old e-(n+s.size))) e)) →
   ∃v' w' ι',(Builtin.append_ #[t,u] ty #[vx,.string s]).run P w=.ok v' w'/\eQ w0 B w' ι' ((H.map (pC (one k))).set k (some (.rows 1 (rs.take n++nD s) e))) ∧
   bQ (some (one k)) w ι (Rd B ι H) w' ι' (Rd B ι' ((H.map (pC (one k))).set k (some (.rows 1 (rs.take n++nD s) e)))) ∧
   dD w' ι' (Rd B ι' ((H.map (pC (one k))).set k (some (.rows 1 (rs.take n++nD s) e)))) (.osl k 0 (n+s.size)) v':=by
  intro xs old jM ho yU hr;have Jf:=grownCap_ge w (n+s.size) old e;have dw:grownCap w (n+s.size) old e<=maxLen:=grownCap_le_maxLen w (n+s.size) old e tC;have uR:(Value.int IntKind.u8 0).cells.size=1:=rfl;have h3:=fin xs (w.drew.alloc (.cells (xs.toArray++(Lib.strCells s).toArray++Builtin.zeroCells (Value.int .u8 0).cells (grownCap w (n+s.size) old e-(n+s.size))) e)) w.heap.size _ _ jM yU ⟨rfl,rfl,rfl,by simp,fun k hk _=>heap_alloc_old w.drew _ hk⟩ (.inr (.inr rfl)) (heap_alloc_new w.drew _) Jf dw (by
    simp only[Array.size_append,List.size_toArray,size_zeroCells,uR,jM,pt];omega) (fun q hq=>by
    grind)
  grind
 generalize Aj:vx=v at hx
 cases hx with
 |osl0=>
  subst Aj
  by_cases hm:s.size=0
  ·have rF:w.grownBy w cc:=⟨rfl,rfl,rfl,nR _,fun _ _ _=>rfl⟩
   have i7:nD s=[]:=aQ (by rw[Jz];exact hm)
   have hf:=Lib.run_firstCells_string (P:=P) w 1 s;rw[hm]at hf;have hr:(Builtin.append_ #[t,u] ty #[.slice none 0 0,.string s]).run P w=.ok (.slice none 0 0) w:=by
    simp[Builtin.append_,run_underlying KC,run_underlying Ak,sizeOf,typeInfo,uJ,FO,Builtin.lenOf,hm,hf]
   have je:=hR.move (b':=.rows 1 (rs.take 0++nD s) e) (s':=sz) (c':=none) hk hi rF (.inl rfl) (fun ι' R' iH=>by
    rw[i7];refine⟨es,fun i row cM=>by simp at cM,.inl ⟨rfl,by simp⟩⟩)
   refine⟨_,_,_,hr,je.1,je.2,?_⟩;rw[hm];exact .osl0 k 0
  ·have hr:=run_append_nil_string (P:=P) w t u ty e info (.int .u8 0) KC Ak uJ gp s oM oM (by rw[KH];omega)
   have e1:(s.data.map fun b=>Value.int .u8 b.toNat)=(Lib.strCells s).toArray:=by
    apply Array.ext';simp[Lib.strCells]
   grind
 |osl _ _ _ c0 cap0 sz0 sX gl hm pi=>
  subst Aj;rw[hi]at sX;cases sX
  rcases zG with⟨e1,_⟩|⟨c1,arr,e1,hb,uS,dB⟩
  ·cases e1
  cases e1
  have KM:arr.size=cap0:=aZ
  have jM:(arr.toList.take n).length=n:=aZ
  have yU:∀(i j:Nat)(row:List PV)(a:PV),(rs.take n)[i]?=some row->row[j]?=some a->∃v,(arr.toList.take n)[i]?=some v/\v.oneCell'=true/\cE w (Rd B ι H) a v:=fun i j row a h1 h2=>by
   grind
  have e0:(0*sz.1:Nat)=0:=Nat.zero_mul _;rw[e0]
  by_cases AD:n+s.size<=cap0
  ·have hr:=Lib.run_append_room_string (P:=P) w t u ty e info KC Ak uJ FO c0 n cap0 arr hb s AD oM
   have h3:=fin (arr.toList.take n) (w.setRow c0 (arr.toList.take n++Lib.strCells s++arr.toList.drop (n+s.size)).toArray) c0 cap0 _ jM yU ⟨rfl,rfl,rfl,by simp,fun k _ hk=>setRow_other w c0 k _ (fun e=>hk (by rw[e]))⟩ (.inr (.inl rfl)) (setRow_heap w c0 arr (arr.toList.take n++Lib.strCells s++arr.toList.drop (n+s.size)).toArray e _ hb) AD hm (by
    grind) (fun q hq=>by
    grind)
   grind
  ·have hr:=Lib.run_append_grow_string (P:=P) w t u ty e info (.int .u8 0) KC Ak uJ gp ⟨c0,0,none⟩ n cap0 (arr.toList.take n) aZ (fun j v hj=>by
    rw[Addr.add_lit,ka hb,cB]
    grind) s oM oM (by rw[KH];exact growslice_fits oM oM)
   grind
theorem zpe{o:Oper}{c:Call}{x y:Operand}(ho:o.op=.call c)(hc:c.callee=.builtin .append)(ha:c.args.toList=[x,y]){t u:TypeId}(mQ:c.argTypes.toList=[t,u]){ρ:Operand->Value}{w w':World}{v:Value}
  (hr:(Builtin.append_ #[t,u] o.type #[ρ x,ρ y]).run P w=.ok v w'):(execOp ρ o).run P w=.ok (.value v) w':=by
 have dW:c.args=#[x,y]:=eP.1 JJ
 have qy:c.argTypes=#[t,u]:=eP.1 (by simpa using mQ)
 simp only[execOp,ho,resolve,hc,Sem.run_bind,Sem.run_pure,Result.andThen_ok,invoke,builtin,dW,qy];simp[hr]
theorem Ys(hT:gY P T){o:Oper}{c:Call}{x y:Operand}(ho:o.op=.call c)(hc:c.callee=.builtin .append)(ha:c.args.toList=[x,y]){t u e:TypeId}(mQ:c.argTypes.toList=[t,u]){ti ui te:TI}(ht:T t=some ti)(hd:ti.desc=.slice e)(hu:T u=some ui)(SM:ui.desc=.string)(he:T e=some te)
  (hz:te.zero=.int .u8 0) (wV:te.size=1) (dG:te.bytes=1) {env:List AV} {H:AH} {k n:Nat} {rs:List (List PV)} (ex:bO env x=.osl k 0 n) (hk:H[k]?=some (some (.rows 1 rs e))) (hn:n<=rs.length)
  {s:ByteArray} (ey:bO env y=.p (.v (.string s))) (tC:n+s.size<=maxLen) (zH:n+s.size<=140737488355328):
  WS P G o env H (.osl k 0 (n+s.size)) ((H.map (pC (one k))).set k (some (.rows 1 (rs.take n++nD s) e))) (some (one k)):=by
 intro w0 B w ι ρ hR hG hρ hf;have hm:=Dy ho hc ha;have hx:=hρ x hm.1;have hy:=hρ y hm.2;rw[ex]at hx;rw[ey]at hy;obtain⟨v',w',ι',h1,h2,h3,h4⟩:=zm9 (P:=P) (ty:=o.type) hT ht hd hu SM he hz wV dG hk hn tC zH hR hx;rw[zpe ho hc ha mQ (by rw[jS hy];exact h1)]
 exact⟨ι',h2,h3,h4⟩
end
end Go.Proofs.YtjkcdcloomkooaaGreatDoor

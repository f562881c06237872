/- Own work: walks over values as data. -/
import Derived.KernelRfl
import Derived.Orders
import Derived.Tactics
import Derived.Below
import Derived.Maps.AppendAt
import Derived.WalkKit
import Derived.OwnWalk
import Derived.Laws.Cover4
import Derived.Laws.IdiomStrings
import Derived.Lib.ConvBytes
import Derived.Laws.NewBlocks
import Derived.Laws.MakeOwn
import Derived.Lib.AppendStr
set_option linter.unusedVariables false
set_option linter.unusedSimpArgs false
set_option linter.unusedSectionVars false
set_option maxHeartbeats 4000000
set_option maxRecDepth 100000
namespace Go.Proofs.YtjkcdcloomkooaaGreatDoor
abbrev aA:=@decide_eq_true
abbrev aB:=@List.getElem?_eq_getElem
abbrev aC:=@List.getElem?_eq_some_iff
abbrev aD:=@if_neg
abbrev aE:=@Nat.le_of_ble_eq_true
abbrev aF:=@if_pos
abbrev aG:=@congrArg
abbrev aH:=@List.mem_of_getElem?
abbrev aI:=@List.getElem?_map
abbrev aJ:=@Nat.lt_of_lt_of_le
abbrev aK:=@Bool.false_eq_true
abbrev aL:=@List.getD_eq_getElem?_getD
abbrev aO:=@List.all_eq_true
abbrev aP:=@Nat.zero_le
abbrev aQ:=@List.eq_nil_of_length_eq_zero
abbrev aR:=@Nat.le_trans
abbrev aS:=@List.length_pos_iff
abbrev aV:=@List.mem_cons_of_mem
abbrev aW:=@Nat.lt_or_ge
abbrev bA:=@Option.some.inj
abbrev bD:=@decide_eq_true_eq
abbrev bI:=@Bool.false_or
abbrev bJ:=@List.drop_suffix
abbrev bK:=@List.cons_ne_nil
abbrev bM:=@Bool.or_eq_true
abbrev bN:=@if_false
abbrev bO:=@Bool.true_and
abbrev bP:=@List.getElem?_append_right
abbrev bQ:=@Option.some.injEq
abbrev bT:=@Int.le_refl
abbrev bV:=@List.mem_range
abbrev bZ:=@List.length_nil
abbrev cA:=@List.getElem?_set
abbrev cB:=@List.append_nil
abbrev cD:=@List.getElem?_cons_succ
abbrev cF:=@Nat.zero_add
abbrev cG:=@Bool.or_eq_false_iff
abbrev cH:=@Bool.false_and
abbrev cK:=@List.mem_cons_self
abbrev cT:=@List.getElem?_append_left
abbrev cU:=@List.drop_eq_getElem_cons
abbrev cY:=@UInt8.toNat_inj
abbrev dD:=@Nat.le_of_lt
abbrev dJ:=@Nat.mul_le_mul_right
abbrev dK:=@List.getElem?_drop
abbrev dP:=@Bool.true_or
abbrev dX:=@List.mem_cons
abbrev eE:=@if_true
abbrev eM:=@Bool.not_eq_true'
abbrev eS:=@Array.getElem?_eq_getElem
abbrev eV:=@List.mem_singleton
abbrev eW:=@Array.toList_inj
abbrev fK:=@Nat.le_succ_of_le
abbrev fM:=@Option.map_some
abbrev fT:=@List.mem_map
abbrev fU:=@Array.getD_eq_getD_getElem?
abbrev fW:=@Bool.and_true
abbrev fX:=@decide_eq_decide
abbrev fY:=@List.any_eq_true
abbrev gB:=@of_decide_eq_false
abbrev gX:=@decide_eq_false_iff_not
abbrev iF:=@List.take_of_length_le
abbrev iP:=@Nat.eq_of_beq_eq_true
abbrev iW:=@Ne.symm
abbrev jE:=@List.mem_of_mem_drop
abbrev jF:=@Array.getElem?_eq_some_iff
abbrev jK:=@Option.getD_some
abbrev jS:=@Classical.byContradiction
abbrev kJ:=@List.map_cons
abbrev kK:=@Bool.or_false
abbrev kX:=@List.mem_append
abbrev lC:=@Bool.false_ne_true
abbrev lL:=@Option.bind_eq_some_iff
abbrev lM:=@List.IsSuffix.length_le
abbrev mF:=@UInt8.ofNat_toNat
abbrev mG:=@Nat.mul_comm
abbrev mH:=@List.getElem?_set_self
abbrev mI:=@List.append_assoc
abbrev mJ:=@Classical.not_not
abbrev mK:=@Bool.or_true
abbrev mL:=@Array.all_eq_true_iff_forall_mem
abbrev mZ:=@Array.getElem?_setIfInBounds_ne
abbrev nG:=@UInt8.le_iff_toNat_le
abbrev nH:=@List.mem_iff_getElem?
abbrev nM:=@Bool.not_eq_true
abbrev oC:=@List.getElem?_set_ne
abbrev pT:=@beq_eq_false_iff_ne
abbrev qM:=@Nat.lt_trans
abbrev rH:=@Nat.eq_zero_or_pos
abbrev rI:=@List.take_left
abbrev sI:=@List.getElem?_eq_none_iff
abbrev sW:=@List.isEmpty_cons
abbrev tS:=@List.cons.inj
abbrev tU:=@Bool.not_true
abbrev tW:=@Bool.eq_false_or_eq_true
abbrev uS:=@List.length_take
abbrev uT:=@List.isEmpty_nil
abbrev vU:=@List.map_nil
abbrev vV:=@List.drop_eq_nil_of_le
abbrev xK:=@UInt8.lt_iff_toNat_lt
abbrev xL:=@List.getElem?_toArray
abbrev xM:=@Bool.and_eq_false_iff
abbrev yT:=@Option.map_map
abbrev yU:=@Bool.and_false
abbrev bp:=@List.getElem?_range
abbrev bq:=@List.getD_cons_zero
abbrev bt:=@List.getD_cons_succ
abbrev fj:=@List.getElem?_take
abbrev fk:=@List.append_ne_nil_of_right_ne_nil
abbrev fl:=@Bool.not_eq_false'
abbrev kh:=@decide_false
abbrev ki:=@Nat.lt_trichotomy
abbrev kj:=@Nat.le_of_lt_succ
abbrev km:=@Nat.add_zero
abbrev kn:=@List.take_add_one
abbrev ko:=@List.any_eq_false
abbrev kr:=@Bool.eq_false_iff
abbrev o8:=@List.suffix_refl
abbrev o9:=@List.not_mem_nil
abbrev oa:=@List.getElem_mem
abbrev oc:=@List.eq_nil_iff_forall_not_mem
abbrev t7:=@decide_true
abbrev t8:=@Prod.mk.inj
abbrev v8:=@List.mem_filter
abbrev va:=@List.foldl_cons
abbrev vb:=@List.find?_cons
abbrev CL:=@not_or
abbrev CM:=@List.mapM_cons
abbrev CN:=@Int.fdiv_eq_ediv_of_nonneg
abbrev HZ:=@Array.mapM_eq_mapM_toList
abbrev NB:=@Option.isSome_iff_exists
abbrev NC:=@List.any_cons
abbrev YT:=@List.length_eq_zero_iff
abbrev YU:=@Int.eq_ofNat_of_zero_le
abbrev Dl:=@Option.map_eq_some_iff
abbrev Dm:=@Nat.succ_mul
abbrev Dn:=@Nat.add_comm
abbrev Dp:=@List.map_map
abbrev Dq:=@List.length_eq_one_iff
abbrev Dr:=@Int.lt_or_le
abbrev Ds:=@Array.getElem?_eq_none
theorem Xu{p:Prop}(h:p:=by
 refine ap aU mA (f:=94) Tryz.func94 rfl kR (oT kR) ?_
 refine aY.cutK 3 114 [0,1,4,7,8] 2 (fun _:Unit=>[.p (pS s),.p (pI a),.own 0 0,.own 1 0,.p (.v (.int .u8 zq))]) (fun _=>[some mB,some (qG 0 ⟨#[]⟩ a)]) (fun _=>True) aU mixed (fun _=>0) (fun E=>jG E cO Tryz.f94.results.toList (.tup [.agg [pI 0,pS ⟨#[]⟩,pI 0],pI a,pI 4])) kR ?_ ?_
 ·exact LY
 intro _ _
 refine aY.never ?_
 refine aY.block ?_
 refine aY.cut 114 [0,1,4,7,8,19] 2 (fun _:Unit=>[.p (pS s),.p (pI a),.own 0 0,.own 1 0,.p (.v (.int .u8 zq)),.p (pB false)]) (fun _=>[some mB,some (qG 0 ⟨#[]⟩ a)]) (fun _=>True) ?_ ?_
 ·exact VA
 intro _ _
 refine aY.condF rfl ?_
 refine aY.cut 114 [0,1,4,7,8,53] 2 (fun _:Unit=>[.p (pS s),.p (pI a),.own 0 0,.own 1 0,.p (.v (.int .u8 zq)),.p (pB false)]) (fun _=>[some mB,some (qG 0 ⟨#[]⟩ a)]) (fun _=>True) ?_ ?_
 ·exact VB
 intro _ _
 refine aY.condF rfl ?_
 refine aY.cut 114 [0,1,4,7,8,75] 2 (fun _:Unit=>[.p (pS s),.p (pI a),.own 0 0,.own 1 0,.p (.v (.int .u8 zq)),.p (pB true)]) (fun _=>[some mB,some (qG 0 ⟨#[]⟩ a)]) (fun _=>True) ?_ ?_
 ·exact Jt
 intro _ _
 refine aY.condT rfl ?_
 refine aY.of aU mixed (fun _=>0) kR (fun E=>lf 0 (nI (fun _ _=>False) (jG E cO Tryz.f94.results.toList (.tup [.agg [pI 0,pS ⟨#[]⟩,pI 0],pI a,pI 4])))) fun P G E hc hM hE=>?_
 replace uP:=hc _ _ _ uP
 clear hE hc hM kH nL hn hq eJ
 cbv
 exact mW trivial):p:=h
theorem Xt{p:Prop}(h:p:=by
 refine ap aU mA (f:=94) Tryz.func94 rfl kR (oT kR) ?_
 refine aY.cutK 3 114 [0,1,4,7,8] 2 (fun _:Unit=>[.p (pS s),.p (pI a),.own 0 0,.own 1 0,.p (.v (.int .u8 zq))]) (fun _=>[some mB,some (qG 0 ⟨#[]⟩ a)]) (fun _=>True) aU mixed (fun _=>0) (fun E=>jG E cO Tryz.f94.results.toList (.tup [.agg [pI 4,pS T,pI a],pI e1,pI 0])) kR ?_ ?_
 ·exact LY
 intro _ _
 refine aY.never ?_
 refine aY.block ?_
 refine aY.cut 114 [0,1,4,7,8,19] 2 (fun _:Unit=>[.p (pS s),.p (pI a),.own 0 0,.own 1 0,.p (.v (.int .u8 zq)),.p (pB false)]) (fun _=>[some mB,some (qG 0 ⟨#[]⟩ a)]) (fun _=>True) ?_ ?_
 ·exact VA
 intro _ _
 refine aY.condF rfl ?_
 refine aY.cut 114 [0,1,4,7,8,53] 2 (fun _:Unit=>[.p (pS s),.p (pI a),.own 0 0,.own 1 0,.p (.v (.int .u8 zq)),.p (pB false)]) (fun _=>[some mB,some (qG 0 ⟨#[]⟩ a)]) (fun _=>True) ?_ ?_
 ·exact VB
 intro _ _
 refine aY.condF rfl ?_
 refine aY.cut 114 [0,1,4,7,8,75] 2 (fun _:Unit=>[.p (pS s),.p (pI a),.own 0 0,.own 1 0,.p (.v (.int .u8 zq)),.p (pB true)]) (fun _=>[some mB,some (qG 0 ⟨#[]⟩ a)]) (fun _=>True) ?_ ?_
 ·exact Jt
 intro _ _
 refine aY.condT rfl ?_
 refine aY.of aU mixed (fun _=>0) kR (fun E=>lf 0 (nI (fun _ _=>False) (jG E cO Tryz.f94.results.toList (.tup [.agg [pI 4,pS T,pI a],pI e1,pI 0])))) fun P G E hc hM hE=>?_
 replace uP:=hc _ _ _ uP
 clear hE hc hM kH nL hn hq eJ
 cbv
 exact mW trivial):p:=h
theorem Xs{p:Prop}(h:p:=by
 refine⟨⟨rfl,rfl,rfl,nR _,fun _ _ _=>rfl⟩,yj,by rw[KC,dO,hlen],fun k b c s h1 h2=>?_,fun k k' b b' c s s' h1 h2 h3 h4=>?_⟩
 ·refine⟨fun c' e=>.inl ⟨k,b,s,h1,by rw[h2,e]⟩,?_⟩
  obtain⟨l,hl,hi⟩:=yy k _ h2;obtain⟨b2,b0,h3,h0,hs,t,ht,hb⟩:=yB k b l h1 hl;have yC:=(hR.blk l b2 c s h3 hi).2;have XG:=A9 jx h0;have oG:∀(k' c':Nat)(s':Nat×Nat),k'<σ.length->ι[jU σ H.length k']?=some (some c',s')->ιc[k']?=some (some c',s'):=fun k' c' s' BZ hx=>by
   have hσk:σ[k']?=some σ[k']:=aB BZ;obtain⟨x,wE,xG⟩:=yx k' _ hσk;unfold jU at hx
   grind
  cases b2 with
  |box cs t2 g2=>
   cases b0 with
   |box cs0 t0 g0=>
    obtain⟨rfl,rfl,_⟩:=hs;simp only[AQ,bQ]at hb;subst hb;obtain⟨⟨zM,hg⟩,c',arr,ec,hh,dR,dC⟩:=yC;refine⟨⟨zM,fun n e=>?_⟩,c',arr,ec,hh,by rw[dR,du],fun j a ha=>?_⟩
    ·grind
    ·obtain⟨v,hv,vR,hr⟩:=dC j (a.ren _) US
     exact⟨v,hv,vR,hr.unren oG (fun b hb _=>qz b hb) a rfl (dt XG ha)⟩
   |rows s0 rs0 t0=>cases hs
   |iter s0 p0=>cases hs
  |rows s2 rs2 t2=>
   cases b0 with
   |box cs0 t0 g0=>cases hs
   |rows s0 rs0 t0=>
    cases hs
    cases hb
    obtain⟨e,uH,hh⟩:=yC;refine⟨e,uH,?_⟩
    rcases hh with hh|⟨c',arr,ec,hh,hz,dC⟩
    ·exact .inl hh
    ·refine .inr ⟨c',arr,ec,hh,hz,fun i j row a g1 g2=>?_⟩
     obtain⟨v,hv,vR,hr⟩:=dC i j row a g1 g2;exact⟨v,hv,vR,hr.keep (nR _) fun b hb _=>⟨qz b hb,rfl⟩⟩
   |iter s0 p0=>cases hs
  |iter s2 p2=>
   cases b0 with
   |box cs0 t0 g0=>cases hs
   |rows s0 rs0 t0=>cases hs
   |iter s0 p0=>
    cases hs
    cases hb
    exact yC
 ·obtain⟨l,hl,hi⟩:=yy k _ h3;obtain⟨l',pM,tI⟩:=yy k' _ h4;obtain⟨b2,_,g1,_⟩:=yB k b l h1 hl;obtain⟨b3,_,g2,_⟩:=yB k' b' l' h2 pM
  have:=hR.inj l l' b2 b3 c s s' g1 g2 hi tI
  subst this;have e1:=(pk hσ hl).1;rw[(pk hσ pM).1]at e1
  grind):p:=h
theorem Kl{p:Prop}(h:p:=by
 have dI:sB t=2:=BH
 rw[dI]at g6
 have w1:=eqs iS
 have w2:=eqs sX
 have w3:=eqs nN
 have w4:=eqs eQ
 have w5:=eqs yG
 have w6:=eqs sK
 rw[hw]at w1 w2 w3 w4 w5 w6
 cbv at w1 w2 w3 w4 w5 w6
 replace g4:((m:Nat):Int)=op:=g4
 replace g9:((tm:Nat):Int)=tp:=g9
 obtain⟨op2,tG⟩:∃x,op-1=x:=⟨_,rfl⟩
 have eo:E.wsub .i64 op 1=op2:=BG
 obtain⟨op3,rc⟩:∃x,E.max op2 0=x:=⟨_,rfl⟩
 have yi:((m-1:Nat):Int)=op3:=C7
 have hx:m7 toks q (i2,op3,tp,l,m-1,tm):=⟨n1,n2,n3,yi,g9,by grind,g6,g8⟩
 have hy:=nE op3 tp (m-1) tm
 cbv
 refine ay ?_
 exact .mk _ r5 hx hy):p:=h
theorem Kk{p:Prop}(h:p:=by
 have dI:sB t=1:=BH
 rw[dI]at g6
 have w1:=eqs iS
 have w2:=eqs sX
 have w3:=eqs nN
 rw[hw]at w1 w2 w3
 cbv at w1 w2 w3
 replace g4:((m:Nat):Int)=op:=g4
 replace g9:((tm:Nat):Int)=tp:=g9
 obtain⟨op2,tG⟩:∃x,op+1=x:=⟨_,rfl⟩
 have eo:E.wadd .i64 op 1=op2:=BG
 obtain⟨op3,rc⟩:∃x,E.max tp op2=x:=⟨_,rfl⟩
 have yi:((max tm (m+1):Nat):Int)=op3:=by rw[<-rc,hE];show _=if op2>tp then op2 else tp;split<;>omega
 have hx:m7 toks q (i2,op2,op3,l,m+1,max tm (m+1)):=⟨n1,n2,n3,by grind,yi,by grind,g6,by grind⟩
 have hy:=nE op2 op3 (m+1) (max tm (m+1))
 cbv
 refine ay ?_
 exact .mk _ r5 hx hy):p:=h
theorem Xr{p:Prop}(h:p:=by
 refine aY.block ?_
 refine aY.cut 114 [0,1,4,7,8,19] 2 (fun _:Unit=>[.p (pS s),.p (pI a),.own 0 0,.own 1 0,.p (.v (.int .u8 zq)),.p (pB false)]) (fun _=>[some mB,some (qG 0 ⟨#[]⟩ a)]) (fun _=>True) ?_ ?_
 ·exact VA
 intro _ _
 refine aY.condF rfl ?_
 refine aY.cut 114 [0,1,4,7,8,53] 2 (fun _:Unit=>[.p (pS s),.p (pI a),.own 0 0,.own 1 0,.p (.v (.int .u8 zq)),.p (pB false)]) (fun _=>[some mB,some (qG 0 ⟨#[]⟩ a)]) (fun _=>True) ?_ ?_
 ·exact VB
 intro _ _
 refine aY.condF rfl ?_
 refine aY.cut 114 [0,1,4,7,8,75] 2 (fun _:Unit=>[.p (pS s),.p (pI a),.own 0 0,.own 1 0,.p (.v (.int .u8 zq)),.p (pB false)]) (fun _=>[some mB,some (qG 0 ⟨#[]⟩ a)]) (fun _=>True) ?_ ?_
 ·exact Jt
 intro _ _
 refine aY.condF rfl ?_
 refine aY.of0 aU mixed (fun _=>0) kR fun P G E hc hM hE=>?_
 clear hE hc hM nD
 cbv
 exact .mk () r5 trivial):p:=h
theorem Kj{p:Prop}(h:p:=by
 replace v5:decide (k=5)=false:=dF v5
 replace v11:decide (k=11)=false:=dF v11
 replace v31:decide (k=31)=false:=dF v31
 replace v12:decide (k=12)=false:=dF v12
 replace v13:decide (k=13)=false:=dF v13
 replace v14:decide (k=14)=false:=dF v14
 replace v16:decide (k=16)=false:=dF v16
 replace v17:decide (k=17)=false:=dF v17
 replace v6:decide (k=6)=false:=dF v6
 replace v7:decide (k=7)=false:=dF v7
 replace v18:decide (k=18)=false:=dF v18
 replace v38:decide (k=38)=false:=dF v38
 replace v40:decide (k=40)=false:=dF v40
 replace v41:decide (k=41)=false:=dF v41
 exact FX):p:=h
theorem Ck{p:Prop}(h:p:=by
 refine eZ Tryz.func84 fun P G E hc hE=>?_
 obtain⟨n0,n1,n2,n3,n4,t0,t1,t2,t3,p0,p1,p2,p3,l0,l1,g0,g1,g2,g3⟩:=ug hE
 replace h:=hc _ _ _ h
 clear hc hE l0 l1 t0 t1 t2 t3
 cbv
 repeat (first|(simp only[n2];try cbv)|(simp only[n3];try cbv)|(refine⟨p1,_,g1,?_⟩;cbv)|(refine⟨p2,_,g2,?_⟩;cbv)|(refine⟨p3,_,g3,?_⟩;cbv)|(refine⟨_,h,?_⟩;cbv))):p:=h
theorem Xq{p:Prop}(h:p:=by
 have F:=ug hE
 first|have z1:=Z1 E hE|skip
 first|have z2:=Z2 E hE|skip
 first|replace h1:=hc _ _ _ h1|skip
 first|replace h2:=hc _ _ _ h2|skip
 first|replace h3:=hc _ _ _ h3|replace h3:=hc _ _ _ (h3 rfl)|skip
 first|replace h4:=hc _ _ _ h4|skip
 first|replace h5:=hc _ _ _ h5|replace h5:=hc _ _ _ (h5 rfl)|skip
 first|replace h6:=hc _ _ _ h6|skip
 clear hc hM hE
 cbv
 first|cbv at z1|skip
 repeat (first|(simp only[F.n0];try cbv)|(simp only[F.n1];try cbv)|(simp only[F.n2];try cbv)|(simp only[F.n3];try cbv)|(simp only[F.n4];try cbv)|(simp only[z1];try cbv)|(simp only[z2];try cbv)|(simp only[d2];try cbv)|(simp only[d5];try cbv)|(simp only[d8];try cbv)|(simp only[d9];try cbv)|(refine⟨_,h1,?_⟩;cbv)|(refine⟨_,h2,?_⟩;cbv)|(refine⟨_,h3,?_⟩;cbv)|(refine⟨_,h4,?_⟩;cbv)|(refine⟨_,h5,?_⟩;cbv)|(refine⟨_,h6,?_⟩;cbv)|(refine⟨F.p0,_,F.g0,?_⟩;cbv)|(refine⟨F.p1,_,F.g1,?_⟩;cbv)|(refine⟨F.p2,_,F.g2,?_⟩;cbv)|(refine⟨F.p3,_,F.g3,?_⟩;cbv)|fail)
 all_goals trivial):p:=h
theorem Xp{p:Prop}(h:p:=by
 have l0:E.ofN R.length=M:=eh
 cbv
 cbv at l0
 cbv
 repeat (first|(simp only[l0];try cbv))
 refine gV 18 [3,4,7,8,9] 1 (fun x:Int×List PT=>[.own 0 0,.p (pB false),.p (.ro 5 R),.p (pI M),.p (pI x.1)]) (fun _=>[some (.box [.p (pB c1),.p (pB c2),.p (pB c3),.p (pB c4)] 37 none)]) (fun x=>lY ks x.1 x.2) μ (0,ks) r5 x0 ?_
 rintro⟨j,l⟩ g1
 simp only at g1
 replace hM:((R.length:Nat):Int)=M:=hM
 cases l with
 |nil=>
  have d1:=g1.stop hE hR hM;clear hc hE;exact UZ
 |cons z l=>
  obtain⟨j2,k1,i1,o1,n1,K1,hj,hv,f1,f2,f3,f4⟩:=g1.fact hE hz hR hM;have nE:μ (j2,l)<μ (j,z::l):=aX
  have dO:=h z (aH g1.get);rw[hv]at dO;replace dO:=hc _ _ _ dO;have hx:lY ks j2 l:=g1.next hj;clear hc hE;cbv
  repeat (first|(simp only[l0];try cbv)|(simp only[f1];try cbv)|(refine⟨f2,_,f4,?_⟩;cbv)|(refine⟨_,dO,?_⟩;cbv)|(simp only[f3];try cbv))
  exact VD):p:=h
theorem Xo{p:Prop}(h:p:=by
 cbv
 (repeat (first|(simp only[on1,on2,on3];cbv)|(simp only[ok];cbv)|(simp only[ok2];cbv)|(simp only[ok3];cbv)|(simp only[ek];cbv)|(simp only[ek2];cbv)|(simp only[ek3];cbv)|(simp only[hw];cbv)|(simp only[eb];cbv)|(simp only[fO.s1,fO.s2,fO.s3];cbv)|(simp only[fO.a2,fO.a3,fO.n2,fO.n3];cbv)|(refine⟨(fO.room _ _ _ aN aN),?_⟩;cbv)|(refine⟨(fO.pre _ _ rfl),?_⟩;cbv)|(simp only[fP.n0,fP.n1,fP.n2,fP.m0,fP.m1,fP.m2,fP.w0,fP.w1,fP.w2,fP.a4,fP.s4,fP.n4,fP.o3];cbv)|(refine⟨_,rfl,nR 5,?_⟩;cbv)|(refine⟨fP.p0,?_⟩;cbv)|(refine⟨fP.p1,?_⟩;cbv)|(refine⟨fP.p2,?_⟩;cbv)|(refine⟨fP.q0,?_⟩;cbv)|(refine⟨fP.q1,?_⟩;cbv)|(refine⟨fP.q2,?_⟩;cbv)|(simp only[l0];cbv)|(simp only[fA.add,fA.app,fA.sub];cbv)|(simp only[fB6];cbv)|(refine⟨fA.pre,fA.room,?_⟩;cbv)|(refine⟨fA.pre,?_⟩;cbv)|(refine⟨fA.room,?_⟩;cbv)|(refine⟨fB5,?_⟩;cbv)))
 all_goals trivial):p:=h
theorem Xn{p:Prop}(h:p:=by
 change V0 _ [.v (.int .u8 ((d.toNat:Nat):Int))] _ at oY
 rw[hy]at oY
 refine xA aU oF mixed (fun n=>match n with|22=>11|_=>0) Tryz.func124 rfl kR kR rfl fun P G E hc hE=>?_
 have z1:E.size s=n:=iY
 have d1:E.lei n a=false:=gc
 have p1:E.ple 0 a:=xF
 have g1:E.get s (E.nat a)=some z:=by
  exact gd
 replace oY:=hc _ _ _ oY;have w1:E.wadd .i64 a 1=a1:=xq
 have d2:E.lti a1 n=true:=C0
 have p2:E.ple 0 a1:=C5
 have g2:E.get s (E.nat a1)=some y:=by
  rw[hE];show(s.data.toList[a1.toNat]?).map _=some y
  grind
 clear hE hc hn aT hA eP hz dZ fE he tJ ht kU rU hB rT hy kc hq e110 e116 e114 e98 e92 e34 e39 e48
 exact nP):p:=h
theorem Ki{p:Prop}(h:p:=by
 rintro e a w ⟨env,H,h,hS⟩
 cases e with
 |exit i=>
  simp only[lf]at h;simp only[Exit.inBlock]
  split at h
  ·rename_i e;rw[aF e];exact⟨env,H,h,hS⟩
  ·rename_i e;rw[aD e];exact⟨env,H,h,hS⟩
 |normal=>exact⟨env,H,h,hS⟩
 |goto l=>exact⟨env,H,h,hS⟩
 |ret=>exact⟨env,H,h,hS⟩
 |panic c=>exact⟨env,H,h,hS⟩
 |outgrown=>exact⟨env,H,h,hS⟩):p:=h
theorem Xm{p:Prop}(h:p:=by
 have cV:oh (pV u)=true:=by
  unfold oh
  grind
 rw[aF ⟨h5,by omega,by omega,cV⟩]at rE
 have eI:=gH _ _ rE
 have fE:=rL s (j+1)
 obtain⟨O,hO⟩:∃x,bL (uB (pV u))=x:=⟨_,rfl⟩
 obtain⟨f,hf⟩:∃x:Int,j+1=x:=⟨_,rfl⟩
 obtain⟨g,hg⟩:∃x:Int,f-a=x:=⟨_,rfl⟩
 have pO:n-((bB s (j+1)).length:Nat)-a=g:=eC
 rw[pO,hO]at eI
 have ej1:=eadd j 1 oM oM oM oM
 rw[hf]at ej1
 have es3:=esub f a oM oM oM oM
 rw[hg]at es3
 have ew:=ewrp acc oM oM
 have een:E.enc acc=O:=by rw[GJ,eenc,hO]
 subst eI
 clear dA gH aT zT elt ege eple eget eadd emul esub ewrp eenc eenc0 gG gM lB cq MM GJ oO vD hx hy zH hn uk wR kU rU HU il ik rE fE hO hf hg pO cV
 exact nP):p:=h
theorem Xl{p:Prop}(h:p:=by
 refine⟨rfl,by simp;omega,(fun t v h=>by cases h),[],⟨.of (Gr.refl _),fun b hb=>.inr hb,rfl,fun k b c s h1=>by simp at h1,fun k l b b' c s s' h1=>by simp at h1⟩,?_⟩
 have:=OZ (w:=w) (ι:=[]) (R:=Rd (fun b=>B b\/w.heap.size<=b) [] []) (as:=as.map .p) (args:=args) (nt:=fn.ntmps) xp (by simpa using hlen) fun j a v ha hv=>by
  rw[aI]at ha
  cases hj:as[j]? with
  |none=>rw[hj]at ha;cases ha
  |some p=>
   rw[hj]at ha;cases ha
   refine .p _ _ ((eG j p v hj hv).keep (nR _) fun b hb _=>⟨⟨.inl hb,?_⟩,rfl⟩)
   rintro⟨k,b',s,h1,_⟩
   simp at h1
 exact qh):p:=h
theorem Xk{p:Prop}(h:p:=by
 subst hv
 rcases f48 with f48|⟨f48,d2⟩
 all_goals
  clear aT fQ iC elt eple eget eadd eext hn hq eJ eI qW uR gG gM lB js um hs nW pP lZ kU ht ny oG jQ vD nU eP hz dZ tK qS vA hT jZ bo dg bc bh;cbv
  repeat (first|(simp only[z1];try cbv)|(simp only[d1];try cbv)|(refine⟨p1,_,g1,?_⟩;cbv)|(refine⟨_,nL,?_⟩;cbv)|(refine⟨p0,_,g0,?_⟩;cbv)|(simp only[f48];try cbv)|(simp only[ei];try cbv)|(simp only[d2];try cbv)|(refine⟨p1,_,g1,?_⟩;cbv)|(refine⟨_,kH,?_⟩;cbv)|(refine⟨p0,p3,p4,?_⟩;cbv)|(simp only[x1];try cbv)|(refine⟨_,hp,?_⟩;cbv))):p:=h
theorem Xj{p:Prop}(h:p:=by
 have e:Bd (decide ((97:Int)<=(c.toNat:Nat))) (decide (((c.toNat:Nat):Int)<=122)) (decide ((65:Int)<=(c.toNat:Nat))) (decide (((c.toNat:Nat):Int)<=90)) (decide (((c.toNat:Nat):Int)=95)) (decide (((c.toNat:Nat):Int)=36))=oA c:=by
  have key:=aO.1 (show((List.range 256).all fun n=>Bd (decide ((97:Int)<=(n:Nat))) (decide (((n:Nat):Int)<=122)) (decide ((65:Int)<=(n:Nat))) (decide (((n:Nat):Int)<=90)) (decide (((n:Nat):Int)=95)) (decide (((n:Nat):Int)=36))==oA (UInt8.ofNat n))=true by decide +kernel) c.toNat (bV.2 c.toNat_lt)
  simp_all
 rw[e]at h
 exact h):p:=h
theorem Xi{p:Prop}(h:p:=by
 cases hk:σ[k]? with
 |some l=>
  rw[XR k l hk];have vE:=(pk hσ hk).2;rw[cT (by rw[EA,hR.len];exact vE),G1]
  obtain⟨y,hy⟩:=hιl l vE;rw[hy];simp[(pk hσ hk).1,aL,hx]
 |none=>
  have qV:σ.length<=k:=BF
  unfold jU;rw[hk];simp only;rw[bP (by rw[EA,hR.len];omega),EA,hR.len,dK,show σ.length+(H.length+(k-σ.length)-H.length)=k by omega]
  exact hx):p:=h
theorem Xh{p:Prop}(h:p:=by
 subst hv
 rcases f48 with f48|⟨f48,d2⟩
 all_goals
  clear aT fQ iC elt eple eget eadd eext hn hq eJ eI qW uR gG gM lB js um hs nW pP lZ kU ht ny oG jQ vD nU mT qS vA hT jZ bo dg bc;cbv
  repeat (first|(simp only[z1];try cbv)|(simp only[d1];try cbv)|(refine⟨p0,_,g0,?_⟩;cbv)|(simp only[f48];try cbv)|(simp only[ei];try cbv)|(simp only[d2];try cbv)|(refine⟨p0,p3,p4,?_⟩;cbv)|(simp only[x1];try cbv)|(refine⟨_,hp,?_⟩;cbv))):p:=h
theorem Xg{p:Prop}(h:p:=by
 obtain⟨b0,h0,h1⟩:=JQ tags Hc k _ hb
 have lI:k<tags.length:=aX
 rcases h1 with⟨c,hc,e⟩|⟨hc,_⟩
 ·cases b0 with
  |none=>cases e
  |some b0=>
   have hp:=aG (fun L=>L[k]?) BT
   simp only[aI,hk,h0,fM,bQ,yX]at hp;rw[aL]at hp
   cases hH:H[l]? with
   |none=>rw[hH]at hp;cases hp
   |some ob=>
    rw[hH]at hp
    cases ob with
    |none=>cases hp
    |some b2=>grind
 grind):p:=h
theorem Xf{p:Prop}(h:p:=by
 refine⟨by show 0<=e1;omega,by show e1<=n;omega,done++[⟨k,t,r.length⟩],?_,?_,?_,?_,?_⟩
 ·show RS2=_;rw[<-eA,zqb,dY];show _=kY n done++[[pI k,pS (bL t),pI (n-(r.length:Nat))]];rw[hT,hf]
 ·show(done++[_]).length=m1;rw[sD,hm];exact oK
 ·show(((done++[(⟨k,t,r.length⟩:Tk)]).length:Nat):Int)<=e1;rw[sD,J6];omega
 ·show TS=(done++[_])++(lF (bB s e1)).1;rw[oP,<- oI];simp
 ·show ER=(lF (bB s e1)).2;rw[qL,<- oI]):p:=h
theorem Xe{p:Prop}(h:p:=by
 have k1:E.lei 97 z=decide (97<=z):=fH
 rw[h1]at k1;have k2:E.lei z 122=decide (z<=122):=fH
 rw[h2]at k2;have k3:E.lei 65 z=decide (65<=z):=fH
 rw[h3]at k3;have k4:E.lei z 90=decide (z<=90):=fH
 rw[h4]at k4
 clear hE h1 h2 h3 h4
 cbv
 repeat (first|(simp only[k1];cbv)|(simp only[k2];cbv)|(simp only[k3];cbv)|(simp only[k4];cbv)|(simp only[h5];cbv)|(simp only[h6];try cbv))):p:=h
theorem Xd{p:Prop}(h:p:=by
 have h1:((List.range k).filter fun x=>!(listed.setIfInBounds i true).getD x false)=((List.range k).filter fun x=>!listed.getD x false).erase i:=by
  have fa:((List.range k).filter fun x=>!listed.getD x false).Nodup:=List.Pairwise.filter _ List.nodup_range
  rw[List.Nodup.erase_eq_filter fa,List.filter_filter];refine List.filter_congr fun x _=>?_
  by_cases nC:i=x
  ·simp_all
  ·rw[getD_set_ne false nC]
   grind
 grind):p:=h
theorem VK{p:Prop}(h:p:=by
 refine .mk (E.wadd .i64 i 1) r5 ?_ ?_
 ·exact lV
 ·exact hM):p:=h
theorem Kh{p:Prop}(h:p:=by
 have eI:=dA rE
 subst eI
 clear dA gH aT zT elt ege eple eget eadd emul esub ewrp eenc eenc0 gG gM lB cq MM GJ oO vD hx hy zH hn uk wR kU rU HU il ik rE
 exact nP):p:=h
theorem MC{p:Prop}(h:p:=by exact fin _ h fun w=>by simp only[binOp,ne_eq,not_true_eq_false,bN,Op.intCmp];rfl):p:=h
theorem Xy{p:Prop}(h:p:=by
 intro P G E hc hM hE
 replace kH:=hc _ _ _ kH
 replace nL:=hc _ _ _ nL
 replace uP:=hc _ _ _ uP
 clear hE hc hM hR nW fE gm hn hq eJ h1
 rcases hf with⟨f1,f2⟩|⟨f1,f2⟩
 all_goals
  cbv
  repeat (first|(refine⟨_,kH,?_⟩;cbv)|(refine⟨_,nL,?_⟩;cbv)|(simp only[f1];try cbv)|(simp only[f2];try cbv)|(refine⟨_,uP,?_⟩;cbv)|(simp only[f3];try cbv))):p:=h
theorem rM{p:Prop}(h:p:=by
 cbv
 exact mW trivial):p:=h
theorem b7{p:Prop}(h:p:=by
 obtain⟨h1,h2⟩:=h
 exact zI):p:=h
theorem Kn{p:Prop}(h:p:=by
 have hB:=gp
 simp only[qc,gK,qe,SX,bD]at hB
 rcases aW i all.toArray.size with h|h
 ·exact hB.1.1 i h d hd
 ·simp[jN,Ds h]at hd):p:=h
theorem Xx{p:Prop}(h:p:=by
 subst hv
 rw[hg]at vG
 clear d2
 rcases MT with hb|⟨hb,d2⟩
 all_goals
  rw[hb]at f48;clear fQ elt eple eget eadd hs hμ vH hd YH z8 jQ eH rS o6 za HP wN oK uE jY zL ym;cbv
  repeat (first|(simp only[z2];try cbv)|(simp only[d1];try cbv)|(simp only[f48];try cbv)|(simp only[d2];try cbv)|(refine⟨_,vG,?_⟩;cbv))):p:=h
theorem FZ{p:Prop}(h:p:=by
 rw[hE]
 show(s.data.toList[0]?).map _=some z
 rw[dC,<- hz]
 rfl):p:=h
theorem Xw{p:Prop}(h:p:=by
 refine⟨fun a w=>if h:∃n,∃env H,I n env H/\St w0 B nt env H a w then Classical.choose (YV h)else 0,fun a w yt=>?_,fun a w k env H h1 h2=>?_⟩
 ·grind
 ·have yt:∃n,∃env H,I n env H/\St w0 B nt env H a w:=⟨_,env,H,h1,h2⟩
  simp only[yt,dif_pos];exact(Classical.choose_spec (YV yt)).2 _ ⟨env,H,h1,h2⟩):p:=h
theorem Xv{p:Prop}(h:p:=by
 have e:(decide ((48:Int)<=(c.toNat:Nat))&&decide (((c.toNat:Nat):Int)<=57))=eO c:=by
  have key:=aO.1 (show((List.range 256).all fun n=>(decide ((48:Int)<=(n:Nat))&&decide (((n:Nat):Int)<=57))==eO (UInt8.ofNat n))=true by decide +kernel) c.toNat (bV.2 c.toNat_lt)
  simp_all
 rw[e]at h
 exact h):p:=h
theorem Km{p:Prop}(h:p:=by
 intro l
 induction l with
 |nil=>intro _;trivial
 |cons p l ih=>
  intro hl;obtain⟨n,x⟩:=p;exact⟨rfl,hl n x dL,ih fun n x hx=>hl n x (by simp[hx])⟩):p:=h
theorem VL{p:Prop}(h:p:=by
 have:=(aC.1 hq).1
 have e:s.data.toList.length=s.size:=rfl
 omega):p:=h
theorem BL{p:Prop}(h:p:=by
 obtain⟨h1,h2⟩:=h
 obtain⟨h2,h3⟩:=h2
 exact zI):p:=h
theorem Kg{p:Prop}(h:p:=by
 simp only[execOp,ho,resolve,hc,hf,Deferred.ofValue,Sem.run_bind,Sem.run_pure,Result.andThen_ok,invoke]
 have:=hr.1 (#[]++c.args.map ρ++#[]) w
 exact qh):p:=h
theorem MA{p:Prop}(h:p:=by
 rw[hE]
 show(s.data.toList[i.toNat]?).map _=some z
 rw[h,<- hz]
 rfl):p:=h
theorem X5{p:Prop}(h:p:=by
 have qW:oh (pV u)=false:=by
  unfold oh
  grind
 rw[aD (fun h=>by grind)]at rE
 have eI:=dA rE
 subst eI
 clear dA gH aT zT elt ege eple eget eadd emul esub ewrp eenc eenc0 gG gM lB cq MM GJ oO vD hx hy zH hn uk wR kU rU HU il ik rE qW
 exact nP):p:=h
theorem X4{p:Prop}(h:p:=by
 rw[aL]at e
 cases hx:H[l']? with
 |none=>rw[hx]at e;cases e
 |some ob=>
  rw[hx]at e
  cases ob with
  |none=>cases e
  |some bb=>
   cases bb with
   |box cs2 t2 g2=>simp[NP]at e;subst e;exact⟨cs2,t2,rfl⟩
   |rows a b c=>cases e
   |iter a b=>cases e):p:=h
theorem Cj{p:Prop}(h:p:=by
 obtain⟨T,hT⟩:∃T,bL nm=T:=⟨_,rfl⟩
 rw[hT]at h1 ⊢
 obtain⟨c1,c2,c3,c4⟩:=c
 exact lj):p:=h
theorem X0{p:Prop}(h:p:=by
 refine⟨dR,fun b hb cQ=>⟨⟨hb.1,fun ho=>?_⟩,Dc b cQ fun ho=>hb.2 (wG b ho)⟩,fun l c s hp hi=>?_⟩
 ·rcases r8 b ho with⟨l,b0,s,_,h1,h2⟩|ho
  ·exact hb.2 ⟨l,b0,s,h1,h2⟩
  ·rcases lT.ge ho with ho|ho
   ·exact hb.2 (wG b ho)
   grind
 grind):p:=h
theorem Wz{p:Prop}(h:p:=by
 have h3:=gI.2
 rw[wK]at h3
 simp only[bM,aK,false_or]at h3
 rcases h3 with h3|h3
 ·simp_all
 ·rw[fY]at h3;obtain⟨d,hd,hle⟩:=h3;have h4:=hJ.lok d aX (gT d hd)
  have:=aE hle
  omega):p:=h
theorem FY{p:Prop}(h:p:=by
 rw[hE]
 refine dF fun e=>?_
 rw[e]at dC
 cases dC):p:=h
theorem Wy{p:Prop}(h:p:=by
 cbv
 refine mW ?_
 refine⟨(.mk wC),p1,p2,p3,(.mk wC),p1,p2,p3,(.mk wC),?_⟩
 exact .mk () r5 trivial):p:=h
theorem BK{p:Prop}(h:p:=by
 have fO:=iQ hE
 have fG:=wU hE
 exact rW):p:=h
theorem Ci{p:Prop}(h:p:=by exact fin _ h fun w=>by rw[show bG.eq a b=(a.toList==b.toList)from(zl6 a b).symm];rfl):p:=h
theorem Ch{p:Prop}(h:p:=by
 obtain⟨m,h⟩:=h
 exact⟨m,fun k hk=>by rw[RP.run,aF ⟨rfl,hi⟩];exact h k hk⟩):p:=h
theorem Wx{p:Prop}(h:p:=by
 rw[aL]at hm
 cases hx:L[m]? with
 |none=>rw[hx]at hm;cases hm
 |some ob=>
  rw[hx]at hm
  cases ob with
  |none=>cases hm
  |some bb=>
   cases bb with
   |box cs t g=>grind
   |rows a b c=>cases hm
   |iter a b=>cases hm):p:=h
theorem Ww{p:Prop}(h:p:=by
 have gz:N<=2000000:=eC
 have hlen:acc.length=N:=Bv
 obtain⟨N2,fZ⟩:∃N2,N+1=N2:=⟨_,rfl⟩
 have fB5:=fO.pre N R g5;have fB6:E.sub R 0 N=R:=LU
 exact rW):p:=h
theorem Wv{p:Prop}(h:p:=by
 obtain⟨i,l1,g,_,w1,h⟩:=Gd.call hR w h
 obtain⟨hi,w2,h⟩:=Gd.need hR w1 h
 obtain⟨r2,e2⟩:=ih _ _ _ _ h.tail w2 c hr
 simp[nd,bE,jM,dW]at r2
 exact⟨r2.1,vS (EQ (Ht hb (ih _ _ _ _ g w c r2.2) hi) (vT rfl e2))⟩):p:=h
theorem Wu{p:Prop}(h:p:=by
 unfold Gd at h
 rw[RP.run]at h
 have he:=hR s l false
 obtain⟨⟨x,l1,b1⟩,hv⟩:∃v,R s l false=v:=⟨_,rfl⟩
 rw[hv]at h he
 cases b1 with
 |true=>exact(Em hR h rfl).elim
 |false=>exact⟨x,l1,hv,he.s,w.suf he.s,h⟩):p:=h
theorem Cg{p:Prop}(h:p:=by
 obtain⟨m,h⟩:=h
 exact⟨m,fun k hk=>by rw[RP.run,aF hi];exact h k hk⟩):p:=h
theorem Wt{p:Prop}(h:p:=by
 have vE:l<ι.length:=(aC.1 hx).1
 rw[cT (by rw[EA];exact vE),G1,hx]
 cases hp:bx σ l 0 with
 |none=>simp[hp]
 |some k=>exact absurd (by simpa using(Aw hp).2) (hn k)):p:=h
theorem Kf{p:Prop}(h:p:=by
 unfold Gd at h
 rw[RP.run]at h
 split at h
 ·rename_i hc;exact⟨hc.2,w.drop 1,h⟩
 ·exact(Em hR h rfl).elim):p:=h
theorem Ws{p:Prop}(h:p:=by
 obtain⟨h0,h⟩:=h;have h0':¬b<0:=by have:(0:Int)<=b:=h0;omega
 exact⟨_,h,lG fun w0 B w ι ρ hR hG hρ=>⟨_,by rw[dS w0 B w ι ρ hρ];simp only[binOp,Op.shift,h0',bN];rfl,.p _ _ (.v _)⟩⟩):p:=h
theorem LZ{p:Prop}(h:p:=by
 have:=(aC.1 hq).1
 simp_all):p:=h
theorem VI{p:Prop}(h:p:=by
 rw[RP.run]
 split
 ·exact yL hR x l b
 ·exact yL hR y l b):p:=h
theorem Wr{p:Prop}(h:p:=by
 have k1:E.lei 48 z=decide (48<=z):=fH
 rw[h1]at k1;have k2:E.lei z 57=decide (z<=57):=fH
 rw[h2]at k2
 clear hE h1 h2
 cbv
 repeat (first|(simp only[k1];cbv)|(simp only[k2];try cbv))):p:=h
theorem Wq{p:Prop}(h:p:=by
 have hj:=(aC.1 ha).1
 have Dh:as'[j]?=some as'[j]:=aB oM
 rcases hr j a _ ha Dh with e|⟨x,rfl,e⟩
 ·grind
 ·exact .p _ _ ((gR j _ v Dh hv).toP _ e)):p:=h
theorem Wp{p:Prop}(h:p:=by
 cbv
 repeat (first|(simp only[z2];try cbv)|(simp only[d1];try cbv)|(refine⟨p1,_,g1,?_⟩;cbv)|(refine⟨_,hk,?_⟩;cbv)|(simp only[ej];try cbv))
 refine .mk i2 r5 ?_ ?_
 ·exact lV
 ·exact gA):p:=h
theorem Xc{p:Prop}(h:p:=by
 rcases h2 with rfl|⟨rfl,rfl⟩<;>rcases h3 with rfl|⟨rfl,rfl⟩
 all_goals
  cbv
  repeat (first|(refine⟨_,h1,?_⟩;cbv)|(simp only[ok,ok',e2,rT,xZ];try cbv))
 all_goals exact .mk () r5 hI):p:=h
theorem Xb{p:Prop}(h:p:=by
 have h2:=NR s'
 cases b' with
 |true=>show s'.brk<64*(l.length+1)+s.rank;omega
 |false=>
  rw[tZ,tZ]at h;show 64*(l'.length+1)+s'.rank<64*(l.length+1)+s.rank;omega):p:=h
theorem Xa{p:Prop}(h:p:=by
 simp only[bM,bD]at h
 rcases h with h|h
 ·exact jf (lO h aN) 1 aN aN
 ·exact jf (lO h aN) 1 aN aN):p:=h
theorem MB{p:Prop}(h:p:=by
 subst hV
 have ek:=o0 hE
 have hv:=hx
 exact rW):p:=h
theorem X9{p:Prop}(h:p:=by
 obtain⟨k,l,b2,s,hk,h1,h2⟩:=jt b hb
 refine(sy b).2 ⟨hC.own b (hR.ge ⟨l,b2,s,h1,h2⟩),fun⟨l',b3,s',hn,h3,h4⟩=>?_⟩
 have:=hR.inj l l' b2 b3 b s s' h1 h3 h2 h4
 grind):p:=h
theorem X8{p:Prop}(h:p:=by
 rw[bf]at dZ
 cases dZ
 have M7:g1=some c:=by
  cases b0 with
  |none=>cases e0
  |some b0=>cases b0<;>simp[AQ]at e0;exact e0.2.2
 have h3:=dI.1.2 c M7
 have h4:=dI.1.1
 grind):p:=h
theorem X7{p:Prop}(h:p:=by
 cases hf:(List.range k).filter fun i=>!listed.getD i false with
 |nil=>grind
 |cons x xs=>
  have hx:x∈(List.range k).filter fun i=>!listed.getD i false:=by rw[hf];simp
  grind):p:=h
theorem X6{p:Prop}(h:p:=by
 refine⟨e,fun c hr=>vS ?_⟩
 show ao ev d c l=_
 unfold ao
 simp only[hc,aK,bN,show decide ((1:Int)=1)=true from rfl,bO]
 refine qP hf ?_
 grind):p:=h
theorem jm{p:Prop}(h:p:=by
 cbv
 all_goals trivial):p:=h
theorem VJ{p:Prop}(h:p:=by
 rw[hE]
 show(s.data.toList[0]?).map _=some z
 grind):p:=h
theorem Cf{p:Prop}(h:p:=by exact⟨this.s,fun e=>by rw[h.1]at e;cases e⟩):p:=h
theorem Wg{p:Prop}(h:p:=by
 rw[bU]
 obtain⟨R,hR⟩:∃R,bW ks=R:=⟨_,rfl⟩
 rw[hR]at h1 ⊢
 obtain⟨T,hT⟩:∃T,bL nm=T:=⟨_,rfl⟩
 rw[hT]at ⊢
 obtain⟨c1,c2,c3,c4⟩:=c
 exact lj):p:=h
theorem Wf{p:Prop}(h:p:=by
 rw[bU]
 obtain⟨R,hR⟩:∃R,bW ks=R:=⟨_,rfl⟩
 rw[hR]at h1 ⊢
 obtain⟨T,hT⟩:∃T,bL nm=T:=⟨_,rfl⟩
 rw[hT]at ⊢
 obtain⟨c1,c2,c3,c4⟩:=c
 exact q9):p:=h
theorem Ce{p:Prop}(h:p:=by
 clear hE hc
 cbv
 refine⟨p1,?_⟩
 exact aG (PV.ro 1) t3):p:=h
theorem jl{p:Prop}(h:p:=by
 cbv
 exact mV trivial):p:=h
theorem We{p:Prop}(h:p:=by
 obtain⟨n,hn⟩:=nH.1 hv
 have sH:n<(rA (bR env y)).length:=aX
 obtain⟨u,hu,h1,_⟩:=MG.2 n _ (aB sH)
 grind):p:=h
theorem Wc{p:Prop}(h:p:=by
 cbv at vE
 cbv
 repeat (first|(simp only[vE];try cbv)|(simp only[v1];try cbv)|(refine⟨p1,_,g1,?_⟩;cbv)|(refine⟨_,dI,?_⟩;cbv))
 exact FT):p:=h
theorem Wb{p:Prop}(h:p:=by
 rw[<-hιc,aI]at hx
 cases hk:σ[k]? with
 |none=>rw[hk]at hx;cases hx
 |some l=>
  rw[hk]at hx;exact Js):p:=h
theorem Kb{p:Prop}(h:p:=by
 subst d8
 intro P G E hc qK hE
 clear hc qK hE ih a8 hq lZ
 cbv
 exact .mk () r5 yQ):p:=h
theorem Wa{p:Prop}(h:p:=by
 obtain⟨hk,w1,h⟩:=Gd.key hR w h
 obtain⟨r2,e2⟩:=ih _ _ _ _ h.tail w1 c hr
 simp[eD,bE,jM,dW]at r2
 exact⟨r2,vS (EQ (Hu hd hk) (vT rfl e2))⟩):p:=h
theorem Ka{p:Prop}(h:p:=by split<;>(show(acc++[_]).length<=_;rw[sD];simp only[qQ,bZ];omega)):p:=h
theorem W9{p:Prop}(h:p:=by
 rcases rY h1 with⟨hl,h1⟩|⟨rfl,e⟩
 ·rcases rY h2 with⟨pM,h2⟩|⟨e,_⟩
  ·exact .inl ⟨k,b',s',h1,h2⟩
  grind
 ·rw[<-h.len]at h2
  grind):p:=h
theorem Cd{p:Prop}(h:p:=by
 rw[hE]
 show(s.data.toList[i.toNat]?).map _=some z
 grind):p:=h
theorem W8{p:Prop}(h:p:=by
 rw[aI]at ha
 have nU:j<len*te.size:=by
  grind
 rw[bp nU]at ha
 cases ha
 exact⟨_,by simp[nU],.p _ _ (.v _)⟩):p:=h
theorem K9{p:Prop}(h:p:=by exact .inr ⟨y,k,ey,by have:=hρ y (Yy y ey);rw[ea]at this;exact jW this⟩):p:=h
theorem W7{p:Prop}(h:p:=by
 by_cases My:q=48
 ·exact .inr ⟨aA (by rw[<-eJ,My];rfl),by rw[elt];exact dF fun h=>qS ⟨My,h⟩⟩
 ·exact .inl (gY eJ 48 My)):p:=h
theorem W6{p:Prop}(h:p:=by
 unfold q8 tY
 rw[RP.run]
 split
 ·exact .inr (by rename_i h;exact h)
 ·exact xC hR (xC hR (NZ (hF l b) (NZ (NZ (hF l b) (h2 l b)) (h2 l b))))):p:=h
theorem W5{p:Prop}(h:p:=by
 rintro c ⟨l,b,s,h1,h2⟩
 rcases aT l b _ s h1 h2 with⟨hn,b0,h0,_,hi⟩|⟨k,b1,g,dI,_,_,hi,_⟩
 ·grind
 ·exact .inr ⟨k,b1,s,dI,hi⟩):p:=h
theorem W4{p:Prop}(h:p:=by
 have:=hJ.rel.size
 rw[hg.block k aX fun ho=>by rcases hJ.rel.ge ho with h|h<;>first|exact hx h|omega]
 exact hJ.rel.gr.block k hk hx):p:=h
theorem K8{p:Prop}(h:p:=by
 cbv
 refine .x hk ?_
 cbv
 first|(refine .x hk ?_;cbv)|skip
 exact mV trivial):p:=h
theorem W3{p:Prop}(h:p:=by
 rw[EP]at this
 rcases this with⟨h1,h2⟩|⟨h1,h2⟩
 ·exact .inl ⟨_,h1,h.drop 1 (nZ h1) rfl,wB h2⟩
 ·exact .inr ⟨h1,wB h2⟩):p:=h
theorem K7{p:Prop}(h:p:=by
 unfold wpList
 rw[aF hw]
 refine .inl ?_
 unfold Oper.wp
 rw[he]
 exact h):p:=h
theorem W2{p:Prop}(h:p:=by
 by_cases nC:i=x
 ·subst nC;exact getD_set_true (EG hi d hd)
 ·rw[getD_set_ne false nC]at hx;exact getD_set_true (dO x hx d hd)):p:=h
theorem W1{p:Prop}(h:p:=by
 rcases bm with bm|⟨y,k,ey,ea⟩
 ·exact .inl bm
 ·exact .inr ⟨y,k,ey,by have:=hρ y (jx y ey);rw[ea]at this;exact jW this⟩):p:=h
theorem W0{p:Prop}(h:p:=by
 rename_i x ho
 exact⟨_,h,lG fun w0 B w ι ρ hR hG hρ=>⟨ρ x,by simp[execOp,ho],hρ x oW⟩⟩):p:=h
theorem Vz{p:Prop}(h:p:=by
 have:=hR.size
 rw[hg.block k aX fun ho=>by rcases hR.ge ho with h|h<;>first|exact hx h|omega]
 exact hR.gr.block k hk hx):p:=h
theorem Wo{p:Prop}(h:p:=by
 unfold Gd at h
 rw[RP.run]at h
 split at h
 ·rename_i hc;exact .inl ⟨hc,h⟩
 ·rename_i hc;exact .inr ⟨by simpa using hc,h⟩):p:=h
theorem Ke{p:Prop}(h:p:=by
 have h5:=aG List.length sT
 rw[NW]at h5
 rw[sD,hm,h5]
 rfl):p:=h
theorem Kd{p:Prop}(h:p:=by
 rw[hE]
 show(s.data.toList[1]?).map _=some y
 rw[dC,pG,<- hy]
 rfl):p:=h
theorem Wn{p:Prop}(h:p:=by
 have:((List.range k).filter fun i=>!(Array.replicate l.length false).getD i false)=List.range k:=by
  simp_all
 rw[this]
 simp):p:=h
theorem Wm{p:Prop}(h:p:=by
 intro x _
 cases x with
 |false=>
  cbv;refine mV ?_;exact .mk true r5 trivial aN
 |true=>
  cbv;simp only[z2];cbv):p:=h
theorem Wl{p:Prop}(h:p:=by
 by_cases ha:(s[pos]'hp).toNat<128
 ·have:=decode_ascii s pos hp ha
  grind
 ·have:=(decode_high s pos hp oM).2
  grind):p:=h
theorem Wj{p:Prop}(h:p:=by
 unfold eO at h
 simp only[bD]at h
 exact⟨nG.1 h.1,nG.1 h.2⟩):p:=h
theorem Kc{p:Prop}(h:p:=by exact hE.put (sc:=none) (bS.gr (Gr.refl _)) (.p _ _ (.v _))):p:=h
theorem Wi{p:Prop}(h:p:=by
 cases u with
 |nil=>exact absurd rfl oG
 |cons x u=>
  rw[nW]at gG;have h5:=(tS gG).1;rw[h5];rfl):p:=h
theorem Wh{p:Prop}(h:p:=by
 unfold Gd at h
 rw[RP.run]at h
 split at h
 ·rename_i hc;exact .inl ⟨hc,h⟩
 ·rename_i hc;exact .inr ⟨hc,h⟩):p:=h
theorem Vr{p:Prop}(h:p:=by
 unfold AV.toP at h
 cases hp:AV.toP.toPL cs with
 |none=>rw[hp]at h;cases h
 |some xs=>exact toPL_low m cs xs hp):p:=h
theorem Vq{p:Prop}(h:p:=by
 exact⟨c::u,bK _ _,by rw[h2];rfl,fun r' _=>by
  show jV U (c::(u++r'))=_;rw[jV]
  grind⟩):p:=h
theorem Vp{p:Prop}(h:p:=by
 rcases r8 b ho with⟨l,b0,s,hn,h1,h2⟩|ho
 ·exact((sy b).1 hb.1).2 ⟨l,b0,s,hn,h1,h2⟩
 ·exact hb.2 ho):p:=h
theorem Vo{p:Prop}(h:p:=by
 obtain⟨m,h⟩:=h
 exact⟨m,fun k hk=>by rw[RP.run,aD (fun e=>by rw[hi]at e;cases e)];exact h k hk⟩):p:=h
theorem Vn{p:Prop}(h:p:=by
 unfold qZ at h
 split at h
 ·cases h
 ·split at h
  ·cases h
  ·split at h
   ·cases h
   ·cases h
    simp_all):p:=h
theorem Jx{p:Prop}(h:p:=by
 rw[hE]
 show(s.data.toList[a1.toNat]?).map _=some y1
 grind):p:=h
theorem Jw{p:Prop}(h:p:=by
 rw[hE]
 show(s.data.toList[a2.toNat]?).map _=some y2
 grind):p:=h
theorem Vm{p:Prop}(h:p:=by
 have hl:=(aC.1 hk).1
 exact⟨_,aB (by rw[hR.len];exact hl)⟩):p:=h
theorem VH{p:Prop}(h:p:=by
 clear hc hE
 exact FX):p:=h
theorem VG{p:Prop}(h:p:=by
 rw[hE]
 refine dF fun e=>?_
 grind):p:=h
theorem Vl{p:Prop}(h:p:=by
 rcases aW i k with h|h
 ·exact h
 ·have:=Gh dO r _ (EG hi) i0 (yP i h XN i0 oM)
  grind):p:=h
theorem Vk{p:Prop}(h:p:=by
 rcases aW i ops.size with h|h
 ·exact Zj i h d hd
 ·simp[jN,Ds h]at hd):p:=h
theorem Vj{p:Prop}(h:p:=by exact .ndR (cN hR hs (.assign c _) (d1 h)) fun n l1 h1=>.need fun _ h2=>.ok (uf rfl (h1.trans h2.leq))):p:=h
theorem Vi{p:Prop}(h:p:=by
 have hj:j<cs.length:=aX
 obtain⟨x,hx,MX⟩:=hg.2 j cs[j] (aB hj)
 grind):p:=h
theorem Vh{p:Prop}(h:p:=by
 cbv
 repeat (first|(simp only[o1];cbv)|(simp only[d1];cbv)|(simp only[d2];cbv))
 all_goals trivial):p:=h
theorem Vg{p:Prop}(h:p:=by
 cases ha:aM l 0 jI with
 |false=>exact .at_f ha hg
 |true=>exact .at_t ha (.at_f aX hg)):p:=h
theorem Vf{p:Prop}(h:p:=by
 obtain⟨ι,hR,hE⟩:=hS.rep
 exact⟨hS.defers,hS.size,hS.pin,hw w0 B w ι a.tmps gS hR hE⟩):p:=h
theorem Jv{p:Prop}(h:p:=by exact fin _ h fun w=>by simp[binOp,Op.intArith,bG]):p:=h
theorem Ve{p:Prop}(h:p:=by
 have:(i+1)*te.size<=n*te.size:=dJ _ cQ
 rw[Dm]at this
 omega):p:=h
theorem Vd{p:Prop}(h:p:=by
 obtain⟨ι,hR,hE⟩:=hS.rep
 exact⟨hS.defers,hS.size,hS.pin,hw w0 B w ι a.tmps hB hR hE⟩):p:=h
theorem Vc{p:Prop}(h:p:=by
 have fO:=iQ hE;have fG:=wU hE;have l0:E.ofN LR.length=M:=BI
 exact rW):p:=h
theorem Ju{p:Prop}(h:p:=by exact fin _ h fun w=>by simp[binOp,Op.intBits,bG]):p:=h
theorem VF{p:Prop}(h:p:=by
 rw[Lib.cell_of_heap this]
 rfl):p:=h
theorem Vb{p:Prop}(h:p:=by
 obtain⟨T,hT⟩:∃T,bL nm=T:=⟨_,rfl⟩
 rw[hT]
 obtain⟨c1,c2,c3,c4⟩:=c
 exact lj):p:=h
theorem Va{p:Prop}(h:p:=by
 obtain⟨T,hT⟩:∃T,bL nm=T:=⟨_,rfl⟩
 rw[hT]
 obtain⟨c1,c2,c3,c4⟩:=c
 exact q9):p:=h
theorem V9{p:Prop}(h:p:=by
 have h2:=hi.sk
 rw[h]at h2
 cases h2
 have h3:=rL s i
 have h4:=hi.i0
 have h5:=hi.i1
 grind):p:=h
theorem Vx{p:Prop}(h:p:=by
 rw[ei]
 refine⟨by omega,by omega,?_⟩
 have:=hI.sk
 rw[dZ,OS hw]at this
 exact this):p:=h
theorem Vw{p:Prop}(h:p:=by exact⟨c,gy _ c listed a' w' w'' i o _ hJ tH ho jP oG gT jA this.1 this.2⟩):p:=h
theorem Vv{p:Prop}(h:p:=by
 have hB:=gp
 simp only[qc,gK,qe,SX,bD,bM]at hB
 grind):p:=h
theorem Vu{p:Prop}(h:p:=by
 have:H[k]?=none:=by
  rw[sI]at h ⊢
  rwa[KC]at h
 rw[this]):p:=h
theorem K6{p:Prop}(h:p:=by
 split
 ·exact bJ _ _
 ·exact .rfl):p:=h
theorem Vt{p:Prop}(h:p:=by subst e;obtain⟨o',h1,h2⟩:=hx.2.2;rw[ho]at h1;cases h1;rw[jA]at h2;cases h2):p:=h
theorem K5{p:Prop}(h:p:=by
 have:=aG (fun r:List PT=>r[0]?) g1
 grind):p:=h
theorem Vs{p:Prop}(h:p:=by
 have:=P4 oM yf
 rw[show f+((w.length:Nat):Int)=e1 by omega]at this
 exact this):p:=h
theorem Jz{p:Prop}(h:p:=by
 refine .mk j2 r5 ?_ ?_
 ·exact lV
 ·exact gA):p:=h
theorem Jy{p:Prop}(h:p:=by
 split at e
 ·cases e
 ·cases e
 ·exact h _ rfl):p:=h
theorem V5{p:Prop}(h:p:=by
 cases hx:r.panOf with
 |none=>rw[hx]at k;exact k
 |some ch=>rw[hx]at k;exact k):p:=h
theorem Cc{p:Prop}(h:p:=by
 clear hE hc
 exact nP):p:=h
theorem FW{p:Prop}(h:p:=by exact .mk _ r5 hx nE):p:=h
theorem V4{p:Prop}(h:p:=by
 obtain⟨m,h⟩:=h
 exact⟨m,fun k hk=>by rw[RP.run,aD hi];exact h k hk⟩):p:=h
theorem V3{p:Prop}(h:p:=by
 rename_i ht
 rw[aF (by simp[Region.wanted,hg,hy,Fy ht])]
 exact .inl (run h)):p:=h
theorem Jr{p:Prop}(h:p:=by simp only[bR,aL,he]):p:=h
theorem V2{p:Prop}(h:p:=by
 have:=P4 i0 hv
 rw[show i+((v.length:Nat):Int)=f by omega]at this
 exact this):p:=h
theorem V1{p:Prop}(h:p:=by
 cbv
 refine cd ?_
 refine .mk (E.wadd .i64 j 1) r5 ?_ ?_
 ·exact q1
 ·exact q2):p:=h
theorem Jq{p:Prop}(h:p:=by
 have:T.data.toList.length=T.size:=rfl
 grind):p:=h
theorem Uz{p:Prop}(h:p:=by
 cbv
 cbv
 repeat (first|(refine⟨_,he,?_⟩;cbv)|(refine⟨_,h,?_⟩;cbv))):p:=h
theorem Cb{p:Prop}(h:p:=by exact iF oM):p:=h
theorem Ca{p:Prop}(h:p:=by exact dJ _ oM):p:=h
theorem C9{p:Prop}(h:p:=by
 refine ay ?_
 exact .mk c r5 e1):p:=h
theorem Uy{p:Prop}(h:p:=by
 simp only[Sem.run_bind,Result.andThen_ok,zle hT ht hd fc zG L7 hr]
 rfl):p:=h
theorem VC{p:Prop}(h:p:=by exact(Gd.fail hR h).elim):p:=h
theorem Ux{p:Prop}(h:p:=by rw[<-hT,AL,gG,show j.toNat-a.toNat=u.length by omega,rI]):p:=h
theorem Uw{p:Prop}(h:p:=by simp only[IntKind.wrap,e1,e3,cH,aK,bN]):p:=h
theorem Jp{p:Prop}(h:p:=by
 simp only[bZ]at this
 omega):p:=h
theorem BJ{p:Prop}(h:p:=by exact(Ou h).elim):p:=h
theorem Uv{p:Prop}(h:p:=by
 rw[hE]
 show(T.data.toList[i.toNat]?).map _=some z
 rw[jZ,h,<- hz]
 rfl):p:=h
theorem LY{p:Prop}(h:p:=by
 intro P G E hc hM hE
 have g0:E.get s (E.nat a)=some zq:=by
  rw[hE];show(s.data.toList[a.toNat]?).map _=some zq
  grind
 have p0:E.ple 0 a:=xF
 clear hE hc hM h1
 exact uh):p:=h
theorem gd{p:Prop}(h:p:=by
 rw[hE]
 show(s.data.toList[a.toNat]?).map _=some z
 grind):p:=h
theorem VB{p:Prop}(h:p:=by
 refine aY.of0 aU mixed (fun _=>0) kR fun P G E hc hM hE=>?_
 replace nL:=hc _ _ _ nL
 clear hE hc hM h1
 exact uh):p:=h
theorem VA{p:Prop}(h:p:=by
 refine aY.of0 aU mixed (fun _=>0) kR fun P G E hc hM hE=>?_
 replace kH:=hc _ _ _ kH
 clear hE hc hM h1
 exact uh):p:=h
theorem nP{p:Prop}(h:p:=by
 cbv
 exact cd trivial):p:=h
theorem UZ{p:Prop}(h:p:=by
 cbv
 repeat (first|(simp only[l0];try cbv)|(simp only[d1];try cbv))
 all_goals trivial):p:=h
theorem Jt{p:Prop}(h:p:=by
 refine aY.of0 aU mixed (fun _=>0) kR fun P G E hc hM hE=>?_
 clear hE hc hM h1
 exact uh):p:=h
theorem V8{p:Prop}(h:p:=by
 refine nX Tryz.func75 rfl kR (fun n=>match n with|10=>5|_=>0) (fun n=>match n with|10=>[3]|_=>[]) (fun n i=>match n,i with|10,3=>1|10,4=>1|_,_=>0) kR rfl fun t0 P G E hc hM hE=>?_
 exact BK):p:=h
theorem V7{p:Prop}(h:p:=by
 rw[RP.run]
 split
 ·rename_i h
  have:=(yL hR (k (tx l 0)) (l.drop 1) false).drop 1
  exact Cf
 ·exact(yL hR (k []) l true).of):p:=h
theorem Js{p:Prop}(h:p:=by
 obtain⟨y,hy⟩:=hιl l (pk hσ hk).2
 grind):p:=h
theorem FX{p:Prop}(h:p:=by
 cbv
 exact ay trivial):p:=h
theorem VE{p:Prop}(h:p:=by
 cbv
 refine cd ?_
 exact VK):p:=h
theorem V6{p:Prop}(h:p:=by
 replace hk:=hM _ _ _ _ _ hk
 clear hc hM hE h hb hW
 cbv
 refine .x hk ?_
 exact jm):p:=h
theorem qh{p:Prop}(h:p:=by simpa using this):p:=h
theorem VD{p:Prop}(h:p:=by exact .mk (j2,l) r5 hx nE):p:=h
theorem uh{p:Prop}(h:p:=by
 cbv
 refine mW ?_
 exact FT):p:=h
theorem FT{p:Prop}(h:p:=by exact .mk () r5 trivial):p:=h
theorem aN{p:Prop}(h:p:=by decide):p:=h
theorem cM{p:Prop}(h:p:=by kernel_rfl):p:=h
theorem aX{p:Prop}(h:p:=by grind):p:=h
theorem wC{p:Prop}(h:p:=by repeat' (first|exact trivial|refine⟨rfl,?_⟩)):p:=h
theorem fH{p:Prop}(h:p:=by rw[hE];rfl):p:=h
theorem iY{p:Prop}(h:p:=by rw[hE];exact hn):p:=h
theorem oW{p:Prop}(h:p:=by rw[ho];simp[Op.operands]):p:=h
theorem sN{p:Prop}(h:p:=by rw[hE];exact aA oM):p:=h
theorem xT{p:Prop}(h:p:=by simp only[Sy.meas,Sy.l,Sy.rank];omega):p:=h
theorem sE{p:Prop}(h:p:=by rw[hE];exact dF oM):p:=h
theorem jO{p:Prop}(h:p:=by assumption):p:=h
theorem f6{p:Prop}(h:p:=by have:=h.h1;have:=h.h0;have:=h.z;omega):p:=h
theorem xF{p:Prop}(h:p:=by rw[hE];exact h0):p:=h
theorem LU{p:Prop}(h:p:=by rw[hE,<- g5];show(R.drop 0).take R.length=R;rw[BD,lz]):p:=h
theorem gc{p:Prop}(h:p:=by rw[hE];exact dF hA):p:=h
theorem eh{p:Prop}(h:p:=by rw[hE];exact hM):p:=h
theorem xq{p:Prop}(h:p:=by rw[hE,<- kU];exact jX oM oM):p:=h
theorem BG{p:Prop}(h:p:=by rw[hE,<- tG];exact jX oM oM):p:=h
theorem C7{p:Prop}(h:p:=by rw[<-rc,hE];show _=if(0:Int)>op2 then 0 else op2;split<;>omega):p:=h
theorem UY{p:Prop}(h:p:=by rw[ho];simp[Op.operands,Call.operands,hc,eG]):p:=h
theorem Zfv{p:Prop}(h:p:=by rw[hE];exact aA (by grind)):p:=h
theorem qg{p:Prop}(h:p:=by rw[hμ,hμ];omega):p:=h
theorem FR{p:Prop}(h:p:=by rw[hE,<- nF];exact jX oM oM):p:=h
theorem jk{p:Prop}(h:p:=by simpa using h):p:=h
theorem C6{p:Prop}(h:p:=by simp only[gC,gO,mM,eU,g3.row,k8.2.2.2.1.row,k4.1];rfl):p:=h
theorem FV{p:Prop}(h:p:=by rw[<-iy];exact ZS l false):p:=h
theorem BI{p:Prop}(h:p:=by rw[hE,h.len];exact lU):p:=h
theorem FU{p:Prop}(h:p:=by have:=h.h1;have:=h.h0;omega):p:=h
theorem nl{p:Prop}(h:p:=by simpa using hc):p:=h
theorem LX{p:Prop}(h:p:=by rw[hE];show(0:Int)<=18;omega):p:=h
theorem LW{p:Prop}(h:p:=by rw[hE];show(0:Int)<=12;omega):p:=h
theorem C8{p:Prop}(h:p:=by simp only[bR,aL,he];rfl):p:=h
theorem LV{p:Prop}(h:p:=by rw[hE];show(0:Int)<=6;omega):p:=h
theorem cj{p:Prop}(h:p:=by simp_all):p:=h
theorem BH{p:Prop}(h:p:=by rw[hb,hw];decide):p:=h
theorem Us{p:Prop}(h:p:=by rw[hE];have MZ:((toks.length:Nat):Int)=M:=lU;have:=g1.h1;rw[k2.1]at this;exact aA (by simp at this;omega)):p:=h
theorem xp{p:Prop}(h:p:=by simpa using hl):p:=h
theorem LP{p:Prop}(h:p:=by simp[Region.wanted,hg]):p:=h
theorem UX{p:Prop}(h:p:=by rw[hE,<- hb];exact jX oM oM):p:=h
theorem C2{p:Prop}(h:p:=by rw[hJ.size];exact mj x o t ho wD):p:=h
theorem BF{p:Prop}(h:p:=by simpa using hk):p:=h
theorem C1{p:Prop}(h:p:=by rw[elt];exact aA cQ):p:=h
theorem Zgh{p:Prop}(h:p:=by rw[CN _ (by decide)];rfl):p:=h
theorem UW{p:Prop}(h:p:=by rw[(hT _ _ he).1.1,YB]):p:=h
theorem FQ{p:Prop}(h:p:=by simpa using tH):p:=h
theorem C0{p:Prop}(h:p:=by rw[hE];exact aA hB):p:=h
theorem m6{p:Prop}(h:p:=by cases e):p:=h
theorem Jl{p:Prop}(h:p:=by simp[Act.eval,fU,hv]):p:=h
theorem Bz{p:Prop}(h:p:=by rw[hE,<- rU];exact jX oM oM):p:=h
theorem FP{p:Prop}(h:p:=by rw[hk];decide):p:=h
theorem xo{p:Prop}(h:p:=by simp;omega):p:=h
theorem UU{p:Prop}(h:p:=by simp[nd,bE,jM,dW]):p:=h
theorem Zgr{p:Prop}(h:p:=by rw[hE];exact dF (by grind)):p:=h
theorem Bx{p:Prop}(h:p:=by rw[hE];exact bT 0):p:=h
theorem FO{p:Prop}(h:p:=by rw[<-hR,na]):p:=h
theorem Jk{p:Prop}(h:p:=by simpa [Region.wanted,hg,hy]using Qp ht):p:=h
theorem Ur{p:Prop}(h:p:=by have yr:w.drew.heap[g]?=some (.cells cur 5 (0,0)):=hg;simp[World.shape?,yr]):p:=h
theorem UT{p:Prop}(h:p:=by have:=DU hy;omega):p:=h
theorem LO{p:Prop}(h:p:=by unfold bL;simp):p:=h
theorem LN{p:Prop}(h:p:=by simpa using ha):p:=h
theorem LM{p:Prop}(h:p:=by simp[PT.kids]):p:=h
theorem LS{p:Prop}(h:p:=by rw[hl];decide):p:=h
theorem C5{p:Prop}(h:p:=by rw[hE];show 0<=a1;omega):p:=h
theorem Jo{p:Prop}(h:p:=by rw[hE];exact(by decide:(0:Int)<=1)):p:=h
theorem Uu{p:Prop}(h:p:=by rw[hE];have MZ:((toks.length:Nat):Int)=M:=lU;have:=g1.h1;exact dF oM):p:=h
theorem C4{p:Prop}(h:p:=by rw[hE];exact jX oM oM):p:=h
theorem LQ{p:Prop}(h:p:=by rw[h];decide):p:=h
theorem Jn{p:Prop}(h:p:=by rw[hE,<- hv];exact zu2 oM oM uZ):p:=h
theorem C3{p:Prop}(h:p:=by rw[dZ,jV,ht];grind):p:=h
theorem Jm{p:Prop}(h:p:=by rw[hE];exact aA cQ):p:=h
theorem Ut{p:Prop}(h:p:=by rw[hE,wu];exact dF (show ¬a<((ts.length:Nat):Int) by omega)):p:=h
theorem Bw{p:Prop}(h:p:=by rw[<-nu];exact dQ):p:=h
theorem US{p:Prop}(h:p:=by rw[EE,ha];rfl):p:=h
theorem Uq{p:Prop}(h:p:=by unfold qZ;rw[ht,jQ,aF ⟨by rw[qS.1],by omega⟩]):p:=h
theorem UR{p:Prop}(h:p:=by simpa using hs):p:=h
theorem UQ{p:Prop}(h:p:=by simpa using ho):p:=h
theorem UP{p:Prop}(h:p:=by simpa using he):p:=h
theorem UO{p:Prop}(h:p:=by rw[hd];decide):p:=h
theorem Bv{p:Prop}(h:p:=by rw[<-g5,<- g4,EB]):p:=h
theorem Jj{p:Prop}(h:p:=by rw[ud];exact aP _):p:=h
theorem Bu{p:Prop}(h:p:=by rw[jZ];exact oG):p:=h
theorem Bt{p:Prop}(h:p:=by rw[jZ];exact lB):p:=h
theorem Br{p:Prop}(h:p:=by rw[jZ];exact dg):p:=h
theorem Bq{p:Prop}(h:p:=by rw[lT.len];grind):p:=h
theorem Up{p:Prop}(h:p:=by simp only[Act.eval,fU,hv];rfl):p:=h
theorem Uo{p:Prop}(h:p:=by rw[<-hW,<- hD];exact(n6 (p:=mP) (bB s a)).2.2.symm):p:=h
theorem Un{p:Prop}(h:p:=by rw[<-hO,ByteArray.data_append,Array.toList_append,jZ]):p:=h
theorem Um{p:Prop}(h:p:=by have:=El h;have:s.data.toList.length=s.size:=rfl;omega):p:=h
theorem Bp{p:Prop}(h:p:=by rw[Od,sT,dY]):p:=h
theorem eC{p:Prop}(h:p:=by omega):p:=h
theorem dL{p:Prop}(h:p:=by simp):p:=h
theorem LL{p:Prop}(h:p:=by rw[hE];exact aA aX):p:=h
theorem Ji{p:Prop}(h:p:=by rw[CN _ aN];rfl):p:=h
theorem Bo{p:Prop}(h:p:=by rw[hE];exact dF aX):p:=h
theorem kR{p:Prop}(h:p:=by kernel_rfl):p:=h
theorem oM{p:Prop}(h:p:=by omega):p:=h
theorem r5{p:Prop}(h:p:=by exact⟨rfl,rfl,rfl,rfl,rfl⟩):p:=h
abbrev xE:=@Exists.elim
abbrev oE:=@Or.elim
abbrev oT:=@of_decide_eq_true
abbrev dF:=@decide_eq_false
abbrev nR:=@Nat.le_refl
abbrev qD:=@List.cons_append
abbrev sD:=@List.length_append
abbrev tB:=@List.nil_append
abbrev zC:=@List.length_drop
abbrev gK:=@Bool.and_eq_true
abbrev qQ:=@List.length_cons
abbrev xf:=@Nat.lt_succ_self
abbrev qe:=@aO
abbrev zD:=@List.drop_drop
abbrev J6:=@List.length_singleton
abbrev SX:=@bV
abbrev BD:=@List.drop_zero
abbrev nk:=@List.length_map
abbrev lz:=@List.take_length
abbrev dV:=@Classical.em
open Go.RowKit
section
variable{P:Program}{ops:Array Oper}{Q:Exit->Act->World->Prop}
def Gr(w w':World):Prop:=Below w.heap.size w w'
theorem Gr.refl(w:World):Gr w w:=Below.refl _ _
theorem Gr.trans{a b c:World}(h:Gr a b)(k:Gr b c):Gr a c:=Below.trans h (Below.mono k h.size)
def au(P:Program)(R:Value->World->Prop):Result Next->Prop
 | .ok (.value v) w'=>R v w'
 | .ok .skip w'=>R undef w'
 | .ok (.enter f args) w'=>Calls P f args w' fun e w''=>∃v,e=.returned v/\R v w''
 |_=>False
theorem Fz{o:Oper}{a:Act}{w:World}{R:Value->World->Prop}{K:Act->World->Prop}
  (h:au P R ((execOp a.eval o).run P w)) (hK:∀v w',R v w'->K (a.put o.dst v) w'):o.wp P a w K Q:=by
 unfold Oper.wp;generalize (execOp a.eval o).run P w=r at *
 cases r with
 |ok n w'=>
  cases n<;>simp only[au]at h<;>simp only[Oper.upon]
  case value v=>exact hK _ _ h
  case skip=>exact hK _ _ h
  case enter f args=>exact h.mono fun e w'' ⟨v,he,hr⟩=>by grind
 |halt x w'=>simp only[au]at h
def jN(ops:Array Oper)(i:Nat):List Nat:=match ops[i]? with
 |some o=>(o.after.toList.filter fun e=>Region.binds .any e).map (·.on)
 |none=>[]
def Sg(ops:Array Oper)(S:List Nat):List Nat:=(S++S.flatMap (jN ops)).eraseDups
def KB(ops:Array Oper):Nat->List Nat->List Nat
 |0,S=>S
 |n+1,S=>KB ops n (Sg ops S)
def qc(ops:Array Oper)(k r:Nat):Bool:=
 ((List.range ops.size).all fun i=>(jN ops i).all fun d=>decide (d<i)) &&
 ((List.range ops.size).all fun j=>decide (j<k)||(List.range j).all fun i=>(KB ops r (jN ops j)).contains i) &&
 ((List.range ops.size).all fun i=>(List.range ops.size).all fun j=>decide (i=j)||((ops[i]?).bind (·.dst)).isNone||(ops[i]?).bind (·.dst) != (ops[j]?).bind (·.dst))
def u5(ops:Array Oper)(ρ:Operand->Value)(j:Nat):Option Bool:=match(ops[j]?).bind (·.dst)with
 |some t=>(match ρ (.tmp t)with|.bool b=>some b|_=>none)
 |none=>none
theorem PE(a:Act):yielded ops a.tmps=u5 ops a.eval:=by
 funext j
 unfold yielded u5
 cases h:(ops[j]?).bind (·.dst)with
 |none=>rfl
 |some t=>
  simp only[Option.bind_some,Act.eval]
  cases ht:a.tmps[t]? with
  |none=>simp[ht,undef]
  |some v=>simp[ht];cases v<;>rfl
structure qj(ops:Array Oper)(C:World->Prop)(V:Nat->Value->World->Prop)(a0:Act)(listed:Array Bool)(a:Act)(w:World):Prop where
 cls:C w
 defers:a.defers=a0.defers
 size:a.tmps.size=a0.tmps.size
 lsize:listed.size=ops.size
 vals:∀(i:Nat)(o:Oper)(t:Tmp),ops[i]?=some o->listed.getD i false=true->o.dst=some t->V i (a.eval (.tmp t)) w
 rest:∀(t:Tmp),(∀(i:Nat)(o:Oper),ops[i]?=some o->listed.getD i false=true->o.dst≠some t)->a.tmps[t]?=a0.tmps[t]?
 closed:∀i,listed.getD i false=true->∀d∈jN ops i,listed.getD d false=true
theorem EG{listed:Array Bool}{i:Nat}(h:i∈Region.ready .any ops listed):∀d∈jN ops i,listed.getD d false=true:=by
 obtain⟨_,o,ho,eH⟩:=mem_ready.1 h;intro d hd;simp only[jN,ho,fT,v8]at hd
 grind
theorem KI{listed:Array Bool}{i:Nat}(h:listed.getD i true=false):listed.getD i false=false/\i<listed.size:=by
 grind
theorem AP{listed:Array Bool}{i:Nat}(h:i<listed.size):(listed.setIfInBounds i true).getD i false=true:=by simp[h]
theorem Gh{listed:Array Bool}(hc:∀i,listed.getD i false=true->∀d∈jN ops i,listed.getD d false=true):
  ∀(r:Nat)(S:List Nat),(∀d∈S,listed.getD d false=true)->∀d∈KB ops r S,listed.getD d false=true
 |0,_,h=>h
 |r+1,S,h=>Gh hc r _ fun d hd=>by
  unfold Sg at hd;rw[List.mem_eraseDups,kX,List.mem_flatMap]at hd
  grind
theorem qj.put{C:World->Prop}{V:Nat->Value->World->Prop}{a0:Act}{listed:Array Bool}{a:Act}{w w':World}{i:Nat}{o:Oper}{v:Value}
  (h:qj ops C V a0 listed a w) (ho:ops[i]?=some o) (hr:i∈Region.ready .any ops listed)
  (hd:∀(j:Nat),i≠j->∀(oj:Oper)(t:Tmp),ops[j]?=some oj->o.dst=some t->oj.dst≠some t) (cQ:∀t,o.dst=some t->t<a0.tmps.size)
  (mR:∀i v w w',C w->C w'->Gr w w'->V i v w->V i v w') (hC:C w') (hg:Gr w w') (hV:V i v w'):
  qj ops C V a0 (listed.setIfInBounds i true) (a.put o.dst v) w':=by
 have yA:=EG hr;obtain⟨oG,_⟩:=mem_ready.1 hr;obtain⟨y8,vP⟩:=KI oG;refine⟨hC,?_,?_,by simpa using h.lsize,?_,?_,?_⟩
 ·cases ht:o.dst<;>simp only[Act.put]<;>exact h.defers
 ·cases ht:o.dst<;>simp[Act.put,h.size]
 ·intro j oj t hj hl eR
  by_cases uq:i=j
  ·subst uq;obtain rfl:o=oj:=bA (ho.symm.trans hj);have Lx:=cQ t eR
   have:(a.put o.dst v).eval (.tmp t)=v:=by
    simp[Act.eval,Act.put,eR,h.size,Lx]
   rw[this];exact hV
  ·rw[getD_set_ne false uq]at hl;have h1:=h.vals j oj t hj hl eR
   have:(a.put o.dst v).eval (.tmp t)=a.eval (.tmp t):=Act.eval_put fun d wO hx=>by
    grind
   rw[this];exact mR j _ w w' h.cls hC hg h1
 ·intro t ht;have h0:o.dst≠some t:=ht i o ho (AP vP);have h1:a.tmps[t]?=a0.tmps[t]?:=h.rest t fun j oj hj hl=>ht j oj hj (getD_set_true hl)
  rw[<-h1]
  cases eR:o.dst with
  |none=>rfl
  |some s=>
   have dN:s≠t:=fun e=>h0 (by rw[eR,e])
   simp[Act.put,mZ dN]
 ·intro j hl d wO
  by_cases uq:i=j
  ·subst uq;exact getD_set_true (yA d wO)
  ·rw[getD_set_ne false uq]at hl;exact getD_set_true (h.closed j hl d wO)
theorem Ga{listed:Array Bool}(gW:∀i d,d∈jN ops i->d<i)(tH:listed.size=ops.size):
  ∀(n i:Nat),i<=n->i<ops.size->listed.getD i false=false->∃j,j<=i/\j∈Region.ready .any ops listed:=by
 intro n
 induction n with
 |zero=>
  intro i hi cQ oG;obtain rfl:i=0:=eC
  refine⟨0,nR _,mem_ready.2 ⟨?_,ops[0],eS cQ,fun e he hb=>?_⟩⟩
  ·grind
  ·have hm:e.on∈jN ops 0:=by
    simp only[jN,eS cQ,fT,v8]
    grind
   grind
 |succ n ih=>
  intro i hi cQ oG
  by_cases eH:∀d∈jN ops i,listed.getD d false=true
  ·refine⟨i,nR _,mem_ready.2 ⟨?_,ops[i],eS cQ,fun e he hb=>?_⟩⟩
   ·grind
   ·refine eH e.on ?_;simp only[jN,eS cQ,fT,v8]
    grind
  grind
theorem Q9(gW:∀i d,d∈jN ops i->d<i)(r k:Nat)(yP:∀j,k<=j->j<ops.size->∀i,i<j->i∈KB ops r (jN ops j)):
  ∀(m j:Nat)(listed:Array Bool)(a:Act)(w:World),k<=j->j+m=ops.size->listed.size=ops.size →
   (∀i,i<j->listed.getD i false=true)->(∀i,j<=i->i<ops.size->listed.getD i false=false) →
   (∀i,listed.getD i false=true->∀d∈jN ops i,listed.getD d false=true) →
   wpList P ops Q (ops.toList.drop j) a w->∀fuel,m<=fuel->wpAny P .any ops Q fuel listed a w:=by
 intro m
 induction m with
 |zero=>
  intro j listed a w _ hjm tH hl _ _ h fuel _;have hd:ops.toList.drop j=[]:=vV xo
  rw[hd]at h;refine wpAny_done ?_ h fuel;rw[oc];intro i hi;obtain⟨oG,o,ho,_⟩:=mem_ready.1 hi
  grind
 |succ m ih=>
  intro j listed a w Yq hjm tH hl hu hc h fuel hf;have yp:j<ops.size:=eC
  have hd:ops.toList.drop j=ops[j]::ops.toList.drop (j+1):=by
   rw[cU (by simpa using yp)];simp
  rw[hd]at h;have GQ:∀i,i∈Region.ready .any ops listed->i=j:=by
   intro i hi;obtain⟨oG,o,ho,_⟩:=mem_ready.1 hi;have cQ:=(jF.1 ho).1;have h2:=(KI oG).1
   rcases ki i j with uq|uq|uq
   ·grind
   ·exact uq
   ·have:=Gh hc r _ (EG hi) j (yP i oM cQ j uq)
    grind
  obtain⟨fuel,rfl⟩:∃f,fuel=f+1:=⟨fuel-1,by omega⟩
  refine⟨fun h0=>?_,fun i hi=>?_⟩
  ·obtain⟨i,_,hi⟩:=Ga gW tH j j (nR _) yp (hu j (nR _) yp)
   grind
  ·obtain rfl:=GQ i hi;have XB:∀a w,wpList P ops Q (ops.toList.drop (i+1)) a w->wpAny P .any ops Q fuel (listed.setIfInBounds i true) a w:=fun a w hh=>by
    refine ih (i+1) _ a w oM oM FQ (fun x hx=>?_) (fun x hx xG=>?_) (fun x hx d wO=>?_) hh fuel oM
    ·by_cases nC:i=x
     ·subst nC;simp_all
     ·exact getD_set_true (hl x oM)
    ·rw[getD_set_ne false oM];grind
    ·by_cases nC:i=x
     ·subst nC;exact getD_set_true (EG hi d wO)
     ·rw[getD_set_ne false nC]at hx;exact getD_set_true (hc x hx d wO)
   have ho:ops[i]?=some ops[i]:=eS yp;unfold wpOp;simp only[ho];unfold wpList at h
   split
   ·rename_i hw;rw[aF hw]at h;exact h.imp (Oper.wp_mono XB) id
   grind
end
inductive PV where
 |v (x:Value)
 |e0
 |ro (s:Nat) (rows:List (List PV))
 |rop (row:List PV)
 |agg (cs:List PV)
 |tup (cs:List PV)
 |pan (ch:List PanicEntry)
 |err
inductive AV where
 |p (x:PV)
 |own (k j:Nat)
 |orw (k i j:Nat)
 |osl (k i n:Nat)
 |agg (cs:List AV)
 |tup (cs:List AV)
 |clo (f:FuncId) (fs cs:List AV)
 |junk
inductive cE where
 |box (cs:List AV) (t:TypeId) (g:Option Nat)
 |rows (s:Nat) (rs:List (List PV)) (t:TypeId)
 |iter (s:ByteArray) (pos:Nat)
abbrev AH:=List (Option cE)
abbrev Pl:=List (Option Nat×Nat×Nat)
inductive cI(w:World)(R:Nat->Prop):PV->Value->Prop
 |v (x:Value):cI w R (.v x) x
 |e0 (A:Option Addr):cI w R .e0 (.slice A 0 0)
 |ro0 (s:Nat) (A:Option Addr) (cap:Nat):cI w R (.ro s []) (.slice A 0 cap)
 |ro (s:Nat) (rows:List (List PV)) (b o cap:Nat) (vs:Nat->Nat->Value) (hR:R b) (hb:b<w.heap.size) (pQ:rows.length<=cap)
   (hs:∀(i:Nat)(row:List PV),rows[i]?=some row->row.length=s)
   (hc:∀(i j:Nat)(row:List PV)(a:PV),rows[i]?=some row->row[j]?=some a->w.cell? ⟨b,o+(i*s+j),none⟩=some (vs i j)/\(vs i j).oneCell'=true)
   (hr:∀(i j:Nat)(row:List PV)(a:PV),rows[i]?=some row->row[j]?=some a->cI w R a (vs i j)):
   cI w R (.ro s rows) (.slice (some ⟨b,o,none⟩) rows.length cap)
 |rop (row:List PV) (b o:Nat) (vs:Nat->Value) (hR:R b) (hb:b<w.heap.size)
   (hc:∀(j:Nat)(a:PV),row[j]?=some a->w.cell? ⟨b,o+j,none⟩=some (vs j)/\(vs j).oneCell'=true)
   (hr:∀(j:Nat)(a:PV),row[j]?=some a->cI w R a (vs j)):cI w R (.rop row) (.pointer (some ⟨b,o,none⟩))
 |agg (cs:List PV) (vs:List Value) (hl:cs.length=vs.length) (hr:∀(j:Nat)(a:PV)(v:Value),cs[j]?=some a->vs[j]?=some v->cI w R a v):cI w R (.agg cs) (.agg vs.toArray)
 |tup (cs:List PV) (vs:List Value) (hl:cs.length=vs.length) (hr:∀(j:Nat)(a:PV)(v:Value),cs[j]?=some a->vs[j]?=some v->cI w R a v):cI w R (.tup cs) (.tuple vs.toArray)
 |err (t:TypeId) (v:Value):cI w R .err (.iface t v)
theorem Oa{w w':World}{b o:Nat}(h:w'.heap[b]?=w.heap[b]?):w'.cell? ⟨b,o,none⟩=w.cell? ⟨b,o,none⟩:=World.cell?_of_block h
theorem cI.keep{w w':World}{R R':Nat->Prop}(dR:w.heap.size<=w'.heap.size)(hk:∀b,R b->b<w.heap.size->R' b/\w'.heap[b]?=w.heap[b]?){p:PV}{v:Value}(h:cI w R p v):cI w' R' p v:=by
 induction h with
 |v x=>exact .v x
 |e0 A=>exact .e0 A
 |ro0 s A cap=>exact .ro0 s A cap
 |ro s rows b o cap vs hR hb pQ hs hc hr ih=>
  have:=hk b hR hb
  exact .ro s rows b o cap vs this.1 oM pQ hs (fun i j row a h1 h2=>by rw[Oa this.2];grind) ih
 |rop row b o vs hR hb hc hr ih=>
  have:=hk b hR hb
  exact .rop row b o vs this.1 oM (fun j a h1=>by rw[Oa this.2];exact hc j a h1) ih
 |agg cs vs hl hr ih=>exact .agg cs vs hl ih
 |tup cs vs hl hr ih=>exact .tup cs vs hl ih
 |err t v=>exact .err t v
inductive dG(w:World)(ι:Pl)(R:Nat->Prop):AV->Value->Prop
 |p (x:PV) (v:Value) (h:cI w R x v):dG w ι R (.p x) v
 |own (k j c:Nat) (s:Nat×Nat) (h:ι[k]?=some (some c,s)):dG w ι R (.own k j) (.pointer (some ⟨c,j,none⟩))
 |orw (k i j c:Nat) (s:Nat×Nat) (h:ι[k]?=some (some c,s)):dG w ι R (.orw k i j) (.pointer (some ⟨c,i*s.1+j,none⟩))
 |osl0 (k i:Nat):dG w ι R (.osl k i 0) (.slice none 0 0)
 |osl (k i n c cap:Nat) (s:Nat×Nat) (h:ι[k]?=some (some c,s)) (hn:n<=cap) (hm:cap<=maxLen) (hz:s.2=(i+cap)*s.1):
   dG w ι R (.osl k i n) (.slice (some ⟨c,i*s.1,none⟩) n cap)
 |agg (cs:List AV) (vs:List Value) (hl:cs.length=vs.length) (hr:∀(j:Nat)(a:AV)(v:Value),cs[j]?=some a->vs[j]?=some v->dG w ι R a v):dG w ι R (.agg cs) (.agg vs.toArray)
 |tup (cs:List AV) (vs:List Value) (hl:cs.length=vs.length) (hr:∀(j:Nat)(a:AV)(v:Value),cs[j]?=some a->vs[j]?=some v->dG w ι R a v):dG w ι R (.tup cs) (.tuple vs.toArray)
 |clo (f:FuncId) (fs cs:List AV) (us vs:List Value) (hl:fs.length=us.length) (hr:∀(j:Nat)(a:AV)(v:Value),fs[j]?=some a->us[j]?=some v->dG w ι R a v)
   (pM:cs.length=vs.length) (gv:∀(j:Nat)(a:AV)(v:Value),cs[j]?=some a->vs[j]?=some v->dG w ι R a v):dG w ι R (.clo f fs cs) (.func (.func f) us.toArray vs.toArray)
 |junk (v:Value):dG w ι R .junk v
def one(k:Nat):Nat->Bool:=fun l=>Nat.beq l k
theorem z8k(k:Nat):one k k=true:=by simp[one]
theorem xi1{k l:Nat}(h:l≠k):one k l=false:=by
 unfold one
 cases hb:Nat.beq l k with
 |true=>simp_all
 |false=>rfl
def AV.scrub(p:Nat->Bool):AV->AV
 | .own l j=>(match p l with
  |true=>.junk
  |false=>.own l j)
 | .orw l i j=>(match p l with
  |true=>.junk
  |false=>.orw l i j)
 | .osl l i n=>(match p l with
  |true=>.junk
  |false=>.osl l i n)
 | .agg cs=>.agg (scrubL p cs)
 | .tup cs=>.tup (scrubL p cs)
 | .clo f fs cs=>.clo f (scrubL p fs) (scrubL p cs)
 |a=>a
where scrubL (p:Nat->Bool):List AV->List AV
 |[]=>[]
 |a::as=>a.scrub p::scrubL p as
theorem OQ(p:Nat->Bool):∀(cs:List AV)(j:Nat),(AV.scrub.scrubL p cs)[j]?=(cs[j]?).map (AV.scrub p)
 |[],j=>by simp[AV.scrub.scrubL]
 |a::as,0=>by simp[AV.scrub.scrubL]
 |a::as,j+1=>by simpa [AV.scrub.scrubL]using OQ p as j
theorem OR(p:Nat->Bool):∀(cs:List AV),(AV.scrub.scrubL p cs).length=cs.length
 |[]=>rfl
 |a::as=>by simp[AV.scrub.scrubL,OR p as]
def mz(sc:Option (Nat->Bool))(a:AV):AV:=match sc with
 |some p=>a.scrub p
 |none=>a
structure bS(sc:Option (Nat->Bool))(w:World)(ι:Pl)(R:Nat->Prop)(w':World)(ι':Pl)(R':Nat->Prop):Prop where
 size:w.heap.size<=w'.heap.size
 read:∀b,R b->b<w.heap.size->R' b/\w'.heap[b]?=w.heap[b]?
 place:∀(k c:Nat)(s:Nat×Nat),(∀p,sc=some p->p k=false)->ι[k]?=some (some c,s)->ι'[k]?=some (some c,s)
theorem dG.keep{sc:Option (Nat->Bool)}{w w':World}{ι ι':Pl}{R R':Nat->Prop}(hk:bS sc w ι R w' ι' R'){a:AV}{v:Value}(h:dG w ι R a v):dG w' ι' R' (mz sc a) v:=by
 cases sc with
 |none=>
  unfold mz
  induction h with
  |p x v h=>exact .p x v (h.keep hk.size hk.read)
  |own k j c s h=>exact .own k j c s (hk.place k _ _ (fun p e=>by cases e) h)
  |orw k i j c s h=>exact .orw k i j c s (hk.place k _ _ (fun p e=>by cases e) h)
  |osl0 k i=>exact .osl0 k i
  |osl k i n c cap s h hn hm hz=>exact .osl k i n c cap s (hk.place k _ _ (fun p e=>by cases e) h) hn hm hz
  |agg cs vs hl hr ih=>exact .agg cs vs hl ih
  |tup cs vs hl hr ih=>exact .tup cs vs hl ih
  |clo f fs cs us vs hl hr pM gv ih ih'=>exact .clo f fs cs us vs hl ih pM ih'
  |junk v=>exact .junk v
 |some x=>
  unfold mz;simp only
  induction h with
  |p y v h=>exact .p y v (h.keep hk.size hk.read)
  |own k j c s h=>
   unfold AV.scrub
   split
   ·exact .junk _
   ·rename_i dN;exact .own k j c s (hk.place k _ _ (fun p e=>by cases e;exact dN) h)
  |orw k i j c s h=>
   unfold AV.scrub
   split
   ·exact .junk _
   ·rename_i dN;exact .orw k i j c s (hk.place k _ _ (fun p e=>by cases e;exact dN) h)
  |osl0 k i=>
   unfold AV.scrub
   split
   ·exact .junk _
   ·exact .osl0 k i
  |osl k i n c cap s h hn hm hz=>
   unfold AV.scrub
   split
   ·exact .junk _
   ·rename_i dN;exact .osl k i n c cap s (hk.place k _ _ (fun p e=>by cases e;exact dN) h) hn hm hz
  |agg cs vs hl hr ih=>
   refine .agg _ vs (by rw[OR];exact hl) fun j a v ha hv=>?_
   rw[OQ]at ha
   grind
  |tup cs vs hl hr ih=>
   refine .tup _ vs (by rw[OR];exact hl) fun j a v ha hv=>?_
   rw[OQ]at ha
   grind
  |clo f fs cs us vs hl hr pM gv ih ih'=>
   refine .clo f _ _ us vs (by rw[OR];exact hl) (fun j a v ha hv=>?_) (by rw[OR];exact pM) (fun j a v ha hv=>?_)
   ·rw[OQ]at ha
    grind
   ·rw[OQ]at ha
    grind
  |junk v=>exact .junk v
theorem dG.keep0{w w':World}{ι ι':Pl}{R R':Nat->Prop}(hk:bS none w ι R w' ι' R'){a:AV}{v:Value}(h:dG w ι R a v):dG w' ι' R' a v:=h.keep hk
def jB(ι:Pl)(H:AH)(c:Nat):Prop:=∃(k:Nat)(b:cE)(s:Nat×Nat),H[k]?=some (some b)/\ι[k]?=some (some c,s)
def Rd(B:Nat->Prop)(ι:Pl)(H:AH)(b:Nat):Prop:=B b/\¬jB ι H b
def ft(w:World)(ι:Pl)(R:Nat->Prop)(c:Option Nat)(s:Nat×Nat):cE->Prop
 | .box cs t g=>(s=(0,0)/\∀n,g=some n->c=some n)/\∃(c':Nat)(arr:Array Value),c=some c'/\w.heap[c']?=some (.cells arr t (0,0))/\arr.size=cs.length/\∀(j:Nat)(a:AV),cs[j]?=some a->∃v,arr[j]?=some v/\v.oneCell'=true/\dG w ι R a v
 | .rows s' rs t=>s'=s.1/\(∀(i:Nat)(row:List PV),rs[i]?=some row->row.length=s.1)/\((c=none/\rs=[])\/∃(c':Nat)(arr:Array Value),c=some c'/\w.heap[c']?=some (.cells arr t (0,0))/\arr.size=s.2 ∧
   ∀(i j:Nat)(row:List PV)(a:PV),rs[i]?=some row->row[j]?=some a->∃v,arr[i*s.1+j]?=some v/\v.oneCell'=true/\cI w R a v)
 | .iter str pos=>∃(c':Nat),c=some c'/\w.heap[c']?=some (.stringIter str pos)
structure cJ where
 w:World
 X:Nat->Prop
 ds:List Deferred
 pin:Nat->Option Value
def cJ.own(b:cJ)(c:Nat):Prop:=b.X c\/b.w.heap.size<=c
structure uD(b:cJ)(w:World):Prop where
 os:w.os=b.w.os
 tape:w.tape=b.w.tape
 output:w.output=b.w.output
 size:b.w.heap.size<=w.heap.size
 block:∀k,k<b.w.heap.size->¬b.X k->w.heap[k]?=b.w.heap[k]?
theorem uD.trans{b:cJ}{w w':World}(h:uD b w)(hg:Gr w w'):uD b w':=
 ⟨hg.os.trans h.os,hg.tape.trans h.tape,hg.output.trans h.output,aR h.size hg.size,fun k hk hx=>by
  have:=h.size
  rw[hg.block k oM];exact h.block k hk hx⟩
def cJ.of(w:World):cJ:=⟨w,fun _=>False,[],fun _=>none⟩
theorem uD.of{w w':World}(h:Gr w w'):uD (cJ.of w) w':=⟨h.os,h.tape,h.output,h.size,fun k hk _=>h.block k hk⟩
theorem uD.gr{w w':World}(h:uD (cJ.of w) w'):Gr w w':=⟨h.os,h.tape,h.output,h.size,fun k hk=>h.block k hk id⟩
structure eX(w0:cJ)(B:Nat->Prop)(w:World)(ι:Pl)(H:AH):Prop where
 gr:uD w0 w
 fut:∀b,w.heap.size<=b->B b
 len:ι.length=H.length
 blk:∀(k:Nat)(b:cE)(c:Option Nat)(s:Nat×Nat),H[k]?=some (some b)->ι[k]?=some (c,s)->(∀c',c=some c'->w0.own c')/\ft w ι (Rd B ι H) c s b
 inj:∀(k l:Nat)(b b':cE)(c:Nat)(s s':Nat×Nat),H[k]?=some (some b)->H[l]?=some (some b')->ι[k]?=some (some c,s)->ι[l]?=some (some c,s')->k=l
theorem ft.block{w:World}{ι:Pl}{R:Nat->Prop}{c:Nat}{s:Nat×Nat}{b:cE}(h:ft w ι R (some c) s b):∃o,w.heap[c]?=some o:=by
 cases b with
 |box cs t g=>obtain⟨_,c',arr,e,h1,_⟩:=h;grind
 |rows s' rs t=>
  obtain⟨_,_,h|⟨c',arr,e,h1,_⟩⟩:=h
  ·cases h.1
  grind
 |iter str pos=>obtain⟨c',e,h1⟩:=h;grind
theorem n7{w:World}{c:Nat}{o:Obj}(h:w.heap[c]?=some o):c<w.heap.size:=(jF.1 h).1
theorem eX.lt{w0:cJ}{B:Nat->Prop}{w:World}{ι:Pl}{H:AH}(h:eX w0 B w ι H){c:Nat}(ho:jB ι H c):c<w.heap.size:=by
 obtain⟨k,b,s,h1,h2⟩:=ho;obtain⟨o,ho⟩:=(h.blk k b _ s h1 h2).2.block;exact n7 ho
theorem eX.ge{w0:cJ}{B:Nat->Prop}{w:World}{ι:Pl}{H:AH}(h:eX w0 B w ι H){c:Nat}(ho:jB ι H c):w0.own c:=by
 obtain⟨k,b,s,h1,h2⟩:=ho;exact(h.blk k b _ s h1 h2).1 c rfl
def IX(sc:Option (Nat->Bool)):cE->cE
 | .box cs t g=>.box (cs.map (mz sc)) t g
 |b=>b
theorem ft.keep{sc:Option (Nat->Bool)}{w w':World}{ι ι':Pl}{R R':Nat->Prop}(hk:bS sc w ι R w' ι' R'){c:Option Nat}{s:Nat×Nat}{b:cE}
  (hb:∀c',c=some c'->w'.heap[c']?=w.heap[c']?) (h:ft w ι R c s b):
  ft w' ι' R' c s (IX sc b):=by
 cases b with
 |box cs t g=>
  obtain⟨hg,c',arr,e,h1,h2,h3⟩:=h;refine⟨hg,c',arr,e,by rw[hb c' e];exact h1,by simpa using h2,fun j a ha=>?_⟩
  rw[aI]at ha
  cases hj:cs[j]? with
  |none=>rw[hj]at ha;cases ha
  |some y=>
   rw[hj]at ha;cases ha
   obtain⟨v,hv,vR,hr⟩:=h3 j y hj;exact⟨v,hv,vR,hr.keep hk⟩
 |rows s' rs t=>
  obtain⟨e,hl,h⟩:=h;refine⟨e,hl,?_⟩
  rcases h with h|⟨c',arr,e,h1,hz,h3⟩
  ·exact .inl h
  ·refine .inr ⟨c',arr,e,by rw[hb c' e];exact h1,hz,fun i j row a h4 h5=>?_⟩
   obtain⟨v,hv,vR,hr⟩:=h3 i j row a h4 h5;exact⟨v,hv,vR,hr.keep hk.size hk.read⟩
 |iter str pos=>
  obtain⟨c',e,h1⟩:=h;exact⟨c',e,by rw[hb c' e];exact h1⟩
theorem ft.keep0{w w':World}{ι ι':Pl}{R R':Nat->Prop}(hk:bS none w ι R w' ι' R'){c:Option Nat}{s:Nat×Nat}{b:cE}
  (hb:∀c',c=some c'->w'.heap[c']?=w.heap[c']?) (h:ft w ι R c s b):ft w' ι' R' c s b:=by
 have:=h.keep hk hb
 cases b with
 |box cs t g=>
  have e:cs.map (mz none)=cs:=by
   have:mz none=id:=rfl
   rw[this,List.map_id]
  unfold IX at this
  grind
 |rows s' rs t=>exact this
 |iter str pos=>exact this
theorem bS.gr{B:Nat->Prop}{w w':World}{ι:Pl}{H:AH}(hg:Gr w w'):bS none w ι (Rd B ι H) w' ι (Rd B ι H):=
 ⟨hg.size,fun b hb cQ=>⟨hb,hg.block b cQ⟩,fun _ _ _ _ h=>h⟩
theorem eX.grow{w0:cJ}{B:Nat->Prop}{w w':World}{ι:Pl}{H:AH}(h:eX w0 B w ι H)(hg:Gr w w'):eX w0 B w' ι H:=
 ⟨h.gr.trans hg,fun b hb=>h.fut b (aR hg.size hb),h.len,fun k b c s h1 h2=>⟨(h.blk k b c s h1 h2).1,(h.blk k b c s h1 h2).2.keep0 (bS.gr hg) fun c' e=>by
  subst e;exact hg.block c' (h.lt ⟨k,b,s,h1,h2⟩)⟩,h.inj⟩
theorem eX.size{w0:cJ}{B:Nat->Prop}{w:World}{ι:Pl}{H:AH}(h:eX w0 B w ι H):w0.w.heap.size<=w.heap.size:=h.gr.size
structure TI where
 desc:TypeDesc
 size:Nat
 bytes:Nat
 zero:Value
 cmp:Bool:=false
abbrev TT:=TypeId->Option TI
def iE(P:Program)(T:TT):Prop:=∀t i,T t=some i->(P.underlying t=some i.desc/\(P.info? t).map (fun j=>(j.zero,j.size,j.bytes))=some (some i.zero,i.size,i.bytes))/\(i.cmp=true->P.stoodInHeld t=false/\P.eqGuardType P.depth t=false)
def vm:TypeDesc->Bool
 | .struct _=>true
 | .array _ _=>true
 |_=>false
section
variable{P:Program}{T:TT}(hT:iE P T)
include hT
theorem qO{t:TypeId}{i:TI}(h:T t=some i)(w:World):(underlying t).run P w=.ok i.desc w:=run_underlying (hT t i h).1.1 w
theorem tu{t:TypeId}{i:TI}(h:T t=some i)(w:World):(sizeOf t).run P w=.ok i.size w:=by
 obtain⟨j,hj,_,hs,_⟩:=info_parts (hT t i h).1.2;simp[sizeOf,typeInfo,hj,hs]
theorem NJ{t:TypeId}{i:TI}(h:T t=some i)(w:World):(zeroValue t).run P w=.ok i.zero w:=by
 obtain⟨j,hj,hz,_,_⟩:=info_parts (hT t i h).1.2;simp[zeroValue,typeInfo,hj,hz]
theorem IK{t:TypeId}{i:TI}(h:T t=some i)(w:World):(isAgg t).run P w=.ok (vm i.desc) w:=by
 unfold isAgg;rw[Sem.run_bind,qO hT h,Result.andThen_ok]
 cases i.desc<;>rfl
end
def It:Value->PV
 | .agg cs=>.agg (cs.toList.map .v)
 |x=>.v x
def bR(env:List AV):Operand->AV
 | .tmp t=>env.getD t .junk
 | .const x=>.p (It x)
 | .global g=>.p (.v (.pointer (some ⟨g,0,none⟩)))
 | .func f=>.p (.v (.func (.func f) #[] #[]))
theorem ZK(w:World)(R:Nat->Prop)(x:Value):cI w R (It x) x:=by
 unfold It
 split
 ·rename_i cs
  have:=cI.agg (w:=w) (R:=R) (cs.toList.map .v) cs.toList dL (fun j a v ha hv=>by
   rw[aI,hv]at ha
   cases ha
   exact .v v)
  exact qh
 ·exact .v _
def rA:AV->List AV
 | .agg cs=>cs
 | .p (.agg cs)=>cs.map .p
 |a=>[a]
def AV.toP:AV->Option PV
 | .p x=>some x
 | .agg cs=>(toPL cs).map .agg
 | .tup cs=>(toPL cs).map .tup
 |_=>none
where toPL:List AV->Option (List PV)
 |[]=>some []
 |a::as=>match a.toP,toPL as with
  |some x,some xs=>some (x::xs)
  |_,_=>none
theorem u3:∀(cs:List AV)(xs:List PV),AV.toP.toPL cs=some xs->xs.length=cs.length/\∀(j:Nat)(a:AV),cs[j]?=some a->∃x,xs[j]?=some x/\a.toP=some x
 |[],xs,h=>by simp[AV.toP.toPL]at h;subst h;simp
 |a::as,xs,h=>by
  unfold AV.toP.toPL at h
  split at h
  ·rename_i x ys hx hy
   cases h
   have ih:=u3 as ys hy
   grind
  ·cases h
theorem dG.toP{w:World}{ι:Pl}{R:Nat->Prop}{a:AV}{v:Value}(h:dG w ι R a v):∀x,a.toP=some x->cI w R x v:=by
 induction h with
 |p x v h=>intro y hy;cases hy;exact h
 |own=>intro y hy;cases hy
 |orw=>intro y hy;cases hy
 |osl0=>intro y hy;cases hy
 |osl=>intro y hy;cases hy
 |junk=>intro y hy;cases hy
 |clo=>intro y hy;cases hy
 |agg cs vs hl hr ih=>
  intro y hy;unfold AV.toP at hy
  cases hp:AV.toP.toPL cs with
  |none=>rw[hp]at hy;cases hy
  |some xs=>
   rw[hp]at hy;cases hy
   have hg:=u3 cs xs hp;refine .agg xs vs oM fun j a v ha hv=>?_
   exact Vi
 |tup cs vs hl hr ih=>
  intro y hy;unfold AV.toP at hy
  cases hp:AV.toP.toPL cs with
  |none=>rw[hp]at hy;cases hy
  |some xs=>
   rw[hp]at hy;cases hy
   have hg:=u3 cs xs hp;refine .tup xs vs oM fun j a v ha hv=>?_
   exact Vi
def PV.toV:PV->Option Value
 | .v x=>some x
 | .agg cs=>(toVL cs).map fun vs=>.agg vs.toArray
 |_=>none
where toVL:List PV->Option (List Value)
 |[]=>some []
 |a::as=>match a.toV,toVL as with
  |some x,some xs=>some (x::xs)
  |_,_=>none
theorem Nr:∀(cs:List PV)(vs:List Value),PV.toV.toVL cs=some vs->vs.length=cs.length/\∀(j:Nat)(a:PV),cs[j]?=some a->∃v,vs[j]?=some v/\a.toV=some v
 |[],vs,h=>by simp[PV.toV.toVL]at h;subst h;simp
 |a::as,vs,h=>by
  unfold PV.toV.toVL at h
  split at h
  ·rename_i x ys hx hy
   cases h
   have ih:=Nr as ys hy
   grind
  ·cases h
theorem cI.toV{w:World}{R:Nat->Prop}{p:PV}{u:Value}(h:cI w R p u):∀v,p.toV=some v->u=v:=by
 induction h with
 |v x=>intro v h;cases h;rfl
 |e0=>intro v h;cases h
 |ro0=>intro v h;cases h
 |ro=>intro v h;cases h
 |rop=>intro v h;cases h
 |tup=>intro v h;cases h
 |err=>intro v h;cases h
 |agg cs us hl hr ih=>
  intro v h;unfold PV.toV at h
  cases hp:PV.toV.toVL cs with
  |none=>rw[hp]at h;cases h
  |some vs=>
   rw[hp]at h;cases h
   have hg:=Nr cs vs hp
   have:us=vs:=by
    apply List.ext_getElem?;intro j
    rcases aW j cs.length with hj|hj
    ·obtain⟨v,hv,Z9⟩:=hg.2 j cs[j] (aB hj)
     grind
    grind
   rw[this]
def pp(w:World)(R:Nat->Prop):PV->Ending->Prop
 | .pan ch,e=>e=.panicked ch
 |r,e=>∃v,e=.returned v/\cI w R r v
theorem pp.ret{w:World}{R:Nat->Prop}{r:PV}{v:Value}(h:cI w R r v):pp w R r (.returned v):=by
 cases h<;>exact⟨_,rfl,by constructor<;>assumption⟩
def PV.isPan:PV->Bool
 | .pan _=>true
 |_=>false
theorem pp.val{w:World}{R:Nat->Prop}{r:PV}{e:Ending}(h:pp w R r e)(hp:r.isPan=false):∃v,e=.returned v/\cI w R r v:=by
 cases r<;>first|exact h|cases hp
def fS(P:Program)(G:World->Prop)(f:FuncId)(as:List PV)(r:PV):Prop:=
 (∀(args:Array Value)(w:World),(callFunc f args).run P w=.ok (.enter f args) w) ∧
 ∀(w:World)(B:Nat->Prop)(args:List Value),G w->as.length=args.length->(∀(j:Nat)(a:PV)(v:Value),as[j]?=some a->args[j]?=some v->cI w B a v) →
  Calls P f args.toArray w fun e w'=>Gr w w'/\pp w' (fun b=>B b\/w.heap.size<=b) r e
def QJ{α:Type}(P:Program):Sem α->(α->Prop)->Prop
 | .pure a,K=>K a
 | .program k,K=>QJ P (k P) K
 |_,_=>False
theorem z7c{α:Type}(P:Program)(s:Sem α)(K:α->Prop)(h:QJ P s K):∃a,K a/\∀w,s.run P w=.ok a w:=by
 induction s with
 |pure a=>exact⟨a,h,fun _=>rfl⟩
 |program k ih=>
  obtain⟨a,h1,h2⟩:=ih P h;exact⟨a,h1,fun w=>by simpa [Sem.run]using h2 w⟩
 |_=>cases h
structure SO where
 eq:ByteArray->ByteArray->Bool
 lt:ByteArray->ByteArray->Bool
 add:ByteArray->ByteArray->ByteArray
 ext:ByteArray->Nat->Nat->ByteArray
 size:ByteArray->Int
 get:ByteArray->Nat->Option Int
 decR:ByteArray->Nat->Int
 decW:ByteArray->Nat->Nat
 wrap:IntKind->Int->Int
 enc:Int->ByteArray
 lti:Int->Int->Bool
 lei:Int->Int->Bool
 wadd:IntKind->Int->Int->Int
 wsub:IntKind->Int->Int->Int
 wmul:IntKind->Int->Int->Int
 wquo:IntKind->Int->Int->Int
 rem:Int->Int->Int
 max:Int->Int->Int
 min:Int->Int->Int
 rrows:ByteArray->List (List PV)
 encL:List Int->ByteArray
 nat:Int->Nat
 ofN:Nat->Int
 ple:Int->Int->Prop
 plt:Int->Int->Prop
 cat:ByteArray->ByteArray->Prop
 room:Nat->Nat->Nat->Prop
 band:IntKind->Int->Int->Int
 bor:IntKind->Int->Int->Int
 bxor:IntKind->Int->Int->Int
 shl:IntKind->Int->Int->Int
 shr:IntKind->Int->Int->Int
 fits:ByteArray->Prop
 addN:Nat->Nat->Nat
 pre:Nat->Nat->List (List PV)->Prop
 app:List (List PV)->Nat->List (List PV)->List (List PV)
 sub:List (List PV)->Nat->Nat->List (List PV)
 cut:List (List PV)->Nat->Nat->List (List PV)
 put:List (List PV)->Nat->List PV->List (List PV)
 brows:ByteArray->List (List PV)
def nJ(s:ByteArray):List (List PV):=s.data.toList.map fun b=>[.v (.int .u8 (b.toNat:Nat))]
def NM(s:ByteArray):Nat->Nat->List Int
 |0,_=>[]
 |b+1,i=>if i<s.size then((Utf8.decode s i).1:Int)::NM s b (i+(Utf8.decode s i).2)else []
def rX(s:ByteArray):List Int:=NM s s.size 0
theorem P0(s:ByteArray):∀(b i:Nat)(acc:Array Value),Conv.runesFrom s b i acc=acc++((NM s b i).map (Value.int .i32)).toArray
 |0,i,acc=>by simp[Conv.runesFrom,NM]
 |b+1,i,acc=>by
  unfold Conv.runesFrom NM
  split
  ·generalize Utf8.decode s i=d;simp only;rw[P0 s b];simp
  ·simp
theorem Ap(s:ByteArray):Conv.runesFrom s s.size 0 #[]=((rX s).map (Value.int .i32)).toArray:=by
 rw[P0];simp[rX]
theorem zvh(s:ByteArray):(rX s).length<=s.size:=by
 have:=size_runesFrom s s.size 0 #[]
 rw[Ap]at this;exact qh
def pR(ns:List Int):List (List PV):=ns.map fun n=>[.v (.int .i32 n)]
theorem zl6(a b:ByteArray):(a.toList==b.toList)=decide (a=b):=by
 rw[ByteArray.toList_eq,ByteArray.toList_eq]
 by_cases h:a=b
 ·subst h;simp
 ·have h2:¬a.data=b.data:=fun e=>h (ByteArray.ext e)
  simp[h,h2]
def bG:SO:=⟨fun a b=>decide (a=b),fun a b=>Op.bytesLess a.toList b.toList,fun a b=>a++b,fun s l h=>s.extract l h,fun s=>(s.size:Nat),fun s n=>(s.data.toList[n]?).map fun b=>((b.toNat:Nat):Int),fun s p=>((Utf8.decode s p).1:Nat),fun s p=>(Utf8.decode s p).2,fun k n=>k.wrap n,fun r=>Utf8.encode r,fun a b=>decide (a<b),fun a b=>decide (a<=b),fun k a b=>k.wrap (a+b),fun k a b=>k.wrap (a-b),fun k a b=>k.wrap (a*b),fun k a b=>k.wrap (a.tdiv b),fun a b=>a.tmod b,fun a b=>if b>a then b else a,fun a b=>if b<a then b else a,fun s=>pR (rX s),runesBytes,Int.toNat,fun n=>(n:Int),fun a b=>a<=b,fun a b=>a<b,fun a b=>((a.size:Nat):Int)+((b.size:Nat):Int)<=9223372036854775807,fun n m s=>n+m<=maxLen/\(n+m)*s<=140737488355328,
 fun k a b=>k.wrap (BitVec.ofInt k.bits a &&& BitVec.ofInt k.bits b).toNat,fun k a b=>k.wrap (BitVec.ofInt k.bits a |||BitVec.ofInt k.bits b).toNat,fun k a b=>k.wrap (BitVec.ofInt k.bits a ^^^ BitVec.ofInt k.bits b).toNat,fun k a b=>k.wrap (a*2 ^ (min b.toNat k.bits)),fun k a b=>a.fdiv (2 ^ (min b.toNat k.bits)),fun s=>((s.size:Nat):Int)<=70368744177664,fun a b=>a+b,fun i n rs=>i+n<=rs.length,fun rs n rows=>rs.take n++rows,fun rs i n=>(rs.drop i).take n,fun rs l h=>(rs.take h).drop l,fun rs r row=>rs.set r row,nJ⟩
theorem zu5(n:Int):IntKind.i64.wrap n=(n+9223372036854775808)%18446744073709551616-9223372036854775808:=by
 have e1:((2:Int) ^ IntKind.i64.bits)=18446744073709551616:=aN
 have e2:((2:Int) ^ (IntKind.i64.bits-1))=9223372036854775808:=aN
 have e3:IntKind.i64.signed=true:=rfl;simp only[IntKind.wrap,e1,e2,e3,bO,bD]
 split<;>omega
theorem zu4(n:Int):IntKind.u64.wrap n=n%18446744073709551616:=by
 have e1:((2:Int) ^ IntKind.u64.bits)=18446744073709551616:=aN
 have e3:IntKind.u64.signed=false:=rfl;exact Uw
theorem jX{n:Int}(h0:-9223372036854775808<=n)(h1:n<=9223372036854775807):IntKind.i64.wrap n=n:=by rw[zu5];omega
theorem ub{E:SO}(hE:E=bG):∀a b:Int,-1000000000<=a->a<=1000000000->-1000000000<=b->b<=1000000000->E.wadd .i64 a b=a+b:=fun a b h0 h1 h2 h3=>by rw[hE];exact jX oM oM
theorem uL{E:SO}(hE:E=bG):∀a b,a<=b->E.ple a b:=fun a b h=>by rw[hE];exact h
theorem yF{E:SO}(hE:E=bG):∀a b,E.lti a b=decide (a<b):=fun a b=>by rw[hE];rfl
theorem sZ{E:SO}(hE:E=bG)(s:ByteArray):∀k,¬s=k->E.eq s k=false:=fun k h=>by rw[hE];exact dF h
def KM(i:TI)(a:AV)(H:AH)(K:AV->Prop):Prop:=
 match a with
 | .own k j=>(match H[k]? with
  |some (some (.box cs _ _))=>if vm i.desc then(if j+i.size<=cs.length then K (.agg ((cs.drop j).take i.size))else False)else(match cs[j]? with
   |some x=>K x
   |none=>False)
  |_=>False)
 | .orw k r j=>(match H[k]? with
  |some (some (.rows _ rs _))=>∃row,rs[r]?=some row/\(if vm i.desc then(if j+i.size<=row.length then K (.p (.agg ((row.drop j).take i.size)))else False)else(match row[j]? with
   |some x=>K (.p x)
   |none=>False))
  |_=>False)
 | .p (.rop row)=>if vm i.desc then(if i.size<=row.length then K (.p (.agg (row.take i.size)))else False)else(match row with
  |x::_=>K (.p x)
  |[]=>False)
 |_=>False
def Gs(off:Nat)(a:AV)(K:AV->Prop):Prop:=
 match a with
 | .own k j=>K (.own k (j+off))
 | .orw k i j=>K (.orw k i (j+off))
 | .p (.rop row)=>K (.p (.rop (row.drop off)))
 |_=>False
def Gt(E:SO)(s:Nat)(x:AV)(i:AV)(H:AH)(K:AV->Prop):Prop:=
 match i with
 | .p (.v (.int _ n))=>(match x with
  | .p (.ro s' rows)=>s'=s/\E.ple 0 n/\∃row,rows[E.nat n]?=some row/\K (.p (.rop row))
  | .osl k i0 len=>(match H[k]? with
   |some (some (.rows s' _ _))=>s'=s/\E.ple 0 n/\E.plt n (E.ofN len)/\K (.orw k (E.addN i0 (E.nat n)) 0)
   |_=>False)
  |_=>False)
 |_=>False
def FL(E:SO)(d:TypeDesc)(x:AV)(K:AV->Prop):Prop:=
 match d with
 | .string=>(match x with
  | .p (.v (.string s))=>K (.p (.v (.int .i64 (E.size s))))
  |_=>False)
 | .slice _=>(match x with
  | .p (.v (.slice _ n _))=>K (.p (.v (.int .i64 (E.ofN n))))
  | .p .e0=>K (.p (.v (.int .i64 0)))
  | .p (.ro _ rows)=>K (.p (.v (.int .i64 (E.ofN rows.length))))
  | .osl _ _ n=>K (.p (.v (.int .i64 (E.ofN n))))
  |_=>False)
 |_=>False
def E7:AV->Bool
 | .junk=>false
 | .p (.v x)=>x.oneCell'
 |_=>true
def ot{α:Type}(cells:List α)(off:Nat)(cs:List α):List α:=cells.take off++cs++cells.drop (off+cs.length)
def fu(place:Nat->Option (Nat×Nat))(cells:List AV):List (Nat×AV)->Option (List AV)
 |[]=>some cells
 |(i,a)::rest=>match place i with
  |none=>none
  |some (off,size)=>if E7 a=true/\(rA a).length=size/\off+size<=cells.length then fu place (ot cells off (rA a)) rest else none
def JE(T:TT):List Field->Option (List (Nat×Nat))
 |[]=>some []
 |f::fs=>match T f.type,JE T fs with
  |some i,some r=>some ((f.offset,i.size)::r)
  |_,_=>none
def DB(x:Option AV)(d:Int)(K:Int->Prop):Prop:=
 match x with
 |none=>K d
 |some (.p (.v (.int _ n)))=>K n
 |_=>False
def Ep(E:SO)(x:AV)(lo hi:Option AV)(K:AV->Prop):Prop:=
 match x with
 | .p (.v (.string s))=>DB hi (E.size s) fun h=>DB lo 0 fun l=>E.ple 0 l/\E.ple l h/\E.ple h (E.size s)/\K (.p (.v (.string (E.ext s (E.nat l) (E.nat h)))))
 |_=>False
def Gu(E:SO)(es:Nat)(x:AV)(lo hi:Option AV)(K:AV->Prop):Prop:=
 match x with
 | .p (.ro s rows)=>s=es/\(DB hi (E.ofN rows.length) fun h=>DB lo 0 fun l=>E.ple 0 l/\E.ple l h/\E.ple h (E.ofN rows.length)/\K (.p (.ro s (E.cut rows (E.nat l) (E.nat h)))))
 | .osl k i n=>(match lo with
  |none=>DB hi (E.ofN n) fun h=>E.ple 0 h/\E.ple h (E.ofN n)/\K (.osl k i (E.nat h))
  |_=>False)
 |_=>False
def E9(x:AV)(i:Nat)(K:AV->Prop):Prop:=
 match x with
 | .tup cs=>(match cs[i]? with
  |some a=>K a
  |none=>False)
 | .p (.tup cs)=>(match cs[i]? with
  |some a=>K (.p a)
  |none=>False)
 |_=>False
def apart(x:AV)(off:Nat)(K:AV->Prop):Prop:=
 match x with
 | .agg cs=>(match cs[off]? with
  |some a=>K a
  |none=>False)
 | .p (.agg cs)=>(match cs[off]? with
  |some a=>K (.p a)
  |none=>False)
 |_=>False
def PS(H:AH):AV->Option PV
 | .own k 0=>(match H[k]? with
  |some (some (.box cs _ _))=>(match AV.toP.toPL cs with
   |some ps=>some (.rop ps)
   |none=>none)
  |_=>none)
 |a=>a.toP
def IM(H:AH):List AV->Option (List PV)
 |[]=>some []
 |a::as=>match PS H a,IM H as with
  |some x,some xs=>some (x::xs)
  |_,_=>none
theorem Oq{H:AH}:∀(cs:List AV)(xs:List PV),IM H cs=some xs->xs.length=cs.length/\∀(j:Nat)(a:AV),cs[j]?=some a->∃x,xs[j]?=some x/\PS H a=some x
 |[],xs,h=>by simp[IM]at h;subst h;simp
 |a::as,xs,h=>by
  unfold IM at h
  split at h
  ·rename_i x ys hx hy
   cases h
   have ih:=Oq as ys hy
   grind
  ·cases h
def S0(P:Program)(G:World->Prop)(E:SO)(T:TT)(env:List AV)(H:AH)(c:Call)(K:AV->Prop):Prop:=
 match c.callee with
 | .builtin .len=>(match c.args.toList,c.argTypes.toList with
  |[x],[t]=>(match T t with
   |some ti=>FL E ti.desc (bR env x) K
   |none=>False)
  |_,_=>False)
 | .builtin .max=>(match c.args.toList.map (bR env)with
  |[.p (.v (.int k a)),.p (.v (.int _ b))]=>K (.p (.v (.int k (E.max a b))))
  |_=>False)
 | .builtin .min=>(match c.args.toList.map (bR env)with
  |[.p (.v (.int k a)),.p (.v (.int _ b))]=>K (.p (.v (.int k (E.min a b))))
  |_=>False)
 | .value (.func f)=>(match AV.toP.toPL (c.args.toList.map (bR env))with
  |some as=>∃r,fS P G f as r/\(match r.isPan with
   |true=>False
   |false=>K (.p r))
  |none=>(match IM H (c.args.toList.map (bR env))with
   |some as=>∃r,fS P G f as r/\(match r with
    | .v x=>K (.p (.v x))
    |_=>False)
   |none=>False))
 |_=>False
def Rx(P:Program)(E:SO)(op:BinOp)(t:TypeId)(k:IntKind)(a b:Int)(K:AV->Prop):Prop:=
 match op with
 | .add=>K (.p (.v (.int k (E.wadd k a b))))
 | .sub=>K (.p (.v (.int k (E.wsub k a b))))
 | .mul=>K (.p (.v (.int k (E.wmul k a b))))
 | .quo=>b≠0/\K (.p (.v (.int k (E.wquo k a b))))
 | .rem=>b≠0/\K (.p (.v (.int k (E.rem a b))))
 | .eql=>K (.p (.v (.bool (decide (a=b)))))
 | .neq=>K (.p (.v (.bool (!decide (a=b)))))
 | .lss=>K (.p (.v (.bool (E.lti a b))))
 | .leq=>K (.p (.v (.bool (E.lei a b))))
 | .gtr=>K (.p (.v (.bool (E.lti b a))))
 | .geq=>K (.p (.v (.bool (E.lei b a))))
 | .and=>K (.p (.v (.int k (E.band k a b))))
 | .or=>K (.p (.v (.int k (E.bor k a b))))
 | .xor=>K (.p (.v (.int k (E.bxor k a b))))
 |op=>QJ P (binOp op t (.int k a) (.int k b)) fun v=>K (.p (.v v))
def Rz(E:SO)(op:BinOp)(a b:ByteArray)(K:AV->Prop):Prop:=
 match op with
 | .add=>E.cat a b/\K (.p (.v (.string (E.add a b))))
 | .eql=>K (.p (.v (.bool (E.eq a b))))
 | .neq=>K (.p (.v (.bool (!E.eq a b))))
 | .lss=>K (.p (.v (.bool (E.lt a b))))
 | .leq=>K (.p (.v (.bool (E.lt a b||E.eq a b))))
 | .gtr=>K (.p (.v (.bool (!(E.lt a b||E.eq a b)))))
 | .geq=>K (.p (.v (.bool (!E.lt a b))))
 |_=>False
def Jd(E:SO):PV->PV->Option Bool
 | .v (.int k a),.v (.int k' b)=>if k=k' then some (decide (a=b))else none
 | .v (.string a),.v (.string b)=>some (E.eq a b)
 | .v (.bool a),.v (.bool b)=>some (a==b)
 |_,_=>none
def DM(E:SO)(T:TT):List Field->List PV->List PV->Option Bool
 |[],_,_=>some true
 | f :: fs, xs, ys => if f.name = "_" then none else (match T f.type, xs[f.offset]?, ys[f.offset]? with
  |some i,some x,some y=>(match(match i.desc,x with
    | .int _,.v (.int _ _)=>true
    | .string,.v (.string _)=>true
    | .bool,.v (.bool _)=>true
    |_,_=>false),Jd E x y,DM E T fs xs ys with
   |true,some b,some r=>some (b&&r)
   |_,_,_=>none)
  |_,_,_=>none)
def xn:AV->Option (List PV)
 | .p (.agg cs)=>some cs
 | .agg cs=>AV.toP.toPL cs
 |_=>none
def UM(c:Bool):AV->AV->Option Bool
 | .p .err,.p (.v .nilIface)=>some false
 | .p (.v (.iface _ _)),.p (.v .nilIface)=>some false
 | .p (.v .nilIface),.p (.v .nilIface)=>(match c with
  |true=>some true
  |false=>none)
 |_,_=>none
def EZ:Operand->Bool
 | .const _=>true
 |_=>false
def Ry(T:TT)(op:BinOp)(t:TypeId)(b:Bool)(K:AV->Prop):Prop:=
 match T t with
 |some i=>(match i.desc,op with
  | .interface _,.eql=>K (.p (.v (.bool b)))
  | .interface _,.neq=>K (.p (.v (.bool (!b))))
  |_,_=>False)
 |none=>False
def FM(P:Program)(E:SO)(T:TT)(op:BinOp)(t:TypeId)(a b:AV)(K:AV->Prop):Prop:=
 match a,b with
 | .p (.v (.bool a)),.p (.v (.bool b))=>(match T t with
  |some i=>(match i.desc,op with
   | .bool,.eql=>K (.p (.v (.bool (a==b))))
   | .bool,.neq=>K (.p (.v (.bool (a != b))))
   |_,_=>False)
  |none=>False)
 | .p (.v (.int k a)),.p (.v (.int k' b))=>(match op with
  | .shl=>E.ple 0 b/\K (.p (.v (.int k (E.shl k a b))))
  | .shr=>E.ple 0 b/\K (.p (.v (.int k (E.shr k a b))))
  |op=>if k=k' then Rx P E op t k a b K else False)
 | .p (.v (.string a)),.p (.v (.string b))=>Rz E op a b K
 |a,b=>(match xn a,xn b,T t with
  |some xs,some ys,some i=>(match i.desc,i.cmp,op with
   | .struct fs,true,.eql=>(match DM E T fs.toList xs ys with
    |some r=>K (.p (.v (.bool r)))
    |none=>False)
   | .struct fs,true,.neq=>(match DM E T fs.toList xs ys with
    |some r=>K (.p (.v (.bool (!r))))
    |none=>False)
   |_,_,_=>False)
  |_,_,_=>False)
def Hb(P:Program)(E:SO)(op:UnOp)(a:AV)(K:AV->Prop):Prop:=
 match a with
 | .p (.v (.int k n))=>(match op with
  | .neg=>K (.p (.v (.int k (E.wsub k 0 n))))
  |op=>QJ P (Op.unary op (.int k n)) fun v=>K (.p (.v v)))
 | .p (.v (.bool b))=>(match op with
  | .not=>K (.p (.v (.bool (!b))))
  |_=>False)
 |_=>False
def H9(E:SO)(T:TT)(dst:TypeId)(dB:TypeId)(a:AV)(K:AV->Prop):Prop:=
 match T dst,T dB,a with
 |some i,some _,.p (.v (.int _ n))=>(match i.desc with
  | .string=>K (.p (.v (.string (E.enc n))))
  | .int k=>K (.p (.v (.int k (E.wrap k n))))
  |_=>False)
 |some i,some _,.p (.v (.string s))=>(match i.desc with
  | .string=>K (.p (.v (.string s)))
  | .slice e=>(match T e with
   |some te=>(match te.desc with
    | .int .i32=>E.fits s/\K (.p (.ro 1 (E.rrows s)))
    | .int .u8=>K (.p (.ro 1 (E.brows s)))
    |_=>False)
   |none=>False)
  |_=>False)
 |some i,some j,.p (.ro n rows)=>(match i.desc,j.desc with
  | .string,.slice e=>(match T e with
   |some te=>(match te.desc with
    | .int .i32=>n=1/\∃ns,rows=pR ns/\K (.p (.v (.string (E.encL ns))))
    | .int .u8=>n=1/\∃b,rows=E.brows b/\K (.p (.v (.string b)))
    |_=>False)
   |none=>False)
  |_,_=>False)
 |_,_,_=>False
def Gq(E:SO)(T:TT)(dst dB:TypeId)(k i n:Nat)(H:AH)(K:AV->Prop):Prop:=
 match T dst,T dB with
 |some di,some si=>(match di.desc,si.desc with
  | .string,.slice e=>(match T e with
   |some te=>(match te.desc with
    | .int .u8=>(match H[k]? with
     |some (some (.rows s rs _))=>s=1/\E.pre i n rs/\∃b,E.sub rs i n=E.brows b/\K (.p (.v (.string b)))
     |_=>False)
    |_=>False)
   |none=>False)
  |_,_=>False)
 |_,_=>False
def FN(E:SO)(len:Nat)(x i:AV)(K:AV->Prop):Prop:=
 match x,i with
 | .own k j,.p (.v (.int _ n))=>E.ple 0 n/\E.plt n (E.ofN len)/\K (.own k (E.addN j (E.nat n)))
 |_,_=>False
def aq(P:Program)(G:World->Prop)(E:SO)(T:TT)(o:Oper)(env:List AV)(H:AH)(K:AV->Prop):Prop:=
 match o.op with
 | .move x=>K (bR env x)
 | .assign x=>K (bR env x)
 | .pick c a b=>(match bR env c with
  | .p (.v (.bool t))=>(match t with
   |true=>K (bR env a)
   |false=>K (bR env b))
  |_=>False)
 | .load t a=>(match T t with
  |some i=>KM i (bR env a) H K
  |none=>False)
 | .fieldAddr s x f=>(match T s with
  |some i=>(match i.desc with
   | .struct fs=>(match fs[f]? with
    |some fd=>(match T fd.type with
     |some j=>if j.size=0 then False else Gs fd.offset (bR env x) K
     |none=>False)
    |none=>False)
   |_=>False)
  |none=>False)
 | .indexAddr t x i=>(match T t with
  |some ti=>(match ti.desc with
   | .slice e=>(match T e with
    |some te=>Gt E te.size (bR env x) (bR env i) H K
    |none=>False)
   | .array m e=>(match T e with
    |some te=>if te.size=1 then FN E m (bR env x) (bR env i) K else False
    |none=>False)
   |_=>False)
  |none=>False)
 | .index t x i=>(match T t with
  |some ti=>(match ti.desc,bR env x,bR env i with
   | .string,.p (.v (.string s)),.p (.v (.int _ n))=>E.ple 0 n/\∃b,E.get s (E.nat n)=some b/\K (.p (.v (.int .u8 b)))
   |_,_,_=>False)
  |none=>False)
 | .slice t x lo hi none=>(match T t with
  |some ti=>(match ti.desc with
   | .string=>Ep E (bR env x) (lo.map (bR env)) (hi.map (bR env)) K
   | .slice e=>(match T e with
    |some te=>Gu E te.size (bR env x) (lo.map (bR env)) (hi.map (bR env)) K
    |none=>False)
   |_=>False)
  |none=>False)
 | .extract x i=>E9 (bR env x) i K
 | .field s x f=>(match T s with
  |some i=>(match i.desc with
   | .struct fs=>(match fs[f]? with
    |some fd=>(match T fd.type with
     |some j=>if vm j.desc then False else apart (bR env x) fd.offset K
     |none=>False)
    |none=>False)
   |_=>False)
  |none=>False)
 | .makeInterface t x=>(match T t with
  |some i=>(match i.desc with
   | .interface _=>False
   |_=>(match(bR env x).toP.bind PV.toV with
    |some v=>K (.p (.v (.iface t v)))
    |none=>False))
  |none=>False)
 | .makeFunc (.func f) fs cs=>K (.clo f (fs.toList.map (bR env)) (cs.toList.map (bR env)))
 | .nilCheck x=>(match bR env x with
  | .own k j=>K (.own k j)
  | .orw k i j=>K (.orw k i j)
  | .p (.rop row)=>K (.p (.rop row))
  |_=>False)
 | .unOp op _ x=>Hb P E op (bR env x) K
 | .convert dB dst x=>(match bR env x with
  | .osl k i n=>Gq E T dst dB k i n H K
  |_=>H9 E T dst dB (bR env x) K)
 | .binOp op t x y _=>(match UM (EZ x||EZ y) (bR env x) (bR env y)with
  |some b=>Ry T op t b K
  |none=>FM P E T op t (bR env x) (bR env y) K)
 | .build t parts=>(match T t with
  |some i=>(match i.desc with
   | .struct fs=>(match JE T fs.toList with
    |some pl=>(match fu (fun n=>pl[n]?) (i.zero.cells.toList.map fun x=>.p (.v x)) (parts.toList.map fun(n,x)=>(n,bR env x))with
     |some cs=>K (.agg cs)
     |none=>False)
    |none=>False)
   |_=>False)
  |none=>False)
 | .call c=>S0 P G E T env H c K
 |_=>False
def QS(P:Program)(G:World->Prop)(o:Oper)(env:List AV)(H:AH)(a:AV):Prop:=
 ∀(w0:cJ)(B:Nat->Prop)(w:World)(ι:Pl)(ρ:Operand->Value),eX w0 B w ι H->G w->(∀x,x∈o.op.operands->dG w ι (Rd B ι H) (bR env x) (ρ x))->(∀f,ρ (.func f)=.func (.func f) #[] #[]) →
  au P (fun v w'=>Gr w w'/\dG w' ι (Rd B ι H) a v) ((execOp ρ o).run P w)
theorem ku{w:World}{b o:Nat}{arr:Array Value}{t:TypeId}{fz:Nat×Nat}(h:w.heap[b]?=some (.cells arr t fz)):w.cell? ⟨b,o,none⟩=arr[o]?:=by
 simp[World.cell?,h]
theorem z2y{w:World}{R:Nat->Prop}{s:ByteArray}{c cap:Nat}{arr:Array Value}{t:TypeId}{fr:Nat×Nat}(hR:R c)(hb:w.heap[c]?=some (.cells arr t fr))(pQ:s.size<=cap)(h:∀(j:Nat)(b:UInt8),s.data.toList[j]?=some b->arr[j]?=some (.int .u8 (b.toNat:Nat))):cI w R (.ro 1 (nJ s)) (.slice (some ⟨c,0,none⟩) s.size cap):=by
 have hl:(nJ s).length=s.size:=by simp[nJ]
 have cS:∀(q:Nat)(row:List PV),(nJ s)[q]?=some row->∃b,s.data.toList[q]?=some b/\row=[.v (.int .u8 (b.toNat:Nat))]:=fun q row hq=>by
  unfold nJ at hq
  grind
 have gJ:∀(q j:Nat)(row:List PV)(a:PV),(nJ s)[q]?=some row->row[j]?=some a->∃b,s.data.toList[q]?=some b/\j=0/\a=.v (.int .u8 (b.toNat:Nat)):=fun q j row a hq ha=>by
  grind
 have:=cI.ro (w:=w) (R:=R) 1 (nJ s) c 0 cap (fun q _=>.int .u8 (((s.data.toList[q]?).getD 0).toNat:Nat)) hR (n7 hb) (by rw[hl];exact pQ)
  (fun q row hq=>by grind)
  (fun q j row a hq ha=>by
   obtain⟨n,hn,rfl,rfl⟩:=gJ q j row a hq ha;refine⟨?_,rfl⟩;rw[ku hb,show 0+(q*1+0)=q by omega,h q n hn]
   simp[hn])
  (fun q j row a hq ha=>by
   obtain⟨n,hn,rfl,rfl⟩:=gJ q j row a hq ha;simp only[hn,jK];exact .v _)
 grind
theorem z6b(w:World)(e:TypeId)(s:ByteArray):Gr w (Lib.bytesWorld w e s):=by
 refine⟨rfl,rfl,rfl,?_,fun k hk=>Lib.bytesWorld_at_old w e s k hk⟩
 rw[Lib.bytesWorld_size];omega
theorem jW{w:World}{ι:Pl}{R:Nat->Prop}{x v:Value}(h:dG w ι R (.p (.v x)) v):v=x:=by
 cases h with
 |p _ _ h=>cases h;rfl
theorem xk6(a b:ByteArray):(a==b)=decide (a=b):=by
 cases a with
 |mk x=>cases b with
  |mk y=>
   show(x==y)=_
   grind
theorem ZT{w:World}{ι:Pl}{R:Nat->Prop}{a:AV}{v:Value}{cs:List PV}(h:xn a=some cs)(hv:dG w ι R a v):∃vs:List Value,v=.agg vs.toArray/\∀(j:Nat)(x:Value),cs[j]?=some (.v x)->vs[j]?=some x:=by
 unfold xn at h
 split at h
 ·cases h
  cases hv with
  |p _ _ hv=>
   cases hv with
   |agg _ vs hl hr=>
    refine⟨vs,rfl,fun j x hx=>?_⟩
    have hj:j<vs.length:=aX
    have:=hr j _ vs[j] hx (aB hj)
    rw[aB hj]
    cases this;rfl
 ·rename_i cs'
  cases hv with
  |agg _ vs hl hr=>
   have hg:=u3 _ _ h;refine⟨vs,rfl,fun j x hx=>?_⟩
   have hj:j<vs.length:=aX
   obtain⟨y,hy,hyp⟩:=hg.2 j cs'[j] (aB oM)
   rw[hy]at hx
   cases hx
   have:=(hr j _ vs[j] (aB oM) (aB hj)).toP _ hyp
   rw[aB hj]
   cases this;rfl
 ·cases h
section
variable{P:Program}{G:World->Prop}{T:TT}(hT:iE P T)
theorem lG{o:Oper}{env:List AV}{H:AH}{a:AV}
  (h:∀(w0:cJ)(B:Nat->Prop)(w:World)(ι:Pl)(ρ:Operand->Value),eX w0 B w ι H->G w->(∀x,x∈o.op.operands->dG w ι (Rd B ι H) (bR env x) (ρ x)) →
   ∃v,(execOp ρ o).run P w=.ok (.value v) w/\dG w ι (Rd B ι H) a v):QS P G o env H a:=by
 intro w0 B w ι ρ hR hG hρ hf;obtain⟨v,h1,h2⟩:=h w0 B w ι ρ hR hG hρ;rw[h1];exact⟨Gr.refl _,h2⟩
include hT
theorem G5{t:TypeId}{i:TI}(h:T t=some i)(ha:vm i.desc=true){w:World}{b o:Nat}(f:Nat->Value)(hc:∀j,j<i.size->w.cell? ⟨b,o+j,none⟩=some (f j)):
  (Instr.loadAt t (.pointer (some ⟨b,o,none⟩))).run P w=.ok (.agg ((List.range i.size).map f).toArray) w:=by
 simp only[Instr.loadAt,Instr.sureAddr,Sem.run_bind,Sem.run_pure,Result.andThen_ok,loadVar,IK hT h,ha,eE,tu hT h];rw[run_loadCells w ⟨b,o,none⟩ i.size f (fun j hj=>by rw[Addr.add_lit];exact hc j hj)]
 rfl
theorem G6{t:TypeId}{i:TI}(h:T t=some i)(ha:vm i.desc=false){w:World}{b o:Nat}{v:Value}(hc:w.cell? ⟨b,o,none⟩=some v):
  (Instr.loadAt t (.pointer (some ⟨b,o,none⟩))).run P w=.ok v w:=by
 simp only[Instr.loadAt,Instr.sureAddr,Sem.run_bind,Sem.run_pure,Result.andThen_ok,loadVar,IK hT h,ha];simp_all
omit hT
theorem z2x{w:World}{ι:Pl}{R:Nat->Prop}{cs:List AV}{n:Nat}(f:Nat->Value)(hl:cs.length=n)(h:∀(j:Nat)(a:AV),cs[j]?=some a->dG w ι R a (f j)):dG w ι R (.agg cs) (.agg ((List.range n).map f).toArray):=by
 refine .agg cs _ (by simp[hl]) fun j a v ha hv=>?_
 grind
theorem Pb{w:World}{R:Nat->Prop}{cs:List PV}{n:Nat}(f:Nat->Value)(hl:cs.length=n)(h:∀(j:Nat)(a:PV),cs[j]?=some a->cI w R a (f j)):cI w R (.agg cs) (.agg ((List.range n).map f).toArray):=by
 refine .agg cs _ (by simp[hl]) fun j a v ha hv=>?_
 grind
theorem G9{α:Type}{cs:List α}{j n m:Nat}{a:α}(h:((cs.drop j).take n)[m]?=some a):cs[j+m]?=some a/\m<n:=by
 grind
include hT
theorem O6{t:TypeId}{i:TI}(ht:T t=some i){x:Operand}{env:List AV}{H:AH}{K:AV->Prop}(h:KM i (bR env x) H K):
  ∃a,K a/\∀(w0:cJ)(B:Nat->Prop)(w:World)(ι:Pl)(v:Value),eX w0 B w ι H->dG w ι (Rd B ι H) (bR env x) v->∃u,(Instr.loadAt t v).run P w=.ok u w/\dG w ι (Rd B ι H) a u:=by
 have fin:∀a:AV,(∀(w0:cJ)(B:Nat->Prop)(w:World)(ι:Pl)(v:Value),eX w0 B w ι H->dG w ι (Rd B ι H) (bR env x) v->∃u,(Instr.loadAt t v).run P w=.ok u w/\dG w ι (Rd B ι H) a u) →
   (∀(w0:cJ)(B:Nat->Prop)(w:World)(ι:Pl)(v:Value),eX w0 B w ι H->dG w ι (Rd B ι H) (bR env x) v->∃u,(Instr.loadAt t v).run P w=.ok u w/\dG w ι (Rd B ι H) a u):=fun _ h=>h
 unfold KM at h
 split at h
 ·rename_i k j e
  split at h
  ·rename_i cs t' g hk
   split at h
   ·rename_i kg
    split at h
    ·refine⟨_,h,fin _ fun w0 B w ι v hR hv=>?_⟩
     rw[e]at hv
     cases hv with
     |own _ _ c s hi=>
      obtain⟨hg,c',arr,ec,hb,dR,dC⟩:=(hR.blk k _ _ s hk hi).2
      cases ec
      have YC:∀m a,cs[m]?=some a->dG w ι (Rd B ι H) a ((arr[m]?).getD undef)/\arr[m]?=some ((arr[m]?).getD undef):=fun m a ha=>by
       obtain⟨v,h1,_,h2⟩:=dC m a ha;rw[h1];exact⟨h2,rfl⟩
      refine⟨_,G5 hT ht kg (fun m=>(arr[j+m]?).getD undef) fun m hm=>?_,z2x _ xo fun m a ha=>?_⟩
      ·rw[ku hb]
       grind
      grind
    ·cases h
   ·rename_i kg
    split at h
    ·rename_i a hj;refine⟨_,h,fin _ fun w0 B w ι v hR hv=>?_⟩
     rw[e]at hv
     cases hv with
     |own _ _ c s hi=>
      obtain⟨hg,c',arr,ec,hb,dR,dC⟩:=(hR.blk k _ _ s hk hi).2
      cases ec
      obtain⟨v,h1,_,h2⟩:=dC j a hj;exact⟨v,G6 hT ht (by simpa using kg) (by rw[ku hb];exact h1),h2⟩
    ·cases h
  ·cases h
 ·rename_i k r j e
  split at h
  ·rename_i s' rs t' hk;obtain⟨row,cS,h⟩:=h
   split at h
   ·rename_i kg
    split at h
    ·refine⟨_,h,fin _ fun w0 B w ι v hR hv=>?_⟩
     rw[e]at hv
     cases hv with
     |orw _ _ _ c s hi=>
      obtain⟨es,hl,hh⟩:=(hR.blk k _ _ s hk hi).2
      rcases hh with⟨ec,_⟩|⟨c',arr,ec,hb,hz,dC⟩
      ·cases ec
      ·cases ec
       have YC:∀m a,row[m]?=some a->cI w (Rd B ι H) a ((arr[r*s.1+m]?).getD undef)/\arr[r*s.1+m]?=some ((arr[r*s.1+m]?).getD undef):=fun m a ha=>by
        grind
       refine⟨_,G5 hT ht kg (fun m=>(arr[r*s.1+(j+m)]?).getD undef) fun m hm=>?_,.p _ _ (Pb _ xo fun m a ha=>?_)⟩
       ·rw[ku hb,Nat.add_assoc];exact(YC (j+m) row[j+m] (aB oM)).2
       grind
    ·cases h
   ·rename_i kg
    split at h
    ·rename_i a hj;refine⟨_,h,fin _ fun w0 B w ι v hR hv=>?_⟩
     rw[e]at hv
     cases hv with
     |orw _ _ _ c s hi=>
      obtain⟨es,hl,hh⟩:=(hR.blk k _ _ s hk hi).2
      rcases hh with⟨ec,_⟩|⟨c',arr,ec,hb,hz,dC⟩
      ·cases ec
      ·cases ec
       obtain⟨v,h1,_,h2⟩:=dC r j row a cS hj;exact⟨v,G6 hT ht (by simpa using kg) (by rw[ku hb];exact h1),.p _ _ h2⟩
    ·cases h
  ·cases h
 ·rename_i row e
  split at h
  ·rename_i kg
   split at h
   ·refine⟨_,h,fin _ fun w0 B w ι v hR hv=>?_⟩
    rw[e]at hv
    cases hv with
    |p _ _ hv=>
     cases hv with
     |rop _ b off vs sv hb hc hr=>
      refine⟨_,G5 hT ht kg vs fun m hm=>?_,.p _ _ (Pb _ xo fun m a ha=>?_)⟩
      ·exact(hc m row[m] (aB oM)).1
      grind
   ·cases h
  ·rename_i kg
   split at h
   ·rename_i a rest;refine⟨_,h,fin _ fun w0 B w ι v hR hv=>?_⟩
    rw[e]at hv
    cases hv with
    |p _ _ hv=>
     cases hv with
     |rop _ b off vs sv hb hc hr=>
      exact⟨_,G6 hT ht (by simpa using kg) (by simpa using(hc 0 a rfl).1),.p _ _ (hr 0 a rfl)⟩
   ·cases h
 ·cases h
theorem zw0{t:TypeId}{i:TI}(ht:T t=some i){o:Oper}{x:Operand}(ho:o.op=.load t x){env:List AV}{H:AH}{K:AV->Prop}(h:KM i (bR env x) H K):∃a,K a/\QS P G o env H a:=by
 have hx:x∈o.op.operands:=oW
 obtain⟨a,hK,hh⟩:=O6 hT ht h;refine⟨a,hK,lG fun w0 B w ι ρ hR hG hρ=>?_⟩
 obtain⟨u,h1,h2⟩:=hh w0 B w ι (ρ x) hR (hρ x hx);exact⟨u,by simp[execOp,ho,h1],h2⟩
theorem zur{s:TypeId}{i j:TI}{fs:Array Field}{fd:Field}{f:Nat}(ht:T s=some i)(hd:i.desc=.struct fs)(hf:fs[f]?=some fd)(hj:T fd.type=some j)(h0:¬j.size=0)
  {o:Oper} {x:Operand} (ho:o.op=.fieldAddr s x f) {env:List AV} {H:AH} {K:AV->Prop} (h:Gs fd.offset (bR env x) K):∃a,K a/\QS P G o env H a:=by
 have hx:x∈o.op.operands:=oW
 have run:∀(b off:Nat)(w:World),(Instr.fieldAt s (.pointer (some ⟨b,off,none⟩)) f).run P w=.ok (.pointer (some ⟨b,off+fd.offset,none⟩)) w:=by
  intro b off w;simp only[Instr.fieldAt,Sem.run_bind,qO hT ht,Result.andThen_ok,hd,hf,Instr.sureAddr,Sem.run_pure,fieldPlace,tu hT hj,h0,bN,Addr.add_lit]
 unfold Gs at h
 split at h
 ·rename_i k m e;refine⟨_,h,lG fun w0 B w ι ρ hR hG hρ=>?_⟩
  have hv:=hρ x hx;rw[e]at hv;generalize hq:ρ x=v at hv
  cases hv with
  |own _ _ c s' hi=>exact⟨_,by simp[execOp,ho,hq,run],.own k _ c s' hi⟩
 ·rename_i k r m e;refine⟨_,h,lG fun w0 B w ι ρ hR hG hρ=>?_⟩
  have hv:=hρ x hx;rw[e]at hv;generalize hq:ρ x=v at hv
  cases hv with
  |orw _ _ _ c s' hi=>exact⟨.pointer (some ⟨c,r*s'.1+m+fd.offset,none⟩),by simp[execOp,ho,hq,run],by rw[Nat.add_assoc];exact .orw k r _ c s' hi⟩
 ·rename_i row e;refine⟨_,h,lG fun w0 B w ι ρ hR hG hρ=>?_⟩
  have hv:=hρ x hx;rw[e]at hv;generalize hq:ρ x=v at hv
  cases hv with
  |p _ _ hv=>
   cases hv with
   |rop _ b off vs sv hb hc hr=>
    refine⟨_,by simp only[execOp,ho,hq,Sem.run_bind,run,Result.andThen_ok,Sem.run_pure],.p _ _ (.rop _ b (off+fd.offset) (fun m=>vs (fd.offset+m)) sv hb (fun m a ha=>?_) fun m a ha=>?_)⟩
    ·grind
    grind
 ·cases h
theorem z1e{t e:TypeId}{len:Nat}{ti te:TI}(ht:T t=some ti)(hd:ti.desc=.array len e)(he:T e=some te)(h1:te.size=1)
  {o:Oper} {x y:Operand} (ho:o.op=.indexAddr t x y) {env:List AV} {H:AH} {K:AV->Prop} (h:FN bG len (bR env x) (bR env y) K):∃a,K a/\QS P G o env H a:=by
 have hx:x∈o.op.operands:=oW
 have hy:y∈o.op.operands:=oW
 have run:∀(b off:Nat)(k:IntKind)(n:Int)(w:World),0<=n->n<len->(Instr.indexAt t (.pointer (some ⟨b,off,none⟩)) (.int k n)).run P w=.ok (.pointer (some ⟨b,off+n.toNat,none⟩)) w:=by
  intro b off k n w h0 h2;simp only[Instr.indexAt,Sem.run_bind,qO hT ht,Result.andThen_ok,hd,asIntOf,Instr.sureAddr,Sem.run_pure,h0,h2,and_self,eE,tu hT he,h1,Nat.mul_one,Addr.add_lit]
 unfold FN at h
 split at h
 ·rename_i k j kk n e e';obtain⟨h0,h2,h⟩:=h;refine⟨_,h,lG fun w0 B w ι ρ hR hG hρ=>?_⟩
  have hv:=hρ x hx;have hu:=hρ y hy;rw[e]at hv;rw[e']at hu;generalize hq:ρ x=v at hv;generalize gw:ρ y=u at hu
  cases hu with
  |p _ _ hu=>
   cases hu
   cases hv with
   |own _ _ c s' hi=>exact⟨_,by simp only[execOp,ho,hq,gw,Sem.run_bind,run _ _ _ n w h0 h2,Result.andThen_ok,Sem.run_pure];rfl,.own k _ c s' hi⟩
 ·cases h
theorem zup{t e:TypeId}{ti te:TI}(ht:T t=some ti)(hd:ti.desc=.slice e)(he:T e=some te)
  {o:Oper} {x y:Operand} (ho:o.op=.indexAddr t x y) {env:List AV} {H:AH} {K:AV->Prop} (h:Gt bG te.size (bR env x) (bR env y) H K):∃a,K a/\QS P G o env H a:=by
 have hx:x∈o.op.operands:=oW
 have hy:y∈o.op.operands:=oW
 have run:∀(b off len cap:Nat)(k:IntKind)(n:Int)(w:World),0<=n->n<len->(Instr.indexAt t (.slice (some ⟨b,off,none⟩) len cap) (.int k n)).run P w=.ok (.pointer (some ⟨b,off+n.toNat*te.size,none⟩)) w:=by
  intro b off len cap k n w h0 h1;simp only[Instr.indexAt,Sem.run_bind,qO hT ht,Result.andThen_ok,hd,asIntOf,Sem.run_pure,h0,h1,and_self,eE,tu hT he,Addr.add_lit]
 unfold Gt at h;simp only[bG]at h
 split at h
 ·rename_i kk n en
  split at h
  ·rename_i s' rows e';obtain⟨rfl,h0,row,cS,h⟩:=h;refine⟨_,h,lG fun w0 B w ι ρ hR hG hρ=>?_⟩
   have hv:=hρ x hx;have hu:=hρ y hy;rw[e']at hv;rw[en]at hu;generalize hq:ρ x=v at hv;generalize gw:ρ y=u at hu
   cases hu with
   |p _ _ hu=>
    cases hu
    have cQ:n<rows.length:=aX
    cases hv with
    |p _ _ hv=>
     cases hv with
     |ro0=>simp at cQ;omega
     |ro _ _ b off cap vs sv hb pQ hs hc hr=>
      refine⟨_,by simp only[execOp,ho,hq,gw,Sem.run_bind,run _ _ _ _ _ n w h0 cQ,Result.andThen_ok,Sem.run_pure],.p _ _ (.rop row b (off+n.toNat*te.size) (fun m=>vs n.toNat m) sv hb (fun m a ha=>?_) fun m a ha=>?_)⟩
      ·grind
      grind
  ·rename_i k i0 len e'
   split at h
   ·rename_i s' rs t' hk;obtain⟨rfl,h0,h1,h⟩:=h;refine⟨_,h,lG fun w0 B w ι ρ hR hG hρ=>?_⟩
    have hv:=hρ x hx;have hu:=hρ y hy;rw[e']at hv;rw[en]at hu;generalize hq:ρ x=v at hv;generalize gw:ρ y=u at hu
    cases hu with
    |p _ _ hu=>
     cases hu
     cases hv with
     |osl0=>omega
     |osl _ _ _ c cap s hi hn hm hz=>
      have es:=(hR.blk k _ _ s hk hi).2.1;refine⟨_,by simp only[execOp,ho,hq,gw,Sem.run_bind,run _ _ _ _ _ n w h0 h1,Result.andThen_ok,Sem.run_pure];rfl,?_⟩
      have:=dG.orw (w:=w) (ι:=ι) (R:=Rd B ι H) k (i0+n.toNat) 0 c s hi
      grind
   ·cases h
  ·cases h
 ·cases h
theorem Qj{t:TypeId}{i:TI}(h:T t=some i)(hd:i.desc=.bool)(a b:Bool)(w:World):(Op.equal t (.bool a) (.bool b)).run P w=.ok (a==b) w:=by
 unfold Op.equal Op.maxDepth;rw[show(10000:Nat)=9999+1 from rfl,Op.equalIn];simp only[Sem.run_bind,qO hT h,Result.andThen_ok,hd];rfl
theorem zpx{t:TypeId}{ti:TI}(ht:T t=some ti)(hd:ti.desc=.string){o:Oper}{x y:Operand}(ho:o.op=.index t x y){env:List AV}{H:AH}{K:AV->Prop}{s:ByteArray}{kk:IntKind}{n:Int}
  (ex:bR env x=.p (.v (.string s))) (ey:bR env y=.p (.v (.int kk n))) {z:Int} (h0:0<=n) (hz:bG.get s n.toNat=some z) (h:K (.p (.v (.int .u8 z)))):∃a,K a/\QS P G o env H a:=by
 refine⟨_,h,lG fun w0 B w ι ρ hR hG hρ=>?_⟩
 have hx:=hρ x oW
 have hy:=hρ y oW
 rw[ex]at hx;rw[ey]at hy;have jo:=jW hx;have Cu:=jW hy;obtain⟨b,hb,rfl⟩:∃b,s.data.toList[n.toNat]?=some b/\((b.toNat:Nat):Int)=z:=by
  simp only[bG]at hz
  grind
 have hs:s[n.toNat]?=some b:=by
  have h1:=(aC.1 hb).1;have h2:n.toNat<s.size:=by simpa using h1
  rw[getElem?_pos s n.toNat h2];have h3:=(aC.1 hb).2;rw[<-h3];rfl
 refine⟨_,?_,.p _ _ (.v _)⟩;simp only[execOp,ho,jo,Cu,Instr.index,asIntOf,Sem.run_bind,Sem.run_pure,Result.andThen_ok,qO hT ht,hd,h0,eE,hs]
omit hT
theorem zp5{o:Oper}{x:Operand}{i:Nat}(ho:o.op=.extract x i){env:List AV}{H:AH}{K:AV->Prop}(h:E9 (bR env x) i K):∃a,K a/\QS P G o env H a:=by
 have hx:x∈o.op.operands:=oW
 unfold E9 at h
 split at h
 ·rename_i cs e
  split at h
  ·rename_i a ha;refine⟨_,h,lG fun w0 B w ι ρ hR hG hρ=>?_⟩
   have hv:=hρ x hx;rw[e]at hv;generalize hq:ρ x=v at hv
   cases hv with
   |tup _ vs hl hr=>
    have cQ:i<vs.length:=aX
    refine⟨vs[i],?_,hr i a _ ha (aB cQ)⟩;simp[execOp,ho,hq,Instr.extract,aB cQ]
  ·cases h
 ·rename_i cs e
  split at h
  ·rename_i a ha;refine⟨_,h,lG fun w0 B w ι ρ hR hG hρ=>?_⟩
   have hv:=hρ x hx;rw[e]at hv;generalize hq:ρ x=v at hv
   cases hv with
   |p _ _ hv=>
    cases hv with
    |tup _ vs hl hr=>
     have cQ:i<vs.length:=aX
     refine⟨vs[i],?_,.p _ _ (hr i a _ ha (aB cQ))⟩;simp[execOp,ho,hq,Instr.extract,aB cQ]
  ·cases h
 ·cases h
include hT in
theorem zwy{o:Oper}{s:TypeId}{x:Operand}{f:Nat}{i:TI}{fs:Array Field}{fd:Field}{j:TI}(ht:T s=some i)(hd:i.desc=.struct fs)(hf:fs[f]?=some fd)(hj:T fd.type=some j)(h0:vm j.desc=false)(ho:o.op=.field s x f){env:List AV}{H:AH}{K:AV->Prop}(h:apart (bR env x) fd.offset K):∃a,K a/\QS P G o env H a:=by
 have hx:x∈o.op.operands:=oW
 unfold apart at h
 split at h
 ·rename_i cs e
  split at h
  ·rename_i a ha;refine⟨_,h,lG fun w0 B w ι ρ hR hG hρ=>?_⟩
   have hv:=hρ x hx;rw[e]at hv;generalize hq:ρ x=v at hv
   cases hv with
   |agg _ vs hl hr=>
    have cQ:fd.offset<vs.length:=aX
    refine⟨vs[fd.offset],?_,hr _ a _ ha (aB cQ)⟩;simp[execOp,ho,hq,Instr.field,qO hT ht,hd,hf,asAgg,part,IK hT hj,h0,aB cQ]
  ·cases h
 ·rename_i cs e
  split at h
  ·rename_i a ha;refine⟨_,h,lG fun w0 B w ι ρ hR hG hρ=>?_⟩
   have hv:=hρ x hx;rw[e]at hv;generalize hq:ρ x=v at hv
   cases hv with
   |p _ _ hv=>
    cases hv with
    |agg _ vs hl hr=>
     have cQ:fd.offset<vs.length:=aX
     refine⟨vs[fd.offset],?_,.p _ _ (hr _ a _ ha (aB cQ))⟩;simp[execOp,ho,hq,Instr.field,qO hT ht,hd,hf,asAgg,part,IK hT hj,h0,aB cQ]
  ·cases h
 ·cases h
theorem Pg{o:Oper}{env:List AV}{H:AH}{K:AV->Prop}{s:Sem Value} (hs:∀(w0:cJ)(B:Nat->Prop)(w:World)(ι:Pl)(ρ:Operand->Value),eX w0 B w ι H->(∀x,x∈o.op.operands->dG w ι (Rd B ι H) (bR env x) (ρ x)) →
   (execOp ρ o).run P w=(s.run P w).andThen fun v w=>.ok (.value v) w) (h:QJ P s fun v=>K (.p (.v v))):∃a,K a/\QS P G o env H a:=by
 obtain⟨v,hk,hr⟩:=z7c P s _ h;refine⟨_,hk,lG fun w0 B w ι ρ hR hG hρ=>⟨v,?_,.p _ _ (.v _)⟩⟩
 rw[hs w0 B w ι ρ hR hρ,hr];rfl
include hT
theorem z2e{t:TypeId}{i:TI}(ht:T t=some i){x y:PV}{b:Bool} (hk:(match i.desc,x with
    | .int _,.v (.int _ _)=>true
    | .string,.v (.string _)=>true
    | .bool,.v (.bool _)=>true
    |_,_=>false)=true) (he:Jd bG x y=some b):∃u v,x=.v u/\y=.v v/\(vm i.desc=false)/\∀(d:Nat)(w:World),(Op.equalIn (d+1) t u v).run P w=.ok b w:=by
 unfold Jd at he
 split at he
 ·split at he
  ·rename_i fb;subst fb
   cases he
   cases hd:i.desc<;>rw[hd]at hk<;>simp at hk
   refine⟨_,_,rfl,rfl,rfl,fun d w=>?_⟩
   rw[Op.equalIn];simp only[Sem.run_bind,qO hT ht,Result.andThen_ok,hd,eE];rfl
  ·cases he
 ·cases he
  cases hd:i.desc<;>rw[hd]at hk<;>simp at hk
  refine⟨_,_,rfl,rfl,rfl,fun d w=>?_⟩
  rw[Op.equalIn];simp only[Sem.run_bind,qO hT ht,Result.andThen_ok,hd];rw[xk6];rfl
 ·cases he
  cases hd:i.desc<;>rw[hd]at hk<;>simp at hk
  refine⟨_,_,rfl,rfl,rfl,fun d w=>?_⟩
  rw[Op.equalIn];simp only[Sem.run_bind,qO hT ht,Result.andThen_ok,hd];rfl
 ·cases he
theorem Q7{pxs pys:List PV}{xs ys:List Value}(hx:∀(j:Nat)(v:Value),pxs[j]?=some (.v v)->xs[j]?=some v)(hy:∀(j:Nat)(v:Value),pys[j]?=some (.v v)->ys[j]?=some v)(d:Nat)(w:World):∀(fs:List Field)(r:Bool),DM bG T fs pxs pys=some r →
  (forIn fs ((none : Option Bool), ()) fun f __s => (if f.name ≠ "_" then do
    let __do_lift<-part f.type xs.toArray f.offset
    let __do_lift_1<-part f.type ys.toArray f.offset
    let __do_lift<-Op.equalIn (d+1) f.type __do_lift __do_lift_1
    if(!__do_lift)=true then pure (ForInStep.done (some false,()))else pure (ForInStep.yield (none,()))
   else pure (ForInStep.yield (none,())):Sem (ForInStep (Option Bool×Unit)))).run P w=.ok ((if r then none else some false),()) w
 |[],r,h=>by
  simp[DM]at h;subst h;rfl
 |f::fs,r,h=>by
  unfold DM at h
  split at h
  ·cases h
  rename_i XE
  split at h
  ·rename_i i x y hi GF hyo
   split at h
   ·rename_i b r' hk hb gv
    cases h
    obtain⟨u,v,rfl,rfl,kg,dS⟩:=z2e hT hi hk hb;have h1:=hx _ _ GF;have h2:=hy _ _ hyo;have ih:=Q7 hx hy d w fs r' gv;have p1:(part f.type xs.toArray f.offset).run P w=.ok u w:=by simp[part,IK hT hi,kg,h1]
    have p2:(part f.type ys.toArray f.offset).run P w=.ok v w:=by simp[part,IK hT hi,kg,h2]
    rw[List.forIn_cons];simp only[ne_eq,XE,not_false_eq_true,eE,Sem.run_bind,p1,p2,Result.andThen_ok,dS]
    cases b with
    |true=>
     simp_all
    |false=>
     simp_all
   ·cases h
  ·cases h
theorem zle{t:TypeId}{i:TI}(ht:T t=some i){fs:Array Field}(hd:i.desc=.struct fs)(hc:i.cmp=true){pxs pys:List PV}{xs ys:List Value}(hx:∀(j:Nat)(v:Value),pxs[j]?=some (.v v)->xs[j]?=some v)(hy:∀(j:Nat)(v:Value),pys[j]?=some (.v v)->ys[j]?=some v)
  {r:Bool} (h:DM bG T fs.toList pxs pys=some r) (w:World):(Op.equal t (.agg xs.toArray) (.agg ys.toArray)).run P w=.ok r w:=by
 unfold Op.equal Op.maxDepth;rw[show(10000:Nat)=9998+1+1 from rfl,Op.equalIn];simp only[Sem.run_bind,qO hT ht,Result.andThen_ok,hd,program,Sem.run];rw[((hT t i ht).2 hc).1];simp only[aK,bN];rw[<-Array.forIn_toList];simp only[Sem.run_bind];rw[Q7 hT hx hy 9998 w fs.toList r h]
 cases r<;>rfl
theorem Qn{t:TypeId}{i:TI}(ht:T t=some i)(hc:i.cmp=true)(op:BinOp)(x y:Operand)(xs ys:Array Value)(w:World):(eqGuard op t x y (.agg xs) (.agg ys)).run P w=.ok () w:=by
 have h:=((hT t i ht).2 hc).2
 cases op<;>simp[eqGuard,program,Sem.run,h]
theorem z1d{o:Oper}{op:BinOp}{t ty:TypeId}{x y:Operand}(ho:o.op=.binOp op t x y ty){env:List AV}{H:AH}{K:AV->Prop}(h:FM P bG T op t (bR env x) (bR env y) K):∃a,K a/\QS P G o env H a:=by
 have hx:x∈o.op.operands:=oW
 have hy:y∈o.op.operands:=oW
 unfold FM at h
 split at h
 ·rename_i a b ea eb
  split at h
  ·rename_i i hi
   split at h
   ·rename_i hd;refine⟨_,h,lG fun w0 B w ι ρ hR hG hρ=>⟨_,?_,.p _ _ (.v _)⟩⟩
    have h1:=hρ x hx;have h2:=hρ y hy;rw[ea]at h1;rw[eb]at h2;simp only[execOp,ho,jW h1,jW h2,Sem.run_bind];rw[show binOp .eql t (.bool a) (.bool b)=(do pure (.bool (← Op.equal t (.bool a) (.bool b))))from rfl]
    simp only[Sem.run_bind,Result.andThen_ok,Qj hT hi hd];rfl
   ·rename_i hd;refine⟨_,h,lG fun w0 B w ι ρ hR hG hρ=>⟨_,?_,.p _ _ (.v _)⟩⟩
    have h1:=hρ x hx;have h2:=hρ y hy;rw[ea]at h1;rw[eb]at h2;simp only[execOp,ho,jW h1,jW h2,Sem.run_bind];rw[show binOp .neq t (.bool a) (.bool b)=(do pure (.bool (!(← Op.equal t (.bool a) (.bool b)))))from rfl]
    simp only[Sem.run_bind,Result.andThen_ok,Qj hT hi hd];rfl
   ·cases h
  ·cases h
 ·rename_i k a k' b ea eb;have dS:∀(w0:cJ)(B:Nat->Prop)(w:World)(ι:Pl)(ρ:Operand->Value),(∀x,x∈o.op.operands->dG w ι (Rd B ι H) (bR env x) (ρ x))->(execOp ρ o).run P w=((binOp op t (.int k a) (.int k' b)).run P w).andThen fun v w=>.ok (.value v) w:=by
   intro w0 B w ι ρ hρ;have h1:=hρ x hx;have h2:=hρ y hy;rw[ea]at h1;rw[eb]at h2;have hg:(eqGuard op t x y (.int k a) (.int k' b)).run P w=.ok () w:=by
    unfold eqGuard
    split<;>rfl
   simp[execOp,ho,jW h1,jW h2,hg]
  split at h
  ·exact Ws
  ·exact Ws
  split at h
  ·rename_i fb;subst fb;have fin:∀v,K (.p (.v v))->(∀w,(binOp op t (.int k a) (.int k b)).run P w=.ok v w)->∃a,K a/\QS P G o env H a:=fun v hv hr=>
    ⟨_,hv,lG fun w0 B w ι ρ hR hG hρ=>⟨v,by rw[dS w0 B w ι ρ hρ,hr];rfl,.p _ _ (.v _)⟩⟩
   unfold Rx at h
   split at h
   ·exact Jv
   ·exact Jv
   ·exact Jv
   ·exact fin _ h.2 fun w=>by simp[binOp,Op.intDiv,bG,h.1]
   ·exact fin _ h.2 fun w=>by simp[binOp,Op.intDiv,h.1,bG]
   ·exact MC
   ·exact MC
   ·exact MC
   ·exact MC
   ·exact MC
   ·exact MC
   ·exact Ju
   ·exact Ju
   ·exact Ju
   ·exact Pg (fun w0 B w ι ρ hR hρ=>dS w0 B w ι ρ hρ) h
  ·cases h
 ·rename_i a b ea eb;have dS:∀(w0:cJ)(B:Nat->Prop)(w:World)(ι:Pl)(ρ:Operand->Value),(∀x,x∈o.op.operands->dG w ι (Rd B ι H) (bR env x) (ρ x))->(execOp ρ o).run P w=((binOp op t (.string a) (.string b)).run P w).andThen fun v w=>.ok (.value v) w:=by
   intro w0 B w ι ρ hρ;have h1:=hρ x hx;have h2:=hρ y hy;rw[ea]at h1;rw[eb]at h2;have hg:(eqGuard op t x y (.string a) (.string b)).run P w=.ok () w:=by
    unfold eqGuard
    split<;>rfl
   simp[execOp,ho,jW h1,jW h2,hg]
  have fin:∀v,K (.p (.v v))->(∀w,(binOp op t (.string a) (.string b)).run P w=.ok v w)->∃a,K a/\QS P G o env H a:=fun v hv hr=>
   ⟨_,hv,lG fun w0 B w ι ρ hR hG hρ=>⟨v,by rw[dS w0 B w ι ρ hρ,hr];rfl,.p _ _ (.v _)⟩⟩
  unfold Rz at h
  split at h
  ·refine fin _ h.2 fun w=>?_
   have h1:((a.size:Nat):Int)+((b.size:Nat):Int)<=9223372036854775807:=h.1;have h2:¬(((a.size+b.size:Nat):Int)>IntKind.i64.max):=cj
   simp only[binOp,Op.stringOp,h2,bN];rfl
  ·exact Ci
  ·exact Ci
  ·exact fin _ h fun w=>rfl
  ·exact Ci
  ·exact Ci
  ·exact fin _ h fun w=>rfl
  ·cases h
 ·split at h
  ·rename_i pxs pys i MX Z8 ht
   split at h
   ·rename_i fs hd fc
    split at h
    ·rename_i r hr;refine⟨_,h,lG fun w0 B w ι ρ hR hG hρ=>⟨_,?_,.p _ _ (.v _)⟩⟩
     obtain⟨xs,ex,zG⟩:=ZT MX (hρ x hx);obtain⟨ys,ey,L7⟩:=ZT Z8 (hρ y hy);simp only[execOp,ho,ex,ey,Sem.run_bind,Qn hT ht fc,Result.andThen_ok];rw[show binOp .eql t (.agg xs.toArray) (.agg ys.toArray)=(do pure (.bool (← Op.equal t (.agg xs.toArray) (.agg ys.toArray))))from rfl]
     exact Uy
    ·cases h
   ·rename_i fs hd fc
    split at h
    ·rename_i r hr;refine⟨_,h,lG fun w0 B w ι ρ hR hG hρ=>⟨_,?_,.p _ _ (.v _)⟩⟩
     obtain⟨xs,ex,zG⟩:=ZT MX (hρ x hx);obtain⟨ys,ey,L7⟩:=ZT Z8 (hρ y hy);simp only[execOp,ho,ex,ey,Sem.run_bind,Qn hT ht fc,Result.andThen_ok];rw[show binOp .neq t (.agg xs.toArray) (.agg ys.toArray)=(do pure (.bool (!(← Op.equal t (.agg xs.toArray) (.agg ys.toArray)))))from rfl]
     exact Uy
    ·cases h
   ·cases h
  ·cases h
omit hT in
theorem zwu{o:Oper}{op:UnOp}{t:TypeId}{x:Operand}(ho:o.op=.unOp op t x){env:List AV}{H:AH}{K:AV->Prop}(h:Hb P bG op (bR env x) K):∃a,K a/\QS P G o env H a:=by
 have hx:x∈o.op.operands:=oW
 unfold Hb at h
 split at h
 ·rename_i k n e
  split at h
  ·refine⟨_,h,lG fun w0 B w ι ρ hR hG hρ=>⟨_,?_,.p _ _ (.v _)⟩⟩
   have hv:=hρ x hx;rw[e]at hv;simp[execOp,ho,jW hv,Op.unary,Op.intArith,bG]
  ·refine Pg (fun w0 B w ι ρ hR hρ=>?_) h
   have hv:=hρ x hx;rw[e]at hv;simp[execOp,ho,jW hv]
 ·rename_i b e
  split at h
  ·refine⟨_,h,lG fun w0 B w ι ρ hR hG hρ=>⟨_,?_,.p _ _ (.v _)⟩⟩
   have hv:=hρ x hx;rw[e]at hv;simp[execOp,ho,jW hv,Op.unary]
  ·cases h
 ·cases h
omit hT in
theorem z0t{w:World}{R:Nat->Prop}{dB dst e:TypeId}(hs:P.underlying dB=some (.slice e))(he:P.underlying e=some (.int .u8))(hd:P.underlying dst=some .string){bs:ByteArray}{v:Value}(h:cI w R (.ro 1 (nJ bs)) v):(convert dB dst v).run P w=.ok (.string bs) w:=by
 have hlen:(nJ bs).length=bs.data.toList.length:=by simp[nJ]
 generalize hr:nJ bs=rows at h
 cases h with
 |ro0 _ A cap=>
  have ip:bs=⟨#[]⟩:=by
   obtain⟨⟨l⟩⟩:=bs
   grind
  subst ip
  cases A with
  |none=>
   simp[convert,run_underlying hs,run_underlying hd,run_underlying he,Conv.bytesToString];rfl
  |some a=>exact run_convert_bytes_back (P:=P) w dB dst e a cap [] hs he hd (fun j hj=>by simp at hj)
 |ro _ _ b off cap vs lT hb pQ hs' hc gw=>
  subst hr
  have:=run_convert_bytes_back (P:=P) w dB dst e ⟨b,off,none⟩ cap bs.data.toList hs he hd (fun j hj=>by
   have hq:(nJ bs)[j]?=some [.v (.int .u8 (bs.data.toList[j].toNat:Nat))]:=by
    unfold nJ
    grind
   have h2:=(hc j 0 _ _ hq rfl).1;have h3:=gw j 0 _ _ hq rfl;generalize vs j 0=u at h2 h3
   cases h3
   rw[Addr.add_lit]
   grind)
  simp_all
theorem zw1{o:Oper}{dB dst:TypeId}{x:Operand}(ho:o.op=.convert dB dst x){env:List AV}{H:AH}{K:AV->Prop}(h:H9 bG T dst dB (bR env x) K):∃a,K a/\QS P G o env H a:=by
 have hx:x∈o.op.operands:=oW
 unfold H9 at h
 split at h
 ·rename_i i j k n hi hj e
  split at h
  ·rename_i hd;refine⟨_,h,lG fun w0 B w ι ρ hR hG hρ=>⟨_,?_,.p _ _ (.v _)⟩⟩
   have h1:=hρ x hx;rw[e]at h1;simp[execOp,ho,jW h1,convert,qO hT hi,qO hT hj,hd,Conv.intToString,bG]
  ·rename_i k' hd;refine⟨_,h,lG fun w0 B w ι ρ hR hG hρ=>⟨_,?_,.p _ _ (.v _)⟩⟩
   have h1:=hρ x hx;rw[e]at h1;simp[execOp,ho,jW h1,convert,qO hT hi,qO hT hj,hd,Conv.intToInt,bG]
  ·cases h
 ·rename_i i j s hi hj e
  split at h
  ·rename_i hd;refine⟨_,h,lG fun w0 B w ι ρ hR hG hρ=>⟨_,?_,.p _ _ (.v _)⟩⟩
   have h1:=hρ x hx;rw[e]at h1;simp[execOp,ho,jW h1,convert,qO hT hi,qO hT hj,hd]
  ·rename_i e0 hd
   split at h
   ·rename_i te he
    split at h
    ·rename_i YB;obtain⟨dR,h⟩:=h;refine⟨_,h,fun w0 B w ι ρ hR hG hρ hf=>?_⟩
     have h1:=hρ x hx;rw[e]at h1;have WH:s.size<=70368744177664:=by
      have:((s.size:Nat):Int)<=70368744177664:=dR
      omega
     have hlen:=zvh s;have eR:P.underlying dst=some (.slice e0):=by rw[(hT _ _ hi).1.1,hd]
     have jz:P.underlying e0=some (.int .i32):=UW
     have dS:(execOp ρ o).run P w=.ok (.value (.slice (some ⟨w.heap.size,0,none⟩) (rX s).length (grownCap w (rX s).length 0 e0))) (w.drew.alloc (.cells (((rX s).map (Value.int .i32)).toArray++Array.replicate (grownCap w (rX s).length 0 e0-(rX s).length) (.int .i32 0)) e0)):=by
      cases hk:j.desc with
      |string=>
       have uF:P.underlying dB=some .string:=by rw[(hT _ _ hj).1.1,hk]
       have hc:=run_runes_of_string (P:=P) w dB dst e0 s uF eR jz (by rw[Ap];simp;omega)
       rw[Ap]at hc;simp[execOp,ho,jW h1,hc]
      |_=>
       simp[execOp,ho,jW h1,convert,qO hT hi,qO hT hj,hd,hk,run_underlying jz,Conv.stringToRunes,Question.forced,newRow,grownCap,Ap]
     rw[dS];have vG:Gr w (w.drew.alloc (.cells (((rX s).map (Value.int .i32)).toArray++Array.replicate (grownCap w (rX s).length 0 e0-(rX s).length) (.int .i32 0)) e0)):=((Below.refl _ w).drew).alloc (nR _) _;refine⟨vG,.p _ _ ?_⟩;have XD:Rd B ι H w.heap.size:=⟨hR.fut _ (nR _),fun ho=>by have:=hR.lt ho;omega⟩
     have jr:(pR (rX s)).length=(rX s).length:=by simp[pR]
     have yB:(w.drew.alloc (.cells (((rX s).map (Value.int .i32)).toArray++Array.replicate (grownCap w (rX s).length 0 e0-(rX s).length) (.int .i32 0)) e0)).heap[w.heap.size]?=some (.cells (((rX s).map (Value.int .i32)).toArray++Array.replicate (grownCap w (rX s).length 0 e0-(rX s).length) (.int .i32 0)) e0 (0,0)):=by
      show(w.heap.push _)[w.heap.size]?=_;simp
     have cS:∀(q:Nat)(row:List PV),(pR (rX s))[q]?=some row->∃n,(rX s)[q]?=some n/\row=[.v (.int .i32 n)]:=fun q row hq=>by
      unfold pR at hq
      grind
     have gJ:∀(q jj:Nat)(row:List PV)(a:PV),(pR (rX s))[q]?=some row->row[jj]?=some a->∃n,(rX s)[q]?=some n/\jj=0/\a=.v (.int .i32 n):=fun q jj row a hq ha=>by
      grind
     have:=cI.ro (w:=w.drew.alloc (.cells (((rX s).map (Value.int .i32)).toArray++Array.replicate (grownCap w (rX s).length 0 e0-(rX s).length) (.int .i32 0)) e0)) (R:=Rd B ι H) 1 (pR (rX s)) w.heap.size 0 (grownCap w (rX s).length 0 e0) (fun q _=>.int .i32 (((rX s)[q]?).getD 0)) XD aX (by rw[jr];exact grownCap_ge _ _ _ _)
      (fun q row hq=>by grind)
      (fun q jj row a hq ha=>by
       obtain⟨n,hn,rfl,rfl⟩:=gJ q jj row a hq ha;refine⟨?_,rfl⟩;rw[ku yB]
       grind)
      (fun q jj row a hq ha=>by
       obtain⟨n,hn,rfl,rfl⟩:=gJ q jj row a hq ha;simp only[hn,jK];exact .v _)
     rw[jr]at this;exact this
    ·rename_i YB;refine⟨_,h,fun w0 B w ι ρ hR hG hρ hf=>?_⟩
     have h1:=hρ x hx;rw[e]at h1;have eR:P.underlying dst=some (.slice e0):=by rw[(hT _ _ hi).1.1,hd]
     have jz:P.underlying e0=some (.int .u8):=UW
     have uF:P.underlying dB=some j.desc:=(hT _ _ hj).1.1;have hc:=Lib.run_convert_string_bytes (P:=P) w dB dst e0 s uF eR jz;have dS:(execOp ρ o).run P w=.ok (.value (.slice (some ⟨w.heap.size,0,none⟩) s.size (grownCap w s.size 0 e0))) (Lib.bytesWorld w e0 s):=by
      simp[execOp,ho,jW h1,hc]
     rw[dS];have XD:Rd B ι H w.heap.size:=⟨hR.fut _ (nR _),fun ho=>by have:=hR.lt ho;omega⟩
     refine⟨z6b w e0 s,.p _ _ (z2y XD (Lib.bytesWorld_at_new _ _ _) (grownCap_ge _ _ _ _) fun q b hb=>?_)⟩
     unfold Lib.bytesCells
     grind
    ·cases h
   ·cases h
  ·cases h
 ·rename_i i j n rows hi hj e
  split at h
  ·rename_i e0 hd zY
   split at h
   ·rename_i te he
    split at h
    ·rename_i YB;obtain⟨rfl,ns,rfl,h⟩:=h;refine⟨_,h,lG fun w0 B w ι ρ hR hG hρ=>?_⟩
     have h1:=hρ x hx;rw[e]at h1;have jz:P.underlying e0=some (.int .i32):=UW
     have MT:∀v,(Conv.runesToString v).run P w=.ok (.string (runesBytes ns)) w->(∀y,v ≠ .string y)->(∃A l c,v=.slice A l c)->(convert dB dst v).run P w=.ok (.string (runesBytes ns)) w:=by
      intro v hv _ qv;obtain⟨A,l,c,rfl⟩:=qv;simp[convert,qO hT hi,qO hT hj,hd,zY,run_underlying jz,hv]
     cases h1 with
     |p _ _ h1=>
      generalize hv:ρ x=v at h1;have Yn:(pR ns).length=ns.length:=by simp[pR]
      generalize hr:pR ns=rows at h1
      cases h1 with
      |ro0 _ A cap=>
       have mT:ns=[]:=aX
       subst mT;refine⟨.string (runesBytes []),?_,.p _ _ (.v _)⟩
       have:=MT (.slice A 0 cap) (by cases A<;>simp[Conv.runesToString,loadCells,loadCellsFrom,runesBytes]) dL ⟨_,_,_,rfl⟩
       simp[execOp,ho,hv,this]
      |ro _ _ b off cap vs lT hb pQ hs hc gw=>
       subst hr;refine⟨.string (runesBytes ns),?_,.p _ _ (.v _)⟩;have Lz:(loadCells ⟨b,off,none⟩ ns.length).run P w=.ok (ns.map (Value.int .i32)).toArray w:=by
        have hl:=run_loadCells_list (P:=P) (w:=w) ⟨b,off,none⟩ (ns.map (Value.int .i32)) (fun q u hu=>by
         rw[aI]at hu
         cases hn:ns[q]? with
         |none=>rw[hn]at hu;cases hu
         |some m=>
          rw[hn]at hu;cases hu
          have hq:(pR ns)[q]?=some [.v (.int .i32 m)]:=by simp[pR,hn]
          have h2:=(hc q 0 _ _ hq rfl).1;have h3:=gw q 0 _ _ hq rfl;have h4:vs q 0=.int .i32 m:=by
           generalize vs q 0=u at h3
           cases h3;rfl
          rw[h4]at h2;rw[Addr.add_lit]
          grind)
        simpa using hl
       have:=MT (.slice (some ⟨b,off,none⟩) (pR ns).length cap) (by rw[Yn];exact run_runesToString w _ _ cap ns Lz) dL ⟨_,_,_,rfl⟩
       simp[execOp,ho,hv,this]
    ·rename_i YB;obtain⟨rfl,bs,rfl,h⟩:=h;refine⟨_,h,lG fun w0 B w ι ρ hR hG hρ=>⟨.string bs,?_,.p _ _ (.v _)⟩⟩
     have h1:=hρ x hx;rw[e]at h1;have jz:P.underlying e0=some (.int .u8):=UW
     have eR:P.underlying dst=some .string:=by rw[(hT _ _ hi).1.1,hd]
     have uF:P.underlying dB=some (.slice e0):=by rw[(hT _ _ hj).1.1,zY]
     cases h1 with
     |p _ _ h1=>
      have:=z0t (P:=P) uF jz eR h1
      simp[execOp,ho,this]
    ·cases h
   ·cases h
  ·cases h
 ·cases h
theorem zut{o:Oper}{dB dst:TypeId}{x:Operand}(ho:o.op=.convert dB dst x){env:List AV}{H:AH}{K:AV->Prop}{k i n:Nat}(ex:bR env x=.osl k i n)(h:Gq bG T dst dB k i n H K):∃a,K a/\QS P G o env H a:=by
 have hx:x∈o.op.operands:=oW
 unfold Gq at h
 split at h
 ·rename_i di si rT hsi
  split at h
  ·rename_i e hd zY
   split at h
   ·rename_i te he
    split at h
    ·rename_i YB
     split at h
     ·rename_i s rs ty hk;obtain⟨rfl,hle,bs,YD,h⟩:=h;change i+n<=rs.length at hle;change(rs.drop i).take n=nJ bs at YD;refine⟨_,h,lG fun w0 B w ι ρ hR hG hρ=>⟨.string bs,?_,.p _ _ (.v _)⟩⟩
      have h1:=hρ x hx;rw[ex]at h1;have jz:P.underlying e=some (.int .u8):=UW
      have eR:P.underlying dst=some .string:=by rw[(hT _ _ rT).1.1,hd]
      have uF:P.underlying dB=some (.slice e):=by rw[(hT _ _ hsi).1.1,zY]
      generalize hv:ρ x=v at h1;have hlen:bs.data.toList.length=n:=by
       have:((rs.drop i).take n).length=n:=aX
       rw[YD]at this;simpa [nJ]using this
      cases h1 with
      |osl0=>
       have ip:bs=⟨#[]⟩:=by
        obtain⟨⟨l⟩⟩:=bs;simp at hlen;subst hlen;rfl
       subst ip;have hn:(convert dB dst (.slice none 0 0)).run P w=.ok (.string ⟨#[]⟩) w:=by
        simp[convert,run_underlying uF,run_underlying eR,run_underlying jz,Conv.bytesToString];rfl
       simp[execOp,ho,hv,hn]
      |osl _ _ _ c cap sz hi ia hm hz=>
       obtain⟨es,hl,hh⟩:=(hR.blk k _ _ sz hk hi).2
       rcases hh with⟨ec,_⟩|⟨c',arr,ec,hb,vA,dC⟩
       ·cases ec
       cases ec
       have:=run_convert_bytes_back (P:=P) w dB dst e ⟨c,i*sz.1,none⟩ cap bs.data.toList uF jz eR (fun j hj=>by
        have hq:(nJ bs)[j]?=some [.v (.int .u8 (bs.data.toList[j].toNat:Nat))]:=by
         unfold nJ
         grind
        rw[<-YD]at hq;have yQ:rs[i+j]?=some [.v (.int .u8 (bs.data.toList[j].toNat:Nat))]:=by
         grind
        obtain⟨u,hu,_,yd⟩:=dC (i+j) 0 _ _ yQ rfl
        cases yd
        rw[Addr.add_lit,ku hb]
        grind)
       rw[hlen]at this;simp[execOp,ho,hv,this]
     ·cases h
    ·cases h
   ·cases h
  ·cases h
 ·cases h
omit hT
theorem OP{env:List AV}{x:Option Operand}{d:Int}{K:Int->Prop}(h:DB (x.map (bR env)) d K):
  ∃n,K n/\((x=none/\n=d)\/∃y k,x=some y/\bR env y=.p (.v (.int k n))):=by
 cases x with
 |none=>exact⟨d,h,.inl ⟨rfl,rfl⟩⟩
 |some y=>
  unfold DB at h
  grind
def ve(ρ:Operand->Value)(x:Option Operand)(d:Nat)(n:Int):Prop:=(x=none/\n=d)\/∃y k,x=some y/\ρ y=.int k n
theorem Qo{ρ:Operand->Value}{b:Bool}{len cap:Nat}{lo hi:Option Operand}{l h:Int}(hh:ve ρ hi len h)(hl:ve ρ lo 0 l)(h0:0<=l)(h1:l<=h)(h2:h<=cap)(w:World):
  (Instr.sliceBounds b len cap (lo.map ρ) (hi.map ρ) none).run P w=.ok (l.toNat,h.toNat,cap) w:=by
 have h3:(0:Int)<=h:=eC
 rcases hh with⟨rfl,rfl⟩|⟨y,k,rfl,ey⟩
 ·rcases hl with⟨rfl,rfl⟩|⟨z,k',rfl,ez⟩
  ·simp[Instr.sliceBounds]
  ·have h5:l<=((len:Nat):Int):=h1;simp[Instr.sliceBounds,Instr.sliceBound,ez,asIntOf,h0,h5]
 ·rcases hl with⟨rfl,rfl⟩|⟨z,k',rfl,ez⟩
  ·simp[Instr.sliceBounds,Instr.sliceBound,ey,asIntOf,h3,h2]
  ·simp[Instr.sliceBounds,Instr.sliceBound,ey,ez,asIntOf,h3,h2,h0];omega
include hT
theorem zpn{t:TypeId}{ti:TI}(ht:T t=some ti)(hd:ti.desc=.string){o:Oper}{x:Operand}{lo hi:Option Operand}(ho:o.op=.slice t x lo hi none){env:List AV}{H:AH}{K:AV->Prop}
  (h:Ep bG (bR env x) (lo.map (bR env)) (hi.map (bR env)) K):∃a,K a/\QS P G o env H a:=by
 have hx:x∈o.op.operands:=oW
 have jx:∀y,lo=some y->y∈o.op.operands:=fun y e=>by rw[ho,e];simp[Op.operands]
 have Yy:∀y,hi=some y->y∈o.op.operands:=fun y e=>by rw[ho,e];simp[Op.operands]
 unfold Ep at h
 split at h
 ·rename_i s e;obtain⟨n,h,bn⟩:=OP h;obtain⟨m,h,bm⟩:=OP h;obtain⟨h0,h1,h2,h⟩:=h;change m<=n at h1;change n<=(s.size:Nat)at h2;change K (.p (.v (.string (s.extract m.toNat n.toNat))))at h;refine⟨_,h,lG fun w0 B w ι ρ hR hG hρ=>⟨_,?_,.p _ _ (.v _)⟩⟩
  have hv:=hρ x hx;rw[e]at hv;have b1:ve ρ hi s.size n:=by
   rcases bn with bn|⟨y,k,ey,ea⟩
   ·exact .inl bn
   ·exact K9
  have b2:ve ρ lo 0 m:=by
   exact W1
  simp only[execOp,ho,jW hv,Option.map_none,Instr.sliceAt,Sem.run_bind,qO hT ht,Result.andThen_ok,hd,Instr.slice];simp[Qo (P:=P) b1 b2 h0 h1 h2]
 ·cases h
theorem zuj{t e:TypeId}{ti te:TI}(ht:T t=some ti)(hd:ti.desc=.slice e)(he:T e=some te){o:Oper}{x:Operand}{lo hi:Option Operand}(ho:o.op=.slice t x lo hi none){env:List AV}{H:AH}{K:AV->Prop}
  (h:Gu bG te.size (bR env x) (lo.map (bR env)) (hi.map (bR env)) K):∃a,K a/\QS P G o env H a:=by
 have hx:x∈o.op.operands:=oW
 have jx:∀y,lo=some y->y∈o.op.operands:=fun y e=>by rw[ho,e];simp[Op.operands]
 have Yy:∀y,hi=some y->y∈o.op.operands:=fun y e=>by rw[ho,e];simp[Op.operands]
 have run:∀(A:Option Addr)(len cap:Nat)(ρ:Operand->Value)(l h:Int)(w:World),ve ρ hi len h->ve ρ lo 0 l->0<=l->l<=h->h<=cap->ρ x=.slice A len cap →
   (execOp ρ o).run P w=.ok (.value (.slice (if cap=l.toNat then A else A.map (·.add (l.toNat*te.size))) (h.toNat-l.toNat) (cap-l.toNat))) w:=by
  intro A len cap ρ l h w b1 b2 h0 h1 h2 hv;simp only[execOp,ho,hv,Option.map_none,Instr.sliceAt,Sem.run_bind,qO hT ht,Result.andThen_ok,hd,Instr.slice];simp[Qo (P:=P) b1 b2 h0 h1 h2,tu hT he]
 unfold Gu at h;simp only[bG]at h
 split at h
 ·rename_i s rows ex;obtain⟨rfl,h⟩:=h;obtain⟨n,h,bn⟩:=OP h;obtain⟨m,h,bm⟩:=OP h;obtain⟨h0,h1,h2,h⟩:=h;refine⟨_,h,lG fun w0 B w ι ρ hR hG hρ=>?_⟩
  have hv:=hρ x hx;rw[ex]at hv;generalize hq:ρ x=v at hv;have b1:ve ρ hi rows.length n:=by
   rcases bn with bn|⟨y,k,ey,ea⟩
   ·exact .inl bn
   ·exact K9
  have b2:ve ρ lo 0 m:=by
   exact W1
  cases hv with
  |p _ _ hv=>
   cases hv with
   |ro0 _ A cap=>
    simp only[bZ]at b1 h2;refine⟨_,run A 0 cap ρ m n w b1 b2 h0 h1 oM hq,?_⟩
    have kM:n.toNat-m.toNat=0:=eC
    rw[kM];simp only[List.take_nil,List.drop_nil];exact .p _ _ (.ro0 _ _ _)
   |ro _ _ b off cap vs sv hb pQ hs hc hr=>
    refine⟨_,run _ _ cap ρ m n w b1 b2 h0 h1 oM hq,?_⟩
    have hlen:((rows.take n.toNat).drop m.toNat).length=n.toNat-m.toNat:=by
     grind
    have aT:∀i row,((rows.take n.toNat).drop m.toNat)[i]?=some row->rows[m.toNat+i]?=some row:=fun i row hi=>by
     grind
    by_cases hz:n.toNat-m.toNat=0
    ·have:(rows.take n.toNat).drop m.toNat=[]:=aQ oM
     rw[hz,this];exact .p _ _ (.ro0 _ _ _)
    ·rw[aD oM,<- hlen]
     simp only[fM,Addr.add_lit];refine .p _ _ (.ro _ _ b _ _ (fun i j=>vs (m.toNat+i) j) sv hb oM (fun i row hi=>hs _ row (aT i row hi)) (fun i j row a hi hj=>?_) fun i j row a hi hj=>hr _ j row a (aT i row hi) hj)
     grind
 ·rename_i k i n ex
  split at h
  ·rename_i hlon;have XH:lo=none:=cj
   subst XH;obtain⟨m,h,bm⟩:=OP h;obtain⟨h0,h1,h⟩:=h;refine⟨_,h,lG fun w0 B w ι ρ hR hG hρ=>?_⟩
   have hv:=hρ x hx;rw[ex]at hv;generalize hq:ρ x=v at hv;have b1:ve ρ hi n m:=by
    rcases bm with bm|⟨y,k,ey,ea⟩
    ·exact .inl bm
    ·exact K9
   cases hv with
   |osl0=>
    refine⟨_,run none 0 0 ρ 0 m w b1 (.inl ⟨rfl,rfl⟩) oM oM oM hq,?_⟩
    grind
   |osl _ _ _ c cap s tI hn hm hz=>
    refine⟨_,run _ n cap ρ 0 m w b1 (.inl ⟨rfl,rfl⟩) oM oM oM hq,?_⟩
    have e0:(if cap=(0:Int).toNat then some (⟨c,i*s.1,none⟩:Addr)else(some (⟨c,i*s.1,none⟩:Addr)).map (·.add ((0:Int).toNat*te.size)))=some ⟨c,i*s.1,none⟩:=by
     split
     ·rfl
     ·simp[Addr.add]
    rw[e0];exact .osl k i m.toNat c cap s tI oM hm hz
  ·cases h
 ·cases h
end
section
variable{P:Program}{G:World->Prop}{T:TT}
theorem z1b(hT:iE P T){o:Oper}{x:Operand}{c:Call}(ho:o.op=.call c)(hc:c.callee=.builtin .len)(ha:c.args.toList=[x]){t:TypeId}{ti:TI}(mY:c.argTypes.toList=[t])(ht:T t=some ti)
  {env:List AV} {H:AH} {K:AV->Prop} (h:FL bG ti.desc (bR env x) K):∃a,K a/\QS P G o env H a:=by
 have eG:c.args=#[x]:=eW.1 LN
 have sm:c.argTypes=#[t]:=eW.1 (by simpa using mY)
 have hx:x∈o.op.operands:=UY
 have run:∀(ρ:Operand->Value)(w:World)(n:Nat),(Builtin.len_ #[t] o.type #[ρ x]).run P w=.ok (.int .i64 n) w->(execOp ρ o).run P w=.ok (.value (.int .i64 n)) w:=by
  intro ρ w n hr;simp only[execOp,ho,resolve,hc,Sem.run_bind,Sem.run_pure,Result.andThen_ok,invoke,builtin,eG,sm];simp[hr]
 unfold FL at h
 split at h
 ·rename_i hd
  split at h
  ·rename_i s e;refine⟨_,h,lG fun w0 B w ι ρ hR hG hρ=>⟨_,run ρ w s.size ?_,.p _ _ (.v _)⟩⟩
   have hv:=hρ x hx;rw[e]at hv;rw[jW hv];simp[Builtin.len_,qO hT ht,hd,goInt]
  ·cases h
 ·rename_i el hd;have slc:∀(A:Option Addr)(n c:Nat)(w:World),(Builtin.len_ #[t] o.type #[.slice A n c]).run P w=.ok (.int .i64 n) w:=by
   simp[Builtin.len_,qO hT ht,hd,goInt]
  split at h
  ·rename_i A n c e;refine⟨_,h,lG fun w0 B w ι ρ hR hG hρ=>⟨_,run ρ w n ?_,.p _ _ (.v _)⟩⟩
   have hv:=hρ x hx;rw[e]at hv;rw[jW hv];exact slc _ _ _ _
  ·rename_i e;refine⟨_,h,lG fun w0 B w ι ρ hR hG hρ=>⟨_,run ρ w 0 ?_,.p _ _ (.v _)⟩⟩
   have hv:=hρ x hx;rw[e]at hv;generalize hq:ρ x=v at hv
   cases hv with
   |p _ _ hv=>cases hv;exact slc _ _ _ _
  ·rename_i s rows e;refine⟨_,h,lG fun w0 B w ι ρ hR hG hρ=>⟨_,run ρ w rows.length ?_,.p _ _ (.v _)⟩⟩
   have hv:=hρ x hx;rw[e]at hv;generalize hq:ρ x=v at hv
   cases hv with
   |p _ _ hv=>cases hv<;>exact slc _ _ _ _
  ·rename_i k i n e;refine⟨_,h,lG fun w0 B w ι ρ hR hG hρ=>⟨_,run ρ w n ?_,.p _ _ (.v _)⟩⟩
   have hv:=hρ x hx;rw[e]at hv;generalize hq:ρ x=v at hv
   cases hv<;>exact slc _ _ _ _
  ·cases h
 ·cases h
theorem Rc{α β:Type}{f:α->β}{l:List α}{a b:β}(h:l.map f=[a,b]):∃x y,l=[x,y]/\f x=a/\f y=b:=by
 match l,h with
 |[x,y],h=>grind
theorem zuv{o:Oper}{c:Call}{f:FuncId}(ho:o.op=.call c)(hc:c.callee=.value (.func f)){env:List AV}{H:AH}{as:List PV}{r:PV}(ir:AV.toP.toPL (c.args.toList.map (bR env))=some as)(hr:fS P G f as r)(hp:r.isPan=false):QS P G o env H (.p r):=by
 intro w0 B w ι ρ hR hG hρ hf;have pH:∀x,x∈c.args->x∈o.op.operands:=fun x hx=>by rw[ho];simp[Op.operands,Call.operands,hc,hx]
 have hg:=u3 _ _ ir;have wM:(execOp ρ o).run P w=.ok (.enter f (c.args.map ρ)) w:=by
  exact Kg
 rw[wM];have hlen:as.length=(c.args.toList.map ρ).length:=by rw[hg.1];simp
 have gR:∀(j:Nat)(a:PV)(v:Value),as[j]?=some a->(c.args.toList.map ρ)[j]?=some v->cI w (Rd B ι H) a v:=by
  intro j a v ha hv;rw[aI]at hv
  cases hx:c.args.toList[j]? with
  |none=>rw[hx]at hv;cases hv
  |some x=>
   rw[hx]at hv;cases hv
   obtain⟨p,hp,so⟩:=hg.2 j (bR env x) aX
   rw[hp]at ha;cases ha
   exact(hρ x (pH x aX)).toP _ so
 have:=hr.2 w (Rd B ι H) (c.args.toList.map ρ) hG hlen gR
 have e:(c.args.toList.map ρ).toArray=c.args.map ρ:=by
  grind
 rw[e]at this;refine this.mono fun e w' ⟨yr,he⟩=>?_
 obtain⟨v,rfl,hv⟩:=he.val hp;refine⟨v,rfl,yr,.p _ _ (hv.keep (nR _) fun b hb cQ=>⟨?_,rfl⟩)⟩
 rcases hb with hb|hb
 ·exact hb
 ·exact⟨hR.fut b hb,fun iV=>by have:=hR.lt iV;omega⟩
theorem O0{w0:cJ}{B:Nat->Prop}{w:World}{ι:Pl}{H:AH}(hR:eX w0 B w ι H){a:AV}{v:Value}{x:PV}(h:dG w ι (Rd B ι H) a v)(hx:PS H a=some x):cI w (fun _=>True) x v:=by
 have keep:∀{p:PV}{u:Value},cI w (Rd B ι H) p u->cI w (fun _=>True) p u:=fun h=>h.keep (nR _) fun _ _ _=>⟨trivial,rfl⟩
 unfold PS at hx
 split at hx
 ·rename_i k
  split at hx
  ·rename_i cs t g hk
   split at hx
   ·rename_i ps BS
    cases hx
    cases h with
    |own _ _ c s hι=>
     obtain⟨_,c',arr,hc,hw,dR,gJ⟩:=(hR.blk k _ _ _ hk hι).2
     cases hc
     have hg:=u3 cs ps BS;have oZ:∀(j:Nat)(a:PV),ps[j]?=some a->∃v,arr[j]?=some v/\v.oneCell'=true/\cI w (Rd B ι H) a v:=fun j a ha=>by
      have cQ:j<cs.length:=aX
      obtain⟨y,hy⟩:∃y,cs[j]?=some y:=⟨_,aB cQ⟩
      obtain⟨x,hx,MX⟩:=hg.2 j y hy;rw[hx]at ha
      cases ha
      obtain⟨v,h1,h2,h3⟩:=gJ j y hy;exact⟨v,h1,h2,h3.toP _ MX⟩
     have eH:∀j:Nat,∃v,∀a,ps[j]?=some a->arr[j]?=some v/\v.oneCell'=true/\cI w (Rd B ι H) a v:=fun j=>by
      cases ha:ps[j]? with
      |none=>simp_all
      |some a=>simp_all
     obtain⟨vs,MI⟩:=Classical.axiomOfChoice eH;refine .rop ps c 0 vs trivial (n7 hw) (fun j a ha=>?_) fun j a ha=>keep (MI j a ha).2.2
     obtain⟨h1,h2,_⟩:=MI j a ha;refine⟨?_,h2⟩;simp only[World.cell?,World.cells?,hw,cF];exact h1
   ·cases hx
  ·cases hx
 ·exact keep (h.toP _ hx)
theorem zuu{o:Oper}{c:Call}{f:FuncId}(ho:o.op=.call c)(hc:c.callee=.value (.func f)){env:List AV}{H:AH}{as:List PV}{x:Value}(ir:IM H (c.args.toList.map (bR env))=some as)(hr:fS P G f as (.v x)):QS P G o env H (.p (.v x)):=by
 intro w0 B w ι ρ hR hG hρ hf;have pH:∀x,x∈c.args->x∈o.op.operands:=fun x hx=>by rw[ho];simp[Op.operands,Call.operands,hc,hx]
 have hg:=Oq _ _ ir;have wM:(execOp ρ o).run P w=.ok (.enter f (c.args.map ρ)) w:=by
  exact Kg
 rw[wM];have hlen:as.length=(c.args.toList.map ρ).length:=by rw[hg.1];simp
 have gR:∀(j:Nat)(a:PV)(v:Value),as[j]?=some a->(c.args.toList.map ρ)[j]?=some v->cI w (fun _=>True) a v:=by
  intro j a v ha hv;rw[aI]at hv
  cases hx:c.args.toList[j]? with
  |none=>rw[hx]at hv;cases hv
  |some x=>
   rw[hx]at hv;cases hv
   obtain⟨p,hp,so⟩:=hg.2 j (bR env x) aX
   rw[hp]at ha;cases ha
   exact O0 hR (hρ x (pH x aX)) so
 have:=hr.2 w (fun _=>True) (c.args.toList.map ρ) hG hlen gR
 have e:(c.args.toList.map ρ).toArray=c.args.map ρ:=by
  grind
 rw[e]at this;refine this.mono fun e w' ⟨yr,he⟩=>?_
 obtain⟨v,rfl,hv⟩:=he.val rfl
 cases hv
 exact⟨x,rfl,yr,.p _ _ (.v x)⟩
theorem On{α:Type}:∀(l:List α)(k off:Nat)(arr:Array α),((l.zipIdx k).foldl (fun cs (p:α×Nat)=>cs.setIfInBounds (off+p.2) p.1) arr).size=arr.size ∧
  ∀m,((l.zipIdx k).foldl (fun cs (p:α×Nat)=>cs.setIfInBounds (off+p.2) p.1) arr)[m]?=if off+k<=m/\m<off+k+l.length/\m<arr.size then l[m-(off+k)]? else arr[m]?
 |[],k,off,arr=>by
  refine⟨rfl,fun m=>?_⟩
  simp only[List.zipIdx_nil,List.foldl_nil,bZ,km];rw[aD oM]
 |a::l,k,off,arr=>by
  rw[List.zipIdx_cons,va];have ih:=On l (k+1) off (arr.setIfInBounds (off+k) a)
  grind
theorem Eo{α:Type}{cells cs:List α}{off m:Nat}(hle:off+cs.length<=cells.length):(ot cells off cs)[m]?=if off<=m/\m<off+cs.length then cs[m-off]? else cells[m]?:=by
 unfold ot;have cQ:(cells.take off).length=off:=aX
 grind
theorem JR{α:Type}{cells cs:List α}{off:Nat}(hle:off+cs.length<=cells.length):(ot cells off cs).length=cells.length:=by
 unfold ot;simp;omega
theorem Ow{w:World}{ι:Pl}{R:Nat->Prop}{a:AV}{v:Value}(h:dG w ι R a v)(cV:E7 a=true):(rA a).length=v.cells.size/\∀(j:Nat)(c:AV),(rA a)[j]?=some c->∃u,v.cells[j]?=some u/\dG w ι R c u:=by
 have one:∀(a:AV)(v:Value),dG w ι R a v->v.cells=#[v]->[a].length=v.cells.size/\∀(j:Nat)(c:AV),[a][j]?=some c->∃u,v.cells[j]?=some u/\dG w ι R c u:=by
  grind
 cases h with
 |agg cs vs hl hr=>
  refine⟨by simpa [rA,Value.cells]using hl,fun j c hc=>?_⟩
  have nU:j<vs.length:=by rw[<-hl];exact(aC.1 hc).1
  exact⟨vs[j],by simp[Value.cells,nU],hr j c _ hc (aB nU)⟩
 |p x v h=>
  cases h with
  |agg cs vs hl hr=>
   refine⟨by simpa [rA,Value.cells]using hl,fun j c hc=>?_⟩
   simp only[rA,aI]at hc
   cases Z3:cs[j]? with
   |none=>grind
   |some y=>
    rw[Z3]at hc;cases hc
    have nU:j<vs.length:=aX
    exact⟨vs[j],by simp[Value.cells,nU],.p _ _ (hr j y _ Z3 (aB nU))⟩
  |v x=>
   refine one _ _ (.p _ _ (.v _)) ?_;have h1:v.oneCell'=true:=cV
   cases v<;>first|rfl|(simp[Value.oneCell']at h1)
  |e0 A=>exact one _ _ (.p _ _ (.e0 A)) rfl
  |ro0 s A cap=>exact one _ _ (.p _ _ (.ro0 s A cap)) rfl
  |ro s rows b o cap vs hR hb pQ hs hc hr=>exact one _ _ (.p _ _ (.ro s rows b o cap vs hR hb pQ hs hc hr)) rfl
  |rop row b o vs hR hb hc hr=>exact one _ _ (.p _ _ (.rop row b o vs hR hb hc hr)) rfl
  |tup cs vs hl hr=>exact one _ _ (.p _ _ (.tup cs vs hl hr)) rfl
  |err t v=>exact one _ _ (.p _ _ (.err t v)) rfl
 |own k j c s h=>exact one _ _ (.own k j c s h) rfl
 |orw k i j c s h=>exact one _ _ (.orw k i j c s h) rfl
 |osl0 k i=>exact one _ _ (.osl0 k i) rfl
 |osl k i n c cap s h ia hm hz=>exact one _ _ (.osl k i n c cap s h ia hm hz) rfl
 |tup cs vs hl hr=>exact one _ _ (.tup cs vs hl hr) rfl
 |clo f fs cs us vs hl hr pM gv=>exact one _ _ (.clo f fs cs us vs hl hr pM gv) rfl
 |junk=>cases cV
def OB(w:World)(ι:Pl)(R:Nat->Prop):List (Nat×AV)->List (Nat×Value)->Prop
 |[],[]=>True
 |(i,a)::as,(j,v)::vs=>i=j/\dG w ι R a v/\OB w ι R as vs
 |_,_=>False
theorem Av{w:World}{ι:Pl}{R:Nat->Prop}{place:Nat->Option (Nat×Nat)}:∀(parts:List (Nat×AV))(vparts:List (Nat×Value))(cells cs':List AV)(arr:Array Value),OB w ι R parts vparts->fu place cells parts=some cs' →
  cells.length=arr.size->(∀(j:Nat)(a:AV),cells[j]?=some a->∃u,arr[j]?=some u/\dG w ι R a u) →
  ∃arr',Instr.fill place arr vparts=some arr'/\cs'.length=arr'.size/\∀(j:Nat)(a:AV),cs'[j]?=some a->∃u,arr'[j]?=some u/\dG w ι R a u
 |[],[],cells,cs',arr,_,h,hl,hr=>by
  simp[fu]at h;subst h;exact⟨arr,by simp[Instr.fill],hl,hr⟩
 |[],_::_,_,_,_,h,_,_,_=>h.elim
 |_::_,[],_,_,_,h,_,_,_=>h.elim
 |(i,a)::as,(j,v)::vs,cells,cs',arr,hp,h,hl,hr=>by
  obtain⟨rfl,Z9,hp⟩:=hp;unfold fu at h
  split at h
  ·cases h
  ·rename_i off size jr
   split at h
   ·rename_i hc;obtain⟨cV,dR,hle⟩:=hc;have dC:=Ow Z9 cV;have hfs:=On v.cells.toList 0 off arr;have XT:v.cells.zipIdx.foldl (fun cs (p:Value×Nat)=>cs.setIfInBounds (off+p.2) p.1) arr=(v.cells.toList.zipIdx 0).foldl (fun cs (p:Value×Nat)=>cs.setIfInBounds (off+p.2) p.1) arr:=by
     rw[<-Array.foldl_toList];simp
    have XU:Instr.fill place arr ((i,v)::vs)=Instr.fill place ((v.cells.toList.zipIdx 0).foldl (fun cs (p:Value×Nat)=>cs.setIfInBounds (off+p.2) p.1) arr) vs:=by
     rw[<-XT]
     conv=>lhs;unfold Instr.fill
     grind
    rw[XU];refine Av as vs _ cs' _ hp h (by rw[JR oM,hfs.1];exact hl) fun m c hm=>?_
    rw[Eo oM]at hm
    grind
   ·cases h
theorem Pu(hT:iE P T)(w:World):∀(fs:List Field)(pl:List (Nat×Nat)),JE T fs=some pl->(fs.mapM fun f=>do pure (f.offset,<- sizeOf f.type):Sem (List (Nat×Nat))).run P w=.ok pl w
 |[],pl,h=>by simp[JE]at h;subst h;rfl
 |f::fs,pl,h=>by
  unfold JE at h
  split at h
  ·rename_i i r hi hr
   cases h
   rw[CM];simp only[Sem.run_bind,Sem.run_pure,Result.andThen_ok,tu hT hi,Pu hT w fs r hr]
  ·cases h
theorem zuw(hT:iE P T){o:Oper}{t:TypeId}{parts:Array (Nat×Operand)}(ho:o.op=.build t parts){i:TI}(ht:T t=some i){fs:Array Field}(hd:i.desc=.struct fs){pl:List (Nat×Nat)}(jr:JE T fs.toList=some pl)
  {env:List AV} {H:AH} {cs:List AV} (h:fu (fun n=>pl[n]?) (i.zero.cells.toList.map fun x=>.p (.v x)) (parts.toList.map fun(n,x)=>(n,bR env x))=some cs):QS P G o env H (.agg cs):=by
 refine lG fun w0 B w ι ρ hR hG hρ=>?_
 have pH:∀(n:Nat)(x:Operand),(n,x)∈parts.toList->dG w ι (Rd B ι H) (bR env x) (ρ x):=fun n x hx=>hρ x (by
  rw[ho];simp only[Op.operands]
  grind)
 have wH:∀l:List (Nat×Operand),(∀n x,(n,x)∈l->dG w ι (Rd B ι H) (bR env x) (ρ x))->OB w ι (Rd B ι H) (l.map fun(n,x)=>(n,bR env x)) (l.map fun(n,x)=>(n,ρ x)):=by
  exact Km
 obtain⟨arr',h1,h2,h3⟩:=Av (w:=w) (ι:=ι) (R:=Rd B ι H) _ _ _ cs i.zero.cells (wH parts.toList pH) h dL (fun j a ha=>by
  rw[aI]at ha
  cases hz:i.zero.cells.toList[j]? with
  |none=>rw[hz]at ha;cases ha
  |some z=>rw[hz]at ha;cases ha;exact⟨z,by simpa using hz,.p _ _ (.v _)⟩)
 refine⟨.agg arr',?_,?_⟩
 ·have hm:(fs.mapM fun f=>do pure (f.offset,<- sizeOf f.type):Sem (Array (Nat×Nat))).run P w=.ok pl.toArray w:=by
   rw[HZ,Sem.run_map,Pu hT w fs.toList pl jr];rfl
  have e:(parts.map fun(p:Nat×Operand)=>(p.1,ρ p.2)).toList=parts.toList.map fun(n,x)=>(n,ρ x):=dL
  simp only[execOp,ho,Instr.build,Sem.run_bind,NJ hT ht,qO hT ht,Result.andThen_ok,hd,hm];simp_all
 ·have:=dG.agg (w:=w) (ι:=ι) (R:=Rd B ι H) cs arr'.toList (by simpa using h2) (fun j a v ha hv=>by
   grind)
  simpa using this
theorem ZU(hT:iE P T){o:Oper}{env:List AV}{H:AH}{K:AV->Prop}(h:aq P G bG T o env H K):∃a,K a/\QS P G o env H a:=by
 unfold aq at h
 split at h
 ·exact W0
 ·exact W0
 ·rename_i c a b ho
  split at h
  ·rename_i t e;have hc:∀(w0:cJ)(B:Nat->Prop)(w:World)(ι:Pl)(ρ:Operand->Value),(∀x,x∈o.op.operands->dG w ι (Rd B ι H) (bR env x) (ρ x))->ρ c=.bool t:=fun w0 B w ι ρ hρ=>by
    have:=hρ c oW
    rw[e]at this;exact jW this
   cases t with
   |true=>exact⟨_,h,lG fun w0 B w ι ρ hR hG hρ=>⟨ρ a,by simp[execOp,ho,hc w0 B w ι ρ hρ,asBool],hρ a oW⟩⟩
   |false=>exact⟨_,h,lG fun w0 B w ι ρ hR hG hρ=>⟨ρ b,by simp[execOp,ho,hc w0 B w ι ρ hρ,asBool],hρ b oW⟩⟩
  ·cases h
 ·rename_i t a ho
  split at h
  ·rename_i i ht;exact zw0 hT ht ho h
  ·cases h
 ·rename_i s x f ho
  split at h
  ·rename_i i ht
   split at h
   ·rename_i fs hd
    split at h
    ·rename_i fd hf
     split at h
     ·rename_i j hj
      split at h
      ·cases h
      ·rename_i h0;exact zur hT ht hd hf hj h0 ho h
     ·cases h
    ·cases h
   ·cases h
  ·cases h
 ·rename_i t x y ho
  split at h
  ·rename_i ti ht
   split at h
   ·rename_i e hd
    split at h
    ·rename_i te he;exact zup hT ht hd he ho h
    ·cases h
   ·rename_i m e hd
    split at h
    ·rename_i te he
     split at h
     ·rename_i h1;exact z1e hT ht hd he h1 ho h
     ·cases h
    ·cases h
   ·cases h
  ·cases h
 ·rename_i t x y ho
  split at h
  ·rename_i ti ht
   split at h
   ·rename_i s k n hd ex ey;obtain⟨h0,b,hb,h⟩:=h;exact zpx hT ht hd ho ex ey h0 hb h
   ·cases h
  ·cases h
 ·rename_i t x lo hi ho
  split at h
  ·rename_i ti ht
   split at h
   ·rename_i hd;exact zpn hT ht hd ho h
   ·rename_i e hd
    split at h
    ·rename_i te he;exact zuj hT ht hd he ho h
    ·cases h
   ·cases h
  ·cases h
 ·rename_i x i ho;exact zp5 ho h
 ·rename_i s x f ho
  split at h
  ·rename_i i ht
   split at h
   ·rename_i fs hd
    split at h
    ·rename_i fd hf
     split at h
     ·rename_i j hj
      split at h
      ·cases h
      ·rename_i h0;exact zwy hT ht hd hf hj (by simpa using h0) ho h
     ·cases h
    ·cases h
   ·cases h
  ·cases h
 ·rename_i t x ho;have hx:x∈o.op.operands:=oW
  split at h
  ·rename_i i ht
   split at h
   ·cases h
   ·split at h
    ·rename_i v hv;refine⟨_,h,lG fun w0 B w ι ρ hR hG hρ=>⟨_,?_,.p _ _ (.v _)⟩⟩
     cases hp:(bR env x).toP with
     |none=>rw[hp]at hv;cases hv
     |some p=>
      rw[hp]at hv;have e:=((hρ x hx).toP p hp).toV v hv;have hm:(Instr.makeInterface t v).run P w=.ok (.iface t v) w:=by
       simp only[Instr.makeInterface,Sem.run_bind,qO hT ht,Result.andThen_ok];simp_all
      simp[execOp,ho,e,hm]
    ·cases h
  ·cases h
 ·rename_i f fs cs ho;refine⟨_,h,lG fun w0 B w ι ρ hR hG hρ=>?_⟩
  refine⟨.func (.func f) (fs.toList.map ρ).toArray (cs.toList.map ρ).toArray,?_,.clo f _ _ (fs.toList.map ρ) (cs.toList.map ρ) dL (fun j a v ha hv=>?_) dL (fun j a v ha hv=>?_)⟩
  ·have e1:(fs.toList.map ρ).toArray=fs.map ρ:=aX
   have e2:(cs.toList.map ρ).toArray=cs.map ρ:=aX
   rw[e1,e2];simp[execOp,ho,Instr.makeFunc]
  ·rw[aI]at ha hv
   cases hj:fs.toList[j]? with
   |none=>rw[hj]at ha;cases ha
   |some y=>
    rw[hj]at ha hv
    cases ha;cases hv
    have:=aH hj
    exact hρ y (by rw[ho];simp only[Op.operands];exact Array.mem_append.2 (.inl (by simpa using this)))
  ·rw[aI]at ha hv
   cases hj:cs.toList[j]? with
   |none=>rw[hj]at ha;cases ha
   |some y=>
    rw[hj]at ha hv
    cases ha;cases hv
    have:=aH hj
    exact hρ y (by rw[ho];simp only[Op.operands];exact Array.mem_append.2 (.inr (by simpa using this)))
 ·rename_i x ho;have hx:x∈o.op.operands:=oW
  split at h
  ·rename_i k j e;refine⟨_,h,lG fun w0 B w ι ρ hR hG hρ=>?_⟩
   have hv:=hρ x hx;rw[e]at hv;generalize hq:ρ x=v at hv
   cases hv with
   |own _ _ c s hi=>exact⟨_,by simp[execOp,ho,hq],.own k j c s hi⟩
  ·rename_i k i j e;refine⟨_,h,lG fun w0 B w ι ρ hR hG hρ=>?_⟩
   have hv:=hρ x hx;rw[e]at hv;generalize hq:ρ x=v at hv
   cases hv with
   |orw _ _ _ c s hi=>exact⟨_,by simp[execOp,ho,hq],.orw k i j c s hi⟩
  ·rename_i row e;refine⟨_,h,lG fun w0 B w ι ρ hR hG hρ=>?_⟩
   have hv:=hρ x hx;rw[e]at hv;generalize hq:ρ x=v at hv
   cases hv with
   |p _ _ hv=>
    cases hv with
    |rop _ b off vs sv hb hc hr=>exact⟨_,by simp[execOp,ho,hq],.p _ _ (.rop row b off vs sv hb hc hr)⟩
  ·cases h
 ·rename_i op t x ho;exact zwu ho h
 ·rename_i dB dst x ho
  split at h
  ·rename_i k i n ex;exact zut hT ho ex h
  ·exact zw1 hT ho h
 ·rename_i op t x y ty ho
  split at h
  ·rename_i b hn;have hx:x∈o.op.operands:=oW
   have hy:y∈o.op.operands:=oW
   have vC:∀(w0:cJ)(B:Nat->Prop)(w:World)(ι:Pl)(ρ:Operand->Value),(∀f,ρ (.func f)=.func (.func f) #[] #[])->(∀x,x∈o.op.operands->dG w ι (Rd B ι H) (bR env x) (ρ x)) →
     ρ y=.nilIface/\((b=false/\∃tt v,ρ x=.iface tt v)\/(b=true/\ρ x=.nilIface/\(EZ x||EZ y)=true)):=fun w0 B w ι ρ _ hρ=>by
    have h1:=hρ x hx;have h2:=hρ y hy;unfold UM at hn
    split at hn
    ·rename_i e1 e2
     cases hn
     rw[e1]at h1;rw[e2]at h2;refine⟨jW h2,.inl ⟨rfl,?_⟩⟩;generalize ρ x=u at h1
     cases h1 with
     |p _ _ h1=>cases h1 with
      |err tt v=>exact⟨tt,v,rfl⟩
    ·rename_i e1 e2
     cases hn
     rw[e1]at h1;rw[e2]at h2;exact⟨jW h2,.inl ⟨rfl,_,_,jW h1⟩⟩
    ·rename_i e1 e2;rw[e1]at h1;rw[e2]at h2
     split at hn
     ·rename_i hc
      cases hn
      exact⟨jW h2,.inr ⟨rfl,jW h1,hc⟩⟩
     ·cases hn
    ·cases hn
   have iZ:∀(i:TI)(ms:_),T t=some i->i.desc=.interface ms->∀(u:Value),(b=false/\∃tt v,u=.iface tt v)\/(b=true/\u=.nilIface)->∀w,(Op.equal t u .nilIface).run P w=.ok b w:=fun i ms hi hd u hu w=>by
    unfold Op.equal Op.maxDepth;rw[show(10000:Nat)=9999+1 from rfl,Op.equalIn];simp only[Sem.run_bind,qO hT hi,Result.andThen_ok,hd]
    rcases hu with⟨rfl,tt,v,rfl⟩|⟨rfl,rfl⟩<;>rfl
   have ur:∀(u:Value),(∃tt v,u=.iface tt v)\/(u=.nilIface/\(EZ x||EZ y)=true)->∀w,(eqGuard op t x y u .nilIface).run P w=.ok () w:=fun u hu w=>by
    rcases hu with⟨tt,v,rfl⟩|⟨rfl,hc⟩
    ·cases op<;>rfl
    ·cases x<;>cases y<;>first|(simp[EZ]at hc;done)|(cases op<;>rfl)
   unfold Ry at h
   split at h
   ·rename_i i hi
    split at h
    ·rename_i ms hd;refine⟨_,h,fun w0 B w ι ρ hR hG hρ hf=>?_⟩
     obtain⟨e2,e1⟩:=vC w0 B w ι ρ hf hρ;have hr:(execOp ρ o).run P w=.ok (.value (.bool b)) w:=by
      have g:=ur (ρ x) aX w
      have q:=iZ i ms hi hd (ρ x) aX w
      simp only[execOp,ho,e2,Sem.run_bind,g,Result.andThen_ok];have hb:binOp .eql t (ρ x) .nilIface=(do pure (.bool (← Op.equal t (ρ x) .nilIface))):=by
       rcases e1 with⟨_,tt,v,e⟩|⟨_,e,_⟩<;>rw[e]<;>rfl
      simp_all
     rw[hr];exact⟨Gr.refl _,.p _ _ (.v _)⟩
    ·rename_i ms hd;refine⟨_,h,fun w0 B w ι ρ hR hG hρ hf=>?_⟩
     obtain⟨e2,e1⟩:=vC w0 B w ι ρ hf hρ;have hr:(execOp ρ o).run P w=.ok (.value (.bool (!b))) w:=by
      have g:=ur (ρ x) aX w
      have q:=iZ i ms hi hd (ρ x) aX w
      simp only[execOp,ho,e2,Sem.run_bind,g,Result.andThen_ok];have hb:binOp .neq t (ρ x) .nilIface=(do pure (.bool (!(← Op.equal t (ρ x) .nilIface)))):=by
       rcases e1 with⟨_,tt,v,e⟩|⟨_,e,_⟩<;>rw[e]<;>rfl
      simp_all
     rw[hr];exact⟨Gr.refl _,.p _ _ (.v _)⟩
    ·cases h
   ·cases h
  ·exact z1d hT ho h
 ·rename_i t parts ho
  split at h
  ·rename_i i ht
   split at h
   ·rename_i fs hd
    split at h
    ·rename_i pl jr
     split at h
     ·rename_i cs dC;exact⟨_,h,zuw hT ho ht hd jr dC⟩
     ·cases h
    ·cases h
   ·cases h
  ·cases h
 ·rename_i c ho;unfold S0 at h
  split at h
  ·rename_i hc
   split at h
   ·rename_i x t hx ht
    split at h
    ·rename_i ti BQ;exact z1b hT ho hc hx ht BQ h
    ·cases h
   ·cases h
  ·rename_i hc
   split at h
   ·rename_i k a k' b ha;obtain⟨x,y,gh,hx,hy⟩:=Rc ha;refine⟨_,h,lG fun w0 B w ι ρ hR hG hρ=>⟨_,?_,.p _ _ (.v _)⟩⟩
    have eG:c.args=#[x,y]:=eW.1 (by simpa using gh)
    have h1:=hρ x UY
    have h2:=hρ y UY
    rw[hx]at h1;rw[hy]at h2;simp[execOp,ho,resolve,hc,invoke,builtin,eG,jW h1,jW h2,Builtin.max_,Builtin.max2,bG]
   ·cases h
  ·rename_i hc
   split at h
   ·rename_i k a k' b ha;obtain⟨x,y,gh,hx,hy⟩:=Rc ha;refine⟨_,h,lG fun w0 B w ι ρ hR hG hρ=>⟨_,?_,.p _ _ (.v _)⟩⟩
    have eG:c.args=#[x,y]:=eW.1 (by simpa using gh)
    have h1:=hρ x UY
    have h2:=hρ y UY
    rw[hx]at h1;rw[hy]at h2;simp[execOp,ho,resolve,hc,invoke,builtin,eG,jW h1,jW h2,Builtin.min_,Builtin.min2,bG]
   ·cases h
  ·rename_i f hc
   split at h
   ·rename_i as ir;obtain⟨r,hr,h⟩:=h
    split at h
    ·cases h
    ·rename_i hp;exact⟨_,h,zuv ho hc ir hr hp⟩
   ·split at h
    ·rename_i as ir;obtain⟨r,hr,h⟩:=h
     split at h
     ·exact⟨_,h,zuu ho hc ir hr⟩
     ·cases h
    ·cases h
  ·cases h
 ·cases h
end
structure m8(G:World->Prop)(w0:cJ)(B:Nat->Prop)(w:World)(ι:Pl)(H:AH):Prop where
 stab:∀w',uD ⟨w,jB ι H,[],fun _=>none⟩ w'->G w'
 own:∀b,w0.own b->B b
theorem m8.now{G:World->Prop}{w0:cJ}{B:Nat->Prop}{w:World}{ι:Pl}{H:AH}(h:m8 G w0 B w ι H):G w:=h.stab w ⟨rfl,rfl,rfl,nR _,fun _ _ _=>rfl⟩
def WS(P:Program)(G:World->Prop)(o:Oper)(env:List AV)(H:AH)(a:AV)(H':AH)(sc:Option (Nat->Bool)):Prop:=
 ∀(w0:cJ)(B:Nat->Prop)(w:World)(ι:Pl)(ρ:Operand->Value),eX w0 B w ι H->m8 G w0 B w ι H->(∀x,x∈o.op.operands->dG w ι (Rd B ι H) (bR env x) (ρ x))->(∀f,ρ (.func f)=.func (.func f) #[] #[]) →
  au P (fun v w'=>∃ι',eX w0 B w' ι' H'/\bS sc w ι (Rd B ι H) w' ι' (Rd B ι' H')/\dG w' ι' (Rd B ι' H') a v) ((execOp ρ o).run P w)
theorem rY{α:Type}{l:List α}{x y:α}{k:Nat}(h:(l++[x])[k]?=some y):(k<l.length/\l[k]?=some y)\/(k=l.length/\y=x):=by
 grind
theorem Az{α:Type}{l:List α}{x y:α}{k:Nat}(h:l[k]?=some y):(l++[x])[k]?=some y:=by
 grind
theorem dv{α:Type}(l:List α)(x:α):(l++[x])[l.length]?=some x:=dL
theorem eX.push{w0:cJ}{B:Nat->Prop}{w:World}{ι:Pl}{H:AH}(h:eX w0 B w ι H)(o:Obj)(b:cE)(s:Nat×Nat)
  (hb:∀(ι':Pl)(R':Nat->Prop),bS none w ι (Rd B ι H) (w.alloc o) ι' R'->(w.alloc o).heap[w.heap.size]?=some o->ft (w.alloc o) ι' R' (some w.heap.size) s b):
  eX w0 B (w.alloc o) (ι++[(some w.heap.size,s)]) (H++[some b])/\bS none w ι (Rd B ι H) (w.alloc o) (ι++[(some w.heap.size,s)]) (Rd B (ι++[(some w.heap.size,s)]) (H++[some b])):=by
 have iV:∀c,jB (ι++[(some w.heap.size,s)]) (H++[some b]) c->jB ι H c\/c=w.heap.size:=by
  rintro c ⟨k,b',s',h1,h2⟩
  exact W9
 have hk:bS none w ι (Rd B ι H) (w.alloc o) (ι++[(some w.heap.size,s)]) (Rd B (ι++[(some w.heap.size,s)]) (H++[some b])):=
  ⟨by simp,fun c hc cQ=>⟨⟨hc.1,fun ho=>by
   rcases iV c ho with ho|ho
   ·exact hc.2 ho
   ·omega⟩,heap_alloc_old w o cQ⟩,fun k c s _ hx=>Az hx⟩
 refine⟨⟨h.gr.trans ((Below.refl _ _).alloc (nR _) _),fun b hb=>h.fut b (by simp at hb;omega),by simp[h.len],fun k b' c s' h1 h2=>?_,fun k l b1 b2 c s1 s2 h1 h2 h3 h4=>?_⟩,hk⟩
 ·rcases rY h1 with⟨hl,h1⟩|⟨rfl,e⟩
  ·rcases rY h2 with⟨pM,h2⟩|⟨e,_⟩
   ·refine⟨(h.blk k b' c s' h1 h2).1,(h.blk k b' c s' h1 h2).2.keep0 hk fun c' e=>?_⟩
    subst e;exact heap_alloc_old w o (h.lt ⟨k,b',s',h1,h2⟩)
   ·rw[h.len]at e;omega
  ·rw[<-h.len,dv]at h2
   cases h2
   cases e
   exact⟨fun c' e=>by cases e;exact .inr h.size,hb _ _ hk (heap_alloc_new w o)⟩
 ·rcases rY h1 with⟨hl,h1⟩|⟨rfl,e⟩
  ·rcases rY h3 with⟨_,h3⟩|⟨e,_⟩
   ·rcases rY h2 with⟨uH,h2⟩|⟨rfl,e⟩
    ·rcases rY h4 with⟨_,h4⟩|⟨e,_⟩
     ·exact h.inj k l b1 b2 c s1 s2 h1 h2 h3 h4
     ·rw[h.len]at e;omega
    ·rw[<-h.len,dv]at h4
     cases h4
     have:=h.lt ⟨k,b1,s1,h1,h3⟩
     omega
   ·rw[h.len]at e;omega
  ·rw[<-h.len,dv]at h3
   cases h3
   rcases rY h2 with⟨uH,h2⟩|⟨rfl,e⟩
   ·rcases rY h4 with⟨_,h4⟩|⟨e,_⟩
    ·have:=h.lt ⟨l,b2,s2,h2,h4⟩
     omega
    ·rw[h.len]at e;omega
   ·rfl
theorem z3j{ι:Pl}{H:AH}{k:Nat}{b b':cE}(hk:H[k]?=some (some b))(c:Nat):jB ι (H.set k (some b')) c ↔ jB ι H c:=by
 have cQ:=(aC.1 hk).1
 constructor
 ·rintro⟨l,b1,s,h1,h2⟩
  rw[cA]at h1
  split at h1
  ·rename_i e;subst e;exact⟨k,b,s,hk,h2⟩
  ·exact⟨l,b1,s,h1,h2⟩
 ·rintro⟨l,b1,s,h1,h2⟩
  by_cases e:k=l
  ·subst e;exact⟨k,b',s,by grind,h2⟩
  ·exact⟨l,b1,s,by grind,h2⟩
theorem eX.upd{w0:cJ}{B:Nat->Prop}{w:World}{ι:Pl}{H:AH}(h:eX w0 B w ι H){k c:Nat}{s:Nat×Nat}{b b':cE}(hk:H[k]?=some (some b))(hi:ι[k]?=some (some c,s)){w':World}
  (ju:w'.os=w.os) (qu:w'.tape=w.tape) (nT:w'.output=w.output) (dR:w'.heap.size=w.heap.size) (i6:∀d,d≠c->w'.heap[d]?=w.heap[d]?)
  (hb:∀R',bS none w ι (Rd B ι H) w' ι R'->ft w' ι R' (some c) s b'):
  eX w0 B w' ι (H.set k (some b'))/\bS none w ι (Rd B ι H) w' ι (Rd B ι (H.set k (some b'))):=by
 have cQ:=(aC.1 hk).1;have iK:bS none w ι (Rd B ι H) w' ι (Rd B ι (H.set k (some b'))):=
  ⟨by omega,fun d hd jJ=>⟨⟨hd.1,fun ho=>hd.2 ((z3j hk d).1 ho)⟩,i6 d fun e=>hd.2 (e ▸ ⟨k,b,s,hk,hi⟩)⟩,fun _ _ _ _ h=>h⟩
 have hc:=h.ge ⟨k,b,s,hk,hi⟩;refine⟨⟨⟨ju.trans h.gr.os,qu.trans h.gr.tape,nT.trans h.gr.output,by have:=h.size;omega,fun d hd hx=>?_⟩,fun b hb=>h.fut b oM,by simp[h.len],fun l b1 c1 s1 h1 h2=>?_,fun l m b1 b2 c1 s1 s2 h1 h2 h3 h4=>?_⟩,iK⟩
 ·rw[i6 d (fun e=>by subst e;rcases hc with h1|h1<;>first|exact hx h1|omega)];exact h.gr.block d hd hx
 ·rw[cA]at h1
  split at h1
  ·grind
  ·rename_i e;refine⟨(h.blk l b1 c1 s1 h1 h2).1,(h.blk l b1 c1 s1 h1 h2).2.keep0 iK fun c' e'=>?_⟩
   subst e';refine i6 c' fun ec=>?_
   subst ec;exact e (h.inj k l b b1 _ s s1 hk h1 hi h2)
 ·have g:∀(n:Nat)(x:cE),(H.set k (some b'))[n]?=some (some x)->∃y,H[n]?=some (some y):=fun n x hn=>by
   grind
  obtain⟨y1,g1⟩:=g l b1 h1;obtain⟨y2,g2⟩:=g m b2 h2;exact h.inj l m y1 y2 c1 s1 s2 g1 g2 h3 h4
theorem wq{P:Program}(o:Obj)(w:World):(newObj o).run P w=.ok w.heap.size (w.alloc o):=rfl
section
variable{P:Program}{G:World->Prop}{T:TT}
theorem zux(hT:iE P T){o:Oper}{t:TypeId}(ho:o.op=.alloc t){i:TI}(ht:T t=some i)(h1:i.zero.cells.toList.all (·.oneCell')=true){env:List AV}{H:AH}:
  WS P G o env H (.own H.length 0) (H++[some (.box (i.zero.cells.toList.map fun x=>.p (.v x)) t none)]) none:=by
 intro w0 B w ι ρ hR hG hρ hf;have dS:(execOp ρ o).run P w=.ok (.value (.pointer (some ⟨w.heap.size,0,none⟩))) (w.alloc (.cells i.zero.cells t)):=by
  simp only[execOp,ho,Instr.alloc,Sem.run_bind,NJ hT ht,Result.andThen_ok,newVar,newRow,wq,Sem.run_pure]
 rw[dS]
 have:=hR.push (.cells i.zero.cells t) (.box (i.zero.cells.toList.map fun x=>.p (.v x)) t none) (0,0) (fun ι' R' hk hn=>by
  refine⟨⟨rfl,fun n e=>by cases e⟩,_,_,rfl,hn,by simp,fun j a ha=>?_⟩
  rw[aI]at ha
  cases hz:i.zero.cells.toList[j]? with
  |none=>rw[hz]at ha;cases ha
  |some z=>
   rw[hz]at ha;cases ha
   exact⟨z,by simpa using hz,by grind,.p _ _ (.v _)⟩)
 exact⟨_,this.1,this.2,by rw[<-hR.len];exact .own _ 0 _ (0,0) (dv _ _)⟩
def al:AV->Bool
 | .p (.v x)=>x.oneCell'
 | .p .e0=>true
 | .p (.ro _ _)=>true
 | .p (.rop _)=>true
 | .own _ _=>true
 | .orw _ _ _=>true
 | .osl _ _ _=>true
 |_=>false
theorem E4{w:World}{ι:Pl}{R:Nat->Prop}{a:AV}{v:Value}(h:dG w ι R a v)(ho:al a=true):v.oneCell'=true:=by
 cases h with
 |p x v h=>cases h<;>first|rfl|exact ho|(simp[al]at ho)
 |_=>first|rfl|(simp[al]at ho)
def vu(a:AV):Bool:=E7 a&&(rA a).all al
theorem PD{w:World}{ι:Pl}{R:Nat->Prop}{a:AV}{v:Value}(h:dG w ι R a v)(cV:vu a=true):
  (rA a).length=v.cells.size/\∀(j:Nat)(c:AV),(rA a)[j]?=some c->∃u,v.cells[j]?=some u/\u.oneCell'=true/\dG w ι R c u:=by
 unfold vu at cV;rw[gK]at cV;have h1:=Ow h cV.1;refine⟨h1.1,fun j c hc=>?_⟩
 obtain⟨u,hu,hr⟩:=h1.2 j c hc;exact⟨u,hu,E4 hr (aO.1 cV.2 c (aH hc)),hr⟩
theorem z1c{o:Oper}{t:TypeId}{x:Operand}(ho:o.op=.box t x){env:List AV}(cV:vu (bR env x)=true){H:AH}:
  WS P G o env H (.own H.length 0) (H++[some (.box (rA (bR env x)) t none)]) none:=by
 intro w0 B w ι ρ hR hG hρ hf;have hv:=hρ x oW
 have dS:(execOp ρ o).run P w=.ok (.value (.pointer (some ⟨w.heap.size,0,none⟩))) (w.alloc (.cells (ρ x).cells t)):=by
  simp only[execOp,ho,Instr.box,Sem.run_bind,Result.andThen_ok,newVar,newRow,wq,Sem.run_pure]
 rw[dS];have hc:=PD hv cV
 have:=hR.push (.cells (ρ x).cells t) (.box (rA (bR env x)) t none) (0,0) (fun ι' R' hk hn=>by
  refine⟨⟨rfl,fun n e=>by cases e⟩,_,_,rfl,hn,hc.1.symm,fun j a ha=>?_⟩
  obtain⟨u,hu,h1,hr⟩:=hc.2 j a ha;exact⟨u,hu,h1,hr.keep0 hk⟩)
 exact⟨_,this.1,this.2,by rw[<-hR.len];exact .own _ 0 _ (0,0) (dv _ _)⟩
theorem Ey(hT:iE P T){o:Oper}{t:TypeId}{x y:Operand}(ho:o.op=.store t x y){i:TI}(ht:T t=some i){ρ:Operand->Value}{w:World}{c off:Nat}{arr:Array Value}{t':TypeId}(hx:ρ x=.pointer (some ⟨c,off,none⟩))
  (hc:w.heap[c]?=some (.cells arr t' (0,0))) (dR:(ρ y).cells.size=i.size) (hle:off+(ρ y).cells.size<=arr.size) (h1:∀v∈(ρ y).cells.toList,v.oneCell'=true):
  (execOp ρ o).run P w=.ok .skip (w.setRow c (arr.toList.take off++(ρ y).cells.toList++arr.toList.drop (off+(ρ y).cells.toList.length)).toArray):=by
 have mR:=run_storeCells_at P c off t' (ρ y).cells.toList 0 arr w hc (by simpa using hle) h1
 simp only[execOp,ho,hx,Instr.storeAt,Instr.sureAddr,storeVar,Sem.run_bind,Sem.run_pure,Result.andThen_ok,tu hT ht,dR,ne_eq,not_true_eq_false,bN];simp[mR]
theorem Fo{arr:Array Value}{vs:List Value}{off m:Nat}(hle:off+vs.length<=arr.size):(arr.toList.take off++vs++arr.toList.drop (off+vs.length)).toArray[m]?=if off<=m/\m<off+vs.length then vs[m-off]? else arr[m]?:=by
 grind
theorem Q5{arr:Array Value}{vs:List Value}{off:Nat}(hle:off+vs.length<=arr.size):(arr.toList.take off++vs++arr.toList.drop (off+vs.length)).toArray.size=arr.size:=by
 simp;omega
theorem z01(hT:iE P T){o:Oper}{t:TypeId}{x y:Operand}(ho:o.op=.store t x y){i:TI}(ht:T t=some i){env:List AV}{H:AH}{k j:Nat}{cs:List AV}{t':TypeId}{g:Option Nat}
  (ex:bR env x=.own k j) (hk:H[k]?=some (some (.box cs t' g))) (cV:vu (bR env y)=true) (dR:(rA (bR env y)).length=i.size) (hle:j+i.size<=cs.length):
  WS P G o env H .junk (H.set k (some (.box (ot cs j (rA (bR env y))) t' g))) none:=by
 intro w0 B w ι ρ hR hG hρ hf;have hx:=hρ x oW
 have hy:=hρ y oW
 rw[ex]at hx;generalize hq:ρ x=vx at hx
 cases hx with
 |own _ _ c s hi=>
  obtain⟨hg,c',arr,ec,hb,jA,dC⟩:=(hR.blk k _ _ s hk hi).2
  cases ec
  have MG:=PD hy cV;have pK:∀v∈(ρ y).cells.toList,v.oneCell'=true:=fun v hv=>by
   exact We
  have hlen:(ρ y).cells.toList.length=(rA (bR env y)).length:=by rw[MG.1];simp
  have me:j+(ρ y).cells.toList.length<=arr.size:=eC
  rw[Ey hT ho ht hq hb oM (by simpa using me) pK]
  have hh:=setRow_heap w c arr (arr.toList.take j++(ρ y).cells.toList++arr.toList.drop (j+(ρ y).cells.toList.length)).toArray t' (0,0) hb
  have:=hR.upd hk hi (b':=.box (ot cs j (rA (bR env y))) t' g) (w':=w.setRow c (arr.toList.take j++(ρ y).cells.toList++arr.toList.drop (j+(ρ y).cells.toList.length)).toArray) rfl rfl rfl dL (fun d hd=>setRow_other w c d _ hd)
   (fun R' iK=>⟨hg,c,_,rfl,hh,by rw[Q5 me,JR oM];exact jA,fun m a ha=>by
    rw[Eo oM]at ha
    rw[Fo me]
    split at ha
    ·rw[aF oM]
     obtain⟨u,hu,h1,hr⟩:=MG.2 _ a ha;exact⟨u,by simpa using hu,h1,hr.keep0 iK⟩
    ·rw[aD oM]
     obtain⟨u,hu,h1,hr⟩:=dC m a ha;exact⟨u,hu,h1,hr.keep0 iK⟩⟩)
  exact⟨ι,this.1,this.2,.junk _⟩
theorem z00(hT:iE P T){o:Oper}{t:TypeId}{x y:Operand}(ho:o.op=.store t x y){i:TI}(ht:T t=some i){env:List AV}{H:AH}{k r j s':Nat}{rs:List (List PV)}{row:List PV}{t':TypeId}{pcs:List PV}
  (ex:bR env x=.orw k r j) (hk:H[k]?=some (some (.rows s' rs t'))) (cS:rs[r]?=some row) (cV:vu (bR env y)=true) (hp:AV.toP.toPL (rA (bR env y))=some pcs) (dR:(rA (bR env y)).length=i.size) (hle:j+i.size<=row.length):
  WS P G o env H .junk (H.set k (some (.rows s' (rs.set r (ot row j pcs)) t'))) none:=by
 intro w0 B w ι ρ hR hG hρ hf;have hx:=hρ x oW
 have hy:=hρ y oW
 rw[ex]at hx;generalize hq:ρ x=vx at hx
 cases hx with
 |orw _ _ _ c s hi=>
  obtain⟨es,hl,hh⟩:=(hR.blk k _ _ s hk hi).2;subst es
  rcases hh with⟨ec,_⟩|⟨c',arr,ec,hb,hz,dC⟩
  ·cases ec
  cases ec
  have MG:=PD hy cV;have hpg:=u3 _ _ hp;have pK:∀v∈(ρ y).cells.toList,v.oneCell'=true:=fun v hv=>by
   exact We
  have hlen:(ρ y).cells.toList.length=(rA (bR env y)).length:=by rw[MG.1];simp
  have fE:=hl r row cS;have me:r*s.1+j+(ρ y).cells.toList.length<=arr.size:=by
   by_cases h0:row.length=0
   ·grind
   ·obtain⟨v,hv,_,_⟩:=dC r (row.length-1) row _ cS (aB oM)
    grind
  rw[Ey hT ho ht hq hb oM (by simpa using me) pK]
  have hh:=setRow_heap w c arr (arr.toList.take (r*s.1+j)++(ρ y).cells.toList++arr.toList.drop (r*s.1+j+(ρ y).cells.toList.length)).toArray t' (0,0) hb
  have:=hR.upd hk hi (b':=.rows s.1 (rs.set r (ot row j pcs)) t') (w':=w.setRow c (arr.toList.take (r*s.1+j)++(ρ y).cells.toList++arr.toList.drop (r*s.1+j+(ρ y).cells.toList.length)).toArray) rfl rfl rfl dL (fun d hd=>setRow_other w c d _ hd)
   (fun R' iK=>by
    refine⟨rfl,fun m row2 hm=>?_,.inr ⟨c,_,rfl,hh,by grind,fun m n row2 a hm hn=>?_⟩⟩
    ·rw[cA]at hm
     split at hm
     ·split at hm
      ·cases hm
       rw[JR oM];exact fE
      ·cases hm
     ·exact hl m row2 hm
    ·rw[Fo me];have Yn:n<s.1:=by
      rw[cA]at hm
      split at hm
      ·split at hm
       ·cases hm
        have:=(aC.1 hn).1
        rw[JR oM]at this;omega
       ·cases hm
      grind
     rw[cA]at hm
     split at hm
     ·rename_i e;subst e
      split at hm
      ·cases hm
       rw[Eo oM]at hn
       split at hn
       ·rw[aF oM]
        have dO:n-j<(rA (bR env y)).length:=eC
        obtain⟨u,hu,h1,hr⟩:=MG.2 (n-j) _ (aB dO);obtain⟨p,WT,BU⟩:=hpg.2 (n-j) _ (aB dO);rw[WT]at hn;cases hn
        refine⟨u,?_,h1,(hr.toP _ BU).keep iK.size iK.read⟩
        grind
       ·rw[aD oM]
        obtain⟨u,hu,h1,hr⟩:=dC r n row a cS hn;exact⟨u,hu,h1,hr.keep iK.size iK.read⟩
      ·cases hm
     ·rename_i e;have dN:¬(r*s.1+j<=m*s.1+n/\m*s.1+n<r*s.1+j+(ρ y).cells.toList.length):=by
       rcases Nat.lt_or_gt_of_ne e with cQ|jy
       ·have:(r+1)*s.1<=m*s.1:=dJ _ cQ
        grind
       ·have:(m+1)*s.1<=r*s.1:=dJ _ jy
        grind
      rw[aD dN];obtain⟨u,hu,h1,hr⟩:=dC m n row2 a hm hn;exact⟨u,hu,h1,hr.keep iK.size iK.read⟩)
  exact⟨ι,this.1,this.2,.junk _⟩
end
def qA(p:Nat->Bool):Option cE->Option cE
 |some (.box cs t g)=>some (.box (cs.map (AV.scrub p)) t g)
 |b=>b
theorem OX{H:AH}{p:Nat->Bool}{l:Nat}{b:cE}(h:(H.map (qA p))[l]?=some (some b)):∃b0,H[l]?=some (some b0)/\b=IX (some p) b0:=by
 rw[aI]at h
 cases hl:H[l]? with
 |none=>rw[hl]at h;cases h
 |some ob=>
  rw[hl]at h
  cases ob with
  |none=>cases h
  |some b0=>
   refine⟨b0,rfl,?_⟩;simp only[fM,bQ]at h
   cases b0<;>simp[qA]at h<;>exact h.symm
theorem eX.move{w0:cJ}{B:Nat->Prop}{w:World}{ι:Pl}{H:AH}(h:eX w0 B w ι H){k:Nat}{c c':Option Nat}{s s':Nat×Nat}{b b':cE}(hk:H[k]?=some (some b))(hi:ι[k]?=some (c,s)){w':World}
  (hg:w.grownBy w' c) (sj:c'=none\/c'=c\/c'=some w.heap.size)
  (hb:∀ι' R',bS (some (one k)) w ι (Rd B ι H) w' ι' R'->ft w' ι' R' c' s' b'):
  eX w0 B w' (ι.set k (c',s')) ((H.map (qA (one k))).set k (some b'))/\bS (some (one k)) w ι (Rd B ι H) w' (ι.set k (c',s')) (Rd B (ι.set k (c',s')) ((H.map (qA (one k))).set k (some b'))):=by
 have lI:k<H.length:=(aC.1 hk).1;have vP:k<ι.length:=(aC.1 hi).1;have aT:∀(l:Nat)(x:cE),((H.map (qA (one k))).set k (some b'))[l]?=some (some x)->(l=k/\x=b')\/(l≠k/\∃x0,H[l]?=some (some x0)/\x=IX (some (one k)) x0):=by
  intro l x hx;rw[cA]at hx
  split at hx
  ·rename_i e;subst e;simp[lI]at hx;exact .inl ⟨rfl,hx.symm⟩
  ·rename_i e;exact .inr ⟨fun e'=>e e'.symm,OX hx⟩
 have uG:∀(l:Nat),l≠k->(ι.set k (c',s'))[l]?=ι[l]?:=fun l hl=>by rw[cA,aD (iW hl)]
 have mb:(ι.set k (c',s'))[k]?=some (c',s'):=by rw[cA];simp[vP]
 have iV:∀d,jB (ι.set k (c',s')) ((H.map (qA (one k))).set k (some b')) d->jB ι H d\/d=w.heap.size:=by
  rintro d ⟨l,x,s1,h1,h2⟩
  rcases aT l x h1 with⟨rfl,rfl⟩|⟨dN,x0,h3,_⟩
  ·rw[mb]at h2
   rcases sj with e|e|e
   ·rw[e]at h2;cases h2
   ·rw[e]at h2;refine .inl ⟨l,b,s,hk,?_⟩
    cases h2
    exact hi
   ·rw[e]at h2;cases h2;exact .inr rfl
  ·rw[uG l dN]at h2;exact .inl ⟨l,x0,s1,h3,h2⟩
 have cS:∀d,some d=c->jB ι H d:=fun d e=>⟨k,b,s,hk,by rw[hi,<- e]⟩
 have iK:bS (some (one k)) w ι (Rd B ι H) w' (ι.set k (c',s')) (Rd B (ι.set k (c',s')) ((H.map (qA (one k))).set k (some b'))):=
  ⟨hg.size,fun d hd cQ=>⟨⟨hd.1,fun ho=>by
   rcases iV d ho with ho|ho
   ·exact hd.2 ho
   ·omega⟩,hg.block d cQ fun e=>hd.2 (cS d e)⟩,fun l x s2 hl hx=>by
   rw[uG l fun e=>by have:=hl _ rfl;rw[e,z8k]at this;cases this];exact hx⟩
 refine⟨⟨⟨hg.os.trans h.gr.os,hg.tape.trans h.gr.tape,hg.output.trans h.gr.output,aR h.size hg.size,fun d hd hx=>?_⟩,fun b hb=>h.fut b (aR hg.size hb),by simp[h.len],fun l x d s1 h1 h2=>?_,fun l m x y d s1 s2 h1 h2 h3 h4=>?_⟩,iK⟩
 ·rw[hg.block d (by have:=h.size;omega) fun e=>by rcases h.ge (cS d e)with h1|h1<;>first|exact hx h1|omega]
  exact h.gr.block d hd hx
 ·rcases aT l x h1 with⟨rfl,rfl⟩|⟨dN,x0,h3,hx⟩
  ·rw[mb]at h2
   cases h2
   refine⟨fun d e=>?_,hb _ _ iK⟩
   rcases sj with e'|e'|e'
   ·rw[e']at e;cases e
   ·exact h.ge (cS d (by rw[<-e',e]))
   ·rw[e']at e;cases e;exact .inr h.size
  ·rw[uG l dN]at h2;refine⟨(h.blk l x0 d s1 h3 h2).1,?_⟩;rw[hx];refine(h.blk l x0 d s1 h3 h2).2.keep iK fun d' e=>?_
   subst e;refine hg.block d' (h.lt ⟨l,x0,s1,h3,h2⟩) fun e=>?_
   exact dN (h.inj l k x0 b d' s1 s h3 hk h2 (by rw[hi,<- e]))
 ·rcases aT l x h1 with⟨rfl,rfl⟩|⟨dN,x0,g1,_⟩
  ·rcases aT m y h2 with⟨rfl,rfl⟩|⟨yk,y0,g2,_⟩
   ·rfl
   ·rw[mb]at h3;rw[uG m yk]at h4;have hm:=h.lt ⟨m,y0,s2,g2,h4⟩
    rcases sj with e|e|e
    ·rw[e]at h3;cases h3
    ·rw[e]at h3
     cases h3
     exact h.inj l m b y0 d s s2 hk g2 hi h4
    ·rw[e]at h3
     cases h3
     omega
  ·rw[uG l dN]at h3;have hm:=h.lt ⟨l,x0,s1,g1,h3⟩
   rcases aT m y h2 with⟨rfl,rfl⟩|⟨yk,y0,g2,_⟩
   ·rw[mb]at h4
    rcases sj with e|e|e
    ·rw[e]at h4;cases h4
    ·rw[e]at h4
     cases h4
     exact h.inj l m x0 b d s1 s g1 hk h3 hi
    ·rw[e]at h4
     cases h4
     omega
   ·rw[uG m yk]at h4;exact h.inj l m x0 y0 d s1 s2 g1 g2 h3 h4
theorem z2p{rows:List (List PV)}{s:Nat}(hs:∀(i:Nat)(row:List PV),rows[i]?=some row->row.length=s){q:Nat}(hq:q<rows.length*s):
  ∃row a,rows[q/s]?=some row/\row[q%s]?=some a/\q/s*s+q%s=q:=by
 have zM:0<s:=by
  rcases rH s with h|h
  ·subst h;simp at hq
  ·exact h
 have h1:q/s<rows.length:=(Nat.div_lt_iff_lt_mul zM).2 hq;have h2:q%s<s:=Nat.mod_lt _ zM;have hr:rows[q/s]?=some rows[q/s]:=aB h1;have hl:=hs _ _ hr;exact⟨_,_,hr,aB oM,by rw[mG];exact Nat.div_add_mod q s⟩
section
variable{P:Program}{G:World->Prop}{T:TT}
structure uO(w:World)(R:Nat->Prop)(s:Nat)(rows:List (List PV))(v:Value):Prop where
 len:∀(i:Nat)(row:List PV),rows[i]?=some row->row.length=s
 at_:(∃A cap,v=.slice A 0 cap/\rows=[])\/∃(b o cap:Nat)(vs:Nat->Nat->Value),v=.slice (some ⟨b,o,none⟩) rows.length cap ∧
  (∀(i j:Nat)(row:List PV)(a:PV),rows[i]?=some row->row[j]?=some a->w.cell? ⟨b,o+(i*s+j),none⟩=some (vs i j)/\(vs i j).oneCell'=true/\cI w R a (vs i j))
theorem xg6{w:World}{R:Nat->Prop}{s:Nat}{rows:List (List PV)}{v:Value}(h:cI w R (.ro s rows) v):uO w R s rows v:=by
 cases h with
 |ro0 s A cap=>exact⟨fun i row h=>by simp at h,.inl ⟨A,cap,rfl,rfl⟩⟩
 |ro s rows b o cap vs hR hb pQ hs hc hr=>exact⟨hs,.inr ⟨b,o,cap,vs,rfl,fun i j row a h1 h2=>⟨(hc i j row a h1 h2).1,(hc i j row a h1 h2).2,hr i j row a h1 h2⟩⟩⟩
theorem zoq(hT:iE P T){t ty e:TypeId}{ti te:TI}(ht:T t=some ti)(hd:ti.desc=.slice e)(he:T e=some te)
  {A A':Option Addr} {n cap cap':Nat} (hn:n<=cap) (w:World):(Builtin.append_ #[t,t] ty #[.slice A n cap,.slice A' 0 cap']).run P w=.ok (.slice A n cap) w:=by
 cases A'<;>cases A<;>simp[Builtin.append_,qO hT ht,hd,tu hT he,Builtin.lenOf,Builtin.firstCells,loadCells,loadCellsFrom,storeCells,hn]
theorem Q3(hT:iE P T){t e ty:TypeId}{ti te:TI}(ht:T t=some ti)(hd:ti.desc=.slice e)(he:T e=some te)
  (hz:te.zero.cells.size=te.size) (zM:0<te.size) {H:AH} {k n:Nat} {rs:List (List PV)} (hk:H[k]?=some (some (.rows te.size rs e))) (hn:n<=rs.length)
  {rows:List (List PV)} (tR:n+rows.length<=maxLen) (a7:(n+rows.length)*te.bytes<=140737488355328)
  {w0:cJ} {B:Nat->Prop} {w:World} {ι:Pl} (hR:eX w0 B w ι H) {vx vy:Value} (hx:dG w ι (Rd B ι H) (.osl k 0 n) vx) (Ct:uO w (Rd B ι H) te.size rows vy):
  ∃v' w' ι',(Builtin.append_ #[t,t] ty #[vx,vy]).run P w=.ok v' w'/\eX w0 B w' ι' ((H.map (qA (one k))).set k (some (.rows te.size (rs.take n++rows) e))) ∧
   bS (some (one k)) w ι (Rd B ι H) w' ι' (Rd B ι' ((H.map (qA (one k))).set k (some (.rows te.size (rs.take n++rows) e)))) ∧
   dG w' ι' (Rd B ι' ((H.map (qA (one k))).set k (some (.rows te.size (rs.take n++rows) e)))) (.osl k 0 (n+rows.length)) v':=by
 obtain⟨⟨cc,sz⟩,hi⟩:∃p,ι[k]?=some p:=by
  exact Vm
 obtain⟨qV,yB⟩:=hR.blk k _ cc sz hk hi;obtain⟨es,fE,a6⟩:=yB;have bf:∀(i:Nat)(row:List PV),(rs.take n)[i]?=some row->rs[i]?=some row/\i<n:=fun i row h=>by
  rw[fj]at h
  split at h
  ·rename_i h';exact⟨h,h'⟩
  ·cases h
 have cC:(rs.take n).length=n:=by rw[uS];omega
 obtain⟨info,uQ,ic,HF,MR⟩:=info_parts (hT e te he).1.2;have Lh:P.underlying t=some (.slice e):=by rw[(hT t ti ht).1.1,hd]
 rcases Ct.at_ with⟨A,cap,rfl,rfl⟩|⟨b,off,cap,vs,rfl,MI⟩
 ·
  simp only[bZ,km,cB]at tR a7 ⊢;have s9:∃A0 cap0,vx=.slice A0 n cap0/\n<=cap0/\((A0=none/\n=0/\cap0=0)\/∃c0,cc=some c0/\A0=some ⟨c0,0,none⟩/\cap0<=maxLen/\sz.2=(0+cap0)*sz.1):=by
   cases hx with
   |osl0=>exact⟨none,0,rfl,nR _,.inl ⟨rfl,rfl,rfl⟩⟩
   |osl _ _ _ c0 cap0 s tI ia hm qn=>
    rw[hi]at tI;cases tI
    exact⟨some ⟨c0,0*sz.1,none⟩,cap0,rfl,ia,.inr ⟨c0,rfl,by simp,hm,qn⟩⟩
  obtain⟨A0,cap0,rfl,kM,hA⟩:=s9;have nr:=zoq (P:=P) (ty:=ty) (A:=A0) (A':=A) (cap':=cap) hT ht hd he kM w;have rS:w.grownBy w cc:=⟨rfl,rfl,rfl,nR _,fun _ _ _=>rfl⟩
  have jv:=hR.move (b':=.rows te.size (rs.take n) e) (s':=sz) (c':=cc) hk hi rS (.inr (.inl rfl)) (fun ι' R' iK=>by
   refine⟨es,fun i row cS=>fE i row (bf i row cS).1,?_⟩
   rcases a6 with⟨e1,e2⟩|⟨c0,arr,e1,hb,vA,dC⟩
   ·refine .inl ⟨e1,?_⟩;rw[e2];simp
   ·refine .inr ⟨c0,arr,e1,hb,vA,fun i j row a h1 h2=>?_⟩
    obtain⟨v,hv,vR,hr⟩:=dC i j row a (bf i row h1).1 h2;exact⟨v,hv,vR,hr.keep iK.size iK.read⟩)
  refine⟨_,_,_,nr,jv.1,jv.2,?_⟩;have mb:(ι.set k (cc,sz))[k]?=some (cc,sz):=by
   have vP:k<ι.length:=(aC.1 hi).1;rw[cA];simp[vP]
  rcases hA with⟨rfl,rfl,rfl⟩|⟨c0,rfl,rfl,hm,qn⟩
  ·exact .osl0 k 0
  ·have:=dG.osl (w:=w) (ι:=ι.set k (some c0,sz)) (R:=Rd B (ι.set k (some c0,sz)) ((H.map (qA (one k))).set k (some (.rows te.size (rs.take n) e)))) k 0 n c0 cap0 sz mb kM hm qn
   simpa using this
 ·
  have BV:∀q,q<rows.length*te.size->∃row a,rows[q/te.size]?=some row/\row[q%te.size]?=some a/\q/te.size*te.size+q%te.size=q:=fun q hq=>z2p Ct.len hq
  have hlen:((List.range (rows.length*te.size)).map fun q=>vs (q/te.size) (q%te.size)).length=rows.length*te.size:=dL
  have gJ:∀j u,((List.range (rows.length*te.size)).map fun q=>vs (q/te.size) (q%te.size))[j]?=some u->w.cell? ((⟨b,off,none⟩:Addr).add j)=some u:=by
   intro j u hj;have nU:j<rows.length*te.size:=by
    have:=(aC.1 hj).1
    exact qh
   rw[aI,bp nU]at hj
   cases hj
   obtain⟨row,a,h1,h2,h3⟩:=BV j nU;rw[Addr.add_lit]
   have:=(MI _ _ row a h1 h2).1
   rw[h3]at this;exact this
  have pK:∀u∈(List.range (rows.length*te.size)).map (fun q=>vs (q/te.size) (q%te.size)),u.oneCell'=true:=by
   intro u hu;obtain⟨q,hq,rfl⟩:=fT.1 hu;obtain⟨row,a,h1,h2,_⟩:=BV q (bV.1 hq);exact(MI _ _ row a h1 h2).2.1
  have WU:∃xs:List Value,w.ownsRow 0 e te.size vx n xs/\(vx.ownBlock=none\/vx.ownBlock=cc) ∧
    ∀(i j:Nat)(row:List PV)(a:PV),(rs.take n)[i]?=some row->row[j]?=some a->∃v,xs[i*te.size+j]?=some v/\v.oneCell'=true/\cI w (Rd B ι H) a v:=by
   cases hx with
   |osl0=>
    refine⟨[],World.ownsRow_nil w _ _ _,.inl rfl,fun i j row a h1 _=>?_⟩
    simp at h1
   |osl _ _ _ c0 cap0 s tI ia hm qn=>
    rw[hi]at tI;cases tI
    rcases a6 with⟨e1,_⟩|⟨c1,arr,e1,hb,vA,dC⟩
    ·cases e1
    cases e1
    refine⟨arr.toList.take (n*te.size),⟨?_,.inr ⟨c0,cap0,arr,by simp,aP _,hb,ia,hm,?_,rfl⟩⟩,?_,fun i j row a h1 h2=>?_⟩
    ·rw[uS,Array.length_toList,vA,qn,<- es,cF]
     have:n*te.size<=cap0*te.size:=dJ _ ia
     omega
    ·rw[vA,qn,<- es,cF]
    ·exact .inr rfl
    ·obtain⟨vR,cQ⟩:=bf i row h1;obtain⟨v,hv,h3,hr⟩:=dC i j row a vR h2;refine⟨v,?_,h3,hr⟩;have nU:j<te.size:=by
      have:=(aC.1 h2).1
      have:=fE i row vR
      omega
     have ib:i*te.size+j<n*te.size:=by
      exact Ve
     rw[fj,aF ib];rw[<-es]at hv;simpa using hv
  obtain⟨xs,iV,uo,zG⟩:=WU;obtain⟨v',w',dS,WW,wL,mT,mY⟩:=run_append_own_at (P:=P) w 0 t ty e info te.zero te.size te.bytes Lh uQ ic HF MR hz zM vx n xs iV ⟨b,off,none⟩ rows.length cap _ hlen gJ pK tR a7 (aP _);have rS:w.grownBy w' cc:=by
   rcases uo with uo|uo
   ·exact⟨wL.os,wL.tape,wL.output,wL.size,fun d hd _=>wL.block d hd (by rw[uo];simp)⟩
   ·rw[uo]at wL;exact wL
  have jT:xs.length=n*te.size:=iV.1
  rcases WW.2 with⟨rfl,kM⟩|⟨g,cap',cur,rfl,dg,hg,XC,fc,dC,WG⟩
  ·
   have pG:rows.length=0:=eC
   have GR:rows=[]:=aQ pG;have qI:n=0:=eC
   subst GR;subst qI;have jv:=hR.move (b':=.rows te.size (rs.take 0++[]) e) (s':=sz) (c':=none) hk hi rS (.inl rfl) (fun ι' R' iK=>by
    refine⟨es,fun i row cS=>by simp at cS,.inl ⟨rfl,by simp⟩⟩)
   exact⟨_,_,_,dS,jv.1,jv.2,.osl0 k 0⟩
  ·have sj:some g=none\/some g=cc\/some g=some w.heap.size:=by
    rcases mY with h1|h1
    ·change some g=vx.ownBlock at h1
     rcases uo with uo|uo
     ·rw[uo]at h1;cases h1
     ·rw[uo]at h1;exact .inr (.inl h1)
    ·exact .inr (.inr h1)
   have jv:=hR.move (b':=.rows te.size (rs.take n++rows) e) (s':=(te.size,cap'*te.size)) (c':=some g) hk hi rS sj (fun ι' R' iK=>by
    refine⟨rfl,fun i row cS=>?_,.inr ⟨g,cur,rfl,hg,dC,fun i j row a h1 h2=>?_⟩⟩
    ·rcases aW i n with cQ|HN
     ·rw[cT oM]at cS
      have:=fE i row (bf i row cS).1
      rw[es];exact this
     ·rw[bP oM,cC]at cS
      exact Ct.len _ row cS
    ·have jw:∀q,q<(n+rows.length)*te.size->cur[q]?=(xs++(List.range (rows.length*te.size)).map fun q=>vs (q/te.size) (q%te.size))[q]?:=by
      intro q hq;rw[<-WG,fj,aF hq];simp
     rcases aW i n with cQ|HN
     ·rw[cT oM]at h1
      have GP:=fE i row (bf i row h1).1;have nU:j<te.size:=by
       have:=(aC.1 h2).1
       rw[es];omega
      obtain⟨v,hv,h3,hr⟩:=zG i j row a h1 h2;have hq:i*te.size+j<n*te.size:=by
       exact Ve
      refine⟨v,?_,h3,hr.keep iK.size iK.read⟩;show cur[i*te.size+j]?=some v;rw[jw _ (by rw[Nat.add_mul];omega),cT (by rw[jT];exact hq)]
      exact hv
     ·rw[bP oM,cC]at h1
      have GP:=Ct.len _ row h1;have nU:j<te.size:=by
       have:=(aC.1 h2).1
       omega
      have HJ:i-n<rows.length:=(aC.1 h1).1;obtain⟨_,h3,h4⟩:=MI _ j row a h1 h2;have hq:(i-n)*te.size+j<rows.length*te.size:=by
       have:(i-n+1)*te.size<=rows.length*te.size:=dJ _ HJ
       rw[Dm]at this;omega
      have hie:i*te.size=n*te.size+(i-n)*te.size:=by
       rw[<-Nat.add_mul];congr 1;omega
      refine⟨vs (i-n) j,?_,h3,h4.keep iK.size iK.read⟩;show cur[i*te.size+j]?=some _;rw[jw _ (by rw[Nat.add_mul];omega),bP (by rw[jT];omega),jT]
      rw[show i*te.size+j-n*te.size=(i-n)*te.size+j by omega]
      rw[aI,bp hq];have nL:((i-n)*te.size+j)/te.size=i-n:=by
       rw[mG,Nat.mul_add_div zM,Nat.div_eq_of_lt nU];rfl
      have zY:((i-n)*te.size+j)%te.size=j:=by
       rw[mG,Nat.mul_add_mod];exact Nat.mod_eq_of_lt nU
      simp[nL,zY])
   refine⟨_,_,_,dS,jv.1,jv.2,?_⟩;have vP:k<ι.length:=(aC.1 hi).1
   have:=dG.osl (w:=w') (ι:=ι.set k (some g,te.size,cap'*te.size)) (R:=Rd B (ι.set k (some g,te.size,cap'*te.size)) ((H.map (qA (one k))).set k (some (.rows te.size (rs.take n++rows) e)))) k 0 (n+rows.length) g cap' (te.size,cap'*te.size) (by rw[cA];simp[vP]) XC fc dL
   simpa using this
theorem Qd{o:Oper}{c:Call}{x y:Operand}(ho:o.op=.call c)(hc:c.callee=.builtin .append)(ha:c.args.toList=[x,y]){t:TypeId}(mY:c.argTypes.toList=[t,t]){ρ:Operand->Value}{w w':World}{v:Value}
  (hr:(Builtin.append_ #[t,t] o.type #[ρ x,ρ y]).run P w=.ok v w'):(execOp ρ o).run P w=.ok (.value v) w':=by
 have eG:c.args=#[x,y]:=eW.1 LN
 have sm:c.argTypes=#[t,t]:=eW.1 (by simpa using mY)
 simp only[execOp,ho,resolve,hc,Sem.run_bind,Sem.run_pure,Result.andThen_ok,invoke,builtin,eG,sm];simp[hr]
theorem Gf{o:Oper}{c:Call}{x y:Operand}(ho:o.op=.call c)(hc:c.callee=.builtin .append)(ha:c.args.toList=[x,y]):x∈o.op.operands/\y∈o.op.operands:=by
 have eG:c.args=#[x,y]:=eW.1 LN
 rw[ho];simp[Op.operands,Call.operands,hc,eG]
theorem zst(hT:iE P T){o:Oper}{c:Call}{x y:Operand}(ho:o.op=.call c)(hc:c.callee=.builtin .append)(ha:c.args.toList=[x,y]){t e:TypeId}(mY:c.argTypes.toList=[t,t]){ti te:TI}(ht:T t=some ti)(hd:ti.desc=.slice e)(he:T e=some te)
  (hz:te.zero.cells.size=te.size) (zM:0<te.size) {env:List AV} {H:AH} {k n:Nat} {rs:List (List PV)} (ex:bR env x=.osl k 0 n) (hk:H[k]?=some (some (.rows te.size rs e))) (hn:n<=rs.length)
  {rows:List (List PV)} (hy:∀(w0:cJ)(B:Nat->Prop)(w:World)(ι:Pl)(v:Value),eX w0 B w ι H->dG w ι (Rd B ι H) (bR env y) v->uO w (Rd B ι H) te.size rows v)
  (tR:n+rows.length<=maxLen) (a7:(n+rows.length)*te.bytes<=140737488355328):
  WS P G o env H (.osl k 0 (n+rows.length)) ((H.map (qA (one k))).set k (some (.rows te.size (rs.take n++rows) e))) (some (one k)):=by
 intro w0 B w ι ρ hR hG hρ hf;have hm:=Gf ho hc ha;have hx:=hρ x hm.1;rw[ex]at hx;obtain⟨v',w',ι',h1,h2,h3,h4⟩:=Q3 (P:=P) (ty:=o.type) hT ht hd he hz zM hk hn tR a7 hR hx (hy w0 B w ι (ρ y) hR (hρ y hm.2));rw[Qd ho hc ha mY h1];exact⟨ι',h2,h3,h4⟩
theorem eX.ghost{w0:cJ}{B:Nat->Prop}{w:World}{ι:Pl}{H:AH}(h:eX w0 B w ι H)(s:Nat)(t:TypeId):
  eX w0 B w (ι++[(none,s,0)]) (H++[some (.rows s [] t)])/\bS none w ι (Rd B ι H) w (ι++[(none,s,0)]) (Rd B (ι++[(none,s,0)]) (H++[some (.rows s [] t)])):=by
 have iV:∀c,jB (ι++[(none,s,0)]) (H++[some (.rows s [] t)]) c->jB ι H c:=by
  rintro c ⟨k,b',s',h1,h2⟩
  rcases rY h2 with⟨pM,h2⟩|⟨_,e⟩
  ·rcases rY h1 with⟨hl,h1⟩|⟨e,_⟩
   ·exact⟨k,b',s',h1,h2⟩
   ·rw[h.len]at pM;omega
  ·cases e
 have hk:bS none w ι (Rd B ι H) w (ι++[(none,s,0)]) (Rd B (ι++[(none,s,0)]) (H++[some (.rows s [] t)])):=
  ⟨nR _,fun c hc cQ=>⟨⟨hc.1,fun ho=>hc.2 (iV c ho)⟩,rfl⟩,fun k c s _ hx=>Az hx⟩
 refine⟨⟨h.gr,h.fut,by simp[h.len],fun k b' c s' h1 h2=>?_,fun k l b1 b2 c s1 s2 h1 h2 h3 h4=>?_⟩,hk⟩
 ·rcases rY h1 with⟨hl,h1⟩|⟨rfl,e⟩
  ·rcases rY h2 with⟨pM,h2⟩|⟨e,_⟩
   ·exact⟨(h.blk k b' c s' h1 h2).1,(h.blk k b' c s' h1 h2).2.keep0 hk fun c' e=>rfl⟩
   ·rw[h.len]at e;omega
  ·rw[<-h.len,dv]at h2
   cases h2
   cases e
   exact⟨(fun c' e=>by cases e),rfl,(fun i row h=>by simp at h),.inl ⟨rfl,rfl⟩⟩
 ·rcases rY h3 with⟨M0,h3⟩|⟨_,e⟩
  ·rcases rY h4 with⟨HC,h4⟩|⟨_,e⟩
   ·rcases rY h1 with⟨_,h1⟩|⟨e,_⟩
    ·rcases rY h2 with⟨_,h2⟩|⟨e,_⟩
     ·exact h.inj k l b1 b2 c s1 s2 h1 h2 h3 h4
     ·rw[h.len]at HC;omega
    ·rw[h.len]at M0;omega
   ·cases e
  ·cases e
theorem uO.keep{w w':World}{R R':Nat->Prop}{s:Nat}{rows:List (List PV)}{v:Value}(h:uO w R s rows v)(hw:w'=w)(hR:∀b,R b->R' b):uO w' R' s rows v:=by
 subst hw;refine⟨h.len,?_⟩
 rcases h.at_ with h1|⟨b,o,cap,vs,e,h1⟩
 ·exact .inl h1
 ·exact .inr ⟨b,o,cap,vs,e,fun i j row a h2 h3=>⟨(h1 i j row a h2 h3).1,(h1 i j row a h2 h3).2.1,(h1 i j row a h2 h3).2.2.keep (nR _) fun b hb _=>⟨hR b hb,rfl⟩⟩⟩
theorem zw4(hT:iE P T){o:Oper}{c:Call}{x y:Operand}(ho:o.op=.call c)(hc:c.callee=.builtin .append)(ha:c.args.toList=[x,y]){t e:TypeId}(mY:c.argTypes.toList=[t,t]){ti te:TI}(ht:T t=some ti)(hd:ti.desc=.slice e)(he:T e=some te)
  (hz:te.zero.cells.size=te.size) (zM:0<te.size) {env:List AV} {H:AH} (ex:bR env x=.p (.v (.slice none 0 0)))
  {rows:List (List PV)} (hy:∀(w0:cJ)(B:Nat->Prop)(w:World)(ι:Pl)(v:Value),eX w0 B w ι H->dG w ι (Rd B ι H) (bR env y) v->uO w (Rd B ι H) te.size rows v)
  (tR:rows.length<=maxLen) (a7:rows.length*te.bytes<=140737488355328):
  WS P G o env H (.osl H.length 0 rows.length) (((H++[some (cE.rows te.size [] e)]).map (qA (one H.length))).set H.length (some (cE.rows te.size rows e))) none:=by
 intro w0 B w ι ρ hR hG hρ hf;have hm:=Gf ho hc ha;have hx:=hρ x hm.1;rw[ex]at hx;have Cy:=jW hx;have hg:=hR.ghost te.size e;have uF:=(hy w0 B w ι (ρ y) hR (hρ y hm.2)).keep (w':=w) (R':=Rd B (ι++[(none,te.size,0)]) (H++[some (cE.rows te.size [] e)])) rfl (fun b hb=>⟨hb.1,fun ho=>hb.2 (by
  obtain⟨k,b',s',h1,h2⟩:=ho
  rcases rY h2 with⟨pM,h2⟩|⟨_,e⟩
  ·rcases rY h1 with⟨hl,h1⟩|⟨e,_⟩
   ·exact⟨k,b',s',h1,h2⟩
   ·rw[hR.len]at pM;omega
  ·cases e)⟩)
 have GF:dG w (ι++[(none,te.size,0)]) (Rd B (ι++[(none,te.size,0)]) (H++[some (cE.rows te.size [] e)])) (.osl H.length 0 0) (ρ x):=by rw[Cy];exact .osl0 _ _
 obtain⟨v',w',ι',h1,h2,h3,h4⟩:=Q3 (P:=P) (ty:=o.type) hT ht hd he hz zM (n:=0) (rs:=[]) (dv _ _) (nR _) (by simpa using tR) (by simpa using a7) hg.1 GF uF
 rw[Qd ho hc ha mY h1];simp only[List.take_nil,tB,cF]at h2 h3 h4;refine⟨ι',h2,⟨h3.size,fun b hb cQ=>?_,fun k c2 p _ hp=>?_⟩,h4⟩
 ·exact h3.read b (hg.2.read b hb cQ).1 cQ
 ·refine h3.place k c2 p (fun q e=>?_) (Az hp)
  cases e
  have:=(aC.1 hp).1
  rw[hR.len]at this;exact xi1 oM
end
def zn(s:Nat):Nat->List AV->Option (List (List PV))
 |0,_=>some []
 |n+1,cs=>match AV.toP.toPL (cs.take s),zn s n (cs.drop s)with
  |some r,some rs=>some (r::rs)
  |_,_=>none
theorem Au(s:Nat):∀(n:Nat)(cs:List AV)(rs:List (List PV)),zn s n cs=some rs->cs.length=n*s->rs.length=n/\∀(i:Nat)(row:List PV),rs[i]?=some row->row.length=s/\∀(j:Nat)(a:PV),row[j]?=some a->∃c,cs[i*s+j]?=some c/\c.toP=some a
 |0,cs,rs,h,_=>by simp[zn]at h;subst h;simp
 |n+1,cs,rs,h,hl=>by
  unfold zn at h
  split at h
  ·rename_i r rs' h1 h2
   cases h
   rw[Dm]at hl;have ih:=Au s n (cs.drop s) rs' h2 aX
   have hg:=u3 _ _ h1;refine⟨by simp[ih.1],fun i row cS=>?_⟩
   cases i with
   |zero=>
    simp at cS;subst cS;refine⟨by grind,fun j a ha=>?_⟩
    have nU:j<(cs.take s).length:=aX
    obtain⟨x,hx,MX⟩:=hg.2 j _ (aB nU)
    grind
   |succ i=>
    grind
  ·cases h
section
variable{P:Program}{G:World->Prop}{T:TT}
theorem zm5(hT:iE P T){o:Oper}{t e:TypeId}{len:Nat}{parts:Array (Nat×Operand)}(ho:o.op=.buildSlice t len parts){ti te:TI}(ht:T t=some ti)(hd:ti.desc=.slice e)(he:T e=some te)(zM:0<te.size)(zO:len*te.size<=16777216)
  {env:List AV} {H:AH} {cs:List AV} (h:fu (fun i=>some (i*te.size,te.size)) ((List.range (len*te.size)).map fun m=>.p (.v (te.zero.cells[m%te.zero.cells.size]!))) (parts.toList.map fun(n,x)=>(n,bR env x))=some cs)
  (pK:cs.all al=true) {rs:List (List PV)} (dY:zn te.size len cs=some rs):WS P G o env H (.osl H.length 0 len) (H++[some (.rows te.size rs e)]) none:=by
 intro w0 B w ι ρ hR hG hρ hf;have pH:∀(n:Nat)(x:Operand),(n,x)∈parts.toList->dG w ι (Rd B ι H) (bR env x) (ρ x):=fun n x hx=>hρ x (by
  rw[ho];simp only[Op.operands]
  grind)
 have wH:∀l:List (Nat×Operand),(∀n x,(n,x)∈l->dG w ι (Rd B ι H) (bR env x) (ρ x))->OB w ι (Rd B ι H) (l.map fun(n,x)=>(n,bR env x)) (l.map fun(n,x)=>(n,ρ x)):=by
  exact Km
 obtain⟨arr',h1,h2,h3⟩:=Av (w:=w) (ι:=ι) (R:=Rd B ι H) _ _ _ cs ((Array.range (len*te.size)).map (te.zero.cells[· % te.zero.cells.size]!)) (wH parts.toList pH) h dL (fun j a ha=>by
  exact W8)
 have dS:(execOp ρ o).run P w=.ok (.value (.slice (some ⟨w.heap.size,0,none⟩) len len)) (w.alloc (.cells arr' e)):=by
  have e1:(parts.map fun(p:Nat×Operand)=>(p.1,ρ p.2)).toList=parts.toList.map fun(n,x)=>(n,ρ x):=dL
  have rg:¬(len*te.size>2 ^ 24):=by
   omega
  simp only[execOp,ho,Instr.buildSlice,Sem.run_bind,qO hT ht,Result.andThen_ok,hd,tu hT he,rg,bN];rw[show(parts.map fun x=>match x with|(i,x)=>(i,ρ x))=parts.map fun(p:Nat×Operand)=>(p.1,ρ p.2)from rfl,e1]
  by_cases h0:len*te.size=0
  ·have e3:((Array.range (len*te.size)).map fun x=>(#[]:Array Value)[x%(#[]:Array Value).size]!)=(Array.range (len*te.size)).map (te.zero.cells[· % te.zero.cells.size]!):=by rw[h0];simp
   rw[aF h0];simp only[Sem.run_pure,Result.andThen_ok,Sem.run_bind,e3,h1,newRow,wq]
  ·rw[aD h0];simp only[Sem.run_pure,Result.andThen_ok,Sem.run_bind,NJ hT he,h1,newRow,wq]
 rw[dS];have dO:cs.length=len*te.size:=by
  rw[h2];have hf:∀(parts:List (Nat×AV))(cells cs':List AV),fu (fun i=>some (i*te.size,te.size)) cells parts=some cs'->cs'.length=cells.length:=by
   intro parts
   induction parts with
   |nil=>intro cells cs' h;simp[fu]at h;rw[h]
   |cons p ps ih=>
    intro cells cs' h;unfold fu at h;simp only at h
    split at h
    ·rw[ih _ _ h,JR oM]
    ·cases h
  grind
 have bl:=Au te.size len cs rs dY dO
 have:=hR.push (.cells arr' e) (.rows te.size rs e) (te.size,arr'.size) (fun ι' R' hk hn=>by
  refine⟨rfl,fun i row cS=>(bl.2 i row cS).1,.inr ⟨_,_,rfl,hn,rfl,fun i j row a cS ha=>?_⟩⟩
  obtain⟨c,hc,MV⟩:=(bl.2 i row cS).2 j a ha;obtain⟨u,hu,hr⟩:=h3 _ c hc;exact⟨u,hu,E4 hr (aO.1 pK c (aH hc)),(hr.toP _ MV).keep hk.size hk.read⟩)
 refine⟨_,this.1,this.2,?_⟩;have D6:len<=maxLen:=by
  have:len*1<=len*te.size:=Nat.mul_le_mul_left _ zM
  unfold maxLen;omega
 have hr:=dG.osl (w:=w.alloc (.cells arr' e)) (ι:=ι++[(some w.heap.size,te.size,arr'.size)]) (R:=Rd B (ι++[(some w.heap.size,te.size,arr'.size)]) (H++[some (cE.rows te.size rs e)])) ι.length 0 len w.heap.size len (te.size,arr'.size) (dv _ _) (nR _) D6 (by simp[<-h2,dO])
 rw[<-hR.len];simpa using hr
theorem znv(hT:iE P T){o:Oper}{t e:TypeId}{x y:Operand}(ho:o.op=.makeSlice t x y){ti te:TI}(ht:T t=some ti)(hd:ti.desc=.slice e)(he:T e=some te){kz:IntKind}{z:Int}(hz:te.zero=.int kz z)(hs:te.size=1)
  {env:List AV} {H:AH} {kx ky:IntKind} {n:Int} (ex:bR env x=.p (.v (.int kx n))) (ey:bR env y=.p (.v (.int ky n))) (h0:0<=n) (tR:n.toNat<=maxLen) (hb:te.bytes*n.toNat<=281474976710656):
  WS P G o env H (.osl H.length 0 n.toNat) (H++[some (.rows 1 (List.replicate n.toNat [.v (.int kz z)]) e)]) none:=by
 intro w0 B w ι ρ hR hG hρ hf;have hx:ρ x=.int kx n:=jW (x:=.int kx n) (by
  have:=hρ x oW
  rw[ex]at this;exact this)
 have hy:ρ y=.int ky n:=jW (x:=.int ky n) (by
  have:=hρ y oW
  rw[ey]at this;exact this)
 obtain⟨info,uQ,ic,HF,MR⟩:=info_parts (hT e te he).1.2;have MJ:P.underlying t=some (.slice e):=by have:=(hT t ti ht).1.1;grind
 have o6:(info.bytes:Int)*n<=281474976710656:=by
  grind
 have hm:=run_make (P:=P) w t e info te.zero MJ uQ ic kx ky n n h0 (bT _) o6 (by unfold maxLen at tR;omega)
 have dS:(execOp ρ o).run P w=.ok (.value (.slice (some ⟨w.heap.size,0,none⟩) n.toNat n.toNat)) (w.alloc (.cells (madeCells te.zero.cells (n.toNat*info.size)) e)):=by
  simp only[execOp,ho,hx,hy,Sem.run_bind,hm,Result.andThen_ok,Sem.run_pure]
 rw[HF,hs,Nat.mul_one,hz]at dS;rw[dS];have Df:(Value.int kz z).cells=#[Value.int kz z]:=rfl;rw[Df];have aT:∀i,i<n.toNat->(madeCells #[Value.int kz z] n.toNat)[i]?=some (.int kz z):=fun i hi=>by
  unfold madeCells;simp[hi,Nat.mod_one]
 have:=hR.push (.cells (madeCells #[Value.int kz z] n.toNat) e) (.rows 1 (List.replicate n.toNat [.v (.int kz z)]) e) (1,n.toNat) (fun ι' R' hk hn=>by
  refine⟨rfl,fun i row cS=>?_,.inr ⟨_,_,rfl,hn,size_madeCells _ _,fun i j row a cS ha=>?_⟩⟩
  ·grind
  ·have jq:=List.getElem?_replicate (a:=[PV.v (.int kz z)]) (n:=n.toNat) (i:=i);rw[cS]at jq
   split at jq
   ·rename_i hi
    cases jq
    cases j with
    |zero=>simp at ha;subst ha;exact⟨_,by simpa using aT i hi,rfl,.v _⟩
    |succ j=>simp at ha
   ·cases jq)
 refine⟨_,this.1,this.2,?_⟩;have hr:=dG.osl (w:=w.alloc (.cells (madeCells #[Value.int kz z] n.toNat) e)) (ι:=ι++[(some w.heap.size,1,n.toNat)]) (R:=Rd B (ι++[(some w.heap.size,1,n.toNat)]) (H++[some (cE.rows 1 (List.replicate n.toNat [.v (.int kz z)]) e)])) ι.length 0 n.toNat w.heap.size n.toNat (1,n.toNat) (dv _ _) (nR _) tR dL
 rw[<-hR.len];simpa using hr
theorem zul(hT:iE P T){o:Oper}{t:TypeId}{x:Operand}(ho:o.op=.range t x){ti:TI}(ht:T t=some ti)(hd:ti.desc=.string){env:List AV}{H:AH}{s:ByteArray}(ex:bR env x=.p (.v (.string s))):
  WS P G o env H (.own H.length 0) (H++[some (.iter s 0)]) none:=by
 intro w0 B w ι ρ hR hG hρ hf;have hx:=hρ x oW
 rw[ex]at hx;have dS:(execOp ρ o).run P w=.ok (.value (.pointer (some ⟨w.heap.size,0,none⟩))) (w.alloc (.stringIter s 0)):=by
  simp only[execOp,ho,jW hx,Instr.range,Sem.run_bind,qO hT ht,Result.andThen_ok,hd,Sem.run_pure,wq]
 rw[dS]
 have:=hR.push (.stringIter s 0) (.iter s 0) (0,0) (fun ι' R' hk hn=>⟨_,rfl,hn⟩)
 exact⟨_,this.1,this.2,by rw[<-hR.len];exact .own _ 0 _ (0,0) (dv _ _)⟩
theorem z08{o:Oper}{x:Operand}(ho:o.op=.next x true){env:List AV}{H:AH}{k:Nat}{s:ByteArray}{pos:Nat}(ex:bR env x=.own k 0)(hk:H[k]?=some (some (.iter s pos)))(hp:pos<s.size):
  WS P G o env H (.p (.tup [.v (.bool true),.v (.int .i64 pos),.v (.int .i32 (Utf8.decode s pos).1)])) (H.set k (some (.iter s (pos+(Utf8.decode s pos).2)))) none:=by
 intro w0 B w ι ρ hR hG hρ hf;have hx:=hρ x oW
 rw[ex]at hx;generalize hq:ρ x=vx at hx
 cases hx with
 |own _ _ c sz hi=>
  obtain⟨c',ec,hb⟩:=(hR.blk k _ _ sz hk hi).2
  cases ec
  have dS:(execOp ρ o).run P w=.ok (.value (.tuple #[.bool true,.int .i64 pos,.int .i32 (Utf8.decode s pos).1])) { w with heap:=w.heap.setIfInBounds c (.stringIter s (pos+(Utf8.decode s pos).2)) }:=by
   simp[execOp,ho,hq,Instr.next,getObj,setObj,Sem.run,hb,hp,goInt]
  rw[dS];have cQ:=n7 hb
  have:=hR.upd hk hi (b':=.iter s (pos+(Utf8.decode s pos).2)) (w':={ w with heap:=w.heap.setIfInBounds c (.stringIter s (pos+(Utf8.decode s pos).2)) }) rfl rfl rfl dL (fun d hd=>by grind)
   (fun R' iK=>⟨c,rfl,by simp[cQ]⟩)
  refine⟨ι,this.1,this.2,.p _ _ ?_⟩;refine cI.tup [.v (.bool true),.v (.int .i64 pos),.v (.int .i32 (Utf8.decode s pos).1)] [.bool true,.int .i64 pos,.int .i32 (Utf8.decode s pos).1] rfl fun j a v ha hv=>?_
  rcases j with _|_|_|j
  ·simp at ha hv;subst ha;subst hv;exact .v _
  ·simp at ha hv;subst ha;subst hv;exact .v _
  ·simp at ha hv;subst ha;subst hv;exact .v _
  ·simp at ha
theorem z6l{o:Oper}{x:Operand}(ho:o.op=.next x true){env:List AV}{H:AH}{k:Nat}{s:ByteArray}{pos:Nat}(ex:bR env x=.own k 0)(hk:H[k]?=some (some (.iter s pos)))(hp:¬pos<s.size):
  WS P G o env H (.p (.tup [.v (.bool false)])) H none:=by
 intro w0 B w ι ρ hR hG hρ hf;have hx:=hρ x oW
 rw[ex]at hx;generalize hq:ρ x=vx at hx
 cases hx with
 |own _ _ c sz hi=>
  obtain⟨c',ec,hb⟩:=(hR.blk k _ _ sz hk hi).2
  cases ec
  have dS:(execOp ρ o).run P w=.ok (.value (.tuple #[.bool false])) w:=by
   simp[execOp,ho,hq,Instr.next,getObj,Sem.run,hb,hp]
  rw[dS];refine⟨ι,hR,⟨nR _,fun b hb _=>⟨hb,rfl⟩,fun _ _ _ _ h=>h⟩,.p _ _ ?_⟩
  refine cI.tup [.v (.bool false)] [.bool false] rfl fun j a v ha hv=>?_
  rcases j with _|j
  ·simp at ha hv;subst ha;subst hv;exact .v _
  ·simp at ha
end
section
variable{P:Program}{ops:Array Oper}{Q:Exit->Act->World->Prop}
theorem z1k(J:Array Bool->Act->World->Prop)(k r:Nat)(hB:qc ops k r=true)(hk:k<=ops.size)
  (sO:∀(listed:Array Bool)(a:Act)(w:World)(i:Nat)(o:Oper),J listed a w->listed.size=ops.size->(∀d∈jN ops i,listed.getD d false=true)->ops[i]?=some o->i<k->listed.getD i false=false →
   (if Region.wanted o (u5 ops a.eval)then au P (fun v w'=>J (listed.setIfInBounds i true) (a.put o.dst v) w') ((execOp a.eval o).run P w)else J (listed.setIfInBounds i true) (a.put o.dst undef) w))
  (lZ:∀(listed:Array Bool)(a:Act)(w:World),J listed a w->(∀i,i<k->listed.getD i false=true)->wpList P ops Q (ops.toList.drop k) a w):
  ∀(m:Nat)(listed:Array Bool)(a:Act)(w:World),J listed a w->listed.size=ops.size->(∀i,listed.getD i false=true->∀d∈jN ops i,listed.getD d false=true)->(∀i,k<=i->listed.getD i false=false) →
   ((List.range k).filter fun i=>!listed.getD i false).length=m->wpAny P .any ops Q (m+(ops.size-k)) listed a w:=by
 simp only[qc,gK,qe,SX,bD,bM,List.contains_iff_mem]at hB;obtain⟨⟨Zj,hB2⟩,hB3⟩:=hB;have gW:∀i d,d∈jN ops i->d<i:=fun i d hd=>by
  exact Vk
 have yP:∀j,k<=j->j<ops.size->∀i,i<j->i∈KB ops r (jN ops j):=fun j Yq hj i hi=>by
  grind
 intro m
 induction m with
 |zero=>
  intro listed a w hJ tH dO hu hm;have eH:∀i,i<k->listed.getD i false=true:=fun i hi=>by
   simp_all
  exact Q9 gW r k yP (ops.size-k) k listed a w (nR _) oM tH eH (fun i h1 _=>hu i h1) dO (lZ listed a w hJ eH) _ oM
 |succ m ih=>
  intro listed a w hJ tH dO hu hm;obtain⟨i0,iH,y8⟩:∃i,i<k/\listed.getD i false=false:=by
   exact X7
  have M9:m+1+(ops.size-k)=(m+(ops.size-k))+1:=eC
  rw[M9];refine⟨fun h0=>?_,fun i hi=>?_⟩
  ·obtain⟨i,_,hi⟩:=Ga gW tH i0 i0 (nR _) oM y8
   grind
  ·obtain⟨oG,o,ho,_⟩:=mem_ready.1 hi;have XN:=(jF.1 ho).1;obtain⟨GI,vP⟩:=KI oG;have jP:i<k:=by
    exact Vl
   have hs:=sO listed a w i o hJ tH (EG hi) ho jP GI;have wQ:((List.range k).filter fun x=>!(listed.setIfInBounds i true).getD x false).length=m:=by
    exact Xd
   have GK:∀x,k<=x->(listed.setIfInBounds i true).getD x false=false:=fun x hx=>by
    rw[getD_set_ne false oM];exact hu x hx
   have s7:∀x,(listed.setIfInBounds i true).getD x false=true->∀d∈jN ops x,(listed.setIfInBounds i true).getD d false=true:=fun x hx d hd=>by
    exact W2
   unfold wpOp;simp only[ho];rw[PE]
   split
   ·rename_i hw;rw[aF hw]at hs;exact .inl (Fz hs fun v w' hv=>ih _ _ _ hv FQ s7 GK wQ)
   ·rename_i hw;rw[aD hw]at hs;exact ih _ _ _ hs FQ s7 GK wQ
theorem Qe{id:Nat}{l:List Oper}{a:Act}{w:World}(k r:Nat)(J:Array Bool->Act->World->Prop)
  (hm:P.follows .mixedOrders=true) (hB:qc l.toArray k r=true) (hk:k<=l.length) (h0:J (Array.replicate l.length false) a w.drew)
  (sO:∀(listed:Array Bool)(a:Act)(w:World)(i:Nat)(o:Oper),J listed a w->listed.size=l.length->(∀d∈jN l.toArray i,listed.getD d false=true)->l[i]?=some o->i<k->listed.getD i false=false →
   (if Region.wanted o (u5 l.toArray a.eval)then au P (fun v w'=>J (listed.setIfInBounds i true) (a.put o.dst v) w') ((execOp a.eval o).run P w)else J (listed.setIfInBounds i true) (a.put o.dst undef) w))
  (lZ:∀(listed:Array Bool)(a:Act)(w:World),J listed a w->(∀i,i<k->listed.getD i false=true)->wpList P l.toArray Q (l.drop k) a w):
  (Code.region id l.toArray true).wp P Q a w:=by
 refine wp_region_any hm ?_;have rR:∀n i,(Array.replicate n false).getD i false=false:=fun n i=>by
  by_cases h:i<n<;>simp[h]
 have dR:l.toArray.size=k+(l.toArray.size-k):=xo
 have yc:l.toArray.size=l.length:=dL
 have eH:=z1k (P:=P) (ops:=l.toArray) (Q:=Q) J k r hB BF (fun listed a w i o hJ tH hd ho jP oG=>sO listed a w i o hJ FQ hd UQ jP oG) (fun listed a w hJ hl=>by grind)
  k (Array.replicate l.length false) a w.drew h0 dL (fun i h=>by rw[rR]at h;cases h) (fun i _=>rR _ i) (by
   exact Wn)
 simp_all
end
theorem N3{s:ByteArray}{i:Nat}{row:List PV}(h:(nJ s)[i]?=some row):∃b:UInt8,s.data.toList[i]?=some b/\row=[.v (.int .u8 (b.toNat:Nat))]:=by
 unfold nJ at h
 grind
theorem N4(s:ByteArray):(nJ s).length=s.size:=by
 simp only[nJ,nk,Array.length_toList];rfl
section
variable{P:Program}{G:World->Prop}{T:TT}
theorem znw(hT:iE P T){t u e ty:TypeId}{ti ui te:TI}(ht:T t=some ti)(hd:ti.desc=.slice e)(hu:T u=some ui)(WD:ui.desc=.string)(he:T e=some te)
  (hz:te.zero=.int .u8 0) (xI:te.size=1) (dI:te.bytes=1) {H:AH} {k n:Nat} {rs:List (List PV)} (hk:H[k]?=some (some (.rows 1 rs e))) (hn:n<=rs.length)
  {s:ByteArray} (tR:n+s.size<=maxLen) (a7:n+s.size<=140737488355328)
  {w0:cJ} {B:Nat->Prop} {w:World} {ι:Pl} (hR:eX w0 B w ι H) {vx:Value} (hx:dG w ι (Rd B ι H) (.osl k 0 n) vx):
  ∃v' w' ι',(Builtin.append_ #[t,u] ty #[vx,.string s]).run P w=.ok v' w'/\eX w0 B w' ι' ((H.map (qA (one k))).set k (some (.rows 1 (rs.take n++nJ s) e))) ∧
   bS (some (one k)) w ι (Rd B ι H) w' ι' (Rd B ι' ((H.map (qA (one k))).set k (some (.rows 1 (rs.take n++nJ s) e)))) ∧
   dG w' ι' (Rd B ι' ((H.map (qA (one k))).set k (some (.rows 1 (rs.take n++nJ s) e)))) (.osl k 0 (n+s.size)) v':=by
 obtain⟨⟨cc,sz⟩,hi⟩:∃p,ι[k]?=some p:=by
  exact Vm
 have vP:k<ι.length:=(aC.1 hi).1;obtain⟨qV,es,fE,a6⟩:=hR.blk k _ cc sz hk hi;obtain⟨info,uQ,ic,HF,MR⟩:=info_parts (hT e te he).1.2;have MJ:P.underlying t=some (.slice e):=by rw[(hT t ti ht).1.1,hd]
 have Cz:P.underlying u=some .string:=by rw[(hT u ui hu).1.1,WD]
 rw[hz]at ic;rw[xI]at HF;rw[dI]at MR;have cC:(rs.take n).length=n:=aX
 have bf:∀(i:Nat)(row:List PV),(rs.take n)[i]?=some row->rs[i]?=some row/\i<n:=fun i row h=>by
  grind
 have qv:(Lib.strCells s).length=s.size:=Lib.strCells_length s;have rD:∀(i:Nat)(row:List PV),(rs.take n++nJ s)[i]?=some row->row.length=1:=fun i row h=>by
  rcases aW i n with cQ|HN
  ·grind
  ·rw[bP oM]at h
   obtain⟨b,_,rfl⟩:=N3 h;rfl
 have fin:∀(xs:List Value)(w':World)(g cap':Nat)(cur:Array Value),xs.length=n →
   (∀(i j:Nat)(row:List PV)(a:PV),(rs.take n)[i]?=some row->row[j]?=some a->∃v,xs[i]?=some v/\v.oneCell'=true/\cI w (Rd B ι H) a v) →
   w.grownBy w' cc->(some g=none\/some g=cc\/some g=some w.heap.size)->w'.heap[g]?=some (.cells cur e (0,0))->n+s.size<=cap'->cap'<=maxLen->cur.size=cap' →
   (∀q,q<n+s.size->cur[q]?=(xs++Lib.strCells s)[q]?) →
   eX w0 B w' (ι.set k (some g,(1,cap'))) ((H.map (qA (one k))).set k (some (.rows 1 (rs.take n++nJ s) e))) ∧
   bS (some (one k)) w ι (Rd B ι H) w' (ι.set k (some g,(1,cap'))) (Rd B (ι.set k (some g,(1,cap'))) ((H.map (qA (one k))).set k (some (.rows 1 (rs.take n++nJ s) e)))) ∧
   dG w' (ι.set k (some g,(1,cap'))) (Rd B (ι.set k (some g,(1,cap'))) ((H.map (qA (one k))).set k (some (.rows 1 (rs.take n++nJ s) e)))) (.osl k 0 (n+s.size)) (.slice (some ⟨g,0,none⟩) (n+s.size) cap'):=by
  intro xs w' g cap' cur jT zG rS sj hg XC fc dC jw;have jv:=hR.move (b':=.rows 1 (rs.take n++nJ s) e) (s':=(1,cap')) (c':=some g) hk hi rS sj (fun ι' R' iK=>by
   refine⟨rfl,rD,.inr ⟨g,cur,rfl,hg,dC,fun i j row a h1 h2=>?_⟩⟩
   have yq:j=0:=by
    grind
   subst yq;have HJ:i<n+s.size:=by
    have:=(aC.1 h1).1
    rw[sD,cC,N4]at this;exact this
   rw[show i*1+0=i by omega,jw i HJ]
   rcases aW i n with cQ|HN
   ·rw[cT oM]at h1
    obtain⟨v,hv,h3,hr⟩:=zG i 0 row a h1 h2;exact⟨v,by grind,h3,hr.keep iK.size iK.read⟩
   ·rw[bP oM,cC]at h1
    obtain⟨b,hb,rfl⟩:=N3 h1;simp at h2;subst h2;refine⟨.int .u8 (b.toNat:Nat),?_,rfl,.v _⟩;rw[bP oM,jT]
    simp only[Lib.strCells,aI,hb,fM])
  refine⟨jv.1,jv.2,?_⟩
  have:=dG.osl (w:=w') (ι:=ι.set k (some g,(1,cap'))) (R:=Rd B (ι.set k (some g,(1,cap'))) ((H.map (qA (one k))).set k (some (.rows 1 (rs.take n++nJ s) e)))) k 0 (n+s.size) g cap' (1,cap') aX XC fc dL
  simpa using this
 have grown:∀(xs:List Value)(old:Nat),xs.length=n->old<n+s.size →
   (∀(i j:Nat)(row:List PV)(a:PV),(rs.take n)[i]?=some row->row[j]?=some a->∃v,xs[i]?=some v/\v.oneCell'=true/\cI w (Rd B ι H) a v) →
   (Builtin.append_ #[t,u] ty #[vx,.string s]).run P w=.ok (.slice (some ⟨w.heap.size,0,none⟩) (n+s.size) (grownCap w (n+s.size) old e)) (w.drew.alloc (.cells (xs.toArray++(Lib.strCells s).toArray++Builtin.zeroCells (Value.int .u8 0).cells (grownCap w (n+s.size) old e-(n+s.size))) e)) →
   ∃v' w' ι',(Builtin.append_ #[t,u] ty #[vx,.string s]).run P w=.ok v' w'/\eX w0 B w' ι' ((H.map (qA (one k))).set k (some (.rows 1 (rs.take n++nJ s) e))) ∧
   bS (some (one k)) w ι (Rd B ι H) w' ι' (Rd B ι' ((H.map (qA (one k))).set k (some (.rows 1 (rs.take n++nJ s) e)))) ∧
   dG w' ι' (Rd B ι' ((H.map (qA (one k))).set k (some (.rows 1 (rs.take n++nJ s) e)))) (.osl k 0 (n+s.size)) v':=by
  intro xs old jT ho zG hr;have Mf:=grownCap_ge w (n+s.size) old e;have fc:grownCap w (n+s.size) old e<=maxLen:=grownCap_le_maxLen w (n+s.size) old e tR;have uZ:(Value.int IntKind.u8 0).cells.size=1:=rfl;have h3:=fin xs (w.drew.alloc (.cells (xs.toArray++(Lib.strCells s).toArray++Builtin.zeroCells (Value.int .u8 0).cells (grownCap w (n+s.size) old e-(n+s.size))) e)) w.heap.size _ _ jT zG ⟨rfl,rfl,rfl,by simp,fun k hk _=>heap_alloc_old w.drew _ hk⟩ (.inr (.inr rfl)) (heap_alloc_new w.drew _) Mf fc (by
    simp only[Array.size_append,List.size_toArray,size_zeroCells,uZ,jT,qv];omega) (fun q hq=>by
    grind)
  grind
 generalize Cy:vx=v at hx
 cases hx with
 |osl0=>
  subst Cy
  by_cases hm:s.size=0
  ·have rS:w.grownBy w cc:=⟨rfl,rfl,rfl,nR _,fun _ _ _=>rfl⟩
   have ip:nJ s=[]:=aQ (by rw[N4];exact hm)
   have hf:=Lib.run_firstCells_string (P:=P) w 1 s;rw[hm]at hf;have hr:(Builtin.append_ #[t,u] ty #[.slice none 0 0,.string s]).run P w=.ok (.slice none 0 0) w:=by
    simp[Builtin.append_,run_underlying MJ,run_underlying Cz,sizeOf,typeInfo,uQ,HF,Builtin.lenOf,hm,hf]
   have jv:=hR.move (b':=.rows 1 (rs.take 0++nJ s) e) (s':=sz) (c':=none) hk hi rS (.inl rfl) (fun ι' R' iK=>by
    rw[ip];refine⟨es,fun i row cS=>by simp at cS,.inl ⟨rfl,by simp⟩⟩)
   refine⟨_,_,_,hr,jv.1,jv.2,?_⟩;rw[hm];exact .osl0 k 0
  ·have hr:=run_append_nil_string (P:=P) w t u ty e info (.int .u8 0) MJ Cz uQ ic s oM oM (by rw[MR];omega)
   have e1:(s.data.map fun b=>Value.int .u8 b.toNat)=(Lib.strCells s).toArray:=by
    apply Array.ext';simp[Lib.strCells]
   grind
 |osl _ _ _ c0 cap0 sz0 tI ia hm qn=>
  subst Cy;rw[hi]at tI;cases tI
  rcases a6 with⟨e1,_⟩|⟨c1,arr,e1,hb,vA,dC⟩
  ·cases e1
  cases e1
  have MV:arr.size=cap0:=aX
  have jT:(arr.toList.take n).length=n:=aX
  have zG:∀(i j:Nat)(row:List PV)(a:PV),(rs.take n)[i]?=some row->row[j]?=some a->∃v,(arr.toList.take n)[i]?=some v/\v.oneCell'=true/\cI w (Rd B ι H) a v:=fun i j row a h1 h2=>by
   grind
  have e0:(0*sz.1:Nat)=0:=Nat.zero_mul _;rw[e0]
  by_cases BR:n+s.size<=cap0
  ·have hr:=Lib.run_append_room_string (P:=P) w t u ty e info MJ Cz uQ HF c0 n cap0 arr hb s BR oM
   have h3:=fin (arr.toList.take n) (w.setRow c0 (arr.toList.take n++Lib.strCells s++arr.toList.drop (n+s.size)).toArray) c0 cap0 _ jT zG ⟨rfl,rfl,rfl,by simp,fun k _ hk=>setRow_other w c0 k _ (fun e=>hk (by rw[e]))⟩ (.inr (.inl rfl)) (setRow_heap w c0 arr (arr.toList.take n++Lib.strCells s++arr.toList.drop (n+s.size)).toArray e _ hb) BR hm (by
    grind) (fun q hq=>by
    grind)
   grind
  ·have hr:=Lib.run_append_grow_string (P:=P) w t u ty e info (.int .u8 0) MJ Cz uQ ic ⟨c0,0,none⟩ n cap0 (arr.toList.take n) aX (fun j v hj=>by
    rw[Addr.add_lit,ku hb,cF]
    grind) s oM oM (by rw[MR];exact growslice_fits oM oM)
   grind
theorem zp1{o:Oper}{c:Call}{x y:Operand}(ho:o.op=.call c)(hc:c.callee=.builtin .append)(ha:c.args.toList=[x,y]){t u:TypeId}(mY:c.argTypes.toList=[t,u]){ρ:Operand->Value}{w w':World}{v:Value}
  (hr:(Builtin.append_ #[t,u] o.type #[ρ x,ρ y]).run P w=.ok v w'):(execOp ρ o).run P w=.ok (.value v) w':=by
 have eG:c.args=#[x,y]:=eW.1 LN
 have sm:c.argTypes=#[t,u]:=eW.1 (by simpa using mY)
 simp only[execOp,ho,resolve,hc,Sem.run_bind,Sem.run_pure,Result.andThen_ok,invoke,builtin,eG,sm];simp[hr]
theorem zw3(hT:iE P T){o:Oper}{c:Call}{x y:Operand}(ho:o.op=.call c)(hc:c.callee=.builtin .append)(ha:c.args.toList=[x,y]){t u e:TypeId}(mY:c.argTypes.toList=[t,u]){ti ui te:TI}(ht:T t=some ti)(hd:ti.desc=.slice e)(hu:T u=some ui)(WD:ui.desc=.string)(he:T e=some te)
  (hz:te.zero=.int .u8 0) (xI:te.size=1) (dI:te.bytes=1) {env:List AV} {H:AH} {k n:Nat} {rs:List (List PV)} (ex:bR env x=.osl k 0 n) (hk:H[k]?=some (some (.rows 1 rs e))) (hn:n<=rs.length)
  {s:ByteArray} (ey:bR env y=.p (.v (.string s))) (tR:n+s.size<=maxLen) (a7:n+s.size<=140737488355328):
  WS P G o env H (.osl k 0 (n+s.size)) ((H.map (qA (one k))).set k (some (.rows 1 (rs.take n++nJ s) e))) (some (one k)):=by
 intro w0 B w ι ρ hR hG hρ hf;have hm:=Gf ho hc ha;have hx:=hρ x hm.1;have hy:=hρ y hm.2;rw[ex]at hx;rw[ey]at hy;obtain⟨v',w',ι',h1,h2,h3,h4⟩:=znw (P:=P) (ty:=o.type) hT ht hd hu WD he hz xI dI hk hn tR a7 hR hx;rw[zp1 ho hc ha mY (by rw[jW hy];exact h1)]
 exact⟨ι',h2,h3,h4⟩
end
end Go.Proofs.YtjkcdcloomkooaaGreatDoor

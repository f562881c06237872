/- Own work: the walk of distinct,over a map that the call makes. -/
import Derived.Test.YtcfecmeocimclaaGreatDoorYAA0
import Derived.Test.YtcfecmeocimclaaGreatDoorYAHG
import Derived.Maps.Views
import Derived.Maps.OwnOps
import Derived.WalkKit
namespace Go.Proofs.YtcfecmeocimclaaGreatDoor
set_option linter.unusedSimpArgs false
set_option linter.unusedSectionVars false
set_option maxRecDepth 100000
open Go.RowKit Go.Maps Go.WideMaps
theorem z25:Keyed Tryz.prog 9:=string_keyed Tryz.underlying9
theorem z7i {s:ByteArray} (h:s.size<=maxLen):keyOf Tryz.prog 9 (.string s)=some (.string s.data.toList):=keyOf_string_mk Tryz.underlying9 h
theorem zma {H:Type} {P:Program} (w:World) {ops:Array Oper} {rest:List Oper} {o:Oper} {a:Act} {Q:Exit->Act->World->Prop}
  (hg:o.guard=none) (m x:Operand) (t:TypeId) (hop:o.op=Op.lookup t m x false)
  (k e:TypeId) (K:Keyed P k) (ht:P.underlying t=some (.map k e)) (he:P.underlying e=some .bool) (hz:(zeroValue e).run P w=.ok (.bool false) w) (b n:Nat) (D:DataW H)
  (hm:a.eval m=.map (some b)) (hown:w.ownsMap P k (plainElem P e) b n D) (key:Value) (kl:Lit) (hx:a.eval x=key) (hkey:keyOf P k key=some kl) (y:Bool) (hat:D.atKey kl (.lit (.bool false))=.lit (.bool y))
  (hK:wpList P ops Q rest (a.put o.dst (.bool y)) w):wpList P ops Q (o :: rest) a w:=by
 refine wpList_plain hg fun K' hK'=>?_
 obtain ⟨v,ps,hrun,hv⟩:=hown.lookup K ht hz (plainElem_bool he false) hkey;rw [hat] at hv;have hv2:v=.bool y:=by
  unfold plainElem at hv
  split at hv
  ·cases hv;rfl
  ·split at hv <;> cases hv
  ·split at hv <;> cases hv
  ·cases hv
 subst hv2;unfold Oper.wp;simp [execOp,hop,hm,hx,hrun,Result.andThen];exact hK' _ _ hK
structure Seen (D:DataW Unit) (l:List Bs):Prop where
 m:IsMap D
 at_:∀ s:Bs,D.atKey (.string s) (.lit (.bool false))=.lit (.bool (decide (s ∈ l)))
theorem z0f:Seen (.map []) []:=⟨isMap_empty,fun s=>by simp [DataW.atKey]⟩
theorem z0e {D:DataW Unit} {l:List Bs} (h:Seen D l) (s:Bs) (hs:WideAt.IsKeyLit (.string s)):Seen (D.put (.string s) (.lit (.bool true))) (l++[s]):=⟨h.m.put _ _,fun t=>by
 by_cases e:t=s
 ·subst e;rw [atKey_put_same h.m hs];simp
 ·have hne:(Lit.string t) ≠ (Lit.string s):=fun he=>e (by injection he)
  rw [atKey_put_other hne,h.at_];simp [e]⟩
theorem z3j {s:Bs} (h:s.length<=maxLen):keyOf Tryz.prog 9 (.string (bL s))=some (.string s):=by
 have:=z7i (s:=bL s) h
 rwa [z3l] at this
theorem zn1:∀ {l:List Bs},l.Nodup->zb1 l=true
 | [],_=>rfl
 | x :: l,h=>by
  rw [List.nodup_cons] at h;rw [zb1,zn1 h.2,Bool.and_true];simpa using h.1
theorem zqq:∀ {l:List Bs},zb1 l=true->l.Nodup
 | [],_=>List.nodup_nil
 | x :: l,h=>by
  rw [zb1,bAT] at h;exact List.nodup_cons.2 ⟨by simpa using h.1,zqq h.2⟩
theorem z1t {l:List Bs} {k:Nat} (hk:k < l.length) (h:l[k] ∈ l.take k):zb1 l=false:=by
 cases e:zb1 l with
 | false=>rfl
 | true =>
  exfalso
  have hn:=zqq e;obtain ⟨i,hi,he⟩:=List.getElem_of_mem h;rw [List.length_take] at hi;rw [List.getElem_take] at he;exact (List.pairwise_iff_getElem.1 hn) i k (by omega) hk (by omega) he
theorem zux {l:List Bs} {x:Bs} (h:l.Nodup) (hx:¬ x ∈ l):(l++[x]).Nodup:=by
 rw [List.nodup_append];exact ⟨h,by simp,fun a ha b hb e=>by
  rw [List.mem_singleton.1 hb] at e;subst e;exact hx ha⟩
set_option maxHeartbeats 800000 in
theorem zqp (b o n cap:Nat) (ss:List Bs) (w:World) (hz:ss.length=n) (hn:n < maxLen) (hb:b < w.heap.size) (hsz:∀ s ∈ ss,s.length<=maxLen)
  (h0:∀ j,j < n->w.cell? ⟨b,o + j * 5,none⟩=some (.int .i64 7)) (h1:∀ j,j < n->w.cell? ⟨b,o + j * 5 + 1,none⟩=some (.string (bL (ss.getD j []))))
  (h2:∀ j,j < n->w.cell? ⟨b,o + j * 5 + 2,none⟩=some (.int .i64 0)) (h3:∀ j,j < n->w.cell? ⟨b,o + j * 5 + 3,none⟩=some (.int .i64 0)) (h4:∀ j,j < n->w.cell? ⟨b,o + j * 5 + 4,none⟩=some (.slice none 0 0)) :
  Calls Tryz.prog 88 #[.slice (some ⟨b,o,none⟩) n cap] w fun e w'=>e=.returned (.bool (zb1 ss))/\Below w.heap.size w w':=by
 have hmm:=@run_makeMap Tryz.prog
 go_enter Tryz.func88,Tryz.ntmps88
 go_wp2
 go_loopw [9] (fun i wr=>∃ k:Nat,k<=n/\i=.int .i64 k/\(ss.take k).Nodup/\(∃ D,Seen D (ss.take k)/\wr.ownsMap Tryz.prog 9 (plainElem Tryz.prog 4) w.heap.size k D)/\Below w.heap.size w wr)
  (fun i _=>n - (intOf i).toNat)
 case atStart=>exact ⟨0,Nat.zero_le _,rfl,by simp,⟨_,z0f,World.ownsMap_made _ _ _ _⟩,(Below.refl _ _).alloc (nR _) _⟩
 case round =>
  obtain ⟨k,hk,rfl,hnd,⟨D,hD,hown⟩,hnx⟩:=hrel;have c0:k < n->wr.cell? ⟨b,o + k * 5,none⟩=some (.int .i64 7):=fun h=>(hnx.cell (by exact hb)).trans (h0 k h)
  have c1:k < n->wr.cell? ⟨b,o + k * 5 + 1,none⟩=some (.string (bL (ss.getD k []))):=fun h=>(hnx.cell (by exact hb)).trans (h1 k h)
  have c2:k < n->wr.cell? ⟨b,o + k * 5 + 2,none⟩=some (.int .i64 0):=fun h=>(hnx.cell (by exact hb)).trans (h2 k h)
  have c3:k < n->wr.cell? ⟨b,o + k * 5 + 3,none⟩=some (.int .i64 0):=fun h=>(hnx.cell (by exact hb)).trans (h3 k h)
  have c4:k < n->wr.cell? ⟨b,o + k * 5 + 4,none⟩=some (.slice none 0 0):=fun h=>(hnx.cell (by exact hb)).trans (h4 k h)
  have hsk:∀ h:k < ss.length,(ss[k]).length<=maxLen:=fun h=>hsz _ (List.getElem_mem _)
  go_wp2_with (first
   | (at_lookup;refine zma _ rfl _ _ 121 rfl 9 4 z25 Tryz.underlying121 Tryz.underlying4 (by kernel_rfl) w.heap.size k D rfl (hown.alloc _) _ (.string ss[k]) rfl (z3j (hsk _)) (decide (ss[k] ∈ ss.take k)) (hD.at_ _) ?_)
   | (at_mapUpdate;refine wpList_mapUpdate_own _ rfl _ _ _ 121 rfl 9 4 z25 Tryz.underlying121 (plainElem (H:=Unit) Tryz.prog 4) w.heap.size k D rfl (hown.alloc _) (by omega) _ _ (.string ss[k]) rfl rfl (z3j (hsk _)) _ [] (plainElem_bool Tryz.underlying4 true) ?_;intro w1 hown1 hgrow1)
   | go_in)
  ·have hm:ss[k]'(by omega) ∈ List.take k ss:=by assumption
   have hf:zb1 ss=false:=z1t (by omega) hm
   go_ret
   exact ⟨by rw [hf];rfl,hnx.alloc hnx.size _⟩
  ·have hlt:k < n:=by assumption
   have hm:¬ ss[k]'(by omega) ∈ List.take k ss:=by assumption
   have htk:List.take (k + 1) ss=List.take k ss++[ss[k]'(by omega)]:=by rw [List.take_add_one,List.getElem?_eq_getElem (by omega)];rfl
   have hw:wrap64 ((k:Int) + 1)=((k + 1:Nat):Int):=by unfold maxLen at hn;unfold wrap64;omega
   refine ⟨⟨k + 1,hlt,by rw [hw],?_,⟨_,?_,hown1⟩,?_⟩,?_⟩
   ·rw [htk];exact zux hnd hm
   ·rw [htk];exact z0e hD _ trivial
   ·exact (hnx.alloc hnx.size _).grown hgrow1 (by have:=hnx.size;simp;omega) (fun j hj=>by cases hj;exact nR _)
   ·rw [hw];simp [intOf];omega
  ·have hkn:k=n:=by omega
   subst hkn;have hf:zb1 ss=true:=zn1 (by rw [<-hz,lTL] at hnd;exact hnd)
   go_ret
   exact ⟨by rw [hf];rfl,hnx⟩
theorem zo5 (a:Option Addr) (cap:Nat) (w:World):Calls Tryz.prog 88 #[.slice a 0 cap] w fun e w'=>e=.returned (.bool true)/\Below w.heap.size w w':=by
 have hmm:=@run_makeMap Tryz.prog
 go_enter Tryz.func88,Tryz.ntmps88
 go_wp2
 refine wp_loop_rounds 1 ?_;rw [rounds_succ]
 go_wp2
 go_ret
 exact ⟨rfl,(Below.refl _ _).alloc (nR _) _⟩
theorem zqa:∀ (ps:List PT) (i:Nat),(zae ps)[i]?=ps[i]?.map za8
 | [],i=>by rw [zae];simp
 | p :: ps,0=>by rw [zae];rfl
 | p :: ps,i + 1=>by rw [zae,List.getElem?_cons_succ,List.getElem?_cons_succ,zqa ps i]
theorem zsf (ps:List PT) (hp:∀ p ∈ ps,∃ s:Bs,s.length<=1000000/\p=ndN 7 s []) {R:List (List PV)} (hR:zae ps=R) (hl:ps.length<=1000000):V0 88 [.ro 5 R] (pB (zb1 (zdq ps))):=by
 subst hR;refine ⟨zyp Tryz.func88 rfl rfl,fun w B args _ hl2 hr=>?_⟩
 match args,hl2 with
 | [v],_ =>
  have h1:=hr 0 _ v rfl rfl;have hnl:(zdq ps).length=ps.length:=by unfold zdq;rw [lLM]
  have key:∀ (e:Ending) (w':World),e=.returned (.bool (zb1 (zdq ps)))/\Below w.heap.size w w'->Gr w w'/\zzq w' (fun b=>B b\/w.heap.size<=b) (pB (zb1 (zdq ps))) e:=fun e w' h=>⟨h.2,by rw [h.1];exact .ret (.v _)⟩
  have hrow:∀ i,i < ps.length->∃ s:Bs,(zdq ps).getD i []=s/\(zae ps)[i]?=some [pI 7,pS (bL s),pI 0,pI 0,.v (.slice none 0 0)]:=fun i hi=>by
   obtain ⟨s,_,hs⟩:=hp _ (List.getElem_mem hi);refine ⟨s,?_,?_⟩
   ·unfold zdq;rw [List.getD,List.getElem?_map,List.getElem?_eq_getElem hi,hs];rfl
   ·have:=zqa ps i
    rw [this,List.getElem?_eq_getElem hi,hs];rfl
  have hsz:∀ s ∈ zdq ps,s.length<=maxLen:=fun s hs=>by
   unfold zdq at hs;obtain ⟨p,hpm,rfl⟩:=List.mem_map.1 hs;obtain ⟨s,hs,rfl⟩:=hp p hpm;show s.length<=maxLen;unfold maxLen;omega
  have hplen:=zep ps;generalize zae ps=R at h1 hrow hplen
  cases h1 with
  | ro0 s A cap =>
   cases ps with
   | nil=>exact (zo5 A cap w).mono key
   | cons p ps=>simp at hplen
  | ro _ _ b o cap vs hR hb hcap hs hc hq' =>
   have cell:∀ j,j < ps.length->∃ s:Bs,(zdq ps).getD j []=s/\∀ q (x:PV),[pI 7,pS (bL s),pI 0,pI 0,.v (.slice none 0 0)][q]?=some x->∀ y,x=.v y->w.cell? ⟨b,o + (j * 5 + q),none⟩=some y:=fun j hj=>by
    obtain ⟨s,h2,h3⟩:=hrow j hj;refine ⟨s,h2,fun q x hq y hy=>?_⟩
    have h4:=hc j q _ x h3 hq;have h5:=hq' j q _ x h3 hq;subst hy
    cases h5
    exact h4.1
   rw [hplen];refine (zqp b o ps.length cap (zdq ps) w hnl (by unfold maxLen;omega) hb hsz (fun j hj=>?_) (fun j hj=>?_) (fun j hj=>?_) (fun j hj=>?_) (fun j hj=>?_)).mono key
   ·obtain ⟨s,h2,h3⟩:=cell j hj;exact h3 0 _ rfl _ rfl
   ·obtain ⟨s,h2,h3⟩:=cell j hj;rw [h2];exact h3 1 _ rfl _ rfl
   ·obtain ⟨s,h2,h3⟩:=cell j hj;exact h3 2 _ rfl _ rfl
   ·obtain ⟨s,h2,h3⟩:=cell j hj;exact h3 3 _ rfl _ rfl
   ·obtain ⟨s,h2,h3⟩:=cell j hj;exact h3 4 _ rfl _ rfl
/- Own work: the walk of names. -/
open Go.RowKit
def rNm:Option (List PT × Ts)->AV
 | none=>.p (.pan zcf)
 | some ([],_)=>.p (.v (.slice none 0 0))
 | some (_ :: ks,_)=>.osl 1 0 (ks.length + 1)
def hNm (toks:List Tk) (LR:List (List PV)) (c:Cx):Option (List PT × Ts)->AH
 | none=>[none]
 | some ([],l)=>[rdr LR (((toks.length:Nat):Int) - ((l.length:Nat):Int)) c]
 | some (k :: ks,l)=>[rdr LR (((toks.length:Nat):Int) - ((l.length:Nat):Int)) c,some (.rows 5 (zae (k :: ks)) 27)]
theorem z4n {toks:List Tk} {LR:List (List PV)} {c:Cx} {acc:List PT} {x:PT} {R R2:List (List PV)} {row:List PV} {N N2:Nat} {l:Ts} (h:zae acc=R) (hN:R.length=N) (hx:za8 x=row) (h2:R++[row]=R2) (hN2:N + 1=N2) :
  rNm (some (acc++[x],l))=.osl 1 0 N2/\hNm toks LR c (some (acc++[x],l))=[rdr LR (((toks.length:Nat):Int) - ((l.length:Nat):Int)) c,some (.rows 5 R2 27)]:=by
 have e:zae (acc++[x])=R2:=by rw [zc0,h,zae,zae,hx,h2]
 have el:(acc++[x]).length=N2:=by rw [lLA,<- zep,h,hN];exact hN2
 cases hc:acc++[x] with
 | nil=>simp at hc
 | cons y ys =>
  rw [hc] at e el;exact ⟨by show AV.osl 1 0 (ys.length + 1)=_;rw [<-el];rfl,by show [_,some (ABlk.rows 5 (zae (y :: ys)) _)]=_;rw [e]⟩
section
variable {n:Int} {toks:List Tk} {LR:List (List PV)} {a:Int} {l:Ts}
theorem AtP.txz (h:AtP n toks LR a l) (k:Nat):(tx l k).length<=1000000:=by
 unfold tx
 cases e:l[k]? with
 | none=>exact Nat.zero_le _
 | some t =>
  have hm:t ∈ toks:=by
   have:=List.mem_of_getElem? e
   rw [<-h.d] at this;exact List.mem_of_mem_drop this
  exact h.tz t hm
set_option maxHeartbeats 4000000 in
theorem z4q (h:AtP n toks LR a l) (c:Cx) {o:Option (List PT × Ts)} (ho:zay l=some o):MP 63 [.own 0 0] [rdr LR a c] (rNm o) (hNm toks LR c o):=by
 unfold zay at ho;obtain ⟨μ,hμ⟩:∃ μ:Int × Ts × List PT × List (List PV) × Nat->Nat,∀ x,μ x=x.2.1.length:=⟨_,fun _=>rfl⟩
 have hz:=h.z;have hzl:l.length<=1000000:=by have:=h.h1;have:=h.h0;omega
 obtain ⟨rr,hrr⟩:∃ rr,rNm o=rr:=⟨_,rfl⟩
 obtain ⟨HH,hHH⟩:∃ HH,hNm toks LR c o=HH:=⟨_,rfl⟩
 rw [hrr,hHH];refine zad zaa (f:=63) Tryz.func63 rfl (by kernel_rfl) (oT (by kernel_rfl)) fun tags htl=>?_
 match tags,htl with
 | [t0],_ =>
  refine Seg.ofM zaa mixed (fun _=>0) (fun _=>[]) (fun _ _=>0) (by kernel_rfl) (fun E=>za0 E tyT Tryz.f63.results.toList [t0] rr HH) fun P G E hc hM hE=>?_
  cbv;refine oE (zc1 h zbm c ho) (fun k0=>xE k0 fun bk0 k0=>?_) (fun k0=>?_)
  case' refine_2 =>
   refine .z [0] (hM _ _ _ _ _ (k0.2)) rfl rfl rfl ?_;cbv;have e0:=k0.1;subst e0;have e1:AV.p (.pan zcf)=rr:=hrr;have e2:[none]=HH:=hHH;subst e1 e2;cbv;all_goals trivial
  refine .z [0] (hM _ _ _ _ _ (k0.2.2.2.2)) rfl rfl rfl ?_;cbv;refine oE (zcm k0.1 zan c k0.2.1) (fun k1=>xE k1 fun bk1 k1=>?_) (fun k1=>?_)
  case' refine_1 =>
   refine .z [0] (hM _ _ _ _ _ (k1.2.2.2.2)) rfl rfl rfl ?_;cbv;have e0:=okE (k1.2.1);subst e0;have e1:AV.p (.v (.slice none 0 0))=rr:=hrr;have e2:[rdr LR bk1 c]=HH:=by rw [<-hHH];simp only [hNm,k1.1.place]
   subst e1 e2;cbv;all_goals trivial
  refine .z [0] (hM _ _ _ _ _ (k1.2.2)) rfl rfl rfl ?_;cbv;refine LoopA.wk (zrd (d:=3) 5 27 rfl) ?_;refine zbs 24 [0,3] 2 (fun x:Int × Ts × List PT × List (List PV) × Nat=>[.own 0 0,.osl 1 0 x.2.2.2.2]) (fun x=>[some (.box [.p (.ro 3 LR),.p (pI x.1),.p (pB c.fn),.p (pB c.lp),.p (pB c.gn),.p (pB c.as_)] 50 (some t0)),some (.rows 5 x.2.2.2.1 27)])
   (fun x=>AtP n toks LR x.1 x.2.1/\(∃ m,zcw m x.2.2.1 x.2.1=some o)/\x.2.2.2.2 + x.2.1.length<=l.length/\(zae x.2.2.1=x.2.2.2.1/\∀ p ∈ x.2.2.1,∃ s:Bs,s.length<=1000000/\p=ndN 7 s [])/\x.2.2.2.1.length=x.2.2.2.2) μ (bk0,List.drop 1 l,[],[],0) ⟨rfl,rfl,rfl,rfl,rfl⟩ ⟨k0.1,⟨_,k1.1⟩,by have:=k0.2.2.1;show 0 + (List.drop 1 l).length<=l.length;omega,⟨by rw [zae],fun p hp=>by cases hp⟩,rfl⟩ ?_
  rintro ⟨a1,l1,acc,R,N⟩ ⟨g1,⟨m,g2⟩,g3,⟨g4,g6⟩,g5⟩
  simp only at g1 g2 g3 g4 g5 g6
  cases m with
  | zero=>cases g2
  | succ m =>
   rw [zcw] at g2;cbv;refine oE (zuz g1 c g2) (fun k2=>xE k2 fun bk2 k2=>xE k2 fun Tk2 k2=>?_) (fun k2=>?_)
   case' refine_2 =>
    refine .z [0] (hM _ _ _ _ _ (k2.2)) rfl rfl rfl ?_;cbv;have e0:=k2.1;subst e0;have e1:AV.p (.pan zcf)=rr:=hrr;have e2:[none]=HH:=hHH;subst e1 e2;cbv;all_goals trivial
   refine .z [0] (hM _ _ _ _ _ (k2.2.2.2.2)) rfl rfl rfl ?_;have eT:=k2.2.2.2.1;refine xE (⟨_,rfl⟩:∃ R2,R++[[pI 7,pS Tk2,pI 0,pI 0,.v (.slice none 0 0)]]=R2) fun R2 hR2=>?_
   refine xE (⟨_,rfl⟩:∃ N2,N + 1=N2) fun N2 hN2=>?_
   have fA:=zv6 hE g5 (by omega) hR2 hN2
   have fA1:=fA.pre;have fA2:=fA.room;have fA3:=fA.add;have fA4:=fA.app;have fA5:=fA.pre2;have fA6:=fA.sub;have fA7:=fA.p1;have fA8:=fA.s1;cbv
   repeat (first|(refine ⟨fA7,fA1,fA2,?_⟩;cbv)|(simp only [fA8];cbv)|(simp only [fA3,fA4];cbv))
   have hrow:za8 (ndN 7 (tx l1 0) [])=[pI 7,pS Tk2,pI 0,pI 0,.v (.slice none 0 0)]:=by rw [ndN,za8,eT,zao]
   have g7:∀ p ∈ acc++[ndN 7 (tx l1 0) []],∃ s:Bs,s.length<=1000000/\p=ndN 7 s []:=fun p hp=>by
    rcases List.mem_append.1 hp with hp|hp
    ·exact g6 p hp
    ·exact ⟨_,g1.txz 0,List.mem_singleton.1 hp⟩
   have hR3:zae (acc++[ndN 7 (tx l1 0) []])=R2:=by rw [zc0,g4,zae,zae,hrow,hR2]
   refine oE (zcm k2.1 zan c k2.2.1) (fun k3=>xE k3 fun bk3 k3=>?_) (fun k3=>?_)
   case' refine_1 =>
    refine .z [0] (hM _ _ _ _ _ (k3.2.2.2.2)) rfl rfl rfl ?_;have hdis:=zsf (acc++[ndN 7 (tx l1 0) []]) g7 hR3 (by rw [<-zep,hR3,<- hR2,lLA,g5];show N + 1<=1000000;have:=k2.2.2.1;have:=k3.2.2.1;omega)
    cbv;simp only [fA6];cbv;refine oE (zm2 k3.2.1) (fun k4=>?_) (fun k4=>?_)
    case' refine_1 =>
     rw [k4.1] at hdis;refine .inl ⟨fA5,_,hc _ _ _ (upL hdis),?_⟩;have e0:=okE k4.2;subst e0;have hK:=z4n (toks:=toks) (LR:=LR) (c:=c) (l:=List.drop 1 (List.drop 1 l1)) g4 g5 hrow hR2 hN2;have e1:AV.osl 1 0 N2=rr:=by rw [<-hrr,hK.1]
     have e2:[rdr LR bk3 c,some (.rows 5 R2 27)]=HH:=by rw [<-hHH,hK.2,k3.1.place]
     subst e1 e2;cbv;all_goals trivial
    rw [show zb1 (zdq (acc++[ndN 7 (tx l1 0) []]))=false by simpa using k4.1] at hdis
    refine .inl ⟨fA5,_,hc _ _ _ (upL hdis),?_⟩;cbv;refine .z [0] (hM _ _ _ _ _ (upM (zch LR bk3 c))) rfl rfl rfl ?_;cbv;have e0:=zey k4.2;subst e0;have e1:AV.p (.pan zcf)=rr:=hrr;have e2:[none]=HH:=hHH;subst e1 e2;cbv;all_goals trivial
   refine .z [0] (hM _ _ _ _ _ (k3.2.2)) rfl rfl rfl ?_;cbv;refine oE (zc1 k2.1 zcv c k3.1) (fun k4=>xE k4 fun bk4 k4=>?_) (fun k4=>?_)
   case' refine_2 =>
    refine .z [0] (hM _ _ _ _ _ (k4.2)) rfl rfl rfl ?_;cbv;have e0:=k4.1;subst e0;have e1:AV.p (.pan zcf)=rr:=hrr;have e2:[none]=HH:=hHH;subst e1 e2;cbv;all_goals trivial
   refine .z [0] (hM _ _ _ _ _ (k4.2.2.2.2)) rfl rfl rfl ?_;cbv;exact .mk (bk4,List.drop 1 (List.drop 1 l1),acc++[ndN 7 (tx l1 0) []],R2,N2) ⟨rfl,rfl,rfl,rfl,rfl⟩ ⟨k4.1,⟨m,k4.2.1⟩,by show N2 + (List.drop 1 (List.drop 1 l1)).length<=l.length;have:=k4.2.2.1;have:=k2.2.2.1;omega,⟨hR3,g7⟩,by show R2.length=N2;rw [<-hR2,lLA,g5];exact hN2⟩ (by rw [hμ,hμ];show (List.drop 1 (List.drop 1 l1)).length < l1.length;have:=k4.2.2.1;have:=k2.2.2.1;omega)
end
/- Own work: the walk of function. -/
section
variable {n:Int} {toks:List Tk} {LR:List (List PV)} {l:Ts}
theorem znt:∀ (m:Nat) (acc:List PT) (l:Ts) {ps:List PT} {l':Ts},zcw m acc l=some (some (ps,l'))->ps.length + l'.length<=acc.length + l.length
 | 0,_,_,_,_,h=>by cases h
 | m + 1,acc,l,ps,l',h=>by
  rw [zcw] at h;unfold zb3 at h
  split at h
  ·rename_i hk;have hp:=zaw hk (by decide)
   simp only at h
   split at h
   ·split at h
    ·cases h
     simp only [lLA,lLD,lLS];omega
    ·cases h
   ·unfold zap at h
    split at h
    ·have:=znt m _ _ h
     simp only [lLA,lLD,lLS] at this;omega
    ·cases h
  ·cases h
theorem zuy {l:Ts} {ps:List PT} {l':Ts} (h:zay l=some (some (ps,l'))):ps.length + l'.length<=l.length:=by
 unfold zay zap at h
 split at h
 ·simp only at h
  split at h
  ·cases h
   simp only [lLD,List.length_nil];omega
  ·have:=znt _ _ _ h
   simp only [lLD,List.length_nil] at this;omega
 ·cases h
theorem z2z {a:Int} {β:Type} {o:Option (β × Ts)} (h:AtP n toks LR a l) (c:Cx) {K:List PT->Ts->Re β} (ho:bnd (zay l) K=some o) :
  (∃ l' b,AtP n toks LR b l'/\K [] l'=some o/\l'.length < l.length/\MP 63 [.own 0 0] [rdr LR a c] (.p (.v (.slice none 0 0))) [rdr LR b c]) ∨
   (∃ p ps l' b R N,AtP n toks LR b l'/\K (p :: ps) l'=some o/\l'.length < l.length/\zae (p :: ps)=R/\R.length=N/\N<=1000000/\MP 63 [.own 0 0] [rdr LR a c] (.osl 1 0 N) [rdr LR b c,some (.rows 5 R 27)]) ∨
   (o=none/\MP 63 [.own 0 0] [rdr LR a c] (.p (.pan zcf)) [none]):=by
 obtain ⟨o',ho',hP⟩:=zcu l;have hm:=z4q h c ho';rw [ho'] at ho
 cases o' with
 | none=>cases ho;exact .inr (.inr ⟨rfl,hm⟩)
 | some q =>
  obtain ⟨ps,l'⟩:=q;have h1:=hP ps l' rfl
  cases ps with
  | nil=>exact .inl ⟨l',_,h.suf h1.1,ho,h1.2,hm⟩
  | cons p ps =>
   refine .inr (.inl ⟨p,ps,l',_,_,_,h.suf h1.1,ho,h1.2,rfl,rfl,?_,?_⟩)
   ·have:=zuy ho'
    have h2:=h.h1;have h3:=h.z;have h4:=h.h0;rw [zep];simp only [lLC] at this ⊢;omega
   ·rw [zep];exact hm
def fn3 (o:Int) (nm:Bs) (l3:Ts):Re Rv:=bnd (zay l3) fun ps l4=>ndR (ev (.block (zaj o) l4)) fun b l5=>okR (.nd (.mk 11 nm 0 o (ps++[b]))) l5
def fn2 (d:Bool) (o:Int) (l2:Ts):Re Rv:=if d || decide (kd l2 0=1) then zb3 l2 (fn3 o) else fn3 o [] l2
theorem fn_eq {d:Bool} {c:Cx} {l:Ts}:ze1 ev d c l=if isT l 0 zat then zap za5 (l.drop 1) (fun l1=>fn2 d 4 l1) else zap za5 l fun l1=>if isT l1 0 zb0 then fn2 d 3 (l1.drop 1) else fn2 d 1 l1:=by
 unfold ze1
 cases isT l 0 zat with
 | true=>rfl
 | false =>
  show (if isT l 0 za5=true then _ else _)=(if isT l 0 za5=true then _ else _)
  split
  ·simp only [Bool.false_eq_true,if_false]
   cases isT (List.drop 1 l) 0 zb0 <;> rfl
  ·rfl
theorem z5p (d:Bool):d=true\/d=false:=by cases d <;> simp
theorem fn_d (o:Int) (l2:Ts):fn2 true o l2=zb3 l2 (fn3 o):=rfl
theorem fn_e (o:Int) (l2:Ts):fn2 false o l2=if kd l2 0=1 then zb3 l2 (fn3 o) else fn3 o [] l2:=by unfold fn2;simp
set_option maxHeartbeats 4000000 in
theorem zyi {c:Cx} {d:Bool} (ih:∀ s':Sy,s'.meas < (Sy.func d c l).meas->zd0 n toks LR s'):zd0 n toks LR (.func d c l):=by
 intro f hf a h o ho
 cases hf
 rw [zac] at ho;change ze1 ev d c l=some o at ho;unfold ze1 at ho;change AtP n toks LR a l at h;show MP _ (.own 0 0 :: [.p (pB d)]) [rdr LR a c] (rOf o) (hOf toks LR c o);have hfe:ze1 ev d c l=_:=fn_eq;unfold ze1 at hfe;rw [hfe] at ho;refine zad zaa (f:=41) Tryz.func41 rfl (by kernel_rfl) (oT (by kernel_rfl)) fun tags htl=>?_
 match tags,htl with
 | [t0],_ =>
  refine Seg.cutKM 5 56 [0,1,4,5] 3 (fun x:Int × Ts × Int=>[.own 0 0,.p (pB d),.own 1 0,.own 2 0]) (fun x=>[some (.box [.p (.ro 3 LR),.p (pI x.1),.p (pB c.fn),.p (pB c.lp),.p (pB c.gn),.p (pB c.as_)] 50 (some t0)),some (.box [.p (pI 0),.p (pS ⟨#[]⟩),.p (pI 0),.p (pI 0),.p (.v (.slice none 0 0))] 27 none),some (.box [.p (pI 11),.p (pS ⟨#[]⟩),.p (pI 0),.p (pI (x.2.2)),.p (.v (.slice none 0 0))] 27 none)]) (fun x=>AtP n toks LR x.1 x.2.1/\fn2 d x.2.2 x.2.1=some o/\x.2.1.length < l.length) zaa mixed (fun _=>0) (fun _=>[]) (fun _ _=>0) (fun E=>za0 E tyT Tryz.f41.results.toList [t0] (rOf o) (hOf toks LR c o)) (by kernel_rfl) (fun P G E hc hM hE=>?_) ?_
  case' refine_1 =>
   have fO:=zje hE;have sb1:=fO.s1;have sb2:=fO.s2;have sb3:=fO.s3;have ap2:=fO.a2;have ap3:=fO.a3;have an2:=fO.n2;have an3:=fO.n3;have rm:=fun k m b h1 h2=>fO.room k m b h1 h2
   have pr:=fun k rs h=>fO.pre k rs h
   cbv;refine oE (zcm h zat c ho) (fun k1=>xE k1 fun bk1 k1=>?_) (fun k1=>?_)
   case' refine_1 =>
    refine .z [0] (hM _ _ _ _ _ (k1.2.2.2.2)) rfl rfl rfl ?_;cbv;refine oE (zc1 k1.1 za5 c k1.2.1) (fun k2=>xE k2 fun bk2 k2=>?_) (fun k2=>?_)
    case' refine_2 =>
     refine .z [0] (hM _ _ _ _ _ (k2.2)) rfl rfl rfl ?_;cbv;have e0:=k2.1;subst e0;cbv;all_goals trivial
    refine .z [0] (hM _ _ _ _ _ (k2.2.2.2.2)) rfl rfl rfl ?_;cbv;exact .mk ((bk2,((l.drop 1).drop 1),4)) ⟨rfl,rfl,rfl,rfl,rfl⟩ (⟨k2.1,k2.2.1,Nat.lt_trans k2.2.2.1 k1.2.2.1⟩)
   refine .z [0] (hM _ _ _ _ _ (k1.2.2)) rfl rfl rfl ?_;cbv;refine oE (zc1 h za5 c k1.1) (fun k3=>xE k3 fun bk3 k3=>?_) (fun k3=>?_)
   case' refine_2 =>
    refine .z [0] (hM _ _ _ _ _ (k3.2)) rfl rfl rfl ?_;cbv;have e0:=k3.1;subst e0;cbv;all_goals trivial
   refine .z [0] (hM _ _ _ _ _ (k3.2.2.2.2)) rfl rfl rfl ?_;cbv;refine oE (zcm k3.1 zb0 c k3.2.1) (fun k4=>xE k4 fun bk4 k4=>?_) (fun k4=>?_)
   case' refine_1 =>
    refine .z [0] (hM _ _ _ _ _ (k4.2.2.2.2)) rfl rfl rfl ?_;cbv;exact .mk ((bk4,((l.drop 1).drop 1),3)) ⟨rfl,rfl,rfl,rfl,rfl⟩ (⟨k4.1,k4.2.1,Nat.lt_trans k4.2.2.1 k3.2.2.1⟩)
   refine .z [0] (hM _ _ _ _ _ (k4.2.2)) rfl rfl rfl ?_;cbv;exact .mk ((bk3,(l.drop 1),1)) ⟨rfl,rfl,rfl,rfl,rfl⟩ (⟨k3.1,k4.1,k3.2.2.1⟩)
  rintro ⟨a0,l0,oo⟩ ⟨h0,ho0,hl0⟩
  simp only at h0 ho0 hl0;refine Seg.cutKM 1 56 [0,4,5] 3 (fun x:Int × Ts × Bs × ByteArray=>[.own 0 0,.own 1 0,.own 2 0]) (fun x=>[some (.box [.p (.ro 3 LR),.p (pI x.1),.p (pB c.fn),.p (pB c.lp),.p (pB c.gn),.p (pB c.as_)] 50 (some t0)),some (.box [.p (pI 0),.p (pS ⟨#[]⟩),.p (pI 0),.p (pI 0),.p (.v (.slice none 0 0))] 27 none),some (.box [.p (pI 11),.p (pS x.2.2.2),.p (pI 0),.p (pI (oo)),.p (.v (.slice none 0 0))] 27 none)]) (fun x=>AtP n toks LR x.1 x.2.1/\fn3 oo x.2.2.1 x.2.1=some o/\x.2.1.length<=l0.length/\bL x.2.2.1=x.2.2.2) zaa mixed (fun _=>0) (fun _=>[]) (fun _ _=>0) (fun E=>za0 E tyT Tryz.f41.results.toList [t0] (rOf o) (hOf toks LR c o)) (by kernel_rfl) (fun P G E hc hM hE=>?_) ?_
  case' refine_1 =>
   have fO:=zje hE;have sb1:=fO.s1;have sb2:=fO.s2;have sb3:=fO.s3;have ap2:=fO.a2;have ap3:=fO.a3;have an2:=fO.n2;have an3:=fO.n3;have rm:=fun k m b h1 h2=>fO.room k m b h1 h2
   have pr:=fun k rs h=>fO.pre k rs h
   cbv;simp only [sb1,sb2,sb3];cbv;refine oE (z5p d) (fun e=>?_) (fun e=>?_)
   case' refine_1 =>
    subst e;cbv;have hk5:=ho0;rw [fn_d] at hk5;refine oE (zuz h0 c hk5) (fun k6=>xE k6 fun bk6 k6=>xE k6 fun Tk6 k6=>?_) (fun k6=>?_)
    case' refine_2 =>
     refine .z [0] (hM _ _ _ _ _ (k6.2)) rfl rfl rfl ?_;cbv;have e0:=k6.1;subst e0;cbv;all_goals trivial
    refine .z [0] (hM _ _ _ _ _ (k6.2.2.2.2)) rfl rfl rfl ?_;cbv;exact .mk ((bk6,(l0.drop 1),tx l0 0,_)) ⟨rfl,rfl,rfl,rfl,rfl⟩ (⟨k6.1,k6.2.1,Nat.le_of_lt k6.2.2.1,k6.2.2.2.1⟩)
   subst e;cbv;have hk7:=ho0;rw [fn_e] at hk7;refine xE (ziq h0 0 (by decide) c) fun Kk8 k8=>xE k8 fun Tk8 k8=>xE k8 fun zk8 k8=>?_
   refine .z [0] (hM _ _ _ _ _ (k8.2.2)) rfl rfl rfl ?_;cbv;refine oE (zm2 (hk7)) (fun k9=>?_) (fun k9=>?_)
   case' refine_1 =>
    have ek9:decide (Kk8=1)=true:=by rw [<-k8.1];exact dT k9.1
    cbv;simp only [ek9];cbv;refine oE (zuz h0 c k9.2) (fun k10=>xE k10 fun bk10 k10=>xE k10 fun Tk10 k10=>?_) (fun k10=>?_)
    case' refine_2 =>
     refine .z [0] (hM _ _ _ _ _ (k10.2)) rfl rfl rfl ?_;cbv;have e0:=k10.1;subst e0;cbv;all_goals trivial
    refine .z [0] (hM _ _ _ _ _ (k10.2.2.2.2)) rfl rfl rfl ?_;cbv;exact .mk ((bk10,(l0.drop 1),tx l0 0,_)) ⟨rfl,rfl,rfl,rfl,rfl⟩ (⟨k10.1,k10.2.1,Nat.le_of_lt k10.2.2.1,k10.2.2.2.1⟩)
   have ek9:decide (Kk8=1)=false:=by rw [<-k8.1];exact dF k9.1
   cbv;simp only [ek9];cbv;exact .mk ((a0,l0,[],_)) ⟨rfl,rfl,rfl,rfl,rfl⟩ (⟨h0,k9.2,nR _,rfl⟩)
  rintro ⟨a1,l1,nm,TT⟩ ⟨h1,ho1,hl1,hnm⟩
  simp only at h1 ho1 hl1 hnm;unfold fn3 at ho1;obtain ⟨c2,hc2⟩:∃ c2,zaj oo=c2:=⟨_,rfl⟩
  rw [hc2] at ho1;have hw:=upL (znb oo);rw [hc2] at hw;refine Seg.ofM zaa mixed (fun n=>match n with|12=>5|_=>0) (fun n=>match n with|12=>[3]|_=>[]) (fun n i=>match n,i with|12,3=>1|12,4=>1|_,_=>0) (by kernel_rfl) (fun E=>za0 E tyT Tryz.f41.results.toList [t0] (rOf o) (hOf toks LR c o)) fun P G E hc hM hE=>?_
  have fO:=zje hE;have sb1:=fO.s1;have sb2:=fO.s2;have sb3:=fO.s3;have ap2:=fO.a2;have ap3:=fO.a3;have an2:=fO.n2;have an3:=fO.n3;have rm:=fun k m b h1 h2=>fO.room k m b h1 h2
  have pr:=fun k rs h=>fO.pre k rs h
  cbv;refine oE (z2z h1 c (ho1)) (fun k11=>xE k11 fun lk11 k11=>xE k11 fun bk11 k11=>?_) (fun k11=>oE k11 (fun k11=>xE k11 fun pk11 k11=>xE k11 fun psk11 k11=>xE k11 fun lk11 k11=>xE k11 fun bk11 k11=>xE k11 fun Rk11 k11=>xE k11 fun Nk11 k11=>?_) (fun k11=>?_))
  case' refine_3 =>
   refine .z [0] (hM _ _ _ _ _ (k11.2)) rfl rfl rfl ?_;cbv;have e0:=k11.1;subst e0;cbv;all_goals trivial
  case' refine_1 =>
   refine .z [0] (hM _ _ _ _ _ (k11.2.2.2)) rfl rfl rfl ?_;cbv;simp only [sb1,sb2,sb3];cbv;refine ⟨_,hc _ _ _ hw,?_⟩;cbv;refine oE (ndS (L:=lk11) (c:=c2) (ih (.block c2 lk11) (by simp only [Sy.meas,Sy.l,Sy.rank];omega)) rfl rfl rfl rfl rfl rfl k11.1 k11.2.1) (fun k12=>xE k12 fun xk12 k12=>xE k12 fun lk12 k12=>xE k12 fun bk12 k12=>xE k12 fun q1k12 k12=>xE k12 fun q2k12 k12=>xE k12 fun q3k12 k12=>xE k12 fun q4k12 k12=>xE k12 fun q5k12 k12=>?_) (fun k12=>?_)
   case' refine_2 =>
    refine Or.inr ?_;refine .mk [0] _ _ _ _ (hM _ _ _ _ _ (k12.2)) rfl rfl rfl _ rfl ?_;cbv;have e0:=k12.1;subst e0;cbv;all_goals trivial
   refine Or.inl ?_;refine ⟨.mk trivial,?_⟩;refine .mk [0] _ _ _ _ (hM _ _ _ _ _ (k12.2.2.2.2)) rfl rfl rfl rfl ?_;cbv;have ok12:=k12.2.2.2.1.one;cbv at ok12;cbv;simp only [ok12];cbv;refine ⟨.mk (by repeat' (first|exact trivial|refine ⟨rfl,?_⟩)),?_⟩
   cbv;refine ⟨(rm _ _ _ (by decide) (by decide)),?_⟩;cbv
   have e0:=okE (k12.2.1);subst e0;simp only [k12.1.place,nd,ndN,ndO,za8,zao,zae,lCA,lNA,hnm,k12.2.2.2.1.row];cbv
   repeat (first|(refine ⟨(pr _ _ rfl),?_⟩;cbv)|(simp only [sb1,sb2,sb3];cbv))
   all_goals trivial
  refine .z [0] (hM _ _ _ _ _ (k11.2.2.2.2.2.2)) rfl rfl rfl ?_;cbv;simp only [sb1,sb2,sb3];cbv;refine ⟨_,hc _ _ _ hw,?_⟩;cbv;refine oE (ndS (L:=lk11) (c:=c2) (ih (.block c2 lk11) (by simp only [Sy.meas,Sy.l,Sy.rank];omega)) rfl rfl rfl rfl rfl rfl k11.1 k11.2.1) (fun k13=>xE k13 fun xk13 k13=>xE k13 fun lk13 k13=>xE k13 fun bk13 k13=>xE k13 fun q1k13 k13=>xE k13 fun q2k13 k13=>xE k13 fun q3k13 k13=>xE k13 fun q4k13 k13=>xE k13 fun q5k13 k13=>?_) (fun k13=>?_)
  case' refine_2 =>
   refine Or.inr ?_;refine .mk [0] _ _ _ _ (hM _ _ _ _ _ (k13.2)) rfl rfl rfl _ rfl ?_;cbv;have e0:=k13.1;subst e0;cbv;all_goals trivial
  refine Or.inl ?_;refine ⟨.mk trivial,?_⟩;refine .mk [0] _ _ _ _ (hM _ _ _ _ _ (k13.2.2.2.2)) rfl rfl rfl rfl ?_;cbv;have ok13:=k13.2.2.2.1.one;cbv at ok13;refine xE (⟨_,rfl⟩:∃ R2,Rk11++[[pI q1k13,pS q4k13,pI q2k13,pI q3k13,q5k13]]=R2) fun R2 hR2=>?_
  refine xE (⟨_,rfl⟩:∃ N2,Nk11 + 1=N2) fun N2 hN2=>?_
  have fA:=zv6 hE (k11.2.2.2.2.1) (k11.2.2.2.2.2.1) hR2 hN2;have fA1:=fA.pre;have fA2:=fA.room;have fA3:=fA.add;have fA4:=fA.app;have fA5:=fA.pre2;have fA6:=fA.sub;have fA7:=fA.p1;have fA8:=fA.s1;cbv;simp only [ok13];cbv;refine ⟨.mk (by repeat' (first|exact trivial|refine ⟨rfl,?_⟩)),?_⟩
  cbv
  repeat (first|(refine ⟨fA1,fA2,?_⟩;cbv)|(simp only [fA3,fA4];cbv))
  have e0:=okE (k13.2.1);subst e0;have hrow:za8 (xk13)=[pI q1k13,pS q4k13,pI q2k13,pI q3k13,q5k13]:=by (simp only [nd,ndN,ndO,za8,zao,zae,hnm,k13.2.2.2.1.row]) <;> rfl
  have hK:=zea (k11.2.2.2.1) hrow hR2;simp only [nd,ndN,ndO,lCA] at hK;simp only [k13.1.place,nd,ndN,ndO,za8,hK,lCA,lNA,hnm,k13.2.2.2.1.row];cbv
  repeat (first|(refine ⟨fA5,?_⟩;cbv)|(simp only [fA6];cbv))
  all_goals trivial
end
end Go.Proofs.YtcfecmeocimclaaGreatDoor

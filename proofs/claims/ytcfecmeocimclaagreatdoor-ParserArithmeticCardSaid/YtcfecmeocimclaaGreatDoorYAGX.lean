/- Own work,plain: the parser of scripts,as a function over lists of tokens. -/
import Derived.Test.YtcfecmeocimclaaGreatDoorYAA0
import Derived.Test.YtcfecmeocimclaaGreatDoorYAGP
namespace Go.Proofs.YtcfecmeocimclaaGreatDoor
set_option linter.unusedSimpArgs false
set_option linter.unusedVariables false
set_option linter.unusedSectionVars false
inductive PT where
 | mk (k:Int) (nm:Bs) (i o:Int) (ks:List PT)
def PT.kind:PT->Int
 | .mk k _ _ _ _=>k
def nd (k:Int) (ks:List PT):PT:=.mk k [] 0 0 ks
def ndN (k:Int) (nm:Bs) (ks:List PT):PT:=.mk k nm 0 0 ks
def ndO (k o:Int) (ks:List PT):PT:=.mk k [] 0 o ks
abbrev Ts:=List Tk
structure Cx where
 fn:Bool
 lp:Bool
 gn:Bool
 as_:Bool
def kd (l:Ts) (n:Nat):Int:=match l[n]? with
 | some t=>t.k
 | none=>0
def tx (l:Ts) (n:Nat):Bs:=match l[n]? with
 | some t=>t.t
 | none=>[]
def isT (l:Ts) (n:Nat) (s:Bs):Bool:=decide (tx l n=s) && (decide (kd l n=2) || decide (kd l n=5))
def zfh:Bs:=[108,101,116]
def zax:Bs:=[99,111,110,115,116]
def za5:Bs:=[102,117,110,99,116,105,111,110]
def zat:Bs:=[97,115,121,110,99]
def wIf:Bs:=[105,102]
def zuf:Bs:=[101,108,115,101]
def znf:Bs:=[119,104,105,108,101]
def wFor:Bs:=[102,111,114]
def wOf:Bs:=[111,102]
def zn5:Bs:=[114,101,116,117,114,110]
def zpy:Bs:=[98,114,101,97,107]
def zdj:Bs:=[99,111,110,116,105,110,117,101]
def zsy:Bs:=[116,104,114,111,119]
def wTry:Bs:=[116,114,121]
def znh:Bs:=[99,97,116,99,104]
def zfj:Bs:=[102,105,110,97,108,108,121]
def zne:Bs:=[121,105,101,108,100]
def zni:Bs:=[97,119,97,105,116]
def z6g:Bs:=[110,101,119]
def zks:Bs:=[117,110,100,101,102,105,110,101,100]
def zpx:Bs:=[110,117,108,108]
def zpu:Bs:=[116,114,117,101]
def zkt:Bs:=[102,97,108,115,101]
def zpv:Bs:=[116,104,105,115]
def zbm:Bs:=[40]
def zan:Bs:=[41]
def zng:Bs:=[91]
def zpm:Bs:=[93]
def zg3:Bs:=[123]
def zsz:Bs:=[125]
def zbo:Bs:=[59]
def zcv:Bs:=[44]
def wDot:Bs:=[46]
def wEq:Bs:=[61]
def zf3:Bs:=[61,62]
def zb0:Bs:=[42]
def zpw:Bs:=[63]
def zid:Bs:=[58]
def zrv:List Bs:=[[],[45],[33],[43],[116,121,112,101,111,102],[100,101,108,101,116,101],[43],[45],[42],[47],[37],[61,61],[33,61],[61,61,61],[33,61,61],[60],[60,61],[62],[62,61],[105,110],[105,110,115,116,97,110,99,101,111,102],[38,38],[124,124],[63,63],[61],[43,61],[45,61],[42,61],[43,43],[45,45]]
def zbz (s:Bs) (fr:Nat) (cnt:Nat):Int:=match (List.range cnt).find? (fun j=>decide (zrv[fr + j]?=some s)) with
 | some j=>((fr + j:Nat):Int)
 | none=>0
abbrev Re (α:Type):=Option (Option (α × Ts))
def bnd {α β:Type} (x:Re α) (k:α->Ts->Re β):Re β:=match x with
 | none=>none
 | some none=>some none
 | some (some (a,l))=>k a l
def okR {α:Type} (a:α) (l:Ts):Re α:=some (some (a,l))
def zdh {α:Type}:Re α:=some none
def zap {β:Type} (s:Bs) (l:Ts) (k:Ts->Re β):Re β:=if isT l 0 s then k (l.drop 1) else zdh
def zb3 {β:Type} (l:Ts) (k:Bs->Ts->Re β):Re β:=if kd l 0=1 then k (tx l 0) (l.drop 1) else zdh
inductive Rv where
 | nd (n:PT)
 | nb (n:PT) (b:Bool)
 | ls (l:List PT)
def ndR {β:Type} (x:Re Rv) (k:PT->Ts->Re β):Re β:=bnd x fun v l=>match v with
 | .nd n=>k n l
 | _=>none
def nbR {β:Type} (x:Re Rv) (k:PT->Bool->Ts->Re β):Re β:=bnd x fun v l=>match v with
 | .nb n b=>k n b l
 | _=>none
def lsR {β:Type} (x:Re Rv) (k:List PT->Ts->Re β):Re β:=bnd x fun v l=>match v with
 | .ls n=>k n l
 | _=>none
inductive Sy where
 | stmt (c:Cx) (l:Ts)
 | keyw (c:Cx) (l:Ts)
 | condn (c:Cx) (l:Ts)
 | inner (c:Cx) (l:Ts)
 | body (c:Cx) (l:Ts)
 | loops (c:Cx) (l:Ts)
 | tryS (c:Cx) (l:Ts)
 | decl (c:Cx) (l:Ts)
 | declL (k:Int) (acc:List PT) (c:Cx) (l:Ts)
 | block (c:Cx) (l:Ts)
 | blockL (acc:List PT) (c:Cx) (l:Ts)
 | func (d:Bool) (c:Cx) (l:Ts)
 | arrow (c:Cx) (l:Ts)
 | assign (c:Cx) (l:Ts)
 | cond (c:Cx) (l:Ts)
 | opnd (k:Nat) (c:Cx) (l:Ts)
 | opndL (k:Nat) (n:PT) (c:Cx) (l:Ts)
 | unary (c:Cx) (l:Ts)
 | postf (c:Cx) (l:Ts)
 | link (n:PT) (c:Cx) (l:Ts)
 | chain (c:Cx) (l:Ts)
 | chainN (n:PT) (c:Cx) (l:Ts)
 | chainL (n:PT) (c:Cx) (l:Ts)
 | list2 (e:Bs) (c:Cx) (l:Ts)
 | list2L (e:Bs) (acc:List PT) (c:Cx) (l:Ts)
 | prim (c:Cx) (l:Ts)
 | fields (c:Cx) (l:Ts)
 | fieldsL (acc:List PT) (c:Cx) (l:Ts)
 | field (c:Cx) (l:Ts)
def zbj (l:Ts):Bool:=isT l 0 zfh || (isT l 0 zax || (isT l 0 za5 || (isT l 0 zat && isT l 1 za5)))
def zdq (l:List PT):List Bs:=l.map fun|.mk _ nm _ _ _=>nm
def zb1:List Bs->Bool
 | []=>true
 | x :: l=>!l.contains x && zb1 l
def zcw:Nat->List PT->Ts->Re (List PT)
 | 0,_,_=>none
 | n + 1,acc,l=>zb3 l fun s l1=>if isT l1 0 zan then (if zb1 (zdq (acc++[ndN 7 s []])) then okR (acc++[ndN 7 s []]) (l1.drop 1) else zdh) else zap zcv l1 fun l2=>zcw n (acc++[ndN 7 s []]) l2
def zay (l:Ts):Re (List PT):=zap zbm l fun l1=>if isT l1 0 zan then okR [] (l1.drop 1) else zcw (l1.length + 1) [] l1
def zef (l:Ts):Nat->Nat->Option Nat
 | 0,_=>none
 | m + 1,n=>if kd l n=1 then (if isT l (n + 1) zcv then (if kd l (n + 2)=1 then zef l m (n + 2) else none) else some (n + 1)) else some n
def zbh (l:Ts):Nat :=
 if kd l (if isT l 0 zat then 1 else 0)=1 then (if isT l ((if isT l 0 zat then 1 else 0) + 1) zf3 then (if isT l 0 zat then 1 else 0) + 1 else 0)
 else if isT l (if isT l 0 zat then 1 else 0) zbm then (match zef l (l.length + 1) ((if isT l 0 zat then 1 else 0) + 1) with
  | some n=>if isT l n zan && isT l (n + 1) zf3 then n + 1 else 0
  | none=>0)
 else 0
def zaj (o:Int):Cx:=⟨true,false,decide (o=3),decide (o=4) || decide (o=5)⟩
def zlv (n:PT):Bool:=decide (n.kind=7) || (decide (n.kind=18) || decide (n.kind=19))
def zzv (k:Nat):Nat × Nat:=match k with
 | 0=>(22,2)
 | 1=>(21,1)
 | 2=>(11,4)
 | 3=>(15,6)
 | 4=>(6,2)
 | _=>(8,3)
section
variable (R:Sy->Re Rv)
def zgo (c:Cx) (l:Ts):Re Rv:=ndR (R (.assign c l)) fun n l1=>zap zbo l1 fun l2=>okR (.nd (nd 26 [n])) l2
def ze0 (c:Cx) (l:Ts):Re Rv :=
 if isT l 0 zfh || isT l 0 zax then ndR (R (.decl c l)) fun n l1=>zap zbo l1 fun l2=>okR (.nd n) l2
 else if zbj l then R (.func true c l)
 else if isT l 0 zg3 then R (.block c l)
 else if isT l 0 zbo then okR (.nd (nd 37 [])) (l.drop 1)
 else if kd l 0=2 then nbR (R (.keyw c l)) fun n b l1=>if b then okR (.nd n) l1 else zgo R c l1
 else zgo R c l
def zf9 (c:Cx) (l:Ts):Re Rv :=
 if isT l 0 wIf then ndR (R (.condn c (l.drop 1))) fun e l1=>ndR (R (.inner c l1)) fun a l2=>if isT l2 0 zuf then ndR (R (.inner c (l2.drop 1))) fun b l3=>okR (.nb (nd 28 [e,a,b]) true) l3 else okR (.nb (nd 28 [e,a]) true) l2
 else if isT l 0 znf then ndR (R (.condn c (l.drop 1))) fun e l1=>ndR (R (.body c l1)) fun a l2=>okR (.nb (nd 29 [e,a]) true) l2
 else if isT l 0 wFor then ndR (R (.loops c (l.drop 1))) fun n l1=>okR (.nb n true) l1
 else if isT l 0 zn5 then (if c.fn then (if isT l 1 zbo then okR (.nb (nd 32 []) true) (l.drop 2) else ndR (R (.assign c (l.drop 1))) fun n l1=>zap zbo l1 fun l2=>okR (.nb (nd 32 [n]) true) l2) else zdh)
 else if isT l 0 zpy || isT l 0 zdj then (if c.lp then zap zbo (l.drop 1) fun l1=>okR (.nb (nd (if isT l 0 zdj then 34 else 33) []) true) l1 else zdh)
 else if isT l 0 zsy then ndR (R (.assign c (l.drop 1))) fun n l1=>zap zbo l1 fun l2=>okR (.nb (nd 35 [n]) true) l2
 else if isT l 0 wTry then ndR (R (.tryS c (l.drop 1))) fun n l1=>okR (.nb n true) l1
 else okR (.nb (nd 0 []) false) l
def zfa (c:Cx) (l:Ts):Re Rv:=zap zbm l fun l1=>ndR (R (.assign c l1)) fun n l2=>zap zan l2 fun l3=>okR (.nd n) l3
def zd2 (c:Cx) (l:Ts):Re Rv:=if zbj l then zdh else R (.stmt c l)
def zrm (c:Cx) (l:Ts):Re Rv:=R (.inner { c with lp:=true } l)
def zbl (c:Cx) (a:PT) (l:Ts):Re Rv :=
 zap zbo l fun l1 =>
  let third:=fun (b:PT) (l2:Ts)=>zap zbo l2 fun l3 =>
   if isT l3 0 zan then ndR (R (.body c (l3.drop 1))) fun s l5=>okR (.nd (nd 30 [a,b,nd 37 [],s])) l5
   else ndR (R (.assign c l3)) fun d l4=>zap zan l4 fun l5=>ndR (R (.body c l5)) fun s l6=>okR (.nd (nd 30 [a,b,d,s])) l6
  if isT l1 0 zbo then third (nd 37 []) l1 else ndR (R (.assign c l1)) fun b l2=>third b l2
def zd1 (c:Cx) (l:Ts):Re Rv:=zap zbm l fun l0 =>
 if (isT l0 0 zfh || isT l0 0 zax) && (decide (kd l0 1=1) && isT l0 2 wOf) then
  ndR (R (.assign c (l0.drop 3))) fun e l1=>zap zan l1 fun l2=>ndR (R (.body c l2)) fun s l3=>okR (.nd (.mk 31 (tx l0 1) 0 (if isT l0 0 zax then 2 else 1) [e,s])) l3
 else if isT l0 0 zfh || isT l0 0 zax then ndR (R (.decl c l0)) fun n l1=>zbl R c n l1
 else if isT l0 0 zbo then zbl R c (nd 37 []) l0
 else ndR (R (.assign c l0)) fun n l1=>zbl R c (nd 26 [n]) l1
def zcz (c:Cx) (ks:List PT) (l:Ts):Re Rv :=
 if isT l 0 zfj then ndR (R (.block c (l.drop 1))) fun f l1=>okR (.nd (nd 36 (ks++[f]))) l1
 else if ks.length=1 then zdh else okR (.nd (nd 36 ks)) l
def zpo (c:Cx) (l:Ts):Re Rv:=ndR (R (.block c l)) fun a l1 =>
 if isT l1 0 znh then
  (if isT l1 1 zbm then zb3 (l1.drop 2) fun s l2=>zap zan l2 fun l3=>ndR (R (.block c l3)) fun b l4=>zcz R c [a,ndN 41 s [b]] l4
  else ndR (R (.block c (l1.drop 1))) fun b l2=>zcz R c [a,nd 41 [b]] l2)
 else zcz R c [a] l1
def zoe (c:Cx) (l:Ts):Re Rv:=R (.declL (if isT l 0 zax then 25 else 24) [] c (l.drop 1))
def ze9 (k:Int) (acc:List PT) (c:Cx) (l:Ts):Re Rv:=zb3 l fun s l1 =>
 let next:=fun (d:PT) (l2:Ts)=>if isT l2 0 zcv then R (.declL k (acc++[d]) c (l2.drop 1)) else okR (.nd (nd k (acc++[d]))) l2
 if isT l1 0 wEq then ndR (R (.assign c (l1.drop 1))) fun e l2=>next (ndN 40 s [e]) l2
 else if k=25 then zdh else next (ndN 40 s []) l1
def zd3 (c:Cx) (l:Ts):Re Rv:=zap zg3 l fun l1=>R (.blockL [] c l1)
def zcb (acc:List PT) (c:Cx) (l:Ts):Re Rv:=if isT l 0 zsz then okR (.nd (nd 27 acc)) (l.drop 1) else if l=[] then zdh else ndR (R (.stmt c l)) fun n l1=>R (.blockL (acc++[n]) c l1)
def ze1 (d:Bool) (c:Cx) (l:Ts):Re Rv :=
 let o0:Int:=if isT l 0 zat then 4 else 1
 let l0:=if isT l 0 zat then l.drop 1 else l
 zap za5 l0 fun l1 =>
  let o:Int:=if decide (o0=1) && isT l1 0 zb0 then 3 else o0
  let l2:=if decide (o0=1) && isT l1 0 zb0 then l1.drop 1 else l1
  let rest:=fun (nm:Bs) (l3:Ts)=>bnd (zay l3) fun ps l4=>ndR (R (.block (zaj o) l4)) fun b l5=>okR (.nd (.mk 11 nm 0 o (ps++[b]))) l5
  if d || decide (kd l2 0=1) then zb3 l2 rest else rest [] l2
def zdn (c:Cx) (l:Ts):Re Rv :=
 let o:Int:=if isT l 0 zat then 5 else 2
 let l0:=if isT l 0 zat then l.drop 1 else l
 let rest:=fun (ps:List PT) (l1:Ts)=>zap zf3 l1 fun l2 =>
  if isT l2 0 zg3 then ndR (R (.block (zaj o) l2)) fun b l3=>okR (.nd (ndO 11 o (ps++[b]))) l3
  else ndR (R (.assign (zaj o) l2)) fun n l3=>okR (.nd (ndO 11 o (ps++[nd 27 [nd 32 [n]]]))) l3
 if isT l0 0 zbm then bnd (zay l0) rest else zb3 l0 fun s l1=>rest [ndN 7 s []] l1
def zb7 (c:Cx) (l:Ts):Re Rv :=
 if 0 < zbh l then R (.arrow c l)
 else if isT l 0 zne then (if c.gn then ndR (R (.assign c (l.drop 1))) fun n l1=>okR (.nd (nd 22 [n])) l1 else zdh)
 else ndR (R (.cond c l)) fun n l1 =>
  if kd l1 0=5 then (if zbz (tx l1 0) 24 4=0 then okR (.nd n) l1 else if zlv n then ndR (R (.assign c (l1.drop 1))) fun m l2=>okR (.nd (ndO 16 (zbz (tx l1 0) 24 4) [n,m])) l2 else zdh)
  else okR (.nd n) l1
def zhe (c:Cx) (l:Ts):Re Rv:=ndR (R (.opnd 0 c l)) fun n l1 =>
 if isT l1 0 zpw then ndR (R (.assign c (l1.drop 1))) fun a l2=>zap zid l2 fun l3=>ndR (R (.assign c l3)) fun b l4=>okR (.nd (nd 15 [n,a,b])) l4
 else okR (.nd n) l1
def zev (k:Nat) (c:Cx) (l:Ts):Re Rv:=if 6<=k then R (.unary c l) else ndR (R (.opnd (k + 1) c l)) fun n l1=>R (.opndL k n c l1)
def zem (k:Nat) (n:PT) (c:Cx) (l:Ts):Re Rv :=
 if decide (kd l 0=5) || decide (kd l 0=2) then
  (if zbz (tx l 0) (zzv k).1 (zzv k).2=0 then okR (.nd n) l else ndR (R (.opnd (k + 1) c (l.drop 1))) fun m l1=>R (.opndL k (ndO (if k < 2 then 14 else 13) (zbz (tx l 0) (zzv k).1 (zzv k).2) [n,m]) c l1))
 else okR (.nd n) l
def zdk (c:Cx) (l:Ts):Re Rv :=
 if decide (kd l 0=5) || decide (kd l 0=2) then
  (if tx l 0=zni then (if c.as_ then ndR (R (.unary c (l.drop 1))) fun n l1=>okR (.nd (nd 23 [n])) l1 else zdh)
  else if zbz (tx l 0) 28 2 ≠ 0 then ndR (R (.unary c (l.drop 1))) fun n l1=>if zlv n then okR (.nd (ndO 17 (zbz (tx l 0) 28 2) [n])) l1 else zdh
  else if zbz (tx l 0) 1 5=0 then R (.postf c l)
  else ndR (R (.unary c (l.drop 1))) fun n l1=>if zbz (tx l 0) 1 5=5/\n.kind ≠ 18/\n.kind ≠ 19 then zdh else okR (.nd (ndO 12 (zbz (tx l 0) 1 5) [n])) l1)
 else R (.postf c l)
def zel (c:Cx) (l:Ts):Re Rv:=ndR (R (.chain c l)) fun n l1 =>
 if kd l1 0=5 then (if zbz (tx l1 0) 28 2=0 then okR (.nd n) l1 else if zlv n then okR (.nd (ndO 17 (zbz (tx l1 0) 28 2 + 100) [n])) (l1.drop 1) else zdh)
 else okR (.nd n) l1
def zhd (n:PT) (c:Cx) (l:Ts):Re Rv :=
 if isT l 0 wDot then (if decide (kd l 1=1) || decide (kd l 1=2) then okR (.nb (ndN 18 (tx l 1) [n]) true) (l.drop 2) else zdh)
 else if isT l 0 zng then ndR (R (.assign c (l.drop 1))) fun i l1=>zap zpm l1 fun l2=>okR (.nb (nd 19 [n,i]) true) l2
 else okR (.nb n false) l
def zdm (c:Cx) (l:Ts):Re Rv :=
 if isT l 0 z6g then ndR (R (.prim c (l.drop 1))) fun n l1=>R (.chainN n c l1)
 else ndR (R (.prim c l)) fun n l1=>R (.chainL n c l1)
def zc8 (n:PT) (c:Cx) (l:Ts):Re Rv:=nbR (R (.link n c l)) fun m b l1=>if b then R (.chainN m c l1) else zap zbm l1 fun l2=>lsR (R (.list2 zan c l2)) fun as l3=>R (.chainL (nd 21 (m :: as)) c l3)
def zcq (n:PT) (c:Cx) (l:Ts):Re Rv:=nbR (R (.link n c l)) fun m b l1=>if b then R (.chainL m c l1) else if isT l1 0 zbm then lsR (R (.list2 zan c (l1.drop 1))) fun as l3=>R (.chainL (nd 20 (n :: as)) c l3) else okR (.nd n) l1
def zen (e:Bs) (c:Cx) (l:Ts):Re Rv:=if isT l 0 e then okR (.ls []) (l.drop 1) else R (.list2L e [] c l)
def zcp (e:Bs) (acc:List PT) (c:Cx) (l:Ts):Re Rv:=ndR (R (.assign c l)) fun n l1=>if isT l1 0 e then okR (.ls (acc++[n])) (l1.drop 1) else zap zcv l1 fun l2=>R (.list2L e (acc++[n]) c l2)
def zdl (c:Cx) (l:Ts):Re Rv :=
 if kd l 0=1 then okR (.nd (ndN 7 (tx l 0) [])) (l.drop 1)
 else if kd l 0=4 then okR (.nd (ndN 6 (tx l 0) [])) (l.drop 1)
 else if kd l 0=3 then okR (.nd (.mk 5 [] (zj2 (tx l 0):Nat) 0 [])) (l.drop 1)
 else if isT l 0 zks then okR (.nd (nd 1 [])) (l.drop 1)
 else if isT l 0 zpx then okR (.nd (nd 2 [])) (l.drop 1)
 else if isT l 0 zpu then okR (.nd (nd 3 [])) (l.drop 1)
 else if isT l 0 zkt then okR (.nd (nd 4 [])) (l.drop 1)
 else if isT l 0 zpv then okR (.nd (nd 8 [])) (l.drop 1)
 else if isT l 0 zbm then ndR (R (.assign c (l.drop 1))) fun n l1=>zap zan l1 fun l2=>okR (.nd n) l2
 else if isT l 0 zng then lsR (R (.list2 zpm c (l.drop 1))) fun ks l1=>okR (.nd (nd 9 ks)) l1
 else if isT l 0 zg3 then lsR (R (.fields c (l.drop 1))) fun ks l1=>okR (.nd (nd 10 ks)) l1
 else if isT l 0 za5 || isT l 0 zat then R (.func false c l)
 else zdh
def zc7 (c:Cx) (l:Ts):Re Rv:=if isT l 0 zsz then okR (.ls []) (l.drop 1) else R (.fieldsL [] c l)
def zci (acc:List PT) (c:Cx) (l:Ts):Re Rv:=ndR (R (.field c l)) fun n l1=>if isT l1 0 zsz then okR (.ls (acc++[n])) (l1.drop 1) else zap zcv l1 fun l2=>R (.fieldsL (acc++[n]) c l2)
def ze8 (c:Cx) (l:Ts):Re Rv :=
 if isT l 0 zng then ndR (R (.assign c (l.drop 1))) fun k l1=>zap zpm l1 fun l2=>zap zid l2 fun l3=>ndR (R (.assign c l3)) fun v l4=>okR (.nd (nd 39 [k,v])) l4
 else if kd l 0=0\/kd l 0=5 then zdh
 else if isT l 1 zid then ndR (R (.assign c (l.drop 2))) fun v l1=>okR (.nd (ndN 38 (tx l 0) [v])) l1
 else if kd l 0=1 then okR (.nd (ndN 38 (tx l 0) [ndN 7 (tx l 0) []])) (l.drop 1)
 else zdh
def zm5:Sy->Re Rv
 | .stmt c l=>ze0 R c l
 | .keyw c l=>zf9 R c l
 | .condn c l=>zfa R c l
 | .inner c l=>zd2 R c l
 | .body c l=>zrm R c l
 | .loops c l=>zd1 R c l
 | .tryS c l=>zpo R c l
 | .decl c l=>zoe R c l
 | .declL k acc c l=>ze9 R k acc c l
 | .block c l=>zd3 R c l
 | .blockL acc c l=>zcb R acc c l
 | .func d c l=>ze1 R d c l
 | .arrow c l=>zdn R c l
 | .assign c l=>zb7 R c l
 | .cond c l=>zhe R c l
 | .opnd k c l=>zev R k c l
 | .opndL k n c l=>zem R k n c l
 | .unary c l=>zdk R c l
 | .postf c l=>zel R c l
 | .link n c l=>zhd R n c l
 | .chain c l=>zdm R c l
 | .chainN n c l=>zc8 R n c l
 | .chainL n c l=>zcq R n c l
 | .list2 e c l=>zen R e c l
 | .list2L e acc c l=>zcp R e acc c l
 | .prim c l=>zdl R c l
 | .fields c l=>zc7 R c l
 | .fieldsL acc c l=>zci R acc c l
 | .field c l=>ze8 R c l
end
def zun:Nat->Sy->Re Rv
 | 0,_=>none
 | n + 1,s=>zm5 (zun n) s
theorem z6s (n:Nat) (s:Sy):zun (n + 1) s=zm5 (zun n) s:=rfl
/- Own work,plain: the parser comes to an end,and leaves an end of what it was given. -/
def Tot {α:Type} (P:α->Ts->Prop) (x:Re α):Prop:=∃ o,x=some o/\∀ a l,o=some (a,l)->P a l
theorem Tot.fail {α:Type} {P:α->Ts->Prop}:Tot P zdh:=⟨none,rfl,fun _ _ h=>by cases h⟩
theorem Tot.ok {α:Type} {P:α->Ts->Prop} {a:α} {l:Ts} (h:P a l):Tot P (okR a l):=⟨_,rfl,fun _ _ e=>by cases e;exact h⟩
theorem Tot.bnd {α β:Type} {P:α->Ts->Prop} {Q:β->Ts->Prop} {x:Re α} {k:α->Ts->Re β} (h:Tot P x) (hk:∀ a l,P a l->Tot Q (k a l)):Tot Q (bnd x k):=by
 obtain ⟨o,rfl,ho⟩:=h
 cases o with
 | none=>exact .fail
 | some p=>exact hk p.1 p.2 (ho _ _ rfl)
theorem Tot.mono {α:Type} {P Q:α->Ts->Prop} {x:Re α} (h:Tot P x) (hk:∀ a l,P a l->Q a l):Tot Q x:=by
 obtain ⟨o,e,ho⟩:=h;exact ⟨o,e,fun a l h=>hk a l (ho a l h)⟩
theorem zag {l:Ts} {n:Nat} {s:Bs} (h:isT l n s=true):n < l.length:=by
 unfold isT kd at h
 cases hl:l[n]? with
 | none=>rw [hl] at h;simp at h
 | some t=>exact (List.getElem?_eq_some_iff.1 hl).1
theorem zaw {l:Ts} {n:Nat} {k:Int} (h:kd l n=k) (hk:k ≠ 0):n < l.length:=by
 unfold kd at h
 cases hl:l[n]? with
 | none=>rw [hl] at h;exact absurd h.symm hk
 | some t=>exact (List.getElem?_eq_some_iff.1 hl).1
def Les (l l':Ts):Prop:=l' <:+ l/\l'.length < l.length
def Leq (l l':Ts):Prop:=l' <:+ l
theorem Les.leq {l l':Ts} (h:Les l l'):Leq l l':=h.1
theorem Leq.rfl {l:Ts}:Leq l l:=List.suffix_refl l
theorem Leq.len {l l':Ts} (h:Leq l l'):l'.length<=l.length:=List.IsSuffix.length_le h
theorem Leq.trans {a b c:Ts} (h:Leq a b) (h':Leq b c):Leq a c:=List.IsSuffix.trans h' h
theorem Les.trans {a b c:Ts} (h:Les a b) (h':Leq b c):Les a c:=⟨h.leq.trans h',by have:=h'.len;have:=h.2;omega⟩
theorem Leq.trans' {a b c:Ts} (h:Leq a b) (h':Les b c):Les a c:=⟨h.trans h'.leq,by have:=h.len;have:=h'.2;omega⟩
theorem zav {l:Ts} {n:Nat} (h:n < l.length) (k:Nat) (hk:1<=k) (hkn:k<=n + 1):Les l (l.drop k):=⟨List.drop_suffix _ _,by rw [lLD];omega⟩
theorem Tot.need {β:Type} {Q:β->Ts->Prop} {s:Bs} {l:Ts} {k:Ts->Re β} (hk:isT l 0 s=true->Les l (l.drop 1)->Tot Q (k (l.drop 1))):Tot Q (zap s l k):=by
 unfold zap
 split
 ·rename_i h;exact hk h (zav (zag h) 1 (nR 1) (nR 1))
 ·exact .fail
theorem Tot.name {β:Type} {Q:β->Ts->Prop} {l:Ts} {k:Bs->Ts->Re β} (hk:kd l 0=1->Les l (l.drop 1)->Tot Q (k (tx l 0) (l.drop 1))):Tot Q (zb3 l k):=by
 unfold zb3
 split
 ·rename_i h;exact hk h (zav (zaw h (by decide)) 1 (nR 1) (nR 1))
 ·exact .fail
inductive Sh where
 | nd|nb|ls
def Rv.sh:Rv->Sh
 | .nd _=>.nd
 | .nb _ _=>.nb
 | .ls _=>.ls
theorem Tot.ndR {β:Type} {Q:β->Ts->Prop} {P:Ts->Prop} {x:Re Rv} {k:PT->Ts->Re β} (h:Tot (fun v l=>v.sh=.nd/\P l) x) (hk:∀ n l,P l->Tot Q (k n l)):Tot Q (ndR x k) :=
 h.bnd fun v l ⟨h1,h2⟩=>by
  cases v with
  | nd n=>exact hk n l h2
  | nb n b=>cases h1
  | ls n=>cases h1
theorem Tot.lsR {β:Type} {Q:β->Ts->Prop} {P:Ts->Prop} {x:Re Rv} {k:List PT->Ts->Re β} (h:Tot (fun v l=>v.sh=.ls/\P l) x) (hk:∀ n l,P l->Tot Q (k n l)):Tot Q (lsR x k) :=
 h.bnd fun v l ⟨h1,h2⟩=>by
  cases v with
  | nd n=>cases h1
  | nb n b=>cases h1
  | ls n=>exact hk n l h2
def Rv.ok:Rv->Bool
 | .nb _ b=>b
 | _=>true
theorem Tot.nbR {β:Type} {Q:β->Ts->Prop} {P:Bool->Ts->Prop} {x:Re Rv} {k:PT->Bool->Ts->Re β} (h:Tot (fun v l=>v.sh=.nb/\P v.ok l) x) (hk:∀ n b l,P b l->Tot Q (k n b l)):Tot Q (nbR x k) :=
 h.bnd fun v l ⟨h1,h2⟩=>by
  cases v with
  | nd n=>cases h1
  | nb n b=>exact hk n b l h2
  | ls n=>cases h1
theorem Tot.ite {α:Type} {P:α->Ts->Prop} {c:Prop} [Decidable c] {x y:Re α} (h1:c->Tot P x) (h2:¬ c->Tot P y):Tot P (if c then x else y):=by
 split
 ·exact h1 (by assumption)
 ·exact h2 (by assumption)
theorem zns:∀ (n:Nat) (acc:List PT) (l:Ts),l.length < n->Tot (fun _ l'=>Les l l') (zcw n acc l)
 | 0,_,_,h=>by omega
 | n + 1,acc,l,h=>by
  rw [zcw];refine .name fun _ h1=>.ite (fun h2=>.ite (fun _=>.ok ?_) fun _=>.fail) fun _=>.need fun _ h3=>?_
  ·exact h1.trans (zav (zag h2) 1 (nR 1) (nR 1)).leq
  ·have h4:=h1.2;have h5:=h3.2;exact (zns n _ _ (by omega)).mono fun _ l' h6=>h1.trans (h3.leq.trans h6.leq)
theorem zcu (l:Ts):Tot (fun _ l'=>Les l l') (zay l):=by
 unfold zay;refine .need fun _ h1=>.ite (fun h2=>.ok ?_) fun _=>?_
 ·exact h1.trans (zav (zag h2) 1 (nR 1) (nR 1)).leq
 ·exact (zns _ _ _ (nLS _)).mono fun _ l' h6=>h1.trans h6.leq
def Sy.l:Sy->Ts
 | .stmt _ l|.keyw _ l|.condn _ l|.inner _ l|.body _ l|.loops _ l|.tryS _ l|.decl _ l|.declL _ _ _ l|.block _ l|.blockL _ _ l|.func _ _ l|.arrow _ l|.assign _ l|.cond _ l|.opnd _ _ l|.opndL _ _ _ l|.unary _ l|.postf _ l|.link _ _ l|.chain _ l|.chainN _ _ l|.chainL _ _ l|.list2 _ _ l|.list2L _ _ _ l|.prim _ l|.fields _ l|.fieldsL _ _ l|.field _ l=>l
def Sy.rank:Sy->Nat
 | .stmt _ _=>40
 | .keyw _ _=>38
 | .condn _ _=>1
 | .inner _ _=>42
 | .body _ _=>43
 | .loops _ _=>1
 | .tryS _ _=>4
 | .decl _ _=>2
 | .declL _ _ _ _=>1
 | .block _ _=>3
 | .blockL _ _ _=>44
 | .func _ _ _=>2
 | .arrow _ _=>2
 | .assign _ _=>30
 | .cond _ _=>28
 | .opnd k _ _=>if k<=6 then 26 - 2 * k else 14
 | .opndL _ _ _ _=>1
 | .unary _ _=>12
 | .postf _ _=>10
 | .link _ _ _=>1
 | .chain _ _=>8
 | .chainN _ _ _=>3
 | .chainL _ _ _=>3
 | .list2 _ _ _=>33
 | .list2L _ _ _ _=>32
 | .prim _ _=>6
 | .fields _ _=>9
 | .fieldsL _ _ _=>8
 | .field _ _=>5
def Sy.meas (s:Sy):Nat:=64 * s.l.length + s.rank
def Sy.shape:Sy->Sh
 | .keyw _ _|.link _ _ _=>.nb
 | .list2 _ _ _|.list2L _ _ _ _|.fields _ _|.fieldsL _ _ _=>.ls
 | _=>.nd
def Sy.lax:Sy->Bool
 | .opndL _ _ _ _|.chainL _ _ _=>true
 | _=>false
def Sy.post (s:Sy) (v:Rv) (l:Ts):Prop:=v.sh=s.shape/\Leq s.l l/\(s.lax=false->v.ok=true->Les s.l l)
/- Own work,plain: every symbol comes to an end. -/
abbrev PB (l:Ts) (b:Bool) (l1:Ts):Prop:=Leq l l1/\(b=true->Les l l1)
section
variable {R:Sy->Re Rv} {m:Nat} (hR:∀ s:Sy,s.meas < m->Tot s.post (R s))
include hR
theorem z8w (s:Sy) (h:s.meas < m) (h1:s.shape=.nd) (h2:s.lax=false):Tot (fun v l=>v.sh=.nd/\Les s.l l) (R s) :=
 (hR s h).mono fun v l ⟨a,b,c⟩=>⟨by rw [a,h1],c h2 (by
  rw [h1] at a
  cases v with
  | nd n=>rfl
  | nb n b=>cases a
  | ls n=>cases a)⟩
theorem callX (s:Sy) (h:s.meas < m) (h1:s.shape=.nd):Tot (fun v l=>v.sh=.nd/\Leq s.l l) (R s):=(hR s h).mono fun v l ⟨a,b,c⟩=>⟨by rw [a,h1],b⟩
theorem z8x (s:Sy) (h:s.meas < m) (h1:s.shape=.ls) (h2:s.lax=false):Tot (fun v l=>v.sh=.ls/\Les s.l l) (R s) :=
 (hR s h).mono fun v l ⟨a,b,c⟩=>⟨by rw [a,h1],c h2 (by
  rw [h1] at a
  cases v with
  | ls n=>rfl
  | nb n b=>cases a
  | nd n=>cases a)⟩
theorem callB (s:Sy) (h:s.meas < m) (h1:s.shape=.nb) (h2:s.lax=false):Tot (fun v l=>v.sh=.nb/\PB s.l v.ok l) (R s):=(hR s h).mono fun v l ⟨a,b,c⟩=>⟨by rw [a,h1],b,c h2⟩
end
theorem d1 {l:Ts} {s:Bs} (h:isT l 0 s=true):Les l (l.drop 1):=zav (zag h) 1 (nR 1) (nR 1)
theorem z64 {l:Ts} {a b:Bs} (h:(isT l 0 a || isT l 0 b)=true):0 < l.length:=by
 rcases Bool.or_eq_true_iff.1 h with h|h
 ·exact zag h
 ·exact zag h
theorem zab {s s':Sy} {m:Nat} (hs:s.meas<=m) (h:Les s.l s'.l) (h1:s'.rank < 64):s'.meas < m:=by
 unfold Sy.meas at *
 have:=h.2
 omega
theorem zak {s s':Sy} {m:Nat} (hs:s.meas<=m) (h:Leq s.l s'.l) (h1:s'.rank < s.rank):s'.meas < m:=by
 unfold Sy.meas at *
 have:=h.len
 omega
theorem zai:∀ s:Sy,s.rank < 64:=fun s=>by
 cases s
 all_goals first|exact oT rfl|(show (if _<=6 then 26 - 2 * _ else 14) < 64;split <;> omega)
section
variable {R:Sy->Re Rv} {m:Nat} (hR:∀ s:Sy,s.meas < m->Tot s.post (R s))
include hR
theorem cN {s:Sy} (hs:s.meas<=m) (s':Sy) (h:Les s.l s'.l) (h1:s'.shape=.nd:=by rfl) (h2:s'.lax=false:=by rfl):Tot (fun v l=>v.sh=.nd/\Les s.l l) (R s'):=(z8w hR s' (zab hs h (zai _)) h1 h2).mono fun v l ⟨a,b⟩=>⟨a,h.trans b.leq⟩
theorem cX {s:Sy} (hs:s.meas<=m) (s':Sy) (h:Les s.l s'.l) (h1:s'.shape=.nd:=by rfl):Tot (fun v l=>v.sh=.nd/\Les s.l l) (R s'):=(callX hR s' (zab hs h (zai _)) h1).mono fun v l ⟨a,b⟩=>⟨a,h.trans b⟩
theorem cL {s:Sy} (hs:s.meas<=m) (s':Sy) (h:Les s.l s'.l) (h1:s'.shape=.ls:=by rfl) (h2:s'.lax=false:=by rfl):Tot (fun v l=>v.sh=.ls/\Les s.l l) (R s'):=(z8x hR s' (zab hs h (zai _)) h1 h2).mono fun v l ⟨a,b⟩=>⟨a,h.trans b.leq⟩
theorem eN {s:Sy} (hs:s.meas<=m) (s':Sy) (h:Leq s.l s'.l) (hr:s'.rank < s.rank) (h1:s'.shape=.nd:=by rfl) (h2:s'.lax=false:=by rfl):Tot (fun v l=>v.sh=.nd/\Les s.l l) (R s'):=(z8w hR s' (zak hs h hr) h1 h2).mono fun v l ⟨a,b⟩=>⟨a,h.trans' b⟩
theorem eL {s:Sy} (hs:s.meas<=m) (s':Sy) (h:Leq s.l s'.l) (hr:s'.rank < s.rank) (h1:s'.shape=.ls:=by rfl) (h2:s'.lax=false:=by rfl):Tot (fun v l=>v.sh=.ls/\Les s.l l) (R s'):=(z8x hR s' (zak hs h hr) h1 h2).mono fun v l ⟨a,b⟩=>⟨a,h.trans' b⟩
theorem eB {s:Sy} (hs:s.meas<=m) (s':Sy) (h:Leq s.l s'.l) (hr:s'.rank < s.rank) (h1:s'.shape=.nb:=by rfl) (h2:s'.lax=false:=by rfl):Tot (fun v l=>v.sh=.nb/\PB s.l v.ok l) (R s'):=(callB hR s' (zak hs h hr) h1 h2).mono fun v l ⟨a,b,c⟩=>⟨a,h.trans b,fun e=>h.trans' (c e)⟩
end
theorem pN {s:Sy} {n:PT} {l:Ts} (h1:s.shape=.nd) (h:Les s.l l):s.post (.nd n) l:=⟨h1.symm,h.leq,fun _ _=>h⟩
theorem pX {s:Sy} {n:PT} {l:Ts} (h1:s.shape=.nd) (h2:s.lax=true) (h:Leq s.l l):s.post (.nd n) l:=⟨h1.symm,h,fun e=>by rw [h2] at e;cases e⟩
theorem pL {s:Sy} {n:List PT} {l:Ts} (h1:s.shape=.ls) (h:Les s.l l):s.post (.ls n) l:=⟨h1.symm,h.leq,fun _ _=>h⟩
theorem pB1 {s:Sy} {n:PT} {l:Ts} (h1:s.shape=.nb) (h:Les s.l l):s.post (.nb n true) l:=⟨h1.symm,h.leq,fun _ _=>h⟩
theorem pB0 {s:Sy} {n:PT} {l:Ts} (h1:s.shape=.nb) (h:Leq s.l l):s.post (.nb n false) l:=⟨h1.symm,h,fun _ e=>by cases e⟩
theorem zb8 {s:Sy} {x:Re Rv} (h1:s.shape=.nd) (h:Tot (fun v l=>v.sh=.nd/\Les s.l l) x):Tot s.post x:=h.mono fun v l ⟨a,b⟩=>⟨by rw [a,h1],b.leq,fun _ _=>b⟩
theorem zoi {s:Sy} {x:Re Rv} (h1:s.shape=.ls) (h:Tot (fun v l=>v.sh=.ls/\Les s.l l) x):Tot s.post x:=h.mono fun v l ⟨a,b⟩=>⟨by rw [a,h1],b.leq,fun _ _=>b⟩
section
variable {R:Sy->Re Rv} {m:Nat} (hR:∀ s:Sy,s.meas < m->Tot s.post (R s))
include hR
theorem zty {s:Sy} (h1:s.shape=.nd) (hr:30 < s.rank) (hs:s.meas<=m) (c:Cx) (l:Ts) (hl:Leq s.l l):Tot s.post (zgo R c l):=by
 unfold zgo;exact .ndR (eN hR hs (.assign c l) hl hr) fun n l1 h=>.need fun _ h2=>.ok (pN h1 (h.trans h2.leq))
theorem zz9 (c:Cx) (l:Ts) (hs:(Sy.stmt c l).meas<=m):Tot (Sy.stmt c l).post (ze0 R c l):=by
 unfold ze0;refine .ite (fun _=>?_) fun _=>.ite (fun _=>?_) fun _=>.ite (fun _=>?_) fun _=>.ite (fun h=>?_) fun _=>.ite (fun _=>?_) fun _=>?_
 ·exact .ndR (eN hR hs (.decl c l) .rfl (oT rfl)) fun n l1 h=>.need fun _ h2=>.ok (pN rfl (h.trans h2.leq))
 ·exact zb8 rfl (eN hR hs (.func true c l) .rfl (oT rfl))
 ·exact zb8 rfl (eN hR hs (.block c l) .rfl (oT rfl))
 ·exact .ok (pN rfl (d1 h))
 ·exact .nbR (eB hR hs (.keyw c l) .rfl (oT rfl)) fun n b l1 h=>.ite (fun hb=>.ok (pN rfl (h.2 hb))) fun _=>zty hR rfl (oT rfl) hs c l1 h.1
 ·exact zty hR rfl (oT rfl) hs c l .rfl
theorem z1e (c:Cx) (l:Ts) (hs:(Sy.keyw c l).meas<=m):Tot (Sy.keyw c l).post (zf9 R c l):=by
 unfold zf9;refine .ite (fun h=>?_) fun _=>.ite (fun h=>?_) fun _=>.ite (fun h=>?_) fun _=>.ite (fun h=>?_) fun _=>.ite (fun h=>?_) fun _=>.ite (fun h=>?_) fun _=>.ite (fun h=>?_) fun _=>?_
 ·refine .ndR (cN hR hs (.condn c _) (d1 h)) fun e l1 h1=>.ndR (cN hR hs (.inner c l1) h1) fun a l2 h2=>.ite (fun h3=>?_) fun _=>.ok (pB1 rfl h2)
  exact .ndR (cN hR hs (.inner c _) (h2.trans (d1 h3).leq)) fun b l3 h4=>.ok (pB1 rfl h4)
 ·exact .ndR (cN hR hs (.condn c _) (d1 h)) fun e l1 h1=>.ndR (cN hR hs (.body c l1) h1) fun a l2 h2=>.ok (pB1 rfl h2)
 ·exact .ndR (cN hR hs (.loops c _) (d1 h)) fun e l1 h1=>.ok (pB1 rfl h1)
 ·refine .ite (fun _=>.ite (fun h1=>.ok (pB1 rfl (zav (zag h1) 2 (by decide) (by decide)))) fun _=>?_) fun _=>.fail
  exact .ndR (cN hR hs (.assign c _) (d1 h)) fun n l1 h1=>.need fun _ h2=>.ok (pB1 rfl (h1.trans h2.leq))
 ·exact .ite (fun _=>.need fun _ h2=>.ok (pB1 rfl ((zav (z64 h) 1 (by decide) (by decide)).trans h2.leq))) fun _=>.fail
 ·exact .ndR (cN hR hs (.assign c _) (d1 h)) fun n l1 h1=>.need fun _ h2=>.ok (pB1 rfl (h1.trans h2.leq))
 ·exact .ndR (cN hR hs (.tryS c _) (d1 h)) fun e l1 h1=>.ok (pB1 rfl h1)
 ·exact .ok (pB0 rfl .rfl)
theorem zy0 (c:Cx) (l:Ts) (hs:(Sy.condn c l).meas<=m):Tot (Sy.condn c l).post (zfa R c l):=by
 unfold zfa;exact .need fun _ h=>.ndR (cN hR hs (.assign c _) h) fun n l2 h1=>.need fun _ h2=>.ok (pN rfl (h1.trans h2.leq))
theorem zyd (c:Cx) (l:Ts) (hs:(Sy.inner c l).meas<=m):Tot (Sy.inner c l).post (zd2 R c l):=by
 unfold zd2;exact .ite (fun _=>.fail) fun _=>zb8 rfl (eN hR hs (.stmt c l) .rfl (oT rfl))
theorem z11 (c:Cx) (l:Ts) (hs:(Sy.body c l).meas<=m):Tot (Sy.body c l).post (zrm R c l):=zb8 rfl (eN hR hs (.inner _ l) .rfl (oT rfl))
theorem zkk {s:Sy} (h0:s.shape=.nd) (hs:s.meas<=m) (c:Cx) (a:PT) (l:Ts) (hl:Les s.l l):Tot s.post (zbl R c a l):=by
 unfold zbl;refine .need fun _ h1=>?_
 have third:∀ (b:PT) (l2:Ts),Les s.l l2->Tot s.post (zap zbo l2 fun l3 =>
   if isT l3 0 zan then ndR (R (.body c (l3.drop 1))) fun s l5=>okR (.nd (nd 30 [a,b,nd 37 [],s])) l5
   else ndR (R (.assign c l3)) fun d l4=>zap zan l4 fun l5=>ndR (R (.body c l5)) fun s l6=>okR (.nd (nd 30 [a,b,d,s])) l6):=fun b l2 h=>by
  refine .need fun _ h2=>.ite (fun h3=>?_) fun _=>?_
  ·exact .ndR (cN hR hs (.body c _) (h.trans (h2.leq.trans (d1 h3).leq))) fun s l5 h4=>.ok (pN h0 h4)
  ·exact .ndR (cN hR hs (.assign c _) (h.trans h2.leq)) fun d l4 h4=>.need fun _ h5=>.ndR (cN hR hs (.body c _) (h4.trans h5.leq)) fun s l6 h6=>.ok (pN h0 h6)
 refine .ite (fun _=>third _ _ (hl.trans h1.leq)) fun _=>.ndR (cN hR hs (.assign c _) (hl.trans h1.leq)) fun b l2 h2=>third _ _ h2
theorem zxq (c:Cx) (l:Ts) (hs:(Sy.loops c l).meas<=m):Tot (Sy.loops c l).post (zd1 R c l):=by
 unfold zd1;refine .need fun _ h0=>.ite (fun h=>?_) fun _=>.ite (fun h=>?_) fun _=>.ite (fun h=>?_) fun _=>?_
 ·simp only [bAT] at h;exact .ndR (cN hR hs (.assign c _) (h0.trans (zav (zag h.2.2) 3 (by decide) (by decide)).leq)) fun e l1 h1=>.need fun _ h2=>.ndR (cN hR hs (.body c _) (h1.trans h2.leq)) fun s l3 h3=>.ok (pN rfl h3)
 ·exact .ndR (cN hR hs (.decl c _) h0) fun n l1 h1=>zkk hR rfl hs c n l1 h1
 ·exact zkk hR rfl hs c _ _ h0
 ·exact .ndR (cN hR hs (.assign c _) h0) fun n l1 h1=>zkk hR rfl hs c _ l1 h1
theorem zj7 {s:Sy} (h0:s.shape=.nd) (hs:s.meas<=m) (c:Cx) (ks:List PT) (l:Ts) (hl:Les s.l l):Tot s.post (zcz R c ks l):=by
 unfold zcz;refine .ite (fun h=>?_) fun _=>.ite (fun _=>.fail) fun _=>.ok (pN h0 hl)
 exact .ndR (cN hR hs (.block c _) (hl.trans (d1 h).leq)) fun f l1 h1=>.ok (pN h0 h1)
theorem z3u (c:Cx) (l:Ts) (hs:(Sy.tryS c l).meas<=m):Tot (Sy.tryS c l).post (zpo R c l):=by
 unfold zpo;refine .ndR (eN hR hs (.block c l) .rfl (oT rfl)) fun a l1 h1=>.ite (fun h=>?_) fun _=>zj7 hR rfl hs c _ l1 h1
 refine .ite (fun h2=>?_) fun _=>?_
 ·refine .name fun _ h3=>.need fun _ h4=>.ndR (cN hR hs (.block c _) (h1.trans (Leq.trans (List.drop_suffix _ _) (h3.leq.trans h4.leq)))) fun b l4 h5=>zj7 hR rfl hs c _ l4 h5
 ·exact .ndR (cN hR hs (.block c _) (h1.trans (d1 h).leq)) fun b l2 h5=>zj7 hR rfl hs c _ l2 h5
theorem zyv (k:Int) (acc:List PT) (c:Cx) (l:Ts) (hs:(Sy.declL k acc c l).meas<=m):Tot (Sy.declL k acc c l).post (ze9 R k acc c l):=by
 unfold ze9;refine .name fun _ h1=>?_
 have next:∀ (d:PT) (l2:Ts),Les l l2->Tot (Sy.declL k acc c l).post (if isT l2 0 zcv then R (.declL k (acc++[d]) c (l2.drop 1)) else okR (.nd (nd k (acc++[d]))) l2):=fun d l2 h=>.ite (fun h2=>zb8 rfl (cN hR hs (.declL _ _ c _) (h.trans (d1 h2).leq))) fun _=>.ok (pN rfl h)
 refine .ite (fun h2=>?_) fun _=>.ite (fun _=>.fail) fun _=>next _ _ h1
 exact .ndR (cN hR hs (.assign c _) (h1.trans (d1 h2).leq)) fun e l2 h3=>next _ _ h3
theorem zy8 (c:Cx) (l:Ts) (hs:(Sy.block c l).meas<=m):Tot (Sy.block c l).post (zd3 R c l):=by
 unfold zd3;exact .need fun _ h=>zb8 rfl (cN hR hs (.blockL [] c _) h)
theorem zvp (acc:List PT) (c:Cx) (l:Ts) (hs:(Sy.blockL acc c l).meas<=m):Tot (Sy.blockL acc c l).post (zcb R acc c l):=by
 unfold zcb;refine .ite (fun h=>.ok (pN rfl (d1 h))) fun _=>.ite (fun _=>.fail) fun _=>?_
 exact .ndR (eN hR hs (.stmt c l) .rfl (oT rfl)) fun n l1 h1=>zb8 rfl (cN hR hs (.blockL _ c l1) h1)
theorem z1k (d:Bool) (c:Cx) (l:Ts) (hs:(Sy.func d c l).meas<=m):Tot (Sy.func d c l).post (ze1 R d c l):=by
 unfold ze1;have h0:Leq l (if isT l 0 zat then l.drop 1 else l):=by
  split
  ·exact List.drop_suffix _ _
  ·exact .rfl
 simp only;generalize (if isT l 0 zat=true then l.drop 1 else l)=l0 at h0 ⊢
 generalize (if isT l 0 zat=true then (4:Int) else 1)=o0
 refine .need fun _ h1=>?_
 have h2:Leq (l0.drop 1) (if (decide (o0=1) && isT (l0.drop 1) 0 zb0)=true then (l0.drop 1).drop 1 else l0.drop 1):=by
  split
  ·exact List.drop_suffix _ _
  ·exact .rfl
 generalize (if (decide (o0=1) && isT (l0.drop 1) 0 zb0)=true then (l0.drop 1).drop 1 else l0.drop 1)=l2 at h2 ⊢
 generalize (if (decide (o0=1) && isT (l0.drop 1) 0 zb0)=true then (3:Int) else o0)=o
 have h3:Les l l2:=h0.trans' (h1.trans h2);have rest:∀ (nm:Bs) (l3:Ts),Les l l3->Tot (Sy.func d c l).post (bnd (zay l3) fun ps l4=>ndR (R (.block (zaj o) l4)) fun b l5=>okR (.nd (.mk 11 nm 0 o (ps++[b]))) l5):=fun nm l3 h =>
  .bnd (zcu l3) fun ps l4 h4=>.ndR (cN hR hs (.block _ l4) (h.trans h4.leq)) fun b l5 h5=>.ok (pN rfl h5)
 exact .ite (fun _=>.name fun _ h4=>rest _ _ (h3.trans h4.leq)) fun _=>rest _ _ h3
theorem zze (c:Cx) (l:Ts) (hs:(Sy.arrow c l).meas<=m):Tot (Sy.arrow c l).post (zdn R c l):=by
 unfold zdn;have h0:Leq l (if isT l 0 zat then l.drop 1 else l):=by
  split
  ·exact List.drop_suffix _ _
  ·exact .rfl
 simp only;generalize (if isT l 0 zat=true then l.drop 1 else l)=l0 at h0 ⊢
 generalize (if isT l 0 zat=true then (5:Int) else 2)=o
 have rest:∀ (ps:List PT) (l1:Ts),Les l l1->Tot (Sy.arrow c l).post (zap zf3 l1 fun l2 =>
   if isT l2 0 zg3 then ndR (R (.block (zaj o) l2)) fun b l3=>okR (.nd (ndO 11 o (ps++[b]))) l3
   else ndR (R (.assign (zaj o) l2)) fun n l3=>okR (.nd (ndO 11 o (ps++[nd 27 [nd 32 [n]]]))) l3):=fun ps l1 h=>by
  refine .need fun _ h2=>.ite (fun _=>?_) fun _=>?_
  ·exact .ndR (cN hR hs (.block _ _) (h.trans h2.leq)) fun b l3 h3=>.ok (pN rfl h3)
  ·exact .ndR (cN hR hs (.assign _ _) (h.trans h2.leq)) fun b l3 h3=>.ok (pN rfl h3)
 exact .ite (fun _=>.bnd (zcu l0) fun ps l1 h1=>rest ps l1 (h0.trans' h1)) fun _=>.name fun _ h1=>rest _ _ (h0.trans' h1)
theorem zvs (c:Cx) (l:Ts) (hs:(Sy.assign c l).meas<=m):Tot (Sy.assign c l).post (zb7 R c l):=by
 unfold zb7;refine .ite (fun _=>zb8 rfl (eN hR hs (.arrow c l) .rfl (oT rfl))) fun _=>.ite (fun h=>.ite (fun _=>?_) fun _=>.fail) fun _=>?_
 ·exact .ndR (cN hR hs (.assign c _) (d1 h)) fun n l1 h1=>.ok (pN rfl h1)
 ·refine .ndR (eN hR hs (.cond c l) .rfl (oT rfl)) fun n l1 h1=>.ite (fun h2=>.ite (fun _=>.ok (pN rfl h1)) fun _=>.ite (fun _=>?_) fun _=>.fail) fun _=>.ok (pN rfl h1)
  exact .ndR (cN hR hs (.assign c _) (h1.trans (zav (zaw h2 (by decide)) 1 (by decide) (by decide)).leq)) fun k l2 h3=>.ok (pN rfl h3)
theorem z1z (c:Cx) (l:Ts) (hs:(Sy.cond c l).meas<=m):Tot (Sy.cond c l).post (zhe R c l):=by
 unfold zhe;refine .ndR (eN hR hs (.opnd 0 c l) .rfl (oT rfl)) fun n l1 h1=>.ite (fun h=>?_) fun _=>.ok (pN rfl h1)
 exact .ndR (cN hR hs (.assign c _) (h1.trans (d1 h).leq)) fun a l2 h2=>.need fun _ h3=>.ndR (cN hR hs (.assign c _) (h2.trans h3.leq)) fun b l4 h4=>.ok (pN rfl h4)
theorem z0o (k:Nat) (c:Cx) (l:Ts) (hs:(Sy.opnd k c l).meas<=m):Tot (Sy.opnd k c l).post (zev R k c l):=by
 unfold zev;refine .ite (fun h=>?_) fun h=>?_
 ·exact zb8 rfl (eN hR hs (.unary c l) .rfl (by show 12 < (if k<=6 then 26 - 2 * k else 14);split <;> omega))
 ·exact .ndR (eN hR hs (.opnd (k + 1) c l) .rfl (by show (if k + 1<=6 then 26 - 2 * (k + 1) else 14) < (if k<=6 then 26 - 2 * k else 14);rw [if_pos (by omega),if_pos (by omega)];omega)) fun n l1 h1=>zb8 rfl (cX hR hs (.opndL k n c l1) h1)
theorem zxf (k:Nat) (n:PT) (c:Cx) (l:Ts) (hs:(Sy.opndL k n c l).meas<=m):Tot (Sy.opndL k n c l).post (zem R k n c l):=by
 unfold zem;refine .ite (fun h=>.ite (fun _=>.ok (pX rfl rfl .rfl)) fun _=>?_) fun _=>.ok (pX rfl rfl .rfl)
 have h1:Les l (l.drop 1):=by
  simp only [Bool.or_eq_true,decide_eq_true_eq] at h
  rcases h with h|h
  ·exact zav (zaw h (by decide)) 1 (by decide) (by decide)
  ·exact zav (zaw h (by decide)) 1 (by decide) (by decide)
 exact .ndR (cN hR hs (.opnd (k + 1) c _) h1) fun x l1 h2=>zb8 rfl (cX hR hs (.opndL k _ c l1) h2)
theorem zwl (c:Cx) (l:Ts) (hs:(Sy.unary c l).meas<=m):Tot (Sy.unary c l).post (zdk R c l):=by
 unfold zdk;refine .ite (fun h=>?_) fun _=>zb8 rfl (eN hR hs (.postf c l) .rfl (oT rfl))
 have h1:Les l (l.drop 1):=by
  simp only [Bool.or_eq_true,decide_eq_true_eq] at h
  rcases h with h|h
  ·exact zav (zaw h (by decide)) 1 (by decide) (by decide)
  ·exact zav (zaw h (by decide)) 1 (by decide) (by decide)
 refine .ite (fun _=>.ite (fun _=>?_) fun _=>.fail) fun _=>.ite (fun _=>?_) fun _=>.ite (fun _=>?_) fun _=>?_
 ·exact .ndR (cN hR hs (.unary c _) h1) fun x l1 h2=>.ok (pN rfl h2)
 ·exact .ndR (cN hR hs (.unary c _) h1) fun x l1 h2=>.ite (fun _=>.ok (pN rfl h2)) fun _=>.fail
 ·exact zb8 rfl (eN hR hs (.postf c l) .rfl (oT rfl))
 ·exact .ndR (cN hR hs (.unary c _) h1) fun x l1 h2=>.ite (fun _=>.fail) fun _=>.ok (pN rfl h2)
theorem zw7 (c:Cx) (l:Ts) (hs:(Sy.postf c l).meas<=m):Tot (Sy.postf c l).post (zel R c l):=by
 unfold zel;refine .ndR (eN hR hs (.chain c l) .rfl (oT rfl)) fun n l1 h1=>.ite (fun h2=>.ite (fun _=>.ok (pN rfl h1)) fun _=>.ite (fun _=>?_) fun _=>.fail) fun _=>.ok (pN rfl h1)
 exact .ok (pN rfl (h1.trans (List.drop_suffix _ _)))
theorem z03 (n:PT) (c:Cx) (l:Ts) (hs:(Sy.link n c l).meas<=m):Tot (Sy.link n c l).post (zhd R n c l):=by
 unfold zhd;refine .ite (fun h=>.ite (fun _=>?_) fun _=>.fail) fun _=>.ite (fun h=>?_) fun _=>.ok (pB0 rfl .rfl)
 ·exact .ok (pB1 rfl ((d1 h).trans (by rw [show l.drop 2=(l.drop 1).drop 1 by rw [lDD]];exact List.drop_suffix _ _)))
 ·exact .ndR (cN hR hs (.assign c _) (d1 h)) fun i l1 h1=>.need fun _ h2=>.ok (pB1 rfl (h1.trans h2.leq))
theorem zy3 (c:Cx) (l:Ts) (hs:(Sy.chain c l).meas<=m):Tot (Sy.chain c l).post (zdm R c l):=by
 unfold zdm;refine .ite (fun h=>?_) fun _=>?_
 ·exact .ndR (cN hR hs (.prim c _) (d1 h)) fun n l1 h1=>zb8 rfl (cN hR hs (.chainN n c l1) h1)
 ·exact .ndR (eN hR hs (.prim c l) .rfl (oT rfl)) fun n l1 h1=>zb8 rfl (cX hR hs (.chainL n c l1) h1)
theorem zvk (n:PT) (c:Cx) (l:Ts) (hs:(Sy.chainN n c l).meas<=m):Tot (Sy.chainN n c l).post (zc8 R n c l):=by
 unfold zc8;refine .nbR (eB hR hs (.link n c l) .rfl (oT rfl)) fun x b l1 h1=>.ite (fun hb=>zb8 rfl (cN hR hs (.chainN x c l1) (h1.2 hb))) fun _=>.need fun _ h2=>?_
 exact .lsR (cL hR hs (.list2 zan c _) (h1.1.trans' h2)) fun ks l3 h3=>zb8 rfl (cX hR hs (.chainL _ c l3) h3)
theorem zvl (n:PT) (c:Cx) (l:Ts) (hs:(Sy.chainL n c l).meas<=m):Tot (Sy.chainL n c l).post (zcq R n c l):=by
 unfold zcq;refine .nbR (eB hR hs (.link n c l) .rfl (oT rfl)) fun x b l1 h1=>.ite (fun hb=>zb8 rfl (cX hR hs (.chainL x c l1) (h1.2 hb))) fun _=>.ite (fun h2=>?_) fun _=>.ok (pX rfl rfl h1.1)
 exact .lsR (cL hR hs (.list2 zan c _) (h1.1.trans' (d1 h2))) fun ks l3 h3=>zb8 rfl (cX hR hs (.chainL _ c l3) h3)
theorem zxv (e:Bs) (c:Cx) (l:Ts) (hs:(Sy.list2 e c l).meas<=m):Tot (Sy.list2 e c l).post (zen R e c l):=by
 unfold zen;exact .ite (fun h=>.ok (pL rfl (d1 h))) fun _=>zoi rfl (eL hR hs (.list2L e [] c l) .rfl (oT rfl))
theorem zu3 (e:Bs) (acc:List PT) (c:Cx) (l:Ts) (hs:(Sy.list2L e acc c l).meas<=m):Tot (Sy.list2L e acc c l).post (zcp R e acc c l):=by
 unfold zcp;refine .ndR (eN hR hs (.assign c l) .rfl (oT rfl)) fun n l1 h1=>.ite (fun h=>.ok (pL rfl (h1.trans (d1 h).leq))) fun _=>.need fun _ h2=>?_
 exact zoi rfl (cL hR hs (.list2L e _ c _) (h1.trans h2.leq))
theorem z0n (c:Cx) (l:Ts) (hs:(Sy.prim c l).meas<=m):Tot (Sy.prim c l).post (zdl R c l):=by
 unfold zdl;have hk:∀ {k:Int},kd l 0=k->k ≠ 0->Les l (l.drop 1):=fun h h1=>zav (zaw h h1) 1 (by decide) (by decide)
 refine .ite (fun h=>.ok (pN rfl (hk h (by decide)))) fun _=>.ite (fun h=>.ok (pN rfl (hk h (by decide)))) fun _=>.ite (fun h=>.ok (pN rfl (hk h (by decide)))) fun _=>?_
 refine .ite (fun h=>.ok (pN rfl (d1 h))) fun _=>.ite (fun h=>.ok (pN rfl (d1 h))) fun _=>.ite (fun h=>.ok (pN rfl (d1 h))) fun _=>.ite (fun h=>.ok (pN rfl (d1 h))) fun _=>.ite (fun h=>.ok (pN rfl (d1 h))) fun _=>?_
 refine .ite (fun h=>?_) fun _=>.ite (fun h=>?_) fun _=>.ite (fun h=>?_) fun _=>.ite (fun h=>?_) fun _=>.fail
 ·exact .ndR (cN hR hs (.assign c _) (d1 h)) fun n l1 h1=>.need fun _ h2=>.ok (pN rfl (h1.trans h2.leq))
 ·exact .lsR (cL hR hs (.list2 _ c _) (d1 h)) fun n l1 h1=>.ok (pN rfl h1)
 ·exact .lsR (cL hR hs (.fields c _) (d1 h)) fun n l1 h1=>.ok (pN rfl h1)
 ·exact zb8 rfl (eN hR hs (.func false c l) .rfl (oT rfl))
theorem zvc (c:Cx) (l:Ts) (hs:(Sy.fields c l).meas<=m):Tot (Sy.fields c l).post (zc7 R c l):=by
 unfold zc7;exact .ite (fun h=>.ok (pL rfl (d1 h))) fun _=>zoi rfl (eL hR hs (.fieldsL [] c l) .rfl (oT rfl))
theorem zse (acc:List PT) (c:Cx) (l:Ts) (hs:(Sy.fieldsL acc c l).meas<=m):Tot (Sy.fieldsL acc c l).post (zci R acc c l):=by
 unfold zci;refine .ndR (eN hR hs (.field c l) .rfl (oT rfl)) fun n l1 h1=>.ite (fun h=>.ok (pL rfl (h1.trans (d1 h).leq))) fun _=>.need fun _ h2=>?_
 exact zoi rfl (cL hR hs (.fieldsL _ c _) (h1.trans h2.leq))
theorem zyk (c:Cx) (l:Ts) (hs:(Sy.field c l).meas<=m):Tot (Sy.field c l).post (ze8 R c l):=by
 unfold ze8;refine .ite (fun h=>?_) fun _=>.ite (fun _=>.fail) fun h0=>.ite (fun h=>?_) fun _=>.ite (fun h=>?_) fun _=>.fail
 ·exact .ndR (cN hR hs (.assign c _) (d1 h)) fun k l1 h1=>.need fun _ h2=>.need fun _ h3=>.ndR (cN hR hs (.assign c _) (h1.trans (h2.leq.trans h3.leq))) fun v l4 h4=>.ok (pN rfl h4)
 ·exact .ndR (cN hR hs (.assign c _) (zav (zag h) 2 (by decide) (by decide))) fun v l1 h1=>.ok (pN rfl h1)
 ·exact .ok (pN rfl (zav (zaw h (by decide)) 1 (by decide) (by decide)))
end
theorem zro:∀ (n:Nat) (s:Sy),s.meas < n->Tot s.post (zun n s)
 | 0,_,h=>by omega
 | n + 1,s,h=>by
  have ih:=zro n;have hs:s.meas<=n:=by omega
  rw [z6s]
  cases s with
  | stmt c l=>exact zz9 ih c l hs
  | keyw c l=>exact z1e ih c l hs
  | condn c l=>exact zy0 ih c l hs
  | inner c l=>exact zyd ih c l hs
  | body c l=>exact z11 ih c l hs
  | loops c l=>exact zxq ih c l hs
  | tryS c l=>exact z3u ih c l hs
  | decl c l=>exact zb8 rfl (eN ih hs (.declL _ [] c (l.drop 1)) (List.drop_suffix _ _) (oT rfl))
  | declL k acc c l=>exact zyv ih k acc c l hs
  | block c l=>exact zy8 ih c l hs
  | blockL acc c l=>exact zvp ih acc c l hs
  | func d c l=>exact z1k ih d c l hs
  | arrow c l=>exact zze ih c l hs
  | assign c l=>exact zvs ih c l hs
  | cond c l=>exact z1z ih c l hs
  | opnd k c l=>exact z0o ih k c l hs
  | opndL k x c l=>exact zxf ih k x c l hs
  | unary c l=>exact zwl ih c l hs
  | postf c l=>exact zw7 ih c l hs
  | link x c l=>exact z03 ih x c l hs
  | chain c l=>exact zy3 ih c l hs
  | chainN x c l=>exact zvk ih x c l hs
  | chainL x c l=>exact zvl ih x c l hs
  | list2 e c l=>exact zxv ih e c l hs
  | list2L e acc c l=>exact zu3 ih e acc c l hs
  | prim c l=>exact z0n ih c l hs
  | fields c l=>exact zvc ih c l hs
  | fieldsL acc c l=>exact zse ih acc c l hs
  | field c l=>exact zyk ih c l hs
/- Own work,plain: more fuel changes nothing. -/
def Lf {α:Type} (x y:Re α):Prop:=x=none\/x=y
theorem Lf.rfl {α:Type} {x:Re α}:Lf x x:=.inr (Eq.refl x)
theorem Lf.bnd {α β:Type} {x y:Re α} {k k':α->Ts->Re β} (h:Lf x y) (hk:∀ a l,Lf (k a l) (k' a l)):Lf (bnd x k) (bnd y k'):=by
 rcases h with h|h
 ·subst h;exact .inl (Eq.refl _)
 ·subst h
  match x with
  | none=>exact .inl (Eq.refl _)
  | some none=>exact .rfl
  | some (some (a,l))=>exact hk a l
theorem Lf.ite {α:Type} {c:Prop} [Decidable c] {x y x' y':Re α} (h1:Lf x x') (h2:Lf y y'):Lf (if c then x else y) (if c then x' else y'):=by
 split
 ·exact h1
 ·exact h2
theorem Lf.need {β:Type} {s:Bs} {l:Ts} {k k':Ts->Re β} (hk:∀ l,Lf (k l) (k' l)):Lf (zap s l k) (zap s l k'):=.ite (hk _) .rfl
theorem Lf.name {β:Type} {l:Ts} {k k':Bs->Ts->Re β} (hk:∀ s l,Lf (k s l) (k' s l)):Lf (zb3 l k) (zb3 l k'):=.ite (hk _ _) .rfl
theorem Lf.nd {β:Type} {x y:Re Rv} {k k':PT->Ts->Re β} (h:Lf x y) (hk:∀ n l,Lf (k n l) (k' n l)):Lf (ndR x k) (ndR y k'):=.bnd h fun v l=>by
 cases v with
 | nd n=>exact hk n l
 | nb n b=>exact .rfl
 | ls n=>exact .rfl
theorem Lf.nb {β:Type} {x y:Re Rv} {k k':PT->Bool->Ts->Re β} (h:Lf x y) (hk:∀ n b l,Lf (k n b l) (k' n b l)):Lf (nbR x k) (nbR y k'):=.bnd h fun v l=>by
 cases v with
 | nb n b=>exact hk n b l
 | nd n=>exact .rfl
 | ls n=>exact .rfl
theorem Lf.ls {β:Type} {x y:Re Rv} {k k':List PT->Ts->Re β} (h:Lf x y) (hk:∀ n l,Lf (k n l) (k' n l)):Lf (lsR x k) (lsR y k'):=.bnd h fun v l=>by
 cases v with
 | ls n=>exact hk n l
 | nb n b=>exact .rfl
 | nd n=>exact .rfl
theorem zp0 {R R':Sy->Re Rv} (h:∀ s,Lf (R s) (R' s)) (s:Sy):Lf (zm5 R s) (zm5 R' s):=by
 have hx:∀ c l,Lf (zgo R c l) (zgo R' c l):=fun c l=>by
  unfold zgo;exact .nd (h _) fun n l=>.need fun l=>.rfl
 have hf:∀ c a l,Lf (zbl R c a l) (zbl R' c a l):=fun c a l=>by
  unfold zbl;refine .need fun l1=>?_
  have third:∀ (b:PT) (l2:Ts),Lf (zap zbo l2 fun l3 =>
   if isT l3 0 zan then ndR (R (.body c (l3.drop 1))) fun s l5=>okR (Rv.nd (nd 30 [a,b,nd 37 [],s])) l5
   else ndR (R (.assign c l3)) fun d l4=>zap zan l4 fun l5=>ndR (R (.body c l5)) fun s l6=>okR (Rv.nd (nd 30 [a,b,d,s])) l6) (zap zbo l2 fun l3 =>
   if isT l3 0 zan then ndR (R' (.body c (l3.drop 1))) fun s l5=>okR (Rv.nd (nd 30 [a,b,nd 37 [],s])) l5
   else ndR (R' (.assign c l3)) fun d l4=>zap zan l4 fun l5=>ndR (R' (.body c l5)) fun s l6=>okR (Rv.nd (nd 30 [a,b,d,s])) l6):=fun b l2 =>
   .need fun l3=>.ite (.nd (h _) fun _ _=>.rfl) (.nd (h _) fun _ _=>.need fun _=>.nd (h _) fun _ _=>.rfl)
  exact .ite (third _ _) (.nd (h _) fun _ _=>third _ _)
 have ht:∀ c ks l,Lf (zcz R c ks l) (zcz R' c ks l):=fun c ks l=>by
  unfold zcz;exact .ite (.nd (h _) fun _ _=>.rfl) .rfl
 cases s with
 | stmt c l =>
  show Lf (ze0 R c l) (ze0 R' c l);unfold ze0;exact .ite (.nd (h _) fun _ _=>.need fun _=>.rfl) (.ite (h _) (.ite (h _) (.ite .rfl (.ite (.nb (h _) fun _ _ _=>.ite .rfl (hx _ _)) (hx _ _)))))
 | keyw c l =>
  show Lf (zf9 R c l) (zf9 R' c l);unfold zf9;exact .ite (.nd (h _) fun _ _=>.nd (h _) fun _ _=>.ite (.nd (h _) fun _ _=>.rfl) .rfl) (.ite (.nd (h _) fun _ _=>.nd (h _) fun _ _=>.rfl) (.ite (.nd (h _) fun _ _=>.rfl) (.ite (.ite (.ite .rfl (.nd (h _) fun _ _=>.need fun _=>.rfl)) .rfl) (.ite .rfl (.ite (.nd (h _) fun _ _=>.need fun _=>.rfl) (.ite (.nd (h _) fun _ _=>.rfl) .rfl))))))
 | condn c l =>
  show Lf (zfa R c l) (zfa R' c l);unfold zfa;exact .need fun _=>.nd (h _) fun _ _=>.need fun _=>.rfl
 | inner c l =>
  show Lf (zd2 R c l) (zd2 R' c l);unfold zd2;exact .ite .rfl (h _)
 | body c l =>
  show Lf (zrm R c l) (zrm R' c l);unfold zrm;exact h _
 | loops c l =>
  show Lf (zd1 R c l) (zd1 R' c l);unfold zd1;exact .need fun _=>.ite (.nd (h _) fun _ _=>.need fun _=>.nd (h _) fun _ _=>.rfl) (.ite (.nd (h _) fun _ _=>hf _ _ _) (.ite (hf _ _ _) (.nd (h _) fun _ _=>hf _ _ _)))
 | tryS c l =>
  show Lf (zpo R c l) (zpo R' c l);unfold zpo;exact .nd (h _) fun _ _=>.ite (.ite (.name fun _ _=>.need fun _=>.nd (h _) fun _ _=>ht _ _ _) (.nd (h _) fun _ _=>ht _ _ _)) (ht _ _ _)
 | decl c l =>
  show Lf (zoe R c l) (zoe R' c l);unfold zoe;exact h _
 | declL k acc c l =>
  show Lf (ze9 R k acc c l) (ze9 R' k acc c l);unfold ze9;exact .name fun _ _=>.ite (.nd (h _) fun _ _=>.ite (h _) .rfl) (.ite .rfl (.ite (h _) .rfl))
 | block c l =>
  show Lf (zd3 R c l) (zd3 R' c l);unfold zd3;exact .need fun _=>h _
 | blockL acc c l =>
  show Lf (zcb R acc c l) (zcb R' acc c l);unfold zcb;exact .ite .rfl (.ite .rfl (.nd (h _) fun _ _=>h _))
 | func d c l =>
  show Lf (ze1 R d c l) (ze1 R' d c l);unfold ze1;exact .need fun _=>.ite (.name fun _ _=>.bnd .rfl fun _ _=>.nd (h _) fun _ _=>.rfl) (.bnd .rfl fun _ _=>.nd (h _) fun _ _=>.rfl)
 | arrow c l =>
  show Lf (zdn R c l) (zdn R' c l);unfold zdn;exact .ite (.bnd .rfl fun _ _=>.need fun _=>.ite (.nd (h _) fun _ _=>.rfl) (.nd (h _) fun _ _=>.rfl)) (.name fun _ _=>.need fun _=>.ite (.nd (h _) fun _ _=>.rfl) (.nd (h _) fun _ _=>.rfl))
 | assign c l =>
  show Lf (zb7 R c l) (zb7 R' c l);unfold zb7;exact .ite (h _) (.ite (.ite (.nd (h _) fun _ _=>.rfl) .rfl) (.nd (h _) fun _ _=>.ite (.ite .rfl (.ite (.nd (h _) fun _ _=>.rfl) .rfl)) .rfl))
 | cond c l =>
  show Lf (zhe R c l) (zhe R' c l);unfold zhe;exact .nd (h _) fun _ _=>.ite (.nd (h _) fun _ _=>.need fun _=>.nd (h _) fun _ _=>.rfl) .rfl
 | opnd k c l =>
  show Lf (zev R k c l) (zev R' k c l);unfold zev;exact .ite (h _) (.nd (h _) fun _ _=>h _)
 | opndL k n c l =>
  show Lf (zem R k n c l) (zem R' k n c l);unfold zem;exact .ite (.ite .rfl (.nd (h _) fun _ _=>h _)) .rfl
 | unary c l =>
  show Lf (zdk R c l) (zdk R' c l);unfold zdk;exact .ite (.ite (.ite (.nd (h _) fun _ _=>.rfl) .rfl) (.ite (.nd (h _) fun _ _=>.rfl) (.ite (h _) (.nd (h _) fun _ _=>.rfl)))) (h _)
 | postf c l =>
  show Lf (zel R c l) (zel R' c l);unfold zel;exact .nd (h _) fun _ _=>.rfl
 | link n c l =>
  show Lf (zhd R n c l) (zhd R' n c l);unfold zhd;exact .ite .rfl (.ite (.nd (h _) fun _ _=>.need fun _=>.rfl) .rfl)
 | chain c l =>
  show Lf (zdm R c l) (zdm R' c l);unfold zdm;exact .ite (.nd (h _) fun _ _=>h _) (.nd (h _) fun _ _=>h _)
 | chainN n c l =>
  show Lf (zc8 R n c l) (zc8 R' n c l);unfold zc8;exact .nb (h _) fun _ _ _=>.ite (h _) (.need fun _=>.ls (h _) fun _ _=>h _)
 | chainL n c l =>
  show Lf (zcq R n c l) (zcq R' n c l);unfold zcq;exact .nb (h _) fun _ _ _=>.ite (h _) (.ite (.ls (h _) fun _ _=>h _) .rfl)
 | list2 e c l =>
  show Lf (zen R e c l) (zen R' e c l);unfold zen;exact .ite .rfl (h _)
 | list2L e acc c l =>
  show Lf (zcp R e acc c l) (zcp R' e acc c l);unfold zcp;exact .nd (h _) fun _ _=>.ite .rfl (.need fun _=>h _)
 | prim c l =>
  show Lf (zdl R c l) (zdl R' c l);unfold zdl;exact .ite .rfl (.ite .rfl (.ite .rfl (.ite .rfl (.ite .rfl (.ite .rfl (.ite .rfl (.ite .rfl (.ite (.nd (h _) fun _ _=>.need fun _=>.rfl) (.ite (.ls (h _) fun _ _=>.rfl) (.ite (.ls (h _) fun _ _=>.rfl) (.ite (h _) .rfl)))))))))))
 | fields c l =>
  show Lf (zc7 R c l) (zc7 R' c l);unfold zc7;exact .ite .rfl (h _)
 | fieldsL acc c l =>
  show Lf (zci R acc c l) (zci R' acc c l);unfold zci;exact .nd (h _) fun _ _=>.ite .rfl (.need fun _=>h _)
 | field c l =>
  show Lf (ze8 R c l) (ze8 R' c l);unfold ze8;exact .ite (.nd (h _) fun _ _=>.need fun _=>.need fun _=>.nd (h _) fun _ _=>.rfl) (.ite .rfl (.ite (.nd (h _) fun _ _=>.rfl) .rfl))
theorem zp3:∀ (n:Nat) (s:Sy),Lf (zun n s) (zun (n + 1) s)
 | 0,_=>.inl rfl
 | n + 1,s=>zp0 (zp3 n) s
theorem zs9 {n m:Nat} (h:n<=m) (s:Sy):Lf (zun n s) (zun m s):=by
 induction m with
 | zero=>have:n=0:=by omega
         subst this;exact .rfl
 | succ m ih =>
  rcases Nat.lt_or_ge m n with h1|h1
  ·have:n=m + 1:=by omega
   subst this;exact .rfl
  ·rcases ih h1 with h2|h2
   ·exact .inl h2
   ·rw [h2];exact zp3 m s
def ev (s:Sy):Re Rv:=zun (s.meas + 1) s
theorem z2n {n:Nat} {s:Sy} (h:s.meas < n):zun n s=ev s:=by
 obtain ⟨o,ho,_⟩:=zro (s.meas + 1) s (nLS _)
 rcases zs9 (show s.meas + 1<=n by omega) s with h1|h1
 ·rw [ho] at h1;cases h1
 ·exact h1.symm
theorem zmn (s:Sy):Tot s.post (ev s):=zro _ s (nLS _)
theorem z6r (n:Nat) (s:Sy):Lf (zun n s) (ev s):=by
 rcases Nat.lt_or_ge s.meas n with h|h
 ·exact .inr (z2n h)
 ·exact zs9 (show n<=s.meas + 1 by omega) s
theorem zac (s:Sy):ev s=zm5 ev s:=by
 obtain ⟨o,ho,_⟩:=zmn s;have h:Lf (zun (s.meas + 1) s) (zm5 ev s):=zp0 (z6r s.meas) s
 rcases h with h|h
 ·have h2:ev s=none:=h;rw [ho] at h2;cases h2
 ·exact h
/- Own work,plain: what the parser makes of short expressions. -/
theorem zbd {l z:Ts} {n:Nat} (h:n < l.length) (s:Bs):isT (l++z) n s=isT l n s:=by
 unfold isT tx kd;rw [List.getElem?_append_left h]
theorem zlo {l z:Ts} {n:Nat} (h:n < l.length):kd (l++z) n=kd l n:=by
 unfold kd;rw [List.getElem?_append_left h]
theorem zuh {l z:Ts} {n:Nat} (h:n < l.length):tx (l++z) n=tx l n:=by
 unfold tx;rw [List.getElem?_append_left h]
theorem z5c {l:Ts} {n:Nat} {s:Bs} (h:kd l n ≠ 2) (h':kd l n ≠ 5):isT l n s=false:=by
 unfold isT;simp [h,h']
theorem zg7 {l:Ts} {n:Nat} {s s':Bs} (h:isT l n s=true) (hne:s ≠ s'):isT l n s'=false:=by
 unfold isT at h ⊢;simp only [bAT,decide_eq_true_eq] at h;rw [h.1,dF hne];rfl
theorem zjm {l:Ts} {n:Nat} {s:Bs} (h:isT l n s=true):kd l n=2\/kd l n=5:=by
 unfold isT at h;simp only [bAT,Bool.or_eq_true,decide_eq_true_eq] at h;exact h.2
theorem zii {l:Ts} {n:Nat} {s:Bs} (h:isT l n s=true):tx l n=s:=by
 unfold isT at h;simp only [bAT,decide_eq_true_eq] at h;exact h.1
structure Stq (l:Ts):Prop where
 dot:isT l 0 wDot=false
 lbr:isT l 0 zng=false
 lpar:isT l 0 zbm=false
 pun:kd l 0 ≠ 5\/zbz (tx l 0) 28 2=0
structure Stp (l:Ts):Prop extends Stq l where
 quest:isT l 0 zpw=false
 arr:isT l 0 zf3=false
 op:(kd l 0 ≠ 5/\kd l 0 ≠ 2)\/∀ fr cnt,(fr,cnt) ∈ [(22,2),(21,1),(11,4),(15,6),(6,2),(8,3)]->zbz (tx l 0) fr cnt=0
structure Stop (l:Ts):Prop extends Stp l where
 asg:kd l 0 ≠ 5\/zbz (tx l 0) 24 4=0
theorem Stp.bin {l:Ts} (h:Stp l) (k:Nat):(decide (kd l 0=5) || decide (kd l 0=2))=false\/zbz (tx l 0) (zzv k).1 (zzv k).2=0:=by
 rcases h.op with h|h
 ·left
  rw [dF h.1,dF h.2];rfl
 ·right
  refine h _ _ ?_;unfold zzv
  split <;> decide
def z30 (s:Bs):Bool:=decide (s=zan) || (decide (s=zpm) || (decide (s=zsz) || (decide (s=zbo) || (decide (s=zcv) || decide (s=zid)))))
theorem zfk:Stop []:=⟨⟨⟨rfl,rfl,rfl,.inl (by decide)⟩,rfl,rfl,.inl ⟨by decide,by decide⟩⟩,.inl (by decide)⟩
abbrev Mk (s:Sy) (v:Rv) (r:Ts):Prop:=ev s=some (some (v,r))
theorem zll {n:PT} {c:Cx} {r:Ts} (k:Nat) (hs:Stp r):Mk (.opndL k n c r) (.nd n) r:=by
 unfold Mk;rw [zac];show zem ev k n c r=_;unfold zem okR
 rcases hs.bin k with h|h
 ·rw [h];rfl
 ·split
  ·first|rfl|rw [if_pos h]
  ·rfl
theorem zrz {n:PT} {c:Cx} {l r:Ts} (h:Mk (.opnd 0 c l) (.nd n) r) (hs:isT r 0 zpw=false):Mk (.cond c l) (.nd n) r:=by
 unfold Mk at h ⊢;rw [zac];show zhe ev c l=_;unfold zhe;rw [h];show (if isT r 0 zpw=true then _ else _)=_
 rw [hs];rfl
theorem zqg {n:PT} {c:Cx} {l r:Ts} (h:Mk (.cond c l) (.nd n) r) (ha:zbh l=0) (hy:isT l 0 zne=false) (hs:kd r 0 ≠ 5\/zbz (tx r 0) 24 4=0):Mk (.assign c l) (.nd n) r:=by
 unfold Mk at h ⊢;rw [zac];show zb7 ev c l=_;unfold zb7;rw [if_neg (by omega),hy,if_neg (by decide),h]
 show (if kd r 0=5 then _ else _)=_
 rcases hs with h5|h5
 ·rw [if_neg h5];rfl
 ·split
  ·first|rfl|(rw [if_pos h5];rfl)
  ·rfl
theorem z0y {n:PT} {c:Cx} {r:Ts} (hs:Stq r):Mk (.link n c r) (.nb n false) r:=by
 unfold Mk;rw [zac];show zhd ev n c r=_;unfold zhd;rw [hs.dot,hs.lbr];rfl
theorem zxl {n:PT} {c:Cx} {r:Ts} (hs:Stq r):Mk (.chainL n c r) (.nd n) r:=by
 unfold Mk;rw [zac];show zcq ev n c r=_;unfold zcq;rw [z0y hs];show (if isT r 0 zbm=true then _ else _)=_
 rw [hs.lpar];rfl
theorem z0z {n:PT} {c:Cx} {l r:Ts} (h:Mk (.prim c l) (.nd n) r) (hn:isT l 0 z6g=false) (hs:Stq r):Mk (.chain c l) (.nd n) r:=by
 unfold Mk at h ⊢;rw [zac];show zdm ev c l=_;unfold zdm;rw [hn,h];show ev (.chainL n c r)=_;exact zxl hs
theorem z0x {n:PT} {c:Cx} {l r:Ts} (h:Mk (.chain c l) (.nd n) r) (hs:Stq r):Mk (.postf c l) (.nd n) r:=by
 unfold Mk at h ⊢;rw [zac];show zel ev c l=_;unfold zel;rw [h];show (if kd r 0=5 then _ else _)=_
 rcases hs.pun with h5|h5
 ·rw [if_neg h5];rfl
 ·split
  ·first|rfl|(rw [if_pos h5];rfl)
  ·rfl
def zex (l:Ts):Bool:=(decide (kd l 0=5) || decide (kd l 0=2)) && (decide (tx l 0=zni) || (decide (zbz (tx l 0) 28 2 ≠ 0) || decide (zbz (tx l 0) 1 5 ≠ 0)))
theorem z0w {n:PT} {c:Cx} {l r:Ts} (h:Mk (.postf c l) (.nd n) r) (hp:zex l=false):Mk (.unary c l) (.nd n) r:=by
 unfold Mk at h ⊢;rw [zac];show zdk ev c l=_;unfold zdk;unfold zex at hp
 split
 ·rename_i h5;rw [h5,Bool.true_and] at hp;simp only [Bool.or_eq_false_iff,decide_eq_false_iff_not,Classical.not_not] at hp;rw [if_neg hp.1,if_neg (by rw [Classical.not_not];exact hp.2.1),if_pos hp.2.2]
  exact h
 ·exact h
theorem zeb {n:PT} {c:Cx} {l r:Ts} (h:Mk (.prim c l) (.nd n) r) (hn:isT l 0 z6g=false) (hp:zex l=false) (hs:Stq r):Mk (.unary c l) (.nd n) r:=z0w (z0x (z0z h hn hs) hs) hp
theorem z23 {c:Cx} {l:Ts} (h:kd l 0=3):Mk (.prim c l) (.nd (.mk 5 [] (zj2 (tx l 0):Nat) 0 [])) (l.drop 1):=by
 unfold Mk;rw [zac];show zdl ev c l=_;unfold zdl;rw [if_neg (by rw [h];decide),if_neg (by rw [h];decide),if_pos h]
 rfl
end Go.Proofs.YtcfecmeocimclaaGreatDoor

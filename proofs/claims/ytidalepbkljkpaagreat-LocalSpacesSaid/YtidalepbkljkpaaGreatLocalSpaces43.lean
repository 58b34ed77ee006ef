import Derived.Test.YtidalepbkljkpaaGreatLocalSpaces34
import Derived.Test.YtidalepbkljkpaaGreatLocalSpaces42
import Derived.Test.YtidalepbkljkpaaGreatLocalSpaces32
import Derived.Test.YtidalepbkljkpaaGreatLocalSpaces33
import Derived.Test.YtidalepbkljkpaaGreatLocalSpaces11
set_option linter.all false
namespace Go.Proofs.YtidalepbkljkpaaGreat
set_option maxHeartbeats 1000000
set_option maxRecDepth 100000
section
open Go.RowKit Go.H
variable {c c' : Nat → Nat} {w w' : World} {sp tp pos : Nat} {Z : TSt}
theorem nilB {F:Nat→Prop} {w:World}:BytesAt F w (.slice none 0 0) []:=⟨none,0,rfl,Nat.le_refl _,by unfold maxLen;omega,fun h=>absurd rfl h⟩
theorem zhw {s:Int} {k v:Bs} {bare:Bool} (h:rightL s k v bare=0):(∃n:Nat,s=(n:Int)∧n<16)∧(bare=false→k≠[])∧k.length≤60∧v.length≤1800:=by
 unfold rightL at h
 split at h
 · cases h
 · rename_i h1
   split at h
   · cases h
   · exact⟨⟨s.toNat,by omega,by omega⟩,fun hb e=>h1 (.inr (.inr ⟨e,hb⟩)),by omega,by omega⟩
theorem zhx {s:Nat} {k:Bs} (hk:k.length≤60):wrong (pk s k) []=0:=by
 unfold wrong pk
 rw[if_neg (by simp),if_neg (by simp;omega)]
theorem zhy {F:Nat→Prop} {kv:Value} {s:Int} {k:Bs} (h:LocAt c w sp tp Z pos) (hk:BytesAt F w kv k) :
 Calls Tryz.prog 29 #[.pointer (some ⟨sp,0,none⟩),.int .i64 s,kv] w fun e w'=>∃A m cp,e=.returned (.tuple #[.slice A m cp,.bool (decide (rightL s k [] false=0) && (getL (pk s.toNat k) (rootL Z.now)).isSome),.int .i64 (rightL s k [] false:Int)])∧Hid (Fr C0 w w'∧(rightL s k [] false=0→∀b,getL (pk s.toNat k) (rootL Z.now)=some b→BytesAt (fun b=>w.heap.size≤b) w' (.slice A m cp) b)):=by
 have HD:=zhd h.dead
 have HR:=zhd (fun (w_:World) (hf:Fr C0 w w_)=>zg5 (s:=s) (bare:=false) (hk.fr0 hf) (nilB (F:=fun _=>True) (w:=w_)))
 have HH:=zhd h
 have HK:=zhd hk
 have c0:=h.c0
 obtain⟨A,cp,rfl,-⟩:=hk.form
 obtain⟨r,hr⟩:∃r,r=rightL s k [] false:=⟨_,rfl⟩
 rw[←hr] at HR⊢
 have HRR:=zhd hr
 clear h hk hr
 by_cases h0:r=0
 · obtain⟨⟨n,rfl,hn⟩,-,hk60,-⟩:=zhw (HRR.out.symm.trans h0)
   have HI:=zhd (fun (w_:World) (hf:Fr C0 w w_)=>zg6 (s:=n) (by omega) (HK.out.fr0 hf) (by omega))
   have HG:=zhd (fun (w_:World) (v:Value) (hf:Fr C0 w w_) (hv:BytesAt (fun b=>w.heap.size≤b) w_ v (pk n k))=>zeq (HH.out.fr0 hf).t (hv.mono (F':=Dt c) (fun b hb _=>HH.out.cl b hb)) (zhx hk60))
   rw[Int.toNat_natCast]
   subst h0
   clear HRR HK
   go_enter Tryz.func29,Tryz.ntmps29
   go_wp2_with fail
   refine HD.out.mono ?_
   rintro e w1 ⟨rfl,rfl⟩
   go_wp2_with fail
   refine(HR.out _ (Fr.refl C0 w).drew).mono ?_
   rintro e w1 ⟨rfl,rfl⟩
   go_wp2_with fail
   refine z1z (Fr C0 w) [] (by kernel_rfl) ?_
   have hSw0:(Fr C0 w) _:=(Fr.refl C0 w).drew.drew
   refine tk 0 hSw0 ?_
   refine tk 1 hSw0 ?_
   refine tk 2 hSw0 ?_
   refine tk 3 hSw0 ?_ (hy:=by intro w_ hS_;have b0:=hS_.cell0 c0;first|(go_simp;done)|(go_simp;with_reducible rfl))
   refine tk 4 hSw0 ?_
   refine tk 5 hSw0 ?_
   refine one_ 6 rfl (fun K hK=>?_)
   go_simp
   refine(HI.out _ (Fr.refl C0 w).drew.drew).mono ?_
   rintro e w2 ⟨A2,m2,p2,rfl,f2,o2⟩
   have F2:=zhd ((Fr.refl C0 w).drew.drew.trans0 f2)
   have B2:=zhd (o2.mono (F':=fun b=>w.heap.size≤b) (fun b h _=>h))
   clear f2 o2
   simp only[]
   refine hK.out _ _ ?kS1 (fun hSw1=>?kR1)
   case kS1=>exact F2.out
   clear hK K
   try simp only[Act.put,zs1,zs2,zs3]
   refine one_ 7 rfl (fun K hK=>?_)
   go_simp
   refine(HG.out _ _ F2.out B2.out).mono ?_
   rintro e w3 ⟨f3,h3⟩
   have F3:=zhd (F2.out.trans0 f3)
   have hsh:∃A m cp ok,e=.returned (.tuple #[.slice A m cp,.bool ok,.int .i64 0])∧ok=(getL (pk n k) (rootL Z.now)).isSome∧Hid (∀b,getL (pk n k) (rootL Z.now)=some b→BytesAt (fun b=>w.heap.size≤b) w3 (.slice A m cp) b):=by
    rcases h3 with⟨hX,_⟩|h3
    · exact hX.elim
    · cases hg:getL (pk n k) (rootL Z.now) with
      |none=>rw[hg] at h3;exact⟨_,_,_,_,h3,rfl,zhd fun b e=>by cases e⟩
      | some b =>
        rw[hg] at h3
        obtain⟨v,h4,hb⟩:=h3
        obtain⟨A,cp,rfl,-⟩:=hb.form
        exact⟨_,_,_,_,h4,rfl,zhd fun b' e=>by injection e with e;subst e;exact hb.mono fun b hb _=>by have:=F2.out.size;omega⟩
   clear h3 f3
   obtain⟨RA,rm,rc,rok,rfl,hok,HB⟩:=hsh
   have HOK:=zhd hok
   clear hok
   simp only[]
   refine hK.out _ _ ?kS2 (fun hSw2=>?kR2)
   case kS2=>exact F3.out
   clear hK K
   try simp only[Act.put,zs1,zs2,zs3]
   refine tk 8 hSw2 ?_
   refine tk 9 hSw2 ?_
   refine tk 10 hSw2 ?_
   refine tk 11 hSw2 ?_
   refine tk 12 hSw2 ?_
   refine tk 13 hSw2 ?_
   refine z1y (by kernel_rfl) ?_ _
   go_wp2_with fail
   go_ret3
   refine⟨RA,rm,rc,congrArg (fun b=>Ending.returned (.tuple #[.slice RA rm rc,.bool b,.int .i64 0])) ?_,zhd ⟨F3.out,fun _=>HB.out⟩⟩
   rw[HOK.out]
   simp
 · have hr1:((r:Int) != 0)=true:=by simp[bne,z32];omega
   go_enter Tryz.func29,Tryz.ntmps29
   go_wp2_with fail
   refine HD.out.mono ?_
   rintro e w1 ⟨rfl,rfl⟩
   go_wp2_with fail
   refine(HR.out _ (Fr.refl C0 w).drew).mono ?_
   rintro e w1 ⟨rfl,rfl⟩
   go_wp2_with fail
   go_ret3
   refine⟨none,0,0,?_,zhd ⟨(Fr.refl C0 w).drew,fun e=>absurd e h0⟩⟩
   simp[h0]
end
section
open Go.RowKit Go.H
variable {c c' : Nat → Nat} {w w' : World} {dp sp tp : Nat} {Z : TSt} {lv : Value} {L : List Chg}
def lastC (L:List Chg) (s:Int) (k:Bs):Option Chg:=L.reverse.find? fun x=>decide (x.space=s∧x.key=k)
end
section
open Go.RowKit Go.H
structure Act13 where
 kind:Int
 n:Int
 space:Int
 key:Bs
 value:Bs
instance:Inhabited Act13:=⟨⟨0,0,0,[],[]⟩⟩
structure ActAtS (F:Nat→Prop) (w:World) (g o:Nat) (kv vv:Value) (x:Act13):Prop where
 c0:w.cell? ⟨g,o,none⟩=some (.int .i64 x.kind)
 c1:w.cell? ⟨g,o+1,none⟩=some (.int .i64 x.n)
 c2:w.cell? ⟨g,o+2,none⟩=some (.int .i64 x.space)
 c3:w.cell? ⟨g,o+3,none⟩=some kv
 c4:w.cell? ⟨g,o+4,none⟩=some vv
 key:BytesAt F w kv x.key
 value:BytesAt F w vv x.value
def ActsS (F:Nat→Prop) (w:World) (v:Value) (l:List Act13):Prop:=∃A c,v=.slice A l.length c∧l.length≤c∧c≤maxLen∧∀(i:Nat) (h:i<l.length),∃g o kv vv,A=some ⟨g,o,none⟩∧F g∧ActAtS F w g (o+i*5) kv vv l[i]
def chg13 (x:Act13):List Chg:=
 if x.kind=1 then(if rightL x.space (x.key.take 62) [] false=0 then[⟨x.space,x.key.take 62,[],true⟩] else[])
 else(if rightL x.space (x.key.take 62) (x.value.take 62) false=0 then[⟨x.space,x.key.take 62,x.value.take 62,false⟩] else[])
theorem zhz {α:Type} (l:List α) (n:Nat):l.take (l.take n).length=l.take n:=by
 rw[List.length_take]
 by_cases h:n≤l.length
 · rw[Nat.min_eq_left h]
 · rw[Nat.min_eq_right (by omega),List.take_length,List.take_of_length_le (by omega)]
variable {c c' : Nat → Nat} {w w' : World} {dp sp tp : Nat} {Z : TSt} {lv : Value} {L : List Chg}
end
section
open Go.RowKit Go.H Go.ChangeShapes Go.WideShapes Go.ChangeAt Go.Deep
theorem zi0 {w:World} {base:Nat} {a:Addr} {n:Nat} {cs:List Value} (h:w.cells? base a n=some cs) {i:Nat} (hi:i<n) {v:Value} (hv:cs[i]?=some v):w.cell? (a.add i)=some v:=by
 obtain⟨h1,h2,h3⟩:=World.cells?_some h
 rw[h3 i hi,hv]
theorem zi1 {α:Type} {xs:List α} (h:xs.length=3):∃a b c,xs=[a,b,c]:=by
 match xs,h with
 |[a,b,c],_=>exact⟨a,b,c,rfl⟩
section
variable {H : Type} {enc : TypeId × Value → H} {w : World} {base : Nat}
theorem zi2 {t e:TypeId} {fuel:Nat} {v:Value} {x:DataW H×List MemPlace} (ht:Tryz.prog.underlying t=some (.slice e)) (he:Tryz.prog.underlying e=some (.int .u8)) (hc:Tryz.prog.cellsOf e=1) (h:DataW.trod enc Tryz.prog w 0 (fun _=>true) true fuel t [v]=some x):∃l,BytesAt (fun _=>True) w v l:=by
 rcases open_ints ht he hc h with⟨hcs,-⟩|⟨a',len',cap',zs,hcs,hb,hl,hm,hz,hx,hcell,hwz⟩
 · simp only[List.cons.injEq,and_true] at hcs
   subst hcs
   exact⟨[],none,0,rfl,Nat.le_refl _,Nat.zero_le _,fun h=>absurd rfl h⟩
 · simp only[List.cons.injEq,and_true] at hcs
   subst hcs
   simp only[if_true] at hz
   exact⟨_,zex (zs:=zs) hl hm hz hwz (fun h=>by cases h) (fun a' e c hc=>by cases e;exact hcell c (by omega))⟩
theorem zi3:Tryz.prog.cellsOf 42=3:=by kernel_rfl
theorem zi4:Tryz.prog.cellsOf 3=1:=by kernel_rfl
end
end
section
open Go.RowKit Go.H
abbrev OwnL (c:Nat→Nat):Nat→Prop:=fun b=>c b=1∨c b=2∨c b=3∨c b=7
def ChgR (F G:Nat→Prop) (w:World) (v:Value) (l:List Chg):Prop:=∃A c,v=.slice A l.length c∧l.length≤c∧c≤maxLen∧∀(i:Nat) (hi:i<l.length),∃g o kv vv,A=some ⟨g,o,none⟩∧F g∧w.cell? ⟨g,o+i*4,none⟩=some (.int .i64 l[i].space)∧w.cell? ⟨g,o+i*4+1,none⟩=some kv∧w.cell? ⟨g,o+i*4+2,none⟩=some vv∧w.cell? ⟨g,o+i*4+3,none⟩=some (.bool l[i].gone)∧BytesAt F w kv l[i].key∧BytesAt G w vv l[i].value
theorem ChgR.fr {F G C:Nat→Prop} {w w':World} {v:Value} {l:List Chg} (h:ChgR F G w v l) (hf:Fr C w w') (hd:∀b,F b→¬C b) (hg:∀b,G b→¬C b):ChgR F G w' v l:=by
 obtain⟨A,c,e,h1,h2,h3⟩:=h
 refine⟨A,c,e,h1,h2,fun i hi=>?_⟩
 obtain⟨g,o,kv,vv,e,hF,a0,a1,a2,a3,a4,a5⟩:=h3 i hi
 exact⟨g,o,kv,vv,e,hF,hf.cell a0 (hd g hF),hf.cell a1 (hd g hF),hf.cell a2 (hd g hF),hf.cell a3 (hd g hF),a4.fr hf hd,a5.fr hf hg⟩
theorem ChgR.fr0 {F G:Nat→Prop} {w w':World} {v:Value} {l:List Chg} (h:ChgR F G w v l) (hf:Fr C0 w w'):ChgR F G w' v l:=h.fr hf (fun _ _ e=>e) (fun _ _ e=>e)
theorem ChgR.mono {F F' G G':Nat→Prop} {w:World} {v:Value} {l:List Chg} (h:ChgR F G w v l) (hF:∀b,F b→b<w.heap.size→F' b) (hG:∀b,G b→b<w.heap.size→G' b):ChgR F' G' w v l:=by
 obtain⟨A,c,e,h1,h2,h3⟩:=h
 refine⟨A,c,e,h1,h2,fun i hi=>?_⟩
 obtain⟨g,o,kv,vv,e,hFg,a0,a1,a2,a3,a4,a5⟩:=h3 i hi
 exact⟨g,o,kv,vv,e,hF g hFg (World.block_lt_of_cell? w _ a0),a0,a1,a2,a3,a4.mono hF,a5.mono hG⟩
theorem ChgR.form {F G:Nat→Prop} {w:World} {v:Value} {l:List Chg} (h:ChgR F G w v l):∃A c,v=.slice A l.length c∧l.length≤c∧c≤maxLen:=by
 obtain⟨A,c,e,h1,h2,_⟩:=h
 exact⟨A,c,e,h1,h2⟩
theorem ChgR.at_ {F G:Nat→Prop} {w:World} {A:Option Addr} {c:Nat} {l:List Chg} (h:ChgR F G w (.slice A l.length c) l) (i:Nat) (hi:i<l.length):∃g o kv vv,A=some ⟨g,o,none⟩∧F g∧w.cell? ⟨g,o+i*4,none⟩=some (.int .i64 l[i].space)∧w.cell? ⟨g,o+i*4+1,none⟩=some kv∧w.cell? ⟨g,o+i*4+2,none⟩=some vv∧w.cell? ⟨g,o+i*4+3,none⟩=some (.bool l[i].gone)∧BytesAt F w kv l[i].key∧BytesAt G w vv l[i].value:=by
 obtain⟨A',c',e,h1,h2,h3⟩:=h
 injection e with e1 e2 e3
 subst e1
 exact h3 i hi
structure LayAt (c:Nat→Nat) (w:World) (sp tp:Nat) (Z:TSt) (p0:Nat):Prop where
 t:TreeAt c 1 2 3 w tp Z 0
 blk:w.heap[sp]?=some (.cells (LocCells tp p0 (rootL Z.now)) 91 (0,0))
 own:c sp=7
theorem LocAt.lay {c:Nat→Nat} {w:World} {sp tp pos:Nat} {Z:TSt} (h:LocAt c w sp tp Z pos):LayAt c w sp tp Z pos:=⟨h.t,h.blk,h.own⟩
variable {c c' : Nat → Nat} {w w' : World} {sp tp p0 : Nat} {Z : TSt}
theorem LayAt.fr0 (h:LayAt c w sp tp Z p0) (hf:Fr C0 w w'):LayAt c w' sp tp Z p0:=
 ⟨h.t.fr hf (fun _ e=>e.elim) (fun _ e=>e.elim) (fun _ e=>e.elim) (fun _ e=>e.elim),hf.blk h.blk (fun e=>e),h.own⟩
theorem LayAt.cl (h:LayAt c w sp tp Z p0):Cl w c:=h.t.cl
theorem LayAt.c0 (h:LayAt c w sp tp Z p0):w.cell? ⟨sp,0,none⟩=some (.pointer (some ⟨tp,0,none⟩)):=z2k h.blk 0 rfl
theorem zi5 (tp p0:Nat) (La:List KV):(LocCells tp p0 La).size=18:=by simp[LocCells]
theorem zi6 {tp p0 s:Nat} {La:List KV} (hs:s<16):(LocCells tp p0 La)[2+s]?=some (.int .i64 (cntS s La:Int)):=by
 unfold LocCells
 rw[Array.getElem?_append]
 simp[hs]
theorem zi7 {tp p0 s:Nat} {La Lb:List KV} (hs:s<16) (hn:∀t,t<16→t≠s→cntS t Lb=cntS t La):(LocCells tp p0 La).setIfInBounds (2+s) (.int .i64 (cntS s Lb:Int))=LocCells tp p0 Lb:=by
 apply Array.ext_getElem?
 intro i
 rw[Array.getElem?_setIfInBounds]
 by_cases h:2+s=i
 · subst h
   rw[if_pos rfl,zi6 hs,if_pos (by rw[zi5];omega)]
 · rw[if_neg h]
   unfold LocCells
   rw[Array.getElem?_append,Array.getElem?_append]
   by_cases h2:i<2
   · rw[if_pos (by simpa using h2),if_pos (by simpa using h2)]
   · rw[if_neg (by simpa using h2),if_neg (by simpa using h2)]
     by_cases h3:i-2<16
     · have:=hn (i-2) h3 (by omega)
       simp[h3,this]
     · simp[h3]
theorem zi8 {tp p0 p1:Nat} {La:List KV}:(LocCells tp p0 La).setIfInBounds 1 (.int .i64 (p1:Int))=LocCells tp p1 La:=by
 apply Array.ext_getElem?
 intro i
 rw[Array.getElem?_setIfInBounds,zi5]
 by_cases h:1=i
 · subst h
   simp[LocCells]
 · rw[if_neg h]
   unfold LocCells
   rw[Array.getElem?_append,Array.getElem?_append]
   by_cases h2:i<2
   · obtain rfl:i=0:=by omega
     simp
   · rw[if_neg (by simpa using h2),if_neg (by simpa using h2)]
     rfl
theorem zi9 (x:KV):∀L:List KV,(putL x L).length≤L.length+1
 |[]=>by simp[putL]
 | y :: L => by
   have:=zi9 x L
   simp only[putL]
   split
   · simp
   · split
     · simp
     · simp only[List.length_cons];omega
theorem zia (s:Nat) (La:List KV):cntS s La≤La.length:=List.length_filter_le _ _
theorem zib {La:List KV} {x:Chg} {s:Nat} (hx:x.space=(s:Int)) (hok:okC x):(∀t,t<16→t≠s→cntS t (stepC La x)=cntS t La)∧(cntS s (stepC La x):Int)=cntS s La+((stepC La x).length-La.length)∧(stepC La x).length≤La.length+1:=by
 obtain⟨h1,h2,h3,h4,h5⟩:=zfu hok
 have hs:s<16:=by omega
 have hk:x.key≠[]:=fun e=>by rw[e] at h3;simp at h3
 have hkc:keyC x=pk s x.key:=by unfold keyC;rw[hx];rfl
 unfold stepC
 rw[hkc]
 cases x.gone with
 | true =>
   simp only[if_true]
   refine⟨fun t ht hne=>?_,?_,?_⟩
   · exact(zfq (zfr t) (pk s x.key,[]) La).2 (by rw[zfs (by omega) (by omega) hk];exact decide_eq_false hne)
   · have:=(zfq (zfr s) (pk s x.key,[]) La).1 (by rw[zfs (by omega) (by omega) hk];exact decide_eq_true rfl)
     simp only at this
     unfold cntS
     omega
   · have:=(zfb (pk s x.key) La).length_le
     omega
 | false =>
   simp only[Bool.false_eq_true,if_false]
   refine⟨fun t ht hne=>?_,?_,?_⟩
   · exact(zfp (zfr t) (pk s x.key,x.value) La).2 (by rw[zfs (by omega) (by omega) hk];exact decide_eq_false hne)
   · have:=(zfp (zfr s) (pk s x.key,x.value) La).1 (by rw[zfs (by omega) (by omega) hk];exact decide_eq_true rfl)
     unfold cntS
     omega
   · exact zi9 _ _
theorem zic:∀(l:List Chg) (La:List KV),(∀x∈l,okC x)→(foldC La l).length≤La.length+l.length
 |[],La,_=>by simp[foldC]
 | x :: l, La, h => by
   have hx:=h x (by simp)
   obtain⟨h1,h2,-⟩:=zfu hx
   have h3:=(zib (La:=La) (x:=x) (s:=x.space.toNat) (by omega) hx).2.2
   have h4:=zic l (stepC La x) (fun y hy=>h y (List.mem_cons_of_mem _ hy))
   have h5:foldC La (x::l)=foldC (stepC La x) l:=rfl
   rw[h5,List.length_cons]
   omega
theorem zid (La:List KV) (l:List Chg) (x:Chg):foldC La (l++[x])=stepC (foldC La l) x:=by unfold foldC;rw[List.foldl_append];rfl
theorem LayAt.turn {p1:Nat} {cs:Array Value} {i:Nat} {u:Value} (h:TreeAt c 1 2 3 w tp Z 0) (hb:w.heap[sp]?=some (.cells cs 91 (0,0))) (hown:c sp=7) (hcs:cs.setIfInBounds i u=LocCells tp p1 (rootL Z.now)):LayAt c (w.setCell ⟨sp,i,none⟩ u) sp tp Z p1:=by
 have fs:=(Fr.refl (fun b=>b=sp) w).setCell (p:=⟨sp,i,none⟩) (.inr rfl) u
 have hcl:Cl (w.setCell ⟨sp,i,none⟩ u) c:=h.cl.mono fs.size
 refine⟨h.moveC fs (Ag.refl _ _) hcl (fun b e=>?_) (fun b e=>?_) (fun b e=>?_) (fun b e=>?_),?_,hown⟩
 · have e2:b=sp:=e
   rw[e2,hown];decide
 · have e2:b=sp:=e
   rw[e2,hown];decide
 · have e2:b=sp:=e
   rw[e2,hown];decide
 · have e2:b=sp:=e
   rw[e2,hown];decide
 · rw[z2j hb,hcs]
end
end Go.Proofs.YtidalepbkljkpaaGreat
namespace Go.H
section
def atN (k:List UInt8):List KV→Nat
 |[]=>0
 |y::l=>if bcmp y.1 k<0 then atN k l+1 else 0
def atB (k:List UInt8):List KV→Bool
 |[]=>false
 |y::l=>if bcmp y.1 k<0 then atB k l else decide (y.1=k)
end
end Go.H
namespace Go.Proofs.YtidalepbkljkpaaGreat
open Go.RowKit Go.H
set_option maxHeartbeats 2000000
set_option maxRecDepth 100000
section
end
section
variable {c c' : Nat → Nat} {w w' : World} {sp tp p0 : Nat} {Z : TSt}
theorem own1:Owners 1 2 3:=⟨by omega,by omega,by omega,by omega,by omega,by omega⟩
structure LayW (c:Nat→Nat) (w:World) (sp tp:Nat) (Z:TSt) (p0:Nat) (La:List KV) (c1:Nat→Nat) (w1:World):Prop where
 ag:Ag w.heap.size c c1
 fr:Fr (OwnL c) w w1
 ex:∃o g,LayAt c1 w1 sp tp { Z with now:=o,gone:=g } p0∧rootL o=La
theorem LayW.start (h:LayAt c w sp tp Z p0):LayW c w sp tp Z p0 (rootL Z.now) c w:=⟨Ag.refl _ _,Fr.refl _ _,Z.now,Z.gone,h,rfl⟩
theorem LayW.fr0 {La:List KV} {c1:Nat→Nat} {w1 w2:World} (h:LayW c w sp tp Z p0 La c1 w1) (hf:Fr C0 w1 w2):LayW c w sp tp Z p0 La c1 w2:=by
 obtain⟨a,b,o,g,l,e⟩:=h
 exact⟨a,b.trans0 hf,o,g,l.fr0 hf,e⟩
theorem LayW.cl {La:List KV} {c1:Nat→Nat} {w1:World} (h:LayW c w sp tp Z p0 La c1 w1):Cl w1 c1:=by
 obtain⟨a,b,o,g,l,e⟩:=h
 exact l.cl
theorem LayW.c0 {La:List KV} {c1:Nat→Nat} {w1:World} (h:LayW c w sp tp Z p0 La c1 w1):w1.cell? ⟨sp,0,none⟩=some (.pointer (some ⟨tp,0,none⟩)):=by
 obtain⟨a,b,o,g,l,e⟩:=h
 exact l.c0
theorem LayW.row {La:List KV} {c1:Nat→Nat} {w1:World} {v:Value} {l:List Chg} (h:LayW c w sp tp Z p0 La c1 w1) (hl:ChgR (fun b=>b<w.heap.size∧¬OwnL c b) (fun b=>b<w.heap.size∧c b=0) w v l):ChgR (fun b=>b<w1.heap.size∧¬OwnL c1 b) (Dt c1) w1 v l:=by
 have hs:=h.fr.size
 refine(hl.fr h.fr (fun b hb=>hb.2) (fun b hb e=>?_)).mono (fun b hb _=>⟨by omega,?_⟩) (fun b hb _=>(h.ag b hb.1).trans hb.2)
 · have h1:=hb.2
   have e':c b=1∨c b=2∨c b=3∨c b=7:=e
   omega
 · show ¬(c1 b=1∨c1 b=2∨c1 b=3∨c1 b=7)
   rw[h.ag b hb.1]
   exact hb.2
structure LayT (c:Nat→Nat) (w:World) (sp tp:Nat) (Z:TSt) (p0:Nat) (La Lb:List KV) (c1:Nat→Nat) (w1:World):Prop where
 ag:Ag w.heap.size c c1
 fr:Fr (OwnL c) w w1
 ex:∃o g,TreeAt c1 1 2 3 w1 tp { Z with now:=o,gone:=g } 0∧rootL o=Lb
 blk:w1.heap[sp]?=some (.cells (LocCells tp p0 La) 91 (0,0))
 own:c1 sp=7
theorem LayT.count {La Lb:List KV} {c1:Nat→Nat} {w1:World} {s:Nat} (h:LayT c w sp tp Z p0 La Lb c1 w1) (hc7:c sp=7) (hs:s<16) (hn:∀t,t<16→t≠s→cntS t Lb=cntS t La):LayW c w sp tp Z p0 Lb c1 (w1.setCell ⟨sp,2+s,none⟩ (.int .i64 (cntS s Lb:Int))):=by
 obtain⟨a,b,⟨o,g,t,e⟩,k,u⟩:=h
 refine⟨a,b.setCell (p:=⟨sp,2+s,none⟩) (.inr (.inr (.inr (.inr hc7)))) _,o,g,?_,e⟩
 refine LayAt.turn t k u (p1:=p0) ?_
 show _=LocCells tp p0 (rootL o)
 rw[e]
 exact zi7 hs hn
theorem zie {kv vv:Value} {La:List KV} {x:KV} {c1:Nat→Nat} {w1:World} (h:LayW c w sp tp Z p0 La c1 w1) (hc7:c sp=7) (hk:BytesAt (Dt c1) w1 kv x.1) (hv:BytesAt (Dt c1) w1 vv x.2) (hw:wrong x.1 x.2=0) (hb:La.length<90000) :
 Calls Tryz.prog 121 #[.pointer (some ⟨tp,0,none⟩),kv,vv] w1 fun e w'=>∃err:Nat,e=.returned (.int .i64 (err:Int))∧(err=0∨err=21)∧Hid (Fr (fun b=>c1 b=1) w1 w'∧((err=21∧LayW c w sp tp Z p0 La c1 w'∧Z.S.pages<Z.S.state.length+(putL x La).length)∨(err=0∧∃c2,LayT c w sp tp Z p0 La (putL x La) c2 w'))):=by
 obtain⟨a,b,o,g,l,rfl⟩:=h
 refine(zdl own1 l.t hk hv hw hb).mono ?_
 rintro e w' (⟨rfl,f,o',h1,h2,h3,h4⟩|⟨rfl,f,c2,o',g',ag,t,h1⟩)
 · refine⟨21,rfl,.inr rfl,zhd ⟨f.mono (fun _ _ e=>e.elim),.inl ⟨rfl,⟨a,b.trans0 f,o,g,l.fr0 f,rfl⟩,?_⟩⟩⟩
   have h5:rootDirty o'≤(putL x (rootL o)).length:=by
    have:=zc0 h2
    rw[h1] at this
    exact this
   have h6:Z.S.pages-Z.S.state.length<rootDirty o':=h4
   omega
 · have hs:=b.size
   have hsl:=(Array.getElem?_eq_some_iff.1 l.blk).1
   refine⟨0,rfl,.inl rfl,zhd ⟨f,.inr ⟨rfl,c2,fun n hn=>(ag n (by omega)).trans (a n hn),b.trans f (fun n hn e=>.inl (by rw[←a n hn];exact e)),⟨o',g',t,h1⟩,f.blk l.blk (fun e=>?_),(ag sp hsl).trans l.own⟩⟩⟩
   have e2:c1 sp=1:=e
   rw[l.own] at e2
   cases e2
theorem zif {kv:Value} {La:List KV} {k:Bs} {c1:Nat→Nat} {w1:World} (h:LayW c w sp tp Z p0 La c1 w1) (hc7:c sp=7) (hk:BytesAt (Dt c1) w1 kv k) (hw:wrong k []=0) (hb:La.length<90000) :
 Calls Tryz.prog 120 #[.pointer (some ⟨tp,0,none⟩),kv] w1 fun e w'=>∃(ok:Bool) (err:Nat),e=.returned (.tuple #[.bool ok,.int .i64 (err:Int)])∧(err=0∨err=21)∧Hid (Fr (fun b=>c1 b=1) w1 w'∧((err=21∧LayW c w sp tp Z p0 La c1 w'∧Z.S.pages<Z.S.state.length+La.length)∨(err=0∧∃c2,LayT c w sp tp Z p0 La (delL k La) c2 w'))):=by
 obtain⟨a,b,o,g,l,rfl⟩:=h
 have hsl:=(Array.getElem?_eq_some_iff.1 l.blk).1
 refine(zhu own1 l.t hk hw).mono ?_
 rintro e w' (⟨hg,rfl,f⟩|⟨hg,⟨rfl,f,o',h1,h2,h3,h4⟩|⟨rfl,f,c2,o',g',ag,t,h1⟩⟩)
 · refine⟨false,0,rfl,.inl rfl,zhd ⟨f.mono (fun _ _ e=>e.elim),.inr ⟨rfl,c1,a,b.trans0 f,⟨o,g,(l.fr0 f).t,?_⟩,f.blk l.blk (fun e=>e),l.own⟩⟩⟩
   exact(zfa hg).symm
 · refine⟨false,21,rfl,.inr rfl,zhd ⟨f.mono (fun _ _ e=>e.elim),.inl ⟨rfl,⟨a,b.trans0 f,o,g,l.fr0 f,rfl⟩,?_⟩⟩⟩
   have h5:rootDirty o'≤(delL k (rootL o)).length:=by
    have:=zc0 h2
    rw[h1] at this
    exact this
   have h6:Z.S.pages-Z.S.state.length<rootDirty o':=h4
   have h7:=(zfb k (rootL o)).length_le
   omega
 · have hs:=b.size
   refine⟨true,0,rfl,.inl rfl,zhd ⟨f,.inr ⟨rfl,c2,fun n hn=>(ag n (by omega)).trans (a n hn),b.trans f (fun n hn e=>.inl (by rw[←a n hn];exact e)),⟨o',g',t,h1⟩,f.blk l.blk (fun e=>?_),(ag sp hsl).trans l.own⟩⟩⟩
   have e2:c1 sp=1:=e
   rw[l.own] at e2
   cases e2
theorem zig {La:List KV} {c1:Nat→Nat} {w1:World} (h:LayW c w sp tp Z p0 La c1 w1):Calls Tryz.prog 119 #[.pointer (some ⟨tp,0,none⟩)] w1 fun e w'=>e=.returned (.int .i64 (La.length:Int))∧w1=w':=by
 obtain⟨a,b,o,g,l,rfl⟩:=h
 exact zes l.t
theorem zih {La Lb:List KV} {c1:Nat→Nat} {w1:World} (h:LayT c w sp tp Z p0 La Lb c1 w1):Calls Tryz.prog 119 #[.pointer (some ⟨tp,0,none⟩)] w1 fun e w'=>e=.returned (.int .i64 (Lb.length:Int))∧w1=w':=by
 obtain⟨a,b,⟨o,g,t,rfl⟩,k,u⟩:=h
 exact zes t
theorem LayT.fr0 {La Lb:List KV} {c1:Nat→Nat} {w1 w2:World} (h:LayT c w sp tp Z p0 La Lb c1 w1) (hf:Fr C0 w1 w2):LayT c w sp tp Z p0 La Lb c1 w2:=by
 obtain⟨a,b,⟨o,g,t,e⟩,k,u⟩:=h
 exact⟨a,b.trans0 hf,⟨o,g,t.fr hf (fun _ e=>e.elim) (fun _ e=>e.elim) (fun _ e=>e.elim) (fun _ e=>e.elim),e⟩,hf.blk k (fun e=>e),u⟩
end
end Go.Proofs.YtidalepbkljkpaaGreat

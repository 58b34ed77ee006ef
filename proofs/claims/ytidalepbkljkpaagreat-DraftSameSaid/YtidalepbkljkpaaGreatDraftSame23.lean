import Derived.Test.YtidalepbkljkpaaGreatDraftSame17
import Derived.Test.YtidalepbkljkpaaGreatDraftSame14
import Derived.Test.YtidalepbkljkpaaGreatDraftSame16
import Derived.Test.YtidalepbkljkpaaGreatDraftSame22
import Derived.Test.YtidalepbkljkpaaGreatDraftSame18
import Derived.Test.YtidalepbkljkpaaGreatDraftSame15
set_option linter.all false
namespace Go.Proofs.YtidalepbkljkpaaGreat
open Go.RowKit Go.H
set_option maxRecDepth 100000
section
set_option maxHeartbeats 2000000
theorem zby {F:Nat→Prop} {w:World} {A:Option Addr} {cp:Nat} {L:List Chg} (h:ChgsAt F w (.slice A L.length cp) L) (i:Nat) (hi:i<L.length):∃g o kv vv,A=some ⟨g,o,none⟩∧w.cell? ⟨g,o+i*4,none⟩=some (.int .i64 L[i].space)∧w.cell? ⟨g,o+i*4+1,none⟩=some kv∧w.cell? ⟨g,o+i*4+2,none⟩=some vv∧w.cell? ⟨g,o+i*4+3,none⟩=some (.bool L[i].gone)∧BytesAt F w kv L[i].key∧BytesAt F w vv L[i].value:=by
 obtain⟨xs,a,b⟩:=h
 exact z9d a b i hi
theorem zbz {F G:Nat→Prop} {w:World} {u v:Value} {a:List Chg} (ha:ChgsAt F w u a) (hb:ChgsAt G w v a) :
 Calls Tryz.prog 19 #[u,v] w fun e w'=>e=.returned (.bool true)∧Fr C0 w w':=by
 have HA:=zhd ha
 have HB:=zhd hb
 obtain⟨A,ca,rfl,ha1,ha2⟩:=ha.form
 obtain⟨B,cb,rfl,hb1,hb2⟩:=hb.form
 clear ha hb
 unfold maxLen at ha2 hb2
 have hl1:((a.length:Int) != (a.length:Int))=false:=by simp
 go_enter Tryz.func19,Tryz.ntmps19
 go_wp2
 go_loopw [5] (fun i wr=>∃k:Nat,k≤a.length∧i=.int .i64 (k:Int)∧Fr C0 w wr) (fun i _=>a.length-(intOf i).toNat)
 case atStart=>exact⟨0,Nat.zero_le _,rfl,Fr.refl _ _⟩
 case round=>
  obtain⟨k,hk,rfl,hf⟩:=hrel
  have HF:=zhd hf
  clear hf
  by_cases hlt:k<a.length
  · obtain⟨ga,oa,kva,vva,rfl,a0,a1,a2,a5,a3,a4⟩:=zby (HA.out.fr0 HF.out) k hlt
    obtain⟨gb,ob,kvb,vvb,rfl,b0,b1,b2,b5,b3,b4⟩:=zby (HB.out.fr0 HF.out) k hlt
    generalize a[k]=x at *
    obtain⟨xs,xk,xv,xg⟩:=x
    simp only at *
    obtain⟨x1,y1,sa3,sb3,E1⟩:=str2 a3 b3
    obtain⟨x2,y2,sa4,sb4,E2⟩:=str2 a4 b4
    obtain⟨_,_,rfl,-⟩:=a3.form
    obtain⟨_,_,rfl,-⟩:=a4.form
    obtain⟨_,_,rfl,-⟩:=b3.form
    obtain⟨_,_,rfl,-⟩:=b4.form
    clear a3 a4 b3 b4
    go_wp2_with fail
    have e1:=E1.out.trans (by simp:_=true)
    have e2:=E2.out.trans (by simp:_=true)
    refine z1i (Fr C0 wr) [] (by kernel_rfl) ?_
    have hSw0:(Fr C0 wr) _:=(Fr.refl C0 wr).drew
    refine tk 0 hSw0 ?_
    refine tk 1 hSw0 ?_
    refine tk 2 hSw0 ?_
    refine tk 3 hSw0 ?_
    refine tk 4 hSw0 ?_
    refine tk 5 hSw0 ?_ (hy:=by intro w_ hS_;have c0:=hS_.cell0 a0;have c1:=hS_.cell0 a1;have c2:=hS_.cell0 a2;have c5:=hS_.cell0 a5;have d0:=hS_.cell0 b0;have d1:=hS_.cell0 b1;have d2:=hS_.cell0 b2;have d5:=hS_.cell0 b5;first|(go_simp;done)|(go_simp;with_reducible rfl))
    refine tk 6 hSw0 ?_
    refine tk 7 hSw0 ?_
    refine tk 8 hSw0 ?_
    refine tk 9 hSw0 ?_
    refine tk 10 hSw0 ?_
    refine tk 11 hSw0 ?_ (hy:=by intro w_ hS_;have c0:=hS_.cell0 a0;have c1:=hS_.cell0 a1;have c2:=hS_.cell0 a2;have c5:=hS_.cell0 a5;have d0:=hS_.cell0 b0;have d1:=hS_.cell0 b1;have d2:=hS_.cell0 b2;have d5:=hS_.cell0 b5;first|(go_simp;done)|(go_simp;with_reducible rfl))
    refine tk 12 hSw0 ?_
    refine tk 13 hSw0 ?_
    refine tk 14 hSw0 ?_
    refine tk 15 hSw0 ?_
    refine tk 16 hSw0 ?_
    refine tk 17 hSw0 ?_
    refine tk 18 hSw0 ?_ (hy:=by intro w_ hS_;have c0:=hS_.cell0 a0;have c1:=hS_.cell0 a1;have c2:=hS_.cell0 a2;have c5:=hS_.cell0 a5;have d0:=hS_.cell0 b0;have d1:=hS_.cell0 b1;have d2:=hS_.cell0 b2;have d5:=hS_.cell0 b5;first|(go_simp;done)|(go_simp;with_reducible rfl))
    refine tk 19 hSw0 ?_
    refine tk 20 hSw0 ?_
    refine tk 21 hSw0 ?_
    refine tk 22 hSw0 ?_
    refine tk 23 hSw0 ?_ (hy:=by intro w_ hS_;have c0:=hS_.cell0 a0;have c1:=hS_.cell0 a1;have c2:=hS_.cell0 a2;have c5:=hS_.cell0 a5;have d0:=hS_.cell0 b0;have d1:=hS_.cell0 b1;have d2:=hS_.cell0 b2;have d5:=hS_.cell0 b5;first|(go_simp;done)|(go_simp;with_reducible rfl))
    refine tk 24 hSw0 ?_
    refine tk 25 hSw0 ?_
    refine tk 26 hSw0 ?_
    refine tk 27 hSw0 ?_
    refine tk 28 hSw0 ?_
    refine tk 29 hSw0 ?_
    refine tk 30 hSw0 ?_
    refine tk 31 hSw0 ?_
    refine tk 32 hSw0 ?_ (hy:=by intro w_ hS_;have c0:=hS_.cell0 a0;have c1:=hS_.cell0 a1;have c2:=hS_.cell0 a2;have c5:=hS_.cell0 a5;have d0:=hS_.cell0 b0;have d1:=hS_.cell0 b1;have d2:=hS_.cell0 b2;have d5:=hS_.cell0 b5;first|(go_simp;done)|(go_simp;with_reducible rfl))
    refine tk 33 hSw0 ?_ (hy:=by intro w_ hS_;have k3:=sa3.out _ hS_;have k4:=sa4.out _ hS_;have l3:=sb3.out _ hS_;have l4:=sb4.out _ hS_;first|(go_simp;done)|(go_simp;with_reducible rfl))
    refine tk 34 hSw0 ?_
    refine tk 35 hSw0 ?_
    refine tk 36 hSw0 ?_
    refine tk 37 hSw0 ?_
    refine tk 38 hSw0 ?_
    refine tk 39 hSw0 ?_ (hy:=by intro w_ hS_;have c0:=hS_.cell0 a0;have c1:=hS_.cell0 a1;have c2:=hS_.cell0 a2;have c5:=hS_.cell0 a5;have d0:=hS_.cell0 b0;have d1:=hS_.cell0 b1;have d2:=hS_.cell0 b2;have d5:=hS_.cell0 b5;first|(go_simp;done)|(go_simp;with_reducible rfl))
    refine tk 40 hSw0 ?_ (hy:=by intro w_ hS_;have k3:=sa3.out _ hS_;have k4:=sa4.out _ hS_;have l3:=sb3.out _ hS_;have l4:=sb4.out _ hS_;first|(go_simp;done)|(go_simp;with_reducible rfl))
    refine tk 41 hSw0 ?_
    refine tk 42 hSw0 ?_
    refine tk 43 hSw0 ?_
    refine tk 44 hSw0 ?_
    refine tk 45 hSw0 ?_
    refine tk 46 hSw0 ?_
    refine tk 47 hSw0 ?_
    refine tk 48 hSw0 ?_
    refine tk 49 hSw0 ?_ (hy:=by intro w_ hS_;have c0:=hS_.cell0 a0;have c1:=hS_.cell0 a1;have c2:=hS_.cell0 a2;have c5:=hS_.cell0 a5;have d0:=hS_.cell0 b0;have d1:=hS_.cell0 b1;have d2:=hS_.cell0 b2;have d5:=hS_.cell0 b5;first|(go_simp;done)|(go_simp;with_reducible rfl))
    refine tk 50 hSw0 ?_ (hy:=by intro w_ hS_;have k3:=sa3.out _ hS_;have k4:=sa4.out _ hS_;have l3:=sb3.out _ hS_;have l4:=sb4.out _ hS_;first|(go_simp;done)|(go_simp;with_reducible rfl))
    refine tk 51 hSw0 ?_
    refine tk 52 hSw0 ?_
    refine tk 53 hSw0 ?_
    refine tk 54 hSw0 ?_
    refine tk 55 hSw0 ?_
    refine tk 56 hSw0 ?_ (hy:=by intro w_ hS_;have c0:=hS_.cell0 a0;have c1:=hS_.cell0 a1;have c2:=hS_.cell0 a2;have c5:=hS_.cell0 a5;have d0:=hS_.cell0 b0;have d1:=hS_.cell0 b1;have d2:=hS_.cell0 b2;have d5:=hS_.cell0 b5;first|(go_simp;done)|(go_simp;with_reducible rfl))
    refine tk 57 hSw0 ?_ (hy:=by intro w_ hS_;have k3:=sa3.out _ hS_;have k4:=sa4.out _ hS_;have l3:=sb3.out _ hS_;have l4:=sb4.out _ hS_;first|(go_simp;done)|(go_simp;with_reducible rfl))
    refine tk 58 hSw0 ?_
    refine tk 59 hSw0 ?_
    refine z1h (by kernel_rfl) ?_ _
    go_wp2
    go_roundw
    case rel=>exact⟨k+1,by omega,by go_num,HF.out.drew⟩
    case measure=>simp[intOf];omega
  · obtain rfl:k=a.length:=by omega
    go_wp2
    go_ret
    exact⟨rfl,HF.out⟩
end
section
set_option maxHeartbeats 1000000
theorem OutC.chgs {N:Nat} {w:World} {ov:Value} {M:List Chg} (h:OutC N w ov M):ChgsAt (fun b=>N≤b) w ov M:=by
 obtain⟨ys,a,b⟩:=h
 exact⟨ys,Row.ofOwn a (fun b hb=>(a.lt b hb).1),b.mono (fun b hb _=>hb.1)⟩
end
section
set_option maxHeartbeats 1000000
theorem DrfAt.move9 {C:Nat→Prop} {c c':Nat→Nat} {w w':World} {dp sp tp:Nat} {Z:TSt} {lv:Value} {L:List Chg} (h:DrfAt c w dp sp tp Z lv L) (hf0:Fr C w w') (ha:Ag w.heap.size c c') (hc:Cl w' c') (h90:∀b,b<w.heap.size→C b→c b=9):DrfAt c' w' dp sp tp Z lv L:=by
 have hf:Fr (fun b=>C b∧b<w.heap.size) w w':=hf0.mono (fun b hb e=>⟨e,hb⟩)
 have h9:∀b,(C b∧b<w.heap.size)→c b=9:=fun b e=>h90 b e.2 e.1
 have h9':∀b,(C b∧b<w.heap.size)→c' b=9:=fun b e=>(ha b e.2).trans (h9 b e)
 have hsp:=(Array.getElem?_eq_some_iff.1 h.s.blk).1
 have hdp:=(Array.getElem?_eq_some_iff.1 h.blk).1
 have nsp:¬(C sp∧sp<w.heap.size):=fun e=>by
  have:=h9 _ e
  rw[h.s.own] at this;cases this
 have ndp:¬(C dp∧dp<w.heap.size):=fun e=>by
  have:=h9 _ e
  rw[h.own] at this;cases this
 obtain⟨xs,a,b⟩:=h.row
 refine⟨⟨h.s.t.moveC hf ha hc (fun b e=>?_) (fun b e=>?_) (fun b e=>?_) (fun b e=>?_),hf.blk h.s.blk nsp,(ha sp hsp).trans h.s.own,h.s.ok⟩,h.em,hf.blk h.blk ndp,(ha dp hdp).trans h.own,⟨xs,z0l a hf (fun b hb e=>?_),?_⟩,fun b e=>(ha b (a.lt b e).2).trans (h.l7 b e),h.ok⟩
 · rw[h9' b e];decide
 · rw[h9' b e];decide
 · rw[h9' b e];decide
 · rw[h9' b e];decide
 · have h1:=h9 b e
   rw[h.l7 b hb] at h1;cases h1
 · refine((b.mono (F':=fun b=>c b=0∧b<w.heap.size) (fun b hb hl=>⟨hb,hl⟩)).fr hf (fun b hb e=>?_)).mono (fun b hb _=>(ha b hb.2).trans hb.1)
   have h1:=h9 b e
   rw[hb.1] at h1;cases h1
structure DrfP where
 dp:Nat
 sp:Nat
 tp:Nat
 Z:TSt
structure TwoD (ca cb:Nat→Nat) (w:World) (p q:DrfP) (la lb:Value) (LA LB:List Chg):Prop where
 a:DrfAt ca w p.dp p.sp p.tp p.Z la LA
 b:DrfAt cb w q.dp q.sp q.tp q.Z lb LB
 x:∀n,ca n≠0→ca n≠9→cb n=9
 y:∀n,cb n≠0→cb n≠9→ca n=9
theorem TwoD.swap {ca cb:Nat→Nat} {w:World} {p q:DrfP} {la lb:Value} {LA LB:List Chg} (h:TwoD ca cb w p q la lb LA LB):TwoD cb ca w q p lb la LB LA:=⟨h.b,h.a,h.y,h.x⟩
theorem TwoD.fr0 {ca cb:Nat→Nat} {w w':World} {p q:DrfP} {la lb:Value} {LA LB:List Chg} (h:TwoD ca cb w p q la lb LA LB) (f:Fr C0 w w'):TwoD ca cb w' p q la lb LA LB:=⟨h.a.fr0 f,h.b.fr0 f,h.x,h.y⟩
theorem TwoD.step {ca cb ca':Nat→Nat} {w w':World} {p q:DrfP} {la la' lb:Value} {LA LA' LB:List Chg} (h:TwoD ca cb w p q la lb LA LB) (ag:Ag w.heap.size ca ca') (f:Fr (fun b=>ca b=7) w w') (d:DrfAt ca' w' p.dp p.sp p.tp p.Z la' LA'):∃cb',Ag w.heap.size cb cb'∧TwoD ca' cb' w' p q la' lb LA' LB:=by
 have cla:=h.a.cl
 have clb:=h.b.cl
 have cla':=d.cl
 have hs:=f.size
 have ag':Ag w.heap.size cb (fun n=>if ca' n≠0∧ca' n≠9 then 9 else cb n):=fun n hn=>by
  show(if _ then 9 else cb n)=cb n
  rw[ag n hn]
  by_cases e:ca n≠0∧ca n≠9
  · rw[if_pos e,h.x n e.1 e.2]
  · rw[if_neg e]
 refine⟨_,ag',d,h.b.move9 f ag' (fun n hn=>?_) (fun n hn e=>?_),fun n h1 h2=>?_,fun n h1 h2=>?_⟩
 · show(if _ then 9 else cb n)=0
   rw[cla' n hn,if_neg (by simp),clb n (by omega)]
 · exact h.x n (by rw[e];decide) (by rw[e];decide)
 · exact if_pos ⟨h1,h2⟩
 · by_cases e:ca' n≠0∧ca' n≠9
   · rw[if_pos e] at h2;exact absurd rfl h2
   · rw[if_neg e] at h1 h2
     have hn:n<w.heap.size:=Nat.lt_of_not_le fun hle=>h1 (clb n hle)
     rw[ag n hn]
     exact h.y n h1 h2
theorem TwoD.new {ca cb:Nat→Nat} {w w':World} {p q:DrfP} {la lb:Value} {LA LB:List Chg} (a:DrfAt ca w p.dp p.sp p.tp p.Z la LA) (f:Fr C0 w w') (ag:Ag w.heap.size (fun n=>if ca n=0 then 0 else 9) cb) (b:DrfAt cb w' q.dp q.sp q.tp q.Z lb LB):∃ca',Ag w.heap.size ca ca'∧TwoD ca' cb w' p q la lb LA LB:=by
 have cla:=a.cl
 have clb:=b.cl
 have hs:=f.size
 have hcb:∀n,n<w.heap.size→cb n=if ca n=0 then 0 else 9:=fun n hn=>ag n hn
 have ag':Ag w.heap.size ca (fun n=>if cb n≠0∧cb n≠9 then 9 else ca n):=fun n hn=>by
  show(if _ then 9 else ca n)=ca n
  rw[hcb n hn]
  split<;>simp
 refine⟨_,ag',a.move9 f ag' (fun n hn=>?_) (fun n hn e=>e.elim),b,fun n h1 h2=>?_,fun n h1 h2=>if_pos ⟨h1,h2⟩⟩
 · show(if _ then 9 else ca n)=0
   rw[clb n hn,if_neg (by simp),cla n (by omega)]
 · by_cases e:cb n≠0∧cb n≠9
   · rw[if_pos e] at h2;exact absurd rfl h2
   · rw[if_neg e] at h1 h2
     have hn:n<w.heap.size:=Nat.lt_of_not_le fun hle=>h1 (cla n hle)
     rw[hcb n hn,if_neg h1]
end
end Go.Proofs.YtidalepbkljkpaaGreat
namespace Go.H
section
theorem zc0 {α β:Type} {f:α→List β} (h:∀x,(f x).length≤1):∀l:List α,l.reverse.flatMap f=(l.flatMap f).reverse
 |[]=>rfl
 | x :: l => by
   simp only[List.reverse_cons,List.flatMap_append,zc0 h l,List.flatMap_cons,List.flatMap_nil,List.append_nil,List.reverse_append]
   congr 1
   have:=h x
   cases hx:f x with
   |nil=>simp[hx]
   | cons y r =>
     have:r=[]:=List.eq_nil_of_length_eq_zero (by rw[hx] at this;simp at this;simpa using this)
     subst this
     simp[hx]
theorem zc1 {α β:Type} {f:α→List β} {R:β→β→Prop} {S:α→α→Prop} (hf:∀x,(f x).length≤1) (h:∀x y,S x y→∀a∈f x,∀b∈f y,R a b) {l:List α} (hl:l.Pairwise S):(l.flatMap f).Pairwise R:=by
 induction l with
 |nil=>exact .nil
 | cons x l ih =>
   rw[List.pairwise_cons] at hl
   rw[List.flatMap_cons,List.pairwise_append]
   refine⟨?_,ih hl.2,fun a ha b hb=>?_⟩
   · have:=hf x
     cases hx:f x with
     |nil=>exact .nil
     | cons y r =>
       have:r=[]:=List.eq_nil_of_length_eq_zero (by rw[hx] at this;simp at this;simpa using this)
       subst this
       exact List.pairwise_singleton _ _
   · obtain⟨y,hy,hb⟩:=List.mem_flatMap.1 hb
     exact h x y (hl.1 y hy) a ha b hb
end
end Go.H
namespace Go.Proofs.YtidalepbkljkpaaGreat
open Go.RowKit Go.H
set_option maxHeartbeats 1000000
set_option maxRecDepth 100000
section
def keyS (x:Act13):Bs:=UInt8.ofNat (x.space % 256).toNat::x.key.take 62
def kbS (x:Act13):ByteArray:=⟨(keyS x).toArray⟩
def eqB (a b:ByteArray):Bool:=a.toList == b.toList
theorem zc2 (x y:Act13):eqB (kbS x) (kbS y)=decide (keyS x=keyS y):=by
 unfold eqB kbS
 rw[ByteArray.toList_eq,ByteArray.toList_eq]
 simp[z28]
inductive ActCells (F:Nat→Prop) (w:World):List Value→List Act13→Prop
 |nil:ActCells F w [] []
 |cons {x:Act13} {kv vv:Value} {xs:List Value} {l:List Act13}:BytesAt F w kv x.key→BytesAt F w vv x.value→ActCells F w xs l→ActCells F w (.int .i64 x.kind::.int .i64 x.n::.int .i64 x.space::kv::vv::xs) (x::l)
theorem zc3 {F C:Nat→Prop} {w w':World} (hf:Fr C w w') (hd:∀b,F b→¬C b):∀{xs:List Value} {l:List Act13},ActCells F w xs l→ActCells F w' xs l
 |_,_,.nil=>.nil
 |_,_,.cons h1 h2 h3=>.cons (h1.fr hf hd) (h2.fr hf hd) (zc3 hf hd h3)
theorem zc4 {F:Nat→Prop} {w:World} {x:Act13} {kv vv:Value} (hk:BytesAt F w kv x.key) (hv:BytesAt F w vv x.value):∀{xs:List Value} {l:List Act13},ActCells F w xs l→ActCells F w (xs++[.int .i64 x.kind,.int .i64 x.n,.int .i64 x.space,kv,vv]) (l++[x])
 |_,_,.nil=>.cons hk hv .nil
 |_,_,.cons h1 h2 h3=>.cons h1 h2 (zc4 hk hv h3)
theorem zc5 {F:Nat→Prop} {w:World}:∀{xs:List Value} {l:List Act13} (i:Nat) (hi:i<l.length),ActCells F w xs l→∃kv vv,xs[i*5]?=some (.int .i64 l[i].kind)∧xs[i*5+1]?=some (.int .i64 l[i].n)∧xs[i*5+2]?=some (.int .i64 l[i].space)∧xs[i*5+3]?=some kv∧xs[i*5+4]?=some vv∧BytesAt F w kv l[i].key∧BytesAt F w vv l[i].value
 |_,_,i,hi,.nil=>by simp at hi
 |_,_,0,hi,.cons h1 h2 h3=>⟨_,_,rfl,rfl,rfl,rfl,rfl,h1,h2⟩
 | _, _, i + 1, hi, .cons h1 h2 h3 => by
   have:=zc5 i (by simpa using hi) h3
   rw[show(i+1)*5=i*5+1+1+1+1+1 by omega]
   exact this
theorem zc6 {F G:Nat→Prop} {w:World} {v:Value} {xs:List Value} {l:List Act13} (a:Row F w v l.length 5 xs) (b:ActCells G w xs l) (hG:∀n,G n→F n):ActsS F w v l:=by
 obtain⟨A,c,rfl,h1,h2⟩:=a.form
 refine⟨A,c,rfl,h1,h2,fun i hi=>?_⟩
 obtain⟨kv,vv,e0,e1,e2,e3,e4,hk,hv⟩:=zc5 i hi b
 obtain⟨g,o,rfl,hg,hc⟩:=a.cells e0
 exact⟨g,o,kv,vv,rfl,hg,hc _ _ e0,by rw[show o+i*5+1=o+(i*5+1) by omega];exact hc _ _ e1,by rw[show o+i*5+2=o+(i*5+2) by omega];exact hc _ _ e2,by rw[show o+i*5+3=o+(i*5+3) by omega];exact hc _ _ e3,by rw[show o+i*5+4=o+(i*5+4) by omega];exact hc _ _ e4,hk.mono (fun n h _=>hG n h),hv.mono (fun n h _=>hG n h)⟩
theorem zc7 {F:Nat→Prop} {w:World} {g c i:Nat} {l:List Act13} (h:ActsS F w (.slice (some ⟨g,0,none⟩) l.length c) l) (hi:i<l.length):ActsS F w (.slice (some ⟨g,i*5,none⟩) 1 (c-i)) [l[i]]:=by
 obtain⟨A,c',e,h1,h2,h3⟩:=h
 injection e with e1 e2 e3
 subst e1 e3
 refine⟨_,c-i,rfl,by simp;omega,by omega,fun j hj=>?_⟩
 obtain rfl:j=0:=by simpa using hj
 obtain⟨g',o,kv,vv,e,hg,k⟩:=h3 i hi
 injection e with e
 injection e with e4 e5
 subst e4 e5
 exact⟨g,i*5,kv,vv,rfl,hg,by simpa using k⟩
theorem zc8 {F:Nat→Prop} {w:World} {A:Option Addr} {c:Nat} {l:List Act13} (h:ActsS F w (.slice A l.length c) l) (i:Nat) (hi:i<l.length):∃g o kv vv,A=some ⟨g,o,none⟩∧F g∧ActAtS F w g (o+i*5) kv vv l[i]:=by
 obtain⟨A',c',e,h1,h2,h3⟩:=h
 injection e with e1 e2 e3
 subst e1
 exact h3 i hi
theorem zc9:SlTy Tryz.prog 22 45 5 72:=z1x Tryz.underlying22 (z:=.agg #[.int .i64 0,.int .i64 0,.int .i64 0,.slice none 0 0,.slice none 0 0]) (by kernel_rfl) rfl (by decide)
theorem zca:SlTy Tryz.prog 39 9 1 16:=z1x Tryz.underlying39 (z:=.string ⟨#[]⟩) (by kernel_rfl) rfl (by decide)
theorem zcb {x:Act13} {a:Chg} (h:a∈chg13 x):a.space=x.space∧a.key=x.key.take 62∧okC a:=by
 unfold chg13 at h
 split at h<;>split at h<;>simp at h
 · rename_i h0;subst h;exact⟨rfl,rfl,h0⟩
 · rename_i h0;subst h;exact⟨rfl,rfl,h0⟩
theorem zcc {l:List Act13} (h:l.Pairwise fun x y=>keyS x≠keyS y):H.Unlike (l.flatMap chg13):=by
 refine zc1 z9f (fun x y hxy a ha b hb e=>hxy ?_) h
 obtain⟨a1,a2,-⟩:=zcb ha
 obtain⟨b1,b2,-⟩:=zcb hb
 unfold keyS
 rw[←a1,←b1,←a2,←b2,e.1,e.2]
end
end Go.Proofs.YtidalepbkljkpaaGreat

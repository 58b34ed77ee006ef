import Derived.Test.YtidalepbkljkpaaGreatDraftSame10
import Derived.Test.YtidalepbkljkpaaGreatDraftSame14
import Derived.Test.YtidalepbkljkpaaGreatDraftSame02
import Derived.Shelf.SlSortCmp.WholeK
import Derived.Test.YtidalepbkljkpaaGreatDraftSame17
import Derived.Test.YtidalepbkljkpaaGreatDraftSame15
import Derived.Shelf.Lay
import Derived.Ground.SlsfProg
set_option linter.all false
namespace Go.H
open Go.RowKit
section
abbrev SKV:=Int×List UInt8×List UInt8
inductive PairCellsS (F:Nat→Prop) (w:World):List Value→List SKV→Prop
 |nil:PairCellsS F w [] []
 |cons {x:SKV} {kv vv:Value} {xs:List Value} {l:List SKV}:BytesAt F w kv x.2.1→BytesAt F w vv x.2.2→PairCellsS F w xs l→PairCellsS F w (.int .i64 x.1::kv::vv::xs) (x::l)
namespace PairCellsS
variable {F F' C : Nat → Prop} {w w' : World}
theorem fr (hf:Fr C w w') (hd:∀b,F b→¬C b):∀{xs:List Value} {l:List SKV},PairCellsS F w xs l→PairCellsS F w' xs l
 |_,_,.nil=>.nil
 |_,_,.cons h1 h2 h3=>.cons (h1.fr hf hd) (h2.fr hf hd) (fr hf hd h3)
theorem mono (hF:∀b,F b→b<w.heap.size→F' b):∀{xs:List Value} {l:List SKV},PairCellsS F w xs l→PairCellsS F' w xs l
 |_,_,.nil=>.nil
 |_,_,.cons h1 h2 h3=>.cons (h1.mono hF) (h2.mono hF) (mono hF h3)
theorem append {ys:List Value} {m:List SKV} (k:PairCellsS F w ys m):∀{xs:List Value} {l:List SKV},PairCellsS F w xs l→PairCellsS F w (xs++ys) (l++m)
 |_,_,.nil=>k
 |_,_,.cons h1 h2 h3=>.cons h1 h2 (append k h3)
theorem length:∀{xs:List Value} {l:List SKV},PairCellsS F w xs l→xs.length=l.length*3
 |_,_,.nil=>rfl
 |_,_,.cons h1 h2 h3=>by have:=length h3;simp only[List.length_cons];omega
theorem at_:∀{xs:List Value} {l:List SKV} (i:Nat) (hi:i<l.length),PairCellsS F w xs l→∃kv vv,xs[i*3]?=some (.int .i64 l[i].1)∧xs[i*3+1]?=some kv∧xs[i*3+2]?=some vv∧BytesAt F w kv l[i].2.1∧BytesAt F w vv l[i].2.2
 |_,_,i,hi,.nil=>by simp at hi
 |_,_,0,hi,.cons h1 h2 h3=>⟨_,_,rfl,rfl,rfl,h1,h2⟩
 | _, _, i + 1, hi, .cons h1 h2 h3 => by
   have:=at_ i (by simpa using hi) h3
   rw[show(i+1)*3=i*3+1+1+1 by omega]
   exact this
theorem one:∀{xs:List Value} {l:List SKV},PairCellsS F w xs l→∀u∈xs,u.oneCell'=true
 |_,_,.nil,u,hu=>by simp at hu
 | _, _, .cons h1 h2 h3, u, hu => by
   obtain⟨_,_,rfl,_⟩:=h1
   obtain⟨_,_,rfl,_⟩:=h2
   rcases List.mem_cons.1 hu with rfl|hu
   · rfl
   · rcases List.mem_cons.1 hu with rfl|hu
     · rfl
     · rcases List.mem_cons.1 hu with rfl|hu
       · rfl
       · exact one h3 u hu
end PairCellsS
def PairsS (F:Nat→Prop) (w:World) (v:Value) (L:List SKV):Prop:=∃xs,Row F w v L.length 3 xs∧PairCellsS F w xs L
theorem PairsS.fr {F C:Nat→Prop} {w w':World} {v:Value} {L:List SKV} (h:PairsS F w v L) (hf:Fr C w w') (hd:∀b,F b→¬C b):PairsS F w' v L:=by
 obtain⟨xs,a,b⟩:=h
 exact⟨xs,a.fr hf hd,b.fr hf hd⟩
theorem PairsS.fr0 {F:Nat→Prop} {w w':World} {v:Value} {L:List SKV} (h:PairsS F w v L) (hf:Fr C0 w w'):PairsS F w' v L:=h.fr hf (fun _ _ k=>k)
theorem PairsS.form {F:Nat→Prop} {w:World} {v:Value} {L:List SKV} (h:PairsS F w v L):∃A c,v=.slice A L.length c∧L.length≤c∧c≤maxLen:=by
 obtain⟨xs,a,b⟩:=h
 exact a.form
theorem PairsS.at_ {F:Nat→Prop} {w:World} {A:Option Addr} {cp:Nat} {L:List SKV} (h:PairsS F w (.slice A L.length cp) L) (i:Nat) (hi:i<L.length):∃g o kv vv,A=some ⟨g,o,none⟩∧w.cell? ⟨g,o+i*3,none⟩=some (.int .i64 L[i].1)∧w.cell? ⟨g,o+i*3+1,none⟩=some kv∧w.cell? ⟨g,o+i*3+2,none⟩=some vv∧BytesAt F w kv L[i].2.1∧BytesAt F w vv L[i].2.2:=by
 obtain⟨xs,a,b⟩:=h
 obtain⟨kv,vv,h0,h1,h2,h3,h4⟩:=b.at_ i hi
 obtain⟨g,o,rfl,_,hc⟩:=a.cells h0
 exact⟨g,o,kv,vv,rfl,hc _ _ h0,by rw[show o+i*3+1=o+(i*3+1) by omega];exact hc _ _ h1,by rw[show o+i*3+2=o+(i*3+2) by omega];exact hc _ _ h2,h3,h4⟩
end
end Go.H
namespace Go.Proofs.YtidalepbkljkpaaGreat
open Go.RowKit Go.H
set_option maxHeartbeats 2000000
set_option maxRecDepth 100000
section
theorem z9w {F G:Nat→Prop} {w:World} {u v:Value} {a:List SKV} (ha:PairsS F w u a) (hb:PairsS G w v a) :
 Calls Tryz.prog 18 #[u,v] w fun e w'=>e=.returned (.bool true)∧Fr C0 w w':=by
 have HA:=zhd ha
 have HB:=zhd hb
 obtain⟨A,ca,rfl,ha1,ha2⟩:=ha.form
 obtain⟨B,cb,rfl,hb1,hb2⟩:=hb.form
 clear ha hb
 unfold maxLen at ha2 hb2
 have hl1:((a.length:Int) != (a.length:Int))=false:=by simp
 go_enter Tryz.func18,Tryz.ntmps18
 go_wp2
 go_loopw [5] (fun i wr=>∃k:Nat,k≤a.length∧i=.int .i64 (k:Int)∧Fr C0 w wr) (fun i _=>a.length-(intOf i).toNat)
 case atStart=>exact⟨0,Nat.zero_le _,rfl,Fr.refl _ _⟩
 case round=>
  obtain⟨k,hk,rfl,hf⟩:=hrel
  have HF:=zhd hf
  clear hf
  by_cases hlt:k<a.length
  · obtain⟨ga,oa,kva,vva,rfl,a0,a1,a2,a3,a4⟩:=(HA.out.fr0 HF.out).at_ k hlt
    obtain⟨gb,ob,kvb,vvb,rfl,b0,b1,b2,b3,b4⟩:=(HB.out.fr0 HF.out).at_ k hlt
    obtain⟨x1,y1,sa3,sb3,E1⟩:=str2 a3 b3
    obtain⟨x2,y2,sa4,sb4,E2⟩:=str2 a4 b4
    obtain⟨_,_,rfl,-⟩:=a3.form
    obtain⟨_,_,rfl,-⟩:=a4.form
    obtain⟨_,_,rfl,-⟩:=b3.form
    obtain⟨_,_,rfl,-⟩:=b4.form
    clear a3 a4 b3 b4
    go_wp2_with fail
    have e1:=E1.out.trans (by simp:_=true)
    have e2:=E2.out.trans (by simp:_=true)
    refine z1i (Fr C0 wr) [] (by kernel_rfl) ?_
    have hSw0:(Fr C0 wr) _:=(Fr.refl C0 wr).drew
    refine tk 0 hSw0 ?_
    refine tk 1 hSw0 ?_
    refine tk 2 hSw0 ?_
    refine tk 3 hSw0 ?_
    refine tk 4 hSw0 ?_ (hy:=by intro w_ hS_;have c0:=hS_.cell0 a0;have c1:=hS_.cell0 a1;have c2:=hS_.cell0 a2;have d0:=hS_.cell0 b0;have d1:=hS_.cell0 b1;have d2:=hS_.cell0 b2;first|(go_simp;done)|(go_simp;with_reducible rfl))
    refine tk 5 hSw0 ?_
    refine tk 6 hSw0 ?_
    refine tk 7 hSw0 ?_
    refine tk 8 hSw0 ?_
    refine tk 9 hSw0 ?_ (hy:=by intro w_ hS_;have c0:=hS_.cell0 a0;have c1:=hS_.cell0 a1;have c2:=hS_.cell0 a2;have d0:=hS_.cell0 b0;have d1:=hS_.cell0 b1;have d2:=hS_.cell0 b2;first|(go_simp;done)|(go_simp;with_reducible rfl))
    refine tk 10 hSw0 ?_
    refine tk 11 hSw0 ?_
    refine tk 12 hSw0 ?_
    refine tk 13 hSw0 ?_
    refine tk 14 hSw0 ?_
    refine tk 15 hSw0 ?_
    refine tk 16 hSw0 ?_ (hy:=by intro w_ hS_;have c0:=hS_.cell0 a0;have c1:=hS_.cell0 a1;have c2:=hS_.cell0 a2;have d0:=hS_.cell0 b0;have d1:=hS_.cell0 b1;have d2:=hS_.cell0 b2;first|(go_simp;done)|(go_simp;with_reducible rfl))
    refine tk 17 hSw0 ?_ (hy:=by intro w_ hS_;have k3:=sa3.out _ hS_;have k4:=sa4.out _ hS_;have l3:=sb3.out _ hS_;have l4:=sb4.out _ hS_;first|(go_simp;done)|(go_simp;with_reducible rfl))
    refine tk 18 hSw0 ?_
    refine tk 19 hSw0 ?_
    refine tk 20 hSw0 ?_
    refine tk 21 hSw0 ?_
    refine tk 22 hSw0 ?_ (hy:=by intro w_ hS_;have c0:=hS_.cell0 a0;have c1:=hS_.cell0 a1;have c2:=hS_.cell0 a2;have d0:=hS_.cell0 b0;have d1:=hS_.cell0 b1;have d2:=hS_.cell0 b2;first|(go_simp;done)|(go_simp;with_reducible rfl))
    refine tk 23 hSw0 ?_ (hy:=by intro w_ hS_;have k3:=sa3.out _ hS_;have k4:=sa4.out _ hS_;have l3:=sb3.out _ hS_;have l4:=sb4.out _ hS_;first|(go_simp;done)|(go_simp;with_reducible rfl))
    refine tk 24 hSw0 ?_
    refine tk 25 hSw0 ?_
    refine tk 26 hSw0 ?_
    refine tk 27 hSw0 ?_
    refine tk 28 hSw0 ?_
    refine tk 29 hSw0 ?_
    refine tk 30 hSw0 ?_
    refine tk 31 hSw0 ?_ (hy:=by intro w_ hS_;have c0:=hS_.cell0 a0;have c1:=hS_.cell0 a1;have c2:=hS_.cell0 a2;have d0:=hS_.cell0 b0;have d1:=hS_.cell0 b1;have d2:=hS_.cell0 b2;first|(go_simp;done)|(go_simp;with_reducible rfl))
    refine tk 32 hSw0 ?_ (hy:=by intro w_ hS_;have k3:=sa3.out _ hS_;have k4:=sa4.out _ hS_;have l3:=sb3.out _ hS_;have l4:=sb4.out _ hS_;first|(go_simp;done)|(go_simp;with_reducible rfl))
    refine tk 33 hSw0 ?_
    refine tk 34 hSw0 ?_
    refine tk 35 hSw0 ?_
    refine tk 36 hSw0 ?_
    refine tk 37 hSw0 ?_ (hy:=by intro w_ hS_;have c0:=hS_.cell0 a0;have c1:=hS_.cell0 a1;have c2:=hS_.cell0 a2;have d0:=hS_.cell0 b0;have d1:=hS_.cell0 b1;have d2:=hS_.cell0 b2;first|(go_simp;done)|(go_simp;with_reducible rfl))
    refine tk 38 hSw0 ?_ (hy:=by intro w_ hS_;have k3:=sa3.out _ hS_;have k4:=sa4.out _ hS_;have l3:=sb3.out _ hS_;have l4:=sb4.out _ hS_;first|(go_simp;done)|(go_simp;with_reducible rfl))
    refine tk 39 hSw0 ?_
    refine tk 40 hSw0 ?_
    refine z1h (by kernel_rfl) ?_ _
    go_wp2
    go_roundw
    case rel=>exact⟨k+1,by omega,by go_num,HF.out.drew⟩
    case measure=>simp[intOf];omega
  · obtain rfl:k=a.length:=by omega
    go_wp2
    go_ret
    exact⟨rfl,HF.out⟩
end
end Go.Proofs.YtidalepbkljkpaaGreat
namespace Go.H
open Go.RowKit Go.Proofs Go.Shelf Go.Lib Go.Sort
section
section
variable {α : Type} [Inhabited α] {enc : α → List Value} {k : Nat}
theorem z9x (hk:∀x,(enc x).length=k) (hk0:0<k):∀(d:List α) (t:Nat),t<d.length*k→((d.map enc).flatten)[t]?=some ((enc d[t / k]!)[t % k]!)
 |[],t,h=>by simp at h
 | x :: d, t, h => by
   simp only[List.map_cons,List.flatten_cons]
   by_cases ht:t<k
   · rw[List.getElem?_append_left (by rw[hk];exact ht),Nat.div_eq_of_lt ht,Nat.mod_eq_of_lt ht]
     simp[List.getElem?_eq_getElem (show t<(enc x).length by rw[hk];exact ht),getElem!_pos (enc x) t (by rw[hk];exact ht)]
   · have ih:=z9x hk hk0 d (t-k) (by rw[List.length_cons,Nat.add_mul,Nat.one_mul] at h;omega)
     rw[List.getElem?_append_right (by rw[hk];omega),hk,ih]
     have e1:t / k=(t-k) / k+1:=by
      conv=>lhs;rw[show t=(t-k)+k by omega,Nat.add_div_right _ hk0]
     have e2:t % k=(t-k) % k:=by
      conv=>lhs;rw[show t=(t-k)+k by omega,Nat.add_mod_right]
     rw[e1,e2]
     rfl
theorem z9y (hk:∀x,(enc x).length=k) (hk0:0<k) (d:List α):(flatK enc k d.toArray).toList=(d.map enc).flatten:=by
 have hl:((d.map enc).flatten).length=d.length*k:=by
  induction d with
  |nil=>simp
  |cons x d ih=>simp only[List.map_cons,List.flatten_cons,List.length_append,hk,ih,List.length_cons,Nat.add_mul,Nat.one_mul];omega
 apply List.ext_getElem?
 intro t
 by_cases h:t<d.length*k
 · rw[z9x hk hk0 d t h]
   simp[flatK,h]
 · rw[List.getElem?_eq_none (by simp[flatK];omega),List.getElem?_eq_none (by rw[hl];omega)]
theorem z9z {F cur:Array Value} (h:F.size≤cur.size):(putCells id 0 F cur).toList.take F.size=F.toList:=by
 apply List.ext_getElem?
 intro j
 by_cases hj:j<F.size
 · have hjs:j<cur.size:=by omega
   rw[List.getElem?_take_of_lt hj,Array.getElem?_toList,Array.getElem?_toList]
   simp[putCells,hj,hjs]
 · rw[List.getElem?_take_eq_none (by omega),List.getElem?_eq_none (by simp;omega)]
theorem za0 {w:World} {blk e:Nat} {cur:Array Value} (hg:w.heap[blk]?=some (.cells cur e (0,0))) (d:Array α) (n:Nat) (os:Array Obj):(sortWorldK enc k w blk 0 n d os).heap[blk]?=some (.cells (putCells id 0 (flatK enc k d) cur) e (0,0)):=by
 unfold sortWorldK putRowK putRow
 have hl:=(Array.getElem?_eq_some_iff.1 hg).1
 rw[heap_grow_old _ _ (by simpa [mapBlock,Sort.ahead] using hl)]
 simp[mapBlock,Sort.ahead,Array.getElem?_modify,hg,onCells]
theorem za1 (w:World) (blk:Nat) (d:Array α) (n:Nat) (os:Array Obj):Fr (fun b=>b=blk) w (sortWorldK enc k w blk 0 n d os):=by
 refine⟨rfl,rfl,by simp[sortWorldK,putRowK,putRow,mapBlock,Sort.ahead],fun j hj hne=>?_⟩
 unfold sortWorldK putRowK putRow
 rw[heap_grow_old _ _ (by simpa [mapBlock,Sort.ahead] using hj)]
 simp[mapBlock,Sort.ahead,Array.getElem?_modify,Ne.symm hne]
theorem za2 {w:World} {g cap e n:Nat} {d d':List α} {B:Nat} {v:Value} (hv:v=.slice (some ⟨g,0,none⟩) d.length cap) (h:w.ownsRow B e k v d.length ((d.map enc).flatten)) (hk:∀x,(enc x).length=k) (hk0:0<k) (hl:d'.length=d.length) (os:Array Obj):(sortWorldK enc k w g 0 n d'.toArray os).ownsRow B e k v d'.length ((d'.map enc).flatten):=by
 subst hv
 rcases h.2 with⟨e1,_⟩|⟨g',cap',cur,e1,h1,h2,h3,h4,h5,h6⟩
 · cases e1
 · injection e1 with e1 e2 e3
   injection e1 with e1
   injection e1 with e1
   subst e1 e3
   have hs:(flatK enc k d'.toArray).size=d'.length*k:=by simp
   have hle:(flatK enc k d'.toArray).size≤cur.size:=by rw[hs,h5,hl];exact Nat.mul_le_mul_right _ h3
   refine⟨?_,.inr ⟨g,cap,_,by rw[hl],h1,za0 h2 _ _ _,by omega,h4,by simpa [putCells] using h5,?_⟩⟩
   · rw[←z9y hk hk0 d',Array.length_toList,hs]
   · rw[←hs,z9z hle,z9y hk hk0]
theorem za3 {w:World} {g cap e:Nat} {d:List α} {B:Nat} (h:w.ownsRow B e k (.slice (some ⟨g,0,none⟩) d.length cap) d.length ((d.map enc).flatten)) (hk:∀x,(enc x).length=k) (hk0:0<k):HoldsK enc k w g 0 d.toArray:=by
 rcases h.2 with⟨e1,_⟩|⟨g',cap',cur,e1,h1,h2,h3,h4,h5,h6⟩
 · cases e1
 · injection e1 with e1 e2 e3
   injection e1 with e1
   injection e1 with e1
   subst e1 e3
   intro j hj
   rw[size_flatK] at hj
   refine⟨?_,by simp[World.frozen?,h2]⟩
   rw[Nat.zero_add]
   have h7:((d.map enc).flatten)[j]?=some ((enc d[j / k]!)[j % k]!):=z9x hk hk0 d j (by simpa using hj)
   rw[←h6,List.getElem?_take_of_lt (by simpa using hj),Array.getElem?_toList] at h7
   have h8:(flatK enc k d.toArray)[j]! = (enc d[j / k]!)[j % k]!:=by
    rw[get_flatK _ _ _ _ hj];simp
   simp only[World.cell?,h2,Option.isSome_none,Bool.false_eq_true,if_false,id,h8]
   exact h7
theorem za4 {lt:α→α→Bool} {d:List α} (h:SortedIn lt 0 d.length d.toArray):d.Pairwise fun a b=>lt b a=false:=by
 rw[List.pairwise_iff_getElem]
 intro i j hi hj hij
 have:=h i j (Nat.zero_le _) hij hj
 simpa [hi,hj] using this
theorem za5 {d d':List α} (h:PermIn 0 d.length d.toArray d'.toArray):d'.Perm d:=by
 obtain⟨h1,_,h2⟩:=h
 have hl:d'.length=d.length:=by simpa using h1
 have h3:(d'.take d.length).Perm d:=by simpa using h2
 rwa [←hl,List.take_length] at h3
end
end
end Go.H
namespace Go.Proofs.YtidalepbkljkpaaGreat
set_option maxRecDepth 100000
section
open Go.RowKit Go.H Go.Shelf Go.Sort
set_option maxHeartbeats 2000000
def laySP_ren : Go.Shelf.Ren := ⟨fun | 6 => 76 | 15 => 80 | 14 => 98 | 28 => 107 | 29 => 108 | 20 => 126 | 21 => 127 | 22 => 128 | 23 => 129 | 24 => 130 | 25 => 131 | 26 => 132 | 27 => 133 | 46 => 152 | 47 => 135 | 48 => 136 | 49 => 153 | 50 => 154 | 57 => 175 | n => n, fun | 22 => 29 | 24 => 42 | 25 => 142 | 3 => 3 | 39 => 146 | 0 => 0 | 53 => 182 | 55 => 61 | 4 => 4 | 46 => 176 | 45 => 175 | 50 => 93 | 5 => 5 | 9 => 9 | 66 => 211 | 70 => 215 | 76 => 238 | 77 => 153 | n => n, fun | n => n⟩
theorem za6:Go.Proofs.SlLaysF0.n6 Tryz.prog laySP_ren:={
 mixed:=by kernel_rfl
 f6:=⟨Tryz.f76.name,by decide,Tryz.func76.trans (congrArg some (by kernel_rfl))⟩
 f14:=⟨Tryz.f98.name,by decide,Tryz.func98.trans (congrArg some (by kernel_rfl))⟩
 f15:=Tryz.func80.trans (congrArg some (by kernel_rfl))
 f20:=⟨Tryz.f126.name,by decide,Tryz.func126.trans (congrArg some (by kernel_rfl))⟩
 f21:=⟨Tryz.f127.name,by decide,Tryz.func127.trans (congrArg some (by kernel_rfl))⟩
 f22:=⟨Tryz.f128.name,by decide,Tryz.func128.trans (congrArg some (by kernel_rfl))⟩
 f23:=⟨Tryz.f129.name,by decide,Tryz.func129.trans (congrArg some (by kernel_rfl))⟩
 f24:=⟨Tryz.f130.name,by decide,Tryz.func130.trans (congrArg some (by kernel_rfl))⟩
 f25:=⟨Tryz.f131.name,by decide,Tryz.func131.trans (congrArg some (by kernel_rfl))⟩
 f26:=⟨Tryz.f132.name,by decide,Tryz.func132.trans (congrArg some (by kernel_rfl))⟩
 f27:=⟨Tryz.f133.name,by decide,Tryz.func133.trans (congrArg some (by kernel_rfl))⟩
 f28:=Tryz.func107.trans (congrArg some (by kernel_rfl))
 f29:=Tryz.func108.trans (congrArg some (by kernel_rfl))
 f46:=⟨Tryz.f152.name,by decide,Tryz.func152.trans (congrArg some (by kernel_rfl))⟩
 f47:=Tryz.func135.trans (congrArg some (by kernel_rfl))
 f48:=Tryz.func136.trans (congrArg some (by kernel_rfl))
 f49:=⟨Tryz.f153.name,by decide,Tryz.func153.trans (congrArg some (by kernel_rfl))⟩
 f50:=⟨Tryz.f154.name,by decide,Tryz.func154.trans (congrArg some (by kernel_rfl))⟩
 f57:=⟨Tryz.f175.name,by decide,Tryz.func175.trans (congrArg some (by kernel_rfl))⟩
 t0:=Tryz.underlying0
 a0:=Tryz.isAgg0
 z0:=Tryz.sizeOf0
 v0:=Tryz.zeroValue0
 t3:=Tryz.underlying3
 a3:=Tryz.isAgg3
 z3:=Tryz.sizeOf3
 v3:=Tryz.zeroValue3
 t4:=Tryz.underlying4
 a4:=Tryz.isAgg4
 z4:=Tryz.sizeOf4
 v4:=Tryz.zeroValue4
 t5:=Tryz.underlying5
 a5:=Tryz.isAgg5
 z5:=Tryz.sizeOf5
 v5:=Tryz.zeroValue5
 t9:=Tryz.underlying9
 a9:=Tryz.isAgg9
 z9:=Tryz.sizeOf9
 v9:=Tryz.zeroValue9
 t22:=Tryz.underlying29
 a22:=Tryz.isAgg29
 z22:=Tryz.sizeOf29
 v22:=Tryz.zeroValue29
 t25:=Tryz.underlying142
 a25:=Tryz.isAgg142
 z25:=Tryz.sizeOf142
 v25:=Tryz.zeroValue142
 t39:=Tryz.underlying146
 a39:=Tryz.isAgg146
 z39:=Tryz.sizeOf146
 v39:=Tryz.zeroValue146
 t45:=Tryz.underlying175
 a45:=Tryz.isAgg175
 z45:=Tryz.sizeOf175
 v45:=Tryz.zeroValue175
 t46:=Tryz.underlying176
 a46:=Tryz.isAgg176
 z46:=Tryz.sizeOf176
 v46:=Tryz.zeroValue176
 t50:=Tryz.underlying93
 a50:=Tryz.isAgg93
 z50:=Tryz.sizeOf93
 v50:=Tryz.zeroValue93
 t53:=Tryz.underlying182
 a53:=Tryz.isAgg182
 z53:=Tryz.sizeOf182
 v53:=Tryz.zeroValue182
 t55:=Tryz.underlying61
 a55:=Tryz.isAgg61
 z55:=Tryz.sizeOf61
 v55:=Tryz.zeroValue61
 t66:=Tryz.underlying211
 a66:=Tryz.isAgg211
 z66:=Tryz.sizeOf211
 v66:=Tryz.zeroValue211
 t70:=Tryz.underlying215
 a70:=Tryz.isAgg215
 z70:=Tryz.sizeOf215
 v70:=Tryz.zeroValue215
 t76:=Tryz.underlying238
 a76:=Tryz.isAgg238
 z76:=Tryz.sizeOf238
 v76:=Tryz.zeroValue238
 t77:=Tryz.underlying153
 a77:=Tryz.isAgg153
 z77:=Tryz.sizeOf153
 v77:=Tryz.zeroValue153 }
theorem za7 {F:Nat→Prop} {w:World} {x y:SKV} {ku vu kv vv:Value} (hx:BytesAt F w ku x.2.1) (hxv:BytesAt F w vu x.2.2) (hy:BytesAt F w kv y.2.1) (hyv:BytesAt F w vv y.2.2) :
 Calls Tryz.prog 77 #[.agg #[.int .i64 x.1,ku,vu],.agg #[.int .i64 y.1,kv,vv]] w fun e w'=>e=.returned (.int .i64 (bcmp x.2.1 y.2.1))∧∃q os',w'=grow (w.drewN q) os':=by
 obtain⟨s,k,v⟩:=x
 obtain⟨s',k',v'⟩:=y
 simp only at *
 have HE:=zhd (fun (w_:World) (hf:Fr C0 w w_)=>z5c (hx.fr0 hf) (hy.fr0 hf))
 obtain⟨KA,kc,rfl,-⟩:=hx.form
 obtain⟨VA,vc,rfl,-⟩:=hxv.form
 obtain⟨YA,yc,rfl,-⟩:=hy.form
 obtain⟨ZA,zc,rfl,-⟩:=hyv.form
 have F1:=zhd (((Fr.refl C0 w).alloc (.cells #[.int .i64 s,.slice KA k.length kc,.slice VA v.length vc] 42)).alloc (.cells #[.int .i64 s',.slice YA k'.length yc,.slice ZA v'.length zc] 42))
 clear hx hxv hy hyv
 go_enter Tryz.func77,Tryz.ntmps77
 go_wp2_with fail
 refine(HE.out _ F1.out).mono ?_
 rintro e w2 ⟨rfl,rfl⟩
 go_wp2_with fail
 go_ret
 exact⟨rfl,0,_,by rw[alloc_eq_grow,alloc_eq_grow,grow_grow];rfl⟩
abbrev PrV (G:Nat→Prop) (w:World):={q:SKV×Value×Value // BytesAt G w q.2.1 q.1.2.1∧BytesAt G w q.2.2 q.1.2.2}
instance {G:Nat→Prop} {w:World}:Inhabited (PrV G w):=⟨⟨((0,[],[]),.slice none 0 0,.slice none 0 0),nilB,nilB⟩⟩
def encP {G:Nat→Prop} {w:World} (q:PrV G w):List Value:=[.int .i64 q.1.1.1,q.1.2.1,q.1.2.2]
theorem za8 {G:Nat→Prop} {w:World}:∀{ys:List Value} {M:List SKV},PairCellsS G w ys M→∃d:List (PrV G w),(d.map encP).flatten=ys∧d.map (fun q=>q.1.1)=M
 |_,_,.nil=>⟨[],rfl,rfl⟩
 | _, _, .cons (x := x) (kv := kv) (vv := vv) h1 h2 h3 => by
   obtain⟨d,e1,e2⟩:=za8 h3
   exact⟨⟨(x,kv,vv),h1,h2⟩::d,by simp[encP,e1],by simp[e2]⟩
theorem za9 {G:Nat→Prop} {w:World}:∀d:List (PrV G w),PairCellsS G w ((d.map encP).flatten) (d.map fun q=>q.1.1)
 |[]=>.nil
 | q :: d => by
   rw[List.map_cons,List.flatten_cons,List.map_cons]
   exact .cons q.2.1 q.2.2 (za9 d)
theorem swoP {G:Nat→Prop} {w:World}:SWO (ltOf fun x y:PrV G w=>bcmp x.1.1.2.1 y.1.1.2.1) where
 irrefl x:=by
  unfold ltOf
  rw[decide_eq_false_iff_not]
  show ¬bcmp x.1.1.2.1 x.1.1.2.1<0
  rw[z40]
  omega
 trans x y z h1 h2:=by
  unfold ltOf at *
  rw[decide_eq_true_iff] at *
  exact z43 h1 h2
 ntrans x y z h1 h2:=by
  unfold ltOf at *
  rw[decide_eq_false_iff_not] at *
  exact z8f h1 h2
def OutS (N:Nat) (w:World) (ov:Value) (M:List SKV):Prop:=∃ys,w.ownsRow N 42 3 ov M.length ys∧PairCellsS (fun b=>N≤b∧¬ov.ownBlock=some b) w ys M
theorem OutS.nil {N:Nat} {w:World}:OutS N w (.slice none 0 0) []:=⟨[],World.ownsRow_nil _ _ _ _,.nil⟩
theorem OutS.fr0 {N:Nat} {w w':World} {ov:Value} {M:List SKV} (h:OutS N w ov M) (hf:Fr C0 w w'):OutS N w' ov M:=by
 obtain⟨ys,a,b⟩:=h
 exact⟨ys,z0l a hf (fun _ _ e=>e),b.fr hf (fun _ _ e=>e)⟩
theorem zaa {G:Nat→Prop} {w:World} {N g cap:Nat} {M:List SKV} {ys:List Value} (h:w.ownsRow N 42 3 (.slice (some ⟨g,0,none⟩) M.length cap) M.length ys) (hc:PairCellsS G w ys M) (hG:∀b,G b→N≤b∧¬b=g) (hm:M.length≤100000) :
 Calls Tryz.prog 76 #[.slice (some ⟨g,0,none⟩) M.length cap,.func (.func 77) #[] #[]] w fun e w'=>e=.returned (.tuple #[])∧Hid (Fr (fun b=>b=g) w w'∧∃M',M'.Perm M∧M'.Pairwise (fun a b=>¬bcmp b.2.1 a.2.1<0)∧OutS N w' (.slice (some ⟨g,0,none⟩) M.length cap) M'):=by
 obtain⟨d,hd1,hd2⟩:=za8 hc
 have hdl:d.length=M.length:=by rw[←hd2,List.length_map]
 have hgl:g<w.heap.size:=(h.lt g rfl).2
 have hno:∀b,G b→¬b=g:=fun b hb=>(hG b hb).2
 have eg:∀args w,(callFunc 77 args).run Tryz.prog w=.ok (.enter 77 args) w:=enters_of Tryz.func77 (by kernel_rfl) rfl
 have hcmp:CmpLays Tryz.prog 77 #[] encP 3 (fun x y:PrV G w=>bcmp x.1.1.2.1 y.1.1.2.1) g 0 d.toArray.size w:=fun m os dk _ x y=>by
  have f:=za1 (enc:=encP) (k:=3) w g dk m os
  have tr:∀{u:Value} {z:Bs},BytesAt G w u z→BytesAt (fun _=>True) (sortWorldK encP 3 w g 0 m dk os) u z:=fun hb=>(hb.fr f hno).mono (fun _ _ _=>trivial)
  exact za7 (tr x.2.1) (tr x.2.2) (tr y.2.1) (tr y.2.2)
 have h0:w.ownsRow N 42 3 (.slice (some ⟨g,0,none⟩) d.length cap) d.length ((d.map encP).flatten):=by rw[hd1,hdl];exact h
 have hcon:=AnyQ.slices_SortFunc za6 3 (fun _=>by kernel_rfl) (fun _=>by kernel_rfl) encP (fun _=>rfl) (fun x v hv=>by
  obtain⟨_,_,e1,_⟩:=x.2.1.form
  obtain⟨_,_,e2,_⟩:=x.2.2.form
  simp only[encP,List.mem_cons,List.not_mem_nil,or_false] at hv
  rcases hv with rfl|rfl|rfl
  · rfl
  · rw[e1];rfl
  · rw[e2];rfl) (fun x y=>bcmp x.1.1.2.1 y.1.1.2.1) swoP 77 #[] g 0 cap d.toArray w eg hcmp (za3 h0 (fun _=>rfl) (by decide)) hgl (by simp;omega)
 rw[List.size_toArray,hdl] at hcon
 refine Calls.mono (show Calls Tryz.prog 76 _ _ _ from hcon) ?_
 rintro e w' ⟨rfl,d',n,os,hp,hso,rfl⟩
 obtain⟨l,rfl⟩:∃l:List _,d'=l.toArray:=⟨d'.toList,by simp⟩
 rw[←hdl] at hp hso
 have hpl:=za5 hp
 have hll:=hpl.length_eq
 rw[←hll] at hso
 have hsl:=za4 hso
 refine⟨rfl,zhd ⟨za1 _ _ _ _ _,l.map (fun q=>q.1.1),by rw[←hd2];exact hpl.map _,?_,?_⟩⟩
 · rw[List.pairwise_map]
   refine hsl.imp fun {a b} hab=>?_
   unfold ltOf at hab
   rw[decide_eq_false_iff_not] at hab
   exact hab
 · have ho:=za2 (n:=n) rfl h0 (fun _=>rfl) (by decide) hll os
   rw[hll,hdl] at ho
   exact⟨(l.map encP).flatten,by rw[List.length_map,hll,hdl];exact ho,((za9 l).fr (za1 _ _ _ _ _) hno).mono (fun b hb _=>⟨(hG b hb).1,fun e=>(hG b hb).2 (by injection e with e;exact e.symm)⟩)⟩
theorem zab {w:World} {f:Value}:Calls Tryz.prog 126 #[.slice none 0 0,.int .i64 0,.int .i64 0,f] w fun e w'=>e=.returned (.tuple #[])∧w=w':=by
 go_enter Tryz.func126,Tryz.ntmps126
 go_wp2_with fail
 refine wp_loop_rounds 1 ?_;rw[rounds_succ]
 go_wp2_with fail
 go_end0
 exact⟨rfl,rfl⟩
theorem zac {w:World} {l:Int} {f:Value}:Calls Tryz.prog 98 #[.slice none 0 0,.int .i64 0,.int .i64 0,.int .i64 l,f] w fun e w'=>e=.returned (.tuple #[])∧w=w':=by
 go_enter Tryz.func98,Tryz.ntmps98
 go_wp2_with fail
 refine wp_loop_rounds 1 ?_;rw[rounds_succ]
 go_wp2_with fail
 refine zab.mono ?_
 rintro e w2 ⟨rfl,rfl⟩
 go_wp2_with fail
 refine bodyPost_ret_by (v:=.tuple #[]) (results_none rfl _ _ _) rfl ?_
 exact⟨rfl,rfl⟩
theorem zad {w:World}:Calls Tryz.prog 80 #[.int .u64 0] w fun e w'=>e=.returned (.int .i64 0)∧w=w':=by
 have h:=Any.bits_Len (SlLaysF0.n15.bits (P:=Tryz.prog) { za6 with }) (0:Int) w (by omega) (by omega)
 refine Calls.mono (show Calls Tryz.prog 80 _ _ _ from h) ?_
 rintro e w' ⟨rfl,rfl⟩
 exact⟨rfl,rfl⟩
theorem zae {w:World} {f:Value}:Calls Tryz.prog 76 #[.slice none 0 0,f] w fun e w'=>e=.returned (.tuple #[])∧w=w':=by
 go_enter Tryz.func76,Tryz.ntmps76
 go_wp2_with fail
 refine zad.mono ?_
 rintro e w2 ⟨rfl,rfl⟩
 go_wp2_with fail
 refine zac.mono ?_
 rintro e w2 ⟨rfl,rfl⟩
 go_wp2_with fail
 go_end0
 exact⟨rfl,rfl⟩
theorem zaf {w:World} {N:Nat} {ov:Value} {M:List SKV} (h:OutS N w ov M) (hm:M.length≤100000) :
 Calls Tryz.prog 76 #[ov,.func (.func 77) #[] #[]] w fun e w'=>e=.returned (.tuple #[])∧Hid (Fr (fun b=>ov.ownBlock=some b) w w'∧∃M',M'.Perm M∧M'.Pairwise (fun a b=>¬bcmp b.2.1 a.2.1<0)∧OutS N w' ov M'):=by
 obtain⟨ys,ho,hc⟩:=h
 rcases ho.2 with⟨rfl,h0⟩|⟨g,cap,cur,rfl,-⟩
 · have hM:M=[]:=List.eq_nil_of_length_eq_zero h0
   subst hM
   refine zae.mono ?_
   rintro e w' ⟨rfl,rfl⟩
   exact⟨rfl,zhd ⟨Fr.refl _ _,[],.refl _,.nil,OutS.nil⟩⟩
 · refine(zaa ho hc (fun b hb=>⟨hb.1,fun e=>hb.2 (by rw[e];rfl)⟩) hm).mono ?_
   rintro e w' ⟨rfl,H⟩
   obtain⟨f,M',h1,h2,h3⟩:=H.out
   have hl:=h1.length_eq
   exact⟨rfl,zhd ⟨f.mono fun b _ e=>by rw[show b=g from e];rfl,M',h1,h2,h3⟩⟩
end
section
open Go.RowKit Go.H
set_option maxHeartbeats 1000000
variable {c c' : Nat → Nat} {w w' : World} {dp sp tp : Nat} {Z : TSt} {lv : Value} {L : List Chg}
theorem zag {s:Int} {k:Bs} {x:Chg} (h:lastC L s k=some x):x∈L:=List.mem_reverse.1 (List.mem_of_find?_eq_some h)
theorem zah {F:Nat→Prop} {kv:Value} {s:Int} {k:Bs} (h:DrfAt c w dp sp tp Z lv L) (hk:BytesAt F w kv k) (hL:L.length≤100000) :
 Calls Tryz.prog 57 #[.pointer (some ⟨dp,0,none⟩),.int .i64 s,kv] w fun e w'=>∃v' ok,e=.returned (.tuple #[v',.bool ok,.int .i64 (rightL s k [] false:Int)])∧Hid (Fr C0 w w'∧(rightL s k [] false=0→(lastC L s k=none→ok=false)∧∀x,lastC L s k=some x→ok=!x.gone∧BytesAt (fun b=>w.heap.size≤b) w' v' x.value)):=by
 have HG:=zhd (z91 (s:=s) h.s hk)
 rw[h.em] at HG
 have HL:=zhd (fun (w_:World) (hf:Fr C0 w w_)=>z9e (s:=s) (h.fr0 hf) (hk.fr0 hf) hL)
 have HB:Hid (∀x,lastC L s k=some x→x.value.length≤100000):=zhd fun x hx=>by have:=(z8m (h.ok x (zag hx))).2.2.2.2;omega
 have c0:=h.c0
 obtain⟨KA,kc,rfl,-⟩:=hk.form
 obtain⟨r,hr⟩:∃r,r=rightL s k [] false:=⟨_,rfl⟩
 rw[←hr] at HG⊢
 clear h hk hr
 by_cases h0:r=0
 · subst h0
   cases hlc:lastC L s k with
   | none =>
     rw[hlc] at HL
     clear hlc HB
     go_enter Tryz.func57,Tryz.ntmps57
     go_wp2_with fail
     refine HG.out.mono ?_
     rintro e w1 ⟨A1,m1,p1,rfl,H1⟩
     have F1:=zhd H1.out.1
     clear H1
     go_wp2_with fail
     refine(HL.out _ F1.out).mono ?_
     rintro e w2 ⟨x,B1,n1,q1,B2,n2,q2,rfl,H2⟩
     have F2:=zhd (F1.out.trans0 H2.out.1)
     clear H2
     go_wp2_with fail
     go_ret3
     refine⟨_,_,rfl,zhd ?_⟩
     first
     |exact⟨F2.out.alloc _,fun _=>⟨fun _=>rfl,fun x hx=>by cases hx⟩⟩
     |exact⟨F2.out.alloc _,⟨rfl,fun x hx=>by cases hx⟩⟩
     |(simp[getL];exact F2.out.alloc _)
   | some y =>
     rw[hlc] at HL HB
     clear hlc
     go_enter Tryz.func57,Tryz.ntmps57
     go_wp2_with fail
     refine HG.out.mono ?_
     rintro e w1 ⟨A1,m1,p1,rfl,H1⟩
     have F1:=zhd H1.out.1
     clear H1
     go_wp2_with fail
     refine(HL.out _ F1.out).mono ?_
     rintro e w2 ⟨x,B1,n1,q1,B2,n2,q2,rfl,H2⟩
     obtain⟨rfl,hb⟩:=H2.out.2 y rfl
     have F2:=zhd (F1.out.trans0 H2.out.1)
     have H3:=zhd hb
     clear H2 hb
     have HF3:=zhd (F2.out.alloc (.cells #[.int .i64 y.space,.slice B1 n1 q1,.slice B2 n2 q2,.bool y.gone] 57))
     have m2:(w2.alloc (.cells #[.int .i64 y.space,.slice B1 n1 q1,.slice B2 n2 q2,.bool y.gone] 57)).cell? ⟨w2.heap.size,2,none⟩=some (.slice B2 n2 q2):=z1u (heap_alloc_new w2 _) 2 rfl
     have m3:(w2.alloc (.cells #[.int .i64 y.space,.slice B1 n1 q1,.slice B2 n2 q2,.bool y.gone] 57)).cell? ⟨w2.heap.size,3,none⟩=some (.bool y.gone):=z1u (heap_alloc_new w2 _) 3 rfl
     have HCL:=zhd (fun (w_:World) (hf:Fr C0 (w2.alloc (.cells #[.int .i64 y.space,.slice B1 n1 q1,.slice B2 n2 q2,.bool y.gone] 57)) w_)=>z8t (H3.out.fr0 (((Fr.refl C0 w2).alloc _).trans0 hf)) (HB.out y rfl))
     clear HL HB
     go_wp2_with fail
     generalize w2.alloc (.cells #[.int .i64 y.space,.slice B1 n1 q1,.slice B2 n2 q2,.bool y.gone] 57)=W3 at *
     refine z1i (Fr C0 W3) [] (by kernel_rfl) ?_
     have hSw0:(Fr C0 W3) _:=(Fr.refl C0 W3).drew
     refine tk 0 hSw0 ?_
     refine tk 1 hSw0 ?_
     refine tk 2 hSw0 ?_ (hy:=by intro w_ hS_;have b0:=hS_.cell0 m2;have b1:=hS_.cell0 m3;first|(go_simp;done)|(go_simp;with_reducible rfl))
     refine tk 4 hSw0 ?_
     refine tk 5 hSw0 ?_ (hy:=by intro w_ hS_;have b0:=hS_.cell0 m2;have b1:=hS_.cell0 m3;first|(go_simp;done)|(go_simp;with_reducible rfl))
     refine tk 6 hSw0 ?_
     refine one_ 3 rfl (fun K hK=>?_)
     go_simp
     refine(HCL.out _ (Fr.refl C0 W3).drew).mono ?_
     rintro e w4 ⟨v4,rfl,f4,o4⟩
     have F4:=zhd ((Fr.refl C0 W3).drew.trans0 f4)
     have B4:=zhd (o4.mono (F':=fun b=>w.heap.size≤b) (fun b h _=>by have:=HF3.out.drew.size;omega))
     obtain⟨A4,p4,rfl,-⟩:=o4.form
     clear f4 o4
     simp only[]
     refine hK.out _ _ ?kS1 (fun hSw1=>?kR1)
     case kS1=>exact F4.out
     clear hK K
     try simp only[Act.put,zs1,zs2,zs3]
     refine tk 7 hSw1 ?_
     refine tk 8 hSw1 ?_
     refine tk 9 hSw1 ?_
     refine z1h (by kernel_rfl) ?_ _
     go_wp2_with fail
     go_ret3
     refine⟨_,_,rfl,zhd ?_⟩
     refine⟨HF3.out.trans0 F4.out,fun _=>⟨fun e=>(by cases e),fun x hx=>?_⟩⟩
     injection hx with hx
     subst hx
     exact⟨rfl,B4.out⟩
 · have hr1:((r:Int) != 0)=true:=by simp[bne,z28];omega
   go_enter Tryz.func57,Tryz.ntmps57
   go_wp2_with fail
   refine HG.out.mono ?_
   rintro e w1 ⟨A1,m1,p1,rfl,H1⟩
   have F1:=zhd H1.out.1
   clear H1
   go_wp2_with fail
   go_ret3
   exact⟨_,_,rfl,zhd ⟨F1.out,fun e=>absurd e h0⟩⟩
end
end Go.Proofs.YtidalepbkljkpaaGreat

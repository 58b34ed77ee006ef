import Derived.Test.YtidalepbkljkpaaGreatLocalSpaces06
import Derived.Test.YtidalepbkljkpaaGreatLocalSpaces07
import Derived.Test.YtidalepbkljkpaaGreatLocalSpaces08
import Derived.Laws.IdiomRangeMap
set_option linter.all false
namespace Go.Proofs.YtidalepbkljkpaaGreat
open Go.RowKit Go.H
set_option maxHeartbeats 1000000
set_option maxRecDepth 100000
section
structure SSt where
 pages:Nat
 state:List (Int×Int)
 life:Int
 num:Nat
 root:Nat
 dk:Nat
def vmap (L:List (Int×Int)):List (Int×Value):=L.map fun p=>(p.1,.int .i64 p.2)
theorem z4v (k:Int):∀L:List (Int×Int),aget k (vmap L)=(aget k L).map fun x=>Value.int .i64 x
 |[]=>rfl
 | p :: L => by
   by_cases h:p.1=k
   · simp[vmap,aget,h]
   · simp only[vmap,List.map_cons,aget,if_neg h];exact z4v k L
theorem z4w (k v:Int):∀L:List (Int×Int),aset k (Value.int .i64 v) (vmap L)=vmap (aset k v L)
 |[]=>rfl
 | p :: L => by
   by_cases h:p.1=k
   · simp[vmap,aset,h]
   · have ih:=z4w k v L
     simp only[vmap,List.map_cons,aset,if_neg h] at ih⊢
     rw[ih]
def SSt.at_ (S:SSt) (k:Nat):Int:=(aget (k:Int) S.state).getD 0
theorem z4x {w:World} {m:Nat} {L:List (Int×Int)} (h:MapIs w m (vmap L)) (k:Int) :
 (Instr.lookup 136 (.map (some m)) (.int .i64 k) false).run Tryz.prog w=.ok (.int .i64 ((aget k L).getD 0)) w:=by
 have hz:(zeroValue 3).run Tryz.prog w=.ok (.int .i64 0) w:=by kernel_rfl
 have hl:=z08 (P:=Tryz.prog) (T:=136) (K:=3) (E:=3) Tryz.underlying136 Tryz.underlying3 hz h k false
 rw[hl,z21,z4v]
 cases aget k L<;>rfl
structure StoreIn (c:Nat→Nat) (r:Nat) (w:World) (st sm d m:Nat) (ov:Value) (S:SSt) (D:DSt):Prop where
 blk:w.heap[st]?=some (.cells #[.int .i64 S.pages,.map (some sm),.pointer (some ⟨d,0,none⟩),.int .i64 S.life,.int .u64 S.num,.int .i64 S.root] 172 (0,0))
 map:MapIs w sm (vmap S.state)
 disk:DiskA (Dt c) w d m ov D
 ost:c st=r
 osm:c sm=r
 od:c d=r
 om:c m=r
 oov:∀b,ov.ownBlock=some b→c b=r
 ne:sm≠m
 dk:d=S.dk
def StoreOk (c:Nat→Nat) (r:Nat) (w:World) (st:Nat) (S:SSt) (D:DSt):Prop:=∃sm d m ov,StoreIn c r w st sm d m ov S D
theorem z4y {w:World} {B e size n:Nat} {v:Value} {xs:List Value} (h:w.ownsRow B e size v n xs) {b:Nat} (hb:v.ownBlock=some b):∃cur,w.heap[b]?=some (.cells cur e (0,0)):=by
 rcases h.2 with⟨rfl,_⟩|⟨g,cap,cur,rfl,h1,hg,_⟩
 · simp[Value.ownBlock] at hb
 · simp[Value.ownBlock] at hb;subst hb;exact⟨cur,hg⟩
namespace StoreIn
variable {c : Nat → Nat} {r : Nat} {w : World} {st sm d m : Nat} {ov : Value} {S : SSt} {D : DSt}
theorem st_d (h:StoreIn c r w st sm d m ov S D):st≠d:=by
 intro e;have h1:=h.blk;rw[e,h.disk.blk] at h1;simp at h1
theorem st_m (h:StoreIn c r w st sm d m ov S D):st≠m:=by
 intro e;have h1:=h.blk;obtain⟨M,⟨es,k,h2,_⟩,_⟩:=h.disk.kept;rw[e,h2] at h1;simp at h1
theorem st_sm (h:StoreIn c r w st sm d m ov S D):st≠sm:=by
 intro e;have h1:=h.blk;obtain⟨es,k,h2,_⟩:=h.map;rw[e,h2] at h1;simp at h1
theorem d_m (h:StoreIn c r w st sm d m ov S D):d≠m:=by
 intro e;have h1:=h.disk.blk;obtain⟨M,⟨es,k,h2,_⟩,_⟩:=h.disk.kept;rw[e,h2] at h1;simp at h1
theorem d_sm (h:StoreIn c r w st sm d m ov S D):d≠sm:=by
 intro e;have h1:=h.disk.blk;obtain⟨es,k,h2,_⟩:=h.map;rw[e,h2] at h1;simp at h1
theorem ov_m (h:StoreIn c r w st sm d m ov S D):∀b,ov.ownBlock=some b→b≠m:=by
 intro b hb e;obtain⟨xs,o,_⟩:=h.disk.opn;obtain⟨cur,h1⟩:=z4y o hb;obtain⟨M,⟨es,k,h2,_⟩,_⟩:=h.disk.kept;rw[e,h2] at h1;simp at h1
theorem ov_sm (h:StoreIn c r w st sm d m ov S D):∀b,ov.ownBlock=some b→b≠sm:=by
 intro b hb e;obtain⟨xs,o,_⟩:=h.disk.opn;obtain⟨cur,h1⟩:=z4y o hb;obtain⟨es,k,h2,_⟩:=h.map;rw[e,h2] at h1;simp at h1
theorem ov_d (h:StoreIn c r w st sm d m ov S D):∀b,ov.ownBlock=some b→b≠d:=by
 intro b hb e;obtain⟨xs,o,_⟩:=h.disk.opn;obtain⟨cur,h1⟩:=z4y o hb;rw[e,h.disk.blk] at h1;simp at h1
theorem ov_st (h:StoreIn c r w st sm d m ov S D):∀b,ov.ownBlock=some b→b≠st:=by
 intro b hb e;obtain⟨xs,o,_⟩:=h.disk.opn;obtain⟨cur,h1⟩:=z4y o hb;rw[e,h.blk] at h1;simp at h1
theorem fr {C:Nat→Prop} {w':World} (h:StoreIn c r w st sm d m ov S D) (hf:Fr C w w') (h1:∀b,C b→c b≠r) (h2:∀b,C b→c b≠0):StoreIn c r w' st sm d m ov S D:=
 ⟨hf.blk h.blk (fun k=>h1 _ k h.ost),h.map.fr hf (fun k=>h1 _ k h.osm),h.disk.fr hf (fun k=>h1 _ k h.od) (fun k=>h1 _ k h.om) (fun b hb k=>h1 _ k (h.oov b hb)) (fun b hb k=>h2 _ k hb),h.ost,h.osm,h.od,h.om,h.oov,h.ne,h.dk⟩
theorem fr0 {w':World} (h:StoreIn c r w st sm d m ov S D) (hf:Fr C0 w w'):StoreIn c r w' st sm d m ov S D:=h.fr hf (fun _ k=>k.elim) (fun _ k=>k.elim)
end StoreIn
theorem z4z {c:Nat→Nat} {r:Nat} {w:World} {st sm d m:Nat} {ov:Value} {S:SSt} {D:DSt} (h:StoreIn c r w st sm d m ov S D) :
 Calls Tryz.prog 74 #[.pointer (some ⟨st,0,none⟩)] w fun e w'=>e=.returned (.bool (D.down || decide (D.life≠S.life)))∧w'=w.drew:=by
 have c2:=z2k h.blk 2 rfl
 have c3:=z2k h.blk 3 rfl
 have HD:=zhd (fun (w_:World) (hf:Fr C0 w w_)=>z3b (h.disk.fr0 hf))
 have HL:=zhd (fun (w_:World) (hf:Fr C0 w w_)=>z3c (h.disk.fr0 hf))
 clear h
 go_enter Tryz.func74,Tryz.ntmps74
 go_wp2
 cases hd:D.down with
 | true =>
   rw[hd] at HD
   refine z1z (Fr C0 w) [] (by kernel_rfl) ?_
   have hSw0:(Fr C0 w) _:=(Fr.refl C0 w).drew
   refine tk 0 hSw0 ?_
   refine tk 1 hSw0 ?_
   refine tk 2 hSw0 ?_
   refine tk 3 hSw0 ?_ (hy:=by intro w_ hS_;have b2:=hS_.cell0 c2;first|(go_simp;done)|(go_simp;with_reducible rfl))
   refine one_ 4 rfl (fun K hK=>?_)
   go_simp
   refine(HD.out _ (by assumption)).mono ?_
   rintro e w2 ⟨rfl,rfl⟩
   simp only[]
   refine hK.out _ _ ?kS1 (fun hSw1=>?kR1)
   case kS1=>assumption
   clear hK K
   try simp only[Act.put,zs1,zs2,zs3]
   refine tk 5 hSw1 ?_
   refine tks 6 rfl hSw1 ?_
   try simp only[Act.put,zs1,zs2,zs3]
   refine tks 7 rfl hSw1 ?_
   try simp only[Act.put,zs1,zs2,zs3]
   refine tks 8 rfl hSw1 ?_
   try simp only[Act.put,zs1,zs2,zs3]
   refine tks 9 rfl hSw1 ?_
   try simp only[Act.put,zs1,zs2,zs3]
   refine tks 10 rfl hSw1 ?_
   try simp only[Act.put,zs1,zs2,zs3]
   refine tks 11 rfl hSw1 ?_
   try simp only[Act.put,zs1,zs2,zs3]
   refine tks 12 rfl hSw1 ?_
   try simp only[Act.put,zs1,zs2,zs3]
   refine tks 13 rfl hSw1 ?_
   try simp only[Act.put,zs1,zs2,zs3]
   refine tks 14 rfl hSw1 ?_
   try simp only[Act.put,zs1,zs2,zs3]
   refine tks 15 rfl hSw1 ?_
   try simp only[Act.put,zs1,zs2,zs3]
   refine tk 16 hSw1 ?_
   refine tk 17 hSw1 ?_
   refine z1y (by kernel_rfl) ?_ _
   go_wp2
   go_ret
   exact⟨by simp[hd],rfl⟩
 | false =>
   rw[hd] at HD
   refine z1z (Fr C0 w) [] (by kernel_rfl) ?_
   have hSw0:(Fr C0 w) _:=(Fr.refl C0 w).drew
   refine tk 0 hSw0 ?_
   refine tk 1 hSw0 ?_
   refine tk 2 hSw0 ?_
   refine tk 3 hSw0 ?_ (hy:=by intro w_ hS_;have b2:=hS_.cell0 c2;have b3:=hS_.cell0 c3;first|(go_simp;done)|(go_simp;with_reducible rfl))
   refine one_ 4 rfl (fun K hK=>?_)
   go_simp
   refine(HD.out _ (by assumption)).mono ?_
   rintro e w2 ⟨rfl,rfl⟩
   simp only[]
   refine hK.out _ _ ?kS2 (fun hSw1=>?kR2)
   case kS2=>assumption
   clear hK K
   try simp only[Act.put,zs1,zs2,zs3]
   refine tk 5 hSw1 ?_
   refine tk 6 hSw1 ?_
   refine tk 7 hSw1 ?_
   refine tk 8 hSw1 ?_
   refine tk 9 hSw1 ?_ (hy:=by intro w_ hS_;have b2:=hS_.cell0 c2;have b3:=hS_.cell0 c3;first|(go_simp;done)|(go_simp;with_reducible rfl))
   refine tk 11 hSw1 ?_
   refine tk 12 hSw1 ?_
   refine tk 13 hSw1 ?_
   refine tk 14 hSw1 ?_ (hy:=by intro w_ hS_;have b2:=hS_.cell0 c2;have b3:=hS_.cell0 c3;first|(go_simp;done)|(go_simp;with_reducible rfl))
   refine one_ 10 rfl (fun K hK=>?_)
   go_simp
   refine(HL.out _ (by assumption)).mono ?_
   rintro e w2 ⟨rfl,rfl⟩
   simp only[]
   refine hK.out _ _ ?kS3 (fun hSw2=>?kR3)
   case kS3=>assumption
   clear hK K
   try simp only[Act.put,zs1,zs2,zs3]
   refine tk 15 hSw2 ?_
   refine tk 16 hSw2 ?_
   refine tk 17 hSw2 ?_
   refine z1y (by kernel_rfl) ?_ _
   go_wp2
   go_ret
   refine⟨?_,rfl⟩
   simp[hd,bne,z32]
theorem z50 {c:Nat→Nat} {r:Nat} {w:World} {st sm d m:Nat} {ov:Value} {S:SSt} {D:DSt} (h:StoreIn c r w st sm d m ov S D) :
 Calls Tryz.prog 84 #[.pointer (some ⟨st,0,none⟩)] w fun e w'=>e=.returned (.int .i64 S.root)∧w=w':=by
 have c5:=z2k h.blk 5 rfl
 clear h
 go_enter Tryz.func84,Tryz.ntmps84
 go_wp2
 go_ret
 exact⟨rfl,rfl⟩
theorem z51 {c:Nat→Nat} {r:Nat} {w:World} {st sm d m:Nat} {ov:Value} {S:SSt} {D:DSt} (h:StoreIn c r w st sm d m ov S D) (hp:S.pages≤5000) (k:Nat) :
 Calls Tryz.prog 116 #[.pointer (some ⟨st,0,none⟩),.int .i64 (k:Int)] w fun e w'=>e=.returned (.bool (decide (2≤k) && decide (k<2+S.pages)))∧w=w':=by
 have c0:=z2k h.blk 0 rfl
 clear h
 go_enter Tryz.func116,Tryz.ntmps116
 go_wp2
 all_goals
  go_ret
  refine⟨?_,rfl⟩
  show Ending.returned (Value.bool _)=Ending.returned (Value.bool _)
  congr 2
  rw[Bool.eq_iff_iff]
  simp
  omega
theorem z52 {c:Nat→Nat} {r:Nat} {w:World} {st sm d m:Nat} {ov:Value} {S:SSt} {D:DSt} (h:StoreIn c r w st sm d m ov S D) (hp:S.pages≤5000) (hs:S.state.length≤S.pages) :
 Calls Tryz.prog 165 #[.pointer (some ⟨st,0,none⟩)] w fun e w'=>e=.returned (.int .i64 ((S.pages-S.state.length:Nat):Int))∧w'=w.drew:=by
 have c0:=z2k h.blk 0 rfl
 have c1:=z2k h.blk 1 rfl
 have HL:=zhd (fun (w_:World) (hf:Fr C0 w w_)=>Go.H.run_len_map (P:=Tryz.prog) (ats:=#[136]) (ty:=3) rfl Tryz.underlying136 (h.map.fr hf (fun k=>k)))
 have hv:(vmap S.state).length=S.state.length:=by simp[vmap]
 clear h
 go_enter Tryz.func165,Tryz.ntmps165
 go_wp2
 refine z1z (Fr C0 w) [] (by kernel_rfl) ?_
 have hSw0:(Fr C0 w) _:=(Fr.refl C0 w).drew
 refine tk 0 hSw0 ?_
 refine tk 1 hSw0 ?_
 refine tk 2 hSw0 ?_
 refine tk 3 hSw0 ?_ (hy:=by intro w_ hS_;have b0:=hS_.cell0 c0;have b1:=hS_.cell0 c1;have hl:=HL.out _ hS_;first|(go_simp;done)|(go_simp;with_reducible rfl))
 refine tk 4 hSw0 ?_
 refine tk 5 hSw0 ?_
 refine tk 6 hSw0 ?_
 refine tk 7 hSw0 ?_ (hy:=by intro w_ hS_;have b0:=hS_.cell0 c0;have b1:=hS_.cell0 c1;have hl:=HL.out _ hS_;first|(go_simp;done)|(go_simp;with_reducible rfl))
 refine tk 8 hSw0 ?_ (hy:=by intro w_ hS_;have b0:=hS_.cell0 c0;have b1:=hS_.cell0 c1;have hl:=HL.out _ hS_;first|(go_simp;done)|(go_simp;with_reducible rfl))
 refine tk 9 hSw0 ?_
 refine tk 10 hSw0 ?_
 refine z1y (by kernel_rfl) ?_ _
 have e1:IntKind.i64.wrap ((S.pages:Int)-(S.state.length:Int))=((S.pages-S.state.length:Nat):Int):=by rw[IntWalk.i64_in _ (by omega)];omega
 rw[e1]
 go_wp2
 go_ret
 exact⟨rfl,rfl⟩
def SSt.freeFrom (S:SSt) (k:Nat):Nat→Nat
 |0=>0
 |n+1=>if S.at_ k=0 then k else S.freeFrom (k+1) n
def SSt.first (S:SSt):Nat:=S.freeFrom 2 S.pages
theorem z53 {c:Nat→Nat} {r:Nat} {w:World} {st sm d m:Nat} {ov:Value} {S:SSt} {D:DSt} (h:StoreIn c r w st sm d m ov S D) (hp:S.pages≤5000) :
 Calls Tryz.prog 181 #[.pointer (some ⟨st,0,none⟩)] w fun e w'=>e=.returned (.int .i64 S.first)∧w=w':=by
 have c0:=z2k h.blk 0 rfl
 have c1:=z2k h.blk 1 rfl
 have HL:=fun k:Int=>z4x h.map k
 clear h
 go_enter Tryz.func181,Tryz.ntmps181
 go_wp2
 go_loopw [2,3] (fun _ i wr=>∃k n:Nat,k+n=2+S.pages∧2≤k∧i=.int .i64 (k:Int)∧wr=w∧Hid (S.freeFrom k n=S.first)) (fun _ i _=>2+S.pages-(intOf i).toNat)
 case atStart=>exact⟨2,S.pages,rfl,by omega,rfl,rfl,zhd rfl⟩
 case round=>
  obtain⟨k,n,hk,h2,rfl,rfl,HA⟩:=hrel
  cases n with
  | zero =>
    have ek:(k:Int)=2+(S.pages:Int):=by omega
    clear HL
    go_wp2
    go_ret
    exact⟨by rw[←HA.out];rfl,rfl⟩
  | succ n =>
    have hl:=HL k
    have HA1:=HA.out
    unfold SSt.freeFrom at HA1
    have hlt:(k:Int)<2+(S.pages:Int):=by omega
    by_cases h0:(aget (k:Int) S.state).getD 0=0
    · rw[if_pos (show S.at_ k=0 from h0)] at HA1
      have HA2:=zhd HA1
      clear HL HA1 HA
      go_wp2
      go_ret
      exact⟨by rw[←HA2.out];rfl,rfl⟩
    · rw[if_neg (show ¬S.at_ k=0 from h0)] at HA1
      have HA2:=zhd HA1
      clear HL HA1 HA
      go_wp2
      go_roundw
      case rel=>exact⟨k+1,n,by omega,by omega,by go_num,by trivial,HA2⟩
      case measure=>simp[intOf];omega
end
section
structure Alive (S:SSt) (D:DSt):Prop where
 down:D.down=false
 life:D.life=S.life
 size:D.blocks=S.pages+2
 small:S.pages≤5000
theorem Alive.dead {S:SSt} {D:DSt} (h:Alive S D):(D.down || decide (D.life≠S.life))=false:=by simp[h.down,h.life]
def SSt.set (S:SSt) (k:Nat) (v:Int):SSt:={ S with state:=aset (k:Int) v S.state }
def Fell (c:Nat→Nat) (r:Nat) (w w':World) (dk:Nat) (D:DSt) (Q:DSt→Prop):Prop:=
 ¬D.after<1∧∃c' m D',Ag w.heap.size c c'∧Cl w' c'∧DiskA (Dt c') w' dk m (.slice none 0 0) D'∧c' dk=r∧c' m=r∧dk≠m∧D'.down=true∧D'.opn=[]∧D'.after<1∧D'.blocks=D.blocks∧Q D'
def CutQ (D:DSt) (D':DSt):Prop:=∃f,(∀i n,f i=some n→n≤8192)∧D'=cutF D f
theorem z54 (D:DSt) (f:Nat→Option Nat):(cutF D f).down=true∧(cutF D f).opn=[]∧(cutF D f).after<1∧(cutF D f).blocks=D.blocks:=⟨rfl,rfl,by show(0:Int)<1;omega,by show(layUp D f D.opn D.opn.length).blocks=_;rw[z3l]⟩
theorem Fell.of {F:Nat→Prop} {c:Nat→Nat} {r:Nat} {w w':World} {d m:Nat} {D:DSt} (h:FellD F w' d m D) (hF:∀b,F b→c b=0) (hc:Cl w c) (hs:w.heap.size≤w'.heap.size) (od:c d=r) (om:c m=r) (dm:d≠m):Fell c r w w' d D (CutQ D):=by
 obtain⟨h1,f,h2,h3⟩:=h
 obtain⟨e1,e2,e3,e4⟩:=z54 D f
 exact⟨h1,c,m,_,Ag.refl _ _,hc.mono hs,h3.mono fun b hb _=>hF b hb,od,om,dm,e1,e2,e3,e4,f,h2,rfl⟩
theorem Fell.later {c c1:Nat→Nat} {r:Nat} {w w1 w':World} {dk:Nat} {D D1:DSt} {Q Q1:DSt→Prop} (h:Fell c1 r w1 w' dk D1 Q1) (ha:Ag w.heap.size c c1) (hs:w.heap.size≤w1.heap.size) (h1:D.after<1→D1.after<1) (hb:D1.blocks=D.blocks) (hq:∀D',Q1 D'→Q D'):Fell c r w w' dk D Q:=by
 obtain⟨a,c',m,D',b1,b2,b3,b4,b5,b6,b7,b8,b9,b10,b11⟩:=h
 exact⟨fun e=>a (h1 e),c',m,D',ha.trans b1 hs,b2,b3,b4,b5,b6,b7,b8,b9,b10.trans hb,hq _ b11⟩
theorem z55 {D:DSt} (h:D.after<1):D.tick.after<1:=by rw[z3r h];exact h
def PutR (c:Nat→Nat) (r:Nat) (w:World) (st:Nat) (S:SSt) (D:DSt) (l:Bs) (i err:Int) (w':World):Prop:=Fr (fun b=>c b=r) w w'∧((err=0∧i=(S.first:Int)∧∃c',Ag w.heap.size c c'∧Cl w' c'∧StoreOk c' r w' st (S.set S.first 1) (D.tick.write S.first (pageB l)))∨(err=20∧i=0∧Fell c r w w' S.dk D (CutQ D)))
theorem z56 {c:Nat→Nat} {r:Nat} {w:World} {st:Nat} {S:SSt} {D:DSt} {v:Value} {l:Bs} (h:StoreOk c r w st S D) (hal:Alive S D) (hr:r≠0) (hc:Cl w c) (ho:D.opn.length<100000) (hv:BytesAt (Dt c) w v l) (hl:l.length≤8186) (hf:S.first≠0) (hf2:S.first<S.pages+2) :
 Calls Tryz.prog 169 #[.pointer (some ⟨st,0,none⟩),v] w fun e w'=>∃i err:Int,e=.returned (.tuple #[.int .i64 i,.int .i64 err])∧Hid (PutR c r w st S D l i err w'):=by
 obtain⟨sm,d,m,ov,h⟩:=h
 have HS:=zhd h
 have H1:=zhd (z53 h hal.small)
 have H2:=zhd (z4z h)
 rw[hal.dead] at H2
 have c2:=z2k h.blk 2 rfl
 have c1:=z2k h.blk 1 rfl
 obtain⟨A,cp,rfl,hn1,hn2⟩:=hv.form
 have HV:=zhd hv
 have hf3:¬(S.first:Int)=0:=by omega
 clear h hv
 go_enter Tryz.func169,Tryz.ntmps169
 go_wp2_with fail
 refine H1.out.mono ?_
 rintro e w1 ⟨rfl,rfl⟩
 go_wp2_with fail
 refine H2.out.mono ?_
 rintro e w1 ⟨rfl,rfl⟩
 go_wp2
 have HLAID:=zhd (fun (w_:World) (hf:Fr C0 w w_)=>z4p (HV.out.fr0 hf) hl)
 have hz:c 0=c 0:=rfl
 refine z1z (Fr (fun b=>c b=r∧b≠st) w) [] (by kernel_rfl) ?_
 have hSw0:(Fr (fun b=>c b=r∧b≠st) w) _:=(Fr.refl _ w).drew.drew
 refine tk 0 hSw0 ?_
 refine tk 1 hSw0 ?_
 refine tk 2 hSw0 ?_
 refine tk 3 hSw0 ?_ (hy:=by intro w_ hS_;have b2:=hS_.cell c2 (fun h=>h.2 rfl);first|(go_simp;done)|(go_simp;with_reducible rfl))
 refine tk 4 hSw0 ?_
 refine tk 5 hSw0 ?_
 refine one_ 6 rfl (fun K hK=>?_)
 go_simp
 refine(HLAID.out _ (Fr.refl C0 w).drew.drew).mono ?_
 rintro e w2 ⟨rfl,g2,f2⟩
 simp only[]
 have F2:Fr C0 w w2:=((Fr.refl C0 w).drew.drew).trans0 f2
 have g2':w2.heap[w.heap.size]?=some (.cells ((pageB l).map bv).toArray 5 (0,0)):=g2
 have hw2:w.heap.size<w2.heap.size:=(Array.getElem?_eq_some_iff.1 g2').1
 have HB2:Hid (BytesAt (fun b=>c b=0∧b<w2.heap.size) w2 (.slice (some ⟨w.heap.size,0,none⟩) 8192 8192) (pageB l)):=by
  have:=z4n g2' (by rw[z4e hl];unfold maxLen;omega)
  rw[z4e hl] at this
  exact zhd (this.mono fun b hb _=>by rw[hb];exact⟨hc _ (Nat.le_refl _),hw2⟩)
 have HS2:=zhd (HS.out.fr0 F2)
 have HF2:=zhd F2
 clear g2 g2' f2 F2
 refine hK.out _ _ ?kS1 (fun hSw1=>?kR1)
 case kS1=>exact HF2.out.mono (fun _ _ h=>h.elim)
 clear hK K
 try simp only[Act.put,zs1,zs2,zs3]
 refine one_ 7 rfl (fun K hK=>?_)
 go_simp
 have hs:=HS2.out
 refine(z3u (hs.disk.mono (F':=fun b=>c b=0∧b<w2.heap.size) fun b hb hl=>⟨hb,hl⟩) hal.down (by have:=hal.size;omega) HB2.out (by rw[z4e hl];omega) ho (fun k=>hr (hs.om.symm.trans k.1)) (fun k=>hr (hs.od.symm.trans k.1)) hs.d_m hs.ov_m hs.ov_d (fun b hb k=>hr ((hs.oov b hb).symm.trans k.1))).mono ?_
 rintro e w3 ⟨err,rfl,HW⟩
 simp only[]
 have HF3:Hid (Fr (fun b=>c b=r∧b≠st) w w3):=zhd ((HF2.out.mono (fun _ _ h=>h.elim)).trans HW.out.1 (fun b hb h=>by
  rcases h with h|h|h
  · exact⟨hs.oov b h,hs.ov_st b h⟩
  · exact h▸⟨hs.om,hs.st_m.symm⟩
  · exact h▸⟨hs.od,fun e=>hs.st_d e.symm⟩))
 refine hK.out _ _ ?kS2 (fun hSw2=>?kR2)
 case kS2=>exact HF3.out
 clear hK K
 try simp only[Act.put,zs1,zs2,zs3]
 refine tk 8 hSw2 ?_
 refine z1y (by kernel_rfl) ?_ _
 have c1':=HF3.out.cell c1 (fun h=>h.2 rfl)
 obtain⟨-,(⟨rfl,ov',ho',D3,f3⟩|⟨rfl,hfell⟩)⟩:=HW.out
 case inr=>
  have HE:Hid (PutR c r w st S D l 0 20 w3):=zhd ⟨HF3.out.mono (fun _ _ h=>h.1),.inr ⟨rfl,rfl,by
   rw[←HS.out.dk]
   exact Fell.of hfell (fun b hb=>hb.elim (fun h=>h.1) (fun h=>hc b (by have:=HF2.out.size;omega))) hc HF3.out.size HS.out.od HS.out.om HS.out.d_m⟩⟩
  clear HW hfell c1'
  go_wp2
  go_ret2
  exact⟨0,20,rfl,HE⟩
 have HD3:=zhd D3
 have HM3:=zhd (HS2.out.map.fr f3 (fun h=>h.elim (fun h=>HS2.out.ov_sm _ h rfl) (fun h=>HS2.out.d_sm h.symm)))
 have e3:=f3.size
 clear D3 f3 HW
 go_wp2_with (refine z24 rfl Tryz.underlying136 Tryz.underlying3 _ _ _ rfl (m:=sm) (k:=(S.first:Int)) (v:=.int .i64 1) rfl rfl rfl HM3.out ?_;intro w4 n4 f4)
 go_ret2
 have hsm:=HS.out.map.lt
 have e2:=HF2.out.size
 have k3:∀b,ov'.ownBlock=some b→ov.ownBlock=some b∨w.heap.size≤b:=fun b hb=>(ho' b hb).imp id (fun h=>by omega)
 have hag:=z2m (c:=c) (r:=r) HS.out.oov k3
 obtain⟨xs3,o3,o3'⟩:=HD3.out.opn
 have hov4:∀b,ov'.ownBlock=some b→b≠sm:=fun b hb=>(k3 b hb).elim (HS.out.ov_sm b) (fun h e=>by omega)
 have e4:=f4.size
 have hst:=World.block_lt_of_cell? w _ c1
 have hmlt:m<w.heap.size:=by obtain⟨M,k1,_⟩:=HS.out.disk.kept;exact k1.lt
 have hdlt:d<w.heap.size:=(Array.getElem?_eq_some_iff.1 HS.out.disk.blk).1
 rw[z4w] at n4
 refine⟨_,0,rfl,zhd ⟨?_,.inl ⟨rfl,rfl,setc c ov'.ownBlock r,hag,?_,sm,d,m,ov',⟨?_,n4,?_,?_,?_,?_,?_,?_,HS.out.ne,HS.out.dk⟩⟩⟩⟩
 · exact(HF3.out.mono (fun _ _ h=>h.1)).trans f4 (fun b _ h=>by rw[h];exact HS.out.osm)
 · intro b hb
   unfold setc
   split
   · rename_i e;have:=(o3.lt b e).2;omega
   · exact hc b (by omega)
 · exact f4.blk (HF3.out.blk HS.out.blk (fun h=>h.2 rfl)) HS.out.st_sm
 · refine(HD3.out.fr f4 HS.out.d_sm (fun h=>HS.out.ne h.symm) hov4 (fun b hb h=>?_)).mono (fun b hb _=>?_)
   · subst h
     rcases hb with hb|hb
     · exact hr (HS.out.osm.symm.trans hb.1)
     · omega
   · unfold Dt setc
     split
     · rename_i e
       rcases hb with hb|hb
       · rcases ho' b e with h|h
         · exact absurd (hb.1.symm.trans (HS.out.oov b h)) (fun h=>hr h.symm)
         · omega
       · exact absurd e hb.2
     · rcases hb with hb|hb
       · exact hb.1
       · exact hc b (by omega)
 · exact(hag st hst).trans HS.out.ost
 · exact(hag sm hsm).trans HS.out.osm
 · exact(hag d hdlt).trans HS.out.od
 · exact(hag m hmlt).trans HS.out.om
 · intro b hb;simp[setc,hb]
end
section
theorem StoreIn.setState {c:Nat→Nat} {r:Nat} {w w':World} {st sm d m:Nat} {ov:Value} {S:SSt} {D:DSt} {L:List (Int×Int)} (h:StoreIn c r w st sm d m ov S D) (hr:r≠0) (n:MapIs w' sm (vmap L)) (f:Fr (fun b=>b=sm) w w'):StoreIn c r w' st sm d m ov { S with state:=L } D:=by
 refine⟨f.blk h.blk h.st_sm,n,h.disk.fr f h.d_sm (fun e=>h.ne e.symm) h.ov_sm (fun b hb e=>?_),h.ost,h.osm,h.od,h.om,h.oov,h.ne,h.dk⟩
 subst e
 exact hr (h.osm.symm.trans hb)
theorem z57 {c:Nat→Nat} {r:Nat} {w:World} {st:Nat} {S:SSt} {D:DSt} {k:Nat} (h:StoreOk c r w st S D) (hal:Alive S D) (hr:r≠0) (hk:S.at_ k=1) :
 Calls Tryz.prog 171 #[.pointer (some ⟨st,0,none⟩),.int .i64 (k:Int)] w fun e w'=>e=.returned (.int .i64 0)∧StoreOk c r w' st (S.set k 2) D∧Fr (fun b=>c b=r) w w':=by
 obtain⟨sm,d,m,ov,h⟩:=h
 have H2:=zhd (z4z h)
 rw[hal.dead] at H2
 have h2:=h.fr0 (Fr.refl C0 w).drew
 have HS:=zhd h2
 have c1:=z2k h2.blk 1 rfl
 have hl:=z4x h2.map (k:Int)
 rw[show(aget (k:Int) S.state).getD 0=1 from hk] at hl
 have HM:=zhd h2.map
 clear h h2
 go_enter Tryz.func171,Tryz.ntmps171
 go_wp2_with fail
 refine H2.out.mono ?_
 rintro e w1 ⟨rfl,rfl⟩
 go_wp2_with (refine z24 rfl Tryz.underlying136 Tryz.underlying3 _ _ _ rfl (m:=sm) (k:=(k:Int)) (v:=.int .i64 2) rfl rfl rfl HM.out ?_;intro w4 n4 f4)
 go_ret
 rw[z4w] at n4
 exact⟨rfl,⟨sm,d,m,ov,HS.out.setState hr n4 f4⟩,((Fr.refl (fun b=>c b=r) w).drew).trans f4 (fun b _ e=>by rw[e];exact HS.out.osm)⟩
end
section
def leftIn (w:World) (sm r:Nat):Nat:=match w.heap[sm]? with
 |some (.map es _)=>(leftOf es (w.iterSeen r)).size
 |_=>0
theorem z58 {w:World} {sm r:Nat} {es:Array MapEntry} {clock a b:Nat} {s:Array Nat} {q:Option Nat} (h:w.heap[sm]?=some (.map es clock)) (hr:w.heap.size=r):leftIn (w.alloc (.mapIter q a s b)) sm r=(leftOf es s).size:=by
 have hl:=(Array.getElem?_eq_some_iff.1 h).1
 unfold leftIn
 rw[Below.heap_alloc _ _ _ hl,h,←hr]
 simp
theorem z59 (L:List (Int×Int)):L=L.filter (fun p=>decide (p.1∉([]:List Int))):=(List.filter_eq_self.2 (by simp)).symm
theorem z5a {L:List (Int×Int)} {del:List Int} (hD:∀p∈L,p.1∈del→p.2=2) (hN:∀p∈L.filter (fun p=>decide (p.1∉del)),p.2≠2):L.filter (fun p=>decide (p.1∉del))=L.filter (fun p=>decide (p.2≠2)):=by
 refine List.filter_congr fun p hp=>?_
 by_cases h:p.1∈del
 · simp[h,hD p hp h]
 · have:=hN p (List.mem_filter.2 ⟨hp,by simp[h]⟩)
   simp[h,this]
theorem z5b {es:Array MapEntry} {cl:Nat} {L:List (Int×Int)} (h:Ent es cl (vmap L)) {p:Int×Int} (hp:p∈L):∃e∈es.toList,e.key=.int .i64 p.1∧e.val=.int .i64 p.2:=by
 have h1:kvp (p.1,.int .i64 p.2)∈(vmap L).map kvp:=List.mem_map.2 ⟨_,List.mem_map.2 ⟨p,hp,rfl⟩,rfl⟩
 rw[←h.kv] at h1
 obtain⟨e,he,h2⟩:=List.mem_map.1 h1
 simp only[kvp,Prod.mk.injEq] at h2
 exact⟨e,he,h2.1,h2.2⟩
theorem z5c {es:Array MapEntry} {cl:Nat} {L:List (Int×Int)} (h:Ent es cl (vmap L)) {e:MapEntry} (he:e∈es.toList):∃p∈L,e.key=.int .i64 p.1∧e.val=.int .i64 p.2:=by
 have h1:(e.key,e.val)∈es.toList.map (fun e=>(e.key,e.val)):=List.mem_map.2 ⟨e,he,rfl⟩
 rw[h.kv] at h1
 obtain⟨q,hq,h2⟩:=List.mem_map.1 h1
 obtain⟨p,hp,rfl⟩:=List.mem_map.1 hq
 simp only[kvp,Prod.mk.injEq] at h2
 exact⟨p,hp,h2.1.symm,h2.2.symm⟩
theorem z5d {es es2:Array MapEntry} {seen:Array Nat} {e:MapEntry} (hsub:es2.toList.Sublist es.toList) (he:e∈es.toList) (hns:seen.contains e.born=false):(leftOf es2 (seen.push e.born)).size<(leftOf es seen).size:=by
 have h1:∀(a:Array MapEntry) (s:Array Nat),(leftOf a s).size=(a.toList.filter fun e=>!s.contains e.born).length:=fun a s=>by
  unfold leftOf;rw[←Array.length_toList,Array.toList_filter]
 rw[h1,h1]
 refine Nat.lt_of_le_of_lt ((hsub.filter _).length_le) (filter_lt _ _ ?_ e (by simpa using hns) (by simp) _ he)
 intro x hx
 simp at hx⊢
 exact hx.1
theorem z5e {es:Array MapEntry} (hn:(es.toList.map (·.born)).Nodup) {x e:MapEntry} (hx:x∈es.toList) (he:e∈es.toList) (h:x.born=e.born):x=e:=by
 have h1:=find_born x es.toList hn hx
 have h2:=find_born e es.toList hn he
 rw[h] at h1
 rw[h1] at h2
 exact Option.some.inj h2
theorem z5f {p q:Int×Int}:∀{L:List (Int×Int)},((vmap L).map Prod.fst).Nodup→p∈L→q∈L→q.1=p.1→q=p
 | x :: L, hn, hp, hq, h => by
   have hn2:x.1∉(vmap L).map Prod.fst∧((vmap L).map Prod.fst).Nodup:=List.nodup_cons.1 hn
   have hmem:∀y∈L,y.1∈(vmap L).map Prod.fst:=fun y hy=>List.mem_map.2 ⟨(y.1,.int .i64 y.2),List.mem_map.2 ⟨y,hy,rfl⟩,rfl⟩
   rcases List.mem_cons.1 hp with rfl|hp2<;>rcases List.mem_cons.1 hq with rfl|hq2
   · rfl
   · exact absurd (h▸hmem q hq2) hn2.1
   · exact absurd (h▸hmem p hp2) hn2.1
   · exact z5f hn2.2 hp2 hq2 h
theorem z5g {k:Int}:∀{L:List (Int×Value)} {v:Value} (i:Nat),(k,v)∈L→∃j u,findIx k L i=some (j,u)
 |[],_,_,h=>by simp at h
 | p :: L, v, i, h => by
   by_cases hk:p.1=k
   · exact⟨i,p.2,by simp[findIx,hk]⟩
   · simp only[findIx,if_neg hk]
     rcases List.mem_cons.1 h with h|h
     · exact absurd (by rw[←h]) hk
     · exact z5g (i+1) h
theorem z5h {P:Program} {w:World} {T K E m ty i c:Nat} {u:Value} {es:Array MapEntry} {L:List (Int×Value)} {ats:Array TypeId} (ha:ats[0]?=some T) (hT:P.underlying T=some (.map K E)) (hK:P.underlying K=some (.int .i64))
 (hm:w.heap[m]?=some (.map es c)) (he:Ent es c L) (k:Int) (hfi:findIx k L 0=some (i,u)) :
 (Builtin.delete_ ats ty #[.map (some m),.int .i64 k]).run P w=.ok (.tuple #[]) (World.putObj w m (.map (es.eraseIdxIfInBounds i) c)):=by
 have hf:=z05 k es.toList L 0 he.kv
 have hc:∀b,(Instr.checkKey b 10000 K (.int .i64 k)).run P w=.ok () w:=by
  intro b;unfold Instr.checkKey;simp[run_underlying hK]
 simp[Builtin.delete_,ha,run_underlying hT,Go.H.run_getObj_map hm,hc,Instr.findKey,run_underlying hK,hf,hfi,Go.H.run_setObj_map _ hm]
theorem z5i {w:World} {m:Nat} {o o2:Obj} (h:m<w.heap.size):World.putObj (w.alloc o2) m o=(World.putObj w m o).alloc o2:=by
 unfold World.putObj World.alloc
 congr 1
 apply Array.ext_getElem?
 intro j
 simp only[Array.getElem?_setIfInBounds,Array.getElem?_push,Array.size_push,Array.size_setIfInBounds]
 by_cases h1:m=j
 · subst h1
   simp[h,show ¬m=w.heap.size by omega,show m<w.heap.size+1 by omega]
 · simp[h1]
theorem z5j {c:Nat→Nat} {r:Nat} {w:World} {st sm d m:Nat} {ov:Value} {S:SSt} {D:DSt} (h:StoreIn c r w st sm d m ov S D) (hr:r≠0) :
 Calls Tryz.prog 174 #[.pointer (some ⟨st,0,none⟩)] w fun e w'=>e=.returned (.tuple #[])∧StoreIn c r w' st sm d m ov { S with state:=S.state.filter (fun p=>decide (p.2≠2)) } D∧Fr (fun b=>b=sm) w w':=by
 have HS:=zhd h
 have hst:=h.st_sm
 have c1:=z2k h.blk 1 rfl
 obtain⟨es,clock,hb,he⟩:=h.map
 have hrg:=run_range_map (P:=Tryz.prog) w 136 3 3 sm es clock Tryz.underlying136 hb
 clear h
 have HE:=zhd he
 have HB:=zhd hb
 clear he hb
 go_enter Tryz.func174,Tryz.ntmps174
 go_wp2
 go_loopw [2,3] (fun _ _ wr=>∃(w1:World) (es1:Array MapEntry) (seen:Array Nat) (del:List Int),wr=w1.alloc (.mapIter (some sm) clock seen clock)∧w1.heap.size=w.heap.size∧Hid (Fr (fun b=>b=sm) w w1)∧Hid (w1.heap[sm]?=some (.map es1 clock))∧Hid (∀x∈es1.toList,x.born<clock)∧Hid (Ent es1 clock (vmap (S.state.filter (fun p=>decide (p.1∉del)))))∧Hid (∀p∈S.state,p.1∈del→p.2=2)∧Hid (∀x∈es1.toList,seen.contains x.born=true→x.val≠.int .i64 2)) (fun _ _ wr=>leftIn wr sm w.heap.size)
 case atStart=>
  exact⟨w,es,#[],[],rfl,rfl,zhd (Fr.refl _ _),HB,zhd HE.out.clock,zhd (by rw[←z59];exact HE.out),zhd (by simp),zhd (by simp)⟩
 case round=>
  obtain⟨w1,es1,seen,del,rfl,hsz,HF,HM,HO,HEn,HD,HN⟩:=hrel
  have hlt:sm<w1.heap.size:=(Array.getElem?_eq_some_iff.1 HM.out).1
  rcases run_next_map (P:=Tryz.prog) w1 0 sm clock clock seen es1 clock HM.out HO.out (Nat.le_refl _) with⟨h0,hrun⟩|⟨e,hel,w2,hal,hrun⟩
  · rw[hsz] at hrun
    have H0:=zhd h0
    clear h0
    go_wp2
    go_end0
    have hall:∀x∈es1.toList,seen.contains x.born=true:=by
     intro x hx
     cases hc:seen.contains x.born with
     |true=>rfl
     | false =>
       have h1:x∈leftOf es1 seen:=by unfold leftOf;rw[Array.mem_filter];exact⟨by simpa using hx,by simpa using hc⟩
       have:=Array.size_pos_of_mem h1
       have:=H0.out
       omega
    have hk:=z5a HD.out (fun p hp=>by
     obtain⟨e,he,_,hv⟩:=z5b HEn.out hp
     intro h2
     rw[h2] at hv
     exact HN.out e he (hall e he) hv)
    have hn:MapIs (w1.alloc (.mapIter (some sm) clock seen clock)) sm (vmap (S.state.filter (fun p=>decide (p.2≠2)))):=by
     rw[←hk]
     exact⟨es1,clock,by rw[Below.heap_alloc _ _ _ hlt];exact HM.out,HEn.out⟩
    exact⟨rfl,HS.out.setState hr hn (HF.out.alloc _),HF.out.alloc _⟩
  · obtain⟨he1,hns⟩:e∈es1.toList∧seen.contains e.born=false:=by
     unfold leftOf at hel
     simpa using hel
    obtain⟨p,hp,hk,hv⟩:=z5c HEn.out he1
    have hM2:w2.heap[sm]?=some (.map es1 clock):=by rw[hal.1];exact HM.out
    have hs2:w2.heap.size=w.heap.size:=by rw[hal.1];exact hsz
    have hent:=run_entry_map (P:=Tryz.prog) w2 sm clock seen es1 clock e hM2 he1 HEn.out.born
    rw[hsz] at hrun
    rw[hs2] at hent
    rw[hk,hv] at hrun hent
    have F2:Fr (fun b=>b=sm) w w2:=⟨hal.2.1.trans HF.out.os,hal.2.2.trans HF.out.output,by rw[hs2];exact Nat.le_refl _,fun j hj hn=>by rw[hal.1];exact HF.out.block j hj hn⟩
    have cw:=(F2.alloc (.mapIter (some sm) clock (seen.push e.born) clock)).cell c1 hst
    have hlt2:sm<w2.heap.size:=by rw[hs2,←hsz];exact hlt
    have hB:(w2.alloc (.mapIter (some sm) clock (seen.push e.born) clock)).heap[sm]?=some (.map es1 clock):=by rw[Below.heap_alloc _ _ _ hlt2];exact hM2
    have hx:∀x∈es1.toList,(seen.push e.born).contains x.born=true→seen.contains x.born=true∨x=e:=by
     intro x hx hc
     simp at hc
     rcases hc with hc|hc
     · exact .inl (by simpa using hc)
     · exact .inr (z5e HEn.out.born hx he1 hc)
    have hp0:=(List.mem_filter.1 hp).1
    by_cases h2:p.2=2
    · rw[h2] at hrun hent
      obtain⟨j,u,hfi⟩:=z5g (k:=p.1) (L:=vmap (S.state.filter (fun p=>decide (p.1∉del)))) (v:=.int .i64 p.2) 0 (List.mem_map.2 ⟨p,hp,rfl⟩)
      have hdl:=z5h (P:=Tryz.prog) (ats:=#[136,3]) (ty:=0) (T:=136) (K:=3) (E:=3) rfl Tryz.underlying136 Tryz.underlying3 hB HEn.out p.1 hfi
      rw[z5i hlt2] at hdl
      have hE2:=HEn.out.del p.1 hfi
      have hsub:(es1.eraseIdxIfInBounds j).toList.Sublist es1.toList:=by
       rw[Array.eraseIdxIfInBounds]
       split
       · rw[Array.toList_eraseIdx];exact List.eraseIdx_sublist _ _
       · exact List.Sublist.refl _
      have hml:mdel (vmap (S.state.filter (fun p=>decide (p.1∉del)))) p.1=vmap (S.state.filter (fun q=>decide (q.1∉p.1::del))):=by
       simp only[mdel,vmap,List.filter_map,List.filter_filter]
       congr 1
       refine List.filter_congr fun q _=>?_
       simp
      rw[hml] at hE2
      go_wp2
      refine⟨⟨World.putObj w2 sm (.map (es1.eraseIdxIfInBounds j) clock),es1.eraseIdxIfInBounds j,seen.push e.born,p.1::del,rfl,by rw[z04];exact hs2,zhd (F2.putObj (.inr rfl) _),zhd (z02 hlt2),zhd (fun x hx1=>HO.out x (hsub.mem hx1)),zhd hE2,zhd fun q hq hd=>?_,zhd fun x hx1 hc=>?_⟩,?_⟩
      · rcases List.mem_cons.1 hd with h|h
        · by_cases hqd:q.1∈del
          · exact HD.out q hq hqd
          · have hqm:q∈S.state.filter (fun p=>decide (p.1∉del)):=List.mem_filter.2 ⟨hq,by simpa using hqd⟩
            rw[z5f HEn.out.keys hp hqm h];exact h2
        · exact HD.out q hq h
      · rcases hx x (hsub.mem hx1) hc with h|rfl
        · exact HN.out x (hsub.mem hx1) h
        · obtain⟨q,hq,hqk,_⟩:=z5c hE2 hx1
          have:=(List.mem_filter.1 hq).2
          rw[hk] at hqk
          injection hqk with _ hqk
          simp[hqk] at this
      · rw[z58 (z02 hlt2) (by rw[z04];exact hs2),z58 HM.out hsz]
        exact z5d hsub he1 hns
    · go_wp2
      refine⟨⟨w2,es1,seen.push e.born,del,rfl,hs2,zhd F2,zhd hM2,HO,HEn,HD,zhd fun x hx1 hc=>?_⟩,?_⟩
      · rcases hx x hx1 hc with h|rfl
        · exact HN.out x hx1 h
        · rw[hv];simpa using h2
      · rw[z58 hM2 hs2,z58 HM.out hsz]
        exact z5d (List.Sublist.refl _) he1 hns
end
end Go.Proofs.YtidalepbkljkpaaGreat

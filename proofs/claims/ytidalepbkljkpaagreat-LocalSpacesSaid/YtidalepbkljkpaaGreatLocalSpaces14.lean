import Derived.Test.YtidalepbkljkpaaGreatLocalSpaces09
import Derived.Test.YtidalepbkljkpaaGreatLocalSpaces13
import Derived.Test.YtidalepbkljkpaaGreatProg
import Derived.Test.YtidalepbkljkpaaGreatLocalSpaces10
import Derived.Test.YtidalepbkljkpaaGreatLocalSpaces11
set_option linter.all false
namespace Go.Proofs.YtidalepbkljkpaaGreat
open Go.RowKit Go.H
set_option maxRecDepth 100000
section
set_option maxHeartbeats 1000000
def GetRes (w w':World) (e:Ending):Option Bs→Prop
 |some l=>∃v,e=.returned (.tuple #[v,.int .i64 0])∧BytesAt (fun b=>w.heap.size≤b) w' v l
 |none=>e=.returned (.tuple #[.slice none 0 0,.int .i64 22])
theorem z7x {c:Nat→Nat} {r:Nat} {w:World} {st:Nat} {S:SSt} {D:DSt} {k:Nat} {b:Bs} (h:StoreOk c r w st S D) (hal:Alive S D) (h1:2≤k) (h2:k<2+S.pages) (hbd:D.read k=b) (hb:b.length=8192) :
 Calls Tryz.prog 142 #[.pointer (some ⟨st,0,none⟩),.int .i64 (k:Int)] w fun e w'=>Fr C0 w w'∧GetRes w w' e (pageOf b):=by
 obtain⟨sm,d,m,ov,h⟩:=h
 have H2:=zhd (z4z h)
 rw[hal.dead] at H2
 have H3:=zhd (z51 (h.fr0 (Fr.refl C0 w).drew) hal.small k)
 have H4:=zhd (z3h (h.fr0 (Fr.refl C0 w).drew).disk hal.down k (by have:=hal.size;omega))
 have c2:=z2k h.blk 2 rfl
 have hsz:w.drew.heap.size=w.heap.size:=rfl
 clear h
 rw[hbd] at H4
 go_enter Tryz.func142,Tryz.ntmps142
 go_wp2_with fail
 refine H2.out.mono ?_
 rintro e w1 ⟨rfl,rfl⟩
 go_wp2_with fail
 refine H3.out.mono ?_
 rintro e w1 ⟨rfl,rfl⟩
 have e1:(decide (2≤k) && decide (k<2+S.pages))=true:=by simp[h1,h2]
 rw[e1]
 go_wp2_with fail
 refine H4.out.mono ?_
 rintro e w2 ⟨rfl,g2,f2⟩
 have G2:=zhd (show w2.heap[w.heap.size]?=some (.cells (b.map bv).toArray 5 (0,0)) from g2)
 have F2:=zhd ((Fr.refl C0 w).drew.trans0 f2)
 have q1:=zhd (z4m (o:=4) (n:=2) (c:=8188) G2.out (by omega) (by omega) (by unfold maxLen;omega))
 have q2:=zhd (z4m (o:=4) (n:=8188) (c:=8188) G2.out (by omega) (by omega) (by unfold maxLen;omega))
 have q3:=zhd (z4m (o:=0) (n:=4) (c:=8192) G2.out (by omega) (by omega) (by unfold maxLen;omega))
 clear g2 f2
 go_wp2_with fail
 refine(z4c q1.out (by rw[List.length_take];omega)).mono ?_
 rintro e w3 ⟨rfl,rfl⟩
 have hl2:((b.drop 4).take 2).length=2:=by rw[List.length_take,List.length_drop];omega
 have hlt:=z1k ((b.drop 4).take 2)
 rw[hl2] at hlt
 have hpl:smallN ((b.drop 4).take 2)=pageLen b:=rfl
 rw[hpl] at hlt⊢
 have hw:IntKind.i64.wrap (pageLen b:Int)=(pageLen b:Int):=by rw[IntWalk.i64_in _ (by omega)]
 have HS7:=zhd (fun (w_:World) (hf:Fr C0 w2 w_)=>z48 (q2.out.fr0 hf) (by rw[List.length_take,List.length_drop];omega))
 have HS8:=zhd (fun (w_:World) (hf:Fr C0 w2 w_)=>z4c (q3.out.fr0 hf) (by rw[List.length_take];omega))
 rw[List.drop_zero] at HS8
 rw[List.take_of_length_le (by rw[List.length_drop];omega)] at HS7
 have hpo:Hid (pageOf b=if 8186<pageLen b then none
  else if zeroB (b.drop (6+pageLen b))=false then none
  else if crc (b.drop 4)=(smallN (b.take 4):Int) then some ((b.drop 6).take (pageLen b)) else none):=zhd rfl
 generalize pageLen b=n at *
 clear q1 hl2 hpl
 by_cases hn:8186<n
 · rw[if_pos hn] at hpo
   have hn':(8186:Int)<(n:Int):=by omega
   go_wp2_with fail
   refine z1z (Fr C0 w2) [] (by kernel_rfl) ?_
   have hSw0:(Fr C0 w2) _:=(Fr.refl C0 w2).drew
   refine tk 0 hSw0 ?_
   refine tk 1 hSw0 ?_
   refine tk 2 hSw0 ?_
   refine tks 3 rfl hSw0 ?_
   try simp only[Act.put,zs1,zs2,zs3]
   refine tks 4 rfl hSw0 ?_
   try simp only[Act.put,zs1,zs2,zs3]
   refine tks 5 rfl hSw0 ?_
   try simp only[Act.put,zs1,zs2,zs3]
   refine tks 6 rfl hSw0 ?_
   try simp only[Act.put,zs1,zs2,zs3]
   refine tks 7 rfl hSw0 ?_
   try simp only[Act.put,zs1,zs2,zs3]
   refine tks 8 rfl hSw0 ?_
   try simp only[Act.put,zs1,zs2,zs3]
   refine tk 9 hSw0 ?_
   refine tk 10 hSw0 ?_
   refine tks 11 rfl hSw0 ?_
   try simp only[Act.put,zs1,zs2,zs3]
   refine tks 12 rfl hSw0 ?_
   try simp only[Act.put,zs1,zs2,zs3]
   refine tks 13 rfl hSw0 ?_
   try simp only[Act.put,zs1,zs2,zs3]
   refine tks 14 rfl hSw0 ?_
   try simp only[Act.put,zs1,zs2,zs3]
   refine tks 15 rfl hSw0 ?_
   try simp only[Act.put,zs1,zs2,zs3]
   refine tks 16 rfl hSw0 ?_
   try simp only[Act.put,zs1,zs2,zs3]
   refine tks 17 rfl hSw0 ?_
   try simp only[Act.put,zs1,zs2,zs3]
   refine tks 18 rfl hSw0 ?_
   try simp only[Act.put,zs1,zs2,zs3]
   refine tk 19 hSw0 ?_
   refine z1y (by kernel_rfl) ?_ _
   go_wp2
   go_ret2
   refine⟨F2.out.drew,?_⟩
   rw[hpo.out]
   rfl
 · rw[if_neg hn] at hpo
   have hn':(n:Int)≤8186:=by omega
   have hdn:decide ((8186:Int)<(n:Int))=false:=by simp;omega
   have q4:Hid (BytesAt (fun x=>x=w.heap.size) w2 (.slice (if 8192=6+n then some ⟨w.heap.size,0,none⟩ else some ⟨w.heap.size,6+n,none⟩) (8192-(6+n)) (8192-(6+n))) ((b.drop (6+n)).take (8192-(6+n)))):=by
    refine zhd ?_
    by_cases h8:8192=6+n
    · rw[if_pos h8,show 8192-(6+n)=0 by omega,List.take_zero]
      exact⟨_,0,rfl,Nat.le_refl _,by unfold maxLen;omega,fun h=>absurd rfl h⟩
    · rw[if_neg h8]
      exact z4m (o:=6+n) (n:=8192-(6+n)) (c:=8192-(6+n)) G2.out (by omega) (by omega) (by unfold maxLen;omega)
   have HZ:=zhd (fun (w_:World) (hf:Fr C0 w2 w_)=>z4r (q4.out.fr0 hf) (by rw[List.length_take];omega))
   rw[List.take_of_length_le (by rw[List.length_drop];omega)] at HZ
   have ew:IntKind.i64.wrap (6+(n:Int))=((6+n:Nat):Int):=by rw[IntWalk.i64_in _ (by omega)];omega
   have et:(6+(n:Int)).toNat=6+n:=by omega
   have ez:(0:Int)≤6+(n:Int):=by omega
   have ey:6+(n:Int)≤8192:=by omega
   clear q4
   cases hz:zeroB (b.drop (6+n)) with
   | false =>
     rw[hz] at hpo HZ
     go_wp2_with fail
     refine z1z (Fr C0 w2) [] (by kernel_rfl) ?_
     have hSw0:(Fr C0 w2) _:=(Fr.refl C0 w2).drew
     refine tk 0 hSw0 ?_
     refine tk 1 hSw0 ?_
     refine tk 2 hSw0 ?_
     refine tk 3 hSw0 ?_
     refine tk 4 hSw0 ?_
     refine tk 5 hSw0 ?_
     refine tk 6 hSw0 ?_
     refine one_ 7 rfl (fun K hK=>?_)
     go_simp
     refine(HZ.out _ (by assumption)).mono ?_
     rintro e w4 ⟨rfl,f4⟩
     simp only[]
     have F4:=zhd ((show Fr C0 w2 _ by assumption).trans0 f4)
     refine hK.out _ _ ?kS1 (fun hSw1=>?kR1)
     case kS1=>exact F4.out
     clear hK K
     try simp only[Act.put,zs1,zs2,zs3]
     refine tk 8 hSw1 ?_
     refine tk 9 hSw1 ?_
     refine tk 10 hSw1 ?_
     refine tks 11 rfl hSw1 ?_
     try simp only[Act.put,zs1,zs2,zs3]
     refine tks 12 rfl hSw1 ?_
     try simp only[Act.put,zs1,zs2,zs3]
     refine tks 13 rfl hSw1 ?_
     try simp only[Act.put,zs1,zs2,zs3]
     refine tks 14 rfl hSw1 ?_
     try simp only[Act.put,zs1,zs2,zs3]
     refine tks 15 rfl hSw1 ?_
     try simp only[Act.put,zs1,zs2,zs3]
     refine tks 16 rfl hSw1 ?_
     try simp only[Act.put,zs1,zs2,zs3]
     refine tks 17 rfl hSw1 ?_
     try simp only[Act.put,zs1,zs2,zs3]
     refine tks 18 rfl hSw1 ?_
     try simp only[Act.put,zs1,zs2,zs3]
     refine tk 19 hSw1 ?_
     refine z1y (by kernel_rfl) ?_ _
     go_wp2
     all_goals
      go_ret2
      refine⟨F2.out.trans0 F4.out,?_⟩
      rw[hpo.out]
      rfl
   | true =>
     rw[hz] at hpo HZ
     rw[if_neg (by simp)] at hpo
     obtain⟨u1,u2⟩:=z43 (b.drop 4)
     have hc64:IntKind.u64.wrap (crc (b.drop 4))=crc (b.drop 4):=z19 _ u1 (by omega)
     have hq6:=zhd (z4m (o:=6) (n:=n) (c:=n) G2.out (by omega) (by omega) (by unfold maxLen;omega))
     go_wp2_with fail
     by_cases heq:crc (b.drop 4)=(smallN (b.take 4):Int)
     · rw[if_pos heq] at hpo
       rw[←heq] at HS8
       generalize crc (b.drop 4)=X at *
       clear heq
       refine z1z (Fr C0 w2) [] (by kernel_rfl) ?_
       have hSw0:(Fr C0 w2) _:=(Fr.refl C0 w2).drew
       refine tk 0 hSw0 ?_
       refine tk 1 hSw0 ?_
       refine tk 2 hSw0 ?_
       refine tk 3 hSw0 ?_
       refine tk 4 hSw0 ?_
       refine tk 5 hSw0 ?_
       refine tk 6 hSw0 ?_
       refine one_ 7 rfl (fun K hK=>?_)
       go_simp
       refine(HZ.out _ (by assumption)).mono ?_
       rintro e w4 ⟨rfl,f4⟩
       simp only[]
       have F4:=zhd ((show Fr C0 w2 _ by assumption).trans0 f4)
       refine hK.out _ _ ?kS2 (fun hSw1=>?kR2)
       case kS2=>exact F4.out
       clear hK K
       try simp only[Act.put,zs1,zs2,zs3]
       refine tk 8 hSw1 ?_
       refine tk 9 hSw1 ?_
       refine tk 10 hSw1 ?_
       refine tk 11 hSw1 ?_
       refine tk 12 hSw1 ?_
       refine tk 15 hSw1 ?_
       refine tk 16 hSw1 ?_
       refine one_ 13 rfl (fun K hK=>?_)
       go_simp
       refine(HS7.out _ (by assumption)).mono ?_
       rintro e w5 ⟨rfl,f5⟩
       simp only[]
       have F5:=zhd ((show Fr C0 w2 _ by assumption).trans0 f5)
       refine hK.out _ _ ?kS3 (fun hSw2=>?kR3)
       case kS3=>exact F5.out
       clear hK K
       try simp only[Act.put,zs1,zs2,zs3]
       refine tk 14 hSw2 ?_
       refine one_ 17 rfl (fun K hK=>?_)
       go_simp
       refine(HS8.out _ (by assumption)).mono ?_
       rintro e w6 ⟨rfl,rfl⟩
       simp only[]
       refine hK.out _ _ ?kS4 (fun hSw3=>?kR4)
       case kS4=>assumption
       clear hK K
       try simp only[Act.put,zs1,zs2,zs3]
       refine tk 18 hSw3 ?_
       refine tk 19 hSw3 ?_
       refine z1y (by kernel_rfl) ?_ _
       go_wp2
       all_goals
        go_ret2
        refine⟨F2.out.trans0 F5.out,?_⟩
        rw[hpo.out]
        refine⟨_,rfl,?_⟩
        first
         |exact(hq6.out.fr0 F5.out).mono (fun b hb _=>by rw[hb];exact Nat.le_refl _)
         | (obtain rfl : n = 0 := by omega
            exact⟨_,0,rfl,Nat.le_refl _,by unfold maxLen;omega,fun h=>absurd (List.take_zero) h⟩)
     · rw[if_neg heq] at hpo
       have hne:(crc (b.drop 4) != (smallN (b.take 4):Int))=true:=by simp[bne,z32,heq]
       generalize crc (b.drop 4)=X at *
       generalize smallN (b.take 4)=Y at *
       have HNE:=zhd hne
       have hbe:(X == (Y:Int))=false:=by simp[z32,heq]
       clear hne heq
       refine z1z (Fr C0 w2) [] (by kernel_rfl) ?_
       have hSw0:(Fr C0 w2) _:=(Fr.refl C0 w2).drew
       refine tk 0 hSw0 ?_
       refine tk 1 hSw0 ?_
       refine tk 2 hSw0 ?_
       refine tk 3 hSw0 ?_
       refine tk 4 hSw0 ?_
       refine tk 5 hSw0 ?_
       refine tk 6 hSw0 ?_
       refine one_ 7 rfl (fun K hK=>?_)
       go_simp
       refine(HZ.out _ (by assumption)).mono ?_
       rintro e w4 ⟨rfl,f4⟩
       simp only[]
       have F4:=zhd ((show Fr C0 w2 _ by assumption).trans0 f4)
       refine hK.out _ _ ?kS5 (fun hSw1=>?kR5)
       case kS5=>exact F4.out
       clear hK K
       try simp only[Act.put,zs1,zs2,zs3]
       refine tk 8 hSw1 ?_
       refine tk 9 hSw1 ?_
       refine tk 10 hSw1 ?_
       refine tk 11 hSw1 ?_
       refine tk 12 hSw1 ?_
       refine tk 15 hSw1 ?_
       refine tk 16 hSw1 ?_
       refine one_ 13 rfl (fun K hK=>?_)
       go_simp
       refine(HS7.out _ (by assumption)).mono ?_
       rintro e w5 ⟨rfl,f5⟩
       simp only[]
       have F5:=zhd ((show Fr C0 w2 _ by assumption).trans0 f5)
       refine hK.out _ _ ?kS6 (fun hSw2=>?kR6)
       case kS6=>exact F5.out
       clear hK K
       try simp only[Act.put,zs1,zs2,zs3]
       refine tk 14 hSw2 ?_
       refine one_ 17 rfl (fun K hK=>?_)
       go_simp
       refine(HS8.out _ (by assumption)).mono ?_
       rintro e w6 ⟨rfl,rfl⟩
       simp only[]
       refine hK.out _ _ ?kS7 (fun hSw3=>?kR7)
       case kS7=>assumption
       clear hK K
       try simp only[Act.put,zs1,zs2,zs3]
       refine tk 18 hSw3 ?_
       refine tk 19 hSw3 ?_
       refine z1y (by kernel_rfl) ?_ _
       go_wp2
       all_goals
        go_ret2
        refine⟨F2.out.trans0 F5.out,?_⟩
        rw[hpo.out]
        rfl
end
section
set_option maxHeartbeats 1000000
theorem z7y {F:Nat→Prop} {w:World} (k:Nat):∀{xs:List Value} {l:List (Nat×Bs)} {b:Bs},OpenCells F w xs l→lastOpen k l=some b→b.length=8192
 |_,_,b,.nil,h=>by simp[lastOpen] at h
 | _, _, b, .cons (b := b') (l := l) h1 h2 h3, h => by
   unfold lastOpen at h
   cases hl:lastOpen k l with
   |some b2=>rw[hl] at h;injection h with h;subst h;exact z7y k h3 hl
   | none =>
     rw[hl] at h
     simp only at h
     split at h
     · injection h with h;subst h;exact h2
     · cases h
theorem z7z {dT oT:Nat} {F:Nat→Prop} {w:World} {d m:Nat} {ov:Value} {s:DSt} (h:DiskAt dT oT F w d m ov s) (k:Nat):(s.read k).length=8192:=by
 unfold DSt.read
 cases hl:lastOpen k s.opn with
 |some b=>obtain⟨xs,_,o⟩:=h.opn;exact z27 (by rw[z7y k o hl];omega)
 |none=>exact h.good_length k
def pgs (D:DSt) (id:Nat):Option Bs:=pageOf (D.read id)
structure Hd (c:Nat→Nat) (r:Nat) (w:World) (tp st:Nat) (S:SSt) (D:DSt):Prop where
 cell:w.cell? ⟨tp,0,none⟩=some (.pointer (some ⟨st,0,none⟩))
 store:StoreOk c r w st S D
 alive:Alive S D
 own:c tp=r
theorem StoreOk.fr {c:Nat→Nat} {r:Nat} {w w':World} {st:Nat} {S:SSt} {D:DSt} {C:Nat→Prop} (h:StoreOk c r w st S D) (hf:Fr C w w') (h1:∀b,C b→c b≠r) (h2:∀b,C b→c b≠0):StoreOk c r w' st S D:=by
 obtain⟨sm,d,m,ov,h⟩:=h;exact⟨sm,d,m,ov,h.fr hf h1 h2⟩
theorem Hd.fr {c:Nat→Nat} {r:Nat} {w w':World} {tp st:Nat} {S:SSt} {D:DSt} {C:Nat→Prop} (h:Hd c r w tp st S D) (hf:Fr C w w') (h1:∀b,C b→c b≠r) (h2:∀b,C b→c b≠0):Hd c r w' tp st S D:=
 ⟨hf.cell h.cell (fun k=>h1 _ k h.own),h.store.fr hf h1 h2,h.alive,h.own⟩
theorem Hd.fr0 {c:Nat→Nat} {r:Nat} {w w':World} {tp st:Nat} {S:SSt} {D:DSt} (h:Hd c r w tp st S D) (hf:Fr C0 w w'):Hd c r w' tp st S D:=h.fr hf (fun _ k=>k.elim) (fun _ k=>k.elim)
theorem DiskAt.ag {dT oT:Nat} {c c':Nat→Nat} {w:World} {d m:Nat} {ov:Value} {s:DSt} (h:DiskAt dT oT (Dt c) w d m ov s) (ha:Ag w.heap.size c c'):DiskAt dT oT (Dt c') w d m ov s:=h.mono fun b hb hl=>(ha b hl).trans hb
theorem StoreOk.ag {c c':Nat→Nat} {r:Nat} {w:World} {st:Nat} {S:SSt} {D:DSt} (h:StoreOk c r w st S D) (ha:Ag w.heap.size c c'):StoreOk c' r w st S D:=by
 obtain⟨sm,d,m,ov,h⟩:=h
 have hm:m<w.heap.size:=by obtain⟨M,k1,_⟩:=h.disk.kept;exact k1.lt
 obtain⟨xs,o1,_⟩:=h.disk.opn
 exact⟨sm,d,m,ov,h.blk,h.map,DiskAt.ag h.disk ha,(ha _ (Array.getElem?_eq_some_iff.1 h.blk).1).trans h.ost,(ha _ h.map.lt).trans h.osm,(ha _ (Array.getElem?_eq_some_iff.1 h.disk.blk).1).trans h.od,(ha _ hm).trans h.om,fun b hb=>(ha b (o1.lt b hb).2).trans (h.oov b hb),h.ne,h.dk⟩
theorem Hd.ag {c c':Nat→Nat} {r:Nat} {w:World} {tp st:Nat} {S:SSt} {D:DSt} (h:Hd c r w tp st S D) (ha:Ag w.heap.size c c'):Hd c' r w tp st S D:=
 ⟨h.cell,h.store.ag ha,h.alive,(ha _ (World.block_lt_of_cell? w _ h.cell)).trans h.own⟩
abbrev corrupt:Ending:=.panicked [{ v:=.iface 33 (.int .i64 22),recovered:=false }]
def Loaded (c:Nat→Nat) (rn:Nat) (w:World) (pg:Nat→Option Bs) (N:Nat) (X:Prop) (d:Nat) (t:T) (n g o:Nat) (kvs:List Value) (v:Value):Prop:=
 NodeAt (Dt c) w n g o t.id t.l kvs v∧(c n=rn∨c n=0)∧(kvs≠[]→c g=rn∨c g=0)∧All2 (Rep c rn w pg N X d) t.ks kvs
def LoadRes (c:Nat→Nat) (rn:Nat) (w w':World) (pg:Nat→Option Bs) (N:Nat) (X:Prop) (d:Nat) (t:T) (e:Ending):Prop:=
 Fr C0 w w'∧((X∧e=corrupt)∨∃v n g o kvs,e=.returned v∧Loaded c rn w' pg N X d t n g o kvs v∧All2 (Rep c rn w pg N X d) t.ks kvs)
def LoadResS (c:Nat→Nat) (rn:Nat) (w w':World) (pg:Nat→Option Bs) (N:Nat) (X:Prop) (d:Nat) (t:T) (e:Ending):Prop:=
 LoadRes c rn w w' pg N X d t e∧(e≠corrupt→t.id≠0→pg t.id≠none)
theorem All2.ofMap {α β:Type} {R:α→β→Prop} {f:α→β}:∀{l:List α},(∀a∈l,R a (f a))→All2 R l (l.map f)
 |[],_=>.nil
 |a::l,h=>.cons (h a (by simp)) (All2.ofMap fun b hb=>h b (List.mem_cons_of_mem _ hb))
theorem z80 {c:Nat→Nat} {r rn:Nat} {w:World} {tp st:Nat} {S:SSt} {D:DSt} {X:Prop} {d m:Nat} {t:T} {v:Value} (h:Hd c r w tp st S D) (hc:Cl w c) (hr:Rep c rn w (pgs D) D.blocks X (d+1) t v) (hs:Shape (d+1) m t) (hm:1≤m) :
 Calls Tryz.prog 113 #[.pointer (some ⟨tp,0,none⟩),v] w fun e w'=>LoadResS c rn w w' (pgs D) D.blocks X d t e:=by
 obtain⟨nm,l,ks⟩:=t
 cases nm with
 | mem n g o =>
   obtain⟨kvs,hn,hcn,hcg,hk,_⟩:=hr
   have HL:=zhd (show LoadResS c rn w w (pgs D) D.blocks X d (.node (.mem n g o) l ks) (.returned v) from⟨⟨Fr.refl _ _,.inr ⟨v,n,g,o,kvs,rfl,⟨hn,.inl hcn,fun h=>.inl (hcg h),hk⟩,hk⟩⟩,fun _ h=>absurd rfl h⟩)
   obtain⟨lv,_,_,_,h3⟩:=hn
   clear h hc hs hcn hcg hk
   rcases h3 with⟨_,rfl⟩|⟨_,rfl,_⟩
   · go_enter Tryz.func113,Tryz.ntmps113
     go_wp2
     go_ret
     exact HL.out
   · go_enter Tryz.func113,Tryz.ntmps113
     go_wp2
     go_ret
     exact HL.out
 | page id =>
   obtain⟨rfl,hi1,hi2,hpg,hk⟩:=hr
   have hsz:=h.alive.size
   have hsm:=h.alive.small
   obtain⟨sm,d0,m0,ov,hst⟩:=h.store
   have HG:=zhd (z7x (b:=D.read id) h.store h.alive hi1 (by omega) rfl (z7z hst.disk id))
   have hcell:=h.cell
   have HPG:=zhd hpg
   have HC:=zhd hc
   obtain⟨q1,q2,q3,q4⟩:=hs
   have HKV:=zhd q3
   have HK:=zhd hk
   have HIN:Hid (∀k∈ks.map T.id,k<16384):=by
    refine zhd fun k hk'=>?_
    obtain⟨x,hx,rfl⟩:=List.mem_map.1 hk'
    have:=(hk x hx).2.num
    cases d with
    |zero=>exact(hk x hx).2.elim
    | succ d =>
      obtain⟨nm,lx,kx⟩:=x
      cases nm with
      |mem=>exact(hk _ hx).1.elim
      |page j=>have:=(hk _ hx).2;obtain⟨_,_,a3,_⟩:=this;show j<16384;omega
   have HKS:Hid (if d=0 then ks=[] else ks.length=l.length+1):=by
    refine zhd ?_
    split<;>rename_i hd
    · rwa [if_pos hd] at q4
    · rw[if_neg hd] at q4;exact q4.1
   have hl1:1≤l.length:=by omega
   clear hpg hk q3 q4 q1 hst h hc
   go_enter Tryz.func113,Tryz.ntmps113
   go_wp2_with fail
   refine HG.out.mono ?_
   rintro e w1 ⟨f1,r1⟩
   have F1:=zhd f1
   clear f1 HG
   rcases HPG.out with hp|⟨hX,hp⟩
   · rw[show pageOf (D.read id)=pgs D id from rfl,hp] at r1
     obtain⟨bv1,rfl,b1⟩:=r1
     have B1:=zhd b1
     clear b1
     have hRes:∀w2,Fr C0 w1 w2→∀v' n g o,w1.heap.size≤n→(¬d=0→w1.heap.size≤g)→NodeAt (fun b=>w1.heap.size≤b) w2 n g o id l ((ks.map T.id).map wPage) v'→LoadResS c rn w w2 (pgs D) D.blocks X d (.node (.page id) l ks) (.returned v'):=by
      intro w2 f2 v' n g o hn hg hN
      have hsz1:=F1.out.size
      refine⟨⟨F1.out.trans0 f2,.inr ⟨v',n,g,o,_,rfl,⟨hN.mono (fun b hb _=>HC.out b (by omega)),.inr (HC.out _ (by omega)),fun hne=>?_,?_⟩,?_⟩⟩,fun _ _ h=>by rw[show(T.node (.page id) l ks).id=id from rfl,hp] at h;cases h⟩
      · have hd:¬d=0:=by
         intro hd
         have:=HKS.out
         rw[if_pos hd] at this
         subst this
         exact hne rfl
        exact .inr (HC.out _ (by have:=hg hd;omega))
      · show All2 _ ks ((ks.map T.id).map wPage)
        rw[List.map_map]
        exact All2.ofMap fun k hk=>((HK.out k hk).2.fr0 F1.out).fr0 f2
      · show All2 _ ks ((ks.map T.id).map wPage)
        rw[List.map_map]
        exact All2.ofMap fun k hk=>(HK.out k hk).2
     have HRes:=zhd hRes
     clear hRes
     by_cases hd:d=0
     · have hks:=HKS.out
       rw[if_pos hd] at hks
       subst hks
       have HRd:=zhd (z7v (id:=id) B1.out hl1 q2 HKV.out)
       obtain⟨A,cc,rfl,-⟩:=B1.out.form
       clear B1
       go_wp2_with fail
       refine HRd.out.mono ?_
       rintro e w2 ⟨f2,v',n,g,o,rfl,hn,hN⟩
       have HE:=zhd (HRes.out w2 f2 v' n g o hn (fun h=>absurd hd h) hN)
       clear f2 hN
       go_wp2
       go_ret
       exact HE.out
     · have hks:=HKS.out
       rw[if_neg hd] at hks
       have HRd:=zhd (z7w (id:=id) (by simpa using hks) HIN.out B1.out hl1 q2 HKV.out)
       obtain⟨A,cc,rfl,-⟩:=B1.out.form
       clear B1 hks
       go_wp2_with fail
       refine HRd.out.mono ?_
       rintro e w2 ⟨f2,v',n,g,o,rfl,hn,hg,hN⟩
       have HE:=zhd (HRes.out w2 f2 v' n g o hn (fun _=>hg) hN)
       clear f2 hN
       go_wp2
       go_ret
       exact HE.out
   · rw[show pageOf (D.read id)=pgs D id from rfl,hp] at r1
     obtain rfl:=r1
     go_wp2
     exact⟨rfl,⟨F1.out,.inl ⟨hX,rfl⟩⟩,fun h=>absurd rfl h⟩
theorem z81 {c:Nat→Nat} {r rn:Nat} {w:World} {tp st:Nat} {S:SSt} {D:DSt} {X:Prop} {d m:Nat} {t:T} {v:Value} (h:Hd c r w tp st S D) (hc:Cl w c) (hr:Rep c rn w (pgs D) D.blocks X (d+1) t v) (hs:Shape (d+1) m t) (hm:1≤m) :
 Calls Tryz.prog 113 #[.pointer (some ⟨tp,0,none⟩),v] w fun e w'=>LoadRes c rn w w' (pgs D) D.blocks X d t e:=
 (z80 h hc hr hs hm).mono fun _ _ h=>h.1
end
section
set_option maxHeartbeats 400000
theorem z82 {F:Nat→Prop} {w:World} {u v:Value} {a b:List UInt8} (ha:BytesAt F w u a) (hb:BytesAt F w v b):(callFunc 81 #[u,v]).run Tryz.prog w=.ok (.value (.int .i64 (bcmp a b))) w:=by
 rw[run_callFunc_extern (e:=Extern.BytealgCompare.compare) Tryz.func81 (by kernel_rfl) rfl (by kernel_rfl) (by kernel_rfl),z6a ha hb,Result.andThen_ok]
theorem z83 {F:Nat→Prop} {w:World} {u v:Value} {a b:List UInt8} (ha:BytesAt F w u a) (hb:BytesAt F w v b) :
 Calls Tryz.prog 56 #[u,v] w fun e w'=>e=.returned (.int .i64 (bcmp a b))∧w=w':=by
 have hx:=z82 ha hb
 go_enter Tryz.func56,Tryz.ntmps56
 go_wp2
 go_ret
 exact⟨rfl,rfl⟩
theorem z84 {F:Nat→Prop} {w:World} {u v:Value} {l:List KV} {key:List UInt8} (hl:ItemsAt F w u l) (hk:BytesAt F w v key) :
 Calls Tryz.prog 124 #[u,v] w fun e w'=>e=.returned (.tuple #[.int .i64 (findL key l).1,.bool (findL key l).2])∧Fr C0 w w':=by
 have HL:=zhd hl
 obtain⟨A,c,rfl,h1,h2,h3⟩:=hl
 have hm:l.length≤9223372036854775807:=by unfold maxLen at h2;omega
 have H3:=zhd h3
 clear h1 h2 h3
 have HK:=zhd hk;clear hk
 go_enter Tryz.func124,Tryz.ntmps124
 go_wp2
 go_loopw [4,5,6,7,8,11] (fun a b _ _ _ i wr=>∃k:Nat,k≤l.length∧a=.int .i64 0∧b=.bool false∧i=.int .i64 k∧Hid (Fr C0 w wr)∧Hid (AllGt key l k)) (fun _ _ _ _ _ i _=>l.length-(intOf i).toNat)
 case atStart=>exact⟨0,Nat.zero_le _,rfl,rfl,rfl,Fr.refl _ _,fun j hj h=>absurd h (by omega)⟩
 case round=>
  obtain⟨k,hk,rfl,rfl,rfl,HF,HA⟩:=hrel
  by_cases hlt:k<l.length
  · obtain⟨g,o,rfl,hFg,hc⟩:=H3.out (by intro h;subst h;simp at hlt)
    obtain⟨kv,vv,c1,c2,c3,c4⟩:=hc k hlt
    have d1:=HF.out.cell0 c1
    have d2:=HF.out.cell0 c2
    have hB:=c3.fr0 HF.out
    obtain⟨kA,kc,rfl,-⟩:=id c3
    obtain⟨vA,vc,rfl,-⟩:=id c4
    clear c1 c2 hc H3 c3 c4
    have HB:=zhd hB;clear hB
    go_wp2_with fail
    have HW:=zhd ((Fr.refl C0 wr).alloc (.cells #[Value.slice kA l[k].fst.length kc,Value.slice vA l[k].snd.length vc] 200))
    refine(z83 ((HK.out.fr0 HF.out).fr0 HW.out) (HB.out.fr0 HW.out)).mono ?_
    rintro e w' ⟨rfl,rfl⟩
    by_cases hle:bcmp key l[k].1≤0
    · go_wp2
      go_ret2
      exact⟨by rw[z6b key l k hlt HA.out hle];rfl,HF.out.alloc _⟩
    · go_wp2
      go_roundw
      case rel=>exact⟨k+1,by omega,rfl,rfl,by go_num,HF.out.alloc _,z6d HA.out hlt (by omega)⟩
      case measure=>simp[intOf];omega
  · go_wp2
    go_ret2
    obtain rfl:k=l.length:=by omega
    exact⟨by rw[z6c key l HA.out];rfl,HF.out⟩
end
end Go.Proofs.YtidalepbkljkpaaGreat
namespace Go.H
section
theorem z85:∀{l:List KV} {fs:List (List KV)},fs.length=l.length→l.Sublist (interT l fs)
 |[],_,_=>List.nil_sublist _
 |x::l,[],h=>by simp at h
 | x :: l, f :: fs, h => by
   simp only[interT,List.cons_append]
   exact(List.Sublist.trans (z85 (l:=l) (fs:=fs) (by simpa using h)) (List.sublist_append_right f _)).cons_cons x
theorem z86 {l:List KV} {fs:List (List KV)} (h:fs.length=l.length+1):l.Sublist (inter l fs):=by
 cases fs with
 |nil=>simp at h
 |cons f fs=>exact List.Sublist.trans (z85 (by simpa using h)) (List.sublist_append_right f _)
theorem z87 {α:Type} {l:List α} {i:Nat} (h:i<l.length):∃a x b,l=a++x::b∧a.length=i∧l[i]=x:=
 ⟨l.take i,l[i],l.drop (i+1),by rw[←List.drop_eq_getElem_cons h,List.take_append_drop],by simp;omega,rfl⟩
theorem z88 {L R:List KV} {y:KV} (h:Sorted (L++y::R)):∀z∈L,klt z y:=fun z hz=>(List.pairwise_append.1 h).2.2 z hz y (by simp)
theorem z89 {z:KV} {k:List UInt8} {y:KV} (h:klt z y) (e:bcmp k y.1=0):0<bcmp k z.1:=by
 rw[z6f e,z6g];unfold klt at h;omega
theorem z8a {z:KV} {k:List UInt8} {y:KV} (h:klt y z) (e:bcmp k y.1=0):bcmp k z.1<0:=by
 rw[z6f e];exact h
theorem z8b (k:List UInt8) {l:List KV} {fs:List (List KV)} (h:fs.length=l.length+1) (hs:Sorted (inter l fs)) :
 ∃ A B f1 f f2, l = A ++ B ∧ fs = f1 ++ f :: f2 ∧ f1.length = A.length ∧ f2.length = B.length ∧ (findL k l).1 = A.length ∧ inter l fs = interH A f1 ++ (f ++ interT B f2) ∧
   (∀y∈A,0<bcmp k y.1)∧
   (((findL k l).2 = true ∧ ∃ y R f' f2', B = y :: R ∧ f2 = f' :: f2' ∧ bcmp k y.1 = 0 ∧ (∀ z ∈ interH A f1 ++ f, 0 < bcmp k z.1) ∧ ∀ z ∈ f' ++ interT R f2', bcmp k z.1 < 0) ∨
    ((findL k l).2=false∧(∀z∈interH A f1,0<bcmp k z.1)∧∀z∈interT B f2,bcmp k z.1<0)):=by
 have hsl:Sorted l:=hs.sublist (z86 h)
 obtain⟨A,B,rfl,h1,h2,h3⟩:=z6u k hsl
 obtain⟨f1,f,f2,rfl,hf1,_⟩:=z87 (l:=fs) (i:=A.length) (by rw[h,List.length_append];omega)
 have hf2:f2.length=B.length:=by simp at h;omega
 have he:=z6w B f f2 (l1:=A) (f1:=f1) hf1
 rw[he] at hs
 refine⟨A,B,f1,f,f2,rfl,rfl,hf1,hf2,h1,he,h2,?_⟩
 rcases h3 with⟨e,y,R,rfl,hy,hR⟩|⟨e,hB⟩
 · obtain⟨f',f2',rfl⟩:∃a b,f2=a::b:=by cases f2 with|nil=>simp at hf2|cons a b=>exact⟨a,b,rfl⟩
   refine .inl ⟨e,y,R,f',f2',rfl,rfl,hy,?_,?_⟩
   · have:Sorted ((interH A f1++f)++y::(f'++interT R f2')):=by simpa [interT] using hs
     exact fun z hz=>z89 (z88 this z hz) hy
   · have:Sorted ((interH A f1++f)++y::(f'++interT R f2')):=by simpa [interT] using hs
     exact fun z hz=>z8a ((List.pairwise_cons.1 (List.pairwise_append.1 this).2.1).1 z hz) hy
 · have p:=List.pairwise_append.1 hs
   exact .inr ⟨e,z72 hf1 p.1 h2,z73 (List.pairwise_append.1 p.2.1).2.1 hB⟩
theorem z8c (k:List UInt8) {l:List KV} (hs:Sorted l) :
 ∃ A B, l = A ++ B ∧ (findL k l).1 = A.length ∧ (∀ y ∈ A, 0 < bcmp k y.1) ∧
   (((findL k l).2=true∧∃y R,B=y::R∧bcmp k y.1=0∧∀z∈R,bcmp k z.1<0)∨((findL k l).2=false∧∀z∈B,bcmp k z.1<0)):=z6u k hs
theorem z8d {k:List UInt8} {l:List KV} (hs:Sorted l) :
 if (findL k l).2 then ∃h:(findL k l).1<l.length,getL k l=some l[(findL k l).1].2 else getL k l=none:=by
 obtain⟨A,B,rfl,h1,h2,⟨e,y,R,rfl,hy,hR⟩|⟨e,hB⟩⟩:=z8c k hs
 · rw[e,if_pos rfl,h1]
   refine⟨by simp,?_⟩
   rw[z6n h2,z6s hy];simp
 · rw[e]
   simp only[Bool.false_eq_true,if_false]
   rw[z6n h2,z6o hB]
theorem z8e {k:List UInt8} {l:List KV} {fs:List (List KV)} (h:fs.length=l.length+1) (hs:Sorted (inter l fs)) :
 if (findL k l).2 then ∃h:(findL k l).1<l.length,getL k (inter l fs)=some l[(findL k l).1].2
 else ∃h:(findL k l).1<fs.length,getL k (inter l fs)=getL k fs[(findL k l).1]∧Sorted fs[(findL k l).1]:=by
 obtain⟨A,B,f1,f,f2,rfl,rfl,hf1,hf2,h1,he,h2,⟨e,y,R,f',f2',rfl,rfl,hy,hL,hR⟩|⟨e,hA,hB⟩⟩:=z8b k h hs
 · rw[e,if_pos rfl,h1]
   refine⟨by simp,?_⟩
   rw[he,show interT (y::R) (f'::f2')=y::(f'++interT R f2') from rfl,←List.append_assoc,z6n hL,z6s hy]
   simp
 · rw[e]
   simp only[Bool.false_eq_true,if_false,h1]
   refine⟨by simp;omega,?_,?_⟩
   · rw[he,z6n hA,z6p hB]
     simp[←hf1]
   · rw[he] at hs
     have:=(List.pairwise_append.1 (List.pairwise_append.1 hs).2.1).1
     simpa [←hf1] using this
end
end Go.H

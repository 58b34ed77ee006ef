import Derived.Test.YtidalepbkljkpaaGreatLocalSpaces10
import Derived.Test.YtidalepbkljkpaaGreatLocalSpaces28
import Derived.Test.YtidalepbkljkpaaGreatLocalSpaces29
import Derived.Test.YtidalepbkljkpaaGreatLocalSpaces19
import Derived.Test.YtidalepbkljkpaaGreatLocalSpaces16
import Derived.Test.YtidalepbkljkpaaGreatLocalSpaces04
import Derived.Test.YtidalepbkljkpaaGreatLocalSpaces03
import Derived.Test.YtidalepbkljkpaaGreatLocalSpaces25
set_option linter.all false
namespace Go.Proofs.YtidalepbkljkpaaGreat
open Go.RowKit Go.H
set_option maxRecDepth 100000
section
set_option maxHeartbeats 1000000
def OpenRes (c:Nat→Nat) (r:Nat) (w w':World) (D:DSt) (dk:Nat) (e:Ending):Option (Nat×Nat)→Prop
 |some (num,root)=>∃st,e=.returned (.tuple #[.pointer (some ⟨st,0,none⟩),.int .i64 0])∧∃c',Ag w.heap.size c c'∧Cl w' c'∧StoreOk c' r w' st ⟨D.blocks-2,[],D.life,num,root,dk⟩ D
 |none=>e=.returned (.tuple #[.pointer none,.int .i64 22])
theorem zea {c:Nat→Nat} {r:Nat} {w:World} {d m:Nat} {ov:Value} {D:DSt} (h:DiskA (Dt c) w d m ov D) (hod:c d=r) (hom:c m=r) (hoov:∀b,ov.ownBlock=some b→c b=r) (hr:r≠0) (hc:Cl w c) (hdn:D.down=false) (hb1:3≤D.blocks) (hb2:D.blocks≤4096) (hbl:∀k,(D.read k).length=8192) :
 Calls Tryz.prog 83 #[.pointer (some ⟨d,0,none⟩)] w fun e w'=>Fr C0 w w'∧OpenRes c r w w' D d e (openF (headsOf D)):=by
 have HB:=zhd (fun (w_:World) (hf:Fr C0 w w_)=>z3a (h.fr0 hf))
 have HD:=zhd (z3b h)
 rw[hdn] at HD
 have HL:=zhd (fun (w_:World) (hf:Fr C0 w w_)=>z3c (h.fr0 hf))
 have HR:=zhd (fun (w_:World) (hf:Fr C0 w w_) (k:Nat) (hk:k<2)=>z3h (h.fr0 hf) hdn k (by omega))
 have H:=zhd h
 have e1:¬((D.blocks:Int)≤2):=by omega
 have e2:IntKind.i64.wrap ((D.blocks:Int)-2)=((D.blocks-2:Nat):Int):=by rw[IntWalk.i64_in _ (by omega)];omega
 have HC:=zhd hc
 have HO:=zhd hoov
 have HBL:=zhd hbl
 clear h hc hoov hbl
 go_enter Tryz.func83,Tryz.ntmps83
 go_wp2_with fail
 refine(HB.out _ (Fr.refl _ _)).mono ?_
 rintro e w1 ⟨rfl,rfl⟩
 go_wp2_with fail
 refine HD.out.mono ?_
 rintro e w1 ⟨rfl,rfl⟩
 go_wp2_with fail
 refine(HL.out _ (Fr.refl _ _)).mono ?_
 rintro e w1 ⟨rfl,rfl⟩
 go_wp2_with fail
 refine(HB.out _ (Fr.refl _ _)).mono ?_
 rintro e w1 ⟨rfl,rfl⟩
 go_wp2
 go_loopw [5,6,7,8,9,10,32] (fun av _ _ _ _ _ iv wr=>∃k:Nat,k≤2∧av=.int .i64 (openAcc (headsOf D) k).1∧iv=.int .i64 (k:Int)∧Hid (Fr C0 w wr)∧Hid (wr.heap[w.heap.size]?=some (.map #[] 0))∧Hid (wr.heap[w.heap.size+1]?=some (.cells #[.int .i64 ((D.blocks-2:Nat):Int),.map (some w.heap.size),.pointer (some ⟨d,0,none⟩),.int .i64 D.life,.int .u64 ((openAcc (headsOf D) k).2.1:Int),.int .i64 ((openAcc (headsOf D) k).2.2:Int)] 172 (0,0)))) (fun _ _ _ _ _ _ iv _=>2-(intOf iv).toNat)
 case atStart=>
  refine⟨0,by omega,rfl,rfl,zhd (((Fr.refl C0 w).alloc _).alloc _),?_,?_⟩
  · exact zhd (((Fr.refl C0 (w.alloc (.map #[] 0))).alloc _).blk (heap_alloc_new w _) (fun h=>h))
  · have:=heap_alloc_new (w.alloc (.map #[] 0)) (.cells #[.int .i64 ((D.blocks-2:Nat):Int),.map (some w.heap.size),.pointer (some ⟨d,0,none⟩),.int .i64 D.life,.int .u64 0,.int .i64 0] 172)
    refine zhd ?_
    simpa [openAcc] using this
 case round=>
  obtain⟨k,hk,rfl,rfl,HF,HM,HS⟩:=hrel
  by_cases hlt:k<2
  · have HE:Hid (openAcc (headsOf D) (k+1)=openStep (openAcc (headsOf D) k) k (headsOf D k)):=zhd rfl
    have hrg:=zd1 (headsOf D) k
    have HRH:=zhd (fun (w_:World) (g:Nat) (hg:w_.heap[g]?=some (.cells ((D.read k).map bv).toArray 5 (0,0)))=>z4u hg (HBL.out k) hb2)
    rw[show readHeadF (D.read k) D.blocks=headsOf D k from rfl] at HRH
    have HRK:=zhd (HR.out _ HF.out k hlt)
    generalize headsOf D k=hh at HE HRH
    obtain⟨⟨hn,hrt⟩,hok⟩:=hh
    generalize openAcc (headsOf D) k=acc at HE HS hrg
    obtain⟨at_,num,root⟩:=acc
    simp only at HE HS hrg HRH⊢
    obtain⟨hrg1,hrg2⟩:=hrg
    go_wp2_with fail
    refine HRK.out.mono ?_
    rintro e w1 ⟨rfl,g1,f1⟩
    have F1:=zhd (HF.out.trans0 f1)
    have G1:=zhd g1
    have FR1:=zhd f1
    clear f1 g1 HRK
    go_wp2_with fail
    refine(HB.out _ F1.out).mono ?_
    rintro e w2 ⟨rfl,rfl⟩
    go_wp2_with fail
    refine(HRH.out _ _ G1.out).mono ?_
    rintro e w2 ⟨rfl,f2⟩
    have F2:=zhd (F1.out.trans0 f2)
    have FR2:=zhd (FR1.out.trans0 f2)
    have hs2:=HS.out
    clear f2 F1 HRH G1 FR1
    have HW:=zhd (FR2.out.alloc (.cells #[.int .u64 (hn:Int),.int .i64 (hrt:Int)] 170))
    have q0:(w2.alloc (.cells #[.int .u64 (hn:Int),.int .i64 (hrt:Int)] 170)).cell? ⟨w2.heap.size,0,none⟩=some (.int .u64 (hn:Int)):=z2k (heap_alloc_new _ _) 0 rfl
    have q1:(w2.alloc (.cells #[.int .u64 (hn:Int),.int .i64 (hrt:Int)] 170)).cell? ⟨w2.heap.size,1,none⟩=some (.int .i64 (hrt:Int)):=z2k (heap_alloc_new _ _) 1 rfl
    have hb4:=HW.out.blk hs2 (fun h=>h)
    have s4:=z2k (HW.out.blk hs2 (fun h=>h)) 4 rfl
    have s5':=z2k hb4 5 rfl
    have z4:=z2i 4 hb4
    have z5:=z2i 5 hb4
    have HB4:=zhd hb4
    have HM4:=zhd (HW.out.blk HM.out (fun h=>h))
    have HFW:=zhd ((F2.out.alloc (.cells #[.int .u64 (hn:Int),.int .i64 (hrt:Int)] 170)))
    have hs9:=HF.out.size
    have hrel0:openStep (at_,num,root) k ((hn,hrt),hok)=(at_,num,root)→∃k':Nat,k'≤2∧True:=fun _=>⟨k,hk,trivial⟩
    clear hs2 hrel0 hb4
    go_wp2_with fail
    cases hok with
    | false =>
      have hno:¬((false:Bool)=true∧(at_<0∨num<hn)):=by simp
      refine z1z (Fr C0 (w2.alloc (.cells #[.int .u64 (hn:Int),.int .i64 (hrt:Int)] 170))) [] (by kernel_rfl) ?_
      have hSw0:(Fr C0 (w2.alloc (.cells #[.int .u64 (hn:Int),.int .i64 (hrt:Int)] 170))) _:=(Fr.refl C0 _).drew
      refine tk 0 hSw0 ?_
      refine tk 1 hSw0 ?_
      refine tks 2 rfl hSw0 ?_
      try simp only[Act.put,zs1,zs2,zs3]
      refine tks 3 rfl hSw0 ?_
      try simp only[Act.put,zs1,zs2,zs3]
      refine tks 4 rfl hSw0 ?_
      try simp only[Act.put,zs1,zs2,zs3]
      refine tks 5 rfl hSw0 ?_
      try simp only[Act.put,zs1,zs2,zs3]
      refine tks 6 rfl hSw0 ?_
      try simp only[Act.put,zs1,zs2,zs3]
      refine tks 7 rfl hSw0 ?_
      try simp only[Act.put,zs1,zs2,zs3]
      refine tks 8 rfl hSw0 ?_
      try simp only[Act.put,zs1,zs2,zs3]
      refine tks 9 rfl hSw0 ?_
      try simp only[Act.put,zs1,zs2,zs3]
      refine tks 10 rfl hSw0 ?_
      try simp only[Act.put,zs1,zs2,zs3]
      refine tks 11 rfl hSw0 ?_
      try simp only[Act.put,zs1,zs2,zs3]
      refine tks 12 rfl hSw0 ?_
      try simp only[Act.put,zs1,zs2,zs3]
      refine tks 13 rfl hSw0 ?_
      try simp only[Act.put,zs1,zs2,zs3]
      refine tk 14 hSw0 ?_
      refine z1y (by kernel_rfl) ?_ _
      go_wp2
      go_roundw
      case rel=>
       refine⟨k+1,by omega,?_,by go_num,HFW.drew,HM4,?_⟩
       · rw[HE.out,openStep,if_neg hno]
       · rw[HE.out,openStep,if_neg hno];exact HB4
      case measure=>simp[intOf];omega
    | true =>
      have hyes:(at_<0∨num<hn)→((true:Bool)=true∧(at_<0∨num<hn)):=fun h=>⟨rfl,h⟩
      by_cases hat:at_<0
      · skip
        refine z1z (Fr C0 (w2.alloc (.cells #[.int .u64 (hn:Int),.int .i64 (hrt:Int)] 170))) [] (by kernel_rfl) ?_
        have hSw0:(Fr C0 (w2.alloc (.cells #[.int .u64 (hn:Int),.int .i64 (hrt:Int)] 170))) _:=(Fr.refl C0 _).drew
        refine tk 0 hSw0 ?_
        refine tk 1 hSw0 ?_
        refine tk 2 hSw0 ?_
        refine tk 3 hSw0 ?_
        refine tk 4 hSw0 ?_
        refine tks 5 rfl hSw0 ?_
        try simp only[Act.put,zs1,zs2,zs3]
        refine tks 6 rfl hSw0 ?_
        try simp only[Act.put,zs1,zs2,zs3]
        refine tks 7 rfl hSw0 ?_
        try simp only[Act.put,zs1,zs2,zs3]
        refine tks 8 rfl hSw0 ?_
        try simp only[Act.put,zs1,zs2,zs3]
        refine tks 9 rfl hSw0 ?_
        try simp only[Act.put,zs1,zs2,zs3]
        refine tks 10 rfl hSw0 ?_
        try simp only[Act.put,zs1,zs2,zs3]
        refine tks 11 rfl hSw0 ?_
        try simp only[Act.put,zs1,zs2,zs3]
        refine tks 12 rfl hSw0 ?_
        try simp only[Act.put,zs1,zs2,zs3]
        refine tk 13 hSw0 ?_
        refine tk 14 hSw0 ?_
        refine z1y (by kernel_rfl) ?_ _
        go_wp2
        go_roundw
        case rel=>
         refine⟨k+1,by omega,?_,by go_num,(HFW.setCell (p:=⟨w.heap.size+1,4,none⟩) (.inl (by simp)) _).setCell (p:=⟨w.heap.size+1,5,none⟩) (.inl (by simp)) _ |>.drew,?_,?_⟩
         · rw[HE.out,openStep,if_pos (hyes (.inl hat))]
         · exact(((Fr.refl (fun b=>b=w.heap.size+1) _).setCell (p:=⟨w.heap.size+1,4,none⟩) (.inr rfl) _).setCell (p:=⟨w.heap.size+1,5,none⟩) (.inr rfl) _).blk HM4 (by simp)
         · rw[HE.out,openStep,if_pos (hyes (.inl hat))];exact z2j (i:=5) (z2j (i:=4) HB4.out _) _
        case measure=>simp[intOf];omega
      · by_cases hnum:num<hn
        · have hnum':(num:Int)<(hn:Int):=by omega
          refine z1z (Fr C0 (w2.alloc (.cells #[.int .u64 (hn:Int),.int .i64 (hrt:Int)] 170))) [] (by kernel_rfl) ?_
          have hSw0:(Fr C0 (w2.alloc (.cells #[.int .u64 (hn:Int),.int .i64 (hrt:Int)] 170))) _:=(Fr.refl C0 _).drew
          refine tk 0 hSw0 ?_
          refine tk 1 hSw0 ?_
          refine tk 2 hSw0 ?_
          refine tk 3 hSw0 ?_
          refine tk 4 hSw0 ?_
          refine tk 5 hSw0 ?_
          refine tk 6 hSw0 ?_ (hy:=by intro w_ hS_;have b0:=hS_.cell0 q0;have b4:=hS_.cell0 s4;first|(go_simp;done)|(go_simp;with_reducible rfl))
          refine tk 7 hSw0 ?_
          refine tk 8 hSw0 ?_
          refine tk 9 hSw0 ?_
          refine tk 10 hSw0 ?_
          refine tk 11 hSw0 ?_ (hy:=by intro w_ hS_;have b0:=hS_.cell0 q0;have b4:=hS_.cell0 s4;first|(go_simp;done)|(go_simp;with_reducible rfl))
          refine tk 12 hSw0 ?_
          refine tk 13 hSw0 ?_
          refine tk 14 hSw0 ?_
          refine z1y (by kernel_rfl) ?_ _
          go_wp2
          go_roundw
          case rel=>
           refine⟨k+1,by omega,?_,by go_num,(HFW.setCell (p:=⟨w.heap.size+1,4,none⟩) (.inl (by simp)) _).setCell (p:=⟨w.heap.size+1,5,none⟩) (.inl (by simp)) _ |>.drew,?_,?_⟩
           · rw[HE.out,openStep,if_pos (hyes (.inr hnum))]
           · exact(((Fr.refl (fun b=>b=w.heap.size+1) _).setCell (p:=⟨w.heap.size+1,4,none⟩) (.inr rfl) _).setCell (p:=⟨w.heap.size+1,5,none⟩) (.inr rfl) _).blk HM4 (by simp)
           · rw[HE.out,openStep,if_pos (hyes (.inr hnum))];exact z2j (i:=5) (z2j (i:=4) HB4.out _) _
          case measure=>simp[intOf];omega
        · have hnum':¬(num:Int)<(hn:Int):=by omega
          refine z1z (Fr C0 (w2.alloc (.cells #[.int .u64 (hn:Int),.int .i64 (hrt:Int)] 170))) [] (by kernel_rfl) ?_
          have hSw0:(Fr C0 (w2.alloc (.cells #[.int .u64 (hn:Int),.int .i64 (hrt:Int)] 170))) _:=(Fr.refl C0 _).drew
          refine tk 0 hSw0 ?_
          refine tk 1 hSw0 ?_
          refine tk 2 hSw0 ?_
          refine tk 3 hSw0 ?_
          refine tk 4 hSw0 ?_
          refine tk 5 hSw0 ?_
          refine tk 6 hSw0 ?_ (hy:=by intro w_ hS_;have b0:=hS_.cell0 q0;have b4:=hS_.cell0 s4;first|(go_simp;done)|(go_simp;with_reducible rfl))
          refine tk 7 hSw0 ?_
          refine tk 8 hSw0 ?_
          refine tk 9 hSw0 ?_
          refine tk 10 hSw0 ?_
          refine tk 11 hSw0 ?_ (hy:=by intro w_ hS_;have b0:=hS_.cell0 q0;have b4:=hS_.cell0 s4;first|(go_simp;done)|(go_simp;with_reducible rfl))
          refine tk 12 hSw0 ?_
          refine tk 13 hSw0 ?_
          refine tk 14 hSw0 ?_
          refine z1y (by kernel_rfl) ?_ _
          go_wp2
          go_roundw
          case rel=>
           refine⟨k+1,by omega,?_,by go_num,HFW.drew,HM4,?_⟩
           · rw[HE.out,openStep,if_neg (fun h=>h.2.elim hat hnum)]
           · rw[HE.out,openStep,if_neg (fun h=>h.2.elim hat hnum)];exact HB4
          case measure=>simp[intOf];omega
  · obtain rfl:k=2:=by omega
    have hrg:=zd1 (headsOf D) 2
    have HOP:Hid (openF (headsOf D)=if (openAcc (headsOf D) 2).1<0 then none else if (openAcc (headsOf D) 2).2.1≠0∧(((openAcc (headsOf D) 2).2.1 % 2:Nat):Int)≠(openAcc (headsOf D) 2).1 then none else some (openAcc (headsOf D) 2).2):=zhd rfl
    generalize openAcc (headsOf D) 2=acc at *
    obtain⟨at_,num,root⟩:=acc
    simp only at HS HOP hrg⊢
    have s4:=z2k HS.out 4 rfl
    have HOK:Hid (openF (headsOf D)=some (num,root)→OpenRes c r w wr D d (.returned (.tuple #[.pointer (some ⟨w.heap.size+1,0,none⟩),.int .i64 0])) (openF (headsOf D))):=by
     refine zhd fun e=>?_
     rw[e]
     have hlt:=(Array.getElem?_eq_some_iff.1 H.out.blk).1
     have hml:m<w.heap.size:=by obtain⟨M,k1,_⟩:=H.out.kept;exact k1.lt
     have hst:=(Array.getElem?_eq_some_iff.1 HS.out).1
     have hsm:=(Array.getElem?_eq_some_iff.1 HM.out).1
     have hsz:=HF.out.size
     have hag:Ag w.heap.size c (fun b=>if b=w.heap.size∨b=w.heap.size+1 then r else c b):=fun b hb=>by simp only[];rw[if_neg (by omega)]
     have hD:=(DiskOk.ag (c:=c) (r:=r) (c':=fun b=>if b=w.heap.size∨b=w.heap.size+1 then r else c b) (s:=D) ⟨m,ov,H.out,hod,hom,HO.out⟩ hag)
     refine⟨w.heap.size+1,rfl,fun b=>if b=w.heap.size∨b=w.heap.size+1 then r else c b,hag,fun b hb=>?_,w.heap.size,d,m,ov,⟨HS.out,⟨#[],0,HM.out,?_⟩,?_,?_,?_,?_,?_,?_,?_,rfl⟩⟩
     · simp only[];rw[if_neg (by omega)];exact HC.out b (by omega)
     · exact⟨rfl,by simp[vmap],by simp,by simp⟩
     · exact(H.out.mono (F':=Dt (fun b=>if b=w.heap.size∨b=w.heap.size+1 then r else c b)) (fun b hb hl=>(hag b hl).trans hb)).fr0 HF.out
     · simp
     · simp
     · exact(hag d hlt).trans hod
     · exact(hag m hml).trans hom
     · intro b hb
       obtain⟨xs,o1,_⟩:=H.out.opn
       exact(hag b (o1.lt b hb).2).trans (HO.out b hb)
     · omega
    by_cases hat:at_<0
    · go_wp2
      go_ret2
      exact⟨HF.out,by rw[HOP.out,if_pos hat];rfl⟩
    · have hat0:¬at_<0:=hat
      by_cases h0:num=0
      · have h1:((num:Int) != 0)=false:=by simp[h0]
        go_wp2
        go_ret2
        exact⟨HF.out,HOK.out (by rw[HOP.out,if_neg (show ¬at_<0 by omega),if_neg (by simp[h0])])⟩
      · have h1:((num:Int) != 0)=true:=by simp[bne,z32];omega
        have htm:(num:Int).tmod 2=((num % 2:Nat):Int):=by rw[Int.tmod_eq_emod_of_nonneg (by omega)];omega
        have hwr:IntKind.i64.wrap ((num % 2:Nat):Int)=((num % 2:Nat):Int):=by rw[IntWalk.i64_in _ (by omega)]
        by_cases h2:((num % 2:Nat):Int)=at_
        · have h3:(((num % 2:Nat):Int) != at_)=false:=by simp[bne,z32,h2]
          go_wp2
          go_ret2
          exact⟨HF.out,HOK.out (by rw[HOP.out,if_neg (show ¬at_<0 by omega),if_neg (fun h=>h.2 h2)])⟩
        · have h3:(((num % 2:Nat):Int) != at_)=true:=by simp[bne,z32];omega
          go_wp2
          go_ret2
          exact⟨HF.out,by rw[HOP.out,if_neg (show ¬at_<0 by omega),if_pos ⟨h0,h2⟩];rfl⟩
end
section
set_option maxHeartbeats 2000000
def TSt.empty (D:DSt) (num dk:Nat):TSt:={ S:=⟨D.blocks-2,[],D.life,num,0,dk⟩,D:=D,now:=none,last:=none,gone:=[],live:=[],held:=[] }
theorem zeb {D:DSt} {num dk:Nat} (ho:D.opn=[]) (hk:DOk D) (hn:num≤1000000) (hf:HeadsOk D.read num 0):Books (TSt.empty D num dk):=
 ⟨rfl,List.nodup_nil,List.nodup_nil,fun x=>by simp[TSt.empty],fun x hx=>by simp[TSt.empty] at hx,fun id=>by simp[TSt.empty,rcnt],fun id=>by simp[TSt.empty,rcnt],fun b j=>by simp[TSt.empty,rcnt],trivial,by simp[TSt.empty,rootDirty],ho,hk,.nil,.nil,hn,by simp[TSt.empty,rootL],by simp[TSt.empty,rootL],hf,KeptB.nil _⟩
theorem zec {c:Nat→Nat} {r rn rm:Nat} {w:World} {d m num:Nat} {ov:Value} {D:DSt} (ho:Owners r rn rm) (h:DiskA (Dt c) w d m ov D) (hod:c d=r) (hom:c m=r) (hoov:∀b,ov.ownBlock=some b→c b=r) (hc:Cl w c) (hdn:D.down=false) (hb1:3≤D.blocks) (hb2:D.blocks≤4096) (hbl:∀k,(D.read k).length=8192) (hop:D.opn=[]) (hok:DOk D) (hnum:num≤1000000) (hh:HeadsOk D.read num 0) :
 Calls Tryz.prog 59 #[.pointer (some ⟨d,0,none⟩)] w fun e w'=>Fr C0 w w'∧∃tp c',e=.returned (.tuple #[.pointer (some ⟨tp,0,none⟩),.int .i64 0])∧Ag w.heap.size c c'∧w.heap.size≤tp∧TreeAt c' r rn rm w' tp (TSt.empty D num d) 0:=by
 have hf:openF (headsOf D)=some (num,0):=zde hh (by omega) (by omega) (by omega) (by omega)
 have hdl:d<w.heap.size:=(Array.getElem?_eq_some_iff.1 h.blk).1
 have hml:m<w.heap.size:=by obtain⟨M,k1,_⟩:=h.kept;exact k1.lt
 have hol:∀b,ov.ownBlock=some b→b<w.heap.size:=fun b hb=>by obtain⟨xs,o,_⟩:=h.opn;exact(o.lt b hb).2
 obtain⟨q3,hq0,hqr,hqn,hqm⟩:∃q3,q3≠0∧q3≠r∧q3≠rn∧q3≠rm:=⟨r+rn+rm+1,by omega,by omega,by omega,by omega⟩
 obtain⟨c1,hce,hce2,hag1,hcl1⟩:∃c1:Nat→Nat,c1 w.heap.size=q3∧c1 (w.heap.size+1)=q3∧Ag w.heap.size c c1∧∀b,w.heap.size+2≤b→c1 b=0:=by
  refine⟨fun b=>if b=w.heap.size∨b=w.heap.size+1 then q3 else c b,by simp,by simp,fun b hb=>?_,fun b hb=>?_⟩
  · simp only[];rw[if_neg (by omega)]
  · simp only[];rw[if_neg (by omega)];exact hc b (by omega)
 have HO:=zhd (fun (w_:World) (hf_:Fr C0 w w_) (hs_:w.heap.size+2≤w_.heap.size)=>zea (c:=c1) (r:=r) ((DiskAt.mono h fun b hb hl=>(hag1 b hl).trans hb).fr0 hf_) ((hag1 d hdl).trans hod) ((hag1 m hml).trans hom) (fun b hb=>(hag1 b (hol b hb)).trans (hoov b hb)) ho.r0 (fun b hb=>hcl1 b (by omega)) hdn hb1 hb2 hbl)
 rw[hf] at HO
 have HFO:=zhd hh
 have F0:=zhd (((Fr.refl C0 w).alloc (.cells #[.pointer none] 88)).alloc (.cells #[.int .i64 0] 33))
 have HB:=zhd (And.intro hb1 hb2)
 clear h hod hom hoov hbl hf hh
 go_enter_defers Tryz.func59,Tryz.ntmps59
 go_wp2_with fail
 refine(HO.out _ F0.out (by simp)).mono ?_
 rintro e w2 ⟨f2,st,rfl,c2,ag2,cl2,s2⟩
 have F2:=zhd f2
 have hbt:w2.heap[w.heap.size]?=some (.cells #[.pointer none] 88 (0,0)):=f2.blk (((Fr.refl C0 _).alloc _).blk (heap_alloc_new w _) (fun h=>h)) (fun h=>h)
 have hbe:w2.heap[w.heap.size+1]?=some (.cells #[.int .i64 0] 33 (0,0)):=f2.blk (by
  have:=heap_alloc_new (w.alloc (.cells #[.pointer none] 88)) (.cells #[.int .i64 0] 33)
  rwa [show(w.alloc (.cells #[.pointer none] 88)).heap.size=w.heap.size+1 by simp] at this) (fun h=>h)
 have t0:=z2k hbt 0 rfl
 have e0:=z2k hbe 0 rfl
 have zt:=z2i 0 hbt
 have ze:=z2i 0 hbe
 have hs2:=f2.size
 have hsz:((w.alloc (.cells #[.pointer none] 88)).alloc (.cells #[.int .i64 0] 33)).heap.size=w.heap.size+2:=by simp
 clear f2 HO
 go_upto_region 4 with fail
 have F3':=(Fr.refl (fun b=>b=w.heap.size+1) w2).setCell (p:=⟨w.heap.size+1,0,none⟩) (.inr rfl) (.int .i64 0)
 have hbt3:=F3'.blk hbt (by omega)
 have hbe3:=z2j (i:=0) hbe (.int .i64 0)
 have F3:=zhd F3'
 have hs3:=F3'.size
 clear F3' hbt hbe t0 e0 zt ze
 generalize w2.setCell ⟨w.heap.size+1,0,none⟩ (.int .i64 0)=w3 at *
 have g4:=((Fr.refl C0 w3).alloc (.map #[] 0)).alloc (.map #[] 0)
 have g5:=g4.alloc (.cells #[.pointer (some ⟨st,0,none⟩),.nilIface,.int .i64 0,.int .i64 0,.nilIface,.int .i64 0,.int .i64 0,.map (some w3.heap.size),.slice none 0 0,.slice none 0 0,.map (some (w3.heap.size+1))] 139)
 have hbt4:=g5.blk hbt3 (fun h=>h)
 have hbe4:=g5.blk hbe3 (fun h=>h)
 have t0:=z2k hbt4 0 rfl
 have zt:=z2i 0 hbt4
 have e0:=z2k hbe4 0 rfl
 have ze:=z2i 0 hbe4
 have G5:=zhd g5
 have HBT3:=zhd hbt3
 have HBE3:=zhd hbe3
 clear g4 g5 hbt3 hbe3 hbt4 hbe4
 go_upto_region 5 with fail
 have gs:=(Fr.refl (fun b=>b=w.heap.size) (((w3.alloc (.map #[] 0)).alloc (.map #[] 0)).alloc (.cells #[.pointer (some ⟨st,0,none⟩),.nilIface,.int .i64 0,.int .i64 0,.nilIface,.int .i64 0,.int .i64 0,.map (some w3.heap.size),.slice none 0 0,.slice none 0 0,.map (some (w3.heap.size+1))] 139))).setCell (p:=⟨w.heap.size,0,none⟩) (.inr rfl) (.pointer (some ⟨w3.heap.size+1+1,0,none⟩))
 have hT:=gs.blk (heap_alloc_new ((w3.alloc (.map #[] 0)).alloc (.map #[] 0)) (.cells #[.pointer (some ⟨st,0,none⟩),.nilIface,.int .i64 0,.int .i64 0,.nilIface,.int .i64 0,.int .i64 0,.map (some w3.heap.size),.slice none 0 0,.slice none 0 0,.map (some (w3.heap.size+1))] 139)) (by simp;omega)
 rw[show((w3.alloc (.map #[] 0)).alloc (.map #[] 0)).heap.size=w3.heap.size+2 by simp] at hT
 have hM1:=(((MapIs.made w3).fr ((Fr.refl C0 _).alloc (.map #[] 0)) (fun h=>h)).fr ((Fr.refl C0 _).alloc (.cells #[.pointer (some ⟨st,0,none⟩),.nilIface,.int .i64 0,.int .i64 0,.nilIface,.int .i64 0,.int .i64 0,.map (some w3.heap.size),.slice none 0 0,.slice none 0 0,.map (some (w3.heap.size+1))] 139)) (fun h=>h)).fr gs (by omega)
 have hM2:=((MapIs.made (w3.alloc (.map #[] 0))).fr ((Fr.refl C0 _).alloc (.cells #[.pointer (some ⟨st,0,none⟩),.nilIface,.int .i64 0,.int .i64 0,.nilIface,.int .i64 0,.int .i64 0,.map (some w3.heap.size),.slice none 0 0,.slice none 0 0,.map (some (w3.heap.size+1))] 139)) (fun h=>h)).fr gs (by simp;omega)
 rw[show(w3.alloc (.map #[] 0)).heap.size=w3.heap.size+1 by simp] at hM2
 have hbt5:=z2j (i:=0) (G5.out.blk HBT3.out (fun h=>h)) (.pointer (some ⟨w3.heap.size+1+1,0,none⟩))
 have hbe5:=gs.blk (G5.out.blk HBE3.out (fun h=>h)) (by omega)
 have F5:=zhd ((G5.out.mono (C2:=fun b=>b=w.heap.size) (fun _ _ h=>h.elim)).trans gs (fun _ _ h=>h))
 have hs5:=F5.out.size
 have hT5:=(Array.getElem?_eq_some_iff.1 hT).1
 clear gs G5 t0 zt e0 ze
 generalize ((((w3.alloc (.map #[] 0)).alloc (.map #[] 0)).alloc (.cells #[.pointer (some ⟨st,0,none⟩),.nilIface,.int .i64 0,.int .i64 0,.nilIface,.int .i64 0,.int .i64 0,.map (some w3.heap.size),.slice none 0 0,.slice none 0 0,.map (some (w3.heap.size+1))] 139)).setCell ⟨w.heap.size,0,none⟩ (.pointer (some ⟨w3.heap.size+1+1,0,none⟩)))=w5 at *
 have t0:=z2k hbt5 0 rfl
 have zt:=z2i 0 hbt5
 have e0:=z2k hbe5 0 rfl
 have ze:=z2i 0 hbe5
 have F25:=zhd ((F3.out.mono (C2:=fun b=>b=w.heap.size∨b=w.heap.size+1) (fun _ _ h=>.inr h)).trans F5.out (fun _ _ h=>.inl h))
 have hc2e:∀b,(b=w.heap.size∨b=w.heap.size+1)→c2 b=q3:=fun b hb=>by
  rw[ag2 b (by omega)]
  rcases hb with rfl|rfl
  · exact hce
  · exact hce2
 have S5:=zhd (s2.fr F25.out (fun b hb e=>hqr ((hc2e b hb).symm.trans e)) (fun b hb e=>hq0 ((hc2e b hb).symm.trans e)))
 have HR5:Hid (Calls Tryz.prog 84 #[.pointer (some ⟨st,0,none⟩)] w5 fun e w'=>e=.returned (.int .i64 0)∧w5=w'):=zhd (by
  obtain⟨sm,d0,m0,ov0,hs⟩:=S5.out
  exact z50 hs)
 have HTB:=zhd hT
 have HM1:=zhd hM1
 have HM2:=zhd hM2
 have HBE5:=zhd hbe5
 clear hT hM1 hM2 hbt5 hbe5
 go_wp2_with fail
 refine HR5.out.mono ?_
 rintro e w6 ⟨rfl,rfl⟩
 go_wp2_with fail
 have gE:=((Fr.refl (fun b=>b=w.heap.size∨b=w.heap.size+1) w5).setCell (p:=⟨w.heap.size,0,none⟩) (.inr (.inl rfl)) (.pointer (some ⟨w3.heap.size+1+1,0,none⟩))).setCell (p:=⟨w.heap.size+1,0,none⟩) (.inr (.inr rfl)) (.int .i64 0)
 have k0:((w5.setCell ⟨w.heap.size,0,none⟩ (.pointer (some ⟨w3.heap.size+1+1,0,none⟩))).setCell ⟨w.heap.size+1,0,none⟩ (.int .i64 0)).cell? ⟨w.heap.size,0,none⟩=some (.pointer (some ⟨w3.heap.size+1+1,0,none⟩)):=by
  rw[World.cell?_setCell_other (h:=fun e=>by injection e with e1;omega)]
  exact World.cell?_setCell_same _ _ _ t0
 have k1:((w5.setCell ⟨w.heap.size,0,none⟩ (.pointer (some ⟨w3.heap.size+1+1,0,none⟩))).setCell ⟨w.heap.size+1,0,none⟩ (.int .i64 0)).cell? ⟨w.heap.size+1,0,none⟩=some (.int .i64 0):=World.cell?_setCell_same _ _ _ (by
  rw[World.cell?_setCell_other (h:=fun e=>by injection e with e1;omega)]
  exact e0)
 generalize (w5.setCell ⟨w.heap.size,0,none⟩ (.pointer (some ⟨w3.heap.size+1+1,0,none⟩))).setCell ⟨w.heap.size+1,0,none⟩ (.int .i64 0)=w6 at *
 simp[bodyPostD,Leaves,settle,results,Tryz.results59,go_sem,k0,k1]
 obtain⟨c',hc1',hc2',hc3',hag',hcl'⟩:∃c':Nat→Nat,c' w3.heap.size=rm∧c' (w3.heap.size+1)=rm∧c' (w3.heap.size+2)=r∧Ag w2.heap.size c2 c'∧Cl w6 c':=by
  refine⟨fun b=>if b=w3.heap.size∨b=w3.heap.size+1 then rm else if b=w3.heap.size+2 then r else c2 b,by simp,by simp,?_,fun b hb=>?_,fun b hb=>?_⟩
  · simp only[];rw[if_neg (by omega)];simp
  · simp only[];rw[if_neg (by omega),if_neg (by omega)]
  · have:=gE.size
    simp only[];rw[if_neg (by omega),if_neg (by omega)];exact cl2 b (by omega)
 have F26:=F25.out.trans gE (fun _ _ h=>h)
 have hce':∀b,(b=w.heap.size∨b=w.heap.size+1)→c' b=q3:=fun b hb=>(hag' b (by omega)).trans (hc2e b hb)
 have hne:∀b,w3.heap.size≤b→¬(b=w.heap.size∨b=w.heap.size+1):=fun b hb e=>by omega
 have hT6:=gE.blk HTB.out (hne _ (by omega))
 refine⟨((F2.out |> fun f=>F0.out.trans0 f).trans F26 (fun b hb e=>by omega)),c',fun b hb=>(hag' b (by omega)).trans ((ag2 b (by omega)).trans (hag1 b hb)),by omega,st,w3.heap.size,w3.heap.size+1,.nilIface,.nilIface,.slice none 0 0,.slice none 0 0,[],?_⟩
 refine⟨⟨z2k hT6 0 rfl,(s2.ag hag').fr F26 (fun b hb e=>hqr ((hce' b hb).symm.trans e)) (fun b hb e=>hq0 ((hce' b hb).symm.trans e)),⟨hdn,rfl,by show D.blocks=D.blocks-2+2;have:=HB.out.1;omega,by show D.blocks-2≤_;have:=HB.out.2;omega⟩,hc3'⟩,hcl',hT6,World.ownsRow_nil _ _ _ _,fun b e=>by simp[Value.ownBlock] at e,World.ownsRow_nil _ _ _ _,fun b e=>by simp[Value.ownBlock] at e,HM1.out.fr gE (hne _ (Nat.le_refl _)),hc1',HM2.out.fr gE (hne _ (by omega)),hc2',by omega,rfl,rfl,SnapsIn.nil _ _ _ _ _ _ _,zeb hop hok hnum HFO.out⟩
abbrev newD (n:Nat):DSt:=⟨n,[],[],false,0,0,0,0,0⟩
theorem zed:padB []=List.replicate 8192 0:=by
 show[]++List.replicate (8192-0) 0=_
 rw[List.nil_append]
theorem zee (n k:Nat):(newD n).good k=List.replicate 8192 0:=zed
theorem zef (n k:Nat):(newD n).read k=List.replicate 8192 0:=zed
theorem zeg (n:Nat):DOk (newD n):=⟨fun k=>by rw[zee];exact List.length_replicate,fun p hp=>by simp at hp⟩
theorem zeh (n k:Nat):((newD n).read k).length=8192:=by rw[zef];exact List.length_replicate
end
section
set_option maxHeartbeats 2000000
@[go_sem] theorem zei (v : Value) (w : World) : (Instr.typeAssert (.iface 136 v) 20 136 false).run Tryz.prog w = .ok v w := by kernel_rfl
end
section
set_option maxHeartbeats 2000000
def PairsAt (F:Nat→Prop) (w:World) (v:Value) (L:List KV):Prop:=∃xs,Row F w v L.length 3 xs∧PairCells F w xs L
theorem zej {F:Nat→Prop} {w:World} {v:Value} {l:List UInt8} (h:BytesAt F w v l) (hn:l.length≤100000) :
 Calls Tryz.prog 58 #[v] w fun e w'=>∃v',e=.returned v'∧Fr C0 w w'∧w'.ownsRow w.heap.size 5 1 v' l.length (l.map bv):=by
 have HR:=zhd (h.row.mono (F':=fun b=>b<w.heap.size) (fun b _ h=>h))
 obtain⟨A,c,rfl,h1,h2⟩:=h.form
 clear h
 go_enter Tryz.func58,Tryz.ntmps58
 go_wp2_with (at_builtin;go_must (refine z0l z2o rfl _ _ rfl (v:=.slice none 0 0) (xv:=.slice A l.length c) rfl rfl (B:=w.heap.size) (World.ownsRow_nil _ _ _ _) HR.out (z1c l) (by unfold maxLen;omega) (by omega) (by omega) ?_);intro v2 w2 o2 f2 k2 nil2)
 go_ret
 exact⟨v2,rfl,f2.mono (fun b _ h=>by simp[Value.ownBlock] at h),by simpa using o2⟩
theorem str2 {F G:Nat→Prop} {w:World} {u v:Value} {a b:List UInt8} (ha:BytesAt F w u a) (hb:BytesAt G w v b):∃x y:ByteArray,Hid (∀w_,Fr C0 w w_→(convert 40 9 u).run Tryz.prog w_=.ok (.string x) w_)∧Hid (∀w_,Fr C0 w w_→(convert 40 9 v).run Tryz.prog w_=.ok (.string y) w_)∧Hid ((x.toList == y.toList)=decide (a=b)):=
 ⟨_,_,zhd fun w_ hf=>z2y (ha.fr0 hf),zhd fun w_ hf=>z2y (hb.fr0 hf),zhd (by rw[ByteArray.toList_eq,ByteArray.toList_eq];simp[z32])⟩
end
end Go.Proofs.YtidalepbkljkpaaGreat

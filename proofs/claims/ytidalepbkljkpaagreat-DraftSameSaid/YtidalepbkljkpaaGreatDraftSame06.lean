import Derived.Test.YtidalepbkljkpaaGreatDraftSame05
import Derived.Test.YtidalepbkljkpaaGreatDraftSame04
import Derived.Laws.IdiomRangeMap
set_option linter.all false
namespace Go.Proofs.YtidalepbkljkpaaGreat
open Go.RowKit Go.H
set_option maxHeartbeats 1000000
set_option maxRecDepth 100000
section
theorem z37 {F:Nat→Prop} {w:World} {v:Value} {l:Bs} (h:BytesAt F w v l) (hn:l.length≤100000) :
 Calls Tryz.prog 139 #[v] w fun e w'=>e=.returned (.bool (zeroB l))∧Fr C0 w w':=z2b h hn
theorem z38 (R:Nat):((R:Int) != 1)=!decide (R=1):=by
 by_cases h:R=1
 · simp[h]
 · have:¬(R:Int)=1:=by omega
   simp[h,this]
theorem z3a (R:Nat):((R:Int) == 0)=decide (R=0):=by
 by_cases h:R=0
 · simp[h]
 · have:¬(R:Int)=0:=by omega
   simp[h,this]
theorem z3b {w:World} {g blocks:Nat} {b:Bs} (hg:w.heap[g]?=some (.cells (b.map bv).toArray 5 (0,0))) (hb:b.length=8192) (hbl:blocks≤4096) :
 Calls Tryz.prog 111 #[.slice (some ⟨g,0,none⟩) 8192 8192,.int .i64 (blocks:Int)] w fun e w'=>e=.returned (.tuple #[.agg #[.int .u64 ((readHeadF b blocks).1.1:Int),.int .i64 ((readHeadF b blocks).1.2:Int)],.bool (readHeadF b blocks).2])∧Fr C0 w w':=by
 have HG:=zhd hg
 have hall:=z35 hg (by rw[hb];unfold maxLen;omega)
 rw[hb] at hall
 clear hg
 go_enter Tryz.func111,Tryz.ntmps111
 go_wp2_with fail
 refine(z37 (hall.fr0 ((Fr.refl C0 w).alloc _)) (by omega)).mono ?_
 rintro e w1 ⟨rfl,f1⟩
 have hres:w1.heap[w.heap.size]?=some (.cells #[.int .u64 0,.int .i64 0] 170 (0,0)):=f1.blk (heap_alloc_new w _) (fun h=>h)
 have r0:=z1u hres 0 rfl
 have r1:=z1u hres 1 rfl
 have z0:=z1s 0 hres
 have z1:=z1s 1 hres
 cases hz:zeroB b with
 | true =>
   go_wp2
   have h2:=z1t (i:=1) (z1t (i:=0) hres (.int .u64 0)) (.int .i64 0)
   refine z1v rfl rfl h2 Tryz.underlying170 rfl (by kernel_rfl) rfl ?_
   refine⟨by simp[readHeadF,hz],?_⟩
   exact(((Fr.refl C0 w).alloc _).trans0 f1).setCell (.inl (Nat.le_refl _)) _ |>.setCell (.inl (Nat.le_refl _)) _
 | false =>
   have G1:=zhd ((((Fr.refl C0 w).alloc _).trans0 f1).blk HG.out (fun h=>h))
   have s1:=z34 (o:=4) (n:=8) (c:=8188) G1.out (by omega) (by omega) (by unfold maxLen;omega)
   have s2:=z34 (o:=12) (n:=4) (c:=8180) G1.out (by omega) (by omega) (by unfold maxLen;omega)
   have s3:=z34 (o:=0) (n:=20) (c:=8192) G1.out (by omega) (by omega) (by unfold maxLen;omega)
   have s4:=z34 (o:=20) (n:=8172) (c:=8172) G1.out (by omega) (by omega) (by unfold maxLen;omega)
   rw[List.drop_zero] at s3
   rw[List.take_of_length_le (by rw[List.length_drop];omega)] at s4
   have l4:(b.drop 20).length=8172:=by rw[List.length_drop];omega
   have l1:((b.drop 4).take 8).length=8:=by simp[hb]
   have l2:((b.drop 12).take 4).length=4:=by simp[hb]
   have n1:=z15 ((b.drop 4).take 8)
   have n2:=z15 ((b.drop 12).take 4)
   rw[l1] at n1
   rw[l2] at n2
   have S1:=zhd (fun (w_:World) (h:Fr C0 w1 w_)=>z31 (s1.fr0 h) (by omega))
   have S2:=zhd (fun (w_:World) (h:Fr C0 w1 w_)=>z31 (s2.fr0 h) (by omega))
   have S3:=zhd s3
   have S4:=zhd s4
   clear s1 s2 s3 s4
   go_wp2
   refine z1i (Fr C0 w1) [9] (by kernel_rfl) ?_
   have hSw0:(Fr C0 w1) _:=(Fr.refl C0 w1).drew
   refine tk 0 hSw0 ?_
   refine tk 1 hSw0 ?_
   refine tk 3 hSw0 ?_
   refine tk 4 hSw0 ?_
   refine z1g 2 8 rfl rfl (by kernel_rfl) rfl rfl (fun K hK=>?_) (fun K hK=>?_)
   · skip
     go_simp
     refine(S1.out _ (by assumption)).mono ?_
     rintro e w2 ⟨rfl,rfl⟩
     simp only[]
     refine hK.out _ _ ?kS1 (fun hSw1=>?kR1)
     case kS1=>assumption
     clear hK K
     try simp only[Act.put,zs1,zs2,zs3]
     refine z1g 5 8 rfl rfl (by kernel_rfl) rfl rfl (fun K hK=>?_) (fun K hK=>?_)
     · skip
       go_simp
       refine(S2.out _ (by assumption)).mono ?_
       rintro e w2 ⟨rfl,rfl⟩
       simp only[]
       refine hK.out _ _ ?kS2 (fun hSw2=>?kR2)
       case kS2=>assumption
       clear hK K
       try simp only[Act.put,zs1,zs2,zs3]
       refine tk 6 hSw2 ?_
       refine tk 7 hSw2 ?_
       refine one_ 8 rfl (fun K hK=>?_)
       go_simp
       refine hK.out _ _ ?kS3 (fun hSw3=>?kR3)
       case kS3=>exact Fr.alloc (by assumption) _
       clear hK K
       try simp only[Act.put,zs1,zs2,zs3]
       refine z1f 9 rfl (fun K hK=>?_)
       go_simp
       refine hK.out _ _ ?_;clear hK K
       try simp only[Act.put,zs1,zs2,zs3]
       refine z1h (by kernel_rfl) ?_ _
       have hw2:IntKind.i64.wrap (smallN ((b.drop 12).take 4):Int)=(smallN ((b.drop 12).take 4):Int):=by rw[IntWalk.i64_in _ (by omega)]
       rw[hw2]
       generalize hn1:smallN ((b.drop 4).take 8)=N at *
       generalize hn2:smallN ((b.drop 12).take 4)=R at *
       have F2:=((Fr.refl C0 w1).alloc (.cells #[.int .u64 (N:Int),.int .i64 (R:Int)] 170)).drew
       have hblk:(w1.alloc (.cells #[.int .u64 (N:Int),.int .i64 (R:Int)] 170)).drew.heap[w1.heap.size]?=some (.cells #[.int .u64 (N:Int),.int .i64 (R:Int)] 170 (0,0)):=heap_alloc_new w1 _
       have f2h:Fr C0 w1 (w1.alloc (.cells #[.int .u64 (N:Int),.int .i64 (R:Int)] 170)).drew:=F2
       generalize (w1.alloc (.cells #[.int .u64 (N:Int),.int .i64 (R:Int)] 170)).drew=w2 at *
       have HHB:=zhd (fun (w_:World)=>z36 w_ N R (by omega) (by omega))
       have hgl:g<w2.heap.size:=by have:=(Array.getElem?_eq_some_iff.1 G1.out).1;have:=F2.size;omega
       have k0:=z1u hblk 0 rfl
       have k1:=z1u hblk 1 rfl
       go_wp2
       by_cases heq:b.take 20=headB N R
       · have hd:decide (b.take 20=headB N R)=true:=by simp[heq]
         refine z1i (Fr C0 w2) [] (by kernel_rfl) ?_
         have hSw0:(Fr C0 w2) _:=(Fr.refl C0 w2).drew
         refine tk 0 hSw0 ?_
         refine tk 1 hSw0 ?_
         refine tk 2 hSw0 ?_ (hy:=by intro w_ hS_;have j0:=hS_.cell0 k0;have j1:=hS_.cell0 k1;first|(go_simp;done)|(go_simp;with_reducible rfl))
         refine one_ 3 rfl (fun K hK=>?_)
         go_simp
         refine(HHB.out _).mono ?_
         rintro e w3 ⟨v3,rfl,f3,o3⟩
         simp only[]
         refine hK.out _ _ ?kS4 (fun hSw1=>?kR4)
         case kS4=>exact Fr.trans0 (by assumption) f3
         clear hK K
         try simp only[Act.put,zs1,zs2,zs3]
         refine one_ 4 rfl (fun K hK=>?_)
         go_simp
         refine(z29 ((S3.out.fr0 F2).fr0 (show Fr C0 w2 _ by assumption)) (G:=fun _=>True) (b:=headB N R) (z0h.2 (by rw[z32];exact Row.ofOwn o3 (fun _ _=>trivial)))).mono ?_
         rintro e w4 ⟨rfl,rfl⟩
         rw[hd]
         simp only[]
         refine hK.out _ _ ?kS5 (fun hSw2=>?kR5)
         case kS5=>assumption
         clear hK K
         try simp only[Act.put,zs1,zs2,zs3]
         refine tk 5 hSw2 ?_
         refine tk 6 hSw2 ?_
         refine tk 7 hSw2 ?_
         refine one_ 8 rfl (fun K hK=>?_)
         go_simp
         refine(z37 ((S4.out.fr0 F2).fr0 (show Fr C0 w2 _ by assumption)) (by omega)).mono ?_
         rintro e w5 ⟨rfl,f5⟩
         simp only[]
         have F5:Hid (Fr C0 w2 w5):=zhd (Fr.trans0 (by assumption) f5)
         refine hK.out _ _ ?kS6 (fun hSw3=>?kR6)
         case kS6=>exact F5.out
         clear hK K
         try simp only[Act.put,zs1,zs2,zs3]
         refine tk 9 hSw3 ?_
         refine tk 10 hSw3 ?_
         refine z1h (by kernel_rfl) ?_ _
         have hres5:=(f2h.trans0 F5.out).blk hres (fun h=>h)
         have k0:=F5.out.cell0 k0
         have k1:=F5.out.cell0 k1
         have r0:=z1u hres5 0 rfl
         have r1:=z1u hres5 1 rfl
         have z0:=z1s 0 hres5
         have z1:=z1s 1 hres5
         have FW:=zhd ((((Fr.refl C0 w).alloc (.cells #[.int .u64 0,.int .i64 0] 170)).trans0 f1).trans0 (f2h.trans0 F5.out))
         go_wp2
         all_goals
          refine z1v rfl rfl (z1t (i:=1) (z1t (i:=0) hres5 _) _) Tryz.underlying170 rfl (by kernel_rfl) rfl ?_
          refine⟨?_,(FW.out.setCell (.inl (Nat.le_refl _)) _).setCell (.inl (Nat.le_refl _)) _⟩
          simp[readHeadF,hz,headFine,headOf,hn1,hn2,heq, *]
         all_goals first
          |omega
          |(simp only[z38,z3a];done)
          |(simp only[z38,z3a];simp;omega)
       · have hd:decide (b.take 20=headB N R)=false:=by simp[heq]
         refine z1i (Fr C0 w2) [] (by kernel_rfl) ?_
         have hSw0:(Fr C0 w2) _:=(Fr.refl C0 w2).drew
         refine tk 0 hSw0 ?_
         refine tk 1 hSw0 ?_
         refine tk 2 hSw0 ?_ (hy:=by intro w_ hS_;have j0:=hS_.cell0 k0;have j1:=hS_.cell0 k1;first|(go_simp;done)|(go_simp;with_reducible rfl))
         refine one_ 3 rfl (fun K hK=>?_)
         go_simp
         refine(HHB.out _).mono ?_
         rintro e w3 ⟨v3,rfl,f3,o3⟩
         simp only[]
         have F5:Hid (Fr C0 w2 w3):=zhd (Fr.trans0 (by assumption) f3)
         refine hK.out _ _ ?kS7 (fun hSw1=>?kR7)
         case kS7=>exact F5.out
         clear hK K
         try simp only[Act.put,zs1,zs2,zs3]
         refine one_ 4 rfl (fun K hK=>?_)
         go_simp
         refine(z29 ((S3.out.fr0 F2).fr0 F5.out) (G:=fun _=>True) (b:=headB N R) (z0h.2 (by rw[z32];exact Row.ofOwn o3 (fun _ _=>trivial)))).mono ?_
         rintro e w4 ⟨rfl,rfl⟩
         rw[hd]
         simp only[]
         refine hK.out _ _ ?kS8 (fun hSw2=>?kR8)
         case kS8=>assumption
         clear hK K
         try simp only[Act.put,zs1,zs2,zs3]
         refine tk 5 hSw2 ?_
         refine tks 6 rfl hSw2 ?_
         try simp only[Act.put,zs1,zs2,zs3]
         refine tks 7 rfl hSw2 ?_
         try simp only[Act.put,zs1,zs2,zs3]
         refine tks 8 rfl hSw2 ?_
         try simp only[Act.put,zs1,zs2,zs3]
         refine tk 9 hSw2 ?_
         refine tk 10 hSw2 ?_
         refine z1h (by kernel_rfl) ?_ _
         have hres5:=(f2h.trans0 F5.out).blk hres (fun h=>h)
         have k0:=F5.out.cell0 k0
         have k1:=F5.out.cell0 k1
         have r0:=z1u hres5 0 rfl
         have r1:=z1u hres5 1 rfl
         have z0:=z1s 0 hres5
         have z1:=z1s 1 hres5
         have FW:=zhd ((((Fr.refl C0 w).alloc (.cells #[.int .u64 0,.int .i64 0] 170)).trans0 f1).trans0 (f2h.trans0 F5.out))
         go_wp2
         all_goals
          refine z1v rfl rfl (z1t (i:=1) (z1t (i:=0) hres5 _) _) Tryz.underlying170 rfl (by kernel_rfl) rfl ?_
          refine⟨?_,(FW.out.setCell (.inl (Nat.le_refl _)) _).setCell (.inl (Nat.le_refl _)) _⟩
          simp[readHeadF,hz,headFine,headOf,hn1,hn2,heq]
     · skip
       go_simp
       refine hK.out _ _ ?kS9 (fun hSw5=>?kR9)
       case kS9=>exact Fr.alloc (by assumption) _
       clear hK K
       try simp only[Act.put,zs1,zs2,zs3]
       refine one_ 5 rfl (fun K hK=>?_)
       go_simp
       refine(S2.out _ (by assumption)).mono ?_
       rintro e w2 ⟨rfl,rfl⟩
       simp only[]
       refine hK.out _ _ ?kS10 (fun hSw6=>?kR10)
       case kS10=>assumption
       clear hK K
       try simp only[Act.put,zs1,zs2,zs3]
       refine tk 6 hSw6 ?_
       refine tk 7 hSw6 ?_
       refine z1f 9 rfl (fun K hK=>?_)
       go_simp
       refine hK.out _ _ ?_;clear hK K
       try simp only[Act.put,zs1,zs2,zs3]
       refine z1h (by kernel_rfl) ?_ _
       have hw2:IntKind.i64.wrap (smallN ((b.drop 12).take 4):Int)=(smallN ((b.drop 12).take 4):Int):=by rw[IntWalk.i64_in _ (by omega)]
       rw[hw2]
       generalize hn1:smallN ((b.drop 4).take 8)=N at *
       generalize hn2:smallN ((b.drop 12).take 4)=R at *
       have F2:=((Fr.refl C0 w1).alloc (.cells #[.int .u64 (N:Int),.int .i64 (R:Int)] 170)).drew
       have hblk:(w1.alloc (.cells #[.int .u64 (N:Int),.int .i64 (R:Int)] 170)).drew.heap[w1.heap.size]?=some (.cells #[.int .u64 (N:Int),.int .i64 (R:Int)] 170 (0,0)):=heap_alloc_new w1 _
       have f2h:Fr C0 w1 (w1.alloc (.cells #[.int .u64 (N:Int),.int .i64 (R:Int)] 170)).drew:=F2
       generalize (w1.alloc (.cells #[.int .u64 (N:Int),.int .i64 (R:Int)] 170)).drew=w2 at *
       have HHB:=zhd (fun (w_:World)=>z36 w_ N R (by omega) (by omega))
       have hgl:g<w2.heap.size:=by have:=(Array.getElem?_eq_some_iff.1 G1.out).1;have:=F2.size;omega
       have k0:=z1u hblk 0 rfl
       have k1:=z1u hblk 1 rfl
       go_wp2
       by_cases heq:b.take 20=headB N R
       · have hd:decide (b.take 20=headB N R)=true:=by simp[heq]
         refine z1i (Fr C0 w2) [] (by kernel_rfl) ?_
         have hSw0:(Fr C0 w2) _:=(Fr.refl C0 w2).drew
         refine tk 0 hSw0 ?_
         refine tk 1 hSw0 ?_
         refine tk 2 hSw0 ?_ (hy:=by intro w_ hS_;have j0:=hS_.cell0 k0;have j1:=hS_.cell0 k1;first|(go_simp;done)|(go_simp;with_reducible rfl))
         refine one_ 3 rfl (fun K hK=>?_)
         go_simp
         refine(HHB.out _).mono ?_
         rintro e w3 ⟨v3,rfl,f3,o3⟩
         simp only[]
         refine hK.out _ _ ?kS11 (fun hSw1=>?kR11)
         case kS11=>exact Fr.trans0 (by assumption) f3
         clear hK K
         try simp only[Act.put,zs1,zs2,zs3]
         refine one_ 4 rfl (fun K hK=>?_)
         go_simp
         refine(z29 ((S3.out.fr0 F2).fr0 (show Fr C0 w2 _ by assumption)) (G:=fun _=>True) (b:=headB N R) (z0h.2 (by rw[z32];exact Row.ofOwn o3 (fun _ _=>trivial)))).mono ?_
         rintro e w4 ⟨rfl,rfl⟩
         rw[hd]
         simp only[]
         refine hK.out _ _ ?kS12 (fun hSw2=>?kR12)
         case kS12=>assumption
         clear hK K
         try simp only[Act.put,zs1,zs2,zs3]
         refine tk 5 hSw2 ?_
         refine tk 6 hSw2 ?_
         refine tk 7 hSw2 ?_
         refine one_ 8 rfl (fun K hK=>?_)
         go_simp
         refine(z37 ((S4.out.fr0 F2).fr0 (show Fr C0 w2 _ by assumption)) (by omega)).mono ?_
         rintro e w5 ⟨rfl,f5⟩
         simp only[]
         have F5:Hid (Fr C0 w2 w5):=zhd (Fr.trans0 (by assumption) f5)
         refine hK.out _ _ ?kS13 (fun hSw3=>?kR13)
         case kS13=>exact F5.out
         clear hK K
         try simp only[Act.put,zs1,zs2,zs3]
         refine tk 9 hSw3 ?_
         refine tk 10 hSw3 ?_
         refine z1h (by kernel_rfl) ?_ _
         have hres5:=(f2h.trans0 F5.out).blk hres (fun h=>h)
         have k0:=F5.out.cell0 k0
         have k1:=F5.out.cell0 k1
         have r0:=z1u hres5 0 rfl
         have r1:=z1u hres5 1 rfl
         have z0:=z1s 0 hres5
         have z1:=z1s 1 hres5
         have FW:=zhd ((((Fr.refl C0 w).alloc (.cells #[.int .u64 0,.int .i64 0] 170)).trans0 f1).trans0 (f2h.trans0 F5.out))
         go_wp2
         all_goals
          refine z1v rfl rfl (z1t (i:=1) (z1t (i:=0) hres5 _) _) Tryz.underlying170 rfl (by kernel_rfl) rfl ?_
          refine⟨?_,(FW.out.setCell (.inl (Nat.le_refl _)) _).setCell (.inl (Nat.le_refl _)) _⟩
          simp[readHeadF,hz,headFine,headOf,hn1,hn2,heq, *]
         all_goals first
          |omega
          |(simp only[z38,z3a];done)
          |(simp only[z38,z3a];simp;omega)
       · have hd:decide (b.take 20=headB N R)=false:=by simp[heq]
         refine z1i (Fr C0 w2) [] (by kernel_rfl) ?_
         have hSw0:(Fr C0 w2) _:=(Fr.refl C0 w2).drew
         refine tk 0 hSw0 ?_
         refine tk 1 hSw0 ?_
         refine tk 2 hSw0 ?_ (hy:=by intro w_ hS_;have j0:=hS_.cell0 k0;have j1:=hS_.cell0 k1;first|(go_simp;done)|(go_simp;with_reducible rfl))
         refine one_ 3 rfl (fun K hK=>?_)
         go_simp
         refine(HHB.out _).mono ?_
         rintro e w3 ⟨v3,rfl,f3,o3⟩
         simp only[]
         have F5:Hid (Fr C0 w2 w3):=zhd (Fr.trans0 (by assumption) f3)
         refine hK.out _ _ ?kS14 (fun hSw1=>?kR14)
         case kS14=>exact F5.out
         clear hK K
         try simp only[Act.put,zs1,zs2,zs3]
         refine one_ 4 rfl (fun K hK=>?_)
         go_simp
         refine(z29 ((S3.out.fr0 F2).fr0 F5.out) (G:=fun _=>True) (b:=headB N R) (z0h.2 (by rw[z32];exact Row.ofOwn o3 (fun _ _=>trivial)))).mono ?_
         rintro e w4 ⟨rfl,rfl⟩
         rw[hd]
         simp only[]
         refine hK.out _ _ ?kS15 (fun hSw2=>?kR15)
         case kS15=>assumption
         clear hK K
         try simp only[Act.put,zs1,zs2,zs3]
         refine tk 5 hSw2 ?_
         refine tks 6 rfl hSw2 ?_
         try simp only[Act.put,zs1,zs2,zs3]
         refine tks 7 rfl hSw2 ?_
         try simp only[Act.put,zs1,zs2,zs3]
         refine tks 8 rfl hSw2 ?_
         try simp only[Act.put,zs1,zs2,zs3]
         refine tk 9 hSw2 ?_
         refine tk 10 hSw2 ?_
         refine z1h (by kernel_rfl) ?_ _
         have hres5:=(f2h.trans0 F5.out).blk hres (fun h=>h)
         have k0:=F5.out.cell0 k0
         have k1:=F5.out.cell0 k1
         have r0:=z1u hres5 0 rfl
         have r1:=z1u hres5 1 rfl
         have z0:=z1s 0 hres5
         have z1:=z1s 1 hres5
         have FW:=zhd ((((Fr.refl C0 w).alloc (.cells #[.int .u64 0,.int .i64 0] 170)).trans0 f1).trans0 (f2h.trans0 F5.out))
         go_wp2
         all_goals
          refine z1v rfl rfl (z1t (i:=1) (z1t (i:=0) hres5 _) _) Tryz.underlying170 rfl (by kernel_rfl) rfl ?_
          refine⟨?_,(FW.out.setCell (.inl (Nat.le_refl _)) _).setCell (.inl (Nat.le_refl _)) _⟩
          simp[readHeadF,hz,headFine,headOf,hn1,hn2,heq]
   · skip
     go_simp
     refine hK.out _ _ ?kS16 (fun hSw8=>?kR16)
     case kS16=>exact Fr.alloc (by assumption) _
     clear hK K
     try simp only[Act.put,zs1,zs2,zs3]
     refine one_ 2 rfl (fun K hK=>?_)
     go_simp
     refine(S1.out _ (by assumption)).mono ?_
     rintro e w2 ⟨rfl,rfl⟩
     simp only[]
     refine hK.out _ _ ?kS17 (fun hSw9=>?kR17)
     case kS17=>assumption
     clear hK K
     try simp only[Act.put,zs1,zs2,zs3]
     refine one_ 5 rfl (fun K hK=>?_)
     go_simp
     refine(S2.out _ (by assumption)).mono ?_
     rintro e w2 ⟨rfl,rfl⟩
     simp only[]
     refine hK.out _ _ ?kS18 (fun hSw10=>?kR18)
     case kS18=>assumption
     clear hK K
     try simp only[Act.put,zs1,zs2,zs3]
     refine tk 6 hSw10 ?_
     refine tk 7 hSw10 ?_
     refine z1f 9 rfl (fun K hK=>?_)
     go_simp
     refine hK.out _ _ ?_;clear hK K
     try simp only[Act.put,zs1,zs2,zs3]
     refine z1h (by kernel_rfl) ?_ _
     have hw2:IntKind.i64.wrap (smallN ((b.drop 12).take 4):Int)=(smallN ((b.drop 12).take 4):Int):=by rw[IntWalk.i64_in _ (by omega)]
     rw[hw2]
     generalize hn1:smallN ((b.drop 4).take 8)=N at *
     generalize hn2:smallN ((b.drop 12).take 4)=R at *
     have F2:=((Fr.refl C0 w1).alloc (.cells #[.int .u64 (N:Int),.int .i64 (R:Int)] 170)).drew
     have hblk:(w1.alloc (.cells #[.int .u64 (N:Int),.int .i64 (R:Int)] 170)).drew.heap[w1.heap.size]?=some (.cells #[.int .u64 (N:Int),.int .i64 (R:Int)] 170 (0,0)):=heap_alloc_new w1 _
     have f2h:Fr C0 w1 (w1.alloc (.cells #[.int .u64 (N:Int),.int .i64 (R:Int)] 170)).drew:=F2
     generalize (w1.alloc (.cells #[.int .u64 (N:Int),.int .i64 (R:Int)] 170)).drew=w2 at *
     have HHB:=zhd (fun (w_:World)=>z36 w_ N R (by omega) (by omega))
     have hgl:g<w2.heap.size:=by have:=(Array.getElem?_eq_some_iff.1 G1.out).1;have:=F2.size;omega
     have k0:=z1u hblk 0 rfl
     have k1:=z1u hblk 1 rfl
     go_wp2
     by_cases heq:b.take 20=headB N R
     · have hd:decide (b.take 20=headB N R)=true:=by simp[heq]
       refine z1i (Fr C0 w2) [] (by kernel_rfl) ?_
       have hSw0:(Fr C0 w2) _:=(Fr.refl C0 w2).drew
       refine tk 0 hSw0 ?_
       refine tk 1 hSw0 ?_
       refine tk 2 hSw0 ?_ (hy:=by intro w_ hS_;have j0:=hS_.cell0 k0;have j1:=hS_.cell0 k1;first|(go_simp;done)|(go_simp;with_reducible rfl))
       refine one_ 3 rfl (fun K hK=>?_)
       go_simp
       refine(HHB.out _).mono ?_
       rintro e w3 ⟨v3,rfl,f3,o3⟩
       simp only[]
       refine hK.out _ _ ?kS19 (fun hSw1=>?kR19)
       case kS19=>exact Fr.trans0 (by assumption) f3
       clear hK K
       try simp only[Act.put,zs1,zs2,zs3]
       refine one_ 4 rfl (fun K hK=>?_)
       go_simp
       refine(z29 ((S3.out.fr0 F2).fr0 (show Fr C0 w2 _ by assumption)) (G:=fun _=>True) (b:=headB N R) (z0h.2 (by rw[z32];exact Row.ofOwn o3 (fun _ _=>trivial)))).mono ?_
       rintro e w4 ⟨rfl,rfl⟩
       rw[hd]
       simp only[]
       refine hK.out _ _ ?kS20 (fun hSw2=>?kR20)
       case kS20=>assumption
       clear hK K
       try simp only[Act.put,zs1,zs2,zs3]
       refine tk 5 hSw2 ?_
       refine tk 6 hSw2 ?_
       refine tk 7 hSw2 ?_
       refine one_ 8 rfl (fun K hK=>?_)
       go_simp
       refine(z37 ((S4.out.fr0 F2).fr0 (show Fr C0 w2 _ by assumption)) (by omega)).mono ?_
       rintro e w5 ⟨rfl,f5⟩
       simp only[]
       have F5:Hid (Fr C0 w2 w5):=zhd (Fr.trans0 (by assumption) f5)
       refine hK.out _ _ ?kS21 (fun hSw3=>?kR21)
       case kS21=>exact F5.out
       clear hK K
       try simp only[Act.put,zs1,zs2,zs3]
       refine tk 9 hSw3 ?_
       refine tk 10 hSw3 ?_
       refine z1h (by kernel_rfl) ?_ _
       have hres5:=(f2h.trans0 F5.out).blk hres (fun h=>h)
       have k0:=F5.out.cell0 k0
       have k1:=F5.out.cell0 k1
       have r0:=z1u hres5 0 rfl
       have r1:=z1u hres5 1 rfl
       have z0:=z1s 0 hres5
       have z1:=z1s 1 hres5
       have FW:=zhd ((((Fr.refl C0 w).alloc (.cells #[.int .u64 0,.int .i64 0] 170)).trans0 f1).trans0 (f2h.trans0 F5.out))
       go_wp2
       all_goals
        refine z1v rfl rfl (z1t (i:=1) (z1t (i:=0) hres5 _) _) Tryz.underlying170 rfl (by kernel_rfl) rfl ?_
        refine⟨?_,(FW.out.setCell (.inl (Nat.le_refl _)) _).setCell (.inl (Nat.le_refl _)) _⟩
        simp[readHeadF,hz,headFine,headOf,hn1,hn2,heq, *]
       all_goals first
        |omega
        |(simp only[z38,z3a];done)
        |(simp only[z38,z3a];simp;omega)
     · have hd:decide (b.take 20=headB N R)=false:=by simp[heq]
       refine z1i (Fr C0 w2) [] (by kernel_rfl) ?_
       have hSw0:(Fr C0 w2) _:=(Fr.refl C0 w2).drew
       refine tk 0 hSw0 ?_
       refine tk 1 hSw0 ?_
       refine tk 2 hSw0 ?_ (hy:=by intro w_ hS_;have j0:=hS_.cell0 k0;have j1:=hS_.cell0 k1;first|(go_simp;done)|(go_simp;with_reducible rfl))
       refine one_ 3 rfl (fun K hK=>?_)
       go_simp
       refine(HHB.out _).mono ?_
       rintro e w3 ⟨v3,rfl,f3,o3⟩
       simp only[]
       have F5:Hid (Fr C0 w2 w3):=zhd (Fr.trans0 (by assumption) f3)
       refine hK.out _ _ ?kS22 (fun hSw1=>?kR22)
       case kS22=>exact F5.out
       clear hK K
       try simp only[Act.put,zs1,zs2,zs3]
       refine one_ 4 rfl (fun K hK=>?_)
       go_simp
       refine(z29 ((S3.out.fr0 F2).fr0 F5.out) (G:=fun _=>True) (b:=headB N R) (z0h.2 (by rw[z32];exact Row.ofOwn o3 (fun _ _=>trivial)))).mono ?_
       rintro e w4 ⟨rfl,rfl⟩
       rw[hd]
       simp only[]
       refine hK.out _ _ ?kS23 (fun hSw2=>?kR23)
       case kS23=>assumption
       clear hK K
       try simp only[Act.put,zs1,zs2,zs3]
       refine tk 5 hSw2 ?_
       refine tks 6 rfl hSw2 ?_
       try simp only[Act.put,zs1,zs2,zs3]
       refine tks 7 rfl hSw2 ?_
       try simp only[Act.put,zs1,zs2,zs3]
       refine tks 8 rfl hSw2 ?_
       try simp only[Act.put,zs1,zs2,zs3]
       refine tk 9 hSw2 ?_
       refine tk 10 hSw2 ?_
       refine z1h (by kernel_rfl) ?_ _
       have hres5:=(f2h.trans0 F5.out).blk hres (fun h=>h)
       have k0:=F5.out.cell0 k0
       have k1:=F5.out.cell0 k1
       have r0:=z1u hres5 0 rfl
       have r1:=z1u hres5 1 rfl
       have z0:=z1s 0 hres5
       have z1:=z1s 1 hres5
       have FW:=zhd ((((Fr.refl C0 w).alloc (.cells #[.int .u64 0,.int .i64 0] 170)).trans0 f1).trans0 (f2h.trans0 F5.out))
       go_wp2
       all_goals
        refine z1v rfl rfl (z1t (i:=1) (z1t (i:=0) hres5 _) _) Tryz.underlying170 rfl (by kernel_rfl) rfl ?_
        refine⟨?_,(FW.out.setCell (.inl (Nat.le_refl _)) _).setCell (.inl (Nat.le_refl _)) _⟩
        simp[readHeadF,hz,headFine,headOf,hn1,hn2,heq]
end
section
structure SSt where
 pages:Nat
 state:List (Int×Int)
 life:Int
 num:Nat
 root:Nat
 dk:Nat
def vmap (L:List (Int×Int)):List (Int×Value):=L.map fun p=>(p.1,.int .i64 p.2)
def SSt.at_ (S:SSt) (k:Nat):Int:=(aget (k:Int) S.state).getD 0
structure StoreIn (c:Nat→Nat) (r:Nat) (w:World) (st sm d m:Nat) (ov:Value) (S:SSt) (D:DSt):Prop where
 blk:w.heap[st]?=some (.cells #[.int .i64 S.pages,.map (some sm),.pointer (some ⟨d,0,none⟩),.int .i64 S.life,.int .u64 S.num,.int .i64 S.root] 172 (0,0))
 map:MapIs w sm (vmap S.state)
 disk:DiskA (Dt c) w d m ov D
 ost:c st=r
 osm:c sm=r
 od:c d=r
 om:c m=r
 oov:∀b,ov.ownBlock=some b→c b=r
 ne:sm≠m
 dk:d=S.dk
def StoreOk (c:Nat→Nat) (r:Nat) (w:World) (st:Nat) (S:SSt) (D:DSt):Prop:=∃sm d m ov,StoreIn c r w st sm d m ov S D
namespace StoreIn
variable {c : Nat → Nat} {r : Nat} {w : World} {st sm d m : Nat} {ov : Value} {S : SSt} {D : DSt}
theorem fr {C:Nat→Prop} {w':World} (h:StoreIn c r w st sm d m ov S D) (hf:Fr C w w') (h1:∀b,C b→c b≠r) (h2:∀b,C b→c b≠0):StoreIn c r w' st sm d m ov S D:=
 ⟨hf.blk h.blk (fun k=>h1 _ k h.ost),h.map.fr hf (fun k=>h1 _ k h.osm),h.disk.fr hf (fun k=>h1 _ k h.od) (fun k=>h1 _ k h.om) (fun b hb k=>h1 _ k (h.oov b hb)) (fun b hb k=>h2 _ k hb),h.ost,h.osm,h.od,h.om,h.oov,h.ne,h.dk⟩
theorem fr0 {w':World} (h:StoreIn c r w st sm d m ov S D) (hf:Fr C0 w w'):StoreIn c r w' st sm d m ov S D:=h.fr hf (fun _ k=>k.elim) (fun _ k=>k.elim)
end StoreIn
theorem z3c {c:Nat→Nat} {r:Nat} {w:World} {st sm d m:Nat} {ov:Value} {S:SSt} {D:DSt} (h:StoreIn c r w st sm d m ov S D) :
 Calls Tryz.prog 74 #[.pointer (some ⟨st,0,none⟩)] w fun e w'=>e=.returned (.bool (D.down || decide (D.life≠S.life)))∧w'=w.drew:=by
 have c2:=z1u h.blk 2 rfl
 have c3:=z1u h.blk 3 rfl
 have HD:=zhd (fun (w_:World) (hf:Fr C0 w w_)=>z2g (h.disk.fr0 hf))
 have HL:=zhd (fun (w_:World) (hf:Fr C0 w w_)=>z2h (h.disk.fr0 hf))
 clear h
 go_enter Tryz.func74,Tryz.ntmps74
 go_wp2
 cases hd:D.down with
 | true =>
   rw[hd] at HD
   refine z1i (Fr C0 w) [] (by kernel_rfl) ?_
   have hSw0:(Fr C0 w) _:=(Fr.refl C0 w).drew
   refine tk 0 hSw0 ?_
   refine tk 1 hSw0 ?_
   refine tk 2 hSw0 ?_
   refine tk 3 hSw0 ?_ (hy:=by intro w_ hS_;have b2:=hS_.cell0 c2;first|(go_simp;done)|(go_simp;with_reducible rfl))
   refine one_ 4 rfl (fun K hK=>?_)
   go_simp
   refine(HD.out _ (by assumption)).mono ?_
   rintro e w2 ⟨rfl,rfl⟩
   simp only[]
   refine hK.out _ _ ?kS1 (fun hSw1=>?kR1)
   case kS1=>assumption
   clear hK K
   try simp only[Act.put,zs1,zs2,zs3]
   refine tk 5 hSw1 ?_
   refine tks 6 rfl hSw1 ?_
   try simp only[Act.put,zs1,zs2,zs3]
   refine tks 7 rfl hSw1 ?_
   try simp only[Act.put,zs1,zs2,zs3]
   refine tks 8 rfl hSw1 ?_
   try simp only[Act.put,zs1,zs2,zs3]
   refine tks 9 rfl hSw1 ?_
   try simp only[Act.put,zs1,zs2,zs3]
   refine tks 10 rfl hSw1 ?_
   try simp only[Act.put,zs1,zs2,zs3]
   refine tks 11 rfl hSw1 ?_
   try simp only[Act.put,zs1,zs2,zs3]
   refine tks 12 rfl hSw1 ?_
   try simp only[Act.put,zs1,zs2,zs3]
   refine tks 13 rfl hSw1 ?_
   try simp only[Act.put,zs1,zs2,zs3]
   refine tks 14 rfl hSw1 ?_
   try simp only[Act.put,zs1,zs2,zs3]
   refine tks 15 rfl hSw1 ?_
   try simp only[Act.put,zs1,zs2,zs3]
   refine tk 16 hSw1 ?_
   refine tk 17 hSw1 ?_
   refine z1h (by kernel_rfl) ?_ _
   go_wp2
   go_ret
   exact⟨by simp[hd],rfl⟩
 | false =>
   rw[hd] at HD
   refine z1i (Fr C0 w) [] (by kernel_rfl) ?_
   have hSw0:(Fr C0 w) _:=(Fr.refl C0 w).drew
   refine tk 0 hSw0 ?_
   refine tk 1 hSw0 ?_
   refine tk 2 hSw0 ?_
   refine tk 3 hSw0 ?_ (hy:=by intro w_ hS_;have b2:=hS_.cell0 c2;have b3:=hS_.cell0 c3;first|(go_simp;done)|(go_simp;with_reducible rfl))
   refine one_ 4 rfl (fun K hK=>?_)
   go_simp
   refine(HD.out _ (by assumption)).mono ?_
   rintro e w2 ⟨rfl,rfl⟩
   simp only[]
   refine hK.out _ _ ?kS2 (fun hSw1=>?kR2)
   case kS2=>assumption
   clear hK K
   try simp only[Act.put,zs1,zs2,zs3]
   refine tk 5 hSw1 ?_
   refine tk 6 hSw1 ?_
   refine tk 7 hSw1 ?_
   refine tk 8 hSw1 ?_
   refine tk 9 hSw1 ?_ (hy:=by intro w_ hS_;have b2:=hS_.cell0 c2;have b3:=hS_.cell0 c3;first|(go_simp;done)|(go_simp;with_reducible rfl))
   refine tk 11 hSw1 ?_
   refine tk 12 hSw1 ?_
   refine tk 13 hSw1 ?_
   refine tk 14 hSw1 ?_ (hy:=by intro w_ hS_;have b2:=hS_.cell0 c2;have b3:=hS_.cell0 c3;first|(go_simp;done)|(go_simp;with_reducible rfl))
   refine one_ 10 rfl (fun K hK=>?_)
   go_simp
   refine(HL.out _ (by assumption)).mono ?_
   rintro e w2 ⟨rfl,rfl⟩
   simp only[]
   refine hK.out _ _ ?kS3 (fun hSw2=>?kR3)
   case kS3=>assumption
   clear hK K
   try simp only[Act.put,zs1,zs2,zs3]
   refine tk 15 hSw2 ?_
   refine tk 16 hSw2 ?_
   refine tk 17 hSw2 ?_
   refine z1h (by kernel_rfl) ?_ _
   go_wp2
   go_ret
   refine⟨?_,rfl⟩
   simp[hd,bne,z28]
theorem z3d {c:Nat→Nat} {r:Nat} {w:World} {st sm d m:Nat} {ov:Value} {S:SSt} {D:DSt} (h:StoreIn c r w st sm d m ov S D) :
 Calls Tryz.prog 84 #[.pointer (some ⟨st,0,none⟩)] w fun e w'=>e=.returned (.int .i64 S.root)∧w=w':=by
 have c5:=z1u h.blk 5 rfl
 clear h
 go_enter Tryz.func84,Tryz.ntmps84
 go_wp2
 go_ret
 exact⟨rfl,rfl⟩
theorem z3e {c:Nat→Nat} {r:Nat} {w:World} {st sm d m:Nat} {ov:Value} {S:SSt} {D:DSt} (h:StoreIn c r w st sm d m ov S D) (hp:S.pages≤5000) (k:Nat) :
 Calls Tryz.prog 116 #[.pointer (some ⟨st,0,none⟩),.int .i64 (k:Int)] w fun e w'=>e=.returned (.bool (decide (2≤k) && decide (k<2+S.pages)))∧w=w':=by
 have c0:=z1u h.blk 0 rfl
 clear h
 go_enter Tryz.func116,Tryz.ntmps116
 go_wp2
 all_goals
  go_ret
  refine⟨?_,rfl⟩
  show Ending.returned (Value.bool _)=Ending.returned (Value.bool _)
  congr 2
  rw[Bool.eq_iff_iff]
  simp
  omega
def SSt.freeFrom (S:SSt) (k:Nat):Nat→Nat
 |0=>0
 |n+1=>if S.at_ k=0 then k else S.freeFrom (k+1) n
def SSt.first (S:SSt):Nat:=S.freeFrom 2 S.pages
end
section
structure Alive (S:SSt) (D:DSt):Prop where
 down:D.down=false
 life:D.life=S.life
 size:D.blocks=S.pages+2
 small:S.pages≤5000
theorem Alive.dead {S:SSt} {D:DSt} (h:Alive S D):(D.down || decide (D.life≠S.life))=false:=by simp[h.down,h.life]
def SSt.set (S:SSt) (k:Nat) (v:Int):SSt:={ S with state:=aset (k:Int) v S.state }
def Fell (c:Nat→Nat) (r:Nat) (w w':World) (dk:Nat) (D:DSt) (Q:DSt→Prop):Prop:=
 ¬D.after<1∧∃c' m D',Ag w.heap.size c c'∧Cl w' c'∧DiskA (Dt c') w' dk m (.slice none 0 0) D'∧c' dk=r∧c' m=r∧dk≠m∧D'.down=true∧D'.opn=[]∧D'.after<1∧D'.blocks=D.blocks∧Q D'
def CutQ (D:DSt) (D':DSt):Prop:=∃f,(∀i n,f i=some n→n≤8192)∧D'=cutF D f
def PutR (c:Nat→Nat) (r:Nat) (w:World) (st:Nat) (S:SSt) (D:DSt) (l:Bs) (i err:Int) (w':World):Prop:=Fr (fun b=>c b=r) w w'∧((err=0∧i=(S.first:Int)∧∃c',Ag w.heap.size c c'∧Cl w' c'∧StoreOk c' r w' st (S.set S.first 1) (D.tick.write S.first (pageB l)))∨(err=20∧i=0∧Fell c r w w' S.dk D (CutQ D)))
end
section
end
section
def leftIn (w:World) (sm r:Nat):Nat:=match w.heap[sm]? with
 |some (.map es _)=>(leftOf es (w.iterSeen r)).size
 |_=>0
theorem z3f {es es2:Array MapEntry} {seen:Array Nat} {e:MapEntry} (hsub:es2.toList.Sublist es.toList) (he:e∈es.toList) (hns:seen.contains e.born=false):(leftOf es2 (seen.push e.born)).size<(leftOf es seen).size:=by
 have h1:∀(a:Array MapEntry) (s:Array Nat),(leftOf a s).size=(a.toList.filter fun e=>!s.contains e.born).length:=fun a s=>by
  unfold leftOf;rw[←Array.length_toList,Array.toList_filter]
 rw[h1,h1]
 refine Nat.lt_of_le_of_lt ((hsub.filter _).length_le) (filter_lt _ _ ?_ e (by simpa using hns) (by simp) _ he)
 intro x hx
 simp at hx⊢
 exact hx.1
theorem z3g {es:Array MapEntry} (hn:(es.toList.map (·.born)).Nodup) {x e:MapEntry} (hx:x∈es.toList) (he:e∈es.toList) (h:x.born=e.born):x=e:=by
 have h1:=find_born x es.toList hn hx
 have h2:=find_born e es.toList hn he
 rw[h] at h1
 rw[h1] at h2
 exact Option.some.inj h2
end
end Go.Proofs.YtidalepbkljkpaaGreat

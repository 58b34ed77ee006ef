import Derived.Test.YtidalepbkljkpaaGreatLocalSpaces07
set_option linter.all false
namespace Go.Proofs.YtidalepbkljkpaaGreat
open Go.RowKit Go.H
set_option maxHeartbeats 1000000
set_option maxRecDepth 100000
section
theorem z4r {F:Nat→Prop} {w:World} {v:Value} {l:Bs} (h:BytesAt F w v l) (hn:l.length≤100000) :
 Calls Tryz.prog 139 #[v] w fun e w'=>e=.returned (.bool (zeroB l))∧Fr C0 w w':=z36 h hn
theorem z4s (R:Nat):((R:Int) != 1)=!decide (R=1):=by
 by_cases h:R=1
 · simp[h]
 · have:¬(R:Int)=1:=by omega
   simp[h,this]
theorem z4t (R:Nat):((R:Int) == 0)=decide (R=0):=by
 by_cases h:R=0
 · simp[h]
 · have:¬(R:Int)=0:=by omega
   simp[h,this]
theorem z4u {w:World} {g blocks:Nat} {b:Bs} (hg:w.heap[g]?=some (.cells (b.map bv).toArray 5 (0,0))) (hb:b.length=8192) (hbl:blocks≤4096) :
 Calls Tryz.prog 111 #[.slice (some ⟨g,0,none⟩) 8192 8192,.int .i64 (blocks:Int)] w fun e w'=>e=.returned (.tuple #[.agg #[.int .u64 ((readHeadF b blocks).1.1:Int),.int .i64 ((readHeadF b blocks).1.2:Int)],.bool (readHeadF b blocks).2])∧Fr C0 w w':=by
 have HG:=zhd hg
 have hall:=z4n hg (by rw[hb];unfold maxLen;omega)
 rw[hb] at hall
 clear hg
 go_enter Tryz.func111,Tryz.ntmps111
 go_wp2_with fail
 refine(z4r (hall.fr0 ((Fr.refl C0 w).alloc _)) (by omega)).mono ?_
 rintro e w1 ⟨rfl,f1⟩
 have hres:w1.heap[w.heap.size]?=some (.cells #[.int .u64 0,.int .i64 0] 170 (0,0)):=f1.blk (heap_alloc_new w _) (fun h=>h)
 have r0:=z2k hres 0 rfl
 have r1:=z2k hres 1 rfl
 have z0:=z2i 0 hres
 have z1:=z2i 1 hres
 cases hz:zeroB b with
 | true =>
   go_wp2
   have h2:=z2j (i:=1) (z2j (i:=0) hres (.int .u64 0)) (.int .i64 0)
   refine z2l rfl rfl h2 Tryz.underlying170 rfl (by kernel_rfl) rfl ?_
   refine⟨by simp[readHeadF,hz],?_⟩
   exact(((Fr.refl C0 w).alloc _).trans0 f1).setCell (.inl (Nat.le_refl _)) _ |>.setCell (.inl (Nat.le_refl _)) _
 | false =>
   have G1:=zhd ((((Fr.refl C0 w).alloc _).trans0 f1).blk HG.out (fun h=>h))
   have s1:=z4m (o:=4) (n:=8) (c:=8188) G1.out (by omega) (by omega) (by unfold maxLen;omega)
   have s2:=z4m (o:=12) (n:=4) (c:=8180) G1.out (by omega) (by omega) (by unfold maxLen;omega)
   have s3:=z4m (o:=0) (n:=20) (c:=8192) G1.out (by omega) (by omega) (by unfold maxLen;omega)
   have s4:=z4m (o:=20) (n:=8172) (c:=8172) G1.out (by omega) (by omega) (by unfold maxLen;omega)
   rw[List.drop_zero] at s3
   rw[List.take_of_length_le (by rw[List.length_drop];omega)] at s4
   have l4:(b.drop 20).length=8172:=by rw[List.length_drop];omega
   have l1:((b.drop 4).take 8).length=8:=by simp[hb]
   have l2:((b.drop 12).take 4).length=4:=by simp[hb]
   have n1:=z1k ((b.drop 4).take 8)
   have n2:=z1k ((b.drop 12).take 4)
   rw[l1] at n1
   rw[l2] at n2
   have S1:=zhd (fun (w_:World) (h:Fr C0 w1 w_)=>z4c (s1.fr0 h) (by omega))
   have S2:=zhd (fun (w_:World) (h:Fr C0 w1 w_)=>z4c (s2.fr0 h) (by omega))
   have S3:=zhd s3
   have S4:=zhd s4
   clear s1 s2 s3 s4
   go_wp2
   refine z1z (Fr C0 w1) [9] (by kernel_rfl) ?_
   have hSw0:(Fr C0 w1) _:=(Fr.refl C0 w1).drew
   refine tk 0 hSw0 ?_
   refine tk 1 hSw0 ?_
   refine tk 3 hSw0 ?_
   refine tk 4 hSw0 ?_
   refine z1x 2 8 rfl rfl (by kernel_rfl) rfl rfl (fun K hK=>?_) (fun K hK=>?_)
   · skip
     go_simp
     refine(S1.out _ (by assumption)).mono ?_
     rintro e w2 ⟨rfl,rfl⟩
     simp only[]
     refine hK.out _ _ ?kS1 (fun hSw1=>?kR1)
     case kS1=>assumption
     clear hK K
     try simp only[Act.put,zs1,zs2,zs3]
     refine z1x 5 8 rfl rfl (by kernel_rfl) rfl rfl (fun K hK=>?_) (fun K hK=>?_)
     · skip
       go_simp
       refine(S2.out _ (by assumption)).mono ?_
       rintro e w2 ⟨rfl,rfl⟩
       simp only[]
       refine hK.out _ _ ?kS2 (fun hSw2=>?kR2)
       case kS2=>assumption
       clear hK K
       try simp only[Act.put,zs1,zs2,zs3]
       refine tk 6 hSw2 ?_
       refine tk 7 hSw2 ?_
       refine one_ 8 rfl (fun K hK=>?_)
       go_simp
       refine hK.out _ _ ?kS3 (fun hSw3=>?kR3)
       case kS3=>exact Fr.alloc (by assumption) _
       clear hK K
       try simp only[Act.put,zs1,zs2,zs3]
       refine z1v 9 rfl (fun K hK=>?_)
       go_simp
       refine hK.out _ _ ?_;clear hK K
       try simp only[Act.put,zs1,zs2,zs3]
       refine z1y (by kernel_rfl) ?_ _
       have hw2:IntKind.i64.wrap (smallN ((b.drop 12).take 4):Int)=(smallN ((b.drop 12).take 4):Int):=by rw[IntWalk.i64_in _ (by omega)]
       rw[hw2]
       generalize hn1:smallN ((b.drop 4).take 8)=N at *
       generalize hn2:smallN ((b.drop 12).take 4)=R at *
       have F2:=((Fr.refl C0 w1).alloc (.cells #[.int .u64 (N:Int),.int .i64 (R:Int)] 170)).drew
       have hblk:(w1.alloc (.cells #[.int .u64 (N:Int),.int .i64 (R:Int)] 170)).drew.heap[w1.heap.size]?=some (.cells #[.int .u64 (N:Int),.int .i64 (R:Int)] 170 (0,0)):=heap_alloc_new w1 _
       have f2h:Fr C0 w1 (w1.alloc (.cells #[.int .u64 (N:Int),.int .i64 (R:Int)] 170)).drew:=F2
       generalize (w1.alloc (.cells #[.int .u64 (N:Int),.int .i64 (R:Int)] 170)).drew=w2 at *
       have HHB:=zhd (fun (w_:World)=>z4q w_ N R (by omega) (by omega))
       have hgl:g<w2.heap.size:=by have:=(Array.getElem?_eq_some_iff.1 G1.out).1;have:=F2.size;omega
       have k0:=z2k hblk 0 rfl
       have k1:=z2k hblk 1 rfl
       go_wp2
       by_cases heq:b.take 20=headB N R
       · have hd:decide (b.take 20=headB N R)=true:=by simp[heq]
         refine z1z (Fr C0 w2) [] (by kernel_rfl) ?_
         have hSw0:(Fr C0 w2) _:=(Fr.refl C0 w2).drew
         refine tk 0 hSw0 ?_
         refine tk 1 hSw0 ?_
         refine tk 2 hSw0 ?_ (hy:=by intro w_ hS_;have j0:=hS_.cell0 k0;have j1:=hS_.cell0 k1;first|(go_simp;done)|(go_simp;with_reducible rfl))
         refine one_ 3 rfl (fun K hK=>?_)
         go_simp
         refine(HHB.out _).mono ?_
         rintro e w3 ⟨v3,rfl,f3,o3⟩
         simp only[]
         refine hK.out _ _ ?kS4 (fun hSw1=>?kR4)
         case kS4=>exact Fr.trans0 (by assumption) f3
         clear hK K
         try simp only[Act.put,zs1,zs2,zs3]
         refine one_ 4 rfl (fun K hK=>?_)
         go_simp
         refine(z33 ((S3.out.fr0 F2).fr0 (show Fr C0 w2 _ by assumption)) (G:=fun _=>True) (b:=headB N R) (z0i.2 (by rw[z4k];exact Row.ofOwn o3 (fun _ _=>trivial)))).mono ?_
         rintro e w4 ⟨rfl,rfl⟩
         rw[hd]
         simp only[]
         refine hK.out _ _ ?kS5 (fun hSw2=>?kR5)
         case kS5=>assumption
         clear hK K
         try simp only[Act.put,zs1,zs2,zs3]
         refine tk 5 hSw2 ?_
         refine tk 6 hSw2 ?_
         refine tk 7 hSw2 ?_
         refine one_ 8 rfl (fun K hK=>?_)
         go_simp
         refine(z4r ((S4.out.fr0 F2).fr0 (show Fr C0 w2 _ by assumption)) (by omega)).mono ?_
         rintro e w5 ⟨rfl,f5⟩
         simp only[]
         have F5:Hid (Fr C0 w2 w5):=zhd (Fr.trans0 (by assumption) f5)
         refine hK.out _ _ ?kS6 (fun hSw3=>?kR6)
         case kS6=>exact F5.out
         clear hK K
         try simp only[Act.put,zs1,zs2,zs3]
         refine tk 9 hSw3 ?_
         refine tk 10 hSw3 ?_
         refine z1y (by kernel_rfl) ?_ _
         have hres5:=(f2h.trans0 F5.out).blk hres (fun h=>h)
         have k0:=F5.out.cell0 k0
         have k1:=F5.out.cell0 k1
         have r0:=z2k hres5 0 rfl
         have r1:=z2k hres5 1 rfl
         have z0:=z2i 0 hres5
         have z1:=z2i 1 hres5
         have FW:=zhd ((((Fr.refl C0 w).alloc (.cells #[.int .u64 0,.int .i64 0] 170)).trans0 f1).trans0 (f2h.trans0 F5.out))
         go_wp2
         all_goals
          refine z2l rfl rfl (z2j (i:=1) (z2j (i:=0) hres5 _) _) Tryz.underlying170 rfl (by kernel_rfl) rfl ?_
          refine⟨?_,(FW.out.setCell (.inl (Nat.le_refl _)) _).setCell (.inl (Nat.le_refl _)) _⟩
          simp[readHeadF,hz,headFine,headOf,hn1,hn2,heq, *]
         all_goals first
          |omega
          |(simp only[z4s,z4t];done)
          |(simp only[z4s,z4t];simp;omega)
       · have hd:decide (b.take 20=headB N R)=false:=by simp[heq]
         refine z1z (Fr C0 w2) [] (by kernel_rfl) ?_
         have hSw0:(Fr C0 w2) _:=(Fr.refl C0 w2).drew
         refine tk 0 hSw0 ?_
         refine tk 1 hSw0 ?_
         refine tk 2 hSw0 ?_ (hy:=by intro w_ hS_;have j0:=hS_.cell0 k0;have j1:=hS_.cell0 k1;first|(go_simp;done)|(go_simp;with_reducible rfl))
         refine one_ 3 rfl (fun K hK=>?_)
         go_simp
         refine(HHB.out _).mono ?_
         rintro e w3 ⟨v3,rfl,f3,o3⟩
         simp only[]
         have F5:Hid (Fr C0 w2 w3):=zhd (Fr.trans0 (by assumption) f3)
         refine hK.out _ _ ?kS7 (fun hSw1=>?kR7)
         case kS7=>exact F5.out
         clear hK K
         try simp only[Act.put,zs1,zs2,zs3]
         refine one_ 4 rfl (fun K hK=>?_)
         go_simp
         refine(z33 ((S3.out.fr0 F2).fr0 F5.out) (G:=fun _=>True) (b:=headB N R) (z0i.2 (by rw[z4k];exact Row.ofOwn o3 (fun _ _=>trivial)))).mono ?_
         rintro e w4 ⟨rfl,rfl⟩
         rw[hd]
         simp only[]
         refine hK.out _ _ ?kS8 (fun hSw2=>?kR8)
         case kS8=>assumption
         clear hK K
         try simp only[Act.put,zs1,zs2,zs3]
         refine tk 5 hSw2 ?_
         refine tks 6 rfl hSw2 ?_
         try simp only[Act.put,zs1,zs2,zs3]
         refine tks 7 rfl hSw2 ?_
         try simp only[Act.put,zs1,zs2,zs3]
         refine tks 8 rfl hSw2 ?_
         try simp only[Act.put,zs1,zs2,zs3]
         refine tk 9 hSw2 ?_
         refine tk 10 hSw2 ?_
         refine z1y (by kernel_rfl) ?_ _
         have hres5:=(f2h.trans0 F5.out).blk hres (fun h=>h)
         have k0:=F5.out.cell0 k0
         have k1:=F5.out.cell0 k1
         have r0:=z2k hres5 0 rfl
         have r1:=z2k hres5 1 rfl
         have z0:=z2i 0 hres5
         have z1:=z2i 1 hres5
         have FW:=zhd ((((Fr.refl C0 w).alloc (.cells #[.int .u64 0,.int .i64 0] 170)).trans0 f1).trans0 (f2h.trans0 F5.out))
         go_wp2
         all_goals
          refine z2l rfl rfl (z2j (i:=1) (z2j (i:=0) hres5 _) _) Tryz.underlying170 rfl (by kernel_rfl) rfl ?_
          refine⟨?_,(FW.out.setCell (.inl (Nat.le_refl _)) _).setCell (.inl (Nat.le_refl _)) _⟩
          simp[readHeadF,hz,headFine,headOf,hn1,hn2,heq]
     · skip
       go_simp
       refine hK.out _ _ ?kS9 (fun hSw5=>?kR9)
       case kS9=>exact Fr.alloc (by assumption) _
       clear hK K
       try simp only[Act.put,zs1,zs2,zs3]
       refine one_ 5 rfl (fun K hK=>?_)
       go_simp
       refine(S2.out _ (by assumption)).mono ?_
       rintro e w2 ⟨rfl,rfl⟩
       simp only[]
       refine hK.out _ _ ?kS10 (fun hSw6=>?kR10)
       case kS10=>assumption
       clear hK K
       try simp only[Act.put,zs1,zs2,zs3]
       refine tk 6 hSw6 ?_
       refine tk 7 hSw6 ?_
       refine z1v 9 rfl (fun K hK=>?_)
       go_simp
       refine hK.out _ _ ?_;clear hK K
       try simp only[Act.put,zs1,zs2,zs3]
       refine z1y (by kernel_rfl) ?_ _
       have hw2:IntKind.i64.wrap (smallN ((b.drop 12).take 4):Int)=(smallN ((b.drop 12).take 4):Int):=by rw[IntWalk.i64_in _ (by omega)]
       rw[hw2]
       generalize hn1:smallN ((b.drop 4).take 8)=N at *
       generalize hn2:smallN ((b.drop 12).take 4)=R at *
       have F2:=((Fr.refl C0 w1).alloc (.cells #[.int .u64 (N:Int),.int .i64 (R:Int)] 170)).drew
       have hblk:(w1.alloc (.cells #[.int .u64 (N:Int),.int .i64 (R:Int)] 170)).drew.heap[w1.heap.size]?=some (.cells #[.int .u64 (N:Int),.int .i64 (R:Int)] 170 (0,0)):=heap_alloc_new w1 _
       have f2h:Fr C0 w1 (w1.alloc (.cells #[.int .u64 (N:Int),.int .i64 (R:Int)] 170)).drew:=F2
       generalize (w1.alloc (.cells #[.int .u64 (N:Int),.int .i64 (R:Int)] 170)).drew=w2 at *
       have HHB:=zhd (fun (w_:World)=>z4q w_ N R (by omega) (by omega))
       have hgl:g<w2.heap.size:=by have:=(Array.getElem?_eq_some_iff.1 G1.out).1;have:=F2.size;omega
       have k0:=z2k hblk 0 rfl
       have k1:=z2k hblk 1 rfl
       go_wp2
       by_cases heq:b.take 20=headB N R
       · have hd:decide (b.take 20=headB N R)=true:=by simp[heq]
         refine z1z (Fr C0 w2) [] (by kernel_rfl) ?_
         have hSw0:(Fr C0 w2) _:=(Fr.refl C0 w2).drew
         refine tk 0 hSw0 ?_
         refine tk 1 hSw0 ?_
         refine tk 2 hSw0 ?_ (hy:=by intro w_ hS_;have j0:=hS_.cell0 k0;have j1:=hS_.cell0 k1;first|(go_simp;done)|(go_simp;with_reducible rfl))
         refine one_ 3 rfl (fun K hK=>?_)
         go_simp
         refine(HHB.out _).mono ?_
         rintro e w3 ⟨v3,rfl,f3,o3⟩
         simp only[]
         refine hK.out _ _ ?kS11 (fun hSw1=>?kR11)
         case kS11=>exact Fr.trans0 (by assumption) f3
         clear hK K
         try simp only[Act.put,zs1,zs2,zs3]
         refine one_ 4 rfl (fun K hK=>?_)
         go_simp
         refine(z33 ((S3.out.fr0 F2).fr0 (show Fr C0 w2 _ by assumption)) (G:=fun _=>True) (b:=headB N R) (z0i.2 (by rw[z4k];exact Row.ofOwn o3 (fun _ _=>trivial)))).mono ?_
         rintro e w4 ⟨rfl,rfl⟩
         rw[hd]
         simp only[]
         refine hK.out _ _ ?kS12 (fun hSw2=>?kR12)
         case kS12=>assumption
         clear hK K
         try simp only[Act.put,zs1,zs2,zs3]
         refine tk 5 hSw2 ?_
         refine tk 6 hSw2 ?_
         refine tk 7 hSw2 ?_
         refine one_ 8 rfl (fun K hK=>?_)
         go_simp
         refine(z4r ((S4.out.fr0 F2).fr0 (show Fr C0 w2 _ by assumption)) (by omega)).mono ?_
         rintro e w5 ⟨rfl,f5⟩
         simp only[]
         have F5:Hid (Fr C0 w2 w5):=zhd (Fr.trans0 (by assumption) f5)
         refine hK.out _ _ ?kS13 (fun hSw3=>?kR13)
         case kS13=>exact F5.out
         clear hK K
         try simp only[Act.put,zs1,zs2,zs3]
         refine tk 9 hSw3 ?_
         refine tk 10 hSw3 ?_
         refine z1y (by kernel_rfl) ?_ _
         have hres5:=(f2h.trans0 F5.out).blk hres (fun h=>h)
         have k0:=F5.out.cell0 k0
         have k1:=F5.out.cell0 k1
         have r0:=z2k hres5 0 rfl
         have r1:=z2k hres5 1 rfl
         have z0:=z2i 0 hres5
         have z1:=z2i 1 hres5
         have FW:=zhd ((((Fr.refl C0 w).alloc (.cells #[.int .u64 0,.int .i64 0] 170)).trans0 f1).trans0 (f2h.trans0 F5.out))
         go_wp2
         all_goals
          refine z2l rfl rfl (z2j (i:=1) (z2j (i:=0) hres5 _) _) Tryz.underlying170 rfl (by kernel_rfl) rfl ?_
          refine⟨?_,(FW.out.setCell (.inl (Nat.le_refl _)) _).setCell (.inl (Nat.le_refl _)) _⟩
          simp[readHeadF,hz,headFine,headOf,hn1,hn2,heq, *]
         all_goals first
          |omega
          |(simp only[z4s,z4t];done)
          |(simp only[z4s,z4t];simp;omega)
       · have hd:decide (b.take 20=headB N R)=false:=by simp[heq]
         refine z1z (Fr C0 w2) [] (by kernel_rfl) ?_
         have hSw0:(Fr C0 w2) _:=(Fr.refl C0 w2).drew
         refine tk 0 hSw0 ?_
         refine tk 1 hSw0 ?_
         refine tk 2 hSw0 ?_ (hy:=by intro w_ hS_;have j0:=hS_.cell0 k0;have j1:=hS_.cell0 k1;first|(go_simp;done)|(go_simp;with_reducible rfl))
         refine one_ 3 rfl (fun K hK=>?_)
         go_simp
         refine(HHB.out _).mono ?_
         rintro e w3 ⟨v3,rfl,f3,o3⟩
         simp only[]
         have F5:Hid (Fr C0 w2 w3):=zhd (Fr.trans0 (by assumption) f3)
         refine hK.out _ _ ?kS14 (fun hSw1=>?kR14)
         case kS14=>exact F5.out
         clear hK K
         try simp only[Act.put,zs1,zs2,zs3]
         refine one_ 4 rfl (fun K hK=>?_)
         go_simp
         refine(z33 ((S3.out.fr0 F2).fr0 F5.out) (G:=fun _=>True) (b:=headB N R) (z0i.2 (by rw[z4k];exact Row.ofOwn o3 (fun _ _=>trivial)))).mono ?_
         rintro e w4 ⟨rfl,rfl⟩
         rw[hd]
         simp only[]
         refine hK.out _ _ ?kS15 (fun hSw2=>?kR15)
         case kS15=>assumption
         clear hK K
         try simp only[Act.put,zs1,zs2,zs3]
         refine tk 5 hSw2 ?_
         refine tks 6 rfl hSw2 ?_
         try simp only[Act.put,zs1,zs2,zs3]
         refine tks 7 rfl hSw2 ?_
         try simp only[Act.put,zs1,zs2,zs3]
         refine tks 8 rfl hSw2 ?_
         try simp only[Act.put,zs1,zs2,zs3]
         refine tk 9 hSw2 ?_
         refine tk 10 hSw2 ?_
         refine z1y (by kernel_rfl) ?_ _
         have hres5:=(f2h.trans0 F5.out).blk hres (fun h=>h)
         have k0:=F5.out.cell0 k0
         have k1:=F5.out.cell0 k1
         have r0:=z2k hres5 0 rfl
         have r1:=z2k hres5 1 rfl
         have z0:=z2i 0 hres5
         have z1:=z2i 1 hres5
         have FW:=zhd ((((Fr.refl C0 w).alloc (.cells #[.int .u64 0,.int .i64 0] 170)).trans0 f1).trans0 (f2h.trans0 F5.out))
         go_wp2
         all_goals
          refine z2l rfl rfl (z2j (i:=1) (z2j (i:=0) hres5 _) _) Tryz.underlying170 rfl (by kernel_rfl) rfl ?_
          refine⟨?_,(FW.out.setCell (.inl (Nat.le_refl _)) _).setCell (.inl (Nat.le_refl _)) _⟩
          simp[readHeadF,hz,headFine,headOf,hn1,hn2,heq]
   · skip
     go_simp
     refine hK.out _ _ ?kS16 (fun hSw8=>?kR16)
     case kS16=>exact Fr.alloc (by assumption) _
     clear hK K
     try simp only[Act.put,zs1,zs2,zs3]
     refine one_ 2 rfl (fun K hK=>?_)
     go_simp
     refine(S1.out _ (by assumption)).mono ?_
     rintro e w2 ⟨rfl,rfl⟩
     simp only[]
     refine hK.out _ _ ?kS17 (fun hSw9=>?kR17)
     case kS17=>assumption
     clear hK K
     try simp only[Act.put,zs1,zs2,zs3]
     refine one_ 5 rfl (fun K hK=>?_)
     go_simp
     refine(S2.out _ (by assumption)).mono ?_
     rintro e w2 ⟨rfl,rfl⟩
     simp only[]
     refine hK.out _ _ ?kS18 (fun hSw10=>?kR18)
     case kS18=>assumption
     clear hK K
     try simp only[Act.put,zs1,zs2,zs3]
     refine tk 6 hSw10 ?_
     refine tk 7 hSw10 ?_
     refine z1v 9 rfl (fun K hK=>?_)
     go_simp
     refine hK.out _ _ ?_;clear hK K
     try simp only[Act.put,zs1,zs2,zs3]
     refine z1y (by kernel_rfl) ?_ _
     have hw2:IntKind.i64.wrap (smallN ((b.drop 12).take 4):Int)=(smallN ((b.drop 12).take 4):Int):=by rw[IntWalk.i64_in _ (by omega)]
     rw[hw2]
     generalize hn1:smallN ((b.drop 4).take 8)=N at *
     generalize hn2:smallN ((b.drop 12).take 4)=R at *
     have F2:=((Fr.refl C0 w1).alloc (.cells #[.int .u64 (N:Int),.int .i64 (R:Int)] 170)).drew
     have hblk:(w1.alloc (.cells #[.int .u64 (N:Int),.int .i64 (R:Int)] 170)).drew.heap[w1.heap.size]?=some (.cells #[.int .u64 (N:Int),.int .i64 (R:Int)] 170 (0,0)):=heap_alloc_new w1 _
     have f2h:Fr C0 w1 (w1.alloc (.cells #[.int .u64 (N:Int),.int .i64 (R:Int)] 170)).drew:=F2
     generalize (w1.alloc (.cells #[.int .u64 (N:Int),.int .i64 (R:Int)] 170)).drew=w2 at *
     have HHB:=zhd (fun (w_:World)=>z4q w_ N R (by omega) (by omega))
     have hgl:g<w2.heap.size:=by have:=(Array.getElem?_eq_some_iff.1 G1.out).1;have:=F2.size;omega
     have k0:=z2k hblk 0 rfl
     have k1:=z2k hblk 1 rfl
     go_wp2
     by_cases heq:b.take 20=headB N R
     · have hd:decide (b.take 20=headB N R)=true:=by simp[heq]
       refine z1z (Fr C0 w2) [] (by kernel_rfl) ?_
       have hSw0:(Fr C0 w2) _:=(Fr.refl C0 w2).drew
       refine tk 0 hSw0 ?_
       refine tk 1 hSw0 ?_
       refine tk 2 hSw0 ?_ (hy:=by intro w_ hS_;have j0:=hS_.cell0 k0;have j1:=hS_.cell0 k1;first|(go_simp;done)|(go_simp;with_reducible rfl))
       refine one_ 3 rfl (fun K hK=>?_)
       go_simp
       refine(HHB.out _).mono ?_
       rintro e w3 ⟨v3,rfl,f3,o3⟩
       simp only[]
       refine hK.out _ _ ?kS19 (fun hSw1=>?kR19)
       case kS19=>exact Fr.trans0 (by assumption) f3
       clear hK K
       try simp only[Act.put,zs1,zs2,zs3]
       refine one_ 4 rfl (fun K hK=>?_)
       go_simp
       refine(z33 ((S3.out.fr0 F2).fr0 (show Fr C0 w2 _ by assumption)) (G:=fun _=>True) (b:=headB N R) (z0i.2 (by rw[z4k];exact Row.ofOwn o3 (fun _ _=>trivial)))).mono ?_
       rintro e w4 ⟨rfl,rfl⟩
       rw[hd]
       simp only[]
       refine hK.out _ _ ?kS20 (fun hSw2=>?kR20)
       case kS20=>assumption
       clear hK K
       try simp only[Act.put,zs1,zs2,zs3]
       refine tk 5 hSw2 ?_
       refine tk 6 hSw2 ?_
       refine tk 7 hSw2 ?_
       refine one_ 8 rfl (fun K hK=>?_)
       go_simp
       refine(z4r ((S4.out.fr0 F2).fr0 (show Fr C0 w2 _ by assumption)) (by omega)).mono ?_
       rintro e w5 ⟨rfl,f5⟩
       simp only[]
       have F5:Hid (Fr C0 w2 w5):=zhd (Fr.trans0 (by assumption) f5)
       refine hK.out _ _ ?kS21 (fun hSw3=>?kR21)
       case kS21=>exact F5.out
       clear hK K
       try simp only[Act.put,zs1,zs2,zs3]
       refine tk 9 hSw3 ?_
       refine tk 10 hSw3 ?_
       refine z1y (by kernel_rfl) ?_ _
       have hres5:=(f2h.trans0 F5.out).blk hres (fun h=>h)
       have k0:=F5.out.cell0 k0
       have k1:=F5.out.cell0 k1
       have r0:=z2k hres5 0 rfl
       have r1:=z2k hres5 1 rfl
       have z0:=z2i 0 hres5
       have z1:=z2i 1 hres5
       have FW:=zhd ((((Fr.refl C0 w).alloc (.cells #[.int .u64 0,.int .i64 0] 170)).trans0 f1).trans0 (f2h.trans0 F5.out))
       go_wp2
       all_goals
        refine z2l rfl rfl (z2j (i:=1) (z2j (i:=0) hres5 _) _) Tryz.underlying170 rfl (by kernel_rfl) rfl ?_
        refine⟨?_,(FW.out.setCell (.inl (Nat.le_refl _)) _).setCell (.inl (Nat.le_refl _)) _⟩
        simp[readHeadF,hz,headFine,headOf,hn1,hn2,heq, *]
       all_goals first
        |omega
        |(simp only[z4s,z4t];done)
        |(simp only[z4s,z4t];simp;omega)
     · have hd:decide (b.take 20=headB N R)=false:=by simp[heq]
       refine z1z (Fr C0 w2) [] (by kernel_rfl) ?_
       have hSw0:(Fr C0 w2) _:=(Fr.refl C0 w2).drew
       refine tk 0 hSw0 ?_
       refine tk 1 hSw0 ?_
       refine tk 2 hSw0 ?_ (hy:=by intro w_ hS_;have j0:=hS_.cell0 k0;have j1:=hS_.cell0 k1;first|(go_simp;done)|(go_simp;with_reducible rfl))
       refine one_ 3 rfl (fun K hK=>?_)
       go_simp
       refine(HHB.out _).mono ?_
       rintro e w3 ⟨v3,rfl,f3,o3⟩
       simp only[]
       have F5:Hid (Fr C0 w2 w3):=zhd (Fr.trans0 (by assumption) f3)
       refine hK.out _ _ ?kS22 (fun hSw1=>?kR22)
       case kS22=>exact F5.out
       clear hK K
       try simp only[Act.put,zs1,zs2,zs3]
       refine one_ 4 rfl (fun K hK=>?_)
       go_simp
       refine(z33 ((S3.out.fr0 F2).fr0 F5.out) (G:=fun _=>True) (b:=headB N R) (z0i.2 (by rw[z4k];exact Row.ofOwn o3 (fun _ _=>trivial)))).mono ?_
       rintro e w4 ⟨rfl,rfl⟩
       rw[hd]
       simp only[]
       refine hK.out _ _ ?kS23 (fun hSw2=>?kR23)
       case kS23=>assumption
       clear hK K
       try simp only[Act.put,zs1,zs2,zs3]
       refine tk 5 hSw2 ?_
       refine tks 6 rfl hSw2 ?_
       try simp only[Act.put,zs1,zs2,zs3]
       refine tks 7 rfl hSw2 ?_
       try simp only[Act.put,zs1,zs2,zs3]
       refine tks 8 rfl hSw2 ?_
       try simp only[Act.put,zs1,zs2,zs3]
       refine tk 9 hSw2 ?_
       refine tk 10 hSw2 ?_
       refine z1y (by kernel_rfl) ?_ _
       have hres5:=(f2h.trans0 F5.out).blk hres (fun h=>h)
       have k0:=F5.out.cell0 k0
       have k1:=F5.out.cell0 k1
       have r0:=z2k hres5 0 rfl
       have r1:=z2k hres5 1 rfl
       have z0:=z2i 0 hres5
       have z1:=z2i 1 hres5
       have FW:=zhd ((((Fr.refl C0 w).alloc (.cells #[.int .u64 0,.int .i64 0] 170)).trans0 f1).trans0 (f2h.trans0 F5.out))
       go_wp2
       all_goals
        refine z2l rfl rfl (z2j (i:=1) (z2j (i:=0) hres5 _) _) Tryz.underlying170 rfl (by kernel_rfl) rfl ?_
        refine⟨?_,(FW.out.setCell (.inl (Nat.le_refl _)) _).setCell (.inl (Nat.le_refl _)) _⟩
        simp[readHeadF,hz,headFine,headOf,hn1,hn2,heq]
end
end Go.Proofs.YtidalepbkljkpaaGreat

import Derived.Test.YtidalepbkljkpaaGreatLocalSpaces04
import Derived.Test.YtidalepbkljkpaaGreatLocalSpaces06
import Derived.Lib.SmallJoins
set_option linter.all false
namespace Go.Proofs.YtidalepbkljkpaaGreat
open Go.RowKit Go.H
set_option maxHeartbeats 1000000
set_option maxRecDepth 100000
section
theorem bvn (u:Nat) (k:Nat):Value.int IntKind.u8 ((u:Int) / (k:Int) % 256)=bv (UInt8.ofNat (u / k)):=by
 simp[bv]<;>omega
theorem bvn1 (u:Nat):Value.int IntKind.u8 ((u:Int) % 256)=bv (UInt8.ofNat u):=by
 simp[bv]<;>omega
theorem mkb2 (w:World):(Instr.makeSlice 40 (.int .i64 2) (.int .i64 2)).run Tryz.prog w=.ok (.slice (some ⟨w.heap.size,0,none⟩) 2 2) (w.alloc (.cells #[.int .u8 0,.int .u8 0] 5)):=by kernel_rfl
theorem z49 (u:Nat) (hu:u<18446744073709551616) (w:World):Calls Tryz.prog 156 #[.int .u64 (u:Int),.int .i64 2] w fun e w'=>∃v',e=.returned v'∧Fr C0 w w'∧w'.ownsRow w.heap.size 5 1 v' 2 ((bigB u 2).map bv):=by
 have hm:=mkb2
 go_enter Tryz.func156,Tryz.ntmps156
 go_wp2
 refine wp_loop_rounds 3 ?_;rw[rounds_succ]
 go_wp2
 rw[rounds_succ]
 go_wp2
 rw[rounds_succ]
 go_wp2
 go_ret
 refine⟨_,rfl,(Fr.refl _ w).alloc _,?_⟩
 have e0:Value.int IntKind.u8 ((u:Int) / 256 % 256)=bv (UInt8.ofNat (u / 256 ^ 1)):=bvn u 256
 have e1:Value.int IntKind.u8 ((u:Int) % 256)=bv (UInt8.ofNat (u / 256 ^ 0)):=by rw[bvn1];simp
 rw[e0,e1]
 exact World.ownsRow_lit w #[bv (UInt8.ofNat (u / 256 ^ 1)),bv (UInt8.ofNat (u / 256 ^ 0))] 2 (Nat.le_refl _) (by unfold maxLen;omega) rfl
theorem mkb4 (w:World):(Instr.makeSlice 40 (.int .i64 4) (.int .i64 4)).run Tryz.prog w=.ok (.slice (some ⟨w.heap.size,0,none⟩) 4 4) (w.alloc (.cells #[.int .u8 0,.int .u8 0,.int .u8 0,.int .u8 0] 5)):=by kernel_rfl
theorem z4a (u:Nat) (hu:u<18446744073709551616) (w:World):Calls Tryz.prog 156 #[.int .u64 (u:Int),.int .i64 4] w fun e w'=>∃v',e=.returned v'∧Fr C0 w w'∧w'.ownsRow w.heap.size 5 1 v' 4 ((bigB u 4).map bv):=by
 have hm:=mkb4
 go_enter Tryz.func156,Tryz.ntmps156
 go_wp2
 refine wp_loop_rounds 5 ?_;rw[rounds_succ]
 go_wp2
 rw[rounds_succ]
 go_wp2
 rw[rounds_succ]
 go_wp2
 rw[rounds_succ]
 go_wp2
 rw[rounds_succ]
 go_wp2
 go_ret
 refine⟨_,rfl,(Fr.refl _ w).alloc _,?_⟩
 have e0:Value.int IntKind.u8 ((u:Int) / 16777216 % 256)=bv (UInt8.ofNat (u / 256 ^ 3)):=bvn u 16777216
 have e1:Value.int IntKind.u8 ((u:Int) / 65536 % 256)=bv (UInt8.ofNat (u / 256 ^ 2)):=bvn u 65536
 have e2:Value.int IntKind.u8 ((u:Int) / 256 % 256)=bv (UInt8.ofNat (u / 256 ^ 1)):=bvn u 256
 have e3:Value.int IntKind.u8 ((u:Int) % 256)=bv (UInt8.ofNat (u / 256 ^ 0)):=by rw[bvn1];simp
 rw[e0,e1,e2,e3]
 exact World.ownsRow_lit w #[bv (UInt8.ofNat (u / 256 ^ 3)),bv (UInt8.ofNat (u / 256 ^ 2)),bv (UInt8.ofNat (u / 256 ^ 1)),bv (UInt8.ofNat (u / 256 ^ 0))] 4 (Nat.le_refl _) (by unfold maxLen;omega) rfl
theorem mkb8 (w:World):(Instr.makeSlice 40 (.int .i64 8) (.int .i64 8)).run Tryz.prog w=.ok (.slice (some ⟨w.heap.size,0,none⟩) 8 8) (w.alloc (.cells #[.int .u8 0,.int .u8 0,.int .u8 0,.int .u8 0,.int .u8 0,.int .u8 0,.int .u8 0,.int .u8 0] 5)):=by kernel_rfl
theorem z4b (u:Nat) (hu:u<18446744073709551616) (w:World):Calls Tryz.prog 156 #[.int .u64 (u:Int),.int .i64 8] w fun e w'=>∃v',e=.returned v'∧Fr C0 w w'∧w'.ownsRow w.heap.size 5 1 v' 8 ((bigB u 8).map bv):=by
 have hm:=mkb8
 go_enter Tryz.func156,Tryz.ntmps156
 go_wp2
 refine wp_loop_rounds 9 ?_;rw[rounds_succ]
 go_wp2
 rw[rounds_succ]
 go_wp2
 rw[rounds_succ]
 go_wp2
 rw[rounds_succ]
 go_wp2
 rw[rounds_succ]
 go_wp2
 rw[rounds_succ]
 go_wp2
 rw[rounds_succ]
 go_wp2
 rw[rounds_succ]
 go_wp2
 rw[rounds_succ]
 go_wp2
 go_ret
 refine⟨_,rfl,(Fr.refl _ w).alloc _,?_⟩
 have e0:Value.int IntKind.u8 ((u:Int) / 72057594037927936)=bv (UInt8.ofNat (u / 256 ^ 7)):=by rw[←bvn u 72057594037927936];congr 1;omega
 have e1:Value.int IntKind.u8 ((u:Int) / 281474976710656 % 256)=bv (UInt8.ofNat (u / 256 ^ 6)):=bvn u 281474976710656
 have e2:Value.int IntKind.u8 ((u:Int) / 1099511627776 % 256)=bv (UInt8.ofNat (u / 256 ^ 5)):=bvn u 1099511627776
 have e3:Value.int IntKind.u8 ((u:Int) / 4294967296 % 256)=bv (UInt8.ofNat (u / 256 ^ 4)):=bvn u 4294967296
 have e4:Value.int IntKind.u8 ((u:Int) / 16777216 % 256)=bv (UInt8.ofNat (u / 256 ^ 3)):=bvn u 16777216
 have e5:Value.int IntKind.u8 ((u:Int) / 65536 % 256)=bv (UInt8.ofNat (u / 256 ^ 2)):=bvn u 65536
 have e6:Value.int IntKind.u8 ((u:Int) / 256 % 256)=bv (UInt8.ofNat (u / 256 ^ 1)):=bvn u 256
 have e7:Value.int IntKind.u8 ((u:Int) % 256)=bv (UInt8.ofNat (u / 256 ^ 0)):=by rw[bvn1];simp
 rw[e0,e1,e2,e3,e4,e5,e6,e7]
 exact World.ownsRow_lit w #[bv (UInt8.ofNat (u / 256 ^ 7)),bv (UInt8.ofNat (u / 256 ^ 6)),bv (UInt8.ofNat (u / 256 ^ 5)),bv (UInt8.ofNat (u / 256 ^ 4)),bv (UInt8.ofNat (u / 256 ^ 3)),bv (UInt8.ofNat (u / 256 ^ 2)),bv (UInt8.ofNat (u / 256 ^ 1)),bv (UInt8.ofNat (u / 256 ^ 0))] 8 (Nat.le_refl _) (by unfold maxLen;omega) rfl
theorem z4c {F:Nat→Prop} {w:World} {v:Value} {l:List UInt8} (hl:BytesAt F w v l) (h8:l.length≤8) :
 Calls Tryz.prog 140 #[v] w fun e w'=>e=.returned (.int .u64 (smallN l:Int))∧w=w':=by
 obtain⟨A,c,rfl,h1,h2,h3⟩:=hl
 have H3:=zhd h3
 clear h3
 go_enter Tryz.func140,Tryz.ntmps140
 go_wp2
 go_loopw [3,5,8] (fun a b i wr=>∃k:Nat,k≤l.length∧a=.int .u64 (smallN (l.take k):Int)∧i=.int .i64 (k:Int)∧wr=w) (fun _ _ i _=>l.length-(intOf i).toNat)
 case atStart=>exact⟨0,Nat.zero_le _,rfl,rfl,rfl⟩
 case round=>
  obtain⟨k,hk,rfl,rfl,rfl⟩:=hrel
  by_cases hlt:k<l.length
  · obtain⟨g,o,rfl,hFg,hc⟩:=H3.out (by intro h;subst h;simp at hlt)
    have c1:=hc k hlt
    have hsm:=z1k (l.take k)
    clear H3 hc
    have c1':wr.cell? ⟨g,o+k,none⟩=some (.int .u8 (l[k].toNat:Int)):=c1
    have hx:=z1k (l.take (k+1))
    rw[List.take_succ_eq_append_getElem hlt,z1g] at hx
    have h9:256 ^ (l.take k++[l[k]]).length≤256 ^ 8:=Nat.pow_le_pow_right (by omega) (by simp;omega)
    have hy:=l[k].toNat_lt
    clear c1 hsm
    have e1:IntKind.u64.wrap ((smallN (l.take k):Int)*256)=(smallN (l.take k):Int)*256:=z19 _ (by omega) (by omega)
    have e2:bits .or .u64 ((smallN (l.take k):Int)*256) (l[k].toNat:Int)=((smallN (l.take (k+1)):Nat):Int):=by
     rw[z1a (by omega) (by omega) (by omega) (by omega),List.take_succ_eq_append_getElem hlt,z1g];omega
    have E2:=zhd e2
    clear e2
    go_wp2
    go_roundw
    case rel=>exact⟨k+1,by omega,by rw[E2.out],by go_num,trivial⟩
    case measure=>simp[intOf];omega
  · obtain rfl:k=l.length:=by omega
    clear H3
    go_wp2
    go_ret
    rw[List.take_length]
    exact⟨rfl,rfl⟩
end
end Go.Proofs.YtidalepbkljkpaaGreat
namespace Go.H
open Go.RowKit
section
def bodyB (l:Bs):Bs:=bigB l.length 2++l++List.replicate (8186-l.length) 0
theorem z4d {l:Bs} (h:l.length≤8186):(bodyB l).length=8188:=by simp[bodyB,z1f];omega
def pageB (l:Bs):Bs:=bigB (crc (bodyB l)).toNat 4++bodyB l
theorem z4e {l:Bs} (h:l.length≤8186):(pageB l).length=8192:=by simp[pageB,z1f,z4d h]
theorem z4f {n:Nat} {a l:Bs} (ha:a.length=2) (hn:6+l.length≤n):splice (splice (zerosV n) 4 (a.map bv)) 6 (l.map bv)=(List.replicate 4 0++(a++l++List.replicate (n-6-l.length) 0)).map bv:=by
 have e1:splice (zerosV n) 4 (a.map bv)=(List.replicate 4 0++a++List.replicate (n-6) 0).map bv:=by
  simp only[splice,zerosV,←List.map_take,←List.map_drop,List.take_replicate,List.drop_replicate,List.length_map,ha,List.map_append]
  rw[Nat.min_eq_left (by omega),List.append_assoc]
 rw[e1]
 simp only[splice,←List.map_take,←List.map_drop,List.length_map,←List.map_append]
 congr 1
 rw[List.take_append_of_le_length (by simp[ha]),List.take_of_length_le (by simp[ha])]
 rw[show 6+l.length=(List.replicate 4 (0:UInt8)++a).length+l.length by simp[ha],List.drop_append,List.drop_replicate]
 simp[ha,Nat.sub_sub,Nat.add_comm]
theorem z4g {a l:Bs} {z:Bs} (h:a.length=z.length):splice ((z++l).map bv) 0 (a.map bv)=(a++l).map bv:=by
 simp only[splice,List.take_zero,List.nil_append,Nat.zero_add,List.length_map,h,←List.map_drop,List.drop_left',←List.map_append]
theorem z4h {l:Bs} (h:l.length≤8186):splice (splice (zerosV 8192) 4 ((bigB l.length 2).map bv)) 6 (List.take (min l.length 8186) (l.map bv))=(List.replicate 4 0++bodyB l).map bv:=by
 rw[Nat.min_eq_left h,List.take_of_length_le (by rw[List.length_map];exact Nat.le_refl _),z4f (z1f _ _) (by omega)]
 rfl
theorem z4i {l:Bs} (h:l.length≤8186) (a:Bs) (ha:a.length=4):splice ((List.replicate 4 0++bodyB l).map bv) 0 (List.take (min 4 8192) (a.map bv))=(a++bodyB l).map bv:=by
 rw[show min 4 8192=4 from rfl,List.take_of_length_le (by rw[List.length_map,ha];exact Nat.le_refl _),z4g (by simp[ha])]
theorem z4j {F:Nat→Prop} {w:World} {g e:Nat} {z l:Bs} (hg:w.heap[g]?=some (.cells ((z++l).map bv).toArray e (0,0))) (hF:F g) (hn:l.length≤maxLen):BytesAt F w (.slice (some ⟨g,z.length,none⟩) l.length l.length) l:=
 ⟨_, l.length, rfl, Nat.le_refl _, hn, fun _ => ⟨g, z.length, rfl, hF, fun j hj => by
  rw[cell_of_row w g _ _ _ _ hg]
  simp[hj]⟩⟩
def headB (n root:Nat):Bs:=[104,101,97,100]++bigB n 8++bigB root 4++bigB (n % 4294967296) 4
theorem z4k (n root:Nat):(headB n root).length=20:=by simp[headB,z1f]
theorem z4l {x:Int} (h₀:0≤x) (h₁:x<18446744073709551616):bits .and .u64 x 4294967295=x % 4294967296:=bits_mask .u64 64 (by decide) z19 32 (by decide) x h₀ h₁
theorem z4m {w:World} {g e o n c:Nat} {b:Bs} (hg:w.heap[g]?=some (.cells (b.map bv).toArray e (0,0))) (ho:o+n≤b.length) (hc:n≤c) (hm:c≤maxLen):BytesAt (fun x=>x=g) w (.slice (some ⟨g,o,none⟩) n c) ((b.drop o).take n):=by
 have hl:((b.drop o).take n).length=n:=by rw[List.length_take,List.length_drop];omega
 refine⟨_,c,by rw[hl],by rw[hl];exact hc,hm,fun _=>⟨g,o,rfl,rfl,fun j hj=>?_⟩⟩
 rw[cell_of_row w g _ _ _ _ hg]
 rw[hl] at hj
 simp[List.getElem_take,List.getElem_drop,show o+j<b.length by omega]
theorem z4n {w:World} {g e:Nat} {b:Bs} (hg:w.heap[g]?=some (.cells (b.map bv).toArray e (0,0))) (hm:b.length≤maxLen):BytesAt (fun x=>x=g) w (.slice (some ⟨g,0,none⟩) b.length b.length) b:=by
 have:=z4m (o:=0) (n:=b.length) (c:=b.length) hg (by omega) (Nat.le_refl _) hm
 simpa using this
def headOf (b:Bs):Nat×Nat:=(smallN ((b.drop 4).take 8),smallN ((b.drop 12).take 4))
def zeroB (b:Bs):Bool:=decide (b=List.replicate b.length 0)
def headFine (b:Bs) (blocks:Nat):Bool:=decide (b.take 20=headB (headOf b).1 (headOf b).2) && zeroB (b.drop 20) && decide ((headOf b).1≤4611686018427387904) && decide ((headOf b).2≠1) && decide ((headOf b).2<blocks) && (decide ((headOf b).1≠0) || decide ((headOf b).2=0))
def readHeadF (b:Bs) (blocks:Nat):(Nat×Nat)×Bool:=if zeroB b then((0,0),true) else(headOf b,headFine b blocks)
def pageLen (b:Bs):Nat:=smallN ((b.drop 4).take 2)
def pageOf (b:Bs):Option Bs:=
 if 8186<pageLen b then none
 else if zeroB (b.drop (6+pageLen b))=false then none
 else if crc (b.drop 4)=(smallN (b.take 4):Int) then some ((b.drop 6).take (pageLen b)) else none
theorem z4o {l:Bs} (h:l.length≤8186):pageOf (pageB l)=some l:=by
 have hb4:(bigB (crc (bodyB l)).toNat 4).length=4:=z1f _ _
 have hd4:(pageB l).drop 4=bodyB l:=by rw[pageB,List.drop_append_of_le_length (by omega),List.drop_of_length_le (by omega)];rfl
 have ht4:(pageB l).take 4=bigB (crc (bodyB l)).toNat 4:=by rw[pageB,List.take_append_of_le_length (by omega),List.take_of_length_le (by omega)]
 have hb2:(bigB l.length 2).length=2:=z1f _ _
 have hpl:pageLen (pageB l)=l.length:=by
  rw[pageLen,hd4,bodyB,List.append_assoc,List.take_append_of_le_length (by omega),List.take_of_length_le (by omega),z1i]
  exact Nat.mod_eq_of_lt (by omega)
 have hd6:(pageB l).drop 6=l++List.replicate (8186-l.length) 0:=by
  rw[show 6=4+2 from rfl,←List.drop_drop,hd4,bodyB,List.append_assoc,List.drop_append_of_le_length (by omega),List.drop_of_length_le (by omega)];rfl
 have hd7:(pageB l).drop (6+l.length)=List.replicate (8186-l.length) 0:=by
  rw[←List.drop_drop,hd6,List.drop_append_of_le_length (Nat.le_refl _),List.drop_of_length_le (Nat.le_refl _)];rfl
 have hz:zeroB (List.replicate (8186-l.length) 0)=true:=by unfold zeroB;rw[List.length_replicate];simp
 obtain⟨u1,u2⟩:=z43 (bodyB l)
 unfold pageOf
 rw[hpl,hd7,hd6,hd4,ht4,z1i,hz,if_neg (by omega),if_neg (by simp),if_pos]
 · rw[List.take_append_of_le_length (Nat.le_refl _),List.take_of_length_le (Nat.le_refl _)]
 · rw[Nat.mod_eq_of_lt (by omega)];omega
end
end Go.H
namespace Go.Proofs.YtidalepbkljkpaaGreat
open Go.RowKit Go.H
set_option maxHeartbeats 1000000
set_option maxRecDepth 100000
section
theorem z4p {F:Nat→Prop} {w:World} {v:Value} {l:Bs} (h:BytesAt F w v l) (hn:l.length≤8186) :
 Calls Tryz.prog 182 #[v] w fun e w'=>e=.returned (.slice (some ⟨w.heap.size,0,none⟩) 8192 8192)∧w'.heap[w.heap.size]?=some (.cells ((pageB l).map bv).toArray 5 (0,0))∧Fr C0 w w':=by
 have HR:=zhd h
 obtain⟨A,c,rfl,h1,h2⟩:=h.form
 have hm:=mk8k
 clear h
 go_enter Tryz.func182,Tryz.ntmps182
 go_wp2
 have hl64:IntKind.u64.wrap (l.length:Int)=(l.length:Int):=z19 _ (by omega) (by omega)
 have HF0:Hid (Fr C0 w (w.alloc (.cells (zerosV 8192).toArray 5)).drew):=zhd ((Fr.refl C0 w).alloc _).drew
 have HB:=zhd (z49 l.length (by omega) (w.alloc (.cells (zerosV 8192).toArray 5)).drew)
 have hg0:(w.alloc (.cells (zerosV 8192).toArray 5)).drew.heap[w.heap.size]?=some (.cells (zerosV 8192).toArray 5 (0,0)):=heap_alloc_new w _
 have HG0:=zhd hg0
 clear hg0
 refine z1z (Fr (fun b=>b=w.heap.size) w) [6] (by kernel_rfl) ?_
 have hSw0:(Fr (fun b=>b=w.heap.size) w) _:=(((Fr.refl (fun b=>b=w.heap.size) w).alloc (.cells (zerosV 8192).toArray 5)).drew)
 refine tk 0 hSw0 ?_
 refine tk 1 hSw0 ?_
 refine tk 2 hSw0 ?_
 refine tk 3 hSw0 ?_
 refine tk 4 hSw0 ?_
 refine one_ 5 rfl (fun K hK=>?_)
 go_simp
 refine HB.out.mono ?_
 rintro e w1 ⟨v1,rfl,f1,o1⟩
 simp only[]
 refine hK.out _ _ ?kS1 (fun hSw1=>?kR1)
 case kS1=>exact hSw0.trans0 f1
 clear hK K
 try simp only[Act.put,zs1,zs2,zs3]
 refine z1v 6 rfl (fun K hK=>?_)
 have src1:=Row.ofOwn o1 (F:=fun _=>True) (fun _ _=>trivial)
 refine z1o z2o _ _ rfl (g:=w.heap.size) (off:=4) (dLen:=8188) (dCap:=8188) rfl rfl (f1.blk HG0.out (fun h=>h)) src1 (z1c _) (by rw[z1l];omega) ?_
 intro w2 g2 f2
 have hSw2:=hSw1.trans f2 (fun _ _ h=>h)
 refine hK.out _ _ ?_;clear hK K
 try simp only[Act.put,zs1,zs2,zs3]
 refine z1y (by kernel_rfl) ?_ _
 have hF2:Hid (Fr (fun b=>b=w.heap.size) w w2):=zhd hSw2
 rw[show min 2 8188=2 from rfl,List.take_of_length_le (by rw[List.length_map,z1f];exact Nat.le_refl _)] at g2
 have G2:=zhd g2
 clear g2 o1 src1 HB
 go_wp2_with (go_loud (refine z1n z2o rfl _ _ rfl (g:=w.heap.size) (off:=6) (dLen:=8186) (dCap:=8186) rfl rfl G2.out ((HR.out.row.mono (F':=fun b=>b<w.heap.size) (fun b _ h=>h)).fr hF2.out (fun b hb h=>by omega)) (z1c l) (by simp[splice,z1l,z1f];omega) ?_);intro w3 g3 f3)
 rw[z4h hn] at g3
 have hbl:=z4d hn
 have hF3:Hid (Fr (fun b=>b=w.heap.size) w w3):=zhd (hF2.out.trans f3 (fun _ _ h=>h))
 have G3:=zhd g3
 have hbody:BytesAt (fun b=>w.heap.size≤b) w3 (.slice (some ⟨w.heap.size,4,none⟩) 8188 8188) (bodyB l):=by
  have:=z4j (F:=fun b=>w.heap.size≤b) (z:=List.replicate 4 0) g3 (Nat.le_refl _) (by rw[hbl];unfold maxLen;omega)
  rw[hbl] at this
  exact this
 refine(z48 hbody (by omega)).mono ?_
 clear g3 f3 G2 hF2
 rintro e w4 ⟨rfl,f4⟩
 have hcu:=z43 (bodyB l)
 obtain⟨u1,u2⟩:=hcu
 obtain⟨n,en⟩:=Int.eq_ofNat_of_zero_le u1
 have hc64:IntKind.u64.wrap (n:Int)=(n:Int):=z19 _ (by omega) (by omega)
 have G4:=zhd (f4.blk G3.out (fun h=>h))
 have HF4:Hid (Fr (fun b=>b=w.heap.size) w w4):=zhd (hF3.out.trans0 f4)
 have HB4:=zhd (z4a n (by omega) w4)
 rw[en]
 have EN:=zhd en
 clear f4 hbody u1 u2 en
 go_wp2_with fail
 refine HB4.out.mono ?_
 rintro e w5 ⟨v5,rfl,f5,o5⟩
 have src5:=Row.ofOwn o5 (F:=fun _=>True) (fun _ _=>trivial)
 have G5:=zhd (f5.blk G4.out (fun h=>h))
 go_wp2_with (refine z1n z2o rfl _ _ rfl (g:=w.heap.size) (off:=0) (dLen:=8192) (dCap:=8192) rfl rfl G5.out src5 (z1c _) (by simp[z4d hn]) ?_;intro w6 g6 f6)
 go_ret
 have hF6:Fr (fun b=>b=w.heap.size) w w6:=(HF4.out.trans0 f5).trans f6 (fun _ _ h=>h)
 refine⟨rfl,?_,?_⟩
 · rw[g6,z4i hn _ (z1f _ _),pageB,EN.out];rfl
 · exact hF6.mono (fun b hb h=>absurd h (by omega))
end
section
theorem z4q (w:World) (n root:Nat) (hn:n<18446744073709551616) (hr:root<4611686018427387904) :
 Calls Tryz.prog 141 #[.agg #[.int .u64 (n:Int),.int .i64 (root:Int)]] w fun e w'=>∃v',e=.returned v'∧Fr C0 w w'∧w'.ownsRow w.heap.size 5 1 v' 20 ((headB n root).map bv):=by
 have H8:=zhd (z4b n hn)
 have H4:=zhd (z4a root (by omega))
 have H4n:=zhd (z4a (n % 4294967296) (by omega))
 have ha:bits .and .u64 (n:Int) 4294967295=((n % 4294967296:Nat):Int):=by rw[z4l (by omega) (by omega)];omega
 have hw:IntKind.u64.wrap (root:Int)=(root:Int):=z19 _ (by omega) (by omega)
 have HA:=zhd ha
 clear ha
 have hcv:=Go.Joins.run_convert_bytes_const_at (P:=Tryz.prog) (w.alloc (.cells #[.int .u64 (n:Int),.int .i64 (root:Int)] 170)) 40 5 #[.int .u8 104,.int .u8 101,.int .u8 97,.int .u8 100] 4 4 (w.heap.size+1) (by simp) Tryz.underlying40 Tryz.underlying5
 go_enter Tryz.func141,Tryz.ntmps141
 go_wp2_with fail
 have hF0:Fr C0 w ((w.alloc (.cells #[.int .u64 (n:Int),.int .i64 (root:Int)] 170)).alloc (.cells #[.int .u8 104,.int .u8 101,.int .u8 97,.int .u8 100] 5 (4,5))):=((Fr.refl C0 w).alloc _).alloc _
 have c0:((w.alloc (.cells #[.int .u64 (n:Int),.int .i64 (root:Int)] 170)).alloc (.cells #[.int .u8 104,.int .u8 101,.int .u8 97,.int .u8 100] 5 (4,5))).cell? ⟨w.heap.size,1,none⟩=some (.int .i64 (root:Int)):=((Fr.refl C0 _).alloc _).cell0 (z2k (heap_alloc_new w (.cells #[.int .u64 (n:Int),.int .i64 (root:Int)] 170)) 1 rfl)
 have c1:((w.alloc (.cells #[.int .u64 (n:Int),.int .i64 (root:Int)] 170)).alloc (.cells #[.int .u8 104,.int .u8 101,.int .u8 97,.int .u8 100] 5 (4,5))).cell? ⟨w.heap.size,0,none⟩=some (.int .u64 (n:Int)):=((Fr.refl C0 _).alloc _).cell0 (z2k (heap_alloc_new w (.cells #[.int .u64 (n:Int),.int .i64 (root:Int)] 170)) 0 rfl)
 have hb1:((w.alloc (.cells #[.int .u64 (n:Int),.int .i64 (root:Int)] 170)).alloc (.cells #[.int .u8 104,.int .u8 101,.int .u8 97,.int .u8 100] 5 (4,5))).heap[w.heap.size+1]?=some (.cells #[.int .u8 104,.int .u8 101,.int .u8 97,.int .u8 100] 5 (4,5)):=by
  have:=heap_alloc_new (w.alloc (.cells #[.int .u64 (n:Int),.int .i64 (root:Int)] 170)) (.cells #[.int .u8 104,.int .u8 101,.int .u8 97,.int .u8 100] 5 (4,5))
  simpa using this
 have hsz:w.heap.size+1<((w.alloc (.cells #[.int .u64 (n:Int),.int .i64 (root:Int)] 170)).alloc (.cells #[.int .u8 104,.int .u8 101,.int .u8 97,.int .u8 100] 5 (4,5))).heap.size:=by simp
 generalize ((w.alloc (.cells #[.int .u64 (n:Int),.int .i64 (root:Int)] 170)).alloc (.cells #[.int .u8 104,.int .u8 101,.int .u8 97,.int .u8 100] 5 (4,5)))=w1 at *
 have own0:Row (fun _=>True) w1 (.slice (some ⟨w.heap.size+1,0,none⟩) 4 4) 4 1 (([104,101,97,100]:Bs).map bv):=by
  have:=Row.ofBlock (F:=fun _=>True) (n:=4) (size:=1) hb1 trivial (by unfold maxLen;omega) rfl
  simpa [bv] using this
 have HF0:=zhd hF0
 clear hF0
 refine(H8.out w1).mono ?_
 rintro e w2 ⟨v2,rfl,f2,o2⟩
 have d0:=f2.cell0 c0
 have d1:=f2.cell0 c1
 have OW:=zhd (own0.fr0 f2)
 have src2:=zhd (Row.ofOwn o2 (F:=fun _=>True) (fun _ _=>trivial))
 clear o2 own0 hb1 c0 c1
 have hz4:0<4:=by omega
 have hz8:0<8:=by omega
 have hz120:4+8≤maxLen:=by unfold maxLen;omega
 have hz121:(4+8)*1≤140737488355328:=by omega
 go_wp2_with (at_builtin;go_must (refine z0r z2o rfl _ _ rfl (A:=some ⟨w.heap.size+1,0,none⟩) (n:=4) (m:=8) (xv:=v2) rfl rfl OW.out hz4 src2.out hz8 hz120 hz121 ?_);intro v3 w3 o3 f3;have d0:=f3.cell0 d0;have d1:=f3.cell0 d1)
 have HF3:Hid (Fr C0 w w3):=zhd ((HF0.out.trans0 f2).trans0 f3)
 have hs2:=f2.size
 have hs3:=f3.size
 have O3:=zhd (z0n o3 (B':=w.heap.size+1) (fun b hb=>by have:=(o3.lt b hb).1;omega))
 clear o3 OW src2
 refine(H4.out w3).mono ?_
 rintro e w4 ⟨v4,rfl,f4,o4⟩
 have d0:=f4.cell0 d0
 have d1:=f4.cell0 d1
 have O4:=zhd (z0m O3.out f4 (fun _ _ h=>h))
 have src4:=zhd (Row.ofOwn o4 (F:=fun _=>True) (fun _ _=>trivial))
 clear o4 O3
 have hs4:=f4.size
 have hz12:4+8+4≤maxLen:=by unfold maxLen;omega
 have hz13:w.heap.size+1≤w4.heap.size:=by omega
 go_wp2_with (at_builtin;go_must (refine z0l z2o rfl _ _ rfl (v:=v3) (xv:=v4) rfl rfl (B:=w.heap.size+1) O4.out src4.out (z1c (bigB root 4)) hz12 (by omega) hz13 ?_);intro v5 w5 o5 f5 k5 nil5;have d1:=f5.cellO O4.out d1 (Nat.lt_succ_self _))
 have HF5:Hid (Fr C0 w w5):=zhd ((HF3.out.trans0 f4).transO f5 (fun b e=>by have:=(O4.out.lt b e).1;omega))
 have O5:=zhd o5
 have hs5:=f5.size
 clear o5 O4 src4
 rw[HA.out]
 refine(H4n.out w5).mono ?_
 rintro e w6 ⟨v6,rfl,f6,o6⟩
 have O6:=zhd (z0m O5.out f6 (fun _ _ h=>h))
 have src6:=zhd (Row.ofOwn o6 (F:=fun _=>True) (fun _ _=>trivial))
 have hz14:4+8+4+4≤maxLen:=by unfold maxLen;omega
 have hs6:=f6.size
 have hz15:w.heap.size+1≤w6.heap.size:=by omega
 clear o6 O5
 go_wp2_with (at_builtin;go_must (refine z0l z2o rfl _ _ rfl (v:=v5) (xv:=v6) rfl rfl (B:=w.heap.size+1) O6.out src6.out (z1c (bigB (n % 4294967296) 4)) hz14 (by omega) hz15 ?_);intro v7 w7 o7 f7 k7 nil7)
 go_ret
 refine⟨v7,rfl,(HF5.out.trans0 f6).transO f7 (fun b e=>by have:=(O6.out.lt b e).1;omega),?_⟩
 have:=z0n o7 (B':=w.heap.size) (fun b hb=>by have:=(o7.lt b hb).1;omega)
 simpa [headB] using this
end
end Go.Proofs.YtidalepbkljkpaaGreat

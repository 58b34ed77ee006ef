import Derived.Test.YtcmicdcikechkaaGreatPlays05
import Derived.Test.YtcmicdcikechkaaGreatPlays03
import Derived.Test.YtcmicdcikechkaaGreatPlays04
set_option linter.all false
set_option autoImplicit true
set_option relaxedAutoImplicit true
namespace Go.Proofs.YtcmicdcikechkaaGreat
open Go.RowKit Go.H
set_option maxHeartbeats 1000000
set_option maxRecDepth 100000
section
def FlushR (F:Nat→Prop) (w:World) (d m:Nat) (s:DSt) (err:Int) (w':World):Prop:=Fr (fun b=>b=m∨b=d) w w'∧((err=0∧DiskA F w' d m (.slice none 0 0) s.tick.flush)∨(err=20∧FellD F w' d m s))
theorem z3s {d m:Nat} (h:DiskA F w d m ov s) (hd:s.down=false) (hF:∀b,w.heap.size≤b→F b) (hm:¬F m) (hdF:¬F d) (hdm:d≠m) (hom:∀b,ov.ownBlock=some b→b≠m) (hod:∀b,ov.ownBlock=some b→b≠d):
 Calls Tryz.prog 79 #[.pointer (some ⟨d,0,none⟩)] w fun e w'=>∃err:Int,e=.returned (.int .i64 err)∧Hid (FlushR F w d m s err w'):=by
 have HS:=zhd (z3q h hd hm hdF hdm hom hod)
 have h3:=z2g h.blk 3 rfl
 clear h
 rw[hd] at h3
 go_enter Tryz.func79,Tryz.ntmps79
 go_wp2_with fail
 refine HS.out.mono ?_
 rintro e w1 ⟨bb,rfl,HR⟩
 obtain⟨fr1,(⟨rfl,h,f1⟩|⟨rfl,hfell⟩)⟩:=HR.out
 case inr=>
  have HE:=zhd (show FlushR F w d m s 20 w1 from⟨fr1,.inr ⟨rfl,hfell.1,by obtain⟨f,a,b⟩:=hfell.2;exact⟨f,a,b.mono fun b hb _=>hb.elim id (hF b)⟩⟩⟩)
  clear HR HS fr1 hfell
  go_wp2
  go_ret
  exact⟨20,rfl,HE⟩
 have F01:=zhd f1
 clear HR HS fr1 h3
 obtain⟨s2,hs2⟩:∃s2,s.tick=s2:=⟨_,rfl⟩
 rw[hs2] at h
 have HS2:=zhd hs2
 have hs1:=f1.size
 clear hs2 f1
 have HD:=zhd h
 have h2:=z2g h.blk 2 rfl
 obtain⟨xs,o1,o2⟩:=h.opn
 have HR:=zhd (Row.ofOwn o1 (F:=fun b=>b<w1.heap.size∧b≠m∧b≠d) (fun b hb=>⟨(o1.lt b hb).2,hom b hb,hod b hb⟩))
 have HO:=zhd o2
 have HOM:=zhd hom
 have hs:=h.small
 obtain⟨A,c,rfl,hc1,hc2⟩:=HR.out.form
 clear h o1 o2 hom
 go_wp2
 go_loopw [18] (fun i wr=>∃n:Nat,n≤s2.opn.length∧i=.int .i64 (n:Int)∧Hid (DiskA F wr d m (.slice A s2.opn.length c) (layAll s2 (s2.opn.take n)))∧Hid (Fr (fun b=>b=m) w1 wr)) (fun i _=>s2.opn.length-(intOf i).toNat)
 case atStart=>exact⟨0,Nat.zero_le _,by go_num,HD,zhd (Fr.refl _ _)⟩
 case round=>
  obtain⟨n,hn,rfl,HDn,HF⟩:=hrel
  by_cases hlt:n<s2.opn.length
  · obtain⟨q1,v,q2,q3,q4⟩:=HO.out.at_ n hlt
    obtain⟨g,o,rfl,hg,hc⟩:=HR.out.cells q1
    have r1:=HF.out.cell (hc _ _ q1) hg.2.1
    have r2:wr.cell? ⟨g,o+n*2+1,none⟩=some v:=HF.out.cell (hc _ _ q2) hg.2.1
    have q3':BytesAt F wr v s2.opn[n].2:=q3.fr HF.out (fun b hb h=>hm (h▸hb))
    obtain⟨vA,vc,rfl,-⟩:=id q3
    have HL:=zhd (z3f (HDn.out.fr0 ((Fr.refl C0 wr).alloc (.cells #[.int .i64 (s2.opn[n].1:Int),.slice vA s2.opn[n].2.length vc] 153))) (q3'.fr0 ((Fr.refl C0 wr).alloc _)) q4 (n:=8192) (Nat.le_refl _) (k:=s2.opn[n].1) (fun b hb=>hF b (by have:=HF.out.size;simp at hb;omega)) hm hdm HOM.out)
    clear q1 q2 q3 q4 hc HO HR q3'
    go_wp2_with fail
    refine HL.out.mono ?_
    rintro e w' ⟨rfl,D2,f2⟩
    go_wp2
    go_roundw
    case rel=>exact⟨n+1,by omega,by go_num,zhd (by rw[z2c hlt];exact D2),zhd ((HF.out.alloc _).trans f2 (fun _ _ h=>h))⟩
    case measure=>simp[intOf];omega
  · have e1:n=s2.opn.length:=by omega
    subst e1
    clear HO HR
    have z:=z2e 2 HDn.out.blk
    have z1:=z2g HDn.out.blk 2 rfl
    go_wp2
    go_ret
    have hb:=z2f (i:=2) HDn.out.blk (.slice none 0 0)
    rw[List.take_length] at HDn hb
    have FS:Fr (fun b=>b=d) wr (wr.setCell ⟨d,2,none⟩ (.slice none 0 0)):=(Fr.refl (fun b=>b=d) wr).setCell (.inr rfl) _
    obtain rfl:=HS2.out
    refine⟨0,rfl,zhd ⟨((F01.out.mono (C2:=fun b=>b=m∨b=d) (fun _ _ h=>.inr h)).trans (HF.out.mono (fun _ _ h=>.inl h)) (fun _ _ h=>h)).trans FS (fun _ _ h=>.inr h),.inl ⟨rfl,?_,HDn.out.kept.fr FS (fun h=>hdm h.symm) (fun b hb h=>hdF (h▸hb)),⟨[],World.ownsRow_nil _ _ _ _,.nil⟩,by simp[DSt.flush]⟩⟩⟩
    simpa [DSt.flush] using hb
end
end Go.Proofs.YtcmicdcikechkaaGreat
namespace Go.H
open Go.RowKit
section
def U32 (x:Int):Prop:=0≤x∧x<4294967296
theorem z3t (b:BinOp) (x y:Int):U32 (bits b .u32 x y):=by
 unfold U32 bits
 simp only[IntKind.wrap_u32]
 omega
def crcStep (r:Int):Int:=if bits .and .u32 r 1=1 then bits .xor .u32 (r / 2) 2197175160 else r / 2
theorem z3u {r:Int} (h:U32 r):U32 (crcStep r):=by
 unfold crcStep
 split
 · exact z3t _ _ _
 · obtain⟨h1,h2⟩:=h;constructor<;>omega
def crcN (i:Nat):Nat→Int
 |0=>i
 |n+1=>crcStep (crcN i n)
theorem z3v {i:Nat} (h:i<256):∀n,U32 (crcN i n)
 |0=>⟨by simp[crcN],by simp[crcN];omega⟩
 |n+1=>z3u (z3v h n)
def tab:Nat→Nat→Int
 |0,i=>crcN i 8
 |k+1,i=>bits .xor .u32 (tab k i / 256) (crcN (tab k i % 256).toNat 8)
theorem z3w {i:Nat} (h:i<256):∀k,U32 (tab k i)
 |0=>z3v h 8
 |k+1=>z3t _ _ _
def tabRow (k:Nat):List Value:=(List.range 256).map fun i=>.int .u32 (tab k i)
theorem z3x (k:Nat):(tabRow k).length=256:=by rw[tabRow,List.length_map,List.length_range]
theorem z3y {k i:Nat} (h:i<256):(tabRow k)[i]?=some (.int .u32 (tab k i)):=by
 rw[tabRow,List.getElem?_map,List.getElem?_range h];rfl
theorem wraps_u32' (n:Int) (h₀:0≤n) (h₁:n<2 ^ 32):IntKind.u32.wrap n=n:=by
 rw[IntKind.wrap_u32]
 have:(2:Int) ^ 32=4294967296:=by decide
 omega
theorem z3z {x:Int} (h:U32 x):bits .and .u32 x 255=x % 256:=bits_mask .u32 32 (by decide) wraps_u32' 8 (by decide) x h.1 h.2
def crcByte (r:Int) (c:UInt8):Int:=bits .xor .u32 (r / 256) (tab 0 (bits .xor .u8 (r % 256) (c.toNat:Int)).toNat)
def crc4in (r:Int) (a b c d:UInt8):Int:=bits .xor .u32 r (bits .or .u32 (bits .or .u32 (bits .or .u32 (a.toNat:Int) ((b.toNat:Int)*256)) ((c.toNat:Int)*65536)) ((d.toNat:Int)*16777216))
def crc4out (r:Int):Int:=bits .xor .u32 (bits .xor .u32 (bits .xor .u32 (tab 3 (r % 256).toNat) (tab 2 (r / 256 % 256).toNat)) (tab 1 (r / 65536 % 256).toNat)) (tab 0 (r / 16777216).toNat)
def crcAll (r:Int):List UInt8→Int
 |a::b::c::d::l=>crcAll (crc4out (crc4in r a b c d)) l
 |a::l=>crcAll (crcByte r a) l
 |[]=>r
def crc (l:List UInt8):Int:=bits .xor .u32 IntKind.u32.max (crcAll 4294967295 l)
theorem z40 (l:List UInt8):U32 (crc l):=z3t _ _ _
theorem z41 (x:Int) (a:UInt8) (l:List UInt8) (h:l.length≤2):crcAll x (a::l)=crcAll (crcByte x a) l:=by
 match l,h with
 |[],_=>rfl
 |[b],_=>rfl
 |[b,c],_=>rfl
theorem z42 (b:BinOp) (x y:Int):0≤bits b .u8 x y∧bits b .u8 x y<256:=by
 unfold bits
 simp only[IntKind.wrap_u8]
 omega
end
end Go.H
namespace Go.Proofs.YtcmicdcikechkaaGreat
open Go.RowKit Go.H
set_option maxHeartbeats 1000000
set_option maxRecDepth 100000
section
theorem z43 {w:World} {n:Nat} {v:Value} {cs:List Value} (hn:n<256) (h:cs[n]?=some v) (h1:v.oneCell'=true):(Instr.index 183 (.agg cs.toArray) (.int .i64 (n:Int))).run Tryz.prog w=.ok v w:=by
 have e1:(0:Int)≤(n:Int)∧(n:Int)<((256:Nat):Int):=by omega
 have e2:(sizeOf 174).run Tryz.prog w=.ok 1 w:=by kernel_rfl
 have e3:(isAgg 174).run Tryz.prog w=.ok false w:=by kernel_rfl
 simp[Instr.index,run_underlying Tryz.underlying183,asIntOf,go_sem,e1,e2,e3,h,Sem.run_bind]
 omega
end
section
theorem z44 {g:Nat} (hg:w.heap[g]?=some (.cells cs 185 (0,0))) (hn:cs.size=1024):
 Calls Tryz.prog 122 #[.pointer (some ⟨g,0,none⟩)] w fun e w'=>e=.returned (.tuple #[])∧Fr (fun b=>b=g) w w'∧∃cs',w'.heap[g]?=some (.cells cs' 185 (0,0))∧∀k i,k<4→i<256→cs'[k*256+i]?=some (.int .u32 (tab k i)):=by
 go_enter Tryz.func122,Tryz.ntmps122
 go_wp2
 go_loopw [2,3,4,8,13] (fun a b c i j wr=>∃(n:Nat) (cs':Array Value),n≤256∧i=.int .i64 (n:Int)∧Hid (Fr (fun b=>b=g) w wr)∧Hid (cs'.size=1024)∧Hid (wr.heap[g]?=some (.cells cs' 185 (0,0)))∧Hid (∀i:Nat,i<n→cs'[i]?=some (.int .u32 (tab 0 i)))) (fun _ _ _ i _ _=>256-(intOf i).toNat)
 case atStart=>exact⟨0,cs,by omega,rfl,zhd (Fr.refl _ _),zhd hn,zhd hg,zhd (fun i h=>absurd h (by omega))⟩
 case round=>
  obtain⟨n,cs',hn',rfl,HF,HS,HG,HT⟩:=hrel
  by_cases hlt:n<256
  · go_wp2
    go_loopw [3,4,13] (fun a b j wr2=>∃m:Nat,m≤8∧a=.int .u32 (crcN n m)∧j=.int .i64 (m:Int)∧wr2=wr) (fun _ _ j _=>8-(intOf j).toNat)
    case atStart=>exact⟨0,by omega,by simp[crcN],rfl,rfl⟩
    case round=>
     obtain⟨m,hm,rfl,rfl,rfl⟩:=hrel
     by_cases hl8:m<8
     · have hc:crcN n (m+1)=crcStep (crcN n m):=rfl
       have hu:=z3v hlt m
       unfold crcStep at hc
       by_cases hb:bits .and .u32 (crcN n m) 1=1
       · rw[if_pos hb] at hc
         go_wp2
         go_roundw
         case rel=>exact⟨m+1,by omega,by rw[hc],by go_num,trivial⟩
         case measure=>simp[intOf];omega
       · rw[if_neg hb] at hc
         go_wp2
         go_roundw
         case rel=>exact⟨m+1,by omega,by rw[hc],by go_num,trivial⟩
         case measure=>simp[intOf];omega
     · obtain rfl:m=8:=by omega
       have z:=z2e n HG.out
       have z1:wr.cell? ⟨g,n,none⟩=cs'[n]?:=cell_of_row wr g n _ _ _ HG.out
       rw[Array.getElem?_eq_getElem (by rw[HS.out];omega)] at z1
       have hT:=HT.out
       have hS:=HS.out
       go_wp2
       go_roundw
       case rel=>
        refine⟨n+1,cs'.setIfInBounds n (.int .u32 (crcN n 8)),by omega,by go_num,zhd (HF.out.trans ((Fr.refl (fun b=>b=g) wr).setCell (.inr rfl) _) (fun _ _ h=>h)),zhd (by simp[hS]),zhd (z2f HG.out _),zhd fun i hi=>?_⟩
        rw[Array.getElem?_setIfInBounds]
        by_cases hin:n=i
        · subst hin;rw[if_pos rfl,if_pos (by omega)];rfl
        · rw[if_neg hin];exact hT i (by omega)
       case measure=>simp[intOf];omega
  · obtain rfl:n=256:=by omega
    go_wp2
    go_loopw [5,6,7,41] (fun a b c j wr2=>∃(k:Nat) (cs':Array Value),1≤k∧k≤4∧a=.int .i64 (k:Int)∧Hid (Fr (fun b=>b=g) w wr2)∧Hid (cs'.size=1024)∧Hid (wr2.heap[g]?=some (.cells cs' 185 (0,0)))∧Hid (∀k2 i:Nat,k2<k→i<256→cs'[k2*256+i]?=some (.int .u32 (tab k2 i)))) (fun a _ _ _ _=>4-(intOf a).toNat)
    case atStart=>exact⟨1,cs',by omega,by omega,rfl,HF,HS,HG,zhd (fun k2 i hk hi=>by rw[show k2=0 by omega,Nat.zero_mul,Nat.zero_add];exact HT.out i hi)⟩
    case round=>
     obtain⟨k,cs',hk1,hk4,rfl,HF,HS,HG,HT⟩:=hrel
     by_cases hlt:k<4
     · have hk:∃k',k=k'+1∧k'<3:=⟨k-1,by omega,by omega⟩
       obtain⟨k',rfl,hk3⟩:=hk
       clear hk1 hk4
       have hrow:wr.rangeAt g (k'*256) (tabRow k'):=by
        intro j v hj
        rw[cell_of_row wr g _ _ _ _ HG.out]
        by_cases hj2:j<256
        · rw[z3y hj2] at hj
          rw[HT.out k' j (by omega) hj2];exact hj
        · rw[List.getElem?_eq_none (by rw[z3x];omega)] at hj;cases hj
       have hsz:(Tryz.prog.info? 183).map (·.size)=some (tabRow k').length:=by rw[z3x];kernel_rfl
       have HSZ:=zhd hsz
       clear hsz
       have HROW:=zhd hrow
       clear hrow
       go_wp2_with (go_loud (refine wpList_load_mid rfl 183 (.tmp 39) rfl g (k'*256) rfl _ _ HROW.out Tryz.underlying183 rfl HSZ.out ?_))
       have HT1:=zhd HT.out
       clear HROW
       go_loopw [6,7,41] (fun b c j wr2=>∃(n:Nat) (cs':Array Value),n≤256∧j=.int .i64 (n:Int)∧Hid (Fr (fun b=>b=g) w wr2)∧Hid (cs'.size=1024)∧Hid (wr2.heap[g]?=some (.cells cs' 185 (0,0)))∧Hid (∀k2 i:Nat,k2<k'+1∨(k2=k'+1∧i<n)→i<256→cs'[k2*256+i]?=some (.int .u32 (tab k2 i)))) (fun _ _ j _=>256-(intOf j).toNat)
       case atStart=>exact⟨0,cs',by omega,rfl,HF,HS,HG,zhd (fun k2 i hk hi=>HT.out k2 i (by omega) hi)⟩
       case round=>
        clear HF HS HG HT HT1
        obtain⟨n,cs',hn',rfl,HF,HS,HG,HT⟩:=hrel
        by_cases hlt:n<256
        · have hu:=z3w hlt k'
          have hix:=z3y (k:=k') hlt
          have hidx:=z43 (w:=wr) hlt hix rfl
          go_wp2_with fail
          have h255:=z3z hu
          have hm:(tab k' n % 256).toNat<256:=by omega
          have c0:wr.cell? ⟨g,(tab k' n % 256).toNat,none⟩=some (.int .u32 (tab 0 (tab k' n % 256).toNat)):=by
           rw[cell_of_row wr g _ _ _ _ HG.out];simpa using HT.out 0 _ (by omega) hm
          have hp0:0≤tab k' n % 256:=by omega
          have hp1:tab k' n % 256<256:=by omega
          have hp2:(0:Int)≤(k':Int)+1:=by omega
          have z1:wr.cell? ⟨g,(k'+1)*256+n,none⟩=cs'[(k'+1)*256+n]?:=cell_of_row wr g _ _ _ _ HG.out
          rw[Array.getElem?_eq_getElem (by rw[HS.out];omega)] at z1
          have z0:=z2e ((k'+1)*256+n) HG.out
          refine z1r (Fr C0 wr) [16] (by kernel_rfl) ?_
          have hSw0:(Fr C0 wr) _:=(Fr.refl _ wr).drew
          refine tk 0 hSw0 ?_
          refine tk 1 hSw0 ?_
          refine tk 2 hSw0 ?_
          refine tk 3 hSw0 ?_
          refine tk 4 hSw0 ?_
          refine tk 5 hSw0 ?_
          refine tk 6 hSw0 ?_
          refine tk 7 hSw0 ?_
          refine tk 8 hSw0 ?_
          refine tk 9 hSw0 ?_
          refine tk 10 hSw0 ?_
          refine tk 11 hSw0 ?_ (hy:=by intro w_ hS_;have c1:=hS_.cell0 c0;first|(go_simp;done)|(go_simp;with_reducible rfl))
          refine tk 12 hSw0 ?_
          refine tk 13 hSw0 ?_
          refine tk 14 hSw0 ?_
          refine tk 15 hSw0 ?_
          refine z1o 16 rfl (fun K hK=>?_)
          have z2:=hSw0.cell0 z1
          have z3:=(hSw0.frozen (World.block_lt_of_cell? wr _ z1) (fun h=>h)).trans z0
          go_simp
          refine hK.out _ _ ?_;clear hK K
          try simp only[Act.put,zs1,zs2,zs3]
          refine z1q (by kernel_rfl) ?_ _
          have hv:bits .xor .u32 (tab k' n / 256) (tab 0 (tab k' n % 256).toNat)=tab (k'+1) n:=rfl
          rw[hv]
          have hFS:Hid (Fr (fun b=>b=g) w (wr.setCell ⟨g,(k'+1)*256+n,none⟩ (.int .u32 (tab (k'+1) n))).drew):=zhd ((HF.out.trans ((Fr.refl (fun b=>b=g) wr).setCell (.inr rfl) _) (fun _ _ h=>h)).drew)
          have hGS:Hid ((wr.setCell ⟨g,(k'+1)*256+n,none⟩ (.int .u32 (tab (k'+1) n))).drew.heap[g]?=some (.cells (cs'.setIfInBounds ((k'+1)*256+n) (.int .u32 (tab (k'+1) n))) 185 (0,0))):=zhd (z2f HG.out _)
          have hS:=HS.out
          have hT:=HT.out
          go_wp2
          refine⟨?_,?measure3⟩
          case' measure3=>simp[intOf];omega
          refine⟨n+1,_,by omega,by go_num,hFS,zhd (by simp[hS]),hGS,zhd fun k2 i hk hi=>?_⟩
          rw[Array.getElem?_setIfInBounds]
          by_cases hin:(k'+1)*256+n=k2*256+i
          · rw[if_pos hin,if_pos (by omega)]
            obtain rfl:k2=k'+1:=by omega
            obtain rfl:i=n:=by omega
            rfl
          · rw[if_neg hin];exact hT k2 i (by omega) hi
        · obtain rfl:n=256:=by omega
          go_wp2
          refine⟨?_,?measure2⟩
          case' measure2=>simp[intOf];omega
          repeat apply Exists.intro
          refine⟨?rel2,rfl⟩
          case' rel2=>exact⟨k'+1+1,cs',by omega,by omega,by go_num,HF,HS,HG,zhd (fun k2 i hk hi=>HT.out k2 i (by omega) hi)⟩
     · obtain rfl:k=4:=by omega
       go_wp2
       go_end0
       exact⟨rfl,HF.out,cs',HG.out,HT.out⟩
end
section
theorem z45 (h:BytesAt F w v l) (hn:l.length≤100000):
 Calls Tryz.prog 117 #[v] w fun e w'=>e=.returned (.int .u32 (crc l))∧Fr C0 w w':=by
 have HR:=zhd h
 obtain⟨A,c,rfl,h1,h2⟩:=h.form
 go_enter Tryz.func117,Tryz.ntmps117
 go_wp2_with fail
 refine(z44 (heap_alloc_new w _) (by kernel_rfl)).mono ?_
 rintro e w1 ⟨rfl,f1,cs,hg,hT⟩
 have HF1:Hid (Fr C0 w w1):=zhd (((Fr.refl C0 w).alloc _).trans f1 (fun i hi h=>absurd h (by omega)))
 have HG:=zhd hg
 have HT:=zhd hT
 clear f1 hg hT h
 go_wp2
 go_loopw [0,4] (fun b r wr=>∃(A:Option Addr) (c:Nat) (l2:List UInt8) (x:Int),b=.slice A l2.length c∧l2.length≤100000∧l2.length≤c∧r=.int .u32 x∧Hid (BytesAt F wr (.slice A l2.length c) l2)∧Hid (crcAll x l2=crcAll 4294967295 l)∧Hid (U32 x)∧Hid (Fr C0 w wr)∧Hid (wr.heap[w.heap.size]?=some (.cells cs 185 (0,0)))) (fun b _ _=>match b with|.slice _ n _=>n|_=>0)
 case atStart=>exact⟨A,c,l,_,rfl,hn,h1,rfl,zhd (HR.out.fr0 HF1.out),zhd rfl,zhd ⟨by omega,by omega⟩,HF1,HG⟩
 case round=>
  clear HF1 HG HR h1 h2 hn
  obtain⟨A,c,l2,x,rfl,hn,hc,rfl,HB,HC,HU,HF,HG⟩:=hrel
  by_cases h4:4≤l2.length
  · obtain⟨g,o,rfl,_,b0⟩:=HB.out.at_ 0 (by omega)
    obtain⟨g',o',he1,_,b1⟩:=HB.out.at_ 1 (by omega)
    obtain⟨g',o',he2,_,b2⟩:=HB.out.at_ 2 (by omega)
    obtain⟨g',o',he3,_,b3⟩:=HB.out.at_ 3 (by omega)
    cases he1;cases he2;cases he3
    rw[Nat.add_zero] at b0
    have i0:(0:Int)<(l2.length:Int):=by omega
    have i1:(1:Int)<(l2.length:Int):=by omega
    have i2:(2:Int)<(l2.length:Int):=by omega
    have i3:(3:Int)<(l2.length:Int):=by omega
    have j0:0<l2.length:=by omega
    have j1:1<l2.length:=by omega
    have j2:2<l2.length:=by omega
    have j3:3<l2.length:=by omega
    have y0:=l2[0].toNat_lt
    have y1:=l2[1].toNat_lt
    have y2:=l2[2].toNat_lt
    have y3:=l2[3].toNat_lt
    have w1':IntKind.u32.wrap ((l2[1].toNat:Int)*256)=(l2[1].toNat:Int)*256:=wraps_u32' _ (by omega) (by omega)
    have w2':IntKind.u32.wrap ((l2[2].toNat:Int)*65536)=(l2[2].toNat:Int)*65536:=wraps_u32' _ (by omega) (by omega)
    have w3':IntKind.u32.wrap ((l2[3].toNat:Int)*16777216)=(l2[3].toNat:Int)*16777216:=wraps_u32' _ (by omega) (by omega)
    go_wp2
    refine z1r (Fr C0 wr) [] (by kernel_rfl) ?_
    have hSw0:(Fr C0 wr) _:=(Fr.refl _ wr).drew
    refine tk 0 hSw0 ?_
    refine tk 1 hSw0 ?_
    refine tk 2 hSw0 ?_
    refine tk 3 hSw0 ?_ (hy:=by intro w_ hS_;have c0:=hS_.cell0 b0;have c1:=hS_.cell0 b1;have c2:=hS_.cell0 b2;have c3:=hS_.cell0 b3;first|(go_simp;done)|(go_simp;with_reducible rfl))
    refine tk 4 hSw0 ?_
    refine tk 5 hSw0 ?_
    refine tk 6 hSw0 ?_
    refine tk 7 hSw0 ?_ (hy:=by intro w_ hS_;have c0:=hS_.cell0 b0;have c1:=hS_.cell0 b1;have c2:=hS_.cell0 b2;have c3:=hS_.cell0 b3;first|(go_simp;done)|(go_simp;with_reducible rfl))
    refine tk 8 hSw0 ?_
    refine tk 9 hSw0 ?_
    refine tk 10 hSw0 ?_
    refine tk 11 hSw0 ?_
    refine tk 12 hSw0 ?_
    refine tk 13 hSw0 ?_ (hy:=by intro w_ hS_;have c0:=hS_.cell0 b0;have c1:=hS_.cell0 b1;have c2:=hS_.cell0 b2;have c3:=hS_.cell0 b3;first|(go_simp;done)|(go_simp;with_reducible rfl))
    refine tk 14 hSw0 ?_
    refine tk 15 hSw0 ?_
    refine tk 16 hSw0 ?_
    refine tk 17 hSw0 ?_
    refine tk 18 hSw0 ?_
    refine tk 19 hSw0 ?_ (hy:=by intro w_ hS_;have c0:=hS_.cell0 b0;have c1:=hS_.cell0 b1;have c2:=hS_.cell0 b2;have c3:=hS_.cell0 b3;first|(go_simp;done)|(go_simp;with_reducible rfl))
    refine tk 20 hSw0 ?_
    refine tk 21 hSw0 ?_
    refine tk 22 hSw0 ?_
    refine tk 23 hSw0 ?_
    refine tk 24 hSw0 ?_
    refine z1q (by kernel_rfl) ?_ _
    have q0:IntKind.u32.wrap (l2[0].toNat:Int)=(l2[0].toNat:Int):=wraps_u32' _ (by omega) (by omega)
    have q1:IntKind.u32.wrap (l2[1].toNat:Int)=(l2[1].toNat:Int):=wraps_u32' _ (by omega) (by omega)
    have q2:IntKind.u32.wrap (l2[2].toNat:Int)=(l2[2].toNat:Int):=wraps_u32' _ (by omega) (by omega)
    have q3:IntKind.u32.wrap (l2[3].toNat:Int)=(l2[3].toNat:Int):=wraps_u32' _ (by omega) (by omega)
    simp only[q0,q1,q2,q3,w1',w2',w3']
    have hx4:bits .xor .u32 x (bits .or .u32 (bits .or .u32 (bits .or .u32 (l2[0].toNat:Int) ((l2[1].toNat:Int)*256)) ((l2[2].toNat:Int)*65536)) ((l2[3].toNat:Int)*16777216))=crc4in x l2[0] l2[1] l2[2] l2[3]:=rfl
    rw[hx4]
    have hu4:U32 (crc4in x l2[0] l2[1] l2[2] l2[3]):=z3t _ _ _
    clear hx4 q0 q1 q2 q3 w1' w2' w3' b0 b1 b2 b3 i0 i1 i2 i3 y0 y1 y2 y3
    generalize hX:crc4in x l2[0] l2[1] l2[2] l2[3]=X at hu4⊢
    have hXu:=hu4
    obtain⟨ua,ub⟩:=hu4
    have a0:=z3z hXu
    have a1:bits .and .u32 (X / 256) 255=X / 256 % 256:=z3z ⟨by omega,by omega⟩
    have a2:bits .and .u32 (X / 65536) 255=X / 65536 % 256:=z3z ⟨by omega,by omega⟩
    have cellT:∀k i,k<4→i<256→wr.cell? ⟨w.heap.size,k*256+i,none⟩=some (.int .u32 (tab k i)):=fun k i hk hi=>by
     rw[cell_of_row wr _ _ _ _ _ HG.out];exact HT.out k i hk hi
    have t3:wr.cell? ⟨w.heap.size,768+(X % 256).toNat,none⟩=_:=cellT 3 _ (by omega) (by omega)
    have t2:wr.cell? ⟨w.heap.size,512+(X / 256 % 256).toNat,none⟩=_:=cellT 2 _ (by omega) (by omega)
    have t1:wr.cell? ⟨w.heap.size,256+(X / 65536 % 256).toNat,none⟩=_:=cellT 1 _ (by omega) (by omega)
    have t0:wr.cell? ⟨w.heap.size,(X / 16777216).toNat,none⟩=some (.int .u32 (tab 0 (X / 16777216).toNat)):=by simpa using cellT 0 (X / 16777216).toNat (by omega) (by omega)
    have r0:0≤X % 256:=by omega
    have r1:0≤X / 256 % 256:=by omega
    have r2:0≤X / 65536 % 256:=by omega
    have r3:0≤X / 16777216:=by omega
    have s0:X % 256<256:=by omega
    have s1:X / 256 % 256<256:=by omega
    have s2:X / 65536 % 256<256:=by omega
    have s3:X / 16777216<256:=by omega
    clear cellT
    go_wp2
    refine z1r (Fr C0 wr) [] (by kernel_rfl) ?_
    have hSw0:(Fr C0 wr) _:=((Fr.refl _ wr).drew).drew
    refine tk 0 hSw0 ?_
    refine tk 1 hSw0 ?_
    refine tk 2 hSw0 ?_
    refine tk 3 hSw0 ?_
    refine tk 4 hSw0 ?_ (hy:=by intro w_ hS_;have c0:=hS_.cell0 t0;have c1:=hS_.cell0 t1;have c2:=hS_.cell0 t2;have c3:=hS_.cell0 t3;first|(go_simp;done)|(go_simp;with_reducible rfl))
    refine tk 5 hSw0 ?_
    refine tk 6 hSw0 ?_
    refine tk 7 hSw0 ?_
    refine tk 8 hSw0 ?_
    refine tk 9 hSw0 ?_
    refine tk 10 hSw0 ?_ (hy:=by intro w_ hS_;have c0:=hS_.cell0 t0;have c1:=hS_.cell0 t1;have c2:=hS_.cell0 t2;have c3:=hS_.cell0 t3;first|(go_simp;done)|(go_simp;with_reducible rfl))
    refine tk 11 hSw0 ?_
    refine tk 12 hSw0 ?_
    refine tk 13 hSw0 ?_
    refine tk 14 hSw0 ?_
    refine tk 15 hSw0 ?_
    refine tk 16 hSw0 ?_
    refine tk 17 hSw0 ?_ (hy:=by intro w_ hS_;have c0:=hS_.cell0 t0;have c1:=hS_.cell0 t1;have c2:=hS_.cell0 t2;have c3:=hS_.cell0 t3;first|(go_simp;done)|(go_simp;with_reducible rfl))
    refine tk 18 hSw0 ?_
    refine tk 19 hSw0 ?_
    refine tk 20 hSw0 ?_
    refine tk 21 hSw0 ?_
    refine tk 22 hSw0 ?_
    refine tk 23 hSw0 ?_ (hy:=by intro w_ hS_;have c0:=hS_.cell0 t0;have c1:=hS_.cell0 t1;have c2:=hS_.cell0 t2;have c3:=hS_.cell0 t3;first|(go_simp;done)|(go_simp;with_reducible rfl))
    refine tk 24 hSw0 ?_
    refine tk 25 hSw0 ?_
    refine z1q (by kernel_rfl) ?_ _
    go_wp2
    refine⟨?_,by simp;omega⟩
    have hdr:=HB.out.drop (i:=4) h4
    have hform:(if c=4 then some (⟨g,o,none⟩:Addr) else some ⟨g,o+4,none⟩)=(if c=4 then some (⟨g,o,none⟩:Addr) else(some (⟨g,o,none⟩:Addr)).map (·.add 4)):=by
     split<;>rfl
    have hfin:crcAll (crc4out X) (l2.drop 4)=crcAll x l2:=by
     obtain⟨a,b,c',d,l3,rfl⟩:∃a b c' d l3,l2=a::b::c'::d::l3:=by
      match l2,h4 with
      |a::b::c'::d::l3,_=>exact⟨a,b,c',d,l3,rfl⟩
     rw[←hX];rfl
    have hlen:(l2.drop 4).length=l2.length-4:=by simp
    refine⟨_,_,l2.drop 4,crc4out X,by rw[hform,hlen],by rw[hlen];omega,by rw[hlen];omega,rfl,zhd ?_,zhd (hfin.trans HC.out),zhd (z3t _ _ _),zhd HF.out.drew.drew,HG⟩
    rw[hlen]
    exact hdr.fr0 (Fr.refl C0 wr).drew.drew
  · go_wp2
    go_loopw [4,6,64] (fun r _ i wr2=>∃(k:Nat) (x:Int),k≤l2.length∧r=.int .u32 x∧i=.int .i64 (k:Int)∧Hid (crcAll x (l2.drop k)=crcAll 4294967295 l)∧Hid (U32 x)∧wr2=wr) (fun _ _ i _=>l2.length-(intOf i).toNat)
    case atStart=>exact⟨0,x,by omega,rfl,rfl,HC,HU,rfl⟩
    case round=>
     clear HC HU
     obtain⟨k,x,hk,rfl,rfl,HC,HU,rfl⟩:=hrel
     by_cases hlt:k<l2.length
     · obtain⟨g,o,rfl,_,b0⟩:=HB.out.at_ k hlt
       have y0:=l2[k].toNat_lt
       have hu:=HU.out
       obtain⟨ua,ub⟩:=hu
       obtain⟨m0,m1⟩:=z42 .xor (x % 256) (l2[k].toNat:Int)
       have t0:wr.cell? ⟨w.heap.size,(bits .xor .u8 (x % 256) (l2[k].toNat:Int)).toNat,none⟩=some (.int .u32 (tab 0 (bits .xor .u8 (x % 256) (l2[k].toNat:Int)).toNat)):=by
        rw[cell_of_row wr _ _ _ _ _ HG.out];simpa using HT.out 0 _ (by omega) (show(bits .xor .u8 (x % 256) (l2[k].toNat:Int)).toNat<256 by omega)
       go_wp2
       go_roundw
       case rel=>
        have e:=HC.out
        rw[List.drop_eq_getElem_cons hlt,z41 _ _ _ (by simp;omega)] at e
        exact⟨k+1,crcByte x l2[k],by omega,rfl,by go_num,zhd e,zhd (z3t _ _ _),by trivial⟩
       case measure=>simp[intOf];omega
     · obtain rfl:k=l2.length:=by omega
       go_wp2
       go_ret
       have e:=HC.out
       rw[List.drop_length] at e
       have e2:x=crcAll 4294967295 l:=e
       refine⟨?_,HF.out⟩
       subst e2
       rfl
end
section
theorem bvn (u:Nat) (k:Nat):Value.int IntKind.u8 ((u:Int) / (k:Int) % 256)=bv (UInt8.ofNat (u / k)):=by
 simp[bv]<;>omega
theorem bvn1 (u:Nat):Value.int IntKind.u8 ((u:Int) % 256)=bv (UInt8.ofNat u):=by
 simp[bv]<;>omega
theorem mkb2 (w:World):(Instr.makeSlice 30 (.int .i64 2) (.int .i64 2)).run Tryz.prog w=.ok (.slice (some ⟨w.heap.size,0,none⟩) 2 2) (w.alloc (.cells #[.int .u8 0,.int .u8 0] 5)):=by kernel_rfl
theorem z46 (u:Nat) (hu:u<18446744073709551616) (w:World):Calls Tryz.prog 106 #[.int .u64 (u:Int),.int .i64 2] w fun e w'=>∃v',e=.returned v'∧Fr C0 w w'∧w'.ownsRow w.heap.size 5 1 v' 2 ((bigB u 2).map bv):=by
 have hm:=mkb2
 go_enter Tryz.func106,Tryz.ntmps106
 go_wp2
 refine wp_loop_rounds 3 ?_;rw[rounds_succ]
 go_wp2
 rw[rounds_succ]
 go_wp2
 rw[rounds_succ]
 go_wp2
 go_ret
 refine⟨_,rfl,(Fr.refl _ w).alloc _,?_⟩
 have e0:Value.int IntKind.u8 ((u:Int) / 256 % 256)=bv (UInt8.ofNat (u / 256 ^ 1)):=bvn u 256
 have e1:Value.int IntKind.u8 ((u:Int) % 256)=bv (UInt8.ofNat (u / 256 ^ 0)):=by rw[bvn1];simp
 rw[e0,e1]
 exact World.ownsRow_lit w #[bv (UInt8.ofNat (u / 256 ^ 1)),bv (UInt8.ofNat (u / 256 ^ 0))] 2 (Nat.le_refl _) (by unfold maxLen;omega) rfl
theorem mkb4 (w:World):(Instr.makeSlice 30 (.int .i64 4) (.int .i64 4)).run Tryz.prog w=.ok (.slice (some ⟨w.heap.size,0,none⟩) 4 4) (w.alloc (.cells #[.int .u8 0,.int .u8 0,.int .u8 0,.int .u8 0] 5)):=by kernel_rfl
theorem z47 (u:Nat) (hu:u<18446744073709551616) (w:World):Calls Tryz.prog 106 #[.int .u64 (u:Int),.int .i64 4] w fun e w'=>∃v',e=.returned v'∧Fr C0 w w'∧w'.ownsRow w.heap.size 5 1 v' 4 ((bigB u 4).map bv):=by
 have hm:=mkb4
 go_enter Tryz.func106,Tryz.ntmps106
 go_wp2
 refine wp_loop_rounds 5 ?_;rw[rounds_succ]
 go_wp2
 rw[rounds_succ]
 go_wp2
 rw[rounds_succ]
 go_wp2
 rw[rounds_succ]
 go_wp2
 rw[rounds_succ]
 go_wp2
 go_ret
 refine⟨_,rfl,(Fr.refl _ w).alloc _,?_⟩
 have e0:Value.int IntKind.u8 ((u:Int) / 16777216 % 256)=bv (UInt8.ofNat (u / 256 ^ 3)):=bvn u 16777216
 have e1:Value.int IntKind.u8 ((u:Int) / 65536 % 256)=bv (UInt8.ofNat (u / 256 ^ 2)):=bvn u 65536
 have e2:Value.int IntKind.u8 ((u:Int) / 256 % 256)=bv (UInt8.ofNat (u / 256 ^ 1)):=bvn u 256
 have e3:Value.int IntKind.u8 ((u:Int) % 256)=bv (UInt8.ofNat (u / 256 ^ 0)):=by rw[bvn1];simp
 rw[e0,e1,e2,e3]
 exact World.ownsRow_lit w #[bv (UInt8.ofNat (u / 256 ^ 3)),bv (UInt8.ofNat (u / 256 ^ 2)),bv (UInt8.ofNat (u / 256 ^ 1)),bv (UInt8.ofNat (u / 256 ^ 0))] 4 (Nat.le_refl _) (by unfold maxLen;omega) rfl
theorem mkb8 (w:World):(Instr.makeSlice 30 (.int .i64 8) (.int .i64 8)).run Tryz.prog w=.ok (.slice (some ⟨w.heap.size,0,none⟩) 8 8) (w.alloc (.cells #[.int .u8 0,.int .u8 0,.int .u8 0,.int .u8 0,.int .u8 0,.int .u8 0,.int .u8 0,.int .u8 0] 5)):=by kernel_rfl
theorem z48 (u:Nat) (hu:u<18446744073709551616) (w:World):Calls Tryz.prog 106 #[.int .u64 (u:Int),.int .i64 8] w fun e w'=>∃v',e=.returned v'∧Fr C0 w w'∧w'.ownsRow w.heap.size 5 1 v' 8 ((bigB u 8).map bv):=by
 have hm:=mkb8
 go_enter Tryz.func106,Tryz.ntmps106
 go_wp2
 refine wp_loop_rounds 9 ?_;rw[rounds_succ]
 go_wp2
 rw[rounds_succ]
 go_wp2
 rw[rounds_succ]
 go_wp2
 rw[rounds_succ]
 go_wp2
 rw[rounds_succ]
 go_wp2
 rw[rounds_succ]
 go_wp2
 rw[rounds_succ]
 go_wp2
 rw[rounds_succ]
 go_wp2
 rw[rounds_succ]
 go_wp2
 go_ret
 refine⟨_,rfl,(Fr.refl _ w).alloc _,?_⟩
 have e0:Value.int IntKind.u8 ((u:Int) / 72057594037927936)=bv (UInt8.ofNat (u / 256 ^ 7)):=by rw[←bvn u 72057594037927936];congr 1;omega
 have e1:Value.int IntKind.u8 ((u:Int) / 281474976710656 % 256)=bv (UInt8.ofNat (u / 256 ^ 6)):=bvn u 281474976710656
 have e2:Value.int IntKind.u8 ((u:Int) / 1099511627776 % 256)=bv (UInt8.ofNat (u / 256 ^ 5)):=bvn u 1099511627776
 have e3:Value.int IntKind.u8 ((u:Int) / 4294967296 % 256)=bv (UInt8.ofNat (u / 256 ^ 4)):=bvn u 4294967296
 have e4:Value.int IntKind.u8 ((u:Int) / 16777216 % 256)=bv (UInt8.ofNat (u / 256 ^ 3)):=bvn u 16777216
 have e5:Value.int IntKind.u8 ((u:Int) / 65536 % 256)=bv (UInt8.ofNat (u / 256 ^ 2)):=bvn u 65536
 have e6:Value.int IntKind.u8 ((u:Int) / 256 % 256)=bv (UInt8.ofNat (u / 256 ^ 1)):=bvn u 256
 have e7:Value.int IntKind.u8 ((u:Int) % 256)=bv (UInt8.ofNat (u / 256 ^ 0)):=by rw[bvn1];simp
 rw[e0,e1,e2,e3,e4,e5,e6,e7]
 exact World.ownsRow_lit w #[bv (UInt8.ofNat (u / 256 ^ 7)),bv (UInt8.ofNat (u / 256 ^ 6)),bv (UInt8.ofNat (u / 256 ^ 5)),bv (UInt8.ofNat (u / 256 ^ 4)),bv (UInt8.ofNat (u / 256 ^ 3)),bv (UInt8.ofNat (u / 256 ^ 2)),bv (UInt8.ofNat (u / 256 ^ 1)),bv (UInt8.ofNat (u / 256 ^ 0))] 8 (Nat.le_refl _) (by unfold maxLen;omega) rfl
theorem z49 (hl:BytesAt F w v l) (h8:l.length≤8):
 Calls Tryz.prog 114 #[v] w fun e w'=>e=.returned (.int .u64 (smallN l:Int))∧w=w':=by
 obtain⟨A,c,rfl,h1,h2,h3⟩:=hl
 have H3:=zhd h3
 clear h3
 go_enter Tryz.func114,Tryz.ntmps114
 go_wp2
 go_loopw [3,5,8] (fun a b i wr=>∃k:Nat,k≤l.length∧a=.int .u64 (smallN (l.take k):Int)∧i=.int .i64 (k:Int)∧wr=w) (fun _ _ i _=>l.length-(intOf i).toNat)
 case atStart=>exact⟨0,Nat.zero_le _,rfl,rfl,rfl⟩
 case round=>
  obtain⟨k,hk,rfl,rfl,rfl⟩:=hrel
  by_cases hlt:k<l.length
  · obtain⟨g,o,rfl,hFg,hc⟩:=H3.out (by intro h;subst h;simp at hlt)
    have c1:=hc k hlt
    have hsm:=z1d (l.take k)
    clear H3 hc
    have c1':wr.cell? ⟨g,o+k,none⟩=some (.int .u8 (l[k].toNat:Int)):=c1
    have hx:=z1d (l.take (k+1))
    rw[List.take_succ_eq_append_getElem hlt,z19] at hx
    have h9:256 ^ (l.take k++[l[k]]).length≤256 ^ 8:=Nat.pow_le_pow_right (by omega) (by simp;omega)
    have hy:=l[k].toNat_lt
    clear c1 hsm
    have e1:IntKind.u64.wrap ((smallN (l.take k):Int)*256)=(smallN (l.take k):Int)*256:=z11 _ (by omega) (by omega)
    have e2:bits .or .u64 ((smallN (l.take k):Int)*256) (l[k].toNat:Int)=((smallN (l.take (k+1)):Nat):Int):=by
     rw[z12 (by omega) (by omega) (by omega) (by omega),List.take_succ_eq_append_getElem hlt,z19];omega
    have E2:=zhd e2
    clear e2
    go_wp2
    go_roundw
    case rel=>exact⟨k+1,by omega,by rw[E2.out],by go_num,trivial⟩
    case measure=>simp[intOf];omega
  · obtain rfl:k=l.length:=by omega
    clear H3
    go_wp2
    go_ret
    rw[List.take_length]
    exact⟨rfl,rfl⟩
end
end Go.Proofs.YtcmicdcikechkaaGreat

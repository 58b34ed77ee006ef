import Derived.Test.YtidalepbkljkpaaGreatDraftSame03
import Derived.Laws.Shifts
import Derived.Deep.CutRange
import Derived.Deep.CutBlock
import Derived.Deep.DeepCutAuto
set_option linter.all false
namespace Go.Proofs.YtidalepbkljkpaaGreat
open Go.RowKit Go.H
set_option maxRecDepth 100000
section
set_option maxHeartbeats 1000000
theorem z2d {F:Nat→Prop} {w:World} {m:Nat} {L:List (Int×Bs)} (h:KeptAt F w m L) (k:Int) :
 ∃v,(Instr.lookup 110 (.map (some m)) (.int .i64 k) false).run Tryz.prog w=.ok v w∧BytesAt F w v ((aget k L).getD [])∧((aget k L).getD []).length≤8192:=by
 obtain⟨M,h1,h2⟩:=h
 have hz:(zeroValue 40).run Tryz.prog w=.ok (.slice none 0 0) w:=by kernel_rfl
 have hl:=z08 (P:=Tryz.prog) (T:=110) (K:=3) (E:=40) Tryz.underlying110 Tryz.underlying3 hz h1 k false
 rcases z1r h2 (k:=k) with⟨v,b,e1,e2,e3,e4⟩|⟨e1,e2⟩
 · refine⟨v,?_,by rw[e2];exact e3,by rw[e2];exact e4⟩
   rw[hl,z1k,e1];rfl
 · refine⟨.slice none 0 0,?_,by rw[e2];exact⟨none,0,rfl,Nat.le_refl _,by unfold maxLen;omega,fun h=>absurd rfl h⟩,by rw[e2];simp⟩
   rw[hl,z1k,e1];rfl
theorem z2e {F:Nat→Prop} {w:World} {d m:Nat} {ov:Value} {s:DSt} (h:DiskA F w d m ov s) (k:Nat) :
 Calls Tryz.prog 95 #[.pointer (some ⟨d,0,none⟩),.int .i64 (k:Int)] w fun e w'=>e=.returned (.slice (some ⟨w.heap.size,0,none⟩) 8192 8192)∧w'.heap[w.heap.size]?=some (.cells ((s.good k).map bv).toArray 5 (0,0))∧Fr C0 w w':=by
 have hb:=h.blk
 have h1:=z1u hb 1 rfl
 obtain⟨v,hl,hv,hn⟩:=z2d h.kept k
 have HW:=zhd (z2c hv hn)
 clear h hv hn hb
 go_enter Tryz.func95,Tryz.ntmps95
 go_wp2_with fail
 refine HW.out.mono ?_
 rintro e w' ⟨rfl,h2,h3⟩
 go_wp2
 go_ret
 exact⟨rfl,h2,h3⟩
theorem z2f {F:Nat→Prop} {w:World} {d m:Nat} {ov:Value} {s:DSt} (h:DiskA F w d m ov s) :
 Calls Tryz.prog 109 #[.pointer (some ⟨d,0,none⟩)] w fun e w'=>e=.returned (.int .i64 s.blocks)∧w=w':=by
 have h1:=z1u h.blk 0 rfl
 clear h
 go_enter Tryz.func109,Tryz.ntmps109
 go_wp2
 go_ret
 exact⟨rfl,rfl⟩
theorem z2g {F:Nat→Prop} {w:World} {d m:Nat} {ov:Value} {s:DSt} (h:DiskA F w d m ov s) :
 Calls Tryz.prog 38 #[.pointer (some ⟨d,0,none⟩)] w fun e w'=>e=.returned (.bool s.down)∧w=w':=by
 have h1:=z1u h.blk 3 rfl
 clear h
 go_enter Tryz.func38,Tryz.ntmps38
 go_wp2
 go_ret
 exact⟨rfl,rfl⟩
theorem z2h {F:Nat→Prop} {w:World} {d m:Nat} {ov:Value} {s:DSt} (h:DiskA F w d m ov s) :
 Calls Tryz.prog 97 #[.pointer (some ⟨d,0,none⟩)] w fun e w'=>e=.returned (.int .i64 s.life)∧w=w':=by
 have h1:=z1u h.blk 4 rfl
 clear h
 go_enter Tryz.func97,Tryz.ntmps97
 go_wp2
 go_ret
 exact⟨rfl,rfl⟩
@[go_sem] theorem z2i (w : World) : (Instr.makeMap 110 none).run Tryz.prog w = .ok (.map (some w.heap.size)) (w.alloc (.map #[] 0)) := by kernel_rfl
@[go_sem] theorem z2j (w : World) : (Instr.makeMap 136 none).run Tryz.prog w = .ok (.map (some w.heap.size)) (w.alloc (.map #[] 0)) := by kernel_rfl
theorem z2k (w:World) (n:Nat) (h1:1≤n) (h2:n≤4096) :
 Calls Tryz.prog 21 #[.int .i64 (n:Int)] w fun e w'=>e=.returned (.tuple #[.pointer (some ⟨w.heap.size+1,0,none⟩),.int .i64 0])∧Fr C0 w w'∧w'.heap.size=w.heap.size+2∧DiskA (fun _=>False) w' (w.heap.size+1) w.heap.size (.slice none 0 0) ⟨n,[],[],false,0,0,0,0,0⟩:=by
 go_enter Tryz.func21,Tryz.ntmps21
 go_wp2
 go_ret2
 refine⟨rfl,((Fr.refl C0 w).alloc _).alloc _,by simp,⟨?_,?_,⟨[],World.ownsRow_nil _ _ _ _,.nil⟩,by simp⟩⟩
 · have:=heap_alloc_new (w.alloc (.map #[] 0)) (.cells #[.int .i64 n,.map (some w.heap.size),.slice none 0 0,.bool false,.int .i64 0,.int .i64 0,.int .u64 0,.int .i64 0,.int .i64 0] 113)
   simpa using this
 · refine⟨[],(MapIs.made w).fr ((Fr.refl C0 _).alloc _) (fun h=>h),.nil⟩
end
section
set_option maxHeartbeats 1000000
theorem z2l {F:Nat→Prop} {w:World} {d m:Nat} {ov:Value} {s:DSt} (h:DiskA F w d m ov s) (hd:s.down=false) (k:Nat) (hk:k<s.blocks) :
 Calls Tryz.prog 110 #[.pointer (some ⟨d,0,none⟩),.int .i64 (k:Int)] w fun e w'=>e=.returned (.tuple #[.slice (some ⟨w.heap.size,0,none⟩) 8192 8192,.int .i64 0])∧w'.heap[w.heap.size]?=some (.cells ((s.read k).map bv).toArray 5 (0,0))∧Fr C0 w w':=by
 have h0:=z1u h.blk 0 rfl
 have h2:=z1u h.blk 2 rfl
 have h3:=z1u h.blk 3 rfl
 have HG:=zhd (z2e h k)
 obtain⟨xs,o1,o2⟩:=h.opn
 have HR:=zhd (Row.ofOwn o1 (F:=fun b=>True) (fun _ _=>trivial))
 have HO:=zhd o2
 have hs:=h.small
 obtain⟨A,c,rfl,hc1,hc2⟩:=HR.out.form
 clear h o1 o2
 rw[hd] at h3
 go_enter Tryz.func110,Tryz.ntmps110
 go_wp2
 go_loopw [4,5,6] (fun a b i wr=>∃n:Nat,n≤s.opn.length∧a=.slice none 0 0∧b=.int .i64 0∧i=.int .i64 ((n:Int)-1)∧wr=w∧Hid (lastOpen k (s.opn.take n)=lastOpen k s.opn)) (fun _ _ i _=>(intOf i+1).toNat)
 case atStart=>exact⟨s.opn.length,Nat.le_refl _,rfl,rfl,by go_num,rfl,zhd (by rw[List.take_length])⟩
 case round=>
  obtain⟨n,hn,rfl,rfl,rfl,rfl,HA⟩:=hrel
  cases n with
  | succ n =>
    have HT:=zhd (z1q (k:=k) (l:=s.opn) (n:=n) hn)
    obtain⟨q1,v,q2,q3,q4⟩:=HO.out.at_ n hn
    obtain⟨g,o,rfl,_,hc⟩:=HR.out.cells q1
    have r1:=hc _ _ q1
    have r2:wr.cell? ⟨g,o+n*2+1,none⟩=some v:=hc _ _ q2
    have HW:=zhd (z2c q3 (Nat.le_of_eq q4))
    clear q1 q2 q3 q4 hc HO HR
    have e1:(n:Int)+1-1=(n:Int):=by omega
    by_cases hat:s.opn[n].1=k
    · rw[if_pos hat] at HT
      rw[hat] at r1
      go_wp2_with fail
      refine HW.out.mono ?_
      rintro e w' ⟨rfl,h4,h5⟩
      go_wp2
      go_ret2
      refine⟨rfl,?_,h5⟩
      rw[h4,DSt.read,←HA.out,HT.out]
    · rw[if_neg hat] at HT
      have hat2:¬(s.opn[n].1:Int)=(k:Int):=by omega
      go_wp2
      go_roundw
      case rel=>exact⟨n,by omega,rfl,rfl,by go_num,by trivial,zhd (by rw[←HT.out];exact HA.out)⟩
      case measure=>simp[intOf]
  | zero =>
    clear HO HR
    go_wp2_with fail
    refine HG.out.mono ?_
    rintro e w' ⟨rfl,h4,h5⟩
    go_wp2
    go_ret2
    refine⟨rfl,?_,h5⟩
    have:=HA.out
    rw[h4,DSt.read,←this]
    rfl
end
section
set_option maxHeartbeats 1000000
end
section
set_option maxHeartbeats 4000000
def FateRes (w:World) (e:Ending) (w':World):Prop:=∃r:Int,(r=0∨r=1∨r=2)∧e=.returned (.int .i64 r)∧Fr C0 w w'
def layUp (s : DSt) (f : Nat → Option Nat) (l : List (Nat × Bs)) : Nat → DSt
 |0=>s
 | n + 1 => match f n, l[n]? with
   |some m,some p=>(layUp s f l n).lay p.1 p.2 m
   |_,_=>layUp s f l n
def cutF (s:DSt) (f:Nat→Option Nat):DSt:={ layUp s f s.opn s.opn.length with opn:=[],after:=0,keep:=0,torn:=0,cut:=0,down:=true,life:=wrap64 (s.life+1) }
end
section
set_option maxHeartbeats 1000000
def FellD (F:Nat→Prop) (w':World) (d m:Nat) (s:DSt):Prop:=¬s.after<1∧∃f,(∀i n,f i=some n→n≤8192)∧DiskA F w' d m (.slice none 0 0) (cutF s f)
def StrikeR (F:Nat→Prop) (w:World) (d m:Nat) (ov:Value) (s:DSt) (b:Bool) (w':World):Prop:=Fr (fun b=>b=m∨b=d) w w'∧((b=false∧DiskA F w' d m ov s.tick∧Fr (fun b=>b=d) w w')∨(b=true∧FellD (fun b=>F b∨w.heap.size≤b) w' d m s))
def StrikeE (F:Nat→Prop) (w:World) (d m:Nat) (ov:Value) (s:DSt) (e:Ending) (w':World):Prop:=∃b:Bool,e=.returned (.bool b)∧Hid (StrikeR F w d m ov s b w')
end
section
set_option maxHeartbeats 1000000
def WriteR (F:Nat→Prop) (w:World) (d m k:Nat) (ov:Value) (s:DSt) (b:Bs) (err:Int) (w':World):Prop:=Fr (fun b=>ov.ownBlock=some b∨b=m∨b=d) w w'∧((err=0∧
 ∃ov',(∀b,ov'.ownBlock=some b→ov.ownBlock=some b∨w.heap.size≤b)∧DiskA (fun b=>F b∨(w.heap.size≤b∧ov'.ownBlock≠some b)) w' d m ov' (s.tick.write k b)∧Fr (fun b=>ov.ownBlock=some b∨b=d) w w')∨(err=20∧FellD (fun b=>F b∨w.heap.size≤b) w' d m s))
end
section
set_option maxHeartbeats 1000000
def FlushR (F:Nat→Prop) (w:World) (d m:Nat) (s:DSt) (err:Int) (w':World):Prop:=Fr (fun b=>b=m∨b=d) w w'∧((err=0∧DiskA F w' d m (.slice none 0 0) s.tick.flush)∨(err=20∧FellD F w' d m s))
end
end Go.Proofs.YtidalepbkljkpaaGreat
namespace Go.H
open Go.RowKit
section
def U32 (x:Int):Prop:=0≤x∧x<4294967296
theorem z2m (b:BinOp) (x y:Int):U32 (bits b .u32 x y):=by
 unfold U32 bits
 simp only[IntKind.wrap_u32]
 omega
def crcStep (r:Int):Int:=if bits .and .u32 r 1=1 then bits .xor .u32 (r / 2) 2197175160 else r / 2
theorem z2n {r:Int} (h:U32 r):U32 (crcStep r):=by
 unfold crcStep
 split
 · exact z2m _ _ _
 · obtain⟨h1,h2⟩:=h;constructor<;>omega
def crcN (i:Nat):Nat→Int
 |0=>i
 |n+1=>crcStep (crcN i n)
theorem z2o {i:Nat} (h:i<256):∀n,U32 (crcN i n)
 |0=>⟨by simp[crcN],by simp[crcN];omega⟩
 |n+1=>z2n (z2o h n)
def tab:Nat→Nat→Int
 |0,i=>crcN i 8
 |k+1,i=>bits .xor .u32 (tab k i / 256) (crcN (tab k i % 256).toNat 8)
theorem z2p {i:Nat} (h:i<256):∀k,U32 (tab k i)
 |0=>z2o h 8
 |k+1=>z2m _ _ _
def tabRow (k:Nat):List Value:=(List.range 256).map fun i=>.int .u32 (tab k i)
theorem z2q (k:Nat):(tabRow k).length=256:=by rw[tabRow,List.length_map,List.length_range]
theorem z2r {k i:Nat} (h:i<256):(tabRow k)[i]?=some (.int .u32 (tab k i)):=by
 rw[tabRow,List.getElem?_map,List.getElem?_range h];rfl
theorem wraps_u32' (n:Int) (h₀:0≤n) (h₁:n<2 ^ 32):IntKind.u32.wrap n=n:=by
 rw[IntKind.wrap_u32]
 have:(2:Int) ^ 32=4294967296:=by decide
 omega
theorem z2s {x:Int} (h:U32 x):bits .and .u32 x 255=x % 256:=bits_mask .u32 32 (by decide) wraps_u32' 8 (by decide) x h.1 h.2
def crcByte (r:Int) (c:UInt8):Int:=bits .xor .u32 (r / 256) (tab 0 (bits .xor .u8 (r % 256) (c.toNat:Int)).toNat)
def crc4in (r:Int) (a b c d:UInt8):Int:=bits .xor .u32 r (bits .or .u32 (bits .or .u32 (bits .or .u32 (a.toNat:Int) ((b.toNat:Int)*256)) ((c.toNat:Int)*65536)) ((d.toNat:Int)*16777216))
def crc4out (r:Int):Int:=bits .xor .u32 (bits .xor .u32 (bits .xor .u32 (tab 3 (r % 256).toNat) (tab 2 (r / 256 % 256).toNat)) (tab 1 (r / 65536 % 256).toNat)) (tab 0 (r / 16777216).toNat)
def crcAll (r:Int):List UInt8→Int
 |a::b::c::d::l=>crcAll (crc4out (crc4in r a b c d)) l
 |a::l=>crcAll (crcByte r a) l
 |[]=>r
def crc (l:List UInt8):Int:=bits .xor .u32 IntKind.u32.max (crcAll 4294967295 l)
theorem z2t (l:List UInt8):U32 (crc l):=z2m _ _ _
theorem z2u (x:Int) (a:UInt8) (l:List UInt8) (h:l.length≤2):crcAll x (a::l)=crcAll (crcByte x a) l:=by
 match l,h with
 |[],_=>rfl
 |[b],_=>rfl
 |[b,c],_=>rfl
theorem z2v (b:BinOp) (x y:Int):0≤bits b .u8 x y∧bits b .u8 x y<256:=by
 unfold bits
 simp only[IntKind.wrap_u8]
 omega
end
end Go.H
namespace Go.Proofs.YtidalepbkljkpaaGreat
open Go.RowKit Go.H
set_option maxHeartbeats 1000000
set_option maxRecDepth 100000
section
theorem z2w {w:World} {n:Nat} {v:Value} {cs:List Value} (hn:n<256) (h:cs[n]?=some v) (h1:v.oneCell'=true):(Instr.index 259 (.agg cs.toArray) (.int .i64 (n:Int))).run Tryz.prog w=.ok v w:=by
 have e1:(0:Int)≤(n:Int)∧(n:Int)<((256:Nat):Int):=by omega
 have e2:(sizeOf 182).run Tryz.prog w=.ok 1 w:=by kernel_rfl
 have e3:(isAgg 182).run Tryz.prog w=.ok false w:=by kernel_rfl
 simp[Instr.index,run_underlying Tryz.underlying259,asIntOf,go_sem,e1,e2,e3,h,Sem.run_bind]
 omega
end
section
theorem z2x {w:World} {g:Nat} {cs:Array Value} (hg:w.heap[g]?=some (.cells cs 261 (0,0))) (hn:cs.size=1024) :
 Calls Tryz.prog 176 #[.pointer (some ⟨g,0,none⟩)] w fun e w'=>e=.returned (.tuple #[])∧Fr (fun b=>b=g) w w'∧∃cs',w'.heap[g]?=some (.cells cs' 261 (0,0))∧∀k i,k<4→i<256→cs'[k*256+i]?=some (.int .u32 (tab k i)):=by
 go_enter Tryz.func176,Tryz.ntmps176
 go_wp2
 go_loopw [2,3,4,8,13] (fun a b c i j wr=>∃(n:Nat) (cs':Array Value),n≤256∧i=.int .i64 (n:Int)∧Hid (Fr (fun b=>b=g) w wr)∧Hid (cs'.size=1024)∧Hid (wr.heap[g]?=some (.cells cs' 261 (0,0)))∧Hid (∀i:Nat,i<n→cs'[i]?=some (.int .u32 (tab 0 i)))) (fun _ _ _ i _ _=>256-(intOf i).toNat)
 case atStart=>exact⟨0,cs,by omega,rfl,zhd (Fr.refl _ _),zhd hn,zhd hg,zhd (fun i h=>absurd h (by omega))⟩
 case round=>
  obtain⟨n,cs',hn',rfl,HF,HS,HG,HT⟩:=hrel
  by_cases hlt:n<256
  · go_wp2
    go_loopw [3,4,13] (fun a b j wr2=>∃m:Nat,m≤8∧a=.int .u32 (crcN n m)∧j=.int .i64 (m:Int)∧wr2=wr) (fun _ _ j _=>8-(intOf j).toNat)
    case atStart=>exact⟨0,by omega,by simp[crcN],rfl,rfl⟩
    case round=>
     obtain⟨m,hm,rfl,rfl,rfl⟩:=hrel
     by_cases hl8:m<8
     · have hc:crcN n (m+1)=crcStep (crcN n m):=rfl
       have hu:=z2o hlt m
       unfold crcStep at hc
       by_cases hb:bits .and .u32 (crcN n m) 1=1
       · rw[if_pos hb] at hc
         go_wp2
         go_roundw
         case rel=>exact⟨m+1,by omega,by rw[hc],by go_num,trivial⟩
         case measure=>simp[intOf];omega
       · rw[if_neg hb] at hc
         go_wp2
         go_roundw
         case rel=>exact⟨m+1,by omega,by rw[hc],by go_num,trivial⟩
         case measure=>simp[intOf];omega
     · obtain rfl:m=8:=by omega
       have z:=z1s n HG.out
       have z1:wr.cell? ⟨g,n,none⟩=cs'[n]?:=cell_of_row wr g n _ _ _ HG.out
       rw[Array.getElem?_eq_getElem (by rw[HS.out];omega)] at z1
       have hT:=HT.out
       have hS:=HS.out
       go_wp2
       go_roundw
       case rel=>
        refine⟨n+1,cs'.setIfInBounds n (.int .u32 (crcN n 8)),by omega,by go_num,zhd (HF.out.trans ((Fr.refl (fun b=>b=g) wr).setCell (.inr rfl) _) (fun _ _ h=>h)),zhd (by simp[hS]),zhd (z1t HG.out _),zhd fun i hi=>?_⟩
        rw[Array.getElem?_setIfInBounds]
        by_cases hin:n=i
        · subst hin;rw[if_pos rfl,if_pos (by omega)];rfl
        · rw[if_neg hin];exact hT i (by omega)
       case measure=>simp[intOf];omega
  · obtain rfl:n=256:=by omega
    go_wp2
    go_loopw [5,6,7,41] (fun a b c j wr2=>∃(k:Nat) (cs':Array Value),1≤k∧k≤4∧a=.int .i64 (k:Int)∧Hid (Fr (fun b=>b=g) w wr2)∧Hid (cs'.size=1024)∧Hid (wr2.heap[g]?=some (.cells cs' 261 (0,0)))∧Hid (∀k2 i:Nat,k2<k→i<256→cs'[k2*256+i]?=some (.int .u32 (tab k2 i)))) (fun a _ _ _ _=>4-(intOf a).toNat)
    case atStart=>exact⟨1,cs',by omega,by omega,rfl,HF,HS,HG,zhd (fun k2 i hk hi=>by rw[show k2=0 by omega,Nat.zero_mul,Nat.zero_add];exact HT.out i hi)⟩
    case round=>
     obtain⟨k,cs',hk1,hk4,rfl,HF,HS,HG,HT⟩:=hrel
     by_cases hlt:k<4
     · have hk:∃k',k=k'+1∧k'<3:=⟨k-1,by omega,by omega⟩
       obtain⟨k',rfl,hk3⟩:=hk
       clear hk1 hk4
       have hrow:wr.rangeAt g (k'*256) (tabRow k'):=by
        intro j v hj
        rw[cell_of_row wr g _ _ _ _ HG.out]
        by_cases hj2:j<256
        · rw[z2r hj2] at hj
          rw[HT.out k' j (by omega) hj2];exact hj
        · rw[List.getElem?_eq_none (by rw[z2q];omega)] at hj;cases hj
       have hsz:(Tryz.prog.info? 259).map (·.size)=some (tabRow k').length:=by rw[z2q];kernel_rfl
       have HSZ:=zhd hsz
       clear hsz
       have HROW:=zhd hrow
       clear hrow
       go_wp2_with (go_loud (refine wpList_load_mid rfl 259 (.tmp 39) rfl g (k'*256) rfl _ _ HROW.out Tryz.underlying259 rfl HSZ.out ?_))
       have HT1:=zhd HT.out
       clear HROW
       go_loopw [6,7,41] (fun b c j wr2=>∃(n:Nat) (cs':Array Value),n≤256∧j=.int .i64 (n:Int)∧Hid (Fr (fun b=>b=g) w wr2)∧Hid (cs'.size=1024)∧Hid (wr2.heap[g]?=some (.cells cs' 261 (0,0)))∧Hid (∀k2 i:Nat,k2<k'+1∨(k2=k'+1∧i<n)→i<256→cs'[k2*256+i]?=some (.int .u32 (tab k2 i)))) (fun _ _ j _=>256-(intOf j).toNat)
       case atStart=>exact⟨0,cs',by omega,rfl,HF,HS,HG,zhd (fun k2 i hk hi=>HT.out k2 i (by omega) hi)⟩
       case round=>
        clear HF HS HG HT HT1
        obtain⟨n,cs',hn',rfl,HF,HS,HG,HT⟩:=hrel
        by_cases hlt:n<256
        · have hu:=z2p hlt k'
          have hix:=z2r (k:=k') hlt
          have hidx:=z2w (w:=wr) hlt hix rfl
          go_wp2_with fail
          have h255:=z2s hu
          have hm:(tab k' n % 256).toNat<256:=by omega
          have c0:wr.cell? ⟨g,(tab k' n % 256).toNat,none⟩=some (.int .u32 (tab 0 (tab k' n % 256).toNat)):=by
           rw[cell_of_row wr g _ _ _ _ HG.out];simpa using HT.out 0 _ (by omega) hm
          have hp0:0≤tab k' n % 256:=by omega
          have hp1:tab k' n % 256<256:=by omega
          have hp2:(0:Int)≤(k':Int)+1:=by omega
          have z1:wr.cell? ⟨g,(k'+1)*256+n,none⟩=cs'[(k'+1)*256+n]?:=cell_of_row wr g _ _ _ _ HG.out
          rw[Array.getElem?_eq_getElem (by rw[HS.out];omega)] at z1
          have z0:=z1s ((k'+1)*256+n) HG.out
          refine z1i (Fr C0 wr) [16] (by kernel_rfl) ?_
          have hSw0:(Fr C0 wr) _:=(Fr.refl _ wr).drew
          refine tk 0 hSw0 ?_
          refine tk 1 hSw0 ?_
          refine tk 2 hSw0 ?_
          refine tk 3 hSw0 ?_
          refine tk 4 hSw0 ?_
          refine tk 5 hSw0 ?_
          refine tk 6 hSw0 ?_
          refine tk 7 hSw0 ?_
          refine tk 8 hSw0 ?_
          refine tk 9 hSw0 ?_
          refine tk 10 hSw0 ?_
          refine tk 11 hSw0 ?_ (hy:=by intro w_ hS_;have c1:=hS_.cell0 c0;first|(go_simp;done)|(go_simp;with_reducible rfl))
          refine tk 12 hSw0 ?_
          refine tk 13 hSw0 ?_
          refine tk 14 hSw0 ?_
          refine tk 15 hSw0 ?_
          refine z1f 16 rfl (fun K hK=>?_)
          have z2:=hSw0.cell0 z1
          have z3:=(hSw0.frozen (World.block_lt_of_cell? wr _ z1) (fun h=>h)).trans z0
          go_simp
          refine hK.out _ _ ?_;clear hK K
          try simp only[Act.put,zs1,zs2,zs3]
          refine z1h (by kernel_rfl) ?_ _
          have hv:bits .xor .u32 (tab k' n / 256) (tab 0 (tab k' n % 256).toNat)=tab (k'+1) n:=rfl
          rw[hv]
          have hFS:Hid (Fr (fun b=>b=g) w (wr.setCell ⟨g,(k'+1)*256+n,none⟩ (.int .u32 (tab (k'+1) n))).drew):=zhd ((HF.out.trans ((Fr.refl (fun b=>b=g) wr).setCell (.inr rfl) _) (fun _ _ h=>h)).drew)
          have hGS:Hid ((wr.setCell ⟨g,(k'+1)*256+n,none⟩ (.int .u32 (tab (k'+1) n))).drew.heap[g]?=some (.cells (cs'.setIfInBounds ((k'+1)*256+n) (.int .u32 (tab (k'+1) n))) 261 (0,0))):=zhd (z1t HG.out _)
          have hS:=HS.out
          have hT:=HT.out
          go_wp2
          refine⟨?_,?measure3⟩
          case' measure3=>simp[intOf];omega
          refine⟨n+1,_,by omega,by go_num,hFS,zhd (by simp[hS]),hGS,zhd fun k2 i hk hi=>?_⟩
          rw[Array.getElem?_setIfInBounds]
          by_cases hin:(k'+1)*256+n=k2*256+i
          · rw[if_pos hin,if_pos (by omega)]
            obtain rfl:k2=k'+1:=by omega
            obtain rfl:i=n:=by omega
            rfl
          · rw[if_neg hin];exact hT k2 i (by omega) hi
        · obtain rfl:n=256:=by omega
          go_wp2
          refine⟨?_,?measure2⟩
          case' measure2=>simp[intOf];omega
          repeat apply Exists.intro
          refine⟨?rel2,rfl⟩
          case' rel2=>exact⟨k'+1+1,cs',by omega,by omega,by go_num,HF,HS,HG,zhd (fun k2 i hk hi=>HT.out k2 i (by omega) hi)⟩
     · obtain rfl:k=4:=by omega
       go_wp2
       go_end0
       exact⟨rfl,HF.out,cs',HG.out,HT.out⟩
end
section
theorem z2y {F:Nat→Prop} {w:World} {v:Value} {l:List UInt8} (h:BytesAt F w v l) (hn:l.length≤100000) :
 Calls Tryz.prog 157 #[v] w fun e w'=>e=.returned (.int .u32 (crc l))∧Fr C0 w w':=by
 have HR:=zhd h
 obtain⟨A,c,rfl,h1,h2⟩:=h.form
 go_enter Tryz.func157,Tryz.ntmps157
 go_wp2_with fail
 refine(z2x (heap_alloc_new w _) (by kernel_rfl)).mono ?_
 rintro e w1 ⟨rfl,f1,cs,hg,hT⟩
 have HF1:Hid (Fr C0 w w1):=zhd (((Fr.refl C0 w).alloc _).trans f1 (fun i hi h=>absurd h (by omega)))
 have HG:=zhd hg
 have HT:=zhd hT
 clear f1 hg hT h
 go_wp2
 go_loopw [0,4] (fun b r wr=>∃(A:Option Addr) (c:Nat) (l2:List UInt8) (x:Int),b=.slice A l2.length c∧l2.length≤100000∧l2.length≤c∧r=.int .u32 x∧Hid (BytesAt F wr (.slice A l2.length c) l2)∧Hid (crcAll x l2=crcAll 4294967295 l)∧Hid (U32 x)∧Hid (Fr C0 w wr)∧Hid (wr.heap[w.heap.size]?=some (.cells cs 261 (0,0)))) (fun b _ _=>match b with|.slice _ n _=>n|_=>0)
 case atStart=>exact⟨A,c,l,_,rfl,hn,h1,rfl,zhd (HR.out.fr0 HF1.out),zhd rfl,zhd ⟨by omega,by omega⟩,HF1,HG⟩
 case round=>
  clear HF1 HG HR h1 h2 hn
  obtain⟨A,c,l2,x,rfl,hn,hc,rfl,HB,HC,HU,HF,HG⟩:=hrel
  by_cases h4:4≤l2.length
  · obtain⟨g,o,rfl,_,b0⟩:=HB.out.at_ 0 (by omega)
    obtain⟨g',o',he1,_,b1⟩:=HB.out.at_ 1 (by omega)
    obtain⟨g',o',he2,_,b2⟩:=HB.out.at_ 2 (by omega)
    obtain⟨g',o',he3,_,b3⟩:=HB.out.at_ 3 (by omega)
    cases he1;cases he2;cases he3
    rw[Nat.add_zero] at b0
    have i0:(0:Int)<(l2.length:Int):=by omega
    have i1:(1:Int)<(l2.length:Int):=by omega
    have i2:(2:Int)<(l2.length:Int):=by omega
    have i3:(3:Int)<(l2.length:Int):=by omega
    have j0:0<l2.length:=by omega
    have j1:1<l2.length:=by omega
    have j2:2<l2.length:=by omega
    have j3:3<l2.length:=by omega
    have y0:=l2[0].toNat_lt
    have y1:=l2[1].toNat_lt
    have y2:=l2[2].toNat_lt
    have y3:=l2[3].toNat_lt
    have w1':IntKind.u32.wrap ((l2[1].toNat:Int)*256)=(l2[1].toNat:Int)*256:=wraps_u32' _ (by omega) (by omega)
    have w2':IntKind.u32.wrap ((l2[2].toNat:Int)*65536)=(l2[2].toNat:Int)*65536:=wraps_u32' _ (by omega) (by omega)
    have w3':IntKind.u32.wrap ((l2[3].toNat:Int)*16777216)=(l2[3].toNat:Int)*16777216:=wraps_u32' _ (by omega) (by omega)
    go_wp2
    refine z1i (Fr C0 wr) [] (by kernel_rfl) ?_
    have hSw0:(Fr C0 wr) _:=(Fr.refl _ wr).drew
    refine tk 0 hSw0 ?_
    refine tk 1 hSw0 ?_
    refine tk 2 hSw0 ?_
    refine tk 3 hSw0 ?_ (hy:=by intro w_ hS_;have c0:=hS_.cell0 b0;have c1:=hS_.cell0 b1;have c2:=hS_.cell0 b2;have c3:=hS_.cell0 b3;first|(go_simp;done)|(go_simp;with_reducible rfl))
    refine tk 4 hSw0 ?_
    refine tk 5 hSw0 ?_
    refine tk 6 hSw0 ?_
    refine tk 7 hSw0 ?_ (hy:=by intro w_ hS_;have c0:=hS_.cell0 b0;have c1:=hS_.cell0 b1;have c2:=hS_.cell0 b2;have c3:=hS_.cell0 b3;first|(go_simp;done)|(go_simp;with_reducible rfl))
    refine tk 8 hSw0 ?_
    refine tk 9 hSw0 ?_
    refine tk 10 hSw0 ?_
    refine tk 11 hSw0 ?_
    refine tk 12 hSw0 ?_
    refine tk 13 hSw0 ?_ (hy:=by intro w_ hS_;have c0:=hS_.cell0 b0;have c1:=hS_.cell0 b1;have c2:=hS_.cell0 b2;have c3:=hS_.cell0 b3;first|(go_simp;done)|(go_simp;with_reducible rfl))
    refine tk 14 hSw0 ?_
    refine tk 15 hSw0 ?_
    refine tk 16 hSw0 ?_
    refine tk 17 hSw0 ?_
    refine tk 18 hSw0 ?_
    refine tk 19 hSw0 ?_ (hy:=by intro w_ hS_;have c0:=hS_.cell0 b0;have c1:=hS_.cell0 b1;have c2:=hS_.cell0 b2;have c3:=hS_.cell0 b3;first|(go_simp;done)|(go_simp;with_reducible rfl))
    refine tk 20 hSw0 ?_
    refine tk 21 hSw0 ?_
    refine tk 22 hSw0 ?_
    refine tk 23 hSw0 ?_
    refine tk 24 hSw0 ?_
    refine z1h (by kernel_rfl) ?_ _
    have q0:IntKind.u32.wrap (l2[0].toNat:Int)=(l2[0].toNat:Int):=wraps_u32' _ (by omega) (by omega)
    have q1:IntKind.u32.wrap (l2[1].toNat:Int)=(l2[1].toNat:Int):=wraps_u32' _ (by omega) (by omega)
    have q2:IntKind.u32.wrap (l2[2].toNat:Int)=(l2[2].toNat:Int):=wraps_u32' _ (by omega) (by omega)
    have q3:IntKind.u32.wrap (l2[3].toNat:Int)=(l2[3].toNat:Int):=wraps_u32' _ (by omega) (by omega)
    simp only[q0,q1,q2,q3,w1',w2',w3']
    have hx4:bits .xor .u32 x (bits .or .u32 (bits .or .u32 (bits .or .u32 (l2[0].toNat:Int) ((l2[1].toNat:Int)*256)) ((l2[2].toNat:Int)*65536)) ((l2[3].toNat:Int)*16777216))=crc4in x l2[0] l2[1] l2[2] l2[3]:=rfl
    rw[hx4]
    have hu4:U32 (crc4in x l2[0] l2[1] l2[2] l2[3]):=z2m _ _ _
    clear hx4 q0 q1 q2 q3 w1' w2' w3' b0 b1 b2 b3 i0 i1 i2 i3 y0 y1 y2 y3
    generalize hX:crc4in x l2[0] l2[1] l2[2] l2[3]=X at hu4⊢
    have hXu:=hu4
    obtain⟨ua,ub⟩:=hu4
    have a0:=z2s hXu
    have a1:bits .and .u32 (X / 256) 255=X / 256 % 256:=z2s ⟨by omega,by omega⟩
    have a2:bits .and .u32 (X / 65536) 255=X / 65536 % 256:=z2s ⟨by omega,by omega⟩
    have cellT:∀k i,k<4→i<256→wr.cell? ⟨w.heap.size,k*256+i,none⟩=some (.int .u32 (tab k i)):=fun k i hk hi=>by
     rw[cell_of_row wr _ _ _ _ _ HG.out];exact HT.out k i hk hi
    have t3:wr.cell? ⟨w.heap.size,768+(X % 256).toNat,none⟩=_:=cellT 3 _ (by omega) (by omega)
    have t2:wr.cell? ⟨w.heap.size,512+(X / 256 % 256).toNat,none⟩=_:=cellT 2 _ (by omega) (by omega)
    have t1:wr.cell? ⟨w.heap.size,256+(X / 65536 % 256).toNat,none⟩=_:=cellT 1 _ (by omega) (by omega)
    have t0:wr.cell? ⟨w.heap.size,(X / 16777216).toNat,none⟩=some (.int .u32 (tab 0 (X / 16777216).toNat)):=by simpa using cellT 0 (X / 16777216).toNat (by omega) (by omega)
    have r0:0≤X % 256:=by omega
    have r1:0≤X / 256 % 256:=by omega
    have r2:0≤X / 65536 % 256:=by omega
    have r3:0≤X / 16777216:=by omega
    have s0:X % 256<256:=by omega
    have s1:X / 256 % 256<256:=by omega
    have s2:X / 65536 % 256<256:=by omega
    have s3:X / 16777216<256:=by omega
    clear cellT
    go_wp2
    refine z1i (Fr C0 wr) [] (by kernel_rfl) ?_
    have hSw0:(Fr C0 wr) _:=((Fr.refl _ wr).drew).drew
    refine tk 0 hSw0 ?_
    refine tk 1 hSw0 ?_
    refine tk 2 hSw0 ?_
    refine tk 3 hSw0 ?_
    refine tk 4 hSw0 ?_ (hy:=by intro w_ hS_;have c0:=hS_.cell0 t0;have c1:=hS_.cell0 t1;have c2:=hS_.cell0 t2;have c3:=hS_.cell0 t3;first|(go_simp;done)|(go_simp;with_reducible rfl))
    refine tk 5 hSw0 ?_
    refine tk 6 hSw0 ?_
    refine tk 7 hSw0 ?_
    refine tk 8 hSw0 ?_
    refine tk 9 hSw0 ?_
    refine tk 10 hSw0 ?_ (hy:=by intro w_ hS_;have c0:=hS_.cell0 t0;have c1:=hS_.cell0 t1;have c2:=hS_.cell0 t2;have c3:=hS_.cell0 t3;first|(go_simp;done)|(go_simp;with_reducible rfl))
    refine tk 11 hSw0 ?_
    refine tk 12 hSw0 ?_
    refine tk 13 hSw0 ?_
    refine tk 14 hSw0 ?_
    refine tk 15 hSw0 ?_
    refine tk 16 hSw0 ?_
    refine tk 17 hSw0 ?_ (hy:=by intro w_ hS_;have c0:=hS_.cell0 t0;have c1:=hS_.cell0 t1;have c2:=hS_.cell0 t2;have c3:=hS_.cell0 t3;first|(go_simp;done)|(go_simp;with_reducible rfl))
    refine tk 18 hSw0 ?_
    refine tk 19 hSw0 ?_
    refine tk 20 hSw0 ?_
    refine tk 21 hSw0 ?_
    refine tk 22 hSw0 ?_
    refine tk 23 hSw0 ?_ (hy:=by intro w_ hS_;have c0:=hS_.cell0 t0;have c1:=hS_.cell0 t1;have c2:=hS_.cell0 t2;have c3:=hS_.cell0 t3;first|(go_simp;done)|(go_simp;with_reducible rfl))
    refine tk 24 hSw0 ?_
    refine tk 25 hSw0 ?_
    refine z1h (by kernel_rfl) ?_ _
    go_wp2
    refine⟨?_,by simp;omega⟩
    have hdr:=HB.out.drop (i:=4) h4
    have hform:(if c=4 then some (⟨g,o,none⟩:Addr) else some ⟨g,o+4,none⟩)=(if c=4 then some (⟨g,o,none⟩:Addr) else(some (⟨g,o,none⟩:Addr)).map (·.add 4)):=by
     split<;>rfl
    have hfin:crcAll (crc4out X) (l2.drop 4)=crcAll x l2:=by
     obtain⟨a,b,c',d,l3,rfl⟩:∃a b c' d l3,l2=a::b::c'::d::l3:=by
      match l2,h4 with
      |a::b::c'::d::l3,_=>exact⟨a,b,c',d,l3,rfl⟩
     rw[←hX];rfl
    have hlen:(l2.drop 4).length=l2.length-4:=by simp
    refine⟨_,_,l2.drop 4,crc4out X,by rw[hform,hlen],by rw[hlen];omega,by rw[hlen];omega,rfl,zhd ?_,zhd (hfin.trans HC.out),zhd (z2m _ _ _),zhd HF.out.drew.drew,HG⟩
    rw[hlen]
    exact hdr.fr0 (Fr.refl C0 wr).drew.drew
  · go_wp2
    go_loopw [4,6,64] (fun r _ i wr2=>∃(k:Nat) (x:Int),k≤l2.length∧r=.int .u32 x∧i=.int .i64 (k:Int)∧Hid (crcAll x (l2.drop k)=crcAll 4294967295 l)∧Hid (U32 x)∧wr2=wr) (fun _ _ i _=>l2.length-(intOf i).toNat)
    case atStart=>exact⟨0,x,by omega,rfl,rfl,HC,HU,rfl⟩
    case round=>
     clear HC HU
     obtain⟨k,x,hk,rfl,rfl,HC,HU,rfl⟩:=hrel
     by_cases hlt:k<l2.length
     · obtain⟨g,o,rfl,_,b0⟩:=HB.out.at_ k hlt
       have y0:=l2[k].toNat_lt
       have hu:=HU.out
       obtain⟨ua,ub⟩:=hu
       obtain⟨m0,m1⟩:=z2v .xor (x % 256) (l2[k].toNat:Int)
       have t0:wr.cell? ⟨w.heap.size,(bits .xor .u8 (x % 256) (l2[k].toNat:Int)).toNat,none⟩=some (.int .u32 (tab 0 (bits .xor .u8 (x % 256) (l2[k].toNat:Int)).toNat)):=by
        rw[cell_of_row wr _ _ _ _ _ HG.out];simpa using HT.out 0 _ (by omega) (show(bits .xor .u8 (x % 256) (l2[k].toNat:Int)).toNat<256 by omega)
       go_wp2
       go_roundw
       case rel=>
        have e:=HC.out
        rw[List.drop_eq_getElem_cons hlt,z2u _ _ _ (by simp;omega)] at e
        exact⟨k+1,crcByte x l2[k],by omega,rfl,by go_num,zhd e,zhd (z2m _ _ _),by trivial⟩
       case measure=>simp[intOf];omega
     · obtain rfl:k=l2.length:=by omega
       go_wp2
       go_ret
       have e:=HC.out
       rw[List.drop_length] at e
       have e2:x=crcAll 4294967295 l:=e
       refine⟨?_,HF.out⟩
       subst e2
       rfl
end
end Go.Proofs.YtidalepbkljkpaaGreat

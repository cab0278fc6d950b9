/- The hash of a string. What fingerprint.Of computes: the hash of the canonical bytes, or an error. What Wrap and Unwrap compute. Plain: the canonical bytes of the document's examples. No condition. -/
import Derived.OwnWalk
import Derived.Test.YtlamhkffnlgofaaGreatDoorFpr9
set_option maxHeartbeats 800000
set_option maxRecDepth 100000
namespace Go.Proofs.YtlamhkffnlgofaaGreatDoor
open Go.ChangeShapes Go.WideShapes Go.ChangeAt Go.RowKit
def hstep (h:Nat) (b:UInt8):Nat:=(h ^^^ b.toNat)*1099511628211 % 18446744073709551616
def ak1 (h:Nat) (l:List UInt8):Nat:=l.foldl hstep h
def ak4:Nat:=14695981039346656037
theorem auP (h:Nat) (b:UInt8):oV (hstep h b):=by unfold hstep oV;exact Nat.mod_lt _ (by omega)
theorem atW (h:Nat) (hh:oV h) (b:UInt8):∃ m:Nat,IntKind.u64.wrap (bits .xor .u64 (h:Int) (b.toNat:Int)*1099511628211)=(m:Int)∧Hid (m=hstep h b):=by
 have hb:=b.toNat_lt;refine ⟨hstep h b,?_,rfl⟩;rw [u64_xor_nat h b.toNat hh (by omega),IntKind.wrap_u64];unfold hstep;omega
theorem zCr {p:Prop} (h:p:=by
 obtain ⟨k,x,hk,rfl,rfl,hp,hx⟩:=hrel;have Hp:=hiQ hp;clear hp;by_cases hlt:k < l.length
 ·
  obtain ⟨b,r,hd,hb,hr⟩:=byte_at l k hlt;have Hd:=hiQ hd;have Hr:=hiQ hr;clear hd hr;have hbl:b.toNat < 256:=b.toNat_lt;obtain ⟨y,hy,Hy⟩:=atW x hx.out b;go_wp2
  go_round
  case rel => exact ⟨k+1,y,by omega,rfl,by go_num,by rw [Hp.out,Hd.out,Hr.out,ak1,List.foldl_cons,Hy.out];rfl,by rw [Hy.out];exact auP x b⟩
  case measure => simp [intOf];omega
 go_wp2
 go_ret;exact ⟨bC (by rw [Hp.out,List.drop_of_length_le (by omega)];rfl),rfl⟩):p:=h
theorem azm (l:List UInt8) (hlen:l.length≤9223372036854775807) (w:World) :
  Calls Tryz.prog 42 #[.string ⟨l.toArray⟩] w fun e w' => e = .returned (.int .u64 (ak1 ak4 l))∧w=w':=by
 go_enter Tryz.func42,Tryz.ntmps42
 go_wp2
 go_loop [3,7] (fun a i => ∃ k x:Nat,k≤l.length∧a = .int .u64 x∧i = .int .i64 k∧ak1 ak4 l=ak1 x (l.drop k)∧Hid (oV x)) (fun _ i => l.length - (intOf i).toNat)
 case atStart => exact ⟨0,ak4,by omega,rfl,rfl,rfl,by show oV _;unfold oV ak4;omega⟩
 case round =>
  exact zCr
theorem azn (l:List UInt8) (hlen:l.length≤9223372036854775807) (w:World) :
  Calls Tryz.prog 36 #[.string ⟨l.toArray⟩] w fun e w' => e = .returned (.int .u64 (ak1 ak4 l))∧w=w':=by
 go_enter Tryz.func36,Tryz.ntmps36
 go_wp2
 go_loop [3,4] (fun a i => ∃ k x:Nat,k≤l.length∧a = .int .u64 x∧i = .int .i64 k∧ak1 ak4 l=ak1 x (l.drop k)∧Hid (oV x)) (fun _ i => l.length - (intOf i).toNat)
 case atStart => exact ⟨0,ak4,by omega,rfl,rfl,rfl,by show oV _;unfold oV ak4;omega⟩
 case round =>
  exact zCr
noncomputable def fpE (ts:List ay) (t:Int):Nat × Int:=if (aj2 ts t).2≠0 then (0,(aj2 ts t).2) else (ak1 ak4 (aj2 ts t).1,0)
theorem aAp (ts:List ay) (A:Option Addr) (c:Nat) (t:Int) (w:World) (hl:(aj2 ts t).1.length≤1000000000000)
  (hb:∀ W,Below w.heap.size w W→Calls Tryz.prog 22 #[.agg #[.slice A ts.length c,.int .i64 t]] W fun e w' => e = .returned (.tuple #[.string ⟨(aj2 ts t).1.toArray⟩,.int .i64 (aj2 ts t).2])∧Below W.heap.size W w') :
  Calls Tryz.prog 16 #[.agg #[.slice A ts.length c,.int .i64 t]] w fun e w' => e = .returned (.tuple #[.int .u64 ((fpE ts t).1:Nat),.int .i64 (fpE ts t).2])∧Below w.heap.size w w':=by
 have hf:fpE ts t=if (aj2 ts t).2≠0 then (0,(aj2 ts t).2) else (ak1 ak4 (aj2 ts t).1,0):=rfl
 generalize fpE ts t=q at *;generalize aj2 ts t=p at *;obtain ⟨l,n⟩:=p;simp only at hf hb hl;have HB:=hiQ hb;clear hb;go_enter Tryz.func16,Tryz.ntmps16
 go_upto_region 1 with fail;refine aO (fun wd2 hb1 P => ?_);have hw3:=hb1;clear hb1;obtain ⟨afM,XD⟩:=P.out.c2;go_wp2_with fail;clear afM XD;((with_reducible refine (HB.out _ hw3).mono ?_);rintro e wd4 ⟨rfl,hb5⟩);replace P:=b1 P hb5;replace hw3:=dT hw3 hb5;clear hb5;by_cases hn:n=0
 ·
  subst hn;rw [if_neg (by simp)] at hf;subst hf;go_wp2_with fail;((with_reducible refine (azm l (by omega) _).mono ?_);rintro e wL ⟨rfl,rfl⟩);go_wp2_with fail;exact bodyPost_ret (v:=.tuple #[.int .u64 (ak1 ak4 l:Nat),.int .i64 0]) (by simp [results,Tryz.results16,go_sem]) rfl (⟨rfl,hw3⟩)
 rw [if_pos hn] at hf;have t1:(n == 0)=false:=by simpa using hn
 subst hf;clear hn;go_wp2_with fail;exact bodyPost_ret (v:=.tuple #[.int .u64 0,.int .i64 n]) (by simp [results,Tryz.results16,go_sem]) rfl (⟨rfl,hw3⟩)
def beF:Nat→Nat→List UInt8
 | 0,_ => []
 | k+1,n => UInt8.ofNat (n / 256 ^ k) :: beF k n
theorem aoV:∀ (k n:Nat),(beF k n).length=k
 | 0,_ => rfl
 | k+1,n => by rw [beF,List.length_cons,aoV k n]
def asD (f:Nat) (m:List UInt8):List UInt8 × Int:=if 4096 < m.length then ([],3) else (beF 8 f ++ m,0)
def anH (e:List UInt8):Nat × List UInt8 × Int:=if e.length < 8 then (0,[],10) else if 4104 < e.length then (0,[],3) else (Ci (e.take 8) 0,e.drop 8,0)
theorem axU (l:List UInt8) (hl:l.length≤9223372036854775000) (w:World) :
  Calls Tryz.prog 33 #[.string ⟨l.toArray⟩] w fun e w' => e = .returned (.tuple #[.int .u64 ((anH l).1:Nat),.string ⟨(anH l).2.1.toArray⟩,.int .i64 (anH l).2.2])∧Below w.heap.size w w':=by
 by_cases hs:l.length < 8
 ·
  have he:Hid (anH l=(0,[],10)):=by show _=_;unfold anH;rw [if_pos hs]
  have h1:(l.length:Int) < 8:=by omega
  go_enter Tryz.func33,Tryz.ntmps33
  go_wp2
  exact bodyPost_ret (v:=.tuple #[.int .u64 0,.string ⟨#[]⟩,.int .i64 10]) (by simp [results,Tryz.results33,go_sem]) rfl (⟨by rw [he.out];rfl,Below.refl _ _⟩)
 by_cases hg:4104 < l.length
 ·
  have he:Hid (anH l=(0,[],3)):=by show _=_;unfold anH;rw [if_neg hs,if_pos hg]
  have h1:¬ (l.length:Int) < 8:=by omega
  have h2:(4104:Int) < l.length:=by omega
  go_enter Tryz.func33,Tryz.ntmps33
  go_wp2
  exact bodyPost_ret (v:=.tuple #[.int .u64 0,.string ⟨#[]⟩,.int .i64 3]) (by simp [results,Tryz.results33,go_sem]) rfl (⟨by rw [he.out];rfl,Below.refl _ _⟩)
 have he:Hid (anH l=(Ci (l.take 8) 0,l.drop 8,0)):=by show _=_;unfold anH;rw [if_neg hs,if_neg hg]
 have h1:¬ (l.length:Int) < 8:=by omega
 have h2:¬ (4104:Int) < l.length:=by omega
 go_enter Tryz.func33,Tryz.ntmps33
 go_upto_region 7 with fail;go_loopw [5,13] (fun a s wr => ∃ k n:Nat,k≤8∧a = .int .u64 (n:Nat)∧s = .int .i64 k∧Ci (l.take 8) 0=Ci ((l.take 8).drop k) n∧Hid (n < 256 ^ k)∧Below w.heap.size w wr) (fun _ s _ => 8 - (intOf s).toNat)
 case atStart => exact ⟨0,0,by omega,rfl,rfl,rfl,by show _ < _;omega,Below.refl _ _⟩
 case round =>
  obtain ⟨k,n,hk,rfl,rfl,hp,hm,hb⟩:=hrel;have Hp:=hiQ hp;clear hp;by_cases hk8:k < 8
  ·
   have aFb:(k:Int) < 8:=by omega
   obtain ⟨x,q,hd,hx,hq⟩:=byte_at l k (by omega);have hd2:(l.take 8).drop k=x :: (l.take 8).drop (k+1):=by
    rw [List.drop_take,hd,List.drop_take,hq];obtain ⟨j,hj⟩ : ∃ j,8 - k=j+1:=⟨7 - k,by omega⟩
    rw [hj,List.take_succ_cons]
    congr 2
    omega
   have Hd:=hiQ hd2;clear hd hq hd2;obtain ⟨mm,hmv,Hm⟩ : ∃ mm:Nat,bits .or .u64 (IntKind.u64.wrap ((n:Int)*256)) (x.toNat:Int)=(mm:Int)∧Hid (mm=n*256+x.toNat):=⟨_,(YC n x k hm.out (by omega)).1,rfl⟩
   have hxl:x.toNat < 256:=x.toNat_lt;have hlk:(k:Int) < l.length:=by omega
   have hlk2:decide (l.length≤k)=false:=by simp;omega
   go_wp2
   go_roundw
   case rel => exact ⟨k+1,mm,by omega,rfl,by go_num,by rw [Hp.out,Hd.out,Ci,Hm.out],by have:=(YC n x k hm.out (by omega)).2;have e:=Hm.out;show mm < _;omega,hb⟩
   case measure => simp [intOf];omega
  obtain rfl:k=8:=by omega
  have hfin:Ci (l.take 8) 0=n:=by rw [Hp.out,List.drop_eq_nil_of_le (by rw [List.length_take];omega),Ci]
  have HFI:=hiQ hfin;clear hfin;have hsl:ByteArray.extract ⟨l.toArray⟩ 8 l.length=⟨(l.drop 8).toArray⟩:=Pg l 8 l.length rfl;go_upto_region 11 with fail;go_region
  all_goals
   go_wp2
   exact bodyPost_ret (v:=.tuple #[.int .u64 (n:Nat),.string ⟨(l.drop 8).toArray⟩,.int .i64 0]) (by simp [results,Tryz.results33,go_sem]) rfl (⟨by rw [he.out,HFI.out],hb.drew⟩)
theorem awk:(Tryz.prog.info? 5).map (fun i => (i.zero,i.size,i.bytes))=some (some (.int .u8 0),1,1):=by kernel_rfl
def aoK (k f c:Nat):Array Value:=(((beF 8 f).take k).map B8 ++ List.replicate (c - k) (B8 0)).toArray
theorem aAq (k f c:Nat) (hk:k < 8) (hc:8≤c):(aoK k f c)[k]?=some (B8 0):=by
 have hl:(((beF 8 f).take k).map B8).length=k:=by rw [List.length_map,List.length_take,aoV];omega
 unfold aoK;rw [List.getElem?_toArray,List.getElem?_append_right (by omega),hl,List.getElem?_replicate,if_pos (by omega)]
theorem axh:∀ (k n i:Nat),i < k→(beF k n)[i]?=some (UInt8.ofNat (n / 256 ^ (k - 1 - i)))
 | 0,_,_,h => by omega
 | k+1,n,0,_ => by simp [beF]
 | k+1,n,i+1,h => by
  rw [beF,List.getElem?_cons_succ,axh k n i (by omega)]
  congr 4
  omega
theorem aAr (k f c:Nat) (hk:k < 8) (hc:8≤c):(aoK k f c).setIfInBounds k (B8 (UInt8.ofNat (f / 256 ^ (7 - k))))=aoK (k+1) f c:=by
 have hl:(((beF 8 f).take k).map B8).length=k:=by rw [List.length_map,List.length_take,aoV];omega
 unfold aoK;rw [List.setIfInBounds_toArray]
 congr 1
 rw [List.set_append_right _ _ (by omega),hl,Nat.sub_self];obtain ⟨j,hj⟩ : ∃ j,c - k=j+1:=⟨c - k - 1,by omega⟩
 rw [hj,List.replicate_succ,List.set_cons_zero,List.take_add_one,List.map_append,axh 8 f k hk,List.append_assoc];have e:c - (k+1)=j:=by omega
 rw [e];rfl
theorem azo (f c:Nat):madeCells #[B8 0] (c*1)=aoK 0 f c:=by
 unfold aoK madeCells;simp only [List.take_zero,List.map_nil,List.nil_append,Nat.mul_one,Nat.sub_zero];apply Array.ext
 · simp
 intro i h1 h2;simp [Nat.mod_one]
theorem aAs {w:World} {g f c:Nat} (h:Has w g 5 (aoK 8 f c)) (hc:8≤c) (hb:c≤maxLen):w.ownsRow g 5 1 (.slice (some ⟨g,0,none⟩) 8 c) 8 ((beF 8 f).map B8):=by
 have hl:((beF 8 f).map B8).length=8:=by rw [List.length_map,aoV]
 refine ⟨by rw [hl],.inr ⟨g,c,_,rfl,Nat.le_refl _,h,hc,hb,?_,?_⟩⟩
 · unfold aoK;simp [aoV];omega
 unfold aoK;have e:(beF 8 f).take 8=beF 8 f:=List.take_of_length_le (by rw [aoV];omega);rw [e];simp [List.take_left' hl]
theorem wrap_any (f:Nat) (hf:oV f) (m:List UInt8) (hm:m.length≤9223372036854775000) (w:World) :
  Calls Tryz.prog 31 #[.int .u64 (f:Nat),.string ⟨m.toArray⟩] w fun e w' => e = .returned (.tuple #[.string ⟨(asD f m).1.toArray⟩,.int .i64 (asD f m).2])∧Below w.heap.size w w':=by
 by_cases hlt:4096 < m.length
 ·
  have he:Hid (asD f m=([],3)):=by show _=_;unfold asD;rw [if_pos hlt]
  have h1:(4096:Int) < m.length:=by omega
  go_enter Tryz.func31,Tryz.ntmps31
  go_wp2
  exact bodyPost_ret (v:=.tuple #[.string ⟨#[]⟩,.int .i64 3]) (by simp [results,Tryz.results31,go_sem]) rfl (⟨by rw [he.out],Below.refl _ _⟩)
 have he:Hid (asD f m=(beF 8 f ++ m,0)):=by show _=_;unfold asD;rw [if_neg hlt]
 have h1:¬ (4096:Int) < m.length:=by omega
 obtain ⟨i0,hi0,hz0,hz1,hz2⟩:=info_parts awk;have hmk:∀ W:World,(Instr.makeSlice 87 (.int .i64 8) (.int .i64 (8+(m.length:Int)))).run Tryz.prog W = .ok (.slice (some ⟨W.heap.size,0,none⟩) 8 (8+m.length)) (W.alloc (.cells (aoK 0 f (8+m.length)) 5)):=fun W => by
  have h:=run_make (P:=Tryz.prog) W 87 5 i0 _ Tryz.underlying87 hi0 hz0 .i64 .i64 8 (8+(m.length:Int)) (by omega) (by omega) (by rw [hz2];omega) (by omega);rw [hz1] at h;have e1:(8+(m.length:Int)).toNat=8+m.length:=by omega
  rw [e1,show (Value.int IntKind.u8 0).cells = #[B8 0] from rfl,azo f] at h;exact h
 have HF:=hiQ hf;clear hf hi0 hz0 hz1 hz2;have hadd:IntKind.i64.wrap (8+(m.length:Int))=8+(m.length:Int):=by rw [IntKind.wrap_i64];omega
 go_enter Tryz.func31,Tryz.ntmps31
 go_wp2
 refine aO (fun w1 hb0 B => ?_);have hB:=B.out;clear B;go_loopw [17] (fun s17 wr => ∃ k:Nat,k≤8∧s17 = .int .i64 k∧Has wr w.heap.size 5 (aoK k f (8+m.length))∧Below w.heap.size w wr) (fun s17 _ => 8 - (intOf s17).toNat)
 case atStart => exact ⟨0,by omega,rfl,hB,hb0⟩
 case round =>
  clear hB hb0;obtain ⟨k,hk,rfl,B,hb⟩:=hrel;by_cases hk8:k < 8
  ·
   have aFb:(k:Int) < 8:=by omega
   have cB:=(B.cell k).trans (aAq k f _ hk8 (by omega));have fB:=B.free k;have hst:Value.int IntKind.u8 ((f:Int) / 2 ^ (56 - 8*k) % 256)=B8 (UInt8.ofNat (f / 256 ^ (7 - k))):=by
    have e1:(2:Nat) ^ (56 - 8*k)=256 ^ (7 - k):=by
     rw [show (256:Nat)=2 ^ 8 from rfl,← Nat.pow_mul];congr 1;omega
    have e2:((f:Int) / 2 ^ (56 - 8*k))=((f / 256 ^ (7 - k):Nat):Int):=by
     rw [← e1];norm_cast
    rw [e2];generalize f / 256 ^ (7 - k)=q;rw [ZC _ (by omega) (by omega)];have e3:((q:Int) % 256).toNat=q % 256:=by omega
    rw [e3]
    congr 1
    apply UInt8.toNat_inj.1;simp
   have HST:=hiQ hst;clear hst;go_wp2
   go_roundw
   case rel =>
    rw [HST.out];exact ⟨k+1,by omega,by go_num,by rw [← aAr k f _ hk8 (by omega)];exact Has.set B k _,jS hb (Nat.le_refl _) _ _⟩
   case measure => simp [intOf];omega
  obtain rfl:k=8:=by omega
  have hown:=aAs B (by omega) (by simp only [maxLen];omega);go_wp2_with (at_builtin;refine asE rfl _ _ _ _ rfl w.heap.size 5 Tryz.underlying87 Tryz.underlying9 awk (.slice (some ⟨w.heap.size,0,none⟩) 8 (8+m.length)) 8 (beF 8 f) rfl hown m rfl (by omega) hb.size ?_;intro v2 w2 hown2 hb2;have hcv:=ZE 87 9 5 Tryz.underlying87 Tryz.underlying5 Tryz.underlying9 hown2)
  exact bodyPost_ret (v:=.tuple #[.string ⟨(beF 8 f ++ m).toArray⟩,.int .i64 0]) (by simp [results,Tryz.results31,go_sem]) rfl (⟨by rw [he.out],hb.trans hb2⟩)
def awI:ay:=⟨2,[],-10,10,0,[],[],0,0,false⟩
def awB:ay:=⟨1,[],0,0,0,[],[],0,0,false⟩
def awD:Val:=.mk 1 true 0 [] 0 [] [] []
def awM (nm:List UInt8):Mem:={ id:=3,name:=nm,ty:=0,akb:=false,eG:=true,dflt:=awD }
def awR (nm:List UInt8):ay:=⟨5,[82],0,0,0,[],[awM nm],0,0,false⟩
def KP (nm:List UInt8):List ay:=[awB,awR nm]
theorem as7 {ts:List ay} (hv:fF ts=0) {t:Nat} (ht:t < ts.length) (h:aqB ts):aqB (og ts t):=by
 intro y hy m hm hd;obtain ⟨n,hn⟩:=List.mem_iff_getElem?.1 hy;obtain ⟨a,x,_,hx,rfl⟩:=aqN hv ht hn;obtain ⟨q,hq,rfl⟩:=List.mem_map.1 (show m ∈ x.ah.map (aoc _) from hm);exact h x (List.mem_of_getElem? hx) q hq hd
theorem aAt {ts:List ay} (hv:fF ts=0) {t:Nat} (ht:t < ts.length) (hI:akg ts) (hD:acM ts) (h0:aqB ts):arx (og ts t) :=
 ⟨akP hv ht,(aqC (LJ hv) ht).lt.2,ash hv ht,ari hv ht hI,aoU hv ht hD,as7 hv ht h0⟩
theorem asl:fF [awI]=0:=by kernel_rfl
theorem aoF (nm:List UInt8) (h:nm = [97]∨nm = [98]):fF (KP nm)=0:=by
 rcases h with rfl | rfl <;> kernel_rfl
theorem aBK:og [awI] 0 = [awI]:=by
 have hc:gI [awI] 0=0:=by have:=aqA (LJ asl) (i:=0) (by simp);simp at this;omega
 have ho:Si [awI] 0 = [0]:=by
  unfold Si;simp only [hc,List.length_singleton,bfs,List.getElem?_cons_zero,rF]
  rfl
 unfold og;rw [ho]
 rfl
theorem aBL (nm:List UInt8) (h:nm = [97]∨nm = [98]):gI (KP nm) 0=0∧gI (KP nm) 1=1:=by
 have hin:=LJ (aoF nm h);have h0:=atO (Bis.refl hin (i:=0) (by simp [KP]));have h1:=atO (Bis.refl hin (i:=1) (by simp [KP]));refine ⟨by omega,?_⟩;rcases Nat.lt_or_ge (gI (KP nm) 1) 1 with h2 | h2
 ·
  have h3:gI (KP nm) 1=0:=by omega
  have h4:=alk hin (i:=1) (by simp [KP]);rw [h3] at h4;obtain ⟨x,y,hx,hy,ha,_⟩:=abg _ _ 1 0 h4;simp only [KP,List.getElem?_cons_succ,List.getElem?_cons_zero,Option.some.injEq] at hx hy;subst hx;subst hy;have:=ha.kind;simp [awR,awB] at this
 omega
def as9:List ay:=[⟨5,jk 84 0,0,0,0,[],[{ id:=3,name:=jk 102 3,ty:=1,akb:=false,eG:=true,dflt:=awD }],0,0,false⟩,awB]
theorem aui (nm:List UInt8) (h:nm = [97]∨nm = [98]):og (KP nm) 1=as9:=by
 obtain ⟨h0,h1⟩:=aBL nm h;have ho:Si (KP nm) 1 = [1,0]:=by
  unfold Si;rw [h1,show (KP nm).length=2 from rfl];have o1:rF (KP nm) 1 = [0]:=rfl;have o0:rF (KP nm) 0 = []:=rfl;simp only [bfs,List.getElem?_cons_zero,o1,ajJ,h0];simp [o0,ajJ]
 have i0:ixN (KP nm) 1 0=1:=by unfold ixN;rw [ho,h0];rfl
 unfold og;rw [ho];have hr:Ap 0 (ixN (KP nm) 1) (awR nm)=⟨5,jk 84 0,0,0,0,[],[{ id:=3,name:=jk 102 3,ty:=1,akb:=false,eG:=true,dflt:=awD }],0,0,false⟩:=by
  have e:aoc (ixN (KP nm) 1) (awM nm) = { id:=3,name:=jk 102 3,ty:=1,akb:=false,eG:=true,dflt:=awD }:=by
   unfold aoc awM;simp only [Int.toNat_zero,i0]
   rfl
  unfold Ap awR;simp only [List.map_cons,List.map_nil,e]
  rfl
 show [Ap 0 (ixN (KP nm) 1) (awR nm),Ap 1 (ixN (KP nm) 1) awB]=_;rw [hr]
 rfl
theorem axj:acM [awI]:=by
 intro x hx m hm _;obtain rfl:=List.mem_singleton.1 hx;simp [awI] at hm
theorem aoq (nm:List UInt8):acM (KP nm)∧aqB (KP nm)∧akg (KP nm):=by
 refine ⟨fun x hx m hm _ => ?_,fun x hx m hm _ => ?_,fun x hx => ?_⟩
 ·
  simp only [KP,List.mem_cons,List.not_mem_nil,or_false] at hx;rcases hx with rfl | rfl
  · simp [awB] at hm
  simp only [awR,List.mem_singleton] at hm;subst hm
  rfl
 ·
  simp only [KP,List.mem_cons,List.not_mem_nil,or_false] at hx;rcases hx with rfl | rfl
  · simp [awB] at hm
  simp only [awR,List.mem_singleton] at hm;subst hm;exact ⟨rfl,rfl,rfl,by show (1:Int)≠5;decide⟩
 simp only [KP,List.mem_cons,List.not_mem_nil,or_false] at hx;rcases hx with rfl | rfl <;> exact ⟨F6 0,F6 0⟩
theorem azp:aj2 [awI] 0=([1,2,19,20],0):=by
 have h:=arh asl (t:=0) (by simp) axj;rw [aBK] at h;exact h.trans (by rfl)
theorem auQ (nm:List UInt8) (h:nm = [97]∨nm = [98]):aj2 (KP nm) 1=([2,5,1,3,2,1,1,1],0):=by
 have h:=arh (aoF nm h) (t:=1) (by simp [KP]) (aoq nm).1;rename_i h2;rw [aui nm h2] at h;exact h.trans (by rfl)
theorem auj:BN as9 = [2,5,1,3,2,1,1,1]:=by rfl
theorem azq:arx as9:=by
 have h:=aui [97] (.inl rfl);rw [← h];exact aAt (aoF _ (.inl rfl)) (by simp [KP]) (aoq _).2.2 (aoq _).1 (aoq _).2.1
end Go.Proofs.YtlamhkffnlgofaaGreatDoor

/- What the writer of canonical bytes computes: numbers, integer, flag. What canon.check, related, Wire and Classes compute. What canon.related, Wire and Classes compute. No condition. -/
import Derived.Test.YtlamhkffnlgofaaGreatDoorHCB
set_option maxHeartbeats 1600000
set_option maxRecDepth 100000
namespace Go.Proofs.YtlamhkffnlgofaaGreatDoor
open Go.ChangeShapes Go.WideShapes Go.ChangeAt Go.RowKit
theorem aof {P:Program} {o:Oper} {ops:Array Oper} {a:Act} {K:Act→World→Prop} {Q:Exit→Act→World→Prop} {E:Prop} {W:World} (hgd:o.guard=none) (sl x:Operand) (t u:TypeId)
  (ho:o.op = .call { callee:=.builtin .append,args:=#[sl,x],argTypes:=#[t,u] })
  (base:Nat) (e:TypeId) (ht:P.underlying t=some (.slice e)) (hu:P.underlying u=some .string) (hinfo:(P.info? e).map (fun i => (i.zero,i.size,i.bytes))=some (some (.int .u8 0),1,1))
  (v:Value) (n:Nat) (l:List UInt8) (hs:a.eval sl=v) (hown:W.ownsRow base e 1 v n (l.map B8)) (r:List UInt8) (hx:a.eval x = .string ⟨r.toArray⟩)
  (hsmall:n+r.length≤140737488355328) (hbase:base≤W.heap.size)
  (h:∀ v' w',w'.ownsRow base e 1 v' (n+r.length) ((l ++ r).map B8)→W.grownBy w' v.ownBlock→K (a.put o.dst v') w') :
  if Region.wanted o (yielded ops a.tmps)=true then Oper.wp P o a W K Q else E:=by
 have hw:Region.wanted o (yielded ops a.tmps)=true:=by simp [Region.wanted,hgd]
 rw [if_pos hw];obtain ⟨i0,hi,hz0,hz1,hz2⟩:=info_parts hinfo;obtain ⟨v',w',hr,h2,h3,_⟩:=Lib.run_append_own_string (P:=P) W base t u o.type e i0 ht hu hi hz0 hz1 hz2 v n _ hown ⟨r.toArray⟩ (by simp [maxLen,ByteArray.size];omega) (by simpa [ByteArray.size] using hsmall) hbase;rw [arS] at h2;unfold Oper.wp execOp;simp only [ho,resolve,invoke,builtin,Sem.run_bind,Sem.run_pure,Result.andThen_ok,List.map_toArray,List.map_cons,List.map_nil,hs,hx,hr];exact h v' w' (by simpa [ByteArray.size] using h2) h3
def Am (w:World) (gw:Nat) (l:List UInt8):Prop := ∃ A c,Has w gw 89 #[.slice A l.length c]∧w.ownsRow (gw+1) 5 1 (.slice A l.length c) l.length (l.map B8)
structure fK (gw:Nat) (w w':World):Prop where
 low:Below gw w w'
 size:w.heap.size≤w'.heap.size
 has:∀ g T cs,g≠gw→T≠5→Has w g T cs→Has w' g T cs
section
variable {w w' w2:World} {gw g:Nat} {l:List UInt8} {T:TypeId} {cs:Array Value} {L B:Nat} {P:World→Prop}
theorem Am.here (h:Am w gw l):gw < w.heap.size:=by obtain ⟨_,_,h,_⟩:=h;exact h.here
theorem fK.refl (gw:Nat) (w:World):fK gw w w:=⟨Below.refl _ _,Nat.le_refl _,fun _ _ _ _ _ h => h⟩
theorem fK.trans (h:fK gw w w') (k:fK gw w' w2):fK gw w w2:=⟨h.low.trans k.low,Nat.le_trans h.size k.size,fun g T cs h1 h2 h3 => k.has g T cs h1 h2 (h.has g T cs h1 h2 h3)⟩
theorem fK.of (hb:Below w.heap.size w w') (hg:gw≤w.heap.size):fK gw w w':=⟨hb.mono hg,hb.size,fun _ _ _ _ _ h => h.below hb h.here⟩
theorem Am.on (h:Am w gw l) (hb:Below w.heap.size w w'):Am w' gw l:=by
 obtain ⟨A,c,h1,h2⟩:=h;exact ⟨A,c,h1.below hb h1.here,own_below h2 hb⟩
theorem wB (h:Hid (Am w gw l)) (hb:Below w.heap.size w w'):Hid (Am w' gw l):=h.out.on hb
theorem oq (k:fK gw w w') (hb:Below w'.heap.size w' w2) (hg:gw≤w'.heap.size:=by omega):fK gw w w2:=k.trans (fK.of hb hg)
theorem wH (h:Hid (Has w g T cs)) (k:fK gw w w') (hg:g≠gw) (hT:T≠5):Hid (Has w' g T cs):=k.has g T cs hg hT h.out
theorem wN (h:Hid (Kept P w L B)) (k:fK gw w w') (hB:B≤gw):Hid (Kept P w' L B):=h.out.iJ k.low hB
end
theorem fK.grow {W w1:World} {gw n:Nat} {v:Value} {xs:List Value} (hown:W.ownsRow (gw+1) 5 1 v n xs) (hgr:W.grownBy w1 v.ownBlock) (hL:gw+1≤W.heap.size):fK gw W w1 :=
 ⟨((Below.refl (gw+1) W).grown hgr hL (fun k hk => (hown.lt k hk).1)).mono (Nat.le_succ _),hgr.size,fun g _ _ _ hT h => (hgr.block g h.here (fun e => akM hown h (Ne.symm hT) e.symm rfl)).trans h⟩
theorem fK.set {W w1:World} {gw i:Nat} {v:Value} (hE:W.setCell ⟨gw,i,none⟩ v=w1):fK gw W w1 :=
 ⟨hE ▸ jS (Below.refl gw W) (Nat.le_refl _) i v,by rw [← hE];simp [World.setCell],fun g _ _ hg _ h => by rw [← hE];exact (Below.heap_setCell W ⟨gw,i,none⟩ v g hg).trans h⟩
theorem axS (ns:List Nat) (k:Nat) (h:k < ns.length):(ns.take (k+1)).flatMap (pJ 9)=(ns.take k).flatMap (pJ 9) ++ pJ 9 ns[k]:=by
 rw [List.take_add_one,List.flatMap_append,List.getElem?_eq_getElem h];simp
theorem bg (n:Nat):(pJ 9 n).length≤10:=qw 9 n
theorem an3 {β:Type} {F:World→β→Prop} {q:β} {w:World} {cs0:Array Value} {T0:TypeId} (h:∀ W,Below w.heap.size w W→Hid (Has W (w.heap.size) T0 cs0)→F W q):F (w.alloc (.cells cs0 T0)) q:=aO (F:=fun W => F W q) h
def abX (gw:Nat) (l:List UInt8) (w:World) (e:Ending) (w':World):Prop:=e = .returned (.tuple #[])∧Am w' gw l∧fK gw w w'
theorem as6:(Tryz.prog.info? 5).map (fun i => (i.zero,i.size,i.bytes))=some (some (.int .u8 0),1,1):=by kernel_rfl
def nV9 (c:Nat):Value:=.int .i64 (c:Nat)
theorem aqR (l:List UInt8) (ns:List Nat) (hn:∀ n ∈ ns,n≤4294967296) (hs:ns.length≤1000) (hl:l.length≤100000000000000) (gw g c:Nat) (hg:g≠gw) (w:World) (hw:Am w gw l) (hr:Has w g 3 (ns.map nV9).toArray) :
  Calls Tryz.prog 46 #[.pointer (some ⟨gw,0,none⟩),.slice (some ⟨g,0,none⟩) ns.length c] w (abX gw (l ++ ns.flatMap (pJ 9)) w):=by
 have HR:=hiQ hr;have HN:=hiQ hn;clear hr hn;go_enter Tryz.func46,Tryz.ntmps46
 go_upto_region 1 with fail;go_loopw [8] (fun s8 wr => ∃ k:Nat,k≤ns.length∧s8 = .int .i64 k∧Am wr gw (l ++ (ns.take k).flatMap (pJ 9))∧(l ++ (ns.take k).flatMap (pJ 9)).length≤l.length+k*10∧fK gw w wr) (fun s8 _ => ns.length - (intOf s8).toNat)
 case atStart => exact ⟨0,Nat.zero_le _,rfl,by simpa using hw,by simp,fK.refl _ _⟩
 case round =>
  clear hw;obtain ⟨k,hk,rfl,hwr,tV,hK⟩:=hrel;by_cases hlt:k < ns.length
  ·
   have hm:=HN.out _ (List.getElem_mem hlt);have hcell:=(hK.has g 3 _ hg (by decide) HR.out).cell k;simp only [List.getElem?_toArray,List.getElem?_map,List.getElem?_eq_getElem hlt,Option.map_some,nV9] at hcell;have htk:=axS ns k hlt;have hq2:(l ++ (ns.take (k+1)).flatMap (pJ 9))=(l ++ (ns.take k).flatMap (pJ 9)) ++ pJ 9 ns[k]:=by rw [htk,List.append_assoc]
   have hpl:=bg ns[k];generalize ns[k]=m at *;have HQ2:=hiQ hq2;have HKK:=hiQ hK;generalize l ++ (ns.take k).flatMap (pJ 9)=q at *;obtain ⟨A,c0,X,hown⟩:=hwr;have hi1:(k:Int) < ns.length:=by omega
   have hd0:decide ((k:Int) < 0)=false:=by simp
   have hd1:decide (ns.length≤k)=false:=by simpa using hlt
   have hmw:IntKind.u64.wrap (m:Int)=(m:Nat):=by rw [IntKind.wrap_u64];omega
   have HPL:=hiQ hpl;clear htk hq2 hK;have alv:=X.here;replace X:=hiQ X;have O:=hiQ (Kept.own hown);clear hown;go_upto_region 3 with fail;clear hcell;have aK:=X.out.e0;refine l9 (S:=(fun w' => w'.cell? ⟨gw,0,none⟩=some (.slice A q.length c0))) (fun j => j == 11) (by kernel_rfl) aK (fun hHeld => ?_);clear aK;have hb1:Below wr.heap.size wr (wr.drew):=(Below.refl _ _).drew;obtain ⟨X,O⟩:=b2 X O hb1;have hw3:=hb1;clear hb1;generalize wr.drew=wd2 at *;refine eH 0 ?_;refine eH 1 ?_;refine eH 2 ?_;refine eH 3 ?_;refine eH 4 ?_;refine eH 5 ?_;refine eH 6 ?_;refine gJ 7 fun K hK => ?_;go_simp;((with_reducible refine (put m (by unfold oV;omega) _).mono ?_);rintro e wd4 ⟨rfl,hb5⟩);obtain ⟨X,O⟩:=b2 X O hb5;replace hw3:=dT hw3 hb5;clear hb5;(try clear hHeld);refine hK.out _ _ (X.out.cell 0) (fun hHeld => ?_);clear hK K;refine gJ 8 fun K hK => ?_;have hXh:=X.out.here;have hk1:=fK.of hw3 (gw:=gw) (by omega);refine aof (P:=Tryz.prog) rfl _ _ _ _ (by rfl) (gw+1) 5 Tryz.underlying87 Tryz.underlying9 as6 (.slice A q.length c0) q.length q rfl O.out.now (pJ 9 m) rfl (by omega) hXh ?_;intro v' w9 hown1 hgr;obtain ⟨A1,c1,rfl⟩:=jF hown1;have hk2:=hk1.trans (fK.grow O.out.now hgr hXh);have hb4:Below (gw+1) wd4 w9:=(Below.refl (gw+1) wd4).grown hgr hXh (fun k hk => (O.out.now.lt k hk).1);clear O;replace X:=hiQ (X.out.below hb4 (show gw < gw+1 by omega));have O:=hiQ (Kept.own hown1);clear hk1 hown1 hgr hb4;(try clear hHeld);refine hK.out _ _ (X.out.cell 0) (fun hHeld => ?_);clear hK K;refine gJ 9 fun K hK => ?_
   go_simp;(try clear hHeld);refine hK.out _ _ (X.out.cell 0) (fun hHeld => ?_);clear hK K;refine eH 10 ?_;refine pG 11 fun K hK => ?_;have aK:=X.out.e0;have av8:=X.out.free 0;go_simp;clear aK av8;have HX:=X;clear X;generalize HEX:w9.setCell ⟨gw,0,none⟩ (.slice A1 (q.length+(pJ 9 m).length) c1)=wL;replace O:=f1 O (eF HEX);have Ua:=xR HX HEX;have hk3:=hk2.trans (fK.set HEX);clear HX HEX hk2;have hwr:Am wL gw (q ++ pJ 9 m):=⟨A1,c1,by rw [List.length_append];exact Ua.out,by rw [List.length_append];exact O.out.now⟩
   have HWR:=hiQ hwr;clear O Ua hwr;(try clear hHeld);refine hK.out _ _ ?_;clear hK K;refine akJ (by kernel_rfl) ?_ _;(try clear hHeld);go_wp2_with fail;go_roundw
   case rel => exact ⟨k+1,by omega,by go_num,by rw [HQ2.out];exact HWR.out,by rw [HQ2.out,List.length_append];omega,HKK.out.trans hk3⟩
   case measure => simp [intOf];omega
  obtain rfl:k=ns.length:=by omega
  rw [List.take_of_length_le (Nat.le_refl _)] at hwr;go_wp2_with fail;refine bodyPost_ret (results_none rfl _ _ _) rfl ?_;exact ⟨rfl,hwr,hK⟩
theorem aqE (q:List UInt8) (n:Int) (hn:I64 n) (hl:q.length≤100000000000000) (gw:Nat) (w:World) (hw:Am w gw q) :
  Calls Tryz.prog 80 #[.pointer (some ⟨gw,0,none⟩),.int .i64 n] w (abX gw (q ++ akT n) w):=by
 have hz:=TT n hn;obtain ⟨m,hm⟩ : ∃ m:Nat,zig n=(m:Int):=⟨(zig n).toNat,by omega⟩
 have hzb:akT n=pJ 9 m:=by unfold akT;rw [hm];rfl
 have hmu:oV m:=by unfold oV;omega
 have hzc:=fun W => YD n hn W;rw [hm] at hzc;have HZC:=hiQ hzc;rw [hzb];have hpl:=bg m;obtain ⟨A,c0,X,hown⟩:=hw;have alv:=X.here;clear hz hm hzb hzc;go_enter Tryz.func80,Tryz.ntmps80
 replace X:=hiQ X;have O:=hiQ (Kept.own hown);clear hown;have aK:=X.out.e0;refine l9 (S:=(fun w' => w'.cell? ⟨gw,0,none⟩=some (.slice A q.length c0))) (fun j => j == 11) (by kernel_rfl) aK (fun hHeld => ?_);clear aK;have hb1:Below w.heap.size w (w.drew):=(Below.refl _ _).drew;obtain ⟨X,O⟩:=b2 X O hb1;have hw3:=hb1;clear hb1;generalize w.drew=wd2 at *;refine eH 0 ?_;refine eH 1 ?_;refine eH 2 ?_;refine eH 3 ?_;refine eH 4 ?_;refine eH 5 ?_;refine gJ 6 fun K hK => ?_;go_simp;((with_reducible refine (HZC.out _).mono ?_);rintro e wd4 ⟨rfl,rfl⟩);(try clear hHeld);refine hK.out _ _ (X.out.cell 0) (fun hHeld => ?_);clear hK K;refine gJ 7 fun K hK => ?_;go_simp;((with_reducible refine (put m hmu _).mono ?_);rintro e wL ⟨rfl,hb7⟩);obtain ⟨X,O⟩:=b2 X O hb7;replace hw3:=dT hw3 hb7;clear hb7;(try clear hHeld);refine hK.out _ _ (X.out.cell 0) (fun hHeld => ?_);clear hK K;refine gJ 8 fun K hK => ?_;have hXh:=X.out.here;have hk1:=fK.of hw3 (gw:=gw) (by omega);refine aof (P:=Tryz.prog) rfl _ _ _ _ (by rfl) (gw+1) 5 Tryz.underlying87 Tryz.underlying9 as6 (.slice A q.length c0) q.length q rfl O.out.now (pJ 9 m) rfl (by omega) hXh ?_;intro v' w9 hown1 hgr;obtain ⟨A1,c1,rfl⟩:=jF hown1;have hk2:=hk1.trans (fK.grow O.out.now hgr hXh);have hb4:Below (gw+1) wL w9:=(Below.refl (gw+1) wL).grown hgr hXh (fun k hk => (O.out.now.lt k hk).1);clear O;replace X:=hiQ (X.out.below hb4 (show gw < gw+1 by omega));have O:=hiQ (Kept.own hown1);clear hk1 hown1 hgr hb4;(try clear hHeld);refine hK.out _ _ (X.out.cell 0) (fun hHeld => ?_)
 clear hK K;refine gJ 9 fun K hK => ?_;go_simp;(try clear hHeld);refine hK.out _ _ (X.out.cell 0) (fun hHeld => ?_);clear hK K;refine eH 10 ?_;refine pG 11 fun K hK => ?_;have aK:=X.out.e0;have av8:=X.out.free 0;go_simp;clear aK av8;have HX:=X;clear X;generalize HEX:w9.setCell ⟨gw,0,none⟩ (.slice A1 (q.length+(pJ 9 m).length) c1)=qP;replace O:=f1 O (eF HEX);have Ua:=xR HX HEX;have hk3:=hk2.trans (fK.set HEX);clear HX HEX hk2;have hwr:Am qP gw (q ++ pJ 9 m):=⟨A1,c1,by rw [List.length_append];exact Ua.out,by rw [List.length_append];exact O.out.now⟩
 have HWR:=hiQ hwr;clear O Ua hwr;(try clear hHeld);refine hK.out _ _ ?_;clear hK K;refine akJ (by kernel_rfl) ?_ _;(try clear hHeld);go_end0
 exact ⟨rfl,HWR.out,hk3⟩
theorem af4 (q:List UInt8) (a:Nat) (ha:a≤4294967296) (hl:q.length≤100000000000000) (gw g c:Nat) (hg:g≠gw) (w:World) (hw:Am w gw q) (hr:Has w g 3 #[.int .i64 (a:Nat)]) :
  Calls Tryz.prog 46 #[.pointer (some ⟨gw,0,none⟩),.slice (some ⟨g,0,none⟩) 1 c] w (abX gw (q ++ pJ 9 a) w):=by
 have h:=aqR q [a] (by simpa using ha) (by simp) hl gw g c hg w hw hr;simpa using h
theorem aDz (q:List UInt8) (a b:Nat) (ha:a≤4294967296) (hb:b≤4294967296) (hl:q.length≤100000000000000) (gw g c:Nat) (hg:g≠gw) (w:World) (hw:Am w gw q) (hr:Has w g 3 #[.int .i64 (a:Nat),.int .i64 (b:Nat)]) :
  Calls Tryz.prog 46 #[.pointer (some ⟨gw,0,none⟩),.slice (some ⟨g,0,none⟩) 2 c] w (abX gw (q ++ (pJ 9 a ++ pJ 9 b)) w):=by
 have h:=aqR q [a,b] (by simpa using ⟨ha,hb⟩) (by simp) hl gw g c hg w hw hr;simpa using h
theorem axA (q:List UInt8) (a b d:Nat) (ha:a≤4294967296) (hb:b≤4294967296) (hd:d≤4294967296) (hl:q.length≤100000000000000) (gw g c:Nat) (hg:g≠gw) (w:World) (hw:Am w gw q) (hr:Has w g 3 #[.int .i64 (a:Nat),.int .i64 (b:Nat),.int .i64 (d:Nat)]) :
  Calls Tryz.prog 46 #[.pointer (some ⟨gw,0,none⟩),.slice (some ⟨g,0,none⟩) 3 c] w (abX gw (q ++ (pJ 9 a ++ (pJ 9 b ++ pJ 9 d))) w):=by
 have h:=aqR q [a,b,d] (by simpa using ⟨ha,hb,hd⟩) (by simp) hl gw g c hg w hw hr;simpa using h
theorem zFm {p:Prop} (h:p:=by
 replace G:=wH G hK5 (by omega) (by decide);replace R:=hiQ hR4;replace K:=K.trans hK5;clear hR4 hK5;go_wp2_with fail;go_end0
 exact ⟨rfl,by simpa [F6] using R.out,K⟩):p:=h
theorem ar2 (q:List UInt8) (b:Bool) (hl:q.length≤100000000000000) (gw:Nat) (w:World) (hw:Am w gw q) :
  Calls Tryz.prog 81 #[.pointer (some ⟨gw,0,none⟩),.bool b] w (abX gw (q ++ F6 b) w):=by
 have alv:=hw.here;have R:=hw;have K:=fK.refl gw w;replace R:=hiQ R;clear hw;go_enter Tryz.func81,Tryz.ntmps81
 cases b with
 | true =>
  go_wp2_with fail;refine an3 (fun wd2 hb1 G => ?_);replace R:=wB R hb1;replace K:=oq K hb1 (by have:=K.size;omega);clear hb1;have hG:Has wd2 w.heap.size 3 #[.int .i64 ((1:Nat):Int)]:=G.out;((with_reducible refine (af4 q 1 (by decide) hl gw w.heap.size 1 (by omega) _ R.out hG).mono ?_);rintro e wd3 ⟨rfl,hR4,hK5⟩);exact zFm
 | false =>
  go_wp2_with fail;refine an3 (fun wd2 hb1 G => ?_);replace R:=wB R hb1;replace K:=oq K hb1 (by have:=K.size;omega);clear hb1;have hG:Has wd2 w.heap.size 3 #[.int .i64 ((0:Nat):Int)]:=G.out;((with_reducible refine (af4 q 0 (by decide) hl gw w.heap.size 1 (by omega) _ R.out hG).mono ?_);rintro e wd3 ⟨rfl,hR4,hK5⟩);exact zFm
theorem auC (m:Mem) (vk vi vr:Value) (w:World):Calls Tryz.prog 82 #[.agg (ZK m vk vi vr).toArray] w (RTq w (.int .i64 (MF m:Nat))):=by
 obtain ⟨mi,mn,mt,mc,mh,mf⟩:=m;go_enter Tryz.func82,Tryz.ntmps82
 cases mc with
 | true =>
  go_upto_region 1 with fail;refine aO (fun wd2 hb1 M => ?_);have hw3:=hb1;clear hb1;have mQ:=M.out.e3;exact zCm
 | false =>
  go_upto_region 1 with fail;refine aO (fun wd2 hb1 M => ?_);have hw3:=hb1;clear hb1;cases mh with
  | true =>
   have mQ:=M.out.e3;have kK:=M.out.e4;exact zCm
  | false =>
   have mQ:=M.out.e3;have kK:=M.out.e4;exact zCm
def gV (ts:List ay) (t:Int):Int:=if fF ts≠0 then fF ts else if t < 0∨(ts.length:Int)≤t then 4 else 0
theorem aro {ts:List ay} {t:Int} (h:gV ts t=0):fF ts=0∧0≤t∧t < ts.length:=by
 unfold gV at h;by_cases h1:fF ts≠0
 · rw [if_pos h1] at h;exact absurd h h1
 rw [if_neg h1] at h;by_cases h2:t < 0∨(ts.length:Int)≤t
 · rw [if_pos h2] at h;cases h
 exact ⟨Classical.byContradiction h1,by omega⟩
theorem awf {ts:List ay} {t:Nat} (h:fF ts=0) (ht:t < ts.length):gV ts t=0:=by
 unfold gV;rw [if_neg (by simp [h]),if_neg (by omega)]
theorem zBp {p:Prop} (h:p:=by
 go_upto_region 1 with fail;refine aO (fun wd2 hb1 R => ?_);have hw3:=hb1;clear hb1;obtain ⟨iV,iW⟩:=R.out.c2;go_wp2_with fail;clear iV iW;((with_reducible refine (HVa.out _ (HT.out.on hw3)).mono ?_);rintro e wd4 ⟨rfl,hb5⟩);replace R:=b1 R hb5;replace hw3:=dT hw3 hb5;clear hb5;obtain ⟨iV,iW⟩:=R.out.c2;go_wp2_with fail;go_ret;exact ⟨bC hr.out.symm,hw3⟩):p:=h
theorem zJf {p:Prop} (h:p:=by
 go_enter Tryz.func73,Tryz.ntmps73
 exact zBp):p:=h
theorem awJ (ts:List ay) (A:Option Addr) (c:Nat) (t:Int) (w:World) (ht:aU w w.heap.size (.slice A ts.length c) ts)
  (hva:∀ W,aU W W.heap.size (.slice A ts.length c) ts→Calls Tryz.prog 63 #[.agg #[.slice A ts.length c]] W fun e w' => e = .returned (.int .i64 (fF ts))∧Below W.heap.size W w') :
  Calls Tryz.prog 73 #[.agg #[.slice A ts.length c,.int .i64 t]] w (RTq w (.int .i64 (gV ts t))):=by
 have HT:=hiQ ht;have HVa:=hiQ hva;clear ht hva;by_cases hv:fF ts=0
 ·
  rw [hv] at HVa;have hlen:=(ni hv).1;have tv:((0:Int) != 0)=false:=by decide
  by_cases h1:t < 0
  ·
   have hr:Hid (gV ts t=4):=by show _=_;unfold gV;rw [if_neg (by simp [hv]),if_pos (.inl h1)]
   have d1:decide (t < 0)=true:=decide_eq_true h1;clear hv;exact zJf
  have d1:decide (t < 0)=false:=decide_eq_false h1;by_cases h2:(ts.length:Int)≤t
  ·
   have hr:Hid (gV ts t=4):=by show _=_;unfold gV;rw [if_neg (by simp [hv]),if_pos (.inr h2)]
   have d2:decide ((ts.length:Int)≤t)=true:=decide_eq_true h2;clear hv;exact zJf
  have hr:Hid (gV ts t=0):=by show _=_;unfold gV;rw [if_neg (by simp [hv]),if_neg (by omega)]
  have d2:decide ((ts.length:Int)≤t)=false:=decide_eq_false h2;clear hv;exact zJf
 have hr:Hid (gV ts t=fF ts):=by show _=_;unfold gV;rw [if_pos hv]
 obtain ⟨ve,hve⟩ : ∃ v,v=fF ts:=⟨_,rfl⟩
 rw [← hve] at hr HVa hv;have tv:(ve != 0)=true:=by simpa using hv
 clear hve;exact zJf
theorem zJe {p:Prop} (h:p:=by
 go_enter Tryz.func65,Tryz.ntmps65
 exact zBp):p:=h
theorem awK (ts:List ay) (A:Option Addr) (c:Nat) (t:Int) (w:World) (ht:aU w w.heap.size (.slice A ts.length c) ts)
  (hva:∀ W,aU W W.heap.size (.slice A ts.length c) ts→Calls Tryz.prog 84 #[.agg #[.slice A ts.length c]] W fun e w' => e = .returned (.int .i64 (fF ts))∧Below W.heap.size W w') :
  Calls Tryz.prog 65 #[.agg #[.slice A ts.length c,.int .i64 t]] w (RTq w (.int .i64 (gV ts t))):=by
 have HT:=hiQ ht;have HVa:=hiQ hva;clear ht hva;by_cases hv:fF ts=0
 ·
  rw [hv] at HVa;have hlen:=(ni hv).1;have tv:((0:Int) != 0)=false:=by decide
  by_cases h1:t < 0
  ·
   have hr:Hid (gV ts t=4):=by show _=_;unfold gV;rw [if_neg (by simp [hv]),if_pos (.inl h1)]
   have d1:decide (t < 0)=true:=decide_eq_true h1;clear hv;exact zJe
  have d1:decide (t < 0)=false:=decide_eq_false h1;by_cases h2:(ts.length:Int)≤t
  ·
   have hr:Hid (gV ts t=4):=by show _=_;unfold gV;rw [if_neg (by simp [hv]),if_pos (.inr h2)]
   have d2:decide ((ts.length:Int)≤t)=true:=decide_eq_true h2;clear hv;exact zJe
  have hr:Hid (gV ts t=0):=by show _=_;unfold gV;rw [if_neg (by simp [hv]),if_neg (by omega)]
  have d2:decide ((ts.length:Int)≤t)=false:=decide_eq_false h2;clear hv;exact zJe
 have hr:Hid (gV ts t=fF ts):=by show _=_;unfold gV;rw [if_pos hv]
 obtain ⟨ve,hve⟩ : ∃ v,v=fF ts:=⟨_,rfl⟩
 rw [← hve] at hr HVa hv;have tv:(ve != 0)=true:=by simpa using hv
 clear hve;exact zJe
theorem azg (r:List Bool) (j:Nat) (u:Value) (w:World) (hr:Rd w w.heap.size 1 u r.length (bV r)) (hj:r.findIdx (fun b => b)=j) (hjl:j < r.length) (hrl:r.length≤1000) :
  Calls Tryz.prog 103 #[u,.bool true] w (RTq w (.int .i64 (j:Int))):=by
 obtain ⟨A,c,rfl,hc⟩:=hr.form;obtain ⟨b,o,rfl,hb,hcell⟩:=hr.at_ (by omega);have HC:=hiQ hcell;have HJ:=hiQ hj;clear hr hcell hj;go_enter Tryz.func103,Tryz.ntmps103
 go_wp2
 go_loopw [8] (fun i wr => ∃ k:Nat,i = .int .i64 k∧k≤j∧Below w.heap.size w wr) (fun i _ => r.length - (intOf i).toNat)
 case atStart => exact ⟨0,rfl,by omega,Below.refl _ _⟩
 case round =>
  obtain ⟨k,rfl,hk,hbl⟩:=hrel;have hkl:k < r.length:=by omega
  have hi1:(k:Int) < r.length:=by omega
  have hd0:decide ((k:Int) < 0)=false:=by simp
  have hd1:decide (r.length≤k)=false:=by simpa using hkl
  have hck:=(hbl.cell (p:=⟨b,o+k,none⟩) hb).trans (HC.out k (.bool r[k]) (by simp [bV,List.getElem?_map,List.getElem?_eq_getElem hkl]));by_cases he:k=j
  ·
   subst he;have hx:r[k]=true:=by
    have:=List.findIdx_getElem (p:=fun b => b) (xs:=r) (w:=by rw [HJ.out];exact hkl);simp only [HJ.out] at this;exact this
   rw [hx] at hck;clear hx;go_wp2_with fail;go_ret;exact ⟨rfl,hbl⟩
  have hx:r[k]=false:=by
   have:=List.not_of_lt_findIdx (p:=fun b => b) (xs:=r) (i:=k) (by rw [HJ.out];omega);simpa using this
  rw [hx] at hck;have hkj:k+1≤j:=by omega
  clear hx he;go_wp2_with fail;go_roundw
  case rel => exact ⟨k+1,by go_num,hkj,hbl⟩
  case measure => simp [intOf];omega
noncomputable def aot (ts:List ay) (t:Int) (us:List ay) (t':Int):Bool:=@ite _ (gV ts t=0∧gV us t'=0) (inferInstance) (aoY ts us t.toNat t'.toNat) false
theorem aaz (ts:List ay) (A:Option Addr) (c:Nat) (t:Int) (w:World) (hs:Sizes ts) (ht:aU w w.heap.size (.slice A ts.length c) ts) :
  Calls Tryz.prog 73 #[.agg #[.slice A ts.length c,.int .i64 t]] w (RTq w (.int .i64 (gV ts t))) :=
 awJ ts A c t w ht (fun W h => ab6 ts A c W hs h)
theorem azh {x:ay} (hk:x.kind≤9):(bn x).map Prod.snd=lg x:=by
 unfold bn lg;exact zFk
structure GoodS (ts:List ay):Prop where
 len:ts.length≤32
 ah:∀ x ∈ ts,x.ah.length≤1000
 inu:InU ts
theorem akN {ts:List ay} (h:fF ts=0):GoodS ts:=by
 obtain ⟨h1,h2⟩:=ni h;refine ⟨h1,fun x hx => ?_,fun x hx u hu => ?_⟩
 ·
  obtain ⟨h3,_,_⟩:=h2 x hx;by_cases hk:x.kind=5∨x.kind=6
  · have:=(as2 h3 hk).1;omega
  rw [(U0 h3).2.2.2.1 hk];simp
 obtain ⟨h3,h4,_⟩:=h2 x hx;rw [List.all_eq_true] at h4;have h5:u.2 ∈ lg x:=by
  rw [← azh (Us h3).2];exact List.mem_map_of_mem hu
 have h6:=h4 _ h5;unfold inB at h6;simpa using h6
theorem zAf {p:Prop} (h:p:=by exact ⟨X.out.cell 0,⟨X.out.cell 1,⟨Y.out.cell 0,Y.out.cell 1⟩⟩⟩):p:=h
theorem zBu {p:Prop} (h:p:=by
 refine tk 7 ?_;refine tk 8 ?_;refine tks 9 ?_;simp only [aF];refine tks 10 ?_;simp only [aF];refine tks 11 ?_;simp only [aF];refine tks 12 ?_;simp only [aF];refine tks 13 ?_;simp only [aF];refine tks 14 ?_;simp only [aF];refine tks 15 ?_;simp only [aF];refine tks 16 ?_;simp only [aF];refine tks 17 ?_;simp only [aF];refine tks 18 ?_;simp only [aF];refine tks 19 ?_;simp only [aF];refine tks 20 ?_;simp only [aF];refine tks 21 ?_;simp only [aF];refine tks 22 ?_;simp only [aF];refine tk 23 ?_;refine tk 24 ?_;refine wpAnyH_done (by kernel_rfl) ?_ _;(try clear hHeld);go_wp2_with fail;go_ret;exact ⟨au hw.out.symm,hw3⟩):p:=h
theorem zCr {p:Prop} (h:p:=by
 refine tk 23 ?_;refine tk 24 ?_;refine wpAnyH_done (by kernel_rfl) ?_ _;(try clear hHeld);go_wp2_with fail;go_ret;exact ⟨au hw.out.symm,hw3⟩):p:=h
theorem zIv {p:Prop} (h:p:=by
 clear hK K;refine tk 2 ?_;refine tk 3 ?_;refine tks 4 ?_;simp only [aF];refine tks 5 ?_;simp only [aF];refine tks 6 ?_;simp only [aF];exact zBu):p:=h
theorem aIv (ts us:List ay) (A A':Option Addr) (c c':Nat) (t t':Int) (w:World) (hs:Sizes ts) (hs':Sizes us) (ht:aU w w.heap.size (.slice A ts.length c) ts) (hu:aU w w.heap.size (.slice A' us.length c') us) :
  Calls Tryz.prog 71 #[.agg #[.slice A ts.length c,.int .i64 t],.agg #[.slice A' us.length c',.int .i64 t'],.bool false] w (RTq w (.bool (aot ts t us t'))):=by
 have HT:=hiQ ht;have HU:=hiQ hu;have H1:=hiQ (fun W h => aaz ts A c t W hs h);have H2:=hiQ (fun W h => aaz us A' c' t' W hs' h);clear ht hu hs hs';by_cases h1:gV ts t=0
 ·
  obtain ⟨hv1,ht0,htl⟩:=aro h1;rw [h1] at H1;by_cases h2:gV us t'=0
  ·
   obtain ⟨hv2,hu0,Wn⟩:=aro h2;rw [h2] at H2;obtain ⟨i,rfl⟩ : ∃ i:Nat,t=(i:Int):=⟨t.toNat,by omega⟩
   obtain ⟨k,rfl⟩ : ∃ k:Nat,t'=(k:Int):=⟨t'.toNat,by omega⟩
   have hw:Hid (aot ts i us k=aoY ts us i k):=by show _=_;unfold aot;rw [if_pos ⟨h1,h2⟩];rfl
   have hil:i < ts.length:=by omega
   have hkl:k < us.length:=by omega
   have HR:=hiQ (fun W h1 h2 => avc ts us A A' c c' W (by have:=(akN hv1).len;omega) (by have:=(akN hv2).len;omega) (akN hv1).ah (akN hv2).ah (akN hv1).inu (akN hv2).inu h1 h2);have hd0:decide ((i:Int) < 0)=false:=by simp
   have hd1:decide (ts.length≤i)=false:=by simpa using hil
   have hd2:decide ((k:Int) < 0)=false:=by simp
   have hd3:decide (us.length≤k)=false:=by simpa using hkl
   clear h1 h2 hv1 hv2 ht0 hu0 htl Wn;go_enter Tryz.func71,Tryz.ntmps71
   go_upto_region 1 with fail;refine jg (fun wd2 hb1 X Y => ?_);have hw3:=hb1;clear hb1;obtain ⟨aK,bJ⟩:=X.out.c2;obtain ⟨kT,kU⟩:=Y.out.c2;refine wp_region_held_drew (S:=(fun w' => w'.cell? ⟨w.heap.size,0,none⟩=some (.slice A ts.length c)∧w'.cell? ⟨w.heap.size,1,none⟩=some (.int .i64 (i))∧w'.cell? ⟨w.heap.size+1,0,none⟩=some (.slice A' us.length c')∧w'.cell? ⟨w.heap.size+1,1,none⟩=some (.int .i64 (k)))) (by kernel_rfl) ⟨aK,bJ,kT,kU⟩ (fun hHeld => ?_);clear aK bJ kT kU;have hb4:Below wd2.heap.size wd2 (wd2.drew):=(Below.refl _ _).drew;obtain ⟨X,Y⟩:=b2 X Y hb4;replace hw3:=dT hw3 hb4;clear hb4;generalize wd2.drew=fG at *;refine tk 0 ?_;refine iE 1 fun K hK => ?_;go_simp;((with_reducible refine (H1.out _ (HT.out.on hw3)).mono ?_);rintro e wL ⟨rfl,hb7⟩);obtain ⟨X,Y⟩:=b2 X Y hb7;replace hw3:=dT hw3 hb7;clear hb7;(try clear hHeld);refine hK.out _ _ zAf (fun hHeld => ?_);clear hK K;refine tk 2 ?_;refine tk 3 ?_;refine tk 4 ?_;refine iE 5 fun K hK => ?_;go_simp;((with_reducible refine (H2.out _ (HU.out.on hw3)).mono ?_);rintro e qP ⟨rfl,zU⟩);obtain ⟨X,Y⟩:=b2 X Y zU;replace hw3:=dT hw3 zU;clear zU;(try clear hHeld);refine hK.out _ _ zAf (fun hHeld => ?_);clear hK K;refine tk 6 ?_;refine tk 7 ?_;refine tk 8 ?_;refine tk 9 ?_;refine tk 10 ?_;refine tk 11 ?_;refine tk 12 ?_;refine tk 13 ?_;refine tk 15 ?_;refine tk 16 ?_;refine tk 19 ?_;refine tk 20 ?_;refine iE 14 fun K hK => ?_;go_simp;((with_reducible refine (HR.out _ (HT.out.on hw3) (HU.out.on hw3)).mono ?_);rintro e kL ⟨rb,cc,M,rfl,htab,hsh,awg,iR⟩)
   obtain ⟨X,Y⟩:=b2 X Y iR;replace hw3:=dT hw3 iR;clear iR;have hiM:i < M.length:=by rw [hsh.1];exact hil
   have hkM:k < M[i].length:=by rw [hsh.2];exact hkl
   have aoi:M.at_ i k=M[i][k]:=by simp [Tab.at_,List.getD,hiM,hkM]
   obtain ⟨u,hrow⟩:=htab.row hiM;obtain ⟨rg,cu,rfl,-,-,-,hbc,-⟩:=hrow.pos hkM;rw [hsh.2 i hiM] at hrow;have hrc:=hrow.cell;rw [← aoi,awg] at hbc;have KC:=hiQ (Af hrc);have KB:=hiQ (Af hbc);clear hrow hrc hbc aoi htab hsh awg hiM hkM;(try clear hHeld);refine hK.out _ _ zAf (fun hHeld => ?_);clear hK K;refine iE 17 fun K hK => ?_;go_simp;(try clear hHeld);refine hK.out _ _ zAf (fun hHeld => ?_);clear hK K;refine iE 18 fun K hK => ?_;have hrc:=KC.out.now;go_simp;clear hrc;(try clear hHeld);refine hK.out _ _ zAf (fun hHeld => ?_);clear hK K;refine iE 21 fun K hK => ?_;go_simp;(try clear hHeld);refine hK.out _ _ zAf (fun hHeld => ?_);clear hK K;refine iE 22 fun K hK => ?_;have hbc:=KB.out.now;go_simp;clear hbc;(try clear hHeld);refine hK.out _ _ zAf (fun hHeld => ?_);clear hK K;exact zCr
  have hw:Hid (aot ts t us t'=false):=by show _=_;unfold aot;rw [if_neg (fun h => h2 h.2)]
  obtain ⟨r2,hr2⟩ : ∃ r,r=gV us t':=⟨_,rfl⟩
  rw [← hr2] at H2 h2;have t2:(r2 == 0)=false:=by simpa using h2
  clear h1 h2 hr2 hv1 ht0 htl;go_enter Tryz.func71,Tryz.ntmps71
  go_upto_region 1 with fail;refine jg (fun wd2 hb1 X Y => ?_);have hw3:=hb1;clear hb1;obtain ⟨aK,bJ⟩:=X.out.c2;obtain ⟨kT,kU⟩:=Y.out.c2;refine wp_region_held_drew (S:=(fun w' => w'.cell? ⟨w.heap.size,0,none⟩=some (.slice A ts.length c)∧w'.cell? ⟨w.heap.size,1,none⟩=some (.int .i64 (t))∧w'.cell? ⟨w.heap.size+1,0,none⟩=some (.slice A' us.length c')∧w'.cell? ⟨w.heap.size+1,1,none⟩=some (.int .i64 (t')))) (by kernel_rfl) ⟨aK,bJ,kT,kU⟩ (fun hHeld => ?_);clear aK bJ kT kU;have hb4:Below wd2.heap.size wd2 (wd2.drew):=(Below.refl _ _).drew;obtain ⟨X,Y⟩:=b2 X Y hb4;replace hw3:=dT hw3 hb4;clear hb4;generalize wd2.drew=fG at *;refine tk 0 ?_;refine iE 1 fun K hK => ?_;go_simp;((with_reducible refine (H1.out _ (HT.out.on hw3)).mono ?_);rintro e wL ⟨rfl,hb7⟩);obtain ⟨X,Y⟩:=b2 X Y hb7;replace hw3:=dT hw3 hb7;clear hb7;(try clear hHeld);refine hK.out _ _ zAf (fun hHeld => ?_);clear hK K;refine tk 2 ?_;refine tk 3 ?_;refine tk 4 ?_;refine iE 5 fun K hK => ?_;go_simp;((with_reducible refine (H2.out _ (HU.out.on hw3)).mono ?_);rintro e qP ⟨rfl,zU⟩);obtain ⟨X,Y⟩:=b2 X Y zU;replace hw3:=dT hw3 zU;clear zU;(try clear hHeld);refine hK.out _ _ zAf (fun hHeld => ?_);clear hK K;refine tk 6 ?_;exact zBu
 have hw:Hid (aot ts t us t'=false):=by show _=_;unfold aot;rw [if_neg (fun h => h1 h.1)]
 obtain ⟨r1,hr1⟩ : ∃ r,r=gV ts t:=⟨_,rfl⟩
 rw [← hr1] at H1 h1;have t1:(r1 == 0)=false:=by simpa using h1
 clear h1 hr1;go_enter Tryz.func71,Tryz.ntmps71
 go_upto_region 1 with fail;refine jg (fun wd2 hb1 X Y => ?_);have hw3:=hb1;clear hb1;obtain ⟨aK,bJ⟩:=X.out.c2;obtain ⟨kT,kU⟩:=Y.out.c2;refine wp_region_held_drew (S:=(fun w' => w'.cell? ⟨w.heap.size,0,none⟩=some (.slice A ts.length c)∧w'.cell? ⟨w.heap.size,1,none⟩=some (.int .i64 (t))∧w'.cell? ⟨w.heap.size+1,0,none⟩=some (.slice A' us.length c')∧w'.cell? ⟨w.heap.size+1,1,none⟩=some (.int .i64 (t')))) (by kernel_rfl) ⟨aK,bJ,kT,kU⟩ (fun hHeld => ?_);clear aK bJ kT kU;have hb4:Below wd2.heap.size wd2 (wd2.drew):=(Below.refl _ _).drew;obtain ⟨X,Y⟩:=b2 X Y hb4;replace hw3:=dT hw3 hb4;clear hb4;generalize wd2.drew=fG at *;refine tk 0 ?_;refine iE 1 fun K hK => ?_;go_simp;((with_reducible refine (H1.out _ (HT.out.on hw3)).mono ?_);rintro e wL ⟨rfl,hb7⟩);obtain ⟨X,Y⟩:=b2 X Y hb7;replace hw3:=dT hw3 hb7;clear hb7;(try clear hHeld);refine hK.out _ _ zAf (fun hHeld => ?_);exact zIv
theorem zHr {p:Prop} (h:p:=by
 go_upto_region 1 with fail;refine jg (fun wd2 hb1 X Y => ?_);have hw3:=hb1;clear hb1;obtain ⟨aK,bJ⟩:=X.out.c2;obtain ⟨kT,kU⟩:=Y.out.c2;go_wp2_with fail;clear aK bJ kT kU;((with_reducible refine (HR.out _ (HT.out.on hw3) (HU.out.on hw3)).mono ?_);rintro e wd4 ⟨rfl,hb5⟩);obtain ⟨X,Y⟩:=b2 X Y hb5;replace hw3:=dT hw3 hb5;clear hb5;exact zCm):p:=h
theorem aKl (ts us:List ay) (A A':Option Addr) (c c':Nat) (t t':Int) (w:World) (hs:Sizes ts) (hs':Sizes us) (ht:aU w w.heap.size (.slice A ts.length c) ts) (hu:aU w w.heap.size (.slice A' us.length c') us) :
  Calls Tryz.prog 40 #[.agg #[.slice A ts.length c,.int .i64 t],.agg #[.slice A' us.length c',.int .i64 t']] w (RTq w (.bool (aot ts t us t'))):=by
 have HT:=hiQ ht;have HU:=hiQ hu;have HR:=hiQ (fun W h1 h2 => aIv ts us A A' c c' t t' W hs hs' h1 h2);clear ht hu hs hs';go_enter Tryz.func40,Tryz.ntmps40
 exact zHr
def aBI (ts:List ay) (w:World) (e:Ending) (w':World):Prop := ∃ v,e = .returned (.tuple #[v,.int .i64 0])∧w'.ownsRow w.heap.size 3 1 v ts.length ((List.range ts.length).map fun i => .int .i64 (dR ts i:Nat))∧Below w.heap.size w w'
theorem aAo (ts:List ay) (k:Nat):((List.range (k+1)).map fun i => Value.int .i64 (dR ts i:Nat))=((List.range k).map fun i => Value.int .i64 (dR ts i:Nat)) ++ [.int .i64 (dR ts k:Nat)]:=by
 rw [List.range_succ,List.map_append];rfl
theorem aBJ {ts:List ay} {M:Tab} {k:Nat} (hsh:M.shape ts.length ts.length) (hb:∀ i j,M.at_ i j=aoY ts ts i j) (hk:k < M.length):M[k]=rowB ts ts k:=by
 refine List.ext_getElem (by rw [hsh.2,alG]) fun j h1 h2 => ?_;rw [arK,← hb];simp [Tab.at_,List.getD,hk,h1]
theorem awv (ts:List ay) (A:Option Addr) (c:Nat) (w:World) (hs:Sizes ts) (hv:fF ts=0) (ht:aU w w.heap.size (.slice A ts.length c) ts) :
  Calls Tryz.prog 74 #[.agg #[.slice A ts.length c]] w (aBI ts w):=by
 have HT:=hiQ ht;have HV:=hiQ hv;have hva:=fun W h => ab6 ts A c W hs h;rw [hv] at hva;have HVa:=hiQ hva;have HR:=hiQ (fun W h1 h2 => avc ts ts A A c c W (by have:=(akN hv).len;omega) (by have:=(akN hv).len;omega) (akN hv).ah (akN hv).ah (akN hv).inu (akN hv).inu h1 h2);have hlen:=(akN hv).len;have FI:=hiQ (FP hv);clear ht hv hva hs;go_enter Tryz.func74,Tryz.ntmps74
 go_upto_region 1 with fail;refine aO (fun wd2 hb1 S => ?_);have hw3:=hb1;clear hb1;have aH:=S.out.e0;go_wp2_with fail;clear aH;((with_reducible refine (HVa.out _ (HT.out.on hw3)).mono ?_);rintro e wd4 ⟨rfl,hb5⟩);replace S:=b1 S hb5;replace hw3:=dT hw3 hb5;clear hb5;have aH:=S.out.e0;go_wp2_with fail;have hSh:=S.out.here;clear aH;((with_reducible refine (HR.out _ (HT.out.on hw3) (HT.out.on hw3)).mono ?_);rintro e wL ⟨rb,cc,M,rfl,htab,hsh,awg,hb7⟩);replace S:=b1 S hb7;replace hw3:=dT hw3 hb7;clear hb7;have TB:=hiQ (Kept.tab (htab.base (L':=w.heap.size+1) (by omega)));have HSH:=hiQ hsh;have HBI:=hiQ awg;clear htab hsh awg;obtain ⟨LT,hLT⟩ : ∃ L,L=wL.heap.size:=⟨_,rfl⟩
 rw [← hLT] at TB;have aDe:=TB.out;have hLw:w.heap.size+1≤LT:=by have:=S.out.here;omega
 have hW0:=hw3;have hLs:=Nat.le_of_eq hLT;clear hLT S;have hMl:M.length=ts.length:=HSH.out.1;go_upto_region 6 with fail;go_loopw [5,17] (fun s5 s17 wr => ∃ k:Nat,k≤ts.length∧s17 = .int .i64 k∧wr.ownsRow LT 3 1 s5 k ((List.range k).map fun i => .int .i64 (dR ts i:Nat))∧Kept (fun w' => TabAt w' (w.heap.size+1) (.slice (some ⟨rb,0,none⟩) ts.length cc) M) wr (w.heap.size+1) LT∧LT≤wr.heap.size∧Below w.heap.size w wr) (fun _ s17 _ => ts.length - (intOf s17).toNat)
 case atStart => exact ⟨0,by omega,rfl,World.ownsRow_nil _ _ _ _,aDe,hLs,hW0⟩
 case round =>
  clear TB aDe hW0 hLs;obtain ⟨k,hk,rfl,hown,hTB,hLs,hb⟩:=hrel;obtain ⟨A0,c0,rfl⟩:=jF hown;have TB:=hiQ (hTB);have O:=hiQ (Kept.own hown);clear hTB hown;by_cases hlt:k < ts.length
  ·
   have hi1:(k:Int) < ts.length:=by omega
   have hd0:decide ((k:Int) < 0)=false:=by simp
   have hd1:decide (ts.length≤k)=false:=by simpa using hlt
   have hkM:k < M.length:=by rw [HSH.out.1];exact hlt
   obtain ⟨u,hrow⟩:=TB.out.now.row hkM;have hrc:=hrow.cell;have hrd:=Rd.uX hrow.own;rw [aBJ HSH.out HBI.out hkM] at hrd;have hcl:=aqA FI.out hlt;have wO:=hiQ (aAo ts k);have HRD:=hiQ hrd;clear hrow hrd;go_wp2_with fail;((with_reducible refine (azg (rowB ts ts k) (dR ts k) u _ HRD.out rfl (by rw [alG];exact hcl) (by rw [alG];omega)).mono ?_);rintro e qP ⟨rfl,zU⟩);obtain ⟨TB,O⟩:=b2 TB O zU;replace hb:=dT hb zU;clear zU hrc HRD;generalize dR ts k=cl at *;have hbase:LT≤qP.heap.size:=by have:=(hb).size;have:=O.out.le;omega
   go_upto_region 9 with (at_builtin;refine fA rfl _ _ _ rfl LT 3 _ 1 8 Tryz.underlying39 oP rfl (by decide) _ k _ rfl O.out.now [.int .i64 (cl:Nat)] _ 1 _ rfl rfl rfl (by simp [Value.oneCell']) (by omega) (by omega) hbase ?_;intro g cap w3 hown3 hg3 hgat hb3)
   clear hg3 hgat hbase O;replace TB:=hiQ (TB.out.iJ hb3 (show LT≤LT by omega));replace hb:=hb.trans (hb3.mono (show w.heap.size≤LT by omega));have O:=hiQ (Kept.own hown3);clear hown3;go_wp2_with fail;go_roundw
   case rel => exact ⟨k+1,by omega,by go_num,by rw [wO.out];exact O.out.now,TB.out,by have:=O.out.le;have:=TB.out.le;omega,hb⟩
   case measure => simp [intOf];omega
  obtain rfl:k=ts.length:=by omega
  go_wp2_with fail;go_ret2;exact ⟨_,rfl,own_base O.out.now (by omega),hb⟩
end Go.Proofs.YtlamhkffnlgofaaGreatDoor

/- What Payload of sheaveref09 computes, and what else is used with it. No condition. -/
import Derived.Test.YtkaedmpppnnamaaGreatDoorJAO
import Derived.Test.YtkaedmpppnnamaaGreatDoorEncL
namespace Go.Proofs.YtkaedmpppnnamaaGreatDoor
open ChangeShapes WideShapes ChangeAt RowKit
theorem id4 {ts:List ay} (h:fF ts=0) {x:ay} (hx:x ∈ ts) (hk:x.kind=4) {v:Val} {t:Int} (ht:bM ts t=some x) (hf:cO ts false v t=true):1<=v.id/\v.id<=1000:=by
 have h3:=(pI ht hf).2.2;unfold jT ig at h3;rw [gB (by omega),gB (by omega),o_ hk] at h3;cases hs:qm x v.id with
 | some i =>
  unfold qm at hs;obtain ⟨hlt,he,_⟩:=IK _ _ _ _ hs;have:=WW h hx hk (x.syms[i - 0]'(by simpa using hlt)) (jl _);exact zGc
 | none =>
  rw [hs] at h3;simp [mM] at h3;exact h3.2
theorem id6 {ts:List ay} (h:fF ts=0) {x:ay} (hx:x ∈ ts) (hk:x.kind=6) {v:Val} {t:Int} (ht:bM ts t=some x) (hf:cO ts false v t=true):1<=v.id/\v.id<=1000:=by
 have h3:=(pI ht hf).2.2;unfold jT ig at h3;rw [gB (by omega),gB (by omega),gB (by omega),gB (by omega),o_ hk] at h3;cases hm:dN x v.id with
 | some i =>
  unfold dN at hm;obtain ⟨h4,he,_⟩:=IK _ _ _ _ hm;have:=(Dy h hx (.inr hk)).1 (x.ah[i - 0]'(by simpa using h4)) (jl _);exact zGc
 | none =>
  rw [hm] at h3;simp [mM] at h3;exact h3.2.1
theorem Vr (ts:List ay) (A:Option Addr) (c:Nat) (hval:fF ts=0):∀ (N:Nat) (v:Val) (t:Int) (vk vi vr:Value) (w:World),nodes v<=N->cO ts false v t=true->(fE ts v t).length<=140737488355328->ValAt w w.heap.size v vk vi vr->aU w w.heap.size (.slice A ts.length c) ts ->
  Calls Tryz.prog 25 #[.agg #[.slice A ts.length c],.int .i64 t,aS v vk vi vr] w (RT w (.string ⟨(fE ts v t).toArray⟩)):=by
 intro N
 induction N with
 | zero => intro v t vk vi vr w hn;have:=zJ v;omega
 | succ N ih =>
  intro v t vk vi vr w hn hf hz hv ht;obtain ⟨A1,n1,A2,n2,A3,n3,rfl,rfl,rfl,-,-,-⟩:=hv.forms;cases hx:bM ts t with
  | none => rw [kG,hx] at hf;cases hf
  | some x =>
   obtain ⟨n,rfl,hnl,hx2⟩:=Ej (by rw [hx];rfl);rw [hx2] at hx;injection hx with hx;subst hx;obtain ⟨h1,-,-⟩:=pI hx2 hf;have hkr:=(IJ hval ts[n] (jl hnl)).1;obtain ⟨hnk,hni⟩:=JE hn;have hU:NH ts (.slice A ts.length c) (v.keys ++ v.items):=fun y hy t yk yi yr W hf hz hv hT => ih y t yk yi yr W ((Dp.1 hy).elim (hnk y) (hni y)) hf hz hv hT;have hcs:ts[n].kind=1\/ts[n].kind=2\/ts[n].kind=3\/ts[n].kind=4\/ts[n].kind=5\/ts[n].kind=6\/ts[n].kind=7\/ts[n].kind=8\/ts[n].kind=9:=by omega
   rcases hcs with hk | hk | hk | hk | hk | hk | hk | hk | hk
   . exact acy ts A c n v A1 A2 A3 n1 n2 n3 w hnl hk (h1.trans hk) ht hv hz
   . exact acz ts A c n v A1 A2 A3 n1 n2 n3 w hnl hk (h1.trans hk) ht hv hz
   . exact acA ts A c n v A1 A2 A3 n1 n2 n3 w hnl hk (h1.trans hk) ht hv hz
   . exact acB ts A c n v A1 A2 A3 n1 n2 n3 w hnl hk (h1.trans hk) ht hv hz (id4 hval (jl hnl) hk hx2 hf)
   . exact abE ts A c n v A1 A2 A3 n1 n2 n3 w hnl hk (h1.trans hk) ht hv hz hf hU
   . exact acD ts A c n v A1 A2 A3 n1 n2 n3 w hnl hk (h1.trans hk) ht hv hz (id6 hval (jl hnl) hk hx2 hf) hf hU
   . exact acE ts A c n v A1 A2 A3 n1 n2 n3 w hnl hk (h1.trans hk) ht hv hz hf hU
   . exact acF ts A c n v A1 A2 A3 n1 n2 n3 w hnl hk (h1.trans hk) ht hv hz hf hU
   exact acC ts A c n v A1 A2 A3 n1 n2 n3 w hnl hk (h1.trans hk) ht hv hz hf hU
theorem ahc (ts:List ay) (A:Option Addr) (c:Nat) (hval:fF ts=0):∀ (N:Nat) (v:Val) (t:Int) (vk vi vr:Value) (w:World),nodes v<=N->N<=1000000000000->cO ts false v t=true->ValAt w w.heap.size v vk vi vr->aU w w.heap.size (.slice A ts.length c) ts ->
  Calls Tryz.prog 26 #[.agg #[.slice A ts.length c],.int .i64 t,aS v vk vi vr] w (RT w (.int .i64 (jV ts v t))):=by
 intro N
 induction N with
 | zero => intro v t vk vi vr w hn;have:=zJ v;omega
 | succ N ih =>
  intro v t vk vi vr w hn hN hf hv ht;obtain ⟨A1,n1,A2,n2,A3,n3,rfl,rfl,rfl,-,-,-⟩:=hv.forms;cases hx:bM ts t with
  | none => rw [kG,hx] at hf;cases hf
  | some x =>
   obtain ⟨n,rfl,hnl,hx2⟩:=Ej (by rw [hx];rfl);rw [hx2] at hx;injection hx with hx;subst hx;obtain ⟨h1,h2,h3⟩:=pI hx2 hf;have hkr:=(IJ hval ts[n] (jl hnl)).1;obtain ⟨-,hni⟩:=JE hn;have hU:UW ts (.slice A ts.length c) v.items:=fun y hy t yk yi yr W hf hv hT => ih y t yk yi yr W (hni y hy) (by omega) hf hv hT;by_cases h5:ts[n].kind=5
   . exact aeG ts A c n v A1 A2 A3 n1 n2 n3 w hnl h5 (h1.trans h5) ht hv (by omega) hU (CO h1 h2 (by omega)) hf
   by_cases h6:ts[n].kind=6
   . exact aeF ts A c n v A1 A2 A3 n1 n2 n3 w hnl h6 (h1.trans h6) ht hv (by omega) hU (CO h1 h2 (by omega)) hf
   refine aeE ts A c n v A1 A2 A3 n1 n2 n3 w hnl h5 h6 h1 ht hv (by omega) hU (fun y hy => ?_);by_cases h7:ts[n].kind=7\/ts[n].kind=8\/ts[n].kind=9
   . exact (Ei hx2 hf h7).2 y hy
   unfold aA at h2;simp only [j_,QF,w_] at h2;rw [yS (h2.2.2.2.2.2.1.resolve_left (by omega))] at hy;simp at hy

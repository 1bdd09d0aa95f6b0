/- SxArgs3. -/
import Derived.Test.YtajglkbckhgboaaGreatDoorCM09
set_option linter.all false
set_option maxRecDepth 100000
set_option maxHeartbeats 8000000

section
namespace Go.VC
open Go.Proofs Go.LexS Go.RowKit Go.ChangeShapes Go.WideShapes Go.Proofs.YtajglkbckhgboaaGreatDoor
theorem cz5:Pz.cellsOf 5=1:=by kernel_rfl
theorem vs47:Pz.underlying 46=some (.slice 5):=by kernel_rfl
theorem v5u:Pz.underlying 5=some (.int .u8):=by kernel_rfl
theorem open_u8 {W:World} {r:List Value} (h:Rdb Pz W 5 r):∃x:Nat,r=u8C x/\x<=255:=by
 obtain⟨n,e,hw⟩:=h.rdt.int v5u;have h2:0<=n/\n<=255:=by
  have h3:(decide (IntKind.u8.min<=n)&&decide (n<=IntKind.u8.max))=true:=hw;rw[Yt] at h3;exact⟨Yyn h3.1,Yyn h3.2⟩
 exact⟨n.toNat,by rw[e];unfold u8C;rw[show ((n.toNat:Nat):Int)=n by omega],by omega⟩
theorem open_u8s {W:World} {v:Value} (h:Rdb Pz W 46 [v]):∃(s:Sl) (L:List Nat),v=.slice s.a s.n s.c/\(RL W.heap 1 s u8C L/\∀n∈L,n<=255):=by
 obtain⟨s,L,e,hr,hb⟩:=Rdb.list vs47 cz5 (by omega) (fun r hr=>open_u8 hr) h;exact⟨s,L,e,hr,hb⟩
theorem cz46:Pz.cellsOf 46=1:=by kernel_rfl
theorem cz47:Pz.cellsOf 47=2:=by kernel_rfl
theorem va47:Pz.underlying 47=some (.array 2 46):=by kernel_rfl
theorem open_u8s2 {W:World} {cs:List Value} (h:Rdb Pz W 47 cs):∃(s1:Sl) (L1:List Nat) (s2:Sl) (L2:List Nat),cs=[.slice s1.a s1.n s1.c,.slice s2.a s2.n s2.c]/\(RL W.heap 1 s1 u8C L1/\∀n∈L1,n<=255)/\(RL W.heap 1 s2 u8C L2/\∀n∈L2,n<=255):=by
 obtain⟨hl,hr⟩:=h.array va47;rw[cz47] at hl
 match cs,hl with
 | [x0,x1],_=>
  have f0:=hr 0 (by decide);have f1:=hr 1 (by decide);rw[cz46] at f0 f1;obtain⟨s1,L1,e1,h1⟩:=open_u8s f0;obtain⟨s2,L2,e2,h2⟩:=open_u8s f1;exact⟨s1,L1,s2,L2,by rw[e1,e2],h1,h2⟩
end Go.VC
end

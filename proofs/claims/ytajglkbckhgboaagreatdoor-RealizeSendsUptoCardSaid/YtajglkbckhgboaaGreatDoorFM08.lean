/- SxLx0 SxLx SxLy SxLz SxM1 SxM2 SxM3 SxM4 SxM5 SxM6 SxM7 SxM8 SxM9 SxM10 SxM11 SxM12 SxM13. -/
import Derived.Test.YtajglkbckhgboaaGreatDoorFM07
set_option linter.all false
set_option maxRecDepth 100000
set_option maxHeartbeats 8000000

section
namespace Go.VC
open Go.Proofs Go.LexS
noncomputable abbrev it30 (a:Heap) (g:Gl):It:=.blk a.size (madeL Pz 102 (Int.toNat g.n)) 102
noncomputable abbrev it31 (a:Heap) (g:Gl):It:=.blk a.size (madeL Pz 192 (Int.toNat g.n)) 192
noncomputable abbrev it32 (a:Heap) (g:Gl):It:=.blk a.size (madeL Pz 4 (Int.toNat g.n)) 4
noncomputable abbrev it33 (a:Heap) (g:Gl):It:=.blk a.size (madeL Pz 4 (Int.toNat g.n)) 4
noncomputable abbrev it34 (a:Heap) (g:Gl):It:=.blk a.size (madeL Pz 274 (Int.toNat g.n)) 274
def TailH (g:Gl) (role:Int) (h:Heap) (R:Value->Heap->Prop):Prop:=∀hF a b c d e:Heap,St h hF [it30 a g,it31 b g,it32 c g,it33 d g,it34 e g,.blk h.size g.cs 27]->V49a hF (bs g.nm) g.hr g.hd g.n g.s g.e g.he g.ht role a g.n b g.n c g.n d g.n e g.n h R
theorem nV117f {g:Gl} {role:Int} {h h38 h20 h35 h36 h37:Heap} {R:Value->Heap->Prop} (hT:TailH g role h R) (hn:1<=g.n/\g.n<=200) (hs:St h h38 [it30 h20 g,it31 h35 g,it32 h36 g,it33 h37 g,.blk h.size g.cs 27]):V49f g.n h38 h (bs g.nm) g.hr g.hd g.n g.s g.e g.he g.ht role h20 g.n h35 g.n h36 g.n h37 g.n R:=by
 unfold V49f;refine⟨⟨by omega,by omega,by omega⟩,hs.newbE fun h39 E hs=>⟨E.sm,?_⟩⟩;have hs:=hs.perm (List.perm_middle (l₁:=[_,_,_,_])).symm;exact hT _ _ _ _ _ _ hs
theorem nV117z {g:Gl} {role:Int} {h h37 h20 h35 h36:Heap} {R:Value->Heap->Prop} (hT:TailH g role h R) (hn:1<=g.n/\g.n<=200) (hs:St h h37 [it30 h20 g,it31 h35 g,it32 h36 g,.blk h.size g.cs 27]):V49z g.n h37 h g.n (bs g.nm) g.hr g.hd g.n g.s g.e g.he g.ht role h20 g.n h35 g.n h36 g.n R:=by
 unfold V49z;refine⟨⟨by omega,by omega,by omega⟩,hs.newbE fun h38 E hs=>⟨E.sm,?_⟩⟩;have hs:=hs.perm (List.perm_middle (l₁:=[_,_,_])).symm;exact nV117f hT hn hs
theorem nV117d {g:Gl} {role:Int} {h h173 h20 h35 h36 h37:Heap} {R:Value->Heap->Prop} (hT:TailH g role h R) (hn:1<=g.n/\g.n<=200) (hs:St h h173 [it30 h20 g,it31 h35 g,it32 h36 g,it34 h37 g,.blk h.size g.cs 27]):V49d g.n h173 h (bs g.nm) g.hr g.hd g.n g.s g.e g.he g.ht role h20 g.n h35 g.n h36 g.n h37 g.n R:=by
 unfold V49d;refine⟨⟨by omega,by omega,by omega⟩,hs.newbE fun h174 E hs=>⟨E.sm,?_⟩⟩;have hs:=hs.perm (List.perm_middle (l₁:=[_,_,_])).symm;exact hT _ _ _ _ _ _ hs
theorem nV117v {g:Gl} {role:Int} {h h37 h20 h35 h36:Heap} {R:Value->Heap->Prop} (hT:TailH g role h R) (hn:1<=g.n/\g.n<=200) (hs:St h h37 [it30 h20 g,it31 h35 g,it32 h36 g,.blk h.size g.cs 27]):V49v g.n h37 h g.n (bs g.nm) g.hr g.hd g.n g.s g.e g.he g.ht role h20 g.n h35 g.n h36 g.n R:=by
 unfold V49v;refine⟨⟨by omega,by omega,by omega⟩,hs.newbE fun h173 E hs=>⟨E.sm,?_⟩⟩;have hs:=hs.perm (List.perm_middle (l₁:=[_,_,_])).symm;exact nV117d hT hn hs
theorem nV117zze {g:Gl} {role:Int} {h h36 h20 h35:Heap} {R:Value->Heap->Prop} (hT:TailH g role h R) (hn:1<=g.n/\g.n<=200) (hs:St h h36 [it30 h20 g,it31 h35 g,.blk h.size g.cs 27]):V49zze g.n h36 h g.n g.n (bs g.nm) g.hr g.hd g.n g.s g.e g.he g.ht role h20 g.n h35 g.n R:=by
 unfold V49zze;refine⟨⟨by omega,by omega,by omega⟩,hs.newbE fun h37 E hs=>⟨E.sm,?_⟩⟩;have hs:=hs.perm (List.perm_middle (l₁:=[_,_])).symm;exact⟨nV117z hT hn hs,nV117v hT hn hs⟩
theorem nV117w {g:Gl} {role:Int} {h h308 h20 h35 h36:Heap} {R:Value->Heap->Prop} (hT:TailH g role h R) (hn:1<=g.n/\g.n<=200) (hs:St h h308 [it30 h20 g,it31 h35 g,it33 h36 g,.blk h.size g.cs 27]):V49w g.n h308 h g.n (bs g.nm) g.hr g.hd g.n g.s g.e g.he g.ht role h20 g.n h35 g.n h36 g.n R:=by
 unfold V49w;refine⟨⟨by omega,by omega,by omega⟩,hs.newbE fun h309 E hs=>⟨E.sm,?_⟩⟩;have hs:=hs.perm (List.perm_middle (l₁:=[_,_])).symm;exact nV117f hT hn hs
theorem nV117e {g:Gl} {role:Int} {h h444 h20 h35 h36 h308:Heap} {R:Value->Heap->Prop} (hT:TailH g role h R) (hn:1<=g.n/\g.n<=200) (hs:St h h444 [it30 h20 g,it31 h35 g,it33 h36 g,it34 h308 g,.blk h.size g.cs 27]):V49e g.n h444 h (bs g.nm) g.hr g.hd g.n g.s g.e g.he g.ht role h20 g.n h35 g.n h36 g.n h308 g.n R:=by
 unfold V49e;refine⟨⟨by omega,by omega,by omega⟩,hs.newbE fun h445 E hs=>⟨E.sm,?_⟩⟩;have hs:=hs.perm (List.perm_middle (l₁:=[_,_])).symm;exact hT _ _ _ _ _ _ hs
theorem nV117r {g:Gl} {role:Int} {h h308 h20 h35 h36:Heap} {R:Value->Heap->Prop} (hT:TailH g role h R) (hn:1<=g.n/\g.n<=200) (hs:St h h308 [it30 h20 g,it31 h35 g,it33 h36 g,.blk h.size g.cs 27]):V49r g.n h308 h g.n (bs g.nm) g.hr g.hd g.n g.s g.e g.he g.ht role h20 g.n h35 g.n h36 g.n R:=by
 unfold V49r;refine⟨⟨by omega,by omega,by omega⟩,hs.newbE fun h444 E hs=>⟨E.sm,?_⟩⟩;have hs:=hs.perm (List.perm_middle (l₁:=[_,_,_])).symm;exact nV117e hT hn hs
theorem nV117zzd {g:Gl} {role:Int} {h h36 h20 h35:Heap} {R:Value->Heap->Prop} (hT:TailH g role h R) (hn:1<=g.n/\g.n<=200) (hs:St h h36 [it30 h20 g,it31 h35 g,.blk h.size g.cs 27]):V49zzd g.n h36 h g.n g.n (bs g.nm) g.hr g.hd g.n g.s g.e g.he g.ht role h20 g.n h35 g.n R:=by
 unfold V49zzd;refine⟨⟨by omega,by omega,by omega⟩,hs.newbE fun h308 E hs=>⟨E.sm,?_⟩⟩;have hs:=hs.perm (List.perm_middle (l₁:=[_,_])).symm;exact⟨nV117w hT hn hs,nV117r hT hn hs⟩
theorem nV117x {g:Gl} {role:Int} {h h579 h20 h35 h36:Heap} {R:Value->Heap->Prop} (hT:TailH g role h R) (hn:1<=g.n/\g.n<=200) (hs:St h h579 [it30 h20 g,it31 h35 g,it34 h36 g,.blk h.size g.cs 27]):V49x g.n h579 h g.n (bs g.nm) g.hr g.hd g.n g.s g.e g.he g.ht role h20 g.n h35 g.n h36 g.n R:=by
 unfold V49x;refine⟨⟨by omega,by omega,by omega⟩,hs.newbE fun h580 E hs=>⟨E.sm,?_⟩⟩;have hs:=hs.perm (List.perm_middle (l₁:=[_,_])).symm;exact nV117d hT hn hs
theorem nV117y {g:Gl} {role:Int} {h h579 h20 h35 h36:Heap} {R:Value->Heap->Prop} (hT:TailH g role h R) (hn:1<=g.n/\g.n<=200) (hs:St h h579 [it30 h20 g,it31 h35 g,it34 h36 g,.blk h.size g.cs 27]):V49y g.n h579 h g.n (bs g.nm) g.hr g.hd g.n g.s g.e g.he g.ht role h20 g.n h35 g.n h36 g.n R:=by
 unfold V49y;refine⟨⟨by omega,by omega,by omega⟩,hs.newbE fun h715 E hs=>⟨E.sm,?_⟩⟩;have hs:=hs.perm (List.perm_middle (l₁:=[_,_])).symm;exact nV117e hT hn hs
theorem nV117zx {g:Gl} {role:Int} {h h36 h20 h35:Heap} {R:Value->Heap->Prop} (hT:TailH g role h R) (hn:1<=g.n/\g.n<=200) (hs:St h h36 [it30 h20 g,it31 h35 g,.blk h.size g.cs 27]):V49zx g.n h36 h g.n g.n (bs g.nm) g.hr g.hd g.n g.s g.e g.he g.ht role h20 g.n h35 g.n R:=by
 unfold V49zx;refine⟨⟨by omega,by omega,by omega⟩,hs.newbE fun h579 E hs=>⟨E.sm,?_⟩⟩;have hs:=hs.perm (List.perm_middle (l₁:=[_,_])).symm;exact⟨nV117x hT hn hs,nV117y hT hn hs⟩
theorem nV117zv {g:Gl} {role:Int} {h h850 h20 h35:Heap} {R:Value->Heap->Prop} (hT:TailH g role h R) (hn:1<=g.n/\g.n<=200) (hs:St h h850 [it30 h20 g,it32 h35 g,.blk h.size g.cs 27]):V49zv g.n h850 h g.n g.n (bs g.nm) g.hr g.hd g.n g.s g.e g.he g.ht role h20 g.n h35 g.n R:=by
 unfold V49zv;refine⟨⟨by omega,by omega,by omega⟩,hs.newbE fun h851 E hs=>⟨E.sm,?_⟩⟩;have hs:=hs.perm (List.perm_middle (l₁:=[_])).symm;exact⟨nV117z hT hn hs,nV117v hT hn hs⟩
theorem nV117g {g:Gl} {role:Int} {h h1122 h20 h35 h850:Heap} {R:Value->Heap->Prop} (hT:TailH g role h R) (hn:1<=g.n/\g.n<=200) (hs:St h h1122 [it30 h20 g,it32 h35 g,it33 h850 g,.blk h.size g.cs 27]):V49g g.n h1122 h g.n (bs g.nm) g.hr g.hd g.n g.s g.e g.he g.ht role h20 g.n h35 g.n h850 g.n R:=by
 unfold V49g;refine⟨⟨by omega,by omega,by omega⟩,hs.newbE fun h1123 E hs=>⟨E.sm,?_⟩⟩;have hs:=hs.perm (List.perm_middle (l₁:=[_])).symm;exact nV117f hT hn hs
theorem nV117b {g:Gl} {role:Int} {h h1258 h20 h35 h850 h1122:Heap} {R:Value->Heap->Prop} (hT:TailH g role h R) (hn:1<=g.n/\g.n<=200) (hs:St h h1258 [it30 h20 g,it32 h35 g,it33 h850 g,it34 h1122 g,.blk h.size g.cs 27]):V49b g.n h1258 h (bs g.nm) g.hr g.hd g.n g.s g.e g.he g.ht role h20 g.n h35 g.n h850 g.n h1122 g.n R:=by
 unfold V49b;refine⟨⟨by omega,by omega,by omega⟩,hs.newbE fun h1259 E hs=>⟨E.sm,?_⟩⟩;have hs:=hs.perm (List.perm_middle (l₁:=[_])).symm;exact hT _ _ _ _ _ _ hs
theorem nV117h {g:Gl} {role:Int} {h h1122 h20 h35 h850:Heap} {R:Value->Heap->Prop} (hT:TailH g role h R) (hn:1<=g.n/\g.n<=200) (hs:St h h1122 [it30 h20 g,it32 h35 g,it33 h850 g,.blk h.size g.cs 27]):V49h g.n h1122 h g.n (bs g.nm) g.hr g.hd g.n g.s g.e g.he g.ht role h20 g.n h35 g.n h850 g.n R:=by
 unfold V49h;refine⟨⟨by omega,by omega,by omega⟩,hs.newbE fun h1258 E hs=>⟨E.sm,?_⟩⟩;have hs:=hs.perm (List.perm_middle (l₁:=[_,_,_])).symm;exact nV117b hT hn hs
theorem nV117zw {g:Gl} {role:Int} {h h850 h20 h35:Heap} {R:Value->Heap->Prop} (hT:TailH g role h R) (hn:1<=g.n/\g.n<=200) (hs:St h h850 [it30 h20 g,it32 h35 g,.blk h.size g.cs 27]):V49zw g.n h850 h g.n g.n (bs g.nm) g.hr g.hd g.n g.s g.e g.he g.ht role h20 g.n h35 g.n R:=by
 unfold V49zw;refine⟨⟨by omega,by omega,by omega⟩,hs.newbE fun h1122 E hs=>⟨E.sm,?_⟩⟩;have hs:=hs.perm (List.perm_middle (l₁:=[_,_])).symm;exact⟨nV117g hT hn hs,nV117h hT hn hs⟩
theorem nV117i {g:Gl} {role:Int} {h h1393 h20 h35 h850:Heap} {R:Value->Heap->Prop} (hT:TailH g role h R) (hn:1<=g.n/\g.n<=200) (hs:St h h1393 [it30 h20 g,it32 h35 g,it34 h850 g,.blk h.size g.cs 27]):V49i g.n h1393 h g.n (bs g.nm) g.hr g.hd g.n g.s g.e g.he g.ht role h20 g.n h35 g.n h850 g.n R:=by
 unfold V49i;refine⟨⟨by omega,by omega,by omega⟩,hs.newbE fun h1394 E hs=>⟨E.sm,?_⟩⟩;have hs:=hs.perm (List.perm_middle (l₁:=[_])).symm;exact nV117d hT hn hs
theorem nV117q {g:Gl} {role:Int} {h h1393 h20 h35 h850:Heap} {R:Value->Heap->Prop} (hT:TailH g role h R) (hn:1<=g.n/\g.n<=200) (hs:St h h1393 [it30 h20 g,it32 h35 g,it34 h850 g,.blk h.size g.cs 27]):V49q g.n h1393 h g.n (bs g.nm) g.hr g.hd g.n g.s g.e g.he g.ht role h20 g.n h35 g.n h850 g.n R:=by
 unfold V49q;refine⟨⟨by omega,by omega,by omega⟩,hs.newbE fun h1529 E hs=>⟨E.sm,?_⟩⟩;have hs:=hs.perm (List.perm_middle (l₁:=[_,_])).symm;exact nV117b hT hn hs
theorem nV117zg {g:Gl} {role:Int} {h h850 h20 h35:Heap} {R:Value->Heap->Prop} (hT:TailH g role h R) (hn:1<=g.n/\g.n<=200) (hs:St h h850 [it30 h20 g,it32 h35 g,.blk h.size g.cs 27]):V49zg g.n h850 h g.n g.n (bs g.nm) g.hr g.hd g.n g.s g.e g.he g.ht role h20 g.n h35 g.n R:=by
 unfold V49zg;refine⟨⟨by omega,by omega,by omega⟩,hs.newbE fun h1393 E hs=>⟨E.sm,?_⟩⟩;have hs:=hs.perm (List.perm_middle (l₁:=[_,_])).symm;exact⟨nV117i hT hn hs,nV117q hT hn hs⟩
theorem nV117zd {g:Gl} {role:Int} {h h1664 h20 h35:Heap} {R:Value->Heap->Prop} (hT:TailH g role h R) (hn:1<=g.n/\g.n<=200) (hs:St h h1664 [it30 h20 g,it33 h35 g,.blk h.size g.cs 27]):V49zd g.n h1664 h g.n g.n (bs g.nm) g.hr g.hd g.n g.s g.e g.he g.ht role h20 g.n h35 g.n R:=by
 unfold V49zd;refine⟨⟨by omega,by omega,by omega⟩,hs.newbE fun h1665 E hs=>⟨E.sm,?_⟩⟩;have hs:=hs.perm (List.perm_middle (l₁:=[_])).symm;exact⟨nV117w hT hn hs,nV117r hT hn hs⟩
theorem nV117zs {g:Gl} {role:Int} {h h1664 h20 h35:Heap} {R:Value->Heap->Prop} (hT:TailH g role h R) (hn:1<=g.n/\g.n<=200) (hs:St h h1664 [it30 h20 g,it33 h35 g,.blk h.size g.cs 27]):V49zs g.n h1664 h g.n g.n (bs g.nm) g.hr g.hd g.n g.s g.e g.he g.ht role h20 g.n h35 g.n R:=by
 unfold V49zs;refine⟨⟨by omega,by omega,by omega⟩,hs.newbE fun h1936 E hs=>⟨E.sm,?_⟩⟩;have hs:=hs.perm (List.perm_middle (l₁:=[_])).symm;exact⟨nV117g hT hn hs,nV117h hT hn hs⟩
theorem nV117j {g:Gl} {role:Int} {h h2207 h20 h35 h1664:Heap} {R:Value->Heap->Prop} (hT:TailH g role h R) (hn:1<=g.n/\g.n<=200) (hs:St h h2207 [it30 h20 g,it33 h35 g,it34 h1664 g,.blk h.size g.cs 27]):V49j g.n h2207 h g.n (bs g.nm) g.hr g.hd g.n g.s g.e g.he g.ht role h20 g.n h35 g.n h1664 g.n R:=by
 unfold V49j;refine⟨⟨by omega,by omega,by omega⟩,hs.newbE fun h2208 E hs=>⟨E.sm,?_⟩⟩;have hs:=hs.perm (List.perm_middle (l₁:=[_])).symm;exact nV117e hT hn hs
theorem nV117s {g:Gl} {role:Int} {h h2207 h20 h35 h1664:Heap} {R:Value->Heap->Prop} (hT:TailH g role h R) (hn:1<=g.n/\g.n<=200) (hs:St h h2207 [it30 h20 g,it33 h35 g,it34 h1664 g,.blk h.size g.cs 27]):V49s g.n h2207 h g.n (bs g.nm) g.hr g.hd g.n g.s g.e g.he g.ht role h20 g.n h35 g.n h1664 g.n R:=by
 unfold V49s;refine⟨⟨by omega,by omega,by omega⟩,hs.newbE fun h2343 E hs=>⟨E.sm,?_⟩⟩;have hs:=hs.perm (List.perm_middle (l₁:=[_])).symm;exact nV117b hT hn hs
theorem nV117ze {g:Gl} {role:Int} {h h1664 h20 h35:Heap} {R:Value->Heap->Prop} (hT:TailH g role h R) (hn:1<=g.n/\g.n<=200) (hs:St h h1664 [it30 h20 g,it33 h35 g,.blk h.size g.cs 27]):V49ze g.n h1664 h g.n g.n (bs g.nm) g.hr g.hd g.n g.s g.e g.he g.ht role h20 g.n h35 g.n R:=by
 unfold V49ze;refine⟨⟨by omega,by omega,by omega⟩,hs.newbE fun h2207 E hs=>⟨E.sm,?_⟩⟩;have hs:=hs.perm (List.perm_middle (l₁:=[_,_])).symm;exact⟨nV117j hT hn hs,nV117s hT hn hs⟩
theorem nV117zf {g:Gl} {role:Int} {h h2478 h20 h35:Heap} {R:Value->Heap->Prop} (hT:TailH g role h R) (hn:1<=g.n/\g.n<=200) (hs:St h h2478 [it30 h20 g,it34 h35 g,.blk h.size g.cs 27]):V49zf g.n h2478 h g.n g.n (bs g.nm) g.hr g.hd g.n g.s g.e g.he g.ht role h20 g.n h35 g.n R:=by
 unfold V49zf;refine⟨⟨by omega,by omega,by omega⟩,hs.newbE fun h2479 E hs=>⟨E.sm,?_⟩⟩;have hs:=hs.perm (List.perm_middle (l₁:=[_])).symm;exact⟨nV117x hT hn hs,nV117y hT hn hs⟩
theorem nV117zt {g:Gl} {role:Int} {h h2478 h20 h35:Heap} {R:Value->Heap->Prop} (hT:TailH g role h R) (hn:1<=g.n/\g.n<=200) (hs:St h h2478 [it30 h20 g,it34 h35 g,.blk h.size g.cs 27]):V49zt g.n h2478 h g.n g.n (bs g.nm) g.hr g.hd g.n g.s g.e g.he g.ht role h20 g.n h35 g.n R:=by
 unfold V49zt;refine⟨⟨by omega,by omega,by omega⟩,hs.newbE fun h2750 E hs=>⟨E.sm,?_⟩⟩;have hs:=hs.perm (List.perm_middle (l₁:=[_])).symm;exact⟨nV117i hT hn hs,nV117q hT hn hs⟩
theorem nV117zu {g:Gl} {role:Int} {h h2478 h20 h35:Heap} {R:Value->Heap->Prop} (hT:TailH g role h R) (hn:1<=g.n/\g.n<=200) (hs:St h h2478 [it30 h20 g,it34 h35 g,.blk h.size g.cs 27]):V49zu g.n h2478 h g.n g.n (bs g.nm) g.hr g.hd g.n g.s g.e g.he g.ht role h20 g.n h35 g.n R:=by
 unfold V49zu;refine⟨⟨by omega,by omega,by omega⟩,hs.newbE fun h3021 E hs=>⟨E.sm,?_⟩⟩;have hs:=hs.perm (List.perm_middle (l₁:=[_])).symm;exact⟨nV117j hT hn hs,nV117s hT hn hs⟩
theorem nV117zi {g:Gl} {role:Int} {h h4107 h20 h3292:Heap} {R:Value->Heap->Prop} (hT:TailH g role h R) (hn:1<=g.n/\g.n<=200) (hs:St h h4107 [it31 h20 g,it32 h3292 g,.blk h.size g.cs 27]):V49zi g.n h4107 h g.n g.n (bs g.nm) g.hr g.hd g.n g.s g.e g.he g.ht role h20 g.n h3292 g.n R:=by
 unfold V49zi;refine⟨⟨by omega,by omega,by omega⟩,hs.newbE fun h4108 E hs=>⟨E.sm,?_⟩⟩;exact⟨nV117z hT hn hs,nV117v hT hn hs⟩
theorem nV117k {g:Gl} {role:Int} {h h4379 h20 h3292 h4107:Heap} {R:Value->Heap->Prop} (hT:TailH g role h R) (hn:1<=g.n/\g.n<=200) (hs:St h h4379 [it31 h20 g,it32 h3292 g,it33 h4107 g,.blk h.size g.cs 27]):V49k g.n h4379 h g.n (bs g.nm) g.hr g.hd g.n g.s g.e g.he g.ht role h20 g.n h3292 g.n h4107 g.n R:=by
 unfold V49k;refine⟨⟨by omega,by omega,by omega⟩,hs.newbE fun h4380 E hs=>⟨E.sm,?_⟩⟩;exact nV117f hT hn hs
theorem nV117c {g:Gl} {role:Int} {h h4515 h20 h3292 h4107 h4379:Heap} {R:Value->Heap->Prop} (hT:TailH g role h R) (hn:1<=g.n/\g.n<=200) (hs:St h h4515 [it31 h20 g,it32 h3292 g,it33 h4107 g,it34 h4379 g,.blk h.size g.cs 27]):V49c g.n h4515 h (bs g.nm) g.hr g.hd g.n g.s g.e g.he g.ht role h20 g.n h3292 g.n h4107 g.n h4379 g.n R:=by
 unfold V49c;refine⟨⟨by omega,by omega,by omega⟩,hs.newbE fun h4516 E hs=>⟨E.sm,?_⟩⟩;exact hT _ _ _ _ _ _ hs
theorem nV117l {g:Gl} {role:Int} {h h4379 h20 h3292 h4107:Heap} {R:Value->Heap->Prop} (hT:TailH g role h R) (hn:1<=g.n/\g.n<=200) (hs:St h h4379 [it31 h20 g,it32 h3292 g,it33 h4107 g,.blk h.size g.cs 27]):V49l g.n h4379 h g.n (bs g.nm) g.hr g.hd g.n g.s g.e g.he g.ht role h20 g.n h3292 g.n h4107 g.n R:=by
 unfold V49l;refine⟨⟨by omega,by omega,by omega⟩,hs.newbE fun h4515 E hs=>⟨E.sm,?_⟩⟩;have hs:=hs.perm (List.perm_middle (l₁:=[_,_,_])).symm;exact nV117c hT hn hs
theorem nV117zy {g:Gl} {role:Int} {h h4107 h20 h3292:Heap} {R:Value->Heap->Prop} (hT:TailH g role h R) (hn:1<=g.n/\g.n<=200) (hs:St h h4107 [it31 h20 g,it32 h3292 g,.blk h.size g.cs 27]):V49zy g.n h4107 h g.n g.n (bs g.nm) g.hr g.hd g.n g.s g.e g.he g.ht role h20 g.n h3292 g.n R:=by
 unfold V49zy;refine⟨⟨by omega,by omega,by omega⟩,hs.newbE fun h4379 E hs=>⟨E.sm,?_⟩⟩;have hs:=hs.perm (List.perm_middle (l₁:=[_,_])).symm;exact⟨nV117k hT hn hs,nV117l hT hn hs⟩
theorem nV117m {g:Gl} {role:Int} {h h4650 h20 h3292 h4107:Heap} {R:Value->Heap->Prop} (hT:TailH g role h R) (hn:1<=g.n/\g.n<=200) (hs:St h h4650 [it31 h20 g,it32 h3292 g,it34 h4107 g,.blk h.size g.cs 27]):V49m g.n h4650 h g.n (bs g.nm) g.hr g.hd g.n g.s g.e g.he g.ht role h20 g.n h3292 g.n h4107 g.n R:=by
 unfold V49m;refine⟨⟨by omega,by omega,by omega⟩,hs.newbE fun h4651 E hs=>⟨E.sm,?_⟩⟩;exact nV117d hT hn hs
theorem nV117t {g:Gl} {role:Int} {h h4650 h20 h3292 h4107:Heap} {R:Value->Heap->Prop} (hT:TailH g role h R) (hn:1<=g.n/\g.n<=200) (hs:St h h4650 [it31 h20 g,it32 h3292 g,it34 h4107 g,.blk h.size g.cs 27]):V49t g.n h4650 h g.n (bs g.nm) g.hr g.hd g.n g.s g.e g.he g.ht role h20 g.n h3292 g.n h4107 g.n R:=by
 unfold V49t;refine⟨⟨by omega,by omega,by omega⟩,hs.newbE fun h4786 E hs=>⟨E.sm,?_⟩⟩;have hs:=hs.perm (List.perm_middle (l₁:=[_,_])).symm;exact nV117c hT hn hs
theorem nV117zj {g:Gl} {role:Int} {h h4107 h20 h3292:Heap} {R:Value->Heap->Prop} (hT:TailH g role h R) (hn:1<=g.n/\g.n<=200) (hs:St h h4107 [it31 h20 g,it32 h3292 g,.blk h.size g.cs 27]):V49zj g.n h4107 h g.n g.n (bs g.nm) g.hr g.hd g.n g.s g.e g.he g.ht role h20 g.n h3292 g.n R:=by
 unfold V49zj;refine⟨⟨by omega,by omega,by omega⟩,hs.newbE fun h4650 E hs=>⟨E.sm,?_⟩⟩;have hs:=hs.perm (List.perm_middle (l₁:=[_,_])).symm;exact⟨nV117m hT hn hs,nV117t hT hn hs⟩
theorem nV117zk {g:Gl} {role:Int} {h h4921 h20 h3292:Heap} {R:Value->Heap->Prop} (hT:TailH g role h R) (hn:1<=g.n/\g.n<=200) (hs:St h h4921 [it31 h20 g,it33 h3292 g,.blk h.size g.cs 27]):V49zk g.n h4921 h g.n g.n (bs g.nm) g.hr g.hd g.n g.s g.e g.he g.ht role h20 g.n h3292 g.n R:=by
 unfold V49zk;refine⟨⟨by omega,by omega,by omega⟩,hs.newbE fun h4922 E hs=>⟨E.sm,?_⟩⟩;exact⟨nV117w hT hn hs,nV117r hT hn hs⟩
theorem nV117zz {g:Gl} {role:Int} {h h4921 h20 h3292:Heap} {R:Value->Heap->Prop} (hT:TailH g role h R) (hn:1<=g.n/\g.n<=200) (hs:St h h4921 [it31 h20 g,it33 h3292 g,.blk h.size g.cs 27]):V49zz g.n h4921 h g.n g.n (bs g.nm) g.hr g.hd g.n g.s g.e g.he g.ht role h20 g.n h3292 g.n R:=by
 unfold V49zz;refine⟨⟨by omega,by omega,by omega⟩,hs.newbE fun h5193 E hs=>⟨E.sm,?_⟩⟩;have hs:=hs.perm (List.perm_middle (l₁:=[_])).symm;exact⟨nV117k hT hn hs,nV117l hT hn hs⟩
theorem nV117n {g:Gl} {role:Int} {h h5464 h20 h3292 h4921:Heap} {R:Value->Heap->Prop} (hT:TailH g role h R) (hn:1<=g.n/\g.n<=200) (hs:St h h5464 [it31 h20 g,it33 h3292 g,it34 h4921 g,.blk h.size g.cs 27]):V49n g.n h5464 h g.n (bs g.nm) g.hr g.hd g.n g.s g.e g.he g.ht role h20 g.n h3292 g.n h4921 g.n R:=by
 unfold V49n;refine⟨⟨by omega,by omega,by omega⟩,hs.newbE fun h5465 E hs=>⟨E.sm,?_⟩⟩;exact nV117e hT hn hs
theorem nV117u {g:Gl} {role:Int} {h h5464 h20 h3292 h4921:Heap} {R:Value->Heap->Prop} (hT:TailH g role h R) (hn:1<=g.n/\g.n<=200) (hs:St h h5464 [it31 h20 g,it33 h3292 g,it34 h4921 g,.blk h.size g.cs 27]):V49u g.n h5464 h g.n (bs g.nm) g.hr g.hd g.n g.s g.e g.he g.ht role h20 g.n h3292 g.n h4921 g.n R:=by
 unfold V49u;refine⟨⟨by omega,by omega,by omega⟩,hs.newbE fun h5600 E hs=>⟨E.sm,?_⟩⟩;have hs:=hs.perm (List.perm_middle (l₁:=[_])).symm;exact nV117c hT hn hs
theorem nV117zl {g:Gl} {role:Int} {h h4921 h20 h3292:Heap} {R:Value->Heap->Prop} (hT:TailH g role h R) (hn:1<=g.n/\g.n<=200) (hs:St h h4921 [it31 h20 g,it33 h3292 g,.blk h.size g.cs 27]):V49zl g.n h4921 h g.n g.n (bs g.nm) g.hr g.hd g.n g.s g.e g.he g.ht role h20 g.n h3292 g.n R:=by
 unfold V49zl;refine⟨⟨by omega,by omega,by omega⟩,hs.newbE fun h5464 E hs=>⟨E.sm,?_⟩⟩;have hs:=hs.perm (List.perm_middle (l₁:=[_,_])).symm;exact⟨nV117n hT hn hs,nV117u hT hn hs⟩
theorem nV117zm {g:Gl} {role:Int} {h h5735 h20 h3292:Heap} {R:Value->Heap->Prop} (hT:TailH g role h R) (hn:1<=g.n/\g.n<=200) (hs:St h h5735 [it31 h20 g,it34 h3292 g,.blk h.size g.cs 27]):V49zm g.n h5735 h g.n g.n (bs g.nm) g.hr g.hd g.n g.s g.e g.he g.ht role h20 g.n h3292 g.n R:=by
 unfold V49zm;refine⟨⟨by omega,by omega,by omega⟩,hs.newbE fun h5736 E hs=>⟨E.sm,?_⟩⟩;exact⟨nV117x hT hn hs,nV117y hT hn hs⟩
theorem nV117zza {g:Gl} {role:Int} {h h5735 h20 h3292:Heap} {R:Value->Heap->Prop} (hT:TailH g role h R) (hn:1<=g.n/\g.n<=200) (hs:St h h5735 [it31 h20 g,it34 h3292 g,.blk h.size g.cs 27]):V49zza g.n h5735 h g.n g.n (bs g.nm) g.hr g.hd g.n g.s g.e g.he g.ht role h20 g.n h3292 g.n R:=by
 unfold V49zza;refine⟨⟨by omega,by omega,by omega⟩,hs.newbE fun h6007 E hs=>⟨E.sm,?_⟩⟩;have hs:=hs.perm (List.perm_middle (l₁:=[_])).symm;exact⟨nV117m hT hn hs,nV117t hT hn hs⟩
theorem nV117zzb {g:Gl} {role:Int} {h h5735 h20 h3292:Heap} {R:Value->Heap->Prop} (hT:TailH g role h R) (hn:1<=g.n/\g.n<=200) (hs:St h h5735 [it31 h20 g,it34 h3292 g,.blk h.size g.cs 27]):V49zzb g.n h5735 h g.n g.n (bs g.nm) g.hr g.hd g.n g.s g.e g.he g.ht role h20 g.n h3292 g.n R:=by
 unfold V49zzb;refine⟨⟨by omega,by omega,by omega⟩,hs.newbE fun h6278 E hs=>⟨E.sm,?_⟩⟩;have hs:=hs.perm (List.perm_middle (l₁:=[_])).symm;exact⟨nV117n hT hn hs,nV117u hT hn hs⟩
theorem nV117zn {g:Gl} {role:Int} {h h8178 h20 h6549:Heap} {R:Value->Heap->Prop} (hT:TailH g role h R) (hn:1<=g.n/\g.n<=200) (hs:St h h8178 [it32 h20 g,it33 h6549 g,.blk h.size g.cs 27]):V49zn g.n h8178 h g.n g.n (bs g.nm) g.hr g.hd g.n g.s g.e g.he g.ht role h20 g.n h6549 g.n R:=by
 unfold V49zn;refine⟨⟨by omega,by omega,by omega⟩,hs.newbE fun h8179 E hs=>⟨E.sm,?_⟩⟩;exact⟨nV117g hT hn hs,nV117h hT hn hs⟩
theorem nV117zo {g:Gl} {role:Int} {h h8178 h20 h6549:Heap} {R:Value->Heap->Prop} (hT:TailH g role h R) (hn:1<=g.n/\g.n<=200) (hs:St h h8178 [it32 h20 g,it33 h6549 g,.blk h.size g.cs 27]):V49zo g.n h8178 h g.n g.n (bs g.nm) g.hr g.hd g.n g.s g.e g.he g.ht role h20 g.n h6549 g.n R:=by
 unfold V49zo;refine⟨⟨by omega,by omega,by omega⟩,hs.newbE fun h8450 E hs=>⟨E.sm,?_⟩⟩;exact⟨nV117k hT hn hs,nV117l hT hn hs⟩
theorem nV117o {g:Gl} {role:Int} {h h8721 h20 h6549 h8178:Heap} {R:Value->Heap->Prop} (hT:TailH g role h R) (hn:1<=g.n/\g.n<=200) (hs:St h h8721 [it32 h20 g,it33 h6549 g,it34 h8178 g,.blk h.size g.cs 27]):V49o g.n h8721 h g.n (bs g.nm) g.hr g.hd g.n g.s g.e g.he g.ht role h20 g.n h6549 g.n h8178 g.n R:=by
 unfold V49o;refine⟨⟨by omega,by omega,by omega⟩,hs.newbE fun h8722 E hs=>⟨E.sm,?_⟩⟩;exact nV117b hT hn hs
theorem nV117p {g:Gl} {role:Int} {h h8721 h20 h6549 h8178:Heap} {R:Value->Heap->Prop} (hT:TailH g role h R) (hn:1<=g.n/\g.n<=200) (hs:St h h8721 [it32 h20 g,it33 h6549 g,it34 h8178 g,.blk h.size g.cs 27]):V49p g.n h8721 h g.n (bs g.nm) g.hr g.hd g.n g.s g.e g.he g.ht role h20 g.n h6549 g.n h8178 g.n R:=by
 unfold V49p;refine⟨⟨by omega,by omega,by omega⟩,hs.newbE fun h8857 E hs=>⟨E.sm,?_⟩⟩;exact nV117c hT hn hs
theorem nV117zp {g:Gl} {role:Int} {h h8178 h20 h6549:Heap} {R:Value->Heap->Prop} (hT:TailH g role h R) (hn:1<=g.n/\g.n<=200) (hs:St h h8178 [it32 h20 g,it33 h6549 g,.blk h.size g.cs 27]):V49zp g.n h8178 h g.n g.n (bs g.nm) g.hr g.hd g.n g.s g.e g.he g.ht role h20 g.n h6549 g.n R:=by
 unfold V49zp;refine⟨⟨by omega,by omega,by omega⟩,hs.newbE fun h8721 E hs=>⟨E.sm,?_⟩⟩;have hs:=hs.perm (List.perm_middle (l₁:=[_,_])).symm;exact⟨nV117o hT hn hs,nV117p hT hn hs⟩
theorem nV117zq {g:Gl} {role:Int} {h h8992 h20 h6549:Heap} {R:Value->Heap->Prop} (hT:TailH g role h R) (hn:1<=g.n/\g.n<=200) (hs:St h h8992 [it32 h20 g,it34 h6549 g,.blk h.size g.cs 27]):V49zq g.n h8992 h g.n g.n (bs g.nm) g.hr g.hd g.n g.s g.e g.he g.ht role h20 g.n h6549 g.n R:=by
 unfold V49zq;refine⟨⟨by omega,by omega,by omega⟩,hs.newbE fun h8993 E hs=>⟨E.sm,?_⟩⟩;exact⟨nV117i hT hn hs,nV117q hT hn hs⟩
theorem nV117zr {g:Gl} {role:Int} {h h8992 h20 h6549:Heap} {R:Value->Heap->Prop} (hT:TailH g role h R) (hn:1<=g.n/\g.n<=200) (hs:St h h8992 [it32 h20 g,it34 h6549 g,.blk h.size g.cs 27]):V49zr g.n h8992 h g.n g.n (bs g.nm) g.hr g.hd g.n g.s g.e g.he g.ht role h20 g.n h6549 g.n R:=by
 unfold V49zr;refine⟨⟨by omega,by omega,by omega⟩,hs.newbE fun h9264 E hs=>⟨E.sm,?_⟩⟩;exact⟨nV117m hT hn hs,nV117t hT hn hs⟩
theorem nV117zzc {g:Gl} {role:Int} {h h8992 h20 h6549:Heap} {R:Value->Heap->Prop} (hT:TailH g role h R) (hn:1<=g.n/\g.n<=200) (hs:St h h8992 [it32 h20 g,it34 h6549 g,.blk h.size g.cs 27]):V49zzc g.n h8992 h g.n g.n (bs g.nm) g.hr g.hd g.n g.s g.e g.he g.ht role h20 g.n h6549 g.n R:=by
 unfold V49zzc;refine⟨⟨by omega,by omega,by omega⟩,hs.newbE fun h9535 E hs=>⟨E.sm,?_⟩⟩;have hs:=hs.perm (List.perm_middle (l₁:=[_])).symm;exact⟨nV117o hT hn hs,nV117p hT hn hs⟩
theorem nV117zb {g:Gl} {role:Int} {h h12249 h20 h9806:Heap} {R:Value->Heap->Prop} (hT:TailH g role h R) (hn:1<=g.n/\g.n<=200) (hs:St h h12249 [it33 h20 g,it34 h9806 g,.blk h.size g.cs 27]):V49zb g.n h12249 h g.n g.n (bs g.nm) g.hr g.hd g.n g.s g.e g.he g.ht role h20 g.n h9806 g.n R:=by
 unfold V49zb;refine⟨⟨by omega,by omega,by omega⟩,hs.newbE fun h12250 E hs=>⟨E.sm,?_⟩⟩;exact⟨nV117j hT hn hs,nV117s hT hn hs⟩
theorem nV117zc {g:Gl} {role:Int} {h h12249 h20 h9806:Heap} {R:Value->Heap->Prop} (hT:TailH g role h R) (hn:1<=g.n/\g.n<=200) (hs:St h h12249 [it33 h20 g,it34 h9806 g,.blk h.size g.cs 27]):V49zc g.n h12249 h g.n g.n (bs g.nm) g.hr g.hd g.n g.s g.e g.he g.ht role h20 g.n h9806 g.n R:=by
 unfold V49zc;refine⟨⟨by omega,by omega,by omega⟩,hs.newbE fun h12521 E hs=>⟨E.sm,?_⟩⟩;exact⟨nV117n hT hn hs,nV117u hT hn hs⟩
theorem nV117zh {g:Gl} {role:Int} {h h12249 h20 h9806:Heap} {R:Value->Heap->Prop} (hT:TailH g role h R) (hn:1<=g.n/\g.n<=200) (hs:St h h12249 [it33 h20 g,it34 h9806 g,.blk h.size g.cs 27]):V49zh g.n h12249 h g.n g.n (bs g.nm) g.hr g.hd g.n g.s g.e g.he g.ht role h20 g.n h9806 g.n R:=by
 unfold V49zh;refine⟨⟨by omega,by omega,by omega⟩,hs.newbE fun h12792 E hs=>⟨E.sm,?_⟩⟩;exact⟨nV117o hT hn hs,nV117p hT hn hs⟩
theorem nV117H0 {g:Gl} {role:Int} {h h20:Heap} {R:Value->Heap->Prop} (hT:TailH g role h R) (hn:1<=g.n/\g.n<=200) (hs:St h h20 [.blk h.size g.cs 27]):V49H0 g.n h20 h g.n g.n g.n g.n (bs g.nm) g.hr g.hd g.n g.s g.e g.he g.ht role R:=by
 unfold V49H0;refine⟨⟨by omega,by omega,by omega⟩,hs.newbE fun h35 E hs=>⟨E.sm,?_,?_,?_,?_⟩⟩
 .refine⟨⟨by omega,by omega,by omega⟩,hs.newbE fun h36 E hs=>⟨E.sm,?_⟩⟩;have hs:=hs.perm (List.perm_middle (l₁:=[_])).symm;exact⟨nV117zze hT hn hs,nV117zzd hT hn hs,nV117zx hT hn hs⟩
 .refine⟨⟨by omega,by omega,by omega⟩,hs.newbE fun h850 E hs=>⟨E.sm,?_⟩⟩;have hs:=hs.perm (List.perm_middle (l₁:=[_])).symm;exact⟨nV117zv hT hn hs,nV117zw hT hn hs,nV117zg hT hn hs⟩
 .refine⟨⟨by omega,by omega,by omega⟩,hs.newbE fun h1664 E hs=>⟨E.sm,?_⟩⟩;have hs:=hs.perm (List.perm_middle (l₁:=[_])).symm;exact⟨nV117zd hT hn hs,nV117zs hT hn hs,nV117ze hT hn hs⟩
 .refine⟨⟨by omega,by omega,by omega⟩,hs.newbE fun h2478 E hs=>⟨E.sm,?_⟩⟩;have hs:=hs.perm (List.perm_middle (l₁:=[_])).symm;exact⟨nV117zf hT hn hs,nV117zt hT hn hs,nV117zu hT hn hs⟩
theorem nV117H1 {g:Gl} {role:Int} {h h20:Heap} {R:Value->Heap->Prop} (hT:TailH g role h R) (hn:1<=g.n/\g.n<=200) (hs:St h h20 [.blk h.size g.cs 27]):V49H1 g.n h20 h g.n g.n g.n g.n (bs g.nm) g.hr g.hd g.n g.s g.e g.he g.ht role R:=by
 unfold V49H1;refine⟨⟨by omega,by omega,by omega⟩,hs.newbE fun h3292 E hs=>⟨E.sm,?_,?_,?_,?_⟩⟩
 .refine⟨⟨by omega,by omega,by omega⟩,hs.newbE fun h3293 E hs=>⟨E.sm,?_⟩⟩;exact⟨nV117zze hT hn hs,nV117zzd hT hn hs,nV117zx hT hn hs⟩
 .refine⟨⟨by omega,by omega,by omega⟩,hs.newbE fun h4107 E hs=>⟨E.sm,?_⟩⟩;have hs:=hs.perm (List.perm_middle (l₁:=[_])).symm;exact⟨nV117zi hT hn hs,nV117zy hT hn hs,nV117zj hT hn hs⟩
 .refine⟨⟨by omega,by omega,by omega⟩,hs.newbE fun h4921 E hs=>⟨E.sm,?_⟩⟩;have hs:=hs.perm (List.perm_middle (l₁:=[_])).symm;exact⟨nV117zk hT hn hs,nV117zz hT hn hs,nV117zl hT hn hs⟩
 .refine⟨⟨by omega,by omega,by omega⟩,hs.newbE fun h5735 E hs=>⟨E.sm,?_⟩⟩;have hs:=hs.perm (List.perm_middle (l₁:=[_])).symm;exact⟨nV117zm hT hn hs,nV117zza hT hn hs,nV117zzb hT hn hs⟩
theorem nV117H2 {g:Gl} {role:Int} {h h20:Heap} {R:Value->Heap->Prop} (hT:TailH g role h R) (hn:1<=g.n/\g.n<=200) (hs:St h h20 [.blk h.size g.cs 27]):V49H2 g.n h20 h g.n g.n g.n g.n (bs g.nm) g.hr g.hd g.n g.s g.e g.he g.ht role R:=by
 unfold V49H2;refine⟨⟨by omega,by omega,by omega⟩,hs.newbE fun h6549 E hs=>⟨E.sm,?_,?_,?_,?_⟩⟩
 .refine⟨⟨by omega,by omega,by omega⟩,hs.newbE fun h6550 E hs=>⟨E.sm,?_⟩⟩;exact⟨nV117zv hT hn hs,nV117zw hT hn hs,nV117zg hT hn hs⟩
 .refine⟨⟨by omega,by omega,by omega⟩,hs.newbE fun h7364 E hs=>⟨E.sm,?_⟩⟩;exact⟨nV117zi hT hn hs,nV117zy hT hn hs,nV117zj hT hn hs⟩
 .refine⟨⟨by omega,by omega,by omega⟩,hs.newbE fun h8178 E hs=>⟨E.sm,?_⟩⟩;have hs:=hs.perm (List.perm_middle (l₁:=[_])).symm;exact⟨nV117zn hT hn hs,nV117zo hT hn hs,nV117zp hT hn hs⟩
 .refine⟨⟨by omega,by omega,by omega⟩,hs.newbE fun h8992 E hs=>⟨E.sm,?_⟩⟩;have hs:=hs.perm (List.perm_middle (l₁:=[_])).symm;exact⟨nV117zq hT hn hs,nV117zr hT hn hs,nV117zzc hT hn hs⟩
theorem nV117H3 {g:Gl} {role:Int} {h h20:Heap} {R:Value->Heap->Prop} (hT:TailH g role h R) (hn:1<=g.n/\g.n<=200) (hs:St h h20 [.blk h.size g.cs 27]):V49H3 g.n h20 h g.n g.n g.n g.n (bs g.nm) g.hr g.hd g.n g.s g.e g.he g.ht role R:=by
 unfold V49H3;refine⟨⟨by omega,by omega,by omega⟩,hs.newbE fun h9806 E hs=>⟨E.sm,?_,?_,?_,?_⟩⟩
 .refine⟨⟨by omega,by omega,by omega⟩,hs.newbE fun h9807 E hs=>⟨E.sm,?_⟩⟩;exact⟨nV117zd hT hn hs,nV117zs hT hn hs,nV117ze hT hn hs⟩
 .refine⟨⟨by omega,by omega,by omega⟩,hs.newbE fun h10621 E hs=>⟨E.sm,?_⟩⟩;exact⟨nV117zk hT hn hs,nV117zz hT hn hs,nV117zl hT hn hs⟩
 .refine⟨⟨by omega,by omega,by omega⟩,hs.newbE fun h11435 E hs=>⟨E.sm,?_⟩⟩;exact⟨nV117zn hT hn hs,nV117zo hT hn hs,nV117zp hT hn hs⟩
 .refine⟨⟨by omega,by omega,by omega⟩,hs.newbE fun h12249 E hs=>⟨E.sm,?_⟩⟩;have hs:=hs.perm (List.perm_middle (l₁:=[_])).symm;exact⟨nV117zb hT hn hs,nV117zc hT hn hs,nV117zh hT hn hs⟩
theorem nV117H4 {g:Gl} {role:Int} {h h20:Heap} {R:Value->Heap->Prop} (hT:TailH g role h R) (hn:1<=g.n/\g.n<=200) (hs:St h h20 [.blk h.size g.cs 27]):V49H4 g.n h20 h g.n g.n g.n g.n (bs g.nm) g.hr g.hd g.n g.s g.e g.he g.ht role R:=by
 unfold V49H4;refine⟨⟨by omega,by omega,by omega⟩,hs.newbE fun h13063 E hs=>⟨E.sm,?_,?_,?_,?_⟩⟩
 .refine⟨⟨by omega,by omega,by omega⟩,hs.newbE fun h13064 E hs=>⟨E.sm,?_⟩⟩;exact⟨nV117zf hT hn hs,nV117zt hT hn hs,nV117zu hT hn hs⟩
 .refine⟨⟨by omega,by omega,by omega⟩,hs.newbE fun h13878 E hs=>⟨E.sm,?_⟩⟩;exact⟨nV117zm hT hn hs,nV117zza hT hn hs,nV117zzb hT hn hs⟩
 .refine⟨⟨by omega,by omega,by omega⟩,hs.newbE fun h14692 E hs=>⟨E.sm,?_⟩⟩;exact⟨nV117zq hT hn hs,nV117zr hT hn hs,nV117zzc hT hn hs⟩
 .refine⟨⟨by omega,by omega,by omega⟩,hs.newbE fun h15506 E hs=>⟨E.sm,?_⟩⟩;exact⟨nV117zb hT hn hs,nV117zc hT hn hs,nV117zh hT hn hs⟩
theorem St.blkAt {h0 h:Heap} {L:List It} (hs:St h0 h L) (k:Nat) {b:Nat} {xs:List Value} {e:TypeId} (hk:L[k]?=some (.blk b xs e)) (m n:Nat) (rows:List (List Value)) (hx:xs=rows.flatten) (hr:∀r∈rows,r.length=n) (hl:rows.length=m) (hm:m<=maxLen):St h0 h (L.set k (.sl ⟨some ⟨b,0,none⟩,m,m⟩ e n rows)):=by
 have hp:L.Perm (.blk b xs e::L.eraseIdx k):=by
  obtain⟨A,B,rfl,rfl⟩:=split_at hk;rw[List.eraseIdx_append_of_length_le (Yyt _),Nat.sub_self];exact List.perm_middle
 have h1:=(hs.perm hp).blkS m n rows hx hr hl hm;refine h1.perm ?_;obtain⟨A,B,rfl,rfl⟩:=split_at hk;rw[List.eraseIdx_append_of_length_le (Yyt _),Nat.sub_self,List.set_append_right _ _ (Yyt _),Nat.sub_self];exact List.perm_middle.symm
theorem made42s (n:Nat):madeL Pz 102 n=((List.replicate n (⟨none,0,0⟩:Sl)).map slC).flatten:=by
 have e:zeroC Pz 102=[.slice none 0 0]:=by kernel_rfl
 unfold madeL;rw[e,List.map_replicate];rfl
theorem made268s (n:Nat):madeL Pz 274 n=((List.replicate n (⟨none,0,0⟩:Sl)).map slC).flatten:=by
 have e:zeroC Pz 274=[.slice none 0 0]:=by kernel_rfl
 unfold madeL;rw[e,List.map_replicate];rfl
def evZ:Ev:=⟨false,0,0⟩
def lm0:Lm:=⟨0,evZ⟩
theorem made256s (n:Nat):madeL Pz 192 n=((List.replicate n lm0).map Lm.cs).flatten:=by
 have e:zeroC Pz 192=Lm.cs lm0:=by kernel_rfl
 unfold madeL;rw[e,List.map_replicate]
theorem app248:appB Pz 184 195 2 32=true:=by kernel_rfl
theorem app268:appB Pz 274 276 4 32=true:=by kernel_rfl
abbrev OuR:=Sl × List Int
abbrev ArR:=Sl × List Arv
def fIt (f:Fs):It:=.sl f.s 188 3 (f.l.map Ev.cs)
def anC (g:Gl) (role:Int) (ho hfi hli hag how har:Sl):List Value:=g.cs++[.int .i64 role,.slice ho.a ho.n ho.c,.slice hfi.a hfi.n hfi.c,.slice hli.a hli.n hli.c,.slice hag.a hag.n hag.c,.slice how.a how.n how.c,.slice har.a har.n har.c]
def anA (ab gb:Nat) (g:Gl) (role:Int) (ho hfi hli hag how har:Sl) (OU:List OuR) (FI:List Fs) (LI:List Lm) (AG OW:List Bool) (AR:List ArR):List It:=
 [.blk ab (anC g role ho hfi hli hag how har) 186,.sl ho 102 1 ((OU.map Prod.fst).map slC),.sl hfi 195 2 (FI.map Fs.cs),.sl hli 192 4 (LI.map Lm.cs),.sl hag 4 1 (AG.map bC),.sl how 4 1 (OW.map bC),.sl har 274 1 ((AR.map Prod.fst).map slC),.blk gb g.cs 27]++OU.map (nest 3 1 inC)++(FI.map fIt++AR.map (nest 276 4 Arv.cs))
def limTo (g:Gl) (role:Int) (t:To):Lm:=⟨t.k,(vis1 role (eA g.es t.e.toNat)).getD evZ⟩
def limFo (g:Gl) (role:Int) (ts:List To) (s:Nat):Lm:=ts.foldl (fun b t=>if t.s=(s:Int) then limTo g role t else b) lm0
def agFo (es:List Ed) (s:Nat):Bool:=es.any fun x=>decide (x.f=(s:Int))&&x.ag
def owFo (es:List Ed) (role:Int) (s:Nat):Bool:=es.any fun x=>decide (x.f=(s:Int))&&decide (x.a=role)
def outJ (es:List Ed) (j:Nat) (s:Nat):List Nat:=(List.range j).filter (outGP es (s:Int))
theorem outJ_snoc {es:List Ed} {j:Nat} {x:Ed} (hx:es[j]?=some x) (s:Nat):outJ es (j+1) s=outJ es j s++(if x.f=(s:Int) then [j] else []):=by
 unfold outJ;rw[List.range_succ,List.filter_append];congr 1;have hp:outGP es (s:Int) j=decide (x.f=(s:Int)):=by unfold outGP;rw[hx]
 by_cases e:x.f=(s:Int)
 .rw[if_pos e,List.filter_cons_of_pos (by rw[hp];exact decide_eq_true e)];rfl
 .rw[if_neg e,List.filter_cons_of_neg (by rw[hp,decide_eq_false e];simp)];rfl
theorem any_snoc {α:Type} {l:List α} {j:Nat} {x:α} (hx:l[j]?=some x) (p:α->Bool):(l.take (j+1)).any p=((l.take j).any p||p x):=by
 rw[take_snoc hx,List.any_append];simp
theorem range_set {α:Type} {n:Nat} {f f':Nat->α} {k:Nat} {y:α} (hk:k<n) (h1:f' k=y) (h2:∀s,s≠k->f' s=f s):((List.range n).map f).set k y=(List.range n).map f':=by
 apply Yyr;intro s;by_cases hs:s<n
 .by_cases e:k=s
  .subst e;rw[Yq (by rw[Yc,Yyd];exact hs),Yd,Yyb hs,<-h1];rfl
  .rw[Yy e,Yd,Yd,Yyb hs];show some (f s)=some (f' s);rw[h2 s (fun h=>e h.symm)]
 .rw[Yl (by rw[Yyh,Yc,Yyd];omega),Yl (by rw[Yc,Yyd];omega)]
theorem range_at {α:Type} {n:Nat} (f:Nat->α) {s:Nat} (hs:s<n):((List.range n).map f)[s]?=some (f s):=by rw[Yd,Yyb hs];rfl
theorem owFo_snoc {es:List Ed} {j:Nat} {x:Ed} (hx:es[j]?=some x) (role:Int) (s:Nat):owFo (es.take (j+1)) role s=(owFo (es.take j) role s||(decide (x.f=(s:Int))&&decide (x.a=role))):=by unfold owFo;rw[any_snoc hx]
theorem agFo_snoc {es:List Ed} {j:Nat} {x:Ed} (hx:es[j]?=some x) (s:Nat):agFo (es.take (j+1)) s=(agFo (es.take j) s||(decide (x.f=(s:Int))&&x.ag)):=by unfold agFo;rw[any_snoc hx]
theorem own117 {h0 h79 h39 h46:Heap} {m44:Nat} {I:Int->Heap->Nat->Prop} {y:Int} {g:Gl} {role:Int} {ho hfi hli hag how har:Sl} {OU:List OuR} {FI:List Fs} {LI:List Lm} {AG:List Bool} {AR:List ArR} {gb j n:Nat} {x:Ed} (hx:g.es[j]?=some x) (hf0:0<=x.f) (hf1:x.f.toNat<n)
  (hs:St h0 h79 (.blk h46.size x.cs 67::anA h39.size gb g role ho hfi hli hag how har OU FI LI AG ((List.range n).map (owFo (g.es.take j) role)) AR))
  (hI:∀h':Heap,St h0 h' (anA h39.size gb g role ho hfi hli hag how har OU FI LI AG ((List.range n).map (owFo (g.es.take (j+1)) role)) AR)->∃m,m<m44/\I (IntKind.wrap .i64 (y+1)) h' m) :
  V49za h79 h39 h46 m44 I y role:=by
 unfold V49za;have hwn:=(hs.len 6 (s:=how) (e:=4) (n:=1) (rows:=((List.range n).map (owFo (g.es.take j) role)).map bC) rfl (by omega)).1;rw[Yc,Yc,Yyd] at hwn;have hfn:((x.f.toNat:Nat):Int)=x.f:=Int.toNat_of_nonneg hf0;have fin:∀(v:Bool),v=owFo (g.es.take (j+1)) role x.f.toNat->((List.range n).map (owFo (g.es.take j) role)).set x.f.toNat v=(List.range n).map (owFo (g.es.take (j+1)) role):=fun v hv=>range_set hf1 hv.symm fun s hs'=>by
  rw[owFo_snoc hx,decide_eq_false (by omega)];simp
 refine⟨how,hs.rd 1 rfl (i:=13) rfl,x.f,hs.rd 0 rfl (i:=0) rfl,how,hs.rd 1 rfl (i:=13) rfl,x.f,hs.rd 0 rfl (i:=0) rfl,?_⟩;refine (hs.rows 6 rfl (by omega)).nbI (by omega) (by omega) fun b84 o85 d gd t=>?_;rw[range_at _ hf1] at gd;cases gd;refine⟨_,t.hd,sB_intro (fun c=>?_) (fun c=>?_)⟩
 .refine hs.set 6 rfl (by omega) (x:=x.f) (by omega) (by omega) true rfl rfl (fun b87 o88 h89 hs=>hI h89 ?_) rfl;rw[fin true (by rw[owFo_snoc hx,c];rfl)] at hs;exact hs.drop 1
 .refine⟨x.a,hs.rd 0 rfl (i:=1) rfl,?_⟩;refine hs.set 6 rfl (by omega) (x:=x.f) (by omega) (by omega) (x.a==role) rfl rfl (fun b92 o93 h94 hs=>hI h94 ?_) rfl;rw[fin (x.a==role) (by rw[owFo_snoc hx,c,hfn,decide_eq_true rfl,Bool.false_or,Bool.true_and];exact (Bool.eq_iff_iff.2 (by simp)))] at hs;exact hs.drop 1
theorem anA_G {h0 h:Heap} {ab gb:Nat} {g:Gl} {role:Int} {ho hfi hli hag how har:Sl} {OU:List OuR} {FI:List Fs} {LI:List Lm} {AG OW:List Bool} {AR:List ArR} {R:List It} (hs:St h0 h (anA ab gb g role ho hfi hli hag how har OU FI LI AG OW AR++R)) (hg:GI h0 g) (hO:OU.map Prod.snd=(List.range g.n.toNat).map fun s=>natI (outG g.es (s:Nat))) :
  AnG h ab g role ho (fun i=>((OU[i]?).map Prod.fst).getD ⟨none,0,0⟩):=by
 have hOl:OU.length=g.n.toNat:=by have:=congrArg List.length hO;simpa using this
 refine⟨hs.at 0 rfl (o:=0) (n:=10) rfl,hg.ext hs.ext,?_,fun i hi=>?_⟩
 .have h1:=hs.rw 1 (s:=ho) (e:=102) (n:=1) (rows:=(OU.map Prod.fst).map slC) rfl (by omega);have e:(OU.map Prod.fst).map slC=(List.range g.n.toNat).map fun i=>slC (((OU[i]?).map Prod.fst).getD ⟨none,0,0⟩):=by
   apply Yyr;intro i;rw[Yd,Yd,Yd];by_cases hi:i<g.n.toNat
   .obtain⟨q,hq⟩:=get_some (l:=OU) (i:=i) (by omega);rw[hq,Yyb hi,Option.map_some,Option.map_some,Option.map_some,hq];rfl
   .rw[Yl (by omega),Yl (by rw[Yyd];omega)];rfl
  rw[e] at h1;exact h1
 .obtain⟨q,hq⟩:=get_some (l:=OU) (i:=i) (by omega);have h1:=map_range_get hO hi;rw[Yd,hq] at h1;have h2:q.2=natI (outG g.es (i:Nat)):=Yyp h1;show Rw h 1 ((Option.map Prod.fst OU[i]?).getD ⟨none,0,0⟩) _;rw[hq,<-h2];refine hs.rwm (e:=3) ?_ (by omega);unfold anA;refine List.mem_append_left _ (List.mem_append_left _ (List.mem_append_right _ (Yp.2 ⟨q,Yb hq,rfl⟩)))
def AnSpec (g:Gl) (role:Int) (OU:List OuR) (FI:List Fs) (LI:List Lm) (AG OW:List Bool):Prop:=
 OU.map Prod.snd=((List.range g.n.toNat).map fun s=>natI (outG g.es (s:Nat)))/\FI.map (fun f=>(f.l,f.b))=((List.range g.n.toNat).map fun s=>(firstE g role (s:Nat),firstB g role (s:Nat)))/\LI=(List.range g.n.toNat).map (limFo g role g.ts)/\AG=(List.range g.n.toNat).map (agFo g.es)/\OW=(List.range g.n.toNat).map (owFo g.es role)
abbrev nilS:Sl:=⟨none,0,0⟩
theorem outJ_len (es:List Ed) (j s:Nat):(outJ es j s).length<=j:=Yys (List.length_filter_le _ _) (by rw[Yyd];exact Yyt _)
theorem natI_snoc1 (l:List Nat) (j:Nat):natI (l++[j])=natI l++[(j:Int)]:=by unfold natI;rw[Ym];rfl
theorem tail117 {g:Gl} {role:Int} {h:Heap} {R:Value->Heap->Prop} (hg:GI h g) (hV:ValidS g)
  (hK:∀(ab:Nat) (ho hfi hli hag how har:Sl) (OU:List OuR) (FI:List Fs) (LI:List Lm) (AG OW:List Bool) (h':Heap),St h h' (anA ab h.size g role ho hfi hli hag how har OU FI LI AG OW (List.replicate g.n.toNat (nilS,[])))->AnSpec g role OU FI LI AG OW->R (.tuple ⟨[.pointer (some ⟨ab,0,none⟩),.int .i64 0]⟩) h') :
  TailH g role h R:=by
 intro hF a b c d e hs;unfold V49a;have hN:=hV.num.n;have hM:=hV.num.m;have hE:=hV.num.e;have hen:=hg.e.ln;have htn:=hg.t.ln;have htm:=hg.t.sm;have hmx:g.n.toNat<=9223372036854775807:=by omega
 refine hs.newb fun h40 hs=>?_;have hs:=hs.blkAt 1 rfl g.n.toNat 1 ((List.replicate g.n.toNat nilS).map slC) (made42s _) (fun r hr=>by obtain⟨x,_,rfl⟩:=Yp.1 hr;rfl) (by rw[Yc,Yg]) hmx;have hs:=hs.blkAt 2 rfl g.n.toNat 4 ((List.replicate g.n.toNat lm0).map Lm.cs) (made256s _) (fun r hr=>by obtain⟨x,_,rfl⟩:=Yp.1 hr;rfl) (by rw[Yc,Yg]) hmx;have hs:=hs.blkAt 3 rfl g.n.toNat 1 ((List.replicate g.n.toNat false).map bC) (made4b _) (fun r hr=>by obtain⟨x,_,rfl⟩:=Yp.1 hr;rfl) (by rw[Yc,Yg]) hmx;have hs:=hs.blkAt 4 rfl g.n.toNat 1 ((List.replicate g.n.toNat false).map bC) (made4b _) (fun r hr=>by obtain⟨x,_,rfl⟩:=Yp.1 hr;rfl) (by rw[Yc,Yg]) hmx;have hs:=hs.blkAt 5 rfl g.n.toNat 1 ((List.replicate g.n.toNat nilS).map slC) (made268s _) (fun r hr=>by obtain⟨x,_,rfl⟩:=Yp.1 hr;rfl) (by rw[Yc,Yg]) hmx;have hs:=(hs.nil_ 195 2).perm (List.perm_middle (l₁:=[_,_])).symm;have hs:=hs.nests (α:=Arv) (e:=276) (k:=4) (cs:=Arv.cs) (A:=[_,_,_,_,_,_,_,_]) (B:=[]) g.n.toNat;rw[Yw] at hs;have hs:=hs.nests (α:=Int) (e:=3) (k:=1) (cs:=inC) (A:=[_,_,_,_,_,_,_,_]) (B:=_) g.n.toNat;generalize hho:(⟨some ⟨a.size,0,none⟩,g.n.toNat,g.n.toNat⟩:Sl)=ho at *;generalize hhl:(⟨some ⟨b.size,0,none⟩,g.n.toNat,g.n.toNat⟩:Sl)=hli at *;generalize hha:(⟨some ⟨c.size,0,none⟩,g.n.toNat,g.n.toNat⟩:Sl)=hag at *;generalize hhw:(⟨some ⟨d.size,0,none⟩,g.n.toNat,g.n.toNat⟩:Sl)=how at *;generalize hhr:(⟨some ⟨e.size,0,none⟩,g.n.toNat,g.n.toNat⟩:Sl)=har at *;have hs:St h h40 (anA hF.size h.size g role ho nilS hli hag how har (List.replicate g.n.toNat (nilS,[])) [] (List.replicate g.n.toNat lm0) (List.replicate g.n.toNat false) (List.replicate g.n.toNat false) (List.replicate g.n.toNat (nilS,[]))):=by
  subst hho hhl hha hhw hhr;unfold anA;rw[List.map_replicate (f:=Prod.fst),List.map_replicate (f:=Prod.fst)];exact hs
 clear hho hhl hha hhw hhr;refine⟨g.he,hs.rd 7 rfl (i:=6) rfl,?_⟩;have rr:∀ {α:Type} (f:Nat->α) (z:α),(∀s,f s=z)->List.replicate g.n.toNat z=(List.range g.n.toNat).map f:=fun {α} f z hz=>by
  apply Yyr;intro s;rw[List.getElem?_replicate];by_cases hsn:s<g.n.toNat
  .rw[if_pos hsn,range_at f hsn,hz]
  .rw[if_neg hsn,Yl (by rw[Yc,Yyd];omega)]
 refine⟨fun x h' μ=>∃(j:Nat) (OU:List OuR),x=(j:Int)/\μ=g.es.length-j/\j<=g.es.length/\OU.map Prod.snd=((List.range g.n.toNat).map fun s=>natI (outJ g.es j s)) /\
  St h h' (anA hF.size h.size g role ho nilS hli hag how har OU [] (List.replicate g.n.toNat lm0) ((List.range g.n.toNat).map (agFo (g.es.take j))) ((List.range g.n.toNat).map (owFo (g.es.take j) role)) (List.replicate g.n.toNat (nilS,[]))),
  ⟨_,0,List.replicate g.n.toNat (nilS,[]),rfl,rfl,by omega,?_,?_⟩,?_⟩
 .rw[List.map_replicate];exact rr _ _ fun s=>rfl
 .rw[<-rr (agFo (g.es.take 0)) false fun s=>rfl,<-rr (owFo (g.es.take 0) role) false fun s=>rfl];exact hs
 clear hs;rintro-_ h46 μ ⟨j,OU,rfl,rfl,hj,hOU,hs⟩;have hOl:OU.length=g.n.toNat:=by have:=congrArg List.length hOU;simpa using this
 refine sBi (fun c1=>?_) (fun c1=>?_)
 .refine (hg.e.rw.ext hs.ext).nbI (by omega) (by omega) fun b47 o48 x gx t=>?_;replace gx:g.es[j]?=some x:=gx;have hxe:=hE x (Yb gx);unfold EdS at hxe;have hxf:((x.f.toNat:Nat):Int)=x.f:=by omega
  have hxl:x.f.toNat<g.n.toNat:=by omega
  obtain⟨q,hq⟩:=get_some (l:=OU) (i:=x.f.toNat) (by omega);refine⟨_,_,_,_,_,_,t,?_⟩;refine hs.newput (vs:=x.cs) rfl rfl fun h56 hs=>?_;refine⟨ho,hs.rd 1 rfl (i:=9) rfl,x.f,hs.rd 0 rfl (i:=0) rfl,ho,hs.rd 1 rfl (i:=9) rfl,x.f,hs.rd 0 rfl (i:=0) rfl,?_⟩;have hon:=(hs.len 2 (s:=ho) (e:=102) (n:=1) (rows:=(OU.map Prod.fst).map slC) rfl (by omega)).1;rw[Yc,Yc] at hon;refine (hs.rows 2 rfl (by omega)).nbI (by omega) (by omega) fun b61 o62 d gd u=>?_;rw[Yd,hq] at gd;cases gd;refine⟨q.1,u.hd,?_⟩;refine hs.newbE fun h64 E64 hs=>⟨E64.sm,?_⟩;have hq2:q.2=natI (outJ g.es j x.f.toNat):=by
   have h1:=map_range_get hOU hxl;rw[Yd,hq] at h1;exact Yyp h1
  have hql:q.2.length<=400:=by rw[hq2];unfold natI;rw[Yc];have:=outJ_len g.es j x.f.toNat;omega
  have hs:St h h64 ((.blk h56.size (inC (j:Int)) 3 :: .blk h46.size x.cs 67::[.blk hF.size (anC g role ho nilS hli hag how har) 186,.sl ho 102 1 ((OU.map Prod.fst).map slC),.sl nilS 195 2 (([]:List Fs).map Fs.cs),.sl hli 192 4 ((List.replicate g.n.toNat lm0).map Lm.cs),.sl hag 4 1 (((List.range g.n.toNat).map (agFo (g.es.take j))).map bC),.sl how 4 1 (((List.range g.n.toNat).map (owFo (g.es.take j) role)).map bC),.sl har 274 1 (((List.replicate g.n.toNat ((nilS,[]):ArR)).map Prod.fst).map slC),.blk h.size g.cs 27])++OU.map (nest 3 1 inC)++(([]:List Fs).map fIt++(List.replicate g.n.toNat ((nilS,[]):ArR)).map (nest 276 4 Arv.cs))):=hs;have hqn:=(hs.nestLn hq (by omega)).ln;refine hs.nestAt hq app42 (j:Int) (hs.at 0 rfl (o:=0) (n:=1) rfl) rfl rfl (by omega) (by simp only[maxLen];omega) fun r h66 hr hs3=>?_;refine⟨sm_cons (hs.same hs3 1 1 rfl rfl) (sm_cons (hs.same hs3 2 2 rfl rfl) sm_nil),?_⟩;refine hs3.set 3 rfl (by omega) (x:=x.f) (by omega) (by omega) r rfl rfl (fun b67 o68 h69 hs=>?_) rfl;replace hs:=hs.drop 1;have hs:St h h69 (.blk h46.size x.cs 67::anA hF.size h.size g role ho nilS hli hag how har (OU.set x.f.toNat (r,q.2++[(j:Int)])) [] (List.replicate g.n.toNat lm0) ((List.range g.n.toNat).map (agFo (g.es.take j))) ((List.range g.n.toNat).map (owFo (g.es.take j) role)) (List.replicate g.n.toNat (nilS,[]))):=by
   unfold anA;rw[List.map_set (f:=Prod.fst)];exact hs
  have hOU2:(OU.set x.f.toNat (r,q.2++[(j:Int)])).map Prod.snd=((List.range g.n.toNat).map fun s=>natI (outJ g.es (j+1) s)):=by
   rw[List.map_set,hOU];refine range_set hxl ?_ fun s hs=>?_
   .show natI (outJ g.es (j+1) x.f.toNat)=q.2++[(j:Int)];rw[outJ_snoc gx,if_pos hxf.symm,natI_snoc1,hq2]
   .show natI (outJ g.es (j+1) s)=natI (outJ g.es j s);rw[outJ_snoc gx,if_neg (by omega),Yw]
  generalize OU.set x.f.toNat (r,q.2++[(j:Int)])=OU' at *;have hagn:=(hs.len 5 (s:=hag) (e:=4) (n:=1) (rows:=((List.range g.n.toNat).map (agFo (g.es.take j))).map bC) rfl (by omega)).1;rw[Yc,Yc,Yyd] at hagn;have fin:∀(v:Bool),v=agFo (g.es.take (j+1)) x.f.toNat->((List.range g.n.toNat).map (agFo (g.es.take j))).set x.f.toNat v=(List.range g.n.toNat).map (agFo (g.es.take (j+1))):=fun v hv=>range_set hxl hv.symm fun s hs'=>by
   rw[agFo_snoc gx,decide_eq_false (by omega)];simp
  refine⟨hag,hs.rd 1 rfl (i:=12) rfl,x.f,hs.rd 0 rfl (i:=0) rfl,hag,hs.rd 1 rfl (i:=12) rfl,x.f,hs.rd 0 rfl (i:=0) rfl,?_⟩;refine (hs.rows 5 rfl (by omega)).nbI (by omega) (by omega) fun b74 o75 d gd u2=>?_;rw[range_at _ hxl] at gd;cases gd;have last:∀ {hZ:Heap},St h hZ (.blk h46.size x.cs 67::anA hF.size h.size g role ho nilS hli hag how har OU' [] (List.replicate g.n.toNat lm0) ((List.range g.n.toNat).map (agFo (g.es.take (j+1)))) ((List.range g.n.toNat).map (owFo (g.es.take j) role)) (List.replicate g.n.toNat (nilS,[]))) ->
    V49za hZ hF h46 (g.es.length-j) (fun x h' μ=>∃(j:Nat) (OU:List OuR),x=(j:Int)/\μ=g.es.length-j/\j<=g.es.length/\OU.map Prod.snd=((List.range g.n.toNat).map fun s=>natI (outJ g.es j s))/\St h h' (anA hF.size h.size g role ho nilS hli hag how har OU [] (List.replicate g.n.toNat lm0) ((List.range g.n.toNat).map (agFo (g.es.take j))) ((List.range g.n.toNat).map (owFo (g.es.take j) role)) (List.replicate g.n.toNat (nilS,[])))) j role:=fun {hZ} hs=>by
   refine own117 gx (by omega) hxl hs fun h' hs'=>⟨_,?_,j+1,OU',by rw[w64 (by omega) (by omega)];omega,rfl,by omega,hOU2,hs'⟩;omega
  refine⟨_,u2.hd,sB_intro (fun c2=>?_) (fun c2=>?_)⟩
  .refine hs.set 5 rfl (by omega) (x:=x.f) (by omega) (by omega) true rfl rfl (fun b77 o78 h79 hs=>last ?_) rfl;rw[fin true (by rw[agFo_snoc gx,c2];rfl)] at hs;exact hs
  .refine⟨x.ag,hs.rd 0 rfl (i:=5) rfl,?_⟩;refine hs.set 5 rfl (by omega) (x:=x.f) (by omega) (by omega) x.ag rfl rfl (fun b97 o98 h99 hs=>last ?_) rfl;rw[fin x.ag (by rw[agFo_snoc gx,c2,hxf,decide_eq_true rfl,Bool.false_or,Bool.true_and])] at hs;exact hs
 .have hjn:j=g.es.length:=by omega
  subst hjn;rw[Yye] at hs;refine⟨g.ht,hs.rd 7 rfl (i:=7) rfl,?_⟩;refine⟨fun x h' μ=>∃j:Nat,x=(j:Int)/\μ=g.ht.n-j/\j<=g.ht.n/\St h h' (anA hF.size h.size g role ho nilS hli hag how har OU [] ((List.range g.n.toNat).map (limFo g role (g.ts.take j))) ((List.range g.n.toNat).map (agFo g.es)) ((List.range g.n.toNat).map (owFo g.es role)) (List.replicate g.n.toNat (nilS,[]))),⟨_,0,rfl,rfl,by omega,?_⟩,?_⟩
  .rw[<-rr (limFo g role (g.ts.take 0)) lm0 fun s=>rfl];exact hs
  clear hs c1;rintro-_ h121 μ ⟨k,rfl,rfl,hk,hs⟩;refine sBi (fun c2=>?_) (fun c2=>?_)
  .refine (hg.t.rw.ext hs.ext).nbI (by omega) (by omega) fun b122 o123 t gt u=>?_;replace gt:g.ts[k]?=some t:=gt;have htS:=hV.tim k t gt;obtain⟨he0,x,hx,hxf,_⟩:=htS.e;have hxl:=(Ya.1 hx).1;have hxe:=hE x (Yb hx);unfold EdS at hxe;have hts:t.s.toNat<g.n.toNat:=by omega
   refine⟨t.s,t.k,t.e,u,?_⟩;refine hs.newput (vs:=t.cs) rfl rfl fun h128 hs=>?_;refine⟨g.he,hs.rd 8 rfl (i:=6) rfl,t.e,hs.rd 0 rfl (i:=2) rfl,?_⟩;refine (hg.e.rw.ext hs.ext).nbI (by omega) (by omega) fun b131 o132 x' gx u2=>?_;rw[hx] at gx;cases gx;refine⟨_,_,_,_,_,_,u2,?_⟩;refine (seenR160 ⟨hF.size,0,none⟩ role x h128 (hs.rd 1 rfl (i:=8) rfl)).mono ?_;rintro _ h144 ⟨E144,rfl⟩;replace hs:=hs.step E144;have hlin:=(hs.len 4 (s:=hli) (e:=192) (n:=4) (rows:=((List.range g.n.toNat).map (limFo g role (g.ts.take k))).map Lm.cs) rfl (by omega)).1;rw[Yc,Yc,Yyd] at hlin;have rest:∀(y:Ev) (hy:(vis1 role x).getD evZ=y) {hZ:Heap},St h hZ (.blk h144.size y.cs 188 :: .blk h121.size t.cs 149::anA hF.size h.size g role ho nilS hli hag how har OU [] ((List.range g.n.toNat).map (limFo g role (g.ts.take k))) ((List.range g.n.toNat).map (agFo g.es)) ((List.range g.n.toNat).map (owFo g.es role)) (List.replicate g.n.toNat (nilS,[]))) ->
     (NB hli.a fun b153 o154=>(0<=t.s/\t.s<(hli.n:Nat))/\(okAt hZ ⟨b153,o154+Int.toNat t.s*4,none⟩ 4/\∀h155:Heap,h155=hputs hZ ⟨b153,o154+Int.toNat t.s*4,none⟩ 0 [.int .i64 t.k,.bool y.send,.int .i64 y.peer,.int .i64 y.label]->(∃m156,m156<g.ht.n-k/\∃j:Nat,IntKind.wrap .i64 ((k:Int)+1)=(j:Int)/\m156=g.ht.n-j/\j<=g.ht.n/\St h h155 (anA hF.size h.size g role ho nilS hli hag how har OU [] ((List.range g.n.toNat).map (limFo g role (g.ts.take j))) ((List.range g.n.toNat).map (agFo g.es)) ((List.range g.n.toNat).map (owFo g.es role)) (List.replicate g.n.toNat (nilS,[])))))):=fun y hy {hZ} hs=>by
    refine hs.set 5 rfl (by omega) (x:=t.s) (by omega) (by omega) (⟨t.k,y⟩:Lm) rfl rfl (fun b153 o154 h155 hs=>⟨_,?_,k+1,by rw[w64 (by omega) (by omega)];omega,rfl,by omega,?_⟩) rfl
    .omega
    .have e1:((List.range g.n.toNat).map (limFo g role (g.ts.take k))).set t.s.toNat (⟨t.k,y⟩:Lm)=(List.range g.n.toNat).map (limFo g role (g.ts.take (k+1))):=by
      refine range_set hts ?_ fun s hs=>?_
      .unfold limFo;rw[take_snoc gt,List.foldl_append];show (if t.s=((t.s.toNat:Nat):Int) then limTo g role t else _)=_;rw[if_pos (by omega)];unfold limTo;rw[eA_get hx,hy]
      .unfold limFo;rw[take_snoc gt,List.foldl_append];show (if t.s=((s:Nat):Int) then limTo g role t else _)=_;rw[if_neg (by omega)]
     rw[e1] at hs;exact hs.drop 2
   cases hvis:vis1 role x with
   | some y=>
    refine⟨y.send,y.peer,y.label,true,rfl,?_⟩;refine hs.newput (vs:=y.cs) rfl rfl fun h146 hs=>?_;refine⟨hli,hs.rd 2 rfl (i:=11) rfl,t.s,hs.rd 1 rfl (i:=0) rfl,t.k,hs.rd 1 rfl (i:=1) rfl,y.send,y.peer,y.label,hs.at 0 rfl (o:=0) (n:=3) rfl,?_⟩;exact rest y (by rw[hvis];rfl) hs
   | none=>
    refine⟨false,0,0,false,rfl,?_⟩;refine hs.newput (vs:=evZ.cs) rfl rfl fun h146 hs=>?_;refine⟨hli,hs.rd 2 rfl (i:=11) rfl,t.s,hs.rd 1 rfl (i:=0) rfl,t.k,hs.rd 1 rfl (i:=1) rfl,false,0,0,hs.at 0 rfl (o:=0) (n:=3) rfl,?_⟩;exact rest evZ (by rw[hvis];rfl) hs
  .rw[Yj (by omega)] at hs;refine⟨g.n,hs.rd 7 rfl (i:=3) rfl,?_⟩;refine⟨fun x h' μ=>∃(j:Nat) (hfi:Sl) (FI:List Fs),x=(j:Int)/\μ=g.n.toNat-j/\j<=g.n.toNat/\FI.map (fun f=>(f.l,f.b))=((List.range j).map fun s=>(firstE g role (s:Nat),firstB g role (s:Nat)))/\St h h' (anA hF.size h.size g role ho hfi hli hag how har OU FI ((List.range g.n.toNat).map (limFo g role g.ts)) ((List.range g.n.toNat).map (agFo g.es)) ((List.range g.n.toNat).map (owFo g.es role)) (List.replicate g.n.toNat (nilS,[]))),⟨_,0,nilS,[],rfl,rfl,Nat.zero_le _,rfl,hs⟩,?_⟩;clear hs c2 hk;rintro-_ h162 μ ⟨k,hfi,FI,rfl,rfl,hk,hFI,hs⟩;have hFl:FI.length=k:=by have:=congrArg List.length hFI;simpa using this
   refine sBi (fun c3=>?_) (fun c3=>?_)
   .refine⟨hfi,hs.rd 0 rfl (i:=10) rfl,?_⟩;have hOG:OU.map Prod.snd=((List.range g.n.toNat).map fun s=>natI (outG g.es (s:Nat))):=hOU;have hG:=anA_G (R:=[]) (by rw[Yw];exact hs) hg hOG;refine (firstsR161 hF.size g role ho _ k h162 hG hV (by omega)).mono ?_;rintro _ h167 ⟨r,rfl,hs2⟩;refine⟨r,firstB g role (k:Nat),rfl,hs2.ext.sm,?_⟩;have hs:=hs.join hs2;refine hs.newbE fun h168 E168 hs=>⟨E168.sm,?_⟩;have hfl:=hs.len 3 (s:=hfi) (e:=195) (n:=2) (rows:=FI.map Fs.cs) rfl (by omega);rw[Yc] at hfl;refine hs.appended 3 rfl app248 (news:=[Fs.cs ⟨r,firstE g role (k:Nat),firstB g role (k:Nat)⟩]) (hs.at 0 rfl (o:=0) (n:=2) rfl) rfl (fun q hq=>by rw[Ye] at hq;rw[hq];rfl) rfl (by show (hfi.n+1)*32<=140737488355328;omega) (by show hfi.n+1<=9223372036854775807;omega) fun s169 h170 n169 hs=>?_;refine hs.put 1 rfl (o:=10) (vs:=[.slice s169.a s169.n s169.c]) rfl (show 11<=15 by decide) fun h171 hs=>?_;refine⟨_,?_,k+1,s169,FI++[⟨r,firstE g role (k:Nat),firstB g role (k:Nat)⟩],by rw[w64 (by omega) (by omega)];omega,rfl,by omega,by rw[Ym,hFI,List.range_succ,Ym];rfl,?_⟩
    .omega
    .refine (hs.drop 1).perm ?_;unfold anA;rw[Ym (f:=Fs.cs),Ym (f:=fIt)];refine List.Perm.trans (List.Perm.of_eq (l₂:=[.blk hF.size (anC g role ho s169 hli hag how har) 186,.sl ho 102 1 ((OU.map Prod.fst).map slC),.sl s169 195 2 (FI.map Fs.cs++[⟨r,firstE g role (k:Nat),firstB g role (k:Nat)⟩].map Fs.cs),.sl hli 192 4 (((List.range g.n.toNat).map (limFo g role g.ts)).map Lm.cs),.sl hag 4 1 (((List.range g.n.toNat).map (agFo g.es)).map bC),.sl how 4 1 (((List.range g.n.toNat).map (owFo g.es role)).map bC),.sl har 274 1 (((List.replicate g.n.toNat ((nilS,[]):ArR)).map Prod.fst).map slC),.blk h.size g.cs 27]++OU.map (nest 3 1 inC)++((FI.map fIt++(List.replicate g.n.toNat ((nilS,[]):ArR)).map (nest 276 4 Arv.cs))++[.sl r 188 3 ((firstE g role (k:Nat)).map Ev.cs)])) ?_) (List.Perm.append_left _ ?_)
     .exact Yz ([.blk hF.size (anC g role ho s169 hli hag how har) 186,.sl ho 102 1 ((OU.map Prod.fst).map slC),.sl s169 195 2 (FI.map Fs.cs++[⟨r,firstE g role (k:Nat),firstB g role (k:Nat)⟩].map Fs.cs),.sl hli 192 4 (((List.range g.n.toNat).map (limFo g role g.ts)).map Lm.cs),.sl hag 4 1 (((List.range g.n.toNat).map (agFo g.es)).map bC),.sl how 4 1 (((List.range g.n.toNat).map (owFo g.es role)).map bC),.sl har 274 1 (((List.replicate g.n.toNat ((nilS,[]):ArR)).map Prod.fst).map slC),.blk h.size g.cs 27]++OU.map (nest 3 1 inC)) (FI.map fIt++(List.replicate g.n.toNat ((nilS,[]):ArR)).map (nest 276 4 Arv.cs)) [.sl r 188 3 ((firstE g role (k:Nat)).map Ev.cs)]
     .rw[Yz,Yz];exact List.Perm.append_left _ List.perm_append_comm
   .have hkn:k=g.n.toNat:=by omega
    subst hkn;exact hK hF.size ho hfi hli hag how har OU FI _ _ _ h162 hs ⟨hOU,hFI,rfl,rfl,rfl⟩
theorem analyse117 (g:Gl) (role:Int) (h:Heap) (hg:GI h g) (hx:Gm h) :
  Fn Pz 49 #[g.v,.int .i64 role] h fun v h'=>(¬(ValidS g/\0<=role/\role<g.rs.length)/\v=.tuple ⟨[.pointer none,.int .i64 1]⟩/\Ext h h') \/
   ((ValidS g/\0<=role/\role<g.rs.length)/\∃(ab:Nat) (ho hfi hli hag how har:Sl) (OU:List OuR) (FI:List Fs) (LI:List Lm) (AG OW:List Bool),v=.tuple ⟨[.pointer (some ⟨ab,0,none⟩),.int .i64 0]⟩/\St h h' (anA ab h.size g role ho hfi hli hag how har OU FI LI AG OW (List.replicate g.n.toNat (nilS,[])))/\AnSpec g role OU FI LI AG OW):=by
 apply vc49 (bs g.nm) g.hr g.hd g.n g.s g.e g.he g.ht role;unfold W49;have hrn:=hg.r.ln;refine (St.refl h).newb fun h9 hs=>?_;refine⟨_,_,_,_,_,_,_,_,hs.at 0 rfl (n:=8) rfl,?_⟩;refine (valid38 g h9 (hg.ext hs.ext) (hx.ext hs.ext)).mono ?_;rintro _ h20 ⟨rfl,E20⟩;replace hs:=hs.step E20;refine⟨_,rfl,?_⟩;by_cases hV:ValidS g
 .rw[decide_eq_true hV];refine sB_f rfl ?_;refine sBi (fun c=>.inl ⟨fun h=>by omega,rfl,hs.ext⟩) (fun c1=>?_);refine⟨g.hr,hs.rd 0 rfl (i:=1) rfl,sBi (fun c=>.inl ⟨fun h=>by omega,rfl,hs.ext⟩) (fun c2=>?_)⟩;have hN:=hV.num.n;refine⟨_,_,_,_,_,_,_,_,hs.at 0 rfl (n:=8) rfl,g.n,hs.rd 0 rfl (i:=3) rfl,g.n,hs.rd 0 rfl (i:=3) rfl,g.n,hs.rd 0 rfl (i:=3) rfl,g.n,hs.rd 0 rfl (i:=3) rfl,g.n,hs.rd 0 rfl (i:=3) rfl,?_⟩;have hT:TailH g role h fun v h'=>(¬(ValidS g/\0<=role/\role<g.rs.length)/\v=.tuple ⟨[.pointer none,.int .i64 1]⟩/\Ext h h') \/
   ((ValidS g/\0<=role/\role<g.rs.length)/\∃(ab:Nat) (ho hfi hli hag how har:Sl) (OU:List OuR) (FI:List Fs) (LI:List Lm) (AG OW:List Bool),v=.tuple ⟨[.pointer (some ⟨ab,0,none⟩),.int .i64 0]⟩/\St h h' (anA ab h.size g role ho hfi hli hag how har OU FI LI AG OW (List.replicate g.n.toNat (nilS,[])))/\AnSpec g role OU FI LI AG OW):=
   tail117 hg hV fun ab ho hfi hli hag how har OU FI LI AG OW h' hs hsp=>.inr ⟨⟨hV,by omega,by omega⟩,ab,ho,hfi,hli,hag,how,har,OU,FI,LI,AG,OW,rfl,hs,hsp⟩
  have hn:1<=g.n/\g.n<=200:=⟨by omega,by omega⟩;exact⟨nV117H0 hT hn hs,nV117H1 hT hn hs,nV117H2 hT hn hs,nV117H3 hT hn hs,nV117H4 hT hn hs⟩
 .rw[decide_eq_false hV];refine sB_t rfl (.inl ⟨fun h=>hV h.1,rfl,hs.ext⟩)
def arv1 (g:Gl) (i:Nat) (m:Ms):Arv:=⟨(i:Int),1+((pthS g i m).length:Int),m⟩
def arM (g:Gl) (i:Nat) (l:List Ms):List Arv:=(l.filter fun m=>decide (m.p≠(eA g.es i).a)).map (arv1 g i)
def arr1 (g:Gl) (role:Int) (i:Nat):List Arv:=if (eA g.es i).b=role then arM g i (earS g i) else []
def arrS (g:Gl) (role:Int) (s:Nat):List Arv:=(outG g.es (s:Nat)).flatMap (arr1 g role)
theorem arM_snoc {g:Gl} {i:Nat} {l:List Ms} {k:Nat} {m:Ms} (hm:l[k]?=some m):arM g i (l.take (k+1))=arM g i (l.take k)++(if m.p≠(eA g.es i).a then [arv1 g i m] else []):=by
 unfold arM;rw[take_snoc hm,List.filter_append,Ym];congr 1;by_cases e:m.p≠(eA g.es i).a
 .rw[if_pos e,List.filter_cons_of_pos (by rw[decide_eq_true e])];rfl
 .rw[if_neg e,List.filter_cons_of_neg (by rw[decide_eq_false e];decide)];rfl
def anB (ab gb:Nat) (g:Gl) (role:Int) (ho hfi hli hag how har:Sl) (OU:List OuR) (FI:List Fs) (LI:List Lm) (AG OW:List Bool) (AR:List ArR) (R:List It):List It:=
 ([.blk ab (anC g role ho hfi hli hag how har) 186,.sl ho 102 1 ((OU.map Prod.fst).map slC),.sl hfi 195 2 (FI.map Fs.cs),.sl hli 192 4 (LI.map Lm.cs),.sl hag 4 1 (AG.map bC),.sl how 4 1 (OW.map bC),.sl har 274 1 ((AR.map Prod.fst).map slC),.blk gb g.cs 27]++OU.map (nest 3 1 inC)++FI.map fIt)++AR.map (nest 276 4 Arv.cs)++R
theorem anB_eq (ab gb:Nat) (g:Gl) (role:Int) (ho hfi hli hag how har:Sl) (OU:List OuR) (FI:List Fs) (LI:List Lm) (AG OW:List Bool) (AR:List ArR) (R:List It):anB ab gb g role ho hfi hli hag how har OU FI LI AG OW AR R=anA ab gb g role ho hfi hli hag how har OU FI LI AG OW AR++R:=by
 unfold anB anA;simp only[Yz]
structure ArI (g:Gl) (role:Int) (f:Nat->List Arv) (AR:List ArR):Prop where
 l:AR.map Prod.snd=(List.range g.n.toNat).map f
 b:∀q∈AR,∀x∈q.2,0<x.n/\x.n<=1048577
theorem ArI.len {g:Gl} {role:Int} {f:Nat->List Arv} {AR:List ArR} (h:ArI g role f AR):AR.length=g.n.toNat:=by have:=congrArg List.length h.l;simpa using this
theorem early118 {h0 h:Heap} {ab gb:Nat} {g:Gl} {role:Int} {ho hfi hli hag how har:Sl} {OU:List OuR} {FI:List Fs} {LI:List Lm} {AG OW:List Bool} {R:List It} (hs:St h0 h (anB ab gb g role ho hfi hli hag how har OU FI LI AG OW (List.replicate g.n.toNat (nilS,[])) R)) (hg:GI h0 g) (hx:Gm h0) (hV:ValidS g)
  (hO:OU.map Prod.snd=(List.range g.n.toNat).map fun s=>natI (outG g.es (s:Nat))) :
  Fn Pz 82 #[.pointer (some ⟨ab,0,none⟩)] h fun v h'=>v=.tuple ⟨[]⟩/\∃AR:List ArR,St h0 h' (anB ab gb g role ho hfi hli hag how har OU FI LI AG OW AR R)/\ArI g role (arrS g role) AR/\∀q∈AR,q.2.length<=160000:=by
 apply vc82 ⟨ab,0,none⟩;unfold W82;have hN:=hV.num.n;have hM:=hV.num.m;have hE:=hV.num.e;have hen:=hg.e.ln;have hOl:OU.length=g.n.toNat:=by have:=congrArg List.length hO;simpa using this
 refine⟨g.n,hs.rd 0 rfl (i:=3) rfl,?_⟩;refine⟨fun x h' μ=>∃(s:Nat) (AR:List ArR),x=(s:Int)/\μ=g.n.toNat-s/\s<=g.n.toNat/\St h0 h' (anB ab gb g role ho hfi hli hag how har OU FI LI AG OW AR R)/\ArI g role (fun t=>if t<s then arrS g role t else []) AR/\∀q∈AR,q.2.length<=160000,⟨_,0,_,rfl,rfl,Nat.zero_le _,hs,⟨?_,fun q hq x hx=>?_⟩,fun q hq=>?_⟩,?_⟩
 .rw[List.map_replicate];apply Yyr;intro s;rw[List.getElem?_replicate,Yd];by_cases hs:s<g.n.toNat
  .rw[if_pos hs,Yyb hs];rfl
  .rw[if_neg hs,Yl (by rw[Yyd];omega)];rfl
 .rw[List.eq_of_mem_replicate hq] at hx;cases hx
 .rw[List.eq_of_mem_replicate hq];exact Nat.zero_le _
 clear hs;rintro-_ h6 μ ⟨s,AR,rfl,rfl,hsn,hs,hAR,hAl⟩;refine sBi (fun c=>?_) (fun c=>?_)
 .obtain⟨qo,hqo⟩:=get_some (l:=OU) (i:=s) (by omega);have hqo2:qo.2=natI (outG g.es (s:Nat)):=by
   have h1:=map_range_get hO (s:=s) (by omega);rw[Yd,hqo] at h1;exact Yyp h1
  have hol:=outG_len g.es (s:Nat);have hhon:=(hs.len 1 (s:=ho) (e:=102) (n:=1) (rows:=(OU.map Prod.fst).map slC) rfl (by omega)).1;rw[Yc,Yc] at hhon;refine⟨ho,hs.rd 0 rfl (i:=9) rfl,?_⟩;refine (hs.rows 1 rfl (by omega)).nbI (by omega) (by omega) fun b8 o9 d gd u=>?_;replace gd:(OU.map Prod.fst)[s]?=some d:=gd;rw[Yd,hqo] at gd;cases gd;refine⟨qo.1,u.hd,?_⟩;have hmem:∀ {AR F},.sl qo.1 3 1 (qo.2.map inC)∈(F++anB ab gb g role ho hfi hli hag how har OU FI LI AG OW AR R:List It):=fun {AR F}=>by
   refine List.mem_append_right _ ?_;unfold anB;refine List.mem_append_left _ (List.mem_append_left _ (List.mem_append_left _ (List.mem_append_right _ (Yp.2 ⟨qo,Yb hqo,rfl⟩))))
  have hrw0:Rw h6 1 qo.1 (qo.2.map inC):=hs.rwm (hmem (F:=[])) (by omega);have hqn:qo.1.n=(outG g.es (s:Nat)).length:=by have:=hrw0.1;rw[Yc,hqo2] at this;rw[this];exact Yc _
  clear hrw0;refine⟨fun x h' μ=>∃(j:Nat) (AR:List ArR),x=(j:Int)/\μ=qo.1.n-j/\j<=qo.1.n/\St h0 h' (anB ab gb g role ho hfi hli hag how har OU FI LI AG OW AR R)/\ArI g role (fun t=>if t<s then arrS g role t else if t=s then ((outG g.es (s:Nat)).take j).flatMap (arr1 g role) else []) AR/\(∀q∈AR,q.2.length<=160000)/\(((outG g.es (s:Nat)).take j).flatMap (arr1 g role)).length<=400*j,⟨_,0,AR,rfl,rfl,Nat.zero_le _,hs,?_,hAl,Nat.zero_le _⟩,?_⟩
  .refine⟨?_,hAR.b⟩;rw[hAR.l];apply List.map_congr_left;intro t _;by_cases e1:t<s
   .rw[if_pos e1,if_pos e1]
   .rw[if_neg e1,if_neg e1];by_cases e2:t=s
    .rw[if_pos e2];rfl
    .rw[if_neg e2]
  clear hs hAR hAl;rintro-_ h15 μ ⟨j,AR,rfl,rfl,hj,hs,hAR,hAl,hjl⟩;have hrw:Rw h15 1 qo.1 (qo.2.map inC):=hs.rwm (hmem (F:=[])) (by omega);refine sBi (fun c2=>?_) (fun c2=>?_)
  .refine hrw.nbI (by omega) (by omega) fun b16 o17 d gd u2=>?_;rw[hqo2] at gd;obtain⟨k,hk,rfl⟩:=natI_get gd;replace hk:(outG g.es (s:Nat))[j]?=some k:=hk;obtain⟨x0,hx0,hxf⟩:=outG_mem.1 (Yb hk);have hkl:=(Ya.1 hx0).1;have hxe:=eA_get hx0;have step1:∀ {AR':List ArR},ArI g role (fun t=>if t<s then arrS g role t else if t=s then ((outG g.es (s:Nat)).take j).flatMap (arr1 g role)++arr1 g role k else []) AR'->ArI g role (fun t=>if t<s then arrS g role t else if t=s then ((outG g.es (s:Nat)).take (j+1)).flatMap (arr1 g role) else []) AR':=fun {AR'} h9=>by
    rw[take_snoc hk,List.flatMap_append,List.flatMap_singleton];exact h9
   refine⟨(k:Int),u2.hd,g.he,hs.rd 0 rfl (i:=6) rfl,?_⟩;refine (hg.e.rw.ext hs.ext).nbI (by omega) (by omega) fun b20 o21 x gx u3=>?_;replace gx:g.es[k]?=some x:=gx;rw[hx0] at gx;cases gx;refine⟨x0.b,u3.nth 2 rfl,role,hs.rd 0 rfl (i:=8) rfl,sBn (fun c3=>?_) (fun c3=>?_)⟩
   .have e1:arr1 g role k=[]:=by unfold arr1;rw[hxe,if_neg c3]
    refine⟨_,?_,j+1,AR,by rw[w64 (by omega) (by omega)];omega,rfl,by omega,hs,step1 (by rw[e1,Yw];exact hAR),hAl,?_⟩
    .omega
    .rw[take_snoc hk,List.flatMap_append,List.flatMap_singleton,e1,Yw];omega
   .have e1:arr1 g role k=arM g k (earS g k):=by unfold arr1;rw[hxe,if_pos c3]
    refine⟨_,_,_,_,_,_,_,_,hs.at 0 rfl (o:=0) (n:=8) rfl,?_⟩;refine (early162 g k x0 h15 (hg.ext hs.ext) (hx.ext hs.ext) hV hx0).mono ?_;rintro _ h36 ⟨E36,sl,rfl,hso,hel⟩;replace hs:=(hs.join hso).perm (List.perm_append_comm (l₁:=anB ab gb g role ho hfi hli hag how har OU FI LI AG OW AR R) (l₂:=[_]));refine⟨sl,0,rfl,?_⟩;refine⟨fun x h' μ=>∃(l:Nat) (AR:List ArR),x=(l:Int)/\μ=sl.n-l/\l<=sl.n/\St h0 h' (.sl sl 72 2 ((earS g k).map Ms.cs)::anB ab gb g role ho hfi hli hag how har OU FI LI AG OW AR R)/\ArI g role (fun t=>if t<s then arrS g role t else if t=s then ((outG g.es (s:Nat)).take j).flatMap (arr1 g role)++arM g k ((earS g k).take l) else []) AR/\(∀q∈AR,q.2.length<=160000)/\(arM g k ((earS g k).take l)).length<=l,⟨_,0,AR,rfl,rfl,Nat.zero_le _,hs,?_,hAl,Nat.zero_le _⟩,?_⟩
    .have:arM g k ((earS g k).take 0)=[]:=rfl;rw[this,Yw];exact hAR
    clear hs hAR hAl hrw;rintro-_ h41 μ ⟨l,AR,rfl,rfl,hl,hs,hAR,hAl,hml⟩;have hsl:=(hs.len 0 (s:=sl) (e:=72) (n:=2) (rows:=(earS g k).map Ms.cs) rfl (by omega)).1;rw[Yc] at hsl;refine sBi (fun c4=>?_) (fun c4=>?_)
    .refine (hs.rows 0 rfl (by omega)).nbI (by omega) (by omega) fun b42 o43 m gm u4=>?_;replace gm:(earS g k)[l]?=some m:=gm;have hmm:=Yb gm;refine⟨m.p,m.l,u4,?_⟩;refine hs.newput (vs:=m.cs) rfl rfl fun h47 hs=>?_;refine⟨m.p,hs.rd 0 rfl (i:=0) rfl,g.he,hs.rd 2 rfl (i:=6) rfl,?_⟩;refine (hg.e.rw.ext hs.ext).nbI (by omega) (by omega) fun b50 o51 x gx u5=>?_;replace gx:g.es[k]?=some x:=gx;rw[hx0] at gx;cases gx;refine⟨x0.a,u5.nth 1 rfl,sBe (fun c5=>?_) (fun c5=>?_)⟩
     .have e2:arM g k ((earS g k).take (l+1))=arM g k ((earS g k).take l):=by rw[arM_snoc gm,if_neg (by rw[hxe];exact fun h9=>h9 c5),Yw]
      refine⟨_,?_,l+1,AR,by rw[w64 (by omega) (by omega)];omega,rfl,by omega,hs.drop 1,by rw[e2];exact hAR,hAl,by rw[e2];omega⟩;omega
     .have e2:arM g k ((earS g k).take (l+1))=arM g k ((earS g k).take l)++[arv1 g k m]:=by rw[arM_snoc gm,if_pos (by rw[hxe];exact c5)]
      refine⟨_,_,_,_,_,_,_,_,hs.at 2 rfl (o:=0) (n:=8) rfl,m.p,m.l,hs.at 0 rfl (o:=0) (n:=2) rfl,?_⟩;refine (path163 g k x0 m h47 (hg.ext hs.ext) (hx.ext hs.ext) hV hx0 hmm).mono ?_;rintro _ h67 ⟨E67,sp,rfl,hsp,hpl⟩;replace hs:=hs.step E67;have hspn:=(hsp.len 0 (s:=sp) (e:=65) (n:=3) rfl (by omega)).1;rw[Yc] at hspn;have hARl:=hAR.len;obtain⟨q,hq⟩:=get_some (l:=AR) (i:=s) (by omega);have hq2:q.2=((outG g.es (s:Nat)).take j).flatMap (arr1 g role)++arM g k ((earS g k).take l):=by
       have h1:=map_range_get hAR.l (s:=s) (by omega);rw[Yd,hq,if_neg (by omega),if_pos rfl] at h1;exact Yyp h1
      have hql:q.2.length<=400*j+l:=by rw[hq2,Yh];omega
      have hharn:=(hs.len 8 (s:=har) (e:=274) (n:=1) (rows:=(AR.map Prod.fst).map slC) rfl (by omega)).1;rw[Yc,Yc] at hharn;refine⟨sp,0,rfl,har,hs.rd 2 rfl (i:=14) rfl,har,hs.rd 2 rfl (i:=14) rfl,?_⟩;refine (hs.rows 8 rfl (by omega)).nbI (by omega) (by omega) fun b70 o71 d gd u6=>?_;replace gd:(AR.map Prod.fst)[s]?=some d:=gd;rw[Yd,hq] at gd;cases gd;refine⟨q.1,u6.hd,m.p,m.l,hs.at 0 rfl (o:=0) (n:=2) rfl,?_⟩;have hw:IntKind.wrap .i64 (1+(sp.n:Int))=1+((pthS g k m).length:Int):=by rw[w64 (by omega) (by omega),hspn]
      rw[hw];refine hs.newbE fun h75 E75 hs=>⟨E75.sm,?_⟩;have hs:St h0 h75 ((.blk h67.size (arv1 g k m).cs 276 :: .blk h41.size m.cs 72 :: .sl sl 72 2 ((earS g k).map Ms.cs)::([.blk ab (anC g role ho hfi hli hag how har) 186,.sl ho 102 1 ((OU.map Prod.fst).map slC),.sl hfi 195 2 (FI.map Fs.cs),.sl hli 192 4 (LI.map Lm.cs),.sl hag 4 1 (AG.map bC),.sl how 4 1 (OW.map bC),.sl har 274 1 ((AR.map Prod.fst).map slC),.blk gb g.cs 27]++OU.map (nest 3 1 inC)++FI.map fIt))++AR.map (nest 276 4 Arv.cs)++R):=hs;have hqn:=(hs.nestLn hq (by omega)).ln;refine hs.nestAt hq app268 (arv1 g k m) (hs.at 0 rfl (o:=0) (n:=4) rfl) rfl rfl (by omega) (by simp only[maxLen];omega) fun r h77 hr hs3=>⟨?_,?_⟩
      .exact sm_cons (hs.same hs3 3 3 rfl rfl) sm_nil
      .refine hs3.set 9 rfl (by omega) (x:=(s:Int)) (by omega) (by omega) r rfl rfl (fun b78 o79 h80 hs=>?_) rfl;refine⟨_,?_,l+1,AR.set s (r,q.2++[arv1 g k m]),by rw[w64 (by omega) (by omega)];omega,rfl,by omega,?_,⟨?_,fun q' hq' x hx'=>?_⟩,fun q' hq'=>?_,by rw[e2,Yh,Yv];omega⟩
       .omega
       .have hs:=hs.drop 2;unfold anB;rw[List.map_set (f:=Prod.fst)];exact hs
       .rw[List.map_set,hAR.l];refine range_set (by omega) ?_ fun t ht=>?_
        .simp only[Nat.lt_irrefl,if_false,if_true];rw[e2,hq2,Yz]
        .show (if t<s then arrS g role t else if t=s then _ else _)=(if t<s then arrS g role t else if t=s then _ else _);by_cases e3:t<s
         .rw[if_pos e3,if_pos e3]
         .rw[if_neg e3,if_neg e3,if_neg ht,if_neg ht]
       .rcases List.mem_or_eq_of_mem_set hq' with hq' | rfl
        .exact hAR.b q' hq' x hx'
        .rcases Yk.1 hx' with hx' | hx'
         .exact hAR.b q (Yb hq) x hx'
         .rw[Ye] at hx';subst hx';show 0<1+((pthS g k m).length:Int)/\1+((pthS g k m).length:Int)<=1048577;omega
       .rcases List.mem_or_eq_of_mem_set hq' with hq' | rfl
        .exact hAl q' hq'
        .show (q.2++[arv1 g k m]).length<=160000;rw[Yh,Yv];omega
    .rw[Yj (l:=earS g k) (by omega)] at hAR hml;refine⟨_,?_,j+1,AR,by rw[w64 (by omega) (by omega)];omega,rfl,by omega,hs.drop 1,step1 (by rw[e1];exact hAR),hAl,?_⟩
     .omega
     .rw[take_snoc hk,List.flatMap_append,List.flatMap_singleton,Yh,e1];omega
  .rw[Yj (by omega)] at hAR;refine⟨_,?_,s+1,AR,by rw[w64 (by omega) (by omega)];omega,rfl,by omega,hs,⟨?_,hAR.b⟩,hAl⟩
   .omega
   .rw[hAR.l];apply List.map_congr_left;intro t _;by_cases e1:t<s
    .rw[if_pos e1,if_pos (by omega)]
    .rw[if_neg e1];by_cases e2:t=s
     .subst e2;rw[if_pos rfl,if_pos (by omega)];rfl
     .rw[if_neg e2,if_neg (by omega)]
 .refine⟨rfl,AR,hs,⟨?_,hAR.b⟩,hAl⟩;rw[hAR.l];apply List.map_congr_left;intro t ht;rw[List.mem_range] at ht;rw[if_pos (by omega)]
def farI:Int:=1073741824
def dO (O:List (Pr × Nat)) (p:Pr):Int:=(mget O p).elim farI fun k=>(k:Int)
theorem at166 (ob:Nat) (O:List (Pr × Nat)) (p:Pr) (h:Heap) (hm:It.ok h (.mp ob (O.map fun q=>(pV q.1,natV q.2)))) (hk:∀q∈O,kokP q.1) (hn:(O.map Prod.fst).Nodup) (hp:kokP p) :
  Fn Pz 165 #[.map (some ob),.agg ⟨pC p⟩] h fun v h'=>v=.int .i64 (dO O p)/\Ext h h':=by
 apply vc165 (some ob) (p.1:Nat) (p.2:Nat);unfold W165;refine (St.refl h).newb fun h3 hs=>?_;refine⟨_,_,hs.at 0 rfl (o:=0) (n:=2) rfl,?_⟩;refine mlookI (a:=p) M278 (hm.keep fun b hb=>hs.ext.2 b (hm.lt hb)) hk hn hp true ?_;unfold dO;generalize mget O p=o;cases o with
 | none=>exact⟨0,false,rfl,rfl,hs.ext⟩
 | some k=>exact⟨(k:Int),true,rfl,rfl,hs.ext⟩
def okM (D:Pr->Int) (p:Pr) (m:Pmv):Bool:=decide ((plen m:Int)+D (pto m)=D p)
theorem clo169 (ob:Nat) (O:List (Pr × Nat)) (m:Pmv) (p:Pr) (c0 c1:Addr) (h:Heap) (hc0:hc h c0=some (.map (some ob))) (hc1:atC h c1 (pC p)) (hm:It.ok h (.mp ob (O.map fun q=>(pV q.1,natV q.2)))) (hk:∀q∈O,kokP q.1) (hn:(O.map Prod.fst).Nodup) (hp:kokP p) (hq:kokP (pto m)) (e1:((pto m).1:Int)=m.s) (e2:((pto m).2:Int)=m.t) (hb:0<=dO O (pto m)/\dO O (pto m)<=farI) :
  Fn Pz 168 #[.agg ⟨m.cs⟩,.pointer (some c0),.pointer (some c1)] h fun v h'=>v=.bool (okM (dO O) p m)/\Ext h h':=by
 apply vc168 m.x m.y m.s m.t c0 c1;unfold W168;have hpc:pC (pto m)=[.int .i64 m.s,.int .i64 m.t]:=by unfold pC;rw[e1,e2]
 have hpl:=plen_pos m;unfold farI at hb;refine (St.refl h).newb fun h5 hs=>?_;refine⟨_,_,_,_,hs.at 0 rfl (o:=0) (n:=4) rfl,some ob,hc_ext hs.ext hc0,_,_,hs.at 0 rfl (o:=2) (n:=2) rfl,some ob,hc_ext hs.ext hc0,_,_,atC_ext hs.ext hc1,?_⟩;refine (moveLen170 m.x m.y m.s m.t h5).mono ?_;rintro _ h18 ⟨rfl,E1⟩;replace hs:=hs.step E1;refine⟨_,rfl,E1.sm,?_⟩;have h166:=at166 ob O (pto m) h18 (hm.keep fun b hb=>hs.ext.2 b (hm.lt hb)) hk hn hq;rw[hpc] at h166;refine h166.mono ?_;rintro _ h21 ⟨rfl,E2⟩;replace hs:=hs.step E2;refine⟨_,rfl,E2.sm,?_⟩;refine (at166 ob O p h21 (hm.keep fun b hb=>hs.ext.2 b (hm.lt hb)) hk hn hp).mono ?_;rintro _ h24 ⟨rfl,E3⟩;replace hs:=hs.step E3;refine⟨_,rfl,E3.sm,?_,hs.ext⟩;have hw:(if 0<=m.x/\0<=m.y then (2:Int) else 1)=(plen m:Int):=by unfold plen;split<;>rfl
 rw[hw,w64 (by omega) (by omega)];unfold okM;congr 1
theorem cal169:callable Pz 168=true:=by kernel_rfl
theorem index168 (ob:Nat) (O:List (Pr × Nat)) (L:List Pmv) (p:Pr) (c0 c1:Addr) (s:Sl) (h:Heap) (hr:Rw h 4 s (L.map Pmv.cs)) (hl:L.length<=16777216) (hc0:hc h c0=some (.map (some ob))) (hc1:atC h c1 (pC p)) (hm:It.ok h (.mp ob (O.map fun q=>(pV q.1,natV q.2)))) (hk:∀q∈O,kokP q.1) (hn:(O.map Prod.fst).Nodup) (hp:kokP p)
  (hL:∀m∈L,kokP (pto m)/\((pto m).1:Int)=m.s/\((pto m).2:Int)=m.t/\0<=dO O (pto m)/\dO O (pto m)<=farI) :
  Fn Pz 167 #[.slice s.a s.n s.c,.func (.func 168) #[] #[.pointer (some c0),.pointer (some c1)]] h fun v h'=>v=.int .i64 (ixI (okM (dO O) p) L)/\Ext h h':=by
 apply vc167;unfold W167;have hn9:=hr.1;rw[Yc] at hn9;refine⟨fun x h' μ=>∃i:Nat,x=i/\μ=s.n-i/\i<=s.n/\Ext h h'/\∀(j:Nat) (y:Pmv),j<i->L[j]?=some y->okM (dO O) p y=false,⟨_,0,rfl,rfl,Nat.zero_le _,.rfl',fun j y hj=>by omega⟩,?_⟩;rintro-_ h5 μ ⟨i,rfl,rfl,hi,E,hd⟩;refine sBi (fun c=>?_) (fun c=>?_)
 .refine (hr.ext E).nbI (by omega) (by omega) fun b6 o7 q g t=>?_;replace g:L[i]?=some q:=g;obtain⟨q1,q2,q3,q4⟩:=hL q (Yb g);refine⟨q.x,q.y,q.s,q.t,t,?_⟩;show cond (callable Pz 168) _ _;rw[cal169,cond_true];refine (clo169 ob O q p c0 c1 h5 (hc_ext E hc0) (atC_ext E hc1) (hm.keep fun b hb=>E.2 b (hm.lt hb)) hk hn hp q1 q2 q3 q4).mono ?_;rintro _ h16 ⟨rfl,E2⟩;refine⟨_,rfl,sB_intro (fun c1=>⟨?_,E.trans E2⟩) (fun c1=>⟨_,by omega,i+1,by rw[w64 (by omega) (by omega)];omega,rfl,by omega,E.trans E2,fun j y hj hy=>?_⟩)⟩
  .unfold ixI;rw[ix_hit hd g c1]
  .by_cases e1:j=i
   .subst e1;rw[g] at hy;cases hy;exact c1
   .exact hd j y (by omega) hy
 .refine⟨?_,E⟩;unfold ixI;rw[ix_no fun j y hj=>hd j y (by have:=(Ya.1 hj).1;omega) hj]
structure Evn where
 r:Int
 s:Bool
 p:Int
 l:Int
 deriving DecidableEq
def Evn.cs (x:Evn):List Value:=[.int .i64 x.r,.bool x.s,.int .i64 x.p,.int .i64 x.l,.slice none 0 0]
def evn0:Evn:=⟨0,false,0,0⟩
structure Wt where
 k:Int
 r:Int
 f:Sl
 s:Sl
 e:Evn
 o:Evn
def Wt.cs (w:Wt):List Value:=[.int .i64 w.k,.int .i64 w.r,.slice w.f.a w.f.n w.f.c,.slice w.s.a w.s.n w.s.c,.int .i64 w.e.r,.bool w.e.s,.int .i64 w.e.p,.int .i64 w.e.l,.slice none 0 0,.int .i64 w.o.r,.bool w.o.s,.int .i64 w.o.p,.int .i64 w.o.l,.slice none 0 0]
def wt0:Wt:=⟨0,0,nilS,nilS,evn0,evn0⟩
def fullE (role:Int) (x:Ev):Evn:=⟨role,x.send,x.peer,x.label⟩
theorem full172 (b:Nat) (role:Int) (x:Ev) (h:Heap) (hro:hc h ⟨b,8,none⟩=some (.int .i64 role)):Fn Pz 171 #[.pointer (some ⟨b,0,none⟩),.agg ⟨x.cs⟩] h fun v h'=>Ext h h'/\v=.agg ⟨(fullE role x).cs⟩:=by
 apply vc171 ⟨b,0,none⟩ x.send x.peer x.label;unfold W171;refine (St.refl h).newb fun h4 hs=>?_;refine hs.newb fun h5 hs=>?_;refine⟨role,hc_ext hs.ext hro,x.send,hs.rd 1 rfl (i:=0) rfl,x.peer,hs.rd 1 rfl (i:=1) rfl,x.label,hs.rd 1 rfl (i:=2) rfl,?_⟩;refine hs.put 0 rfl (o:=0) (vs:=(fullE role x).cs) rfl (Yyt 5) fun h10 hs=>?_;exact⟨_,_,_,_,nilS,hs.at 0 rfl (o:=0) (n:=5) rfl,hs.ext,rfl⟩
inductive GTo (mv:Pr->List Pmv) (cst:Pr->Option Int) (D:Pr->Int) (p0:Pr):List Pmv->Pr->Prop
 | nil:GTo mv cst D p0 [] p0
 | snoc {ms:List Pmv} {p:Pr} {m:Pmv} {k:Nat}:GTo mv cst D p0 ms p->cst p≠some (D p)->(mv p).findIdx? (okM D p)=some k->(mv p)[k]?=some m->GTo mv cst D p0 (ms++[m]) (pto m)
def facts (g:Gl) (ms:List Pmv):List Ac:=ms.flatMap fun m=>if 0<=m.x then [(eA g.es m.x.toNat).act] else []
def sacts (g:Gl) (ms:List Pmv):List Ac:=ms.flatMap fun m=>if 0<=m.y then [(eA g.es m.y.toNat).act] else []
theorem facts_snoc (g:Gl) (ms:List Pmv) (m:Pmv):facts g (ms++[m])=facts g ms++if 0<=m.x then [(eA g.es m.x.toNat).act] else []:=by
 unfold facts;rw[List.flatMap_append,List.flatMap_singleton]
theorem sacts_snoc (g:Gl) (ms:List Pmv) (m:Pmv):sacts g (ms++[m])=sacts g ms++if 0<=m.y then [(eA g.es m.y.toNat).act] else []:=by
 unfold sacts;rw[List.flatMap_append,List.flatMap_singleton]
theorem facts_len (g:Gl) (ms:List Pmv):(facts g ms).length<=ms.length:=by
 induction ms with
 | nil=>exact Nat.zero_le _
 | cons a l ih=>
  unfold facts at *;rw[List.flatMap_cons,Yh,Yyj];split<;>simp only[Yv,List.length_nil]<;>omega
theorem sacts_len (g:Gl) (ms:List Pmv):(sacts g ms).length<=ms.length:=by
 induction ms with
 | nil=>exact Nat.zero_le _
 | cons a l ih=>
  unfold sacts at *;rw[List.flatMap_cons,Yh,Yyj];split<;>simp only[Yv,List.length_nil]<;>omega
theorem movL_ed {g:Gl} {role:Int} {s t:Nat} {m:Pmv} (hm:m∈movL g.es role s t):(0<=m.x->m.x.toNat<g.es.length)/\(0<=m.y->m.y.toNat<g.es.length):=by
 have hE:∀ {k:Nat} {s:Int},k∈outG g.es s->k<g.es.length:=fun {k s} hk=>by
  obtain⟨x,hx,_⟩:=outG_mem.1 hk;exact (Ya.1 hx).1
 unfold movL at hm;rcases Yk.1 hm with hm | hm
 .rcases Yk.1 hm with hm | hm
  .obtain⟨k,hk,rfl⟩:=Yp.1 hm;have:=hE (List.mem_filter.1 hk).1;exact⟨fun _=>this,fun h9=>absurd h9 (by show ¬(0:Int) <= -1;decide)⟩
  .obtain⟨k,hk,rfl⟩:=Yp.1 hm;have:=hE (List.mem_filter.1 hk).1;exact⟨fun h9=>absurd h9 (by show ¬(0:Int) <= -1;decide),fun _=>this⟩
 .unfold mbL at hm;obtain⟨i,hi,hm⟩:=List.mem_flatMap.1 hm;unfold mb1 at hm;split at hm
  .cases hm
  .obtain⟨k,hk,rfl⟩:=Yp.1 hm;exact⟨fun _=>hE hi,fun _=>hE (List.mem_filter.1 hk).1⟩
theorem St.appgB {h0 h h2:Heap} {L:List It} (hs:St h0 h L) (kb ks:Nat) {cb:Nat} {xs:List Value} {e0 t e:TypeId} {n bytes:Nat} {α:Type} {cs:α->List Value} {so:Sl} {X:List α} {x:α} (hkb:L[kb]?=some (.blk cb xs e0)) (hks:L[ks]?=some (.sl so e n (X.map cs)))
  (hT:appB Pz t e n bytes=true) (e2:h2=h.push (.cells ⟨cs x⟩ e)) (hc:(cs x).length=n) (ho:(cs x).all oneB=true) (hn:X.length<=16777216) (hnb:0<n/\bytes<=128) (f:Nat) (hf:f<xs.length) (hne:ks≠kb) {K:Heap->Prop}
  (hK:∀(s':Sl) (h':Heap),St h0 h' ((L.set ks (.sl s' e n ((X++[x]).map cs))).set kb (.blk cb (splice xs f [.slice s'.a s'.n s'.c]) e0))->K h') :
  App Pz t t (.slice so.a so.n so.c) (.slice (some ⟨h.size,0,none⟩) 1 1) h2 fun s55 h56=>okAt h56 ⟨cb,f,none⟩ 1/\∀h57:Heap,h57=hputs h56 ⟨cb,f,none⟩ 0 [.slice s55.a s55.n s55.c]->K h57:=by
 have hs2:St h0 h2 (.blk h.size (cs x) e::L):=hs.newb (K:=fun h2=>St h0 h2 (.blk h.size (cs x) e::L)) (fun _ h=>h) h2 e2;have hl:=(hs.len ks (s:=so) hks hnb.1).1;rw[Yc] at hl;have hb1:(so.n+1)*bytes<=16777217*128:=Nat.mul_le_mul (by omega) hnb.2;refine hs2.appended (ks+1) (s:=so) hks hT (x:=⟨h.size,0,none⟩) (m:=1) (c:=1) (news:=[cs x]) (hs2.at 0 rfl (o:=0) (n:=n) (by rw[List.drop_zero,<-hc,Yye];simp)) rfl (by intro r hr;rw[Ye.1 hr];exact hc) (by simpa using ho) (by omega) (by simp only[maxLen];omega) fun s55 h56 n55 hs3=>?_;have hs3:St h0 h56 (L.set ks (.sl s55 e n (X.map cs++[cs x]))):=hs3.drop 1;refine hs3.put kb (by rw[Yy hne];exact hkb) (o:=f) (vs:=[.slice s55.a s55.n s55.c]) rfl (by show f+1<=xs.length;omega) fun h57 hs4=>hK s55 h57 ?_;rw[Ym];exact hs4
def bpL (wb pb lb ob:Nat) (kind role:Int) (wf ws:Sl) (p:Pr) (F S:List Ac):List It:=
 [.blk wb (Wt.cs ⟨kind,role,wf,ws,evn0,evn0⟩) 35,.blk pb (pC p) 97,.blk lb [.map (some ob)] 293,.sl wf 65 3 (F.map Ac.cs),.sl ws 65 3 (S.map Ac.cs)]
def fa1 (g:Gl) (x:Int):List Ac:=if 0<=x then [(eA g.es x.toNat).act] else []
theorem step121 {hb h50 h4 h6 h16:Heap} {b ob mb:Nat} {kind role:Int} {wf ws all:Sl} {p:Pr} {F S:List Ac} {g:Gl} {X:An} {A:List Pr} {l:List (Pr × Sl)} {O:List (Pr × Nat)} {k:Nat} {m:Pmv} {m37:Nat} {I35:Heap->Nat->Prop}
  (hs:St hb h50 (bpL h16.size h6.size h4.size ob kind role wf ws p F S)) (hA:AnF hb b g role X) (hV:ValidS g) (hM:PrM hb g role all mb A l) (hmp:It.ok hb (.mp ob (O.map fun q=>(pV q.1,natV q.2)))) (hk:∀q∈O,kokP q.1) (hn:(O.map Prod.fst).Nodup) (hp:p∈A)
  (hix:(mvP g role p).findIdx? (okM (dO O) p)=some k) (gm:(mvP g role p)[k]?=some m) (hF:F.length<=8388608) (hS:S.length<=8388608) (hbd:∀q∈A,0<=dO O q/\dO O q<=farI)
  (hI:∀(h':Heap) (wf' ws':Sl),St hb h' (bpL h16.size h6.size h4.size ob kind role wf' ws' (pto m) (F++fa1 g m.x) (S++fa1 g m.y))->∃m9,m9<m37/\I35 h' m9):V96a h50 h6 (some mb) h4 h16 ⟨b,0,none⟩ m37 I35:=by
 unfold V96a;have hN:=hV.num.n;have hE:=hV.num.m;have hg:=hA.gg.gi;have hen:=hg.e.ln;have hpA:∀p∈A,(p.1:Int)<g.n/\(p.2:Int)<g.n:=fun p hp=>((hM.pr p).1 hp).lt hV;have hkA:∀p∈A,kokP p:=fun p hp=>by have:=hpA p hp;exact⟨by omega,by omega⟩
 have hcl:∀m∈mvP g role p,pto m∈A:=fun m hm=>(hM.pr _).2 (.step ((hM.pr p).1 hp) hm);have hmm:=Yb gm;have hml:=(Ya.1 gm).1;have hlen:(mvP g role p).length<=160800:=movL_len (by omega);have hpt:=pto_lt hV (hpA p hp) hmm;obtain⟨edx,edy⟩:=movL_ed hmm;obtain⟨r,hr1,hr2⟩:=hM.mv p hp;have hrn:r.n=(mvP g role p).length:=hr2.ln;refine⟨_,_,hs.at 1 rfl (o:=0) (n:=2) rfl,?_⟩;refine mlookI (a:=p) (cv:=slV) M202 (hM.mp.keep fun b hb=>hs.ext.2 b (hM.mp.lt hb)) hM.lk hM.ln (hkA p hp) false ?_;rw[hr1];refine⟨r,rfl,?_⟩;refine (index168 ob O (mvP g role p) p ⟨h4.size,0,none⟩ ⟨h6.size,0,none⟩ r h50 (hr2.ext hs.ext).rw (by omega) (hs.rd 2 rfl (i:=0) rfl) (hs.at 1 rfl (o:=0) (n:=2) rfl) (hmp.keep fun b hb=>hs.ext.2 b (hmp.lt hb)) hk hn (hkA p hp) fun m hm=>?_).mono ?_
 .have h1:=pto_lt hV (hpA p hp) hm;have h2:=hbd _ (hcl m hm);exact⟨hkA _ (hcl m hm),h1.2.2.1,h1.2.2.2,h2.1,h2.2⟩
 rintro _ h231 ⟨rfl,E⟩;replace hs:=hs.step E;refine⟨_,rfl,?_⟩;have hk9:ixI (okM (dO O) p) (mvP g role p)=(k:Int):=by unfold ixI;rw[hix]
 rw[hk9];refine (hr2.ext hs.ext).rw.nbI (by omega) (by omega) fun b232 o233 m' gm' t=>?_;replace gm':(mvP g role p)[k]?=some m':=gm';rw[gm] at gm';cases gm';refine⟨m.x,m.y,m.s,m.t,t,?_⟩;refine hs.newput (vs:=m.cs) rfl rfl fun h239 hs=>?_;refine⟨fun h'=>∃wf',St hb h' (.blk h231.size m.cs 200::bpL h16.size h6.size h4.size ob kind role wf' ws p (F++fa1 g m.x) S),?_,?_⟩
 .refine⟨m.x,hs.rd 0 rfl (i:=0) rfl,sBi (fun c=>?_) (fun c=>?_)⟩
  .have hxl:=edx c;refine⟨wf,hs.rd 1 rfl (i:=2) rfl,g.he,hc_ext hs.ext (hA.gg.at_.nth 6 rfl),m.x,hs.rd 0 rfl (i:=0) rfl,?_⟩;refine (hg.e.rw.ext hs.ext).nbI (by omega) (by omega) fun b245 o246 x gx u=>?_;replace gx:g.es[m.x.toNat]?=some x:=gx;have hfe:fa1 g m.x=[x.act]:=by unfold fa1;rw[if_pos c,eA_get gx]
   refine⟨x.a,x.b,x.l,u.sub 1 3 rfl,fun h250 e2=>⟨?_,?_⟩⟩
   .exact (show Ext h239 h250 by rw[e2];exact Ext.push _ _).sm
   .refine hs.appgB 1 4 rfl rfl app48 (x:=x.act) e2 rfl rfl (by omega) (by decide) 2 (by show 2<14;decide) (by decide) fun s' h' hs=>?_;refine⟨s',?_⟩;rw[hfe];exact hs
  .have hfe:fa1 g m.x=[]:=by unfold fa1;rw[if_neg c]
   refine⟨wf,?_⟩;rw[hfe,Yw];exact hs
 .clear hs t;rintro-h254 ⟨wf',hs⟩;have hpc:pC (pto m)=[.int .i64 m.s,.int .i64 m.t]:=by unfold pC;rw[hpt.2.2.1,hpt.2.2.2]
  refine⟨m.y,hs.rd 0 rfl (i:=1) rfl,sBi (fun c=>?_) (fun c=>?_)⟩
  .have hyl:=edy c;refine⟨ws,hs.rd 1 rfl (i:=3) rfl,g.he,hc_ext hs.ext (hA.gg.at_.nth 6 rfl),m.y,hs.rd 0 rfl (i:=1) rfl,?_⟩;refine (hg.e.rw.ext hs.ext).nbI (by omega) (by omega) fun b245 o246 x gx u=>?_;replace gx:g.es[m.y.toNat]?=some x:=gx;have hfe:fa1 g m.y=[x.act]:=by unfold fa1;rw[if_pos c,eA_get gx]
   refine⟨x.a,x.b,x.l,u.sub 1 3 rfl,fun h250 e2=>⟨?_,?_⟩⟩
   .exact (show Ext h254 h250 by rw[e2];exact Ext.push _ _).sm
   .refine hs.appgB 1 5 rfl rfl app48 (x:=x.act) e2 rfl rfl (by omega) (by decide) 3 (by show 3<14;decide) (by decide) fun s' h' hs=>?_;refine⟨m.s,m.t,hs.at 0 rfl (o:=2) (n:=2) rfl,?_⟩;refine hs.put 2 rfl (o:=0) (vs:=[.int .i64 m.s,.int .i64 m.t]) rfl (Yyt 2) fun h' hs=>hI h' wf' s' ?_;have hs:=hs.drop 1;unfold bpL;rw[hfe,hpc];exact hs
  .have hfe:fa1 g m.y=[]:=by unfold fa1;rw[if_neg c]
   refine⟨m.s,m.t,hs.at 0 rfl (o:=2) (n:=2) rfl,?_⟩;refine hs.put 2 rfl (o:=0) (vs:=[.int .i64 m.s,.int .i64 m.t]) rfl (Yyt 2) fun h' hs=>hI h' wf' ws ?_;have hs:=hs.drop 1;unfold bpL;rw[hfe,Yw,hpc];exact hs
theorem step121b {h44 h6 h4 h16:Heap} {mp:Option Nat} {p0:Addr} {m37:Nat} {I35:Heap->Nat->Prop} (h:V96a h44 h6 mp h4 h16 p0 m37 I35):V96b h44 h6 mp h4 h16 p0 m37 I35:=h
theorem rdW {h:Heap} {b:Nat} {w:Wt} (ha:atC h ⟨b,0,none⟩ w.cs) {Q:List Value->Prop} (hq:Q w.cs) :
  ∃x72:Int,∃x73:Int,∃x74:Sl,∃x75:Sl,∃x76:Int,∃x77:Bool,∃x78:Int,∃x79:Int,∃x80:Sl,∃x81:Int,∃x82:Bool,∃x83:Int,∃x84:Int,∃x85:Sl,atC h ⟨b,0,none⟩ [.int .i64 x72,.int .i64 x73,.slice x74.a x74.n x74.c,.slice x75.a x75.n x75.c,.int .i64 x76,.bool x77,.int .i64 x78,.int .i64 x79,.slice x80.a x80.n x80.c,.int .i64 x81,.bool x82,.int .i64 x83,.int .i64 x84,.slice x85.a x85.n x85.c] /\
   Q [.int .i64 x72,.int .i64 x73,.slice x74.a x74.n x74.c,.slice x75.a x75.n x75.c,.int .i64 x76,.bool x77,.int .i64 x78,.int .i64 x79,.slice x80.a x80.n x80.c,.int .i64 x81,.bool x82,.int .i64 x83,.int .i64 x84,.slice x85.a x85.n x85.c]:=
 ⟨w.k,w.r,w.f,w.s,w.e.r,w.e.s,w.e.p,w.e.l,nilS,w.o.r,w.o.s,w.o.p,w.o.l,nilS,ha,hq⟩
theorem cpW {h0 h:Heap} {L:List It} (hs:St h0 h L) (i j:Nat) {wb rb:Nat} {w w0:Wt} {e1 e2:TypeId} (hi:L[i]?=some (.blk wb w.cs e1)) (hj:L[j]?=some (.blk rb w0.cs e2)) {K:Heap->Prop} (hK:∀h',St h0 h' (L.set j (.blk rb w.cs e2))->K h') :
  ∃x72:Int,∃x73:Int,∃x74:Sl,∃x75:Sl,∃x76:Int,∃x77:Bool,∃x78:Int,∃x79:Int,∃x80:Sl,∃x81:Int,∃x82:Bool,∃x83:Int,∃x84:Int,∃x85:Sl,atC h ⟨wb,0,none⟩ [.int .i64 x72,.int .i64 x73,.slice x74.a x74.n x74.c,.slice x75.a x75.n x75.c,.int .i64 x76,.bool x77,.int .i64 x78,.int .i64 x79,.slice x80.a x80.n x80.c,.int .i64 x81,.bool x82,.int .i64 x83,.int .i64 x84,.slice x85.a x85.n x85.c] /\
   (okAt h ⟨rb,0,none⟩ 14/\∀h86:Heap,h86=hputs h ⟨rb,0,none⟩ 0 [.int .i64 x72,.int .i64 x73,.slice x74.a x74.n x74.c,.slice x75.a x75.n x75.c,.int .i64 x76,.bool x77,.int .i64 x78,.int .i64 x79,.slice x80.a x80.n x80.c,.int .i64 x81,.bool x82,.int .i64 x83,.int .i64 x84,.slice x85.a x85.n x85.c]->K h86):=by
 refine⟨w.k,w.r,w.f,w.s,w.e.r,w.e.s,w.e.p,w.e.l,nilS,w.o.r,w.o.s,w.o.p,w.o.l,nilS,hs.at i hi (o:=0) (n:=14) rfl,?_⟩;refine hs.put j hj (o:=0) (vs:=w.cs) rfl (Yyt 14) fun h' hs=>hK h' ?_;exact hs
theorem arvF_mem {K:List Ev}:∀ {L:List Arv} {x:Arv},arvF K L=some x->x∈L/\x.m.ev∈K:=by
 intro L x;unfold arvF
 suffices h:∀(l:List Arv) (b:Option Arv),(∀y,b=some y->y∈L/\y.m.ev∈K)->(∀y∈l,y∈L)->l.foldl (arvS K) b=some x->x∈L/\x.m.ev∈K from h L none (fun y hy=>by cases hy) (fun y hy=>hy)
 intro l
 induction l with
 | nil=>intro b hb _ hx;exact hb x hx
 | cons a l ih=>
  intro b hb hl hx;refine ih (arvS K b a) (fun y hy=>?_) (fun y hy=>hl y (Yn _ hy)) hx;unfold arvS at hy;by_cases hin:a.m.ev∈K
  .rw[if_pos hin] at hy;cases b with
   | none=>cases hy;exact⟨hl _ Yx,hin⟩
   | some z=>
    simp only at hy;split at hy
    .cases hy;exact⟨hl _ Yx,hin⟩
    .exact hb y hy
  .rw[if_neg hin] at hy;exact hb y hy
def ArOk (g:Gl) (X:An):Prop:=∀q∈X.ar,∀y∈q.2,∃(i:Nat) (m:Ms),y=arv1 g i m/\i<g.es.length/\m∈earS g i
def exW (g:Gl) (role kind:Int) (X:An) (F:List Ac) (p:Pr):List Ac × Evn × Evn:=
 if kind=1 then (F,(match X.fi[p.1]?,X.fi[p.2]? with | some fs,some ft=>fullE role ((fs.l.find? (difP ft.l)).getD ⟨false,0,0⟩) | _,_=>evn0),evn0)
 else if kind=4 then (match X.fi[p.2]?,X.ar[p.1]? with | some ft,some q=>(F++[(eA g.es ((arvF ft.l q.2).getD arv0).e.toNat).act]++pthS g ((arvF ft.l q.2).getD arv0).e.toNat ((arvF ft.l q.2).getD arv0).m,fullE role ((arvF ft.l q.2).getD arv0).m.ev,fullE role ⟨false,(eA g.es ((arvF ft.l q.2).getD arv0).e.toNat).a,(eA g.es ((arvF ft.l q.2).getD arv0).e.toNat).l⟩) | _,_=>(F,evn0,evn0))
 else (F,evn0,evn0)
theorem acrows (l:List Ac):∀r∈l.map Ac.cs,r.length=3:=fun r hr=>by obtain⟨x,_,rfl⟩:=Yp.1 hr;rfl
theorem exit121 {h0 h50 h6 h16 h:Heap} {b ob lb:Nat} {kind role:Int} {wf ws:Sl} {p:Pr} {F S:List Ac} {g:Gl} {X:An} {x15:Int} {R:Value->Heap->Prop}
  (hs:St h0 h50 (bpL h16.size h6.size lb ob kind role wf ws p F S++[.blk h.size wt0.cs 35])) (hA:AnF h0 b g role X) (hx:Gm h0) (hV:ValidS g) (hp:(p.1:Int)<g.n/\(p.2:Int)<g.n) (hq0:∀q∈X.ar,∀x∈q.2,0<x.n) (hAr:ArOk g X) (hco:kind=4->(cstS X kind p).isSome=true) (hF:F.length<=8388608)
  (hK:∀(h':Heap) (w:Wt) (L:List It),w.k=kind->w.r=role->w.e=(exW g role kind X F p).2.1->w.o=(exW g role kind X F p).2.2->St h0 h' (.sl w.f 65 3 ((exW g role kind X F p).1.map Ac.cs) :: .sl w.s 65 3 (S.map Ac.cs)::L)->R (.tuple ⟨[.agg ⟨w.cs⟩,.int .i64 x15]⟩) h') :
  V96c kind h50 h6 ⟨b,0,none⟩ h16 h R x15:=by
 unfold V96c;obtain⟨fs,gs⟩:=get_some (l:=X.fi) (i:=p.1) (by rw[hA.nf];omega);obtain⟨ft,gt⟩:=get_some (l:=X.fi) (i:=p.2) (by rw[hA.nf];omega);obtain⟨q,gq⟩:=get_some (l:=X.ar) (i:=p.1) (by rw[hA.nr];omega);have hN:=hV.num.n;have hM:=hV.num.m;have hg:=hA.gg.gi;have hen:=hg.e.ln;have hro:hc h0 ⟨b,8,none⟩=some (Value.int .i64 role):=hA.r.ro;refine sBe (fun c=>?_) (fun c=>sBe (fun c2=>?_) (fun c2=>?_))
 .refine⟨(p.1:Nat),(p.2:Nat),hs.at 1 rfl (o:=0) (n:=2) rfl,?_⟩;refine (differR171 ⟨b,0,none⟩ role X.hfi X.hli X.hag X.how X.fi X.li X.ag X.ow p.1 p.2 fs ft h50 (hA.ext hs.ext).r gs gt).mono ?_;rintro v58 h58 ⟨E,hv⟩;replace hs:=hs.step E;have hex:exW g role kind X F p=(F,fullE role ((fs.l.find? (difP ft.l)).getD ⟨false,0,0⟩),evn0):=by unfold exW;rw[if_pos c,gs,gt]
  rw[hex] at hK;have hv2:v58=Value.tuple ⟨[Value.agg ⟨((fs.l.find? (difP ft.l)).getD ⟨false,0,0⟩).cs⟩,Value.bool (fs.l.find? (difP ft.l)).isSome]⟩:=by rw[hv];cases fs.l.find? (difP ft.l)<;>rfl
  clear hv;subst hv2;generalize (fs.l.find? (difP ft.l)).getD ⟨false,0,0⟩=x at *;refine⟨x.send,x.peer,x.label,_,rfl,?_⟩;refine hs.newput (vs:=x.cs) rfl rfl fun h60 hs=>?_;refine⟨x.send,x.peer,x.label,hs.at 0 rfl (o:=0) (n:=3) rfl,?_⟩;refine (full172 b role x h60 (hc_ext hs.ext hro)).mono ?_;rintro _ h70 ⟨E3,rfl⟩;replace hs:=hs.step E3;refine⟨role,x.send,x.peer,x.label,nilS,rfl,?_⟩;refine hs.put 1 rfl (o:=4) (vs:=(fullE role x).cs) rfl (by show 4+5<=14;decide) fun h71 hs=>?_;refine cpW hs 1 6 (w:=⟨kind,role,wf,ws,fullE role x,evn0⟩) (w0:=wt0) rfl rfl fun h86 hs=>?_;refine rdW (w:=⟨kind,role,wf,ws,fullE role x,evn0⟩) (Q:=fun cs=>R (.tuple ⟨[.agg ⟨cs⟩,.int .i64 x15]⟩) h86) (hs.at 6 rfl (o:=0) (n:=14) rfl) ?_;exact hK h86 ⟨kind,role,wf,ws,fullE role x,evn0⟩ _ rfl rfl rfl rfl (hs.drop 4)
 .refine⟨(p.1:Nat),(p.2:Nat),hs.at 1 rfl (o:=0) (n:=2) rfl,?_⟩;refine (arrives173 b g role X p.1 p.2 ft q h50 (hA.ext hs.ext) gt gq (hq0 q (Yb gq))).mono ?_;rintro _ h109 ⟨E,rfl⟩;replace hs:=hs.step E;obtain⟨y,hy⟩:∃y,arvF ft.l q.2=some y:=by
   have h9:=hco c2;unfold cstS at h9;rw[if_neg c,if_neg (by omega),gt,gq] at h9;simp only[Option.isSome_map] at h9;exact Option.isSome_iff_exists.1 h9
  obtain⟨i,m,rfl,hil,him⟩:=hAr q (Yb gq) y (arvF_mem hy).1;obtain⟨x0,hx0⟩:=get_some hil;have hxe:=eA_get hx0;have hex:exW g role kind X F p=(F++[x0.act]++pthS g i m,fullE role m.ev,fullE role ⟨false,x0.a,x0.l⟩):=by
   have h8:exW g role kind X F p=(F++[(eA g.es ((arvF ft.l q.2).getD arv0).e.toNat).act]++pthS g ((arvF ft.l q.2).getD arv0).e.toNat ((arvF ft.l q.2).getD arv0).m,fullE role ((arvF ft.l q.2).getD arv0).m.ev,fullE role ⟨false,(eA g.es ((arvF ft.l q.2).getD arv0).e.toNat).a,(eA g.es ((arvF ft.l q.2).getD arv0).e.toNat).l⟩):=by
    unfold exW;rw[if_neg c,if_pos c2,gt,gq]
   rw[h8,hy];show (F++[(eA g.es i).act]++pthS g i m,fullE role m.ev,fullE role ⟨false,(eA g.es i).a,(eA g.es i).l⟩)=_;rw[hxe]
  rw[hex] at hK;rw[hy];refine⟨(i:Int),(arv1 g i m).n,m.p,m.l,_,rfl,?_⟩;refine hs.newput (vs:=(arv1 g i m).cs) rfl rfl fun h111 hs=>?_;refine⟨bs g.nm,g.hr,g.hd,g.n,g.s,g.e,g.he,g.ht,(atC_ext hs.ext hA.gg.at_).sub0 8 rfl,?_⟩;refine⟨(i:Int),hs.rd 0 rfl (i:=0) rfl,m.p,m.l,hs.at 0 rfl (o:=2) (n:=2) rfl,?_⟩;refine (path163 g i x0 m h111 (hg.ext hs.ext) (hx.ext hs.ext) hV hx0 him).mono ?_;rintro _ h126 ⟨E3,sp,rfl,hsp,hpl⟩;replace hs:=hs.join hsp;have hspn:=hs.len 7 (s:=sp) (e:=65) (n:=3) rfl (by omega);rw[Yc] at hspn;refine⟨sp,0,rfl,g.he,hc_ext hs.ext (hA.gg.at_.nth 6 rfl),(i:Int),hs.rd 0 rfl (i:=0) rfl,?_⟩;refine (hg.e.rw.ext hs.ext).nbI (by omega) (by omega) fun b20 o21 x gx u3=>?_;replace gx:g.es[i]?=some x:=gx;rw[hx0] at gx;cases gx;refine⟨x0.a,x0.b,x0.l,u3.sub 1 3 rfl,?_⟩;refine hs.newbE fun h134 E4 hs=>⟨E4.sm,?_⟩;refine hs.put 0 rfl (o:=0) (vs:=x0.act.cs) rfl (Yyt 3) fun h135 hs=>?_;refine⟨wf,hs.rd 2 rfl (i:=2) rfl,x0.a,x0.b,x0.l,hs.at 0 rfl (o:=0) (n:=3) rfl,?_⟩;have hwfn:=(hs.len 5 (s:=wf) (e:=65) (n:=3) rfl (by omega)).1;rw[Yc] at hwfn;refine hs.app 5 rfl app48 (m:=1) [x0.act.cs] rfl rfl (fun r hr=>by rw[Ye] at hr;rw[hr];rfl) rfl (by omega) (by simp only[maxLen];omega) fun s141 h142 n141 hs=>?_;refine hs.appRw 5 rfl app48 (hs.rows 8 rfl (by omega)) (acrows _) hspn.2.2 (one_of (fun _=>rfl) _) (by omega) (by simp only[maxLen];omega) fun s143 h144 n143 hs=>?_;refine hs.put 2 rfl (o:=2) (vs:=[.slice s143.a s143.n s143.c]) rfl (by show 2+1<=14;decide) fun h145 hs=>?_;refine⟨m.p,hs.rd 1 rfl (i:=2) rfl,m.l,hs.rd 1 rfl (i:=3) rfl,?_⟩;refine (full172 b role m.ev h145 (hc_ext hs.ext hro)).mono ?_;rintro _ h154 ⟨E5,rfl⟩;replace hs:=hs.step E5;refine⟨role,false,m.p,m.l,nilS,rfl,?_⟩;refine hs.put 2 rfl (o:=4) (vs:=(fullE role m.ev).cs) rfl (by show 4+5<=14;decide) fun h155 hs=>?_;refine⟨x0.a,hs.rd 0 rfl (i:=0) rfl,x0.l,hs.rd 0 rfl (i:=2) rfl,?_⟩;refine (full172 b role ⟨false,x0.a,x0.l⟩ h155 (hc_ext hs.ext hro)).mono ?_;rintro _ h164 ⟨E6,rfl⟩;replace hs:=hs.step E6;refine⟨role,false,x0.a,x0.l,nilS,rfl,?_⟩;refine hs.put 2 rfl (o:=9) (vs:=(fullE role ⟨false,x0.a,x0.l⟩).cs) rfl (by show 9+5<=14;decide) fun h165 hs=>?_;refine cpW hs 2 7 (w:=⟨kind,role,s143,ws,fullE role m.ev,fullE role ⟨false,x0.a,x0.l⟩⟩) (w0:=wt0) rfl rfl fun h86 hs=>?_;refine rdW (w:=⟨kind,role,s143,ws,fullE role m.ev,fullE role ⟨false,x0.a,x0.l⟩⟩) (Q:=fun cs=>R (.tuple ⟨[.agg ⟨cs⟩,.int .i64 x15]⟩) h86) (hs.at 7 rfl (o:=0) (n:=14) rfl) ?_;refine hK h86 ⟨kind,role,s143,ws,fullE role m.ev,fullE role ⟨false,x0.a,x0.l⟩⟩ [.blk h.size (Wt.cs ⟨kind,role,s143,ws,fullE role m.ev,fullE role ⟨false,x0.a,x0.l⟩⟩) 35,.sl sp 65 3 ((pthS g i m).map Ac.cs)] rfl rfl rfl rfl ?_;have hs:=hs.drop 5;simp only[Ym];exact hs
 .refine cpW hs 0 5 (w:=⟨kind,role,wf,ws,evn0,evn0⟩) (w0:=wt0) rfl rfl fun h86 hs=>?_;refine rdW (w:=⟨kind,role,wf,ws,evn0,evn0⟩) (Q:=fun cs=>R (.tuple ⟨[.agg ⟨cs⟩,.int .i64 x15]⟩) h86) (hs.at 5 rfl (o:=0) (n:=14) rfl) ?_;have hex:exW g role kind X F p=(F,evn0,evn0):=by unfold exW;rw[if_neg c,if_neg c2]
  rw[hex] at hK;exact hK h86 ⟨kind,role,wf,ws,evn0,evn0⟩ _ rfl rfl rfl rfl (hs.drop 3)
theorem Dn.lst {mv:Pr->List Pmv} {cst:Pr->Option Nat} {p:Pr} {k:Nat} (hL:Lst mv cst p k) (hne:cst p≠some k):∃m∈mv p,∃n,Lst mv cst (pto m) n/\n+plen m=k:=by
 obtain⟨hd,hl⟩:=hL;cases hd with
 | base h=>exact absurd h hne
 | step hm hn=>exact⟨_,hm,_,⟨hn,fun j hj=>by have:=hl _ (.step hm hj);omega⟩,rfl⟩
theorem Lst.uniq {mv:Pr->List Pmv} {cst:Pr->Option Nat} {p:Pr} {k n:Nat} (h1:Lst mv cst p k) (h2:Lst mv cst p n):k=n:=Nat.le_antisymm (h1.2 n h2.1) (h2.2 k h1.1)
theorem Dn.least {mv:Pr->List Pmv} {cst:Pr->Option Nat} {p:Pr}:∀ {n:Nat},Dn mv cst p n->∃k,Lst mv cst p k:=by
 intro n
 induction n using Nat.strongRecOn with
 | _ n ih=>
  intro hd;by_cases h:∃k,k<n/\Dn mv cst p k
  .obtain⟨k,hk,hd⟩:=h;exact ih k hk hd
  .exact⟨n,hd,fun k hk=>by rcases Nat.lt_or_ge k n with h9 | h9;exact absurd ⟨k,h9,hk⟩ h;exact h9⟩
noncomputable def dL (mv:Pr->List Pmv) (cst:Pr->Option Nat) (p:Pr):Int:=by
 classical exact if h:∃n,Lst mv cst p n then (Classical.choose h:Nat) else farI
theorem dL_of {mv:Pr->List Pmv} {cst:Pr->Option Nat} {p:Pr} {n:Nat} (h:Lst mv cst p n):dL mv cst p=n:=by
 unfold dL;rw[dif_pos ⟨n,h⟩];have:=Lst.uniq (Classical.choose_spec (⟨n,h⟩:∃n,Lst mv cst p n)) h;omega
theorem dL_no {mv:Pr->List Pmv} {cst:Pr->Option Nat} {p:Pr} (h:∀n,¬Lst mv cst p n):dL mv cst p=farI:=by
 unfold dL;rw[dif_neg (fun ⟨n,h9⟩=>h n h9)]
def p00 (g:Gl):Pr:=(g.s.toNat,g.s.toNat)
inductive BpR (g:Gl) (role kind:Int) (X:An) (h h':Heap):Value->Prop
 | far (hn:∀n,¬Lst (mvP g role) (cstN X kind) (p00 g) n) (E:Ext h h'):BpR g role kind X h h' (.tuple ⟨[.agg ⟨wt0.cs⟩,.int .i64 farI]⟩)
 | hit {n:Nat} {D:Pr->Int} {ms:List Pmv} {p:Pr} {w:Wt} {L:List It} (hl:Lst (mvP g role) (cstN X kind) (p00 g) n) (hn:n<=8388608) (hD:∀q,Prr g role q->D q=dL (mvP g role) (cstN X kind) q) (hG:GTo (mvP g role) (cstS X kind) D (p00 g) ms p) (hc:cstS X kind p=some (D p))
   (hk:w.k=kind) (hr:w.r=role) (he:w.e=(exW g role kind X (facts g ms) p).2.1) (ho:w.o=(exW g role kind X (facts g ms) p).2.2)
   (hs:St h h' (.sl w.f 65 3 ((exW g role kind X (facts g ms) p).1.map Ac.cs) :: .sl w.s 65 3 ((sacts g ms).map Ac.cs)::L)):BpR g role kind X h h' (.tuple ⟨[.agg ⟨w.cs⟩,.int .i64 (n:Nat)]⟩)
theorem byPairs121 (b:Nat) (g:Gl) (role:Int) (X:An) (kind:Int) (all:Sl) (mb:Nat) (A:List Pr) (l:List (Pr × Sl)) (CB:Nat) (h:Heap) (hA:AnF h b g role X) (hx:Gm h) (hV:ValidS g) (hM:PrM h g role all mb A l) (hC:CkB X kind A CB) (hAr:ArOk g X) :
  Fn Pz 96 #[.pointer (some ⟨b,0,none⟩),.int .i64 kind,.slice all.a all.n all.c,.map (some mb)] h fun v h'=>BpR g role kind X h h' v:=by
 apply vc96 ⟨b,0,none⟩ kind all (some mb);unfold W96;have hN:=hV.num.n;have hE:=hV.num.m;have hpA:∀p∈A,(p.1:Int)<g.n/\(p.2:Int)<g.n:=fun p hp=>((hM.pr p).1 hp).lt hV;have hkA:∀p∈A,kokP p:=fun p hp=>by have:=hpA p hp;exact⟨by omega,by omega⟩
 have hcl:∀p∈A,∀m∈mvP g role p,pto m∈A:=fun p hp m hm=>(hM.pr _).2 (.step ((hM.pr p).1 hp) hm);have h00:p00 g∈A:=(hM.pr _).2 .start;have hpc0:pC (p00 g)=[.int .i64 g.s,.int .i64 g.s]:=by unfold pC p00;simp only;rw[Int.toNat_of_nonneg (by omega)]
 have hA4:A.length<=40000:=by
  have h1:=grid_le (n:=g.n.toNat) hM.nd fun p hp=>by have:=hpA p hp;exact⟨by omega,by omega⟩
  have h2:g.n.toNat*g.n.toNat<=200*200:=Nat.mul_le_mul (by omega) (by omega);omega
 have hCb:=hC.b;refine (St.refl h).newb fun h1 hs1=>?_;refine (left165 b g role X kind all mb A l CB h1 (hA.ext hs1.ext) hV (hM.ext hs1.ext) hC).mono ?_;rintro _ h4 ⟨E4,ob,O,rfl,hmp,hk,hn,hO⟩;refine⟨some ob,rfl,?_⟩;have hs4:=hs1.step E4;have hX4:=hs4.ext;have hA4':=hA.ext hX4;have hM4:=hM.ext hX4;have hbd:∀q∈A,0<=dO O q/\dO O q<=farI:=fun q hq=>by
  have h9:=fun k=>(hO q hq k).2;unfold dO farI;cases hg:mget O q with
  | none=>exact⟨by decide,by decide⟩
  | some k=>have:=h9 k hg;simp only[Option.elim];omega
 have hdL:∀q,Prr g role q->dO O q=dL (mvP g role) (cstN X kind) q:=fun q hq=>by
  have hqA:=(hM.pr q).2 hq;unfold dO;cases hg:mget O q with
  | none=>exact (dL_no fun n hn=>by rw[((hO q hqA n).1).2 hn] at hg;cases hg).symm
  | some k=>exact (dL_of (((hO q hqA k).1).1 hg)).symm
 refine (St.refl h4).newput (vs:=[.map (some ob)]) rfl rfl fun h6 hs=>?_;refine⟨g.s,hc_ext hs.ext (hA4'.gg.at_.nth 4 rfl),g.s,hc_ext hs.ext (hA4'.gg.at_.nth 4 rfl),?_⟩;refine hs.newbE fun h9 E9 hs=>⟨E9.sm,?_⟩;refine hs.put 0 rfl (o:=0) (vs:=[.int .i64 g.s,.int .i64 g.s]) rfl (Yyt 2) fun h10 hs=>?_;refine⟨some ob,hs.rd 1 rfl (i:=0) rfl,g.s,g.s,hs.at 0 rfl (o:=0) (n:=2) rfl,?_⟩;have h166:=at166 ob O (p00 g) h10 (hmp.keep fun b hb=>hs.ext.2 b (hmp.lt hb)) hk hn (hkA _ h00);rw[hpc0] at h166;refine h166.mono ?_;rintro _ h16 ⟨rfl,E16⟩;replace hs:=hs.step E16;refine⟨_,rfl,sBe (fun c=>?_) (fun c=>?_)⟩
 .have hs:=hs4.join hs;refine hs.put 0 rfl (o:=0) (vs:=wt0.cs) rfl (Yyt 14) fun h17 hs=>?_;refine rdW (w:=wt0) (Q:=fun cs=>BpR g role kind X h h17 (.tuple ⟨[.agg ⟨cs⟩,.int .i64 1073741824]⟩)) (hs.at 0 rfl (o:=0) (n:=14) rfl) ?_;refine .far (fun n hl=>?_) hs.ext;have h9:=(hO _ h00 n).1.2 hl;have h10:=(hO _ h00 n).2 h9;unfold dO at c;rw[h9] at c;simp only[Option.elim] at c;omega
 .obtain⟨k0,hk0⟩:∃k0,mget O (p00 g)=some k0:=by
   cases hg:mget O (p00 g) with
   | none=>unfold dO at c;rw[hg] at c;exact absurd rfl c
   | some k=>exact⟨k,rfl⟩
  have hd0:dO O (p00 g)=(k0:Int):=by unfold dO;rw[hk0];rfl
  have hk0b:=(hO _ h00 k0).2 hk0;refine⟨role,hc_ext hs.ext hA4'.r.ro,?_⟩;refine hs.newput (vs:=(Wt.cs ⟨kind,role,nilS,nilS,evn0,evn0⟩)) rfl rfl fun h34 hs=>?_;have hs:=((hs.nil_ 65 3).nil_ 65 3).perm (List.perm_append_comm (l₁:=[_,_]) (l₂:=[_,_,_]));refine⟨fun h' μ=>∃(ms:List Pmv) (p:Pr) (wf ws:Sl) (k:Nat),μ=k/\mget O p=some k/\p∈A/\St h4 h' (bpL h16.size h6.size h4.size ob kind role wf ws p (facts g ms) (sacts g ms))/\GTo (mvP g role) (cstS X kind) (dO O) (p00 g) ms p/\ms.length+k<=8388608,⟨_,[],p00 g,nilS,nilS,k0,rfl,hk0,h00,?_,.nil,?_⟩,?_⟩
  .unfold bpL;rw[hpc0];exact hs
  .simp only[List.length_nil];omega
  clear hs;rintro-h38 k ⟨ms,p,wf,ws,k9,rfl,hkp,hpm,hs,hG,hml⟩;have hdp:dO O p=(k:Int):=by unfold dO;rw[hkp];rfl
  have hkb:=(hO p hpm k).2 hkp;have hLp:=(hO p hpm k).1.1 hkp;have hfl:=facts_len g ms;have hsl:=sacts_len g ms
  have stp:∀(h50:Heap),St h4 h50 (bpL h16.size h6.size h4.size ob kind role wf ws p (facts g ms) (sacts g ms))->cstS X kind p≠some (dO O p) ->
    V96a h50 h6 (some mb) h4 h16 ⟨b,0,none⟩ k (fun h' μ=>∃(ms:List Pmv) (p:Pr) (wf ws:Sl) (k:Nat),μ=k/\mget O p=some k/\p∈A/\St h4 h' (bpL h16.size h6.size h4.size ob kind role wf ws p (facts g ms) (sacts g ms))/\GTo (mvP g role) (cstS X kind) (dO O) (p00 g) ms p/\ms.length+k<=8388608):=by
   intro h50 hs hne;have hne2:cstN X kind p≠some k:=fun e=>by
    unfold cstN at e;cases hcs:cstS X kind p with
    | none=>rw[hcs] at e;cases e
    | some c=>
     have h1:=hC.c p hpm c hcs;rw[hcs] at e;simp only[Option.map_some,Option.some.injEq] at e;exact hne (by rw[hcs,hdp];congr 1;omega)
   obtain⟨m,hm,n,hn9,hnk⟩:=Dn.lst hLp hne2;have hmA:=hcl p hpm m hm;have hgn:=(hO _ hmA n).1.2 hn9;have hok:okM (dO O) p m=true:=by
    unfold okM;refine decide_eq_true ?_;rw[hdp];have:dO O (pto m)=(n:Int):=by unfold dO;rw[hgn];rfl
    omega
   cases hix:(mvP g role p).findIdx? (okM (dO O) p) with
   | none=>
    rw[List.findIdx?_eq_none_iff] at hix;rw[hix m hm] at hok;cases hok
   | some k2=>
    obtain⟨h1,h2,_⟩:=List.findIdx?_eq_some_iff_getElem.1 hix;have gm2:(mvP g role p)[k2]?=some (mvP g role p)[k2]:=Yi h1;generalize hm2:(mvP g role p)[k2]=m2 at *;have h3:(plen m2:Int)+dO O (pto m2)=dO O p:=Yyn h2;have hm2A:=hcl p hpm m2 (Yb gm2);have hpl:=plen_pos m2;obtain⟨k',hk'⟩:∃k',mget O (pto m2)=some k':=by
     cases hg:mget O (pto m2) with
     | none=>unfold dO at h3;rw[hg,hkp] at h3;simp only[Option.elim,farI] at h3;omega
     | some k'=>exact⟨k',rfl⟩
    have hd':dO O (pto m2)=(k':Int):=by unfold dO;rw[hk'];rfl
    refine step121 hs hA4' hV hM4 hmp hk hn hpm hix gm2 (by omega) (by omega) hbd fun h' wf' ws' hs=>⟨k',by omega,ms++[m2],pto m2,wf',ws',k',rfl,hk',hm2A,?_,.snoc hG hne hix gm2,by rw[Yh,Yv];omega⟩;rw[facts_snoc,sacts_snoc];exact hs
  refine⟨(p.1:Nat),(p.2:Nat),hs.at 1 rfl (o:=0) (n:=2) rfl,?_⟩;refine (costs167 b g role X kind p h38 (hA4'.ext hs.ext) (hpA p hpm) hC.a).mono ?_;rintro _ h44 ⟨E,rfl⟩;replace hs:=hs.step E;refine⟨_,_,rfl,sB_intro (fun c1=>?_) (fun c1=>?_)⟩
  .obtain⟨n1,hn1⟩:=Option.isSome_iff_exists.1 c1;refine⟨some ob,hs.rd 2 rfl (i:=0) rfl,(p.1:Nat),(p.2:Nat),hs.at 1 rfl (o:=0) (n:=2) rfl,?_⟩;refine (at166 ob O p h44 (hmp.keep fun b hb=>hs.ext.2 b (hmp.lt hb)) hk hn (hkA p hpm)).mono ?_;rintro _ h50 ⟨rfl,E50⟩;replace hs:=hs.step E50;refine⟨_,rfl,sBe (fun c2=>?_) (fun c2=>?_)⟩
   .have hcp:cstS X kind p=some (dO O p):=by rw[hn1] at c2 ⊢;exact congrArg some c2
    have hs:=(hs4.join hs).perm (List.perm_append_comm (l₁:=[_]) (l₂:=bpL h16.size h6.size h4.size ob kind role wf ws p (facts g ms) (sacts g ms)));refine exit121 hs hA hx hV (hpA p hpm) hC.a hAr (fun _=>c1) (by omega) fun h' w L h1 h2 h3 h4 hs=>?_;rw[hd0];exact .hit ((hO _ h00 k0).1.1 hk0) (by omega) hdL hG hcp h1 h2 h3 h4 hs
   .exact stp h50 hs fun e=>c2 (by rw[e];rfl)
  .exact step121b (stp h44 hs fun e=>by rw[e] at c1;cases c1)
end Go.VC
end

section
namespace Go.VC
inductive DnS (es:List Ed) (MX:Nat->Prop):Nat->Nat->Prop
 | base {s:Nat}:MX s->DnS es MX s 0
 | step {s:Nat} {e:Ed} {n:Nat}:e∈es->e.f=(s:Int)->DnS es MX e.t.toNat n->DnS es MX s (n+1)
def LstS (es:List Ed) (MX:Nat->Prop) (s n:Nat):Prop:=DnS es MX s n/\∀k,DnS es MX s k->n<=k
def farN:Int:=1073741824
structure BfQ (g:Gl) (MX:Nat->Prop) (LF:List Int) (Q:List Nat) (hd c:Nat):Prop where
 ln:LF.length=g.n.toNat
 d:∀(s:Nat) x,LF[s]?=some x->x=farN\/(∃k:Nat,x=(k:Int)/\DnS g.es MX s k/\k<=c)
 q:∀s:Nat,s∈Q ↔ ∃x,LF[s]?=some x/\x≠farN
 nd:Q.Nodup
 m:∀s:Nat,s<g.n.toNat->MX s->LF[s]?=some 0
 so:∀(i j s t:Nat) x y,i<=j->Q[i]?=some s->Q[j]?=some t->LF[s]?=some x->LF[t]?=some y->x<=y
 hi:∀(s t:Nat) x y,Q[hd]?=some s->t∈Q->LF[s]?=some x->LF[t]?=some y->y<=x+1
 cl:∀(i t:Nat) x,i<hd->Q[i]?=some t->LF[t]?=some x->∀e∈g.es,e.t=(t:Int)->∃y,LF[e.f.toNat]?=some y/\y<=x+1
theorem BfQ.lt {g:Gl} {MX:Nat->Prop} {LF:List Int} {Q:List Nat} {hd c:Nat} (h:BfQ g MX LF Q hd c) {s:Nat} (hs:s∈Q):s<g.n.toNat:=by
 obtain⟨x,hx,_⟩:=(h.q s).1 hs;have:=(Ya.1 hx).1;rw[h.ln] at this;exact this
theorem BfQ.len {g:Gl} {MX:Nat->Prop} {LF:List Int} {Q:List Nat} {hd c:Nat} (h:BfQ g MX LF Q hd c):Q.length<=g.n.toNat:=by
 have:=List.Nodup.length_le_of_subset h.nd (l₂:=List.range g.n.toNat) fun s hs=>List.mem_range.2 (h.lt hs)
 rwa [Yyd] at this
theorem BfQ.val {g:Gl} {MX:Nat->Prop} {LF:List Int} {Q:List Nat} {hd c:Nat} (h:BfQ g MX LF Q hd c) {s:Nat} (hs:s∈Q):∃k:Nat,LF[s]?=some (k:Int)/\DnS g.es MX s k/\k<=c:=by
 obtain⟨x,hx,hf⟩:=(h.q s).1 hs;rcases h.d s x hx with rfl | ⟨k,rfl,hk⟩
 .exact absurd rfl hf
 .exact⟨k,hx,hk⟩
theorem BfQ.weak {g:Gl} {MX:Nat->Prop} {LF:List Int} {Q:List Nat} {hd c c':Nat} (h:BfQ g MX LF Q hd c) (hc:c<=c'):BfQ g MX LF Q hd c':=
 { h with d:=fun s x hx=>(h.d s x hx).imp id fun ⟨k,h1,h2,h3⟩=>⟨k,h1,h2,by omega⟩ }
theorem BfQ.put {g:Gl} {MX:Nat->Prop} {LF:List Int} {Q:List Nat} {hd c:Nat} (h:BfQ g MX LF Q hd c) {t s:Nat} {e:Ed} {x:Nat} (ht:Q[hd]?=some t) (hx:LF[t]?=some (x:Int)) (hxc:x+1<=c) (hc:c<=100000) (he:e∈g.es) (h1:e.t=(t:Int)) (h2:e.f=(s:Int)) (hs:LF[s]?=some farN) :
  BfQ g MX (LF.set s ((x:Int)+1)) (Q++[s]) hd c:=by
 have hsl:=(Ya.1 hs).1;have hno:s∉Q:=fun hm=>by
  obtain⟨y,hy,hf⟩:=(h.q s).1 hm;rw[hs] at hy;cases hy;exact hf rfl
 have hdt:DnS g.es MX t x:=by
  rcases h.d t _ hx with h9 | ⟨k,h9,h10,_⟩
  .exact absurd h9 (by unfold farN;omega)
  .have:k=x:=by omega
   subst this;exact h10
 have old:∀ {u:Nat},u∈Q->(LF.set s ((x:Int)+1))[u]?=LF[u]?:=fun {u} hu=>Yy (fun e=>hno (by rw[e];exact hu));have hdl:=(Ya.1 ht).1;refine⟨by rw[Yyh];exact h.ln,fun u y hu=>?_,fun u=>?_,?_,fun u hu hm=>?_,fun i j a b y z hij ha hb hy hz=>?_,fun a b y z ha hb hy hz=>?_,fun i a y hi ha hy e' he' ht'=>?_⟩
 .by_cases e1:s=u
  .subst e1;rw[Yq hsl] at hu;cases hu;refine .inr ⟨x+1,by omega,.step he h2 ?_,hxc⟩;rw[h1,Ys];exact hdt
  .rw[Yy e1] at hu;exact h.d u y hu
 .rw[Yk,Ye];by_cases e1:s=u
  .subst e1;rw[Yq hsl];exact iff_of_true (.inr rfl) ⟨_,rfl,by unfold farN;omega⟩
  .rw[Yy e1,<-h.q u];exact⟨fun h9=>h9.elim id fun e=>absurd e.symm e1,.inl⟩
 .rw[List.nodup_append];exact⟨h.nd,by simp,fun a ha b hb e=>by rw[Ye] at hb;subst hb;subst e;exact hno ha⟩
 .have h9:=h.m u hu hm;rw[Yy (fun e=>by subst e;rw[hs] at h9;exact absurd (Yyp h9) (by unfold farN;decide))];exact h9
 .rcases Nat.lt_or_ge j Q.length with hj | hj
  .rw[Yyi hj] at hb;rw[Yyi (by omega)] at ha;rw[old (Yb ha)] at hy;rw[old (Yb hb)] at hz;exact h.so i j a b y z hij ha hb hy hz
  .have hjl:=(Ya.1 hb).1;rw[Yh,Yv] at hjl;rw[Yyc hj,show j-Q.length=0 by omega] at hb;cases hb;rw[Yq hsl] at hz;cases hz;rcases Nat.lt_or_ge i Q.length with hi | hi
   .rw[Yyi hi] at ha;rw[old (Yb ha)] at hy;exact h.hi t a _ y ht (Yb ha) hx hy
   .rw[Yyc hi,show i-Q.length=0 by omega] at ha;cases ha;rw[Yq hsl] at hy;cases hy;omega
 .rw[Yyi hdl,ht] at ha;cases ha;rw[old (Yb ht),hx] at hy;cases hy;rcases Yk.1 hb with hb | hb
  .rw[old hb] at hz;exact h.hi t b _ z ht hb hx hz
  .rw[Ye] at hb;subst hb;rw[Yq hsl] at hz;cases hz;omega
 .rw[Yyi (by omega)] at ha;rw[old (Yb ha)] at hy;obtain⟨z,h3,h4⟩:=h.cl i a y hi ha hy e' he' ht';have hyb:y<=c:=by
   obtain⟨k,h5,_,h6⟩:=h.val (Yb ha);rw[h5] at hy;cases hy;omega
  refine⟨z,?_,h4⟩;rw[Yy (fun e=>by rw[<-e,hs] at h3;cases h3;unfold farN at h4;omega)];exact h3
theorem BfQ.next {g:Gl} {MX:Nat->Prop} {LF:List Int} {Q:List Nat} {hd c:Nat} (h:BfQ g MX LF Q hd c) {t x:Nat} (ht:Q[hd]?=some t) (hx:LF[t]?=some (x:Int)) (hcl:∀e∈g.es,e.t=(t:Int)->∃y,LF[e.f.toNat]?=some y/\y<=x+1):BfQ g MX LF Q (hd+1) c:=by
 refine⟨h.ln,h.d,h.q,h.nd,h.m,h.so,fun s u y z hs hu hy hz=>?_,fun i a y hi ha hy e he het=>?_⟩
 .have h1:=h.hi t u _ z ht hu hx hz;have h2:=h.so hd (hd+1) t s _ y (by omega) ht hs hx hy;omega
 .by_cases e1:i=hd
  .subst e1;rw[ht] at ha;cases ha;rw[hx] at hy;cases hy;exact hcl e he het
  .exact h.cl i a y (by omega) ha hy e he het
theorem BfQ.fin {g:Gl} {MX:Nat->Prop} {LF:List Int} {Q:List Nat} {c:Nat} (h:BfQ g MX LF Q Q.length c) (hc:c<=100000) (hE:∀e∈g.es,0<=e.f/\0<=e.t/\e.t<g.n) {s k:Nat} (hd:DnS g.es MX s k):s<g.n.toNat->∃y:Nat,LF[s]?=some (y:Int)/\y<=k/\y<=c/\DnS g.es MX s y:=by
 induction hd with
 | base hm=>exact fun hs=>⟨0,h.m _ hs hm,Yyt _,Nat.zero_le _,.base hm⟩
 | @step s e k he hf hd ih=>
  intro hs;have hE1:=hE e he;obtain⟨y,h1,h2,h2',h3⟩:=ih (by omega);have hq:e.t.toNat∈Q:=(h.q _).2 ⟨_,h1,fun e9=>by unfold farN at e9;omega⟩;obtain⟨i,hi⟩:=Yf.1 hq;obtain⟨z,h4,h5⟩:=h.cl i e.t.toNat _ (Ya.1 hi).1 hi h1 e he (by omega);have hfs:e.f.toNat=s:=by omega
  rw[hfs] at h4;rcases h.d s z h4 with rfl | ⟨k',rfl,h6,h7⟩
  .unfold farN at h5;omega
  .exact⟨k',h4,by omega,h7,h6⟩
theorem BfQ.lst {g:Gl} {MX:Nat->Prop} {LF:List Int} {Q:List Nat} {c:Nat} (h:BfQ g MX LF Q Q.length c) (hc:c<=100000) (hE:∀e∈g.es,0<=e.f/\0<=e.t/\e.t<g.n) {s:Nat} (hs:s<g.n.toNat) :
  (LF[s]?=some farN/\∀k,¬DnS g.es MX s k)\/∃k:Nat,LF[s]?=some (k:Int)/\LstS g.es MX s k/\k<=c:=by
 obtain⟨x,hx⟩:=get_some (l:=LF) (i:=s) (by rw[h.ln];exact hs);rcases h.d s x hx with rfl | ⟨k,rfl,h1,h2⟩
 .refine .inl ⟨hx,fun k hk=>?_⟩;obtain⟨y,h3,_,h4,_⟩:=h.fin hc hE hk hs;rw[hx] at h3;have:=Yyp h3;unfold farN at this;omega
 .refine .inr ⟨k,hx,⟨h1,fun j hj=>?_⟩,h2⟩;obtain⟨y,h3,h4,_⟩:=h.fin hc hE hj hs;rw[hx] at h3;have:=Yyp h3;omega
theorem LstS.next {es:List Ed} {MX:Nat->Prop} {s k:Nat} (h:LstS es MX s (k+1)):∃e∈es,e.f=(s:Int)/\LstS es MX e.t.toNat k:=by
 obtain⟨hd,hl⟩:=h;cases hd with
 | step he hf hn=>exact⟨_,he,hf,hn,fun j hj=>by have:=hl _ (.step he hf hj);omega⟩
theorem LstS.uniq {es:List Ed} {MX:Nat->Prop} {s k n:Nat} (h1:LstS es MX s k) (h2:LstS es MX s n):k=n:=Nat.le_antisymm (h1.2 n h2.1) (h2.2 k h1.1)
theorem BfQ.init {g:Gl} {MX:Nat->Prop} {LF:List Int} {Q:List Nat} {c:Nat} (ln:LF.length=g.n.toNat) (h:∀s:Nat,s<g.n.toNat->(MX s/\LF[s]?=some 0/\s∈Q)\/(¬MX s/\LF[s]?=some farN/\s∉Q)) (hq:∀s∈Q,s<g.n.toNat) (nd:Q.Nodup):BfQ g MX LF Q 0 c:=by
 have hv:∀ {s:Nat} {x:Int},s∈Q->LF[s]?=some x->x=0:=fun {s x} hs hx=>by
  rcases h s (hq s hs) with ⟨_,h2,_⟩ | ⟨_,_,h2⟩
  .rw[hx] at h2;exact Yyp h2
  .exact absurd hs h2
 refine⟨ln,fun s x hx=>?_,fun s=>?_,nd,fun s hs hm=>?_,fun i j s t x y _ hs ht hx hy=>?_,fun s t x y hs ht hx hy=>?_,fun i t x hi=>by omega⟩
 .have hs:s<g.n.toNat:=by rw[<-ln];exact (Ya.1 hx).1
  rcases h s hs with ⟨h1,h2,_⟩ | ⟨_,h2,_⟩
  .rw[hx] at h2;exact .inr ⟨0,Yyp h2,.base h1,Nat.zero_le _⟩
  .rw[hx] at h2;exact .inl (Yyp h2)
 .constructor
  .intro hs;rcases h s (hq s hs) with ⟨_,h2,_⟩ | ⟨_,_,h2⟩
   .exact⟨0,h2,by unfold farN;decide⟩
   .exact absurd hs h2
  .rintro⟨x,hx,hf⟩;have hs:s<g.n.toNat:=by rw[<-ln];exact (Ya.1 hx).1
   rcases h s hs with ⟨_,_,h2⟩ | ⟨_,h2,_⟩
   .exact h2
   .rw[hx] at h2;exact absurd (Yyp h2) hf
 .rcases h s hs with ⟨_,h2,_⟩ | ⟨h2,_,_⟩
  .exact h2
  .exact absurd hm h2
 .rw[hv (Yb hs) hx,hv (Yb ht) hy];exact Int.le_refl _
 .rw[hv (Yb hs) hx,hv ht hy];omega
end Go.VC
end

section
namespace Go.VC
open Go.Proofs Go.LexS
theorem clo176 (b:Nat) (g:Gl) (k:Nat) (x:Ed) (LF:List Int) (lf:Sl) (s:Nat) (x10 x15:Int) (c0 c1 c2:Addr) (h:Heap) (h0:hc h c0=some (Value.slice lf.a lf.n lf.c)) (h1:hc h c1=some (Value.pointer (some ⟨b,0,none⟩))) (h2:hc h c2=some (Value.int .i64 (s:Nat)))
  (hro:hc h ⟨b,6,none⟩=some (Value.slice g.he.a g.he.n g.he.c)) (hg:GI h g) (hr:Rw h 1 lf (LF.map inC)) (hk:g.es[k]?=some x) (ht:0<=x.t) (hx:LF[x.t.toNat]?=some x10) (hs:LF[s]?=some x15) (hb:0<=x15/\x15<=farN) :
  Fn Pz 173 #[.int .i64 (k:Nat),.pointer (some c0),.pointer (some c1),.pointer (some c2)] h fun v h'=>v=.bool (decide (x10=x15-1))/\Ext h h':=by
 apply vc173 (k:Nat) c0 c1 c2;unfold W173;have hkl:=(Ya.1 hk).1;have hxl:=(Ya.1 hx).1;have hsl:=(Ya.1 hs).1;have hen:=hg.e.ln;have hln:=hr.ln;unfold farN at hb;refine⟨lf,h0,some ⟨b,0,none⟩,h1,?_⟩;show ∃x4:Sl,hc h ⟨b,0+6,none⟩=some (.slice x4.a x4.n x4.c)/\_;refine⟨g.he,hro,?_⟩;refine hg.e.rw.nbI (by omega) (by omega) fun b5 o6 x' gx u=>?_;replace gx:g.es[k]?=some x':=gx;rw[hk] at gx;cases gx;refine⟨x.t,u.nth 4 rfl,?_⟩;refine hr.nbI (by omega) (by omega) fun b8 o9 d gd u2=>?_;rw[hx] at gd;cases gd;refine⟨x10,u2.hd,lf,h0,(s:Nat),h2,?_⟩;refine hr.nbI (by omega) (by omega) fun b13 o14 d gd u3=>?_;replace gd:LF[s]?=some d:=gd;rw[hs] at gd;cases gd;refine⟨x15,u3.hd,?_,.rfl'⟩;rw[w64 (by omega) (by omega)];congr 1
theorem cal176:callable Pz 173=true:=by kernel_rfl
def okE (LF:List Int) (es:List Ed) (x15:Int) (k:Nat):Bool:=decide (LF.getD (eA es k).t.toNat 0=x15-1)
theorem index175 (b:Nat) (g:Gl) (L:List Nat) (LF:List Int) (lf:Sl) (s:Nat) (x15:Int) (c0 c1 c2:Addr) (sl:Sl) (h:Heap) (hL:Rw h 1 sl ((natI L).map inC)) (hl:L.length<=1048576) (h0:hc h c0=some (Value.slice lf.a lf.n lf.c)) (h1:hc h c1=some (Value.pointer (some ⟨b,0,none⟩))) (h2:hc h c2=some (Value.int .i64 (s:Nat)))
  (hro:hc h ⟨b,6,none⟩=some (Value.slice g.he.a g.he.n g.he.c)) (hg:GI h g) (hr:Rw h 1 lf (LF.map inC)) (hk:∀k∈L,k<g.es.length) (hE:∀x∈g.es,0<=x.t/\x.t.toNat<LF.length) (hs:LF[s]?=some x15) (hb:0<=x15/\x15<=farN) :
  Fn Pz 172 #[.slice sl.a sl.n sl.c,.func (.func 173) #[] #[.pointer (some c0),.pointer (some c1),.pointer (some c2)]] h fun v h'=>v=.int .i64 (ixI (okE LF g.es x15) L)/\Ext h h':=by
 apply vc172;unfold W172;have hn9:sl.n=L.length:=by have:=hL.ln;unfold natI at this;rwa [Yc] at this
 refine⟨fun x h' μ=>∃i:Nat,x=i/\μ=sl.n-i/\i<=sl.n/\Ext h h'/\∀(j:Nat) (y:Nat),j<i->L[j]?=some y->okE LF g.es x15 y=false,⟨_,0,rfl,rfl,Nat.zero_le _,.rfl',fun j y hj=>by omega⟩,?_⟩;rintro-_ h5 μ ⟨i,rfl,rfl,hi,E,hd⟩;refine sBi (fun c=>?_) (fun c=>?_)
 .refine (hL.ext E).nbI (by omega) (by omega) fun b6 o7 d gd t=>?_;obtain⟨k,gk,rfl⟩:=natI_get gd;replace gk:L[i]?=some k:=gk;obtain⟨x,hx⟩:=get_some (hk k (Yb gk));have hxE:=hE x (Yb hx);obtain⟨x10,hx10⟩:=get_some hxE.2;refine⟨(k:Int),t.hd,?_⟩;show cond (callable Pz 173) _ _;rw[cal176,cond_true];refine (clo176 b g k x LF lf s x10 x15 c0 c1 c2 h5 (hc_ext E h0) (hc_ext E h1) (hc_ext E h2) (hc_ext E hro) (hg.ext E) (hr.ext E) hx hxE.1 hx10 hs hb).mono ?_;rintro _ h16 ⟨rfl,E2⟩;have hok:okE LF g.es x15 k=decide (x10=x15-1):=by
   unfold okE;rw[eA_get hx,Yo,hx10];rfl
  refine⟨_,rfl,sB_intro (fun c1=>⟨?_,E.trans E2⟩) (fun c1=>⟨_,by omega,i+1,by rw[w64 (by omega) (by omega)];omega,rfl,by omega,E.trans E2,fun j y hj hy=>?_⟩)⟩
  .unfold ixI;rw[ix_hit hd gk (by rw[hok];exact c1)]
  .by_cases e1:j=i
   .subst e1;rw[gk] at hy;cases hy;rw[hok];exact c1
   .exact hd j y (by omega) hy
 .refine⟨?_,E⟩;unfold ixI;rw[ix_no fun j y hj=>hd j y (by have:=(Ya.1 hj).1;omega) hj]
theorem cal178:callable Pz 175=true:=by kernel_rfl
theorem index177 (L:List Ev) (s:Sl) (h:Heap) (hr:Rw h 3 s (L.map Ev.cs)) (hl:L.length<=1048576) :
  Fn Pz 174 #[.slice s.a s.n s.c,.func (.func 175) #[] #[]] h fun v h'=>v=.int .i64 (ixI (fun x=>!x.send) L)/\Ext h h':=by
 apply vc174;unfold W174;have hn:=hr.ln;refine⟨fun x h' μ=>∃i:Nat,x=i/\μ=s.n-i/\i<=s.n/\Ext h h'/\∀(j:Nat) (y:Ev),j<i->L[j]?=some y->(!y.send)=false,⟨_,0,rfl,rfl,Nat.zero_le _,.rfl',fun j y hj=>by omega⟩,?_⟩;rintro-_ h5 μ ⟨i,rfl,rfl,hi,E,hd⟩;refine sBi (fun c=>?_) (fun c=>?_)
 .refine (hr.ext E).nbI (by omega) (by omega) fun b6 o7 q g t=>?_;replace g:L[i]?=some q:=g;refine⟨q.send,q.peer,q.label,t,?_⟩;show cond (callable Pz 175) _ _;rw[cal178,cond_true];show Fn Pz 175 #[.agg ⟨q.cs⟩] h5 _;apply vc175 q.send q.peer q.label;unfold W175;refine (St.refl h5).newb fun h4 hs=>?_;refine⟨q.send,hs.rd 0 rfl (i:=0) rfl,?_⟩;refine⟨_,rfl,sB_intro (fun c1=>⟨?_,E.trans hs.ext⟩) (fun c1=>⟨_,by omega,i+1,by rw[w64 (by omega) (by omega)];omega,rfl,by omega,E.trans hs.ext,fun j y hj hy=>?_⟩)⟩
  .unfold ixI;rw[ix_hit hd g c1]
  .by_cases e1:j=i
   .subst e1;rw[g] at hy;cases hy;exact c1
   .exact hd j y (by omega) hy
 .refine⟨?_,E⟩;unfold ixI;rw[ix_no fun j y hj=>hd j y (by have:=(Ya.1 hj).1;omega) hj]
abbrev InR:=Sl × List Int
def mxL (ib lb h1b hb b:Nat) (IN:List InR) (lf:Sl) (LF:List Int) (q:Sl) (Q:List Nat):List It:=
 [.sl q 3 1 ((natI Q).map inC),.blk lb [.slice lf.a lf.n lf.c] 102,.sl lf 3 1 (LF.map inC),.blk ib ((IN.map Prod.fst).map slV) 102,.blk h1b wt0.cs 35,.blk hb [.pointer (some ⟨b,0,none⟩)] 89]++IN.map (nest 3 1 inC)++[]
def mxB (f:Fs):Bool:=sndAt f.l 0&&(f.b || !sndAt f.l (f.l.length-1))
def MXx (X:An) (s:Nat):Prop:=∃f,X.fi[s]?=some f/\mxB f=true
def inJ (es:List Ed) (t:Nat):List Int:=(es.filter fun e=>decide (e.t=(t:Int))).map (·.f)
theorem inJ_mem {es:List Ed} {t:Nat} {p:Int}:p∈inJ es t ↔ ∃e∈es,e.t=(t:Int)/\e.f=p:=by
 unfold inJ;rw[Yp];constructor
 .rintro⟨e,he,rfl⟩;rw[List.mem_filter,decide_eq_true_eq] at he;exact⟨e,he.1,he.2,rfl⟩
 .rintro⟨e,he,h1,rfl⟩;exact⟨e,List.mem_filter.2 ⟨he,decide_eq_true h1⟩,rfl⟩
theorem inJ_len (es:List Ed) (t:Nat):(inJ es t).length<=es.length:=by unfold inJ;rw[Yc];exact List.length_filter_le _ _
theorem made3c (n:Nat):madeL Pz 3 n=((List.replicate n (0:Int)).map inC).flatten:=by
 rw[made3,List.map_replicate]
 induction n with
 | zero=>rfl
 | succ n ih=>rw[List.replicate_succ,List.replicate_succ,Yyu,<-ih];rfl
theorem made42v (n:Nat):madeL Pz 102 n=(List.replicate n nilS).map slV:=by
 rw[made42s,List.map_replicate,List.map_replicate]
 induction n with
 | zero=>rfl
 | succ n ih=>rw[List.replicate_succ,List.replicate_succ,Yyu,ih];rfl
theorem inC_rows (L:List Int):∀r∈L.map inC,r.length=1:=fun r hr=>by obtain⟨x,_,rfl⟩:=Yp.1 hr;rfl
structure IN_ (g:Gl) (IN:List InR):Prop where
 e:IN.map Prod.snd=(List.range g.n.toNat).map (inJ g.es)
theorem IN_.len {g:Gl} {IN:List InR} (h:IN_ g IN):IN.length=g.n.toNat:=by have:=congrArg List.length h.e;simpa using this
theorem IN_.at {g:Gl} {IN:List InR} (h:IN_ g IN) {t:Nat} (ht:t<g.n.toNat):∃q,IN[t]?=some q/\q.2=inJ g.es t:=by
 obtain⟨q,hq⟩:=get_some (l:=IN) (i:=t) (by rw[h.len];exact ht);have h1:=map_range_get h.e ht;rw[Yd,hq] at h1;exact⟨q,hq,Yyp h1⟩
theorem bfs122 {h h46 h2 h10 h1:Heap} {b:Nat} {g:Gl} {X:An} {IN:List InR} {lf q0:Sl} {LF0:List Int} {Q0:List Nat} {R:Value->Heap->Prop}
  (hs:St h h46 (mxL h2.size h10.size h1.size h.size b IN lf LF0 q0 Q0)) (hV:ValidS g) (hI:IN_ g IN) (hB:BfQ g (MXx X) LF0 Q0 0 0)
  (hK:∀(h75:Heap) (q:Sl) (LF:List Int) (Q:List Nat),St h h75 (mxL h2.size h10.size h1.size h.size b IN lf LF q Q)->BfQ g (MXx X) LF Q Q.length 1000->V97b h75 h h10 h1 R) :
  V97p q0 h46 g.n h2 h10 h h1 R:=by
 unfold V97p;have hN:=hV.num.n;have hM:=hV.num.m;have hE:=hV.num.e;refine⟨fun q x h' μ=>∃(hd:Nat) (LF:List Int) (Q:List Nat),x=(hd:Int)/\μ=g.n.toNat-hd/\hd<=Q.length/\St h h' (mxL h2.size h10.size h1.size h.size b IN lf LF q Q)/\BfQ g (MXx X) LF Q hd hd,⟨_,0,LF0,Q0,rfl,rfl,Nat.zero_le _,hs,hB⟩,?_⟩;clear hs hB;rintro-q _ h75 μ ⟨hd,LF,Q,rfl,rfl,hhd,hs,hB⟩;have hQl:=hB.len;have hqn:=(hs.len 0 (s:=q) (e:=3) (n:=1) (rows:=(natI Q).map inC) rfl (by omega)).1;rw[Yc] at hqn;have hqn2:q.n=Q.length:=by unfold natI at hqn;rwa [Yc] at hqn
 refine sBi (fun c=>?_) (fun c=>?_)
 .refine (hs.rows 0 rfl (by omega)).nbI (by omega) (by omega) fun b76 o77 d gd u=>?_;obtain⟨t,ht,rfl⟩:=natI_get gd;replace ht:Q[hd]?=some t:=ht;have htm:=Yb ht;have htn:=hB.lt htm;obtain⟨xx,hxx,_,hxc⟩:=hB.val htm;obtain⟨qi,hqi,hqi2⟩:=hI.at htn;refine⟨(t:Int),u.hd,⟨by omega,by omega⟩,?_⟩;rw[show 0+Int.toNat ((t:Nat):Int)*1=t by omega];refine⟨qi.1,hs.rd 3 rfl (by rw[Yd,Yd,hqi];rfl),?_⟩;have hmem:∀ {LF:List Int} {q:Sl} {Q:List Nat},.sl qi.1 3 1 (qi.2.map inC)∈mxL h2.size h10.size h1.size h.size b IN lf LF q Q:=fun {LF q Q}=>by
   unfold mxL;exact List.mem_append_left _ (List.mem_append_right _ (Yp.2 ⟨qi,Yb hqi,rfl⟩))
  have hin:qi.1.n=(inJ g.es t).length:=by
   have:=(hs.rwm hmem (by omega)).1
   rwa [Yc,hqi2] at this
  have hil:=inJ_len g.es t;unfold V97q;refine⟨fun q x h' μ=>∃(j:Nat) (LF:List Int) (Q:List Nat),x=(j:Int)/\μ=qi.1.n-j/\j<=qi.1.n/\St h h' (mxL h2.size h10.size h1.size h.size b IN lf LF q Q)/\BfQ g (MXx X) LF Q hd (hd+1)/\Q[hd]?=some t/\LF[t]?=some (xx:Int)/\∀(i:Nat) p,i<j->(inJ g.es t)[i]?=some p->∃y,LF[p.toNat]?=some y/\y<=xx+1,⟨_,0,LF,Q,rfl,rfl,Nat.zero_le _,hs,hB.weak (by omega),ht,hxx,fun i p hi=>by omega⟩,?_⟩;clear hs hB hQl hqn hqn2 hhd hxx ht htm gd u c;rintro-q h85 h85' μ ⟨j,LF,Q,rfl,rfl,hj,hs,hB,ht,hxx,hpr⟩;have hQl:=hB.len;have hdl:=(Ya.1 ht).1;have hqn:=(hs.len 0 (s:=q) (e:=3) (n:=1) (rows:=(natI Q).map inC) rfl (by omega)).1;rw[Yc] at hqn;have hqn2:q.n=Q.length:=by unfold natI at hqn;rwa [Yc] at hqn
  have hlfn:=(hs.len 2 (s:=lf) (e:=3) (n:=1) (rows:=LF.map inC) rfl (by omega)).1;rw[Yc,hB.ln] at hlfn;refine sBi (fun c=>?_) (fun c=>?_)
  .refine (hs.rwm hmem (by omega)).nbI (by omega) (by omega) fun b86 o87 p gp u=>?_;rw[hqi2] at gp;replace gp:(inJ g.es t)[j]?=some p:=gp;obtain⟨e,he,het,hef⟩:=inJ_mem.1 (Yb gp);have hxe:=hE e he;unfold EdS at hxe;obtain⟨p',hp'⟩:∃p':Nat,p=(p':Int):=⟨p.toNat,by omega⟩;subst hp';refine⟨(p':Int),u.hd,lf,hs.rd 1 rfl (i:=0) rfl,?_⟩;refine (hs.rows 2 rfl (by omega)).nbI (by omega) (by omega) fun b90 o91 v gv u2=>?_;replace gv:LF[p']?=some v:=gv;refine⟨v,u2.hd,sBe (fun c2=>?_) (fun c2=>?_)⟩
   .have hvf:LF[p']?=some farN:=by rw[gv,c2];rfl
    refine⟨lf,hs.rd 1 rfl (i:=0) rfl,lf,hs.rd 1 rfl (i:=0) rfl,?_⟩;refine (hs.rows 0 rfl (by omega)).nbI (by omega) (by omega) fun b95 o96 d gd u3=>?_;obtain⟨t',ht',rfl⟩:=natI_get gd;replace ht':Q[hd]?=some t':=ht';rw[ht] at ht';cases ht';refine⟨(t:Int),u3.hd,?_⟩;refine (hs.rows 2 rfl (by omega)).nbI (by omega) (by omega) fun b98 o99 w gw u4=>?_;replace gw:LF[t]?=some w:=gw;rw[hxx] at gw;cases gw;refine⟨(xx:Int),u4.hd,?_⟩;rw[w64 (by omega) (by omega)];refine hs.set 2 rfl (by omega) (x:=(p':Int)) (by omega) (by omega) ((xx:Int)+1) rfl rfl (fun b17 o18 h103 hs=>?_) rfl;have hs:St h h103 (mxL h2.size h10.size h1.size h.size b IN lf (LF.set p' ((xx:Int)+1)) q Q):=hs;refine hs.app 0 rfl app42 (m:=1) [inC (p':Int)] rfl rfl (fun r hr=>by rw[Ye] at hr;rw[hr];rfl) rfl (by omega) (by simp only[maxLen];omega) fun s105 h106 n105 hs=>?_;have hB':=hB.put ht hxx (by omega) (by omega) he het (s:=p') hef hvf;refine⟨_,?_,j+1,_,Q++[p'],by rw[w64 (by omega) (by omega)];omega,rfl,by omega,?_,hB',by rw[Yyi hdl];exact ht,?_,fun i r hi gr=>?_⟩
    .omega
    .have e9:(natI (Q++[p'])).map inC=(natI Q).map inC++[inC (p':Int)]:=by rw[natI_snoc,Ym];rfl
     unfold mxL;rw[e9];exact hs
    .rw[Yy (fun e9=>by subst e9;rw[hvf] at hxx;have:=Yyp hxx;unfold farN at this;omega)];exact hxx
    .by_cases e9:i=j
     .subst e9;rw[gp] at gr;cases gr;refine⟨(xx:Int)+1,?_,Int.le_refl _⟩;rw[Ys];exact Yq (by rw[hB.ln];omega)
     .obtain⟨y,h5,h6⟩:=hpr i r (by omega) gr;by_cases e10:p'=r.toNat
      .rw[<-e10,hvf] at h5;have:=Yyp h5;unfold farN at this;omega
      .exact⟨y,by rw[Yy e10];exact h5,h6⟩
   .refine⟨_,?_,j+1,LF,Q,by rw[w64 (by omega) (by omega)];omega,rfl,by omega,hs,hB,ht,hxx,fun i r hi gr=>?_⟩
    .omega
    .by_cases e9:i=j
     .subst e9;rw[gp] at gr;cases gr;refine⟨v,gv,hB.hi t p' _ v ht ((hB.q p').2 ⟨v,gv,c2⟩) hxx gv⟩
     .exact hpr i r (by omega) gr
  .refine⟨_,?_,hd+1,LF,Q,by rw[w64 (by omega) (by omega)];omega,rfl,by omega,hs,hB.next ht hxx fun e he het=>?_⟩
   .omega
   .obtain⟨i,hi⟩:=Yf.1 (inJ_mem.2 ⟨e,he,het,rfl⟩);have:=(Ya.1 hi).1;exact hpr i e.f (by omega) hi
 .have:hd=Q.length:=by omega
  subst this;exact hK h75 q LF Q hs (hB.weak (by omega))
theorem NC_i {a:Addr} {F:Addr->Prop} (h:F a):NC (some a) F:=h
theorem lop122 {h h20 h2 h10 h1:Heap} {b:Nat} {g:Gl} {role:Int} {X:An} {IN:List InR} {lf:Sl} {R:Value->Heap->Prop}
  (hs:St h h20 (mxL h2.size h10.size h1.size h.size b IN lf (List.replicate g.n.toNat 0) nilS [])) (hA:AnF h b g role X) (hV:ValidS g) (hI:IN_ g IN)
  (hK:∀(h75:Heap) (q:Sl) (LF:List Int) (Q:List Nat),St h h75 (mxL h2.size h10.size h1.size h.size b IN lf LF q Q)->BfQ g (MXx X) LF Q Q.length 1000->V97b h75 h h10 h1 R) :
  V97l h20 h10 h g.n h2 h1 R:=by
 unfold V97l;have hN:=hV.num.n;have hlfn:=(hs.len 2 (s:=lf) (e:=3) (n:=1) (rows:=(List.replicate g.n.toNat 0).map inC) rfl (by omega)).1;rw[Yc,Yg] at hlfn;refine⟨lf,hs.rd 1 rfl (i:=0) rfl,?_⟩;refine⟨fun q x h' μ=>∃(s:Nat) (LF:List Int) (Q:List Nat),x=(s:Int)/\μ=g.n.toNat-s/\s<=g.n.toNat/\St h h' (mxL h2.size h10.size h1.size h.size b IN lf LF q Q)/\LF.length=g.n.toNat/\(∀t:Nat,t<s->(MXx X t/\LF[t]?=some 0/\t∈Q)\/(¬MXx X t/\LF[t]?=some farN/\t∉Q))/\(∀t∈Q,t<s)/\Q.Nodup/\Q.length<=s,
  ⟨_,0,_,[],rfl,rfl,Nat.zero_le _,hs,by rw[Yg],fun t ht=>by omega,fun t ht=>(by cases ht),.nil,Yyt _⟩,?_⟩
 clear hs;rintro-q _ h46 μ ⟨s,LF,Q,rfl,rfl,hsn,hs,hLl,hall,hQs,hnd,hQl⟩;refine sBi (fun c=>?_) (fun c=>?_)
 .refine⟨lf,hs.rd 1 rfl (i:=0) rfl,?_⟩;refine hs.set 2 rfl (by omega) (x:=(s:Int)) (by omega) (by omega) farN rfl rfl (fun b17 o18 h50 hs=>?_) rfl;have hs:St h h50 (mxL h2.size h10.size h1.size h.size b IN lf (LF.set s farN) q Q):=hs;refine⟨some ⟨b,0,none⟩,hs.rd 5 rfl (i:=0) rfl,NC_i ⟨X.hfi,hc_ext hs.ext hA.r.f,?_⟩⟩;have hfn:=hA.r.rf.ln;have hnf:=hA.nf;refine (hA.r.rf.ext hs.ext).rw.nbI (by omega) (by omega) fun b54 o55 f gf u=>?_;replace gf:X.fi[s]?=some f:=gf;have hfl:=hA.r.re f (Yb gf);refine⟨f.s,f.b,u,?_⟩;refine (mixed174 f.l f.b f.s h50 (hfl.ext hs.ext).rw hfl.sm).mono ?_;rintro _ h60 ⟨rfl,E⟩;replace hs:=hs.step E;have hmx:MXx X s ↔ mxB f=true:=⟨fun ⟨f',h1,h2⟩=>by rw[gf] at h1;cases h1;exact h2,fun h9=>⟨f,gf,h9⟩⟩;have hall':∀(v:Int) (t:Nat),t<s->((LF.set s farN).set s v)[t]?=LF[t]?:=fun v t ht=>by rw[Yy (by omega),Yy (by omega)]
  refine⟨_,rfl,sB_intro (fun c2=>?_) (fun c2=>?_)⟩
  .refine⟨lf,hs.rd 1 rfl (i:=0) rfl,?_⟩;refine hs.set 2 rfl (by omega) (x:=(s:Int)) (by omega) (by omega) (0:Int) rfl rfl (fun b17 o18 h64 hs=>?_) rfl;have hs:St h h64 (mxL h2.size h10.size h1.size h.size b IN lf ((LF.set s farN).set s 0) q Q):=hs;have hqn:=(hs.len 0 (s:=q) (e:=3) (n:=1) (rows:=(natI Q).map inC) rfl (by omega)).1;rw[Yc] at hqn;have hqn2:q.n=Q.length:=by unfold natI at hqn;rwa [Yc] at hqn
   refine hs.app 0 rfl app42 (m:=1) [inC (s:Int)] rfl rfl (fun r hr=>by rw[Ye] at hr;rw[hr];rfl) rfl (by omega) (by simp only[maxLen];omega) fun s66 h67 n66 hs=>?_;refine⟨_,?_,s+1,(LF.set s farN).set s 0,Q++[s],by rw[w64 (by omega) (by omega)];omega,rfl,by omega,?_,by rw[Yyh,Yyh];exact hLl,fun t ht=>?_,fun t ht=>?_,?_,by rw[Yh,Yv];omega⟩
   .omega
   .have e9:(natI (Q++[s])).map inC=(natI Q).map inC++[inC (s:Int)]:=by rw[natI_snoc,Ym];rfl
    unfold mxL;rw[e9];exact hs
   .by_cases e:t=s
    .subst e;exact .inl ⟨hmx.2 c2,Yq (by rw[Yyh];omega),by simp⟩
    .rw[hall' 0 t (by omega),Yk,Ye];exact (hall t (by omega)).imp (fun ⟨h1,h2,h3⟩=>⟨h1,h2,.inl h3⟩) (fun ⟨h1,h2,h3⟩=>⟨h1,h2,fun h9=>h9.elim h3 e⟩)
   .rcases Yk.1 ht with ht | ht
    .have:=hQs t ht;omega
    .rw[Ye] at ht;omega
   .rw[List.nodup_append];exact⟨hnd,by simp,fun a ha b hb e=>by rw[Ye] at hb;have:=hQs a ha;omega⟩
  .refine⟨_,?_,s+1,LF.set s farN,Q,by rw[w64 (by omega) (by omega)];omega,rfl,by omega,hs,by rw[Yyh];exact hLl,fun t ht=>?_,fun t ht=>?_,hnd,by omega⟩
   .omega
   .by_cases e:t=s
    .subst e;exact .inr ⟨fun h9=>(by rw[hmx] at h9;unfold mxB at h9;rw[h9] at c2;cases c2),Yq (by omega),fun h9=>by have:=hQs t h9;omega⟩
    .rw[Yy (by omega)];exact hall t (by omega)
   .have:=hQs t ht;omega
 .have:s=g.n.toNat:=by omega
  subst this;exact bfs122 hs hV hI (.init hLl hall hQs hnd) hK
theorem mixed122a {b:Nat} {g:Gl} {role:Int} {X:An} {h:Heap} {R:Value->Heap->Prop} (hA:AnF h b g role X) (hV:ValidS g)
  (hK:∀(h75 h10 h1 h2:Heap) (IN:List InR) (lf q:Sl) (LF:List Int) (Q:List Nat),St h h75 (mxL h2.size h10.size h1.size h.size b IN lf LF q Q)->BfQ g (MXx X) LF Q Q.length 1000->V97b h75 h h10 h1 R) :
  Fn Pz 97 #[.pointer (some ⟨b,0,none⟩)] h R:=by
 apply vc97 ⟨b,0,none⟩;unfold W97;have hN:=hV.num.n;have hM:=hV.num.m;have hE:=hV.num.e;have hg:=hA.gg.gi;have hen:=hg.e.ln;have hmx:g.n.toNat<=9223372036854775807:=by omega
 refine (St.refl h).newb fun h1 hs=>?_;refine hs.newb fun h2 hs=>?_;refine⟨some ⟨b,0,none⟩,hs.rd 1 rfl (i:=0) rfl,NC_i ⟨g.n,hc_ext hs.ext (hA.gg.at_.nth 3 rfl),⟨by omega,by omega,by omega⟩,?_⟩⟩;refine hs.newb fun h6 hs=>?_;refine⟨some ⟨b,0,none⟩,hs.rd 2 rfl (i:=0) rfl,NC_i ⟨g.n,hc_ext hs.ext (hA.gg.at_.nth 3 rfl),⟨by omega,by omega,by omega⟩,?_⟩⟩;refine hs.newb fun h10 hs=>?_;refine hs.newput (vs:=[.slice (some ⟨h6.size,0,none⟩) g.n.toNat g.n.toNat]) rfl rfl fun h12 hs=>?_;have hs:=hs.blkAt 1 rfl g.n.toNat 1 ((List.replicate g.n.toNat (0:Int)).map inC) (made3c _) (inC_rows _) (by rw[Yc,Yg]) hmx;have hs:=hs.nil_ 3 1;have hs:=hs.nests (α:=Int) (e:=3) (k:=1) (cs:=inC) (A:=[_,_,_,_,_,_]) (B:=[]) g.n.toNat;generalize hlf:(⟨some ⟨h6.size,0,none⟩,g.n.toNat,g.n.toNat⟩:Sl)=lf at *;have hs:St h h12 (mxL h2.size h10.size h1.size h.size b (List.replicate g.n.toNat (nilS,[])) lf (List.replicate g.n.toNat 0) nilS []):=by
  subst hlf;unfold mxL;rw[List.map_replicate (f:=Prod.fst),<-made42v];exact hs
 clear hlf;refine⟨some ⟨b,0,none⟩,hs.rd 5 rfl (i:=0) rfl,NC_i ⟨g.he,hc_ext hs.ext (hA.gg.at_.nth 6 rfl),?_⟩⟩;refine⟨fun x h' μ=>∃(j:Nat) (IN:List InR),x=(j:Int)/\μ=g.es.length-j/\j<=g.es.length/\IN.map Prod.snd=((List.range g.n.toNat).map (inJ (g.es.take j)))/\St h h' (mxL h2.size h10.size h1.size h.size b IN lf (List.replicate g.n.toNat 0) nilS []),
  ⟨_,0,_,rfl,rfl,Nat.zero_le _,?_,hs⟩,?_⟩
 .rw[List.map_replicate];apply Yyr;intro s;rw[List.getElem?_replicate,Yd];by_cases hs:s<g.n.toNat
  .rw[if_pos hs,Yyb hs];rfl
  .rw[if_neg hs,Yl (by rw[Yyd];omega)];rfl
 clear hs;rintro-_ h20 μ ⟨j,IN,rfl,rfl,hj,hIN,hs⟩;have hIl:IN.length=g.n.toNat:=by have:=congrArg List.length hIN;simpa using this
 refine sBi (fun c=>?_) (fun c=>?_)
 .refine (hg.e.rw.ext hs.ext).nbI (by omega) (by omega) fun b21 o22 x gx u=>?_;replace gx:g.es[j]?=some x:=gx;have hxe:=hE x (Yb gx);unfold EdS at hxe;obtain⟨q,hq⟩:=get_some (l:=IN) (i:=x.t.toNat) (by omega);refine⟨_,_,_,_,_,_,u,?_⟩;refine hs.newput (vs:=x.cs) rfl rfl fun h30 hs=>?_;refine⟨x.t,hs.rd 0 rfl (i:=4) rfl,x.t,hs.rd 0 rfl (i:=4) rfl,⟨by omega,by omega⟩,?_⟩;rw[show 0+Int.toNat x.t*1=x.t.toNat by omega];refine⟨q.1,hs.rd 4 rfl (by rw[Yd,Yd,hq];rfl),x.f,hs.rd 0 rfl (i:=0) rfl,?_⟩;refine hs.newbE fun h35 E35 hs=>⟨E35.sm,?_⟩;have hs:St h h35 ((.blk h30.size [.int .i64 x.f] 3 :: .blk h20.size x.cs 67::[.sl nilS 3 1 ((natI []).map inC),.blk h10.size [.slice lf.a lf.n lf.c] 102,.sl lf 3 1 ((List.replicate g.n.toNat 0).map inC),.blk h2.size ((IN.map Prod.fst).map slV) 102,.blk h1.size wt0.cs 35,.blk h.size [.pointer (some ⟨b,0,none⟩)] 89])++IN.map (nest 3 1 inC)++[]):=hs;have hqn:=(hs.nestLn hq (by omega)).ln;have hq2:q.2=inJ (g.es.take j) x.t.toNat:=by
   have h1:=map_range_get hIN (s:=x.t.toNat) (by omega);rw[Yd,hq] at h1;exact Yyp h1
  have hql:q.2.length<=400:=by rw[hq2];refine Yys (inJ_len _ _) ?_;rw[Yu];omega
  refine hs.nestAt hq app42 x.f (hs.at 0 rfl (o:=0) (n:=1) rfl) rfl rfl (by omega) (by simp only[maxLen];omega) fun r h37 hr hs3=>?_;refine⟨sm_cons (hs.same hs3 1 1 rfl rfl) sm_nil,⟨by omega,by omega⟩,?_⟩;refine hs3.put 5 rfl (o:=x.t.toNat) (vs:=[slV r]) rfl (by rw[Yc,Yc,Yv];omega) fun h38 hs=>?_;rw[map_splice slV (by rw[Yc];omega)] at hs;refine⟨_,by omega,j+1,IN.set x.t.toNat (r,q.2++[x.f]),by rw[w64 (by omega) (by omega)];omega,rfl,by omega,?_,?_⟩
  .rw[List.map_set,hIN];refine range_set (by omega) ?_ fun t ht=>?_
   .unfold inJ;rw[take_snoc gx,List.filter_append,Ym,hq2];unfold inJ;rw[List.filter_cons_of_pos (by rw[decide_eq_true_eq];omega)];rfl
   .unfold inJ;rw[take_snoc gx,List.filter_append,Ym,List.filter_cons_of_neg (by rw[decide_eq_true_eq];omega)];exact Yw _
  .have hs:=hs.drop 2;unfold mxL;rw[List.map_set (f:=Prod.fst)];exact hs
 .rw[Yj (by omega)] at hIN;exact lop122 hs hA hV ⟨hIN⟩ fun h75 q LF Q hs hB=>hK h75 h10 h1 h2 IN lf q LF Q hs hB
inductive GS (es:List Ed) (LF:List Int) (s0:Nat):List Nat->Nat->Prop
 | nil:GS es LF s0 [] s0
 | snoc {ks:List Nat} {s:Nat} {x:Int} {j i:Nat}:GS es LF s0 ks s->LF[s]?=some x->0<x->(outG es (s:Nat)).findIdx? (okE LF es x)=some j->(outG es (s:Nat))[j]?=some i->GS es LF s0 (ks++[i]) (eA es i).t.toNat
def eacts (es:List Ed) (ks:List Nat):List Ac:=ks.map fun i=>(eA es i).act
def otE (role:Int) (l:List Ev):Evn:=(l.find? fun x=>!x.send).elim ⟨-1,false,0,0⟩ (fullE role)
def mgL (wb sb:Nat) (role:Int) (wf:Sl) (s:Nat) (F:List Ac) (R:List It):List It:=
 .sl wf 65 3 (F.map Ac.cs) :: .blk wb (Wt.cs ⟨2,role,wf,nilS,evn0,evn0⟩) 35 :: .blk sb [.int .i64 (s:Nat)] 3::R
theorem exit122 {h148 h h75 h114 h1 h2 h10:Heap} {b:Nat} {g:Gl} {role:Int} {X:An} {wf lf q:Sl} {s:Nat} {F:List Ac} {IN:List InR} {LF:List Int} {Q:List Nat} {f:Fs} {x139:Int} {R:Value->Heap->Prop}
  (hs:St h h148 (mgL h114.size h75.size role wf s F (mxL h2.size h10.size h1.size h.size b IN lf LF q Q))) (hA:AnF h b g role X) (hf:X.fi[s]?=some f) (hm:mxB f=true)
  (hK:∀(h':Heap) (w:Wt) (e0:Ev) (L:List It),w.k=2->w.r=role->f.l[0]?=some e0->w.e=fullE role e0->w.o=otE role f.l->St h h' (.sl w.f 65 3 (F.map Ac.cs) :: .sl w.s 65 3 (([]:List Ac).map Ac.cs)::L)->R (.tuple ⟨[.agg ⟨w.cs⟩,.int .i64 (IntKind.wrap .i64 (2*x139))]⟩) h') :
  V97c h148 h h75 h114 h1 R x139:=by
 unfold V97c;have hro:hc h ⟨b,8,none⟩=some (Value.int .i64 role):=hA.r.ro;have hfn:=hA.r.rf.ln;have hsl:=(Ya.1 hf).1;have hfl:=hA.r.re f (Yb hf);have hfln:=hfl.ln;have hl0:0<f.l.length:=by
  rcases Nat.eq_zero_or_pos f.l.length with h9 | h9
  .rw[List.length_eq_zero_iff] at h9;unfold mxB sndAt at hm;simp[h9] at hm
  .exact h9
 refine⟨some ⟨b,0,none⟩,hs.rd 8 rfl (i:=0) rfl,NC_i ⟨X.hfi,hc_ext hs.ext hA.r.f,(s:Nat),hs.rd 2 rfl (i:=0) rfl,?_⟩⟩;refine (hA.r.rf.ext hs.ext).rw.nbI (by omega) (by omega) fun b54 o55 f' gf u=>?_;replace gf:X.fi[s]?=some f':=gf;rw[hf] at gf;cases gf;refine⟨f.s,f.b,u,?_⟩;refine hs.newbE fun h233 E hs=>⟨E.sm,?_⟩;refine hs.put 0 rfl (o:=0) (vs:=f.cs) rfl (Yyt 2) fun h234 hs=>?_;refine⟨some ⟨b,0,none⟩,hs.rd 9 rfl (i:=0) rfl,f.s,hs.rd 0 rfl (i:=0) rfl,?_⟩;refine (hfl.ext hs.ext).rw.nbI (by omega) (by omega) fun b237 o238 e0 ge u2=>?_;replace ge:f.l[0]?=some e0:=ge;refine⟨e0.send,e0.peer,e0.label,u2,?_⟩;refine (full172 b role e0 h234 (hc_ext hs.ext hro)).mono ?_;rintro _ h248 ⟨E2,rfl⟩;replace hs:=hs.step E2;refine⟨role,e0.send,e0.peer,e0.label,nilS,rfl,?_⟩;refine hs.put 2 rfl (o:=4) (vs:=(fullE role e0).cs) rfl (by show 4+5<=14;decide) fun h249 hs=>?_;refine hs.put 2 rfl (o:=9) (vs:=Evn.cs ⟨-1,false,0,0⟩) rfl (by show 9+5<=14;decide) fun h250 hs=>?_;refine⟨f.s,hs.rd 0 rfl (i:=0) rfl,?_⟩;refine (index177 f.l f.s h250 (hfl.ext hs.ext).rw hfl.sm).mono ?_;rintro _ h254 ⟨rfl,E3⟩;replace hs:=hs.step E3;refine⟨_,rfl,?_⟩;unfold ixI;cases hix:f.l.findIdx? fun x=>!x.send with
 | none=>
  have hot:otE role f.l=⟨-1,false,0,0⟩:=by
   unfold otE;rw[List.findIdx?_eq_none_iff] at hix;rw[find_no fun j y hj=>hix y (Yb hj)];rfl
  refine sBi (fun c=>absurd c (by show ¬(-1:Int)>=0;decide)) (fun _=>?_);refine cpW hs 2 8 (w:=⟨2,role,wf,nilS,fullE role e0,⟨-1,false,0,0⟩⟩) (w0:=wt0) rfl rfl fun h86 hs=>?_;refine rdW (w:=⟨2,role,wf,nilS,fullE role e0,⟨-1,false,0,0⟩⟩) (Q:=fun cs=>R (.tuple ⟨[.agg ⟨cs⟩,.int .i64 (IntKind.wrap .i64 (2*x139))]⟩) h86) (hs.at 8 rfl (o:=0) (n:=14) rfl) ?_;have hs:=(hs.drop 1).nil_ 65 3;exact hK h86 ⟨2,role,wf,nilS,fullE role e0,⟨-1,false,0,0⟩⟩ e0 _ rfl rfl ge rfl hot.symm (hs.perm (List.Perm.swap _ _ _))
 | some i=>
  obtain⟨h1i,h2i,h3i⟩:=List.findIdx?_eq_some_iff_getElem.1 hix;obtain⟨e1,he1⟩:=get_some h1i;have he1':=(Ya.1 he1).2;have hot:otE role f.l=fullE role e1:=by
   unfold otE;rw[find_at f.l i e1 (fun j y hj hy=>?_) he1 (by rw[<-he1'];exact h2i)]
   .rfl
   .have h9:=h3i j hj;rw[(Ya.1 hy).2] at h9;simpa using h9
  refine sBi (fun c=>?_) (fun c=>absurd (Int.natCast_nonneg i) c);refine⟨some ⟨b,0,none⟩,hs.rd 9 rfl (i:=0) rfl,f.s,hs.rd 0 rfl (i:=0) rfl,?_⟩;refine (hfl.ext hs.ext).rw.nbI (x:=(i:Int)) (by omega) (by omega) fun b257 o258 e1' ge1 u3=>?_;replace ge1:f.l[i]?=some e1':=ge1;rw[he1] at ge1;cases ge1;refine⟨e1.send,e1.peer,e1.label,u3,?_⟩;refine (full172 b role e1 h254 (hc_ext hs.ext hro)).mono ?_;rintro _ h268 ⟨E4,rfl⟩;replace hs:=hs.step E4;refine⟨role,e1.send,e1.peer,e1.label,nilS,rfl,?_⟩;refine hs.put 2 rfl (o:=9) (vs:=(fullE role e1).cs) rfl (by show 9+5<=14;decide) fun h269 hs=>?_;refine cpW hs 2 8 (w:=⟨2,role,wf,nilS,fullE role e0,fullE role e1⟩) (w0:=wt0) rfl rfl fun h86 hs=>?_;refine rdW (w:=⟨2,role,wf,nilS,fullE role e0,fullE role e1⟩) (Q:=fun cs=>R (.tuple ⟨[.agg ⟨cs⟩,.int .i64 (IntKind.wrap .i64 (2*x139))]⟩) h86) (hs.at 8 rfl (o:=0) (n:=14) rfl) ?_;have hs:=(hs.drop 1).nil_ 65 3;exact hK h86 ⟨2,role,wf,nilS,fullE role e0,fullE role e1⟩ e0 _ rfl rfl ge rfl hot.symm (hs.perm (List.Perm.swap _ _ _))
theorem step122 {h148 h h75 h114 h1 h2 h10:Heap} {b:Nat} {g:Gl} {role:Int} {X:An} {wf lf q:Sl} {s j i:Nat} {x15:Int} {F:List Ac} {IN:List InR} {LF:List Int} {Q:List Nat} {m147:Nat} {I145:Heap->Nat->Prop}
  (hs:St h h148 (mgL h114.size h75.size role wf s F (mxL h2.size h10.size h1.size h.size b IN lf LF q Q))) (hA:AnF h b g role X) (hV:ValidS g) (hL:LF.length=g.n.toNat) (hsn:s<g.n.toNat) (hx:LF[s]?=some x15) (hxb:0<=x15/\x15<=farN)
  (hix:(outG g.es (s:Nat)).findIdx? (okE LF g.es x15)=some j) (gi:(outG g.es (s:Nat))[j]?=some i) (hF:F.length<=8388608)
  (hI:∀(h':Heap) (wf':Sl),St h h' (mgL h114.size h75.size role wf' (eA g.es i).t.toNat (F++[(eA g.es i).act]) (mxL h2.size h10.size h1.size h.size b IN lf LF q Q))->∃m9,m9<m147/\I145 h' m9):V97s h148 h h75 h10 h114 m147 I145:=by
 unfold V97s;have hN:=hV.num.n;have hE:=hV.num.e;have hg:=hA.gg.gi;have hen:=hg.e.ln;have hol:=outG_len g.es (s:Nat);have hM:=hV.num.m;have hros:Rw h 1 (X.os s) ((natI (outG g.es (s:Nat))).map inC):=hA.gg.rs s hsn;have hron:=hros.ln;have hron2:(X.os s).n=(outG g.es (s:Nat)).length:=by rw[hron];exact Yc _
 have hhon:=hA.gg.ro.ln;rw[Yyd] at hhon;have hjl:=(Ya.1 gi).1;obtain⟨x,hxi,hxf⟩:=outG_mem.1 (Yb gi);have hil:=(Ya.1 hxi).1;have hxe:=eA_get hxi;have hxE:=hE x (Yb hxi);unfold EdS at hxE;rw[hxe] at hI;have htt:((x.t.toNat:Nat):Int)=x.t:=by omega
 have hk9:ixI (okE LF g.es x15) (outG g.es (s:Nat))=(j:Int):=by unfold ixI;rw[hix]
 have hkl:∀k∈outG g.es (s:Nat),k<g.es.length:=fun k hk=>by
  obtain⟨y,hy,_⟩:=outG_mem.1 hk;exact (Ya.1 hy).1
 have hEt:∀y∈g.es,0<=y.t/\y.t.toNat<LF.length:=fun y hy=>by have:=hE y hy;unfold EdS at this;rw[hL];omega
 have hrow:∀ {hX:Heap},Ext h hX->∀ {F:Nat->Nat->Prop},(∀bb o,hc hX ⟨bb,o+Int.toNat ((s:Nat):Int)*1,none⟩=some (slV (X.os s))->F bb o)->NB X.ho.a fun bb o=>(0<=((s:Nat):Int)/\((s:Nat):Int)<(X.ho.n:Nat))/\F bb o:=fun {hX} E {F} hF=>by
  refine (hA.gg.ro.ext E).nbI (by omega) (by omega) fun bb o d gd u=>hF bb o ?_;replace gd:(List.range g.n.toNat)[s]?=some d:=gd;rw[Yyb hsn] at gd;cases gd;exact u.hd
 refine⟨some ⟨b,0,none⟩,hs.rd 8 rfl (i:=0) rfl,NC_i ⟨g.he,hc_ext hs.ext (hA.gg.at_.nth 6 rfl),?_⟩⟩;refine⟨some ⟨b,0,none⟩,hs.rd 8 rfl (i:=0) rfl,NC_i ⟨X.ho,hc_ext hs.ext (hA.gg.at_.nth 9 rfl),?_⟩⟩;refine⟨(s:Nat),hs.rd 2 rfl (i:=0) rfl,hrow hs.ext fun b161 o162 hr1=>⟨X.os s,hr1,?_⟩⟩;refine⟨some ⟨b,0,none⟩,hs.rd 8 rfl (i:=0) rfl,NC_i ⟨X.ho,hc_ext hs.ext (hA.gg.at_.nth 9 rfl),?_⟩⟩;refine⟨(s:Nat),hs.rd 2 rfl (i:=0) rfl,hrow hs.ext fun b168 o169 hr2=>⟨X.os s,hr2,?_⟩⟩;have hlfn:(0:Nat)<1:=by decide
 refine⟨?_,?_⟩;refine (index175 b g (outG g.es (s:Nat)) LF lf s x15 ⟨h10.size,0,none⟩ ⟨h.size,0,none⟩ ⟨h75.size,0,none⟩ (X.os s) h148 (hros.ext hs.ext) (by omega) (hs.rd 4 rfl (i:=0) rfl) (hs.rd 8 rfl (i:=0) rfl) (hs.rd 2 rfl (i:=0) rfl) (hc_ext hs.ext (hA.gg.at_.nth 6 rfl)) (hg.ext hs.ext) (hs.rows 5 rfl (by omega)) hkl hEt hx hxb).mono ?_;rintro _ h173 ⟨rfl,E⟩;replace hs:=hs.step E;rw[hk9];refine⟨_,rfl,E.sm,?_⟩;refine (hros.ext hs.ext).nbI (by omega) (by omega) fun b174 o175 d gd u=>?_;obtain⟨i',gi',rfl⟩:=natI_get gd;replace gi':(outG g.es (s:Nat))[j]?=some i':=gi';rw[gi] at gi';cases gi';refine⟨(i:Int),u.hd,?_⟩;refine (hg.e.rw.ext hs.ext).nbI (by omega) (by omega) fun b177 o178 x' gx u2=>?_;replace gx:g.es[i]?=some x':=gx;rw[hxi] at gx;cases gx;refine⟨_,_,_,_,_,_,u2,?_⟩;refine hs.newbE fun h185 E185 hs=>⟨E185.sm,?_⟩;rotate_left;refine hs.newbE fun h198 E198 hs=>⟨E198.sm,?_⟩;refine (index175 b g (outG g.es (s:Nat)) LF lf s x15 ⟨h10.size,0,none⟩ ⟨h.size,0,none⟩ ⟨h75.size,0,none⟩ (X.os s) h198 (hros.ext hs.ext) (by omega) (hs.rd 5 rfl (i:=0) rfl) (hs.rd 9 rfl (i:=0) rfl) (hs.rd 3 rfl (i:=0) rfl) (hc_ext hs.ext (hA.gg.at_.nth 6 rfl)) (hg.ext hs.ext) (hs.rows 6 rfl (by omega)) hkl hEt hx hxb).mono ?_;rintro _ h173 ⟨rfl,E⟩;replace hs:=hs.step E;rw[hk9];refine⟨_,rfl,E.sm,?_⟩;refine (hros.ext hs.ext).nbI (by omega) (by omega) fun b174 o175 d gd u=>?_;obtain⟨i',gi',rfl⟩:=natI_get gd;replace gi':(outG g.es (s:Nat))[j]?=some i':=gi';rw[gi] at gi';cases gi';refine⟨(i:Int),u.hd,?_⟩;refine (hg.e.rw.ext hs.ext).nbI (by omega) (by omega) fun b177 o178 x' gx u2=>?_;replace gx:g.es[i]?=some x':=gx;rw[hxi] at gx;cases gx;refine⟨_,_,_,_,_,_,u2,?_⟩;all_goals
  refine hs.put 0 rfl (o:=0) (vs:=x.cs) rfl (Yyt 6) fun h186 hs=>?_;refine⟨wf,hs.rd 2 rfl (i:=2) rfl,x.a,x.b,x.l,hs.at 0 rfl (o:=1) (n:=3) rfl,fun h191 e2=>?_⟩;refine hs.appgB 2 1 rfl rfl app48 (x:=x.act) e2 rfl rfl (by omega) (by decide) 2 (by show 2<14;decide) (by decide) fun s' h194 hs=>?_;refine⟨x.t,hs.rd 0 rfl (i:=4) rfl,?_⟩;refine hs.put 3 rfl (o:=0) (vs:=[.int .i64 x.t]) rfl (Yyt 1) fun h196 hs=>hI h196 s' ?_;have hs:=hs.drop 1;unfold mgL;rw[htt];exact hs
def LFok (g:Gl) (MX:Nat->Prop) (LF:List Int):Prop:=∀s:Nat,s<g.n.toNat->(LF[s]?=some farN/\∀k,¬DnS g.es MX s k)\/∃k:Nat,LF[s]?=some (k:Int)/\LstS g.es MX s k/\k<=1000
inductive MxR (g:Gl) (role:Int) (X:An) (h h':Heap):Value->Prop
 | far (hn:∀n,¬DnS g.es (MXx X) g.s.toNat n) (E:Ext h h'):MxR g role X h h' (.tuple ⟨[.agg ⟨wt0.cs⟩,.int .i64 farI]⟩)
 | hit {n:Nat} {LF:List Int} {ks:List Nat} {s:Nat} {f:Fs} {e0:Ev} {w:Wt} {L:List It} (hl:LstS g.es (MXx X) g.s.toNat n) (hn:n<=1000) (hF:LFok g (MXx X) LF) (hG:GS g.es LF g.s.toNat ks s) (h0:LF[s]?=some 0) (hf:X.fi[s]?=some f) (hm:mxB f=true)
   (hk:w.k=2) (hr:w.r=role) (hf0:f.l[0]?=some e0) (he:w.e=fullE role e0) (ho:w.o=otE role f.l)
   (hs:St h h' (.sl w.f 65 3 ((eacts g.es ks).map Ac.cs) :: .sl w.s 65 3 (([]:List Ac).map Ac.cs)::L)):MxR g role X h h' (.tuple ⟨[.agg ⟨w.cs⟩,.int .i64 ((2*n:Nat):Int)]⟩)
theorem mixed122 (b:Nat) (g:Gl) (role:Int) (X:An) (h:Heap) (hA:AnF h b g role X) (hV:ValidS g):Fn Pz 97 #[.pointer (some ⟨b,0,none⟩)] h fun v h'=>MxR g role X h h' v:=by
 refine mixed122a hA hV fun h75 h10 h1 h2 IN lf q LF Q hs hB=>?_;unfold V97b;have hN:=hV.num.n;have hE:=hV.num.e;have hE2:∀e∈g.es,0<=e.f/\0<=e.t/\e.t<g.n:=fun e he=>by have:=hE e he;unfold EdS at this;omega
 have hLF:LFok g (MXx X) LF:=fun s hs=>hB.lst (by decide) hE2 hs;have hLl:=hB.ln;have hlfn:=(hs.len 2 (s:=lf) (e:=3) (n:=1) (rows:=LF.map inC) rfl (by omega)).1;rw[Yc,hLl] at hlfn;have hss:((g.s.toNat:Nat):Int)=g.s:=Int.toNat_of_nonneg (by omega);refine⟨some ⟨b,0,none⟩,hs.rd 5 rfl (i:=0) rfl,NC_i ⟨g.s,hc_ext hs.ext (hA.gg.at_.nth 4 rfl),?_⟩⟩;refine hs.newput (vs:=[.int .i64 g.s]) rfl rfl fun h114 hs=>?_;refine⟨lf,hs.rd 2 rfl (i:=0) rfl,g.s,hs.rd 0 rfl (i:=0) rfl,?_⟩;refine (hs.rows 3 rfl (by omega)).nbI (by omega) (by omega) fun b117 o118 d gd u=>?_;replace gd:LF[g.s.toNat]?=some d:=gd;refine⟨d,u.hd,sBe (fun c=>?_) (fun c=>?_)⟩
 .subst c;have hno:∀n,¬DnS g.es (MXx X) g.s.toNat n:=by
   rcases hLF g.s.toNat (by omega) with ⟨_,h9⟩ | ⟨k,h9,_,hk⟩
   .exact h9
   .rw[gd] at h9;have:=Yyp h9;omega
  refine hs.put 5 rfl (o:=0) (vs:=wt0.cs) rfl (Yyt 14) fun h17 hs=>?_;refine rdW (w:=wt0) (Q:=fun cs=>MxR g role X h h17 (.tuple ⟨[.agg ⟨cs⟩,.int .i64 1073741824]⟩)) (hs.at 5 rfl (o:=0) (n:=14) rfl) ?_;exact .far hno hs.ext
 .obtain⟨n,hn0,hnl,hn1⟩:∃k:Nat,LF[g.s.toNat]?=some (k:Int)/\LstS g.es (MXx X) g.s.toNat k/\k<=1000:=by
   rcases hLF g.s.toNat (by omega) with ⟨h9,_⟩ | h9
   .rw[gd] at h9;exact absurd (Yyp h9) c
   .exact h9
  refine⟨lf,hs.rd 2 rfl (i:=0) rfl,g.s,hs.rd 0 rfl (i:=0) rfl,?_⟩;refine (hs.rows 3 rfl (by omega)).nbI (by omega) (by omega) fun b117 o118 d' gd' u=>?_;replace gd':LF[g.s.toNat]?=some d':=gd';rw[hn0] at gd';cases gd';refine⟨(n:Int),u.hd,some ⟨b,0,none⟩,hs.rd 6 rfl (i:=0) rfl,NC_i ⟨role,hc_ext hs.ext hA.r.ro,?_⟩⟩;refine hs.newput (vs:=Wt.cs ⟨2,role,nilS,nilS,evn0,evn0⟩) rfl rfl fun h144 hs=>?_;have hs:=hs.nil_ 65 3;refine⟨fun h' μ=>∃(ks:List Nat) (s k:Nat) (wf:Sl),k=μ/\s<g.n.toNat/\LF[s]?=some (k:Int)/\St h h' (mgL h114.size h75.size role wf s (eacts g.es ks) (mxL h2.size h10.size h1.size h.size b IN lf LF q Q))/\GS g.es LF g.s.toNat ks s/\ks.length+k<=1000,⟨_,[],g.s.toNat,n,nilS,rfl,by omega,hn0,?_,.nil,by simp only[List.length_nil];omega⟩,?_⟩
  .unfold mgL;rw[hss];exact hs
  clear hs u c gd;rintro-h148 μ ⟨ks,s,k,wf,rfl,hsn,hsk,hs,hG,hkl⟩;have hel:(eacts g.es ks).length=ks.length:=Yc _;refine⟨lf,hs.rd 4 rfl (i:=0) rfl,(s:Nat),hs.rd 2 rfl (i:=0) rfl,?_⟩;refine (hs.rows 5 rfl (by omega)).nbI (by omega) (by omega) fun b151 o152 v gv u=>?_;replace gv:LF[s]?=some v:=gv;rw[hsk] at gv;cases gv;have hLs:LstS g.es (MXx X) s k:=by
   rcases hLF s hsn with ⟨h9,_⟩ | ⟨k',h9,h10,_⟩
   .rw[hsk] at h9;have:=Yyp h9;unfold farN at this;omega
   .rw[hsk] at h9;have:=Yyp h9;have:k=k':=by omega
    subst this;exact h10
  refine⟨(k:Int),u.hd,sBi (fun c=>?_) (fun c=>?_)⟩
  .obtain⟨k',rfl⟩:∃k',k=k'+1:=⟨k-1,by omega⟩;obtain⟨e,he,hef,hel9⟩:=hLs.next;have hxe:=hE e he;unfold EdS at hxe;have hLe:LF[e.t.toNat]?=some (k':Int):=by
    rcases hLF e.t.toNat (by omega) with ⟨_,h9⟩ | ⟨k2,h9,h10,_⟩
    .exact absurd hel9.1 (h9 _)
    .rw[hel9.uniq h10];exact h9
   obtain⟨i0,hi0⟩:=Yf.1 he;have hmo:i0∈outG g.es (s:Nat):=outG_mem.2 ⟨e,hi0,hef⟩;have hok:okE LF g.es ((k'+1:Nat):Int) i0=true:=by
    unfold okE;rw[eA_get hi0,Yo,hLe];exact decide_eq_true (by simp only[Option.getD_some];omega)
   cases hix:(outG g.es (s:Nat)).findIdx? (okE LF g.es ((k'+1:Nat):Int)) with
   | none=>
    rw[List.findIdx?_eq_none_iff] at hix;rw[hix i0 hmo] at hok;cases hok
   | some j=>
    obtain⟨h1j,h2j,_⟩:=List.findIdx?_eq_some_iff_getElem.1 hix;obtain⟨i,gi⟩:=get_some h1j;have hi2:=(Ya.1 gi).2;rw[hi2] at h2j;obtain⟨x,hxi,hxf⟩:=outG_mem.1 (Yb gi);have hxE:=hE x (Yb hxi);unfold EdS at hxE;have hLx:LF[(eA g.es i).t.toNat]?=some (k':Int):=by
     have h3:LF.getD (eA g.es i).t.toNat 0=((k'+1:Nat):Int)-1:=Yyn h2j;rw[eA_get hxi] at h3 ⊢;obtain⟨y,hy⟩:=get_some (l:=LF) (i:=x.t.toNat) (by omega);rw[Yo,hy] at h3;simp only[Option.getD_some] at h3;rw[hy];congr 1;omega
    refine step122 hs hA hV hLl hsn hsk ⟨by omega,by unfold farN;omega⟩ hix gi (by omega) fun h' wf' hs=>⟨k',by omega,ks++[i],(eA g.es i).t.toNat,k',wf',rfl,by rw[eA_get hxi];omega,hLx,?_,.snoc hG hsk (by omega) hix gi,by rw[Yh,Yv];omega⟩;have e9:eacts g.es (ks++[i])=eacts g.es ks++[(eA g.es i).act]:=by unfold eacts;rw[Ym];rfl
    rw[e9];exact hs
  .have hk0:k=0:=by omega
   subst hk0;obtain⟨f,hf,hm⟩:MXx X s:=by
    have h9:=hLs.1;cases h9 with
    | base hm=>exact hm
   refine exit122 hs hA hf hm fun h' w e0 L h1 h2 h3 h4 h5 hs=>?_;have hw:IntKind.wrap .i64 (2*(n:Int))=((2*n:Nat):Int):=by rw[w64 (by omega) (by omega)];omega
   rw[hw];exact .hit hnl hn1 hLF hG hsk hf hm h1 h2 h3 h4 h5 hs
theorem St.subp {h0 h:Heap} {L L' R:List It} (hs:St h0 h L) (hp:L.Perm (L'++R)):St h0 h L':=by
 have h1:=(hs.perm (hp.trans List.perm_append_comm)).drop R.length
 rwa [List.drop_left] at h1
structure WS where
 k:Int
 r:Int
 F:List Ac
 S:List Ac
 e:Evn
 o:Evn
def ws0:WS:=⟨0,0,[],[],evn0,evn0⟩
inductive BpP (g:Gl) (role kind:Int) (X:An):WS->Int->Prop
 | far (hn:∀n,¬Lst (mvP g role) (cstN X kind) (p00 g) n):BpP g role kind X ws0 farI
 | hit {n:Nat} {D:Pr->Int} {ms:List Pmv} {p:Pr} (hl:Lst (mvP g role) (cstN X kind) (p00 g) n) (hn:n<=8388608) (hD:∀q,Prr g role q->D q=dL (mvP g role) (cstN X kind) q) (hG:GTo (mvP g role) (cstS X kind) D (p00 g) ms p) (hc:cstS X kind p=some (D p)) :
   BpP g role kind X ⟨kind,role,(exW g role kind X (facts g ms) p).1,sacts g ms,(exW g role kind X (facts g ms) p).2.1,(exW g role kind X (facts g ms) p).2.2⟩ (n:Int)
inductive MxP (g:Gl) (role:Int) (X:An):WS->Int->Prop
 | far (hn:∀n,¬DnS g.es (MXx X) g.s.toNat n):MxP g role X ws0 farI
 | hit {n:Nat} {LF:List Int} {ks:List Nat} {s:Nat} {f:Fs} {e0:Ev} (hl:LstS g.es (MXx X) g.s.toNat n) (hn:n<=1000) (hF:LFok g (MXx X) LF) (hG:GS g.es LF g.s.toNat ks s) (h0:LF[s]?=some 0) (hf:X.fi[s]?=some f) (hm:mxB f=true) (hf0:f.l[0]?=some e0) :
   MxP g role X ⟨2,role,eacts g.es ks,[],fullE role e0,otE role f.l⟩ ((2*n:Nat):Int)
def WOut (h h':Heap) (W:WS) (n:Int) (v:Value):Prop:=∃w:Wt,w.k=W.k/\w.r=W.r/\w.e=W.e/\w.o=W.o/\v=.tuple ⟨[.agg ⟨w.cs⟩,.int .i64 n]⟩/\∃L,St h h' (.sl w.f 65 3 (W.F.map Ac.cs) :: .sl w.s 65 3 (W.S.map Ac.cs)::L)
theorem WOut.zero {h h':Heap} (E:Ext h h') (n:Int):WOut h h' ws0 n (.tuple ⟨[.agg ⟨wt0.cs⟩,.int .i64 n]⟩):=
 ⟨wt0,rfl,rfl,rfl,rfl,rfl,[],((((St.refl h).step E).nil_ 65 3).nil_ 65 3)⟩
theorem BpR.out {g:Gl} {role kind:Int} {X:An} {h h':Heap} {v:Value} (hr:BpR g role kind X h h' v):∃W n,BpP g role kind X W n/\WOut h h' W n v:=by
 cases hr with
 | far hn E=>exact⟨_,_,.far hn,.zero E _⟩
 | hit hl hn hD hG hc hk hr he ho hs=>exact⟨_,_,.hit hl hn hD hG hc,_,hk,hr,he,ho,rfl,_,hs⟩
theorem MxR.out {g:Gl} {role:Int} {X:An} {h h':Heap} {v:Value} (hr:MxR g role X h h' v):∃W n,MxP g role X W n/\WOut h h' W n v:=by
 cases hr with
 | far hn E=>exact⟨_,_,.far hn,.zero E _⟩
 | hit hl hn hF hG h0 hf hm hk hr hf0 he ho hs=>exact⟨_,_,.hit hl hn hF hG h0 hf hm hf0,_,hk,hr,he,ho,rfl,_,hs⟩
theorem clo120 (b:Nat) (g:Gl) (role:Int) (X:An) (all:Sl) (mb:Nat) (A:List Pr) (l:List (Pr × Sl)) (CB:Nat) (c0 c1 c2:Addr) (h:Heap) (h0:hc h c0=some (Value.pointer (some ⟨b,0,none⟩))) (h1:hc h c1=some (Value.slice all.a all.n all.c)) (h2:hc h c2=some (Value.map (some mb))) (hA:AnF h b g role X) (hx:Gm h) (hV:ValidS g) (hM:PrM h g role all mb A l) (hC:CkB X 1 A CB) (hAr:ArOk g X) :
  Fn Pz 95 #[.pointer (some c0),.pointer (some c1),.pointer (some c2)] h fun v h'=>∃W n,BpP g role 1 X W n/\WOut h h' W n v:=by
 apply vc95 c0 c1 c2;unfold W95;refine (St.refl h).newb fun h3 hs=>?_;refine⟨some ⟨b,0,none⟩,hc_ext hs.ext h0,all,hc_ext hs.ext h1,some mb,hc_ext hs.ext h2,?_⟩;refine (byPairs121 b g role X 1 all mb A l CB h3 (hA.ext hs.ext) (hx.ext hs.ext) hV (hM.ext hs.ext) hC hAr).mono ?_;intro v h21 hr;obtain⟨W,n,hP,w,e1,e2,e3,e4,rfl,L,hs2⟩:=hr.out;refine⟨w.k,w.r,w.f,w.s,w.e.r,w.e.s,w.e.p,w.e.l,nilS,w.o.r,w.o.s,w.o.p,w.o.l,nilS,n,rfl,?_⟩;replace hs:=hs.join hs2;refine hs.put 0 rfl (o:=0) (vs:=w.cs) rfl (Yyt 14) fun h22 hs=>?_;refine rdW (w:=w) (Q:=fun cs=>∃W n',BpP g role 1 X W n'/\WOut h h22 W n' (.tuple ⟨[.agg ⟨cs⟩,.int .i64 n]⟩)) (hs.at 0 rfl (o:=0) (n:=14) rfl) ?_;exact⟨W,n,hP,w,e1,e2,e3,e4,rfl,L,hs.drop 1⟩
theorem clo123 (b:Nat) (g:Gl) (role:Int) (X:An) (all:Sl) (mb:Nat) (A:List Pr) (l:List (Pr × Sl)) (CB:Nat) (c0 c1 c2:Addr) (h:Heap) (h0:hc h c0=some (Value.pointer (some ⟨b,0,none⟩))) (h1:hc h c1=some (Value.slice all.a all.n all.c)) (h2:hc h c2=some (Value.map (some mb))) (hA:AnF h b g role X) (hx:Gm h) (hV:ValidS g) (hM:PrM h g role all mb A l) (hC:CkB X 3 A CB) (hAr:ArOk g X) :
  Fn Pz 98 #[.pointer (some c0),.pointer (some c1),.pointer (some c2)] h fun v h'=>∃W n,BpP g role 3 X W n/\WOut h h' W n v:=by
 apply vc98 c0 c1 c2;unfold W98;refine (St.refl h).newb fun h3 hs=>?_;refine⟨some ⟨b,0,none⟩,hc_ext hs.ext h0,all,hc_ext hs.ext h1,some mb,hc_ext hs.ext h2,?_⟩;refine (byPairs121 b g role X 3 all mb A l CB h3 (hA.ext hs.ext) (hx.ext hs.ext) hV (hM.ext hs.ext) hC hAr).mono ?_;intro v h21 hr;obtain⟨W,n,hP,w,e1,e2,e3,e4,rfl,L,hs2⟩:=hr.out;refine⟨w.k,w.r,w.f,w.s,w.e.r,w.e.s,w.e.p,w.e.l,nilS,w.o.r,w.o.s,w.o.p,w.o.l,nilS,n,rfl,?_⟩;replace hs:=hs.join hs2;refine hs.put 0 rfl (o:=0) (vs:=w.cs) rfl (Yyt 14) fun h22 hs=>?_;refine rdW (w:=w) (Q:=fun cs=>∃W n',BpP g role 3 X W n'/\WOut h h22 W n' (.tuple ⟨[.agg ⟨cs⟩,.int .i64 n]⟩)) (hs.at 0 rfl (o:=0) (n:=14) rfl) ?_;exact⟨W,n,hP,w,e1,e2,e3,e4,rfl,L,hs.drop 1⟩
theorem clo124 (b:Nat) (g:Gl) (role:Int) (X:An) (all:Sl) (mb:Nat) (A:List Pr) (l:List (Pr × Sl)) (CB:Nat) (c0 c1 c2:Addr) (h:Heap) (h0:hc h c0=some (Value.pointer (some ⟨b,0,none⟩))) (h1:hc h c1=some (Value.slice all.a all.n all.c)) (h2:hc h c2=some (Value.map (some mb))) (hA:AnF h b g role X) (hx:Gm h) (hV:ValidS g) (hM:PrM h g role all mb A l) (hC:CkB X 4 A CB) (hAr:ArOk g X) :
  Fn Pz 99 #[.pointer (some c0),.pointer (some c1),.pointer (some c2)] h fun v h'=>∃W n,BpP g role 4 X W n/\WOut h h' W n v:=by
 apply vc99 c0 c1 c2;unfold W99;refine (St.refl h).newb fun h3 hs=>?_;refine⟨some ⟨b,0,none⟩,hc_ext hs.ext h0,all,hc_ext hs.ext h1,some mb,hc_ext hs.ext h2,?_⟩;refine (byPairs121 b g role X 4 all mb A l CB h3 (hA.ext hs.ext) (hx.ext hs.ext) hV (hM.ext hs.ext) hC hAr).mono ?_;intro v h21 hr;obtain⟨W,n,hP,w,e1,e2,e3,e4,rfl,L,hs2⟩:=hr.out;refine⟨w.k,w.r,w.f,w.s,w.e.r,w.e.s,w.e.p,w.e.l,nilS,w.o.r,w.o.s,w.o.p,w.o.l,nilS,n,rfl,?_⟩;replace hs:=hs.join hs2;refine hs.put 0 rfl (o:=0) (vs:=w.cs) rfl (Yyt 14) fun h22 hs=>?_;refine rdW (w:=w) (Q:=fun cs=>∃W n',BpP g role 4 X W n'/\WOut h h22 W n' (.tuple ⟨[.agg ⟨cs⟩,.int .i64 n]⟩)) (hs.at 0 rfl (o:=0) (n:=14) rfl) ?_;exact⟨W,n,hP,w,e1,e2,e3,e4,rfl,L,hs.drop 1⟩
end Go.VC
end
